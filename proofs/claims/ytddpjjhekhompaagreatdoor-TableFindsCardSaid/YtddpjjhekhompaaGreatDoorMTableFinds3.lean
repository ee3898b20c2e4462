/- Part 3 of what the law TableFinds leans on: contracts of the functions that it reaches, and plain lemmas; printed walks and words (by the kit's print, through wip/mp.py) and the session's own texts, one behind the other, what is not used left out (wip/prune.py). -/
import Derived.Lib.AppendIntMem
import Derived.Lib.AtoiErrMem
import Derived.StillTailTactics
import Derived.Maps.Own
import Derived.ChangeMaps4
import Derived.Test.YtddpjjhekhompaaGreatDoorMTableFinds1
import Derived.Test.YtddpjjhekhompaaGreatDoorMTableFinds2
namespace Go.Proofs.YtddpjjhekhompaaGreatDoor.P
open Go.RowKit Go.Proofs.YtddpjjhekhompaaGreatDoorW.PrintWords Go.Proofs.YtddpjjhekhompaaGreatDoorW.PrintLast Go.Proofs.YtddpjjhekhompaaGreatDoorW.PrintMore
attribute [local go_sem] max2_int max_two
set_option linter.unusedVariables false
set_option linter.unusedSimpArgs false
def token_reader_str.l0:Nat→List Int→ByteArray→Int→Option (Int × ByteArray × Int × Int × Bool × ByteArray × Int)
 | 0,_,_,_=>none
 | k + 1,x4,x1000,x1001=>if x1001 < (x1000.size:Int) then (if 0≤x1001 then (if (bt x1000 x1001)=34 then (some (2,strOfNums x4,0,0,true,x1000,wrap64 (x1001 + 1))) else (if (bt x1000 x1001)=92 then ((token_reader_mark.f k x1000 (wrap64 (x1001 + 1))).bind fun bt116=>(if bt116.2.1=true then (if x4.length < 140737488355328 then (token_reader_str.l0 k (x4++[bt116.1]) bt116.2.2.1 bt116.2.2.2) else (none)) else (some (0,(⟨#[]⟩:ByteArray),0,0,false,bt116.2.2.1,bt116.2.2.2)))) else (if (bt x1000 x1001) < 32 then (some (0,(⟨#[]⟩:ByteArray),0,0,false,x1000,wrap64 (x1001 + 1))) else (if (bt x1000 x1001)=127 then (some (0,(⟨#[]⟩:ByteArray),0,0,false,x1000,wrap64 (x1001 + 1))) else (if x4.length < 140737488355328 then (token_reader_str.l0 k (x4++[bt x1000 x1001]) x1000 (wrap64 (x1001 + 1))) else (none)))))) else (none)) else (some (0,(⟨#[]⟩:ByteArray),0,0,false,x1000,x1001))
def token_reader_str.f (k:Nat) (s0_0:ByteArray) (s0_1:Int):Option (Int × ByteArray × Int × Int × Bool × ByteArray × Int):=token_reader_str.l0 k ([]:List Int) s0_0 (wrap64 (s0_1 + 1))
set_option maxHeartbeats 8000000 in
set_option maxRecDepth 100000 in
theorem token_reader_str.calls (k:Nat) (g:Nat) (s0_0:ByteArray) (s0_1:Int) (r1:Int) (r2:ByteArray) (r3:Int) (r4:Int) (r5:Bool) (r6:ByteArray) (r7:Int) (w0 w:World) (hI:IsS145 w0 w g s0_0 s0_1) (hB:Below w0.heap.size w0 w) (h:token_reader_str.f k s0_0 s0_1=some (r1,r2,r3,r4,r5,r6,r7)) :
  Calls Tryz.prog 84 #[.pointer (some ⟨g,0,none⟩)] w fun e w'=>e = .returned (.tuple #[.agg #[.int .i64 r1,.string r2,.int .i64 r3,.int .i64 r4],.bool r5])∧IsS145 w0 w' g r6 r7∧Below w0.heap.size w0 w'∧KeepBut w w' g none:=by
 have hu149:=Tryz.underlying149
 have HI0:=Y0 hI
 have HK:=Y0 (KeepBut.refl w g none)
 have HL:=Y0 hB.size
 clear hI
 have HW0:=Y0 hB.size
 have HB:=Y0 hB
 clear hB
 have H:(token_reader_str.l0 k ([]:List Int) s0_0 (wrap64 (s0_1 + 1)))=some (r1,r2,r3,r4,r5,r6,r7):=h
 clear h
 have H':=Y0 H
 clear H
 go_enter Tryz.func84,Tryz.ntmps84
 go_wp2_with (first|((with_reducible refine gate_dst (N:=2) rfl ?_);refine box_event ?hg (N:=2) ?hd (cs:=#[.int .i64 0,.string (⟨#[]⟩:ByteArray),.int .i64 0,.int .i64 0]) (t:=149) ?hr ?_;(case hd=>rfl);(case hg=>rfl);(case hr=>first|(go_simp;done)|(go_simp;rfl));intro gb115 hg w2 hbox hb;have n0_:=Y0 (IsS145.below (by repeat (with_reducible first|exact HI0.out|apply IsS145.alloc|apply IsS145.drewN|apply IsS145.drew|apply IsS145.set_0|apply IsS145.set_1)) hb);have n1_:=Y0 (KeepBut.trans (by repeat (with_reducible first|exact HK.out|apply KeepBut.set_|apply keep_drewN|apply keep_drew|apply keep_alloc)) (KeepBut.of_below hb g none) (.inl rfl));have n2_:=Y0 (below_step (by repeat (with_reducible first|exact HB.out|apply Y3|apply Y1|apply Y2|refine Y4 ?_ (IsS145.ge HI0.out))) hb);have n3_:=Y0 (hbox);have n4_:=Y0 ((by rw [hg];exact (keep_size (w:=w) (g:=g) (row:=none) (by repeat (with_reducible first|exact HK.out|apply KeepBut.set_|apply keep_drewN|apply keep_drew|apply keep_alloc))):w.heap.size≤gb115));have n5_:=Y0 ((Nat.le_trans HW0.out (by rw [hg];exact (keep_size (w:=w) (g:=g) (row:=none) (by repeat (with_reducible first|exact HK.out|apply KeepBut.set_|apply keep_drewN|apply keep_drew|apply keep_alloc))):w.heap.size≤gb115):w0.heap.size≤gb115));have n6_:=Y0 ((by rw [hg];exact Nat.ne_of_lt (IsS145.lt (show IsS145 w0 _ g s0_0 s0_1 from by repeat (with_reducible first|exact HI0.out|apply IsS145.alloc|apply IsS145.drewN|apply IsS145.drew|apply IsS145.set_0|apply IsS145.set_1))):g≠gb115));have n7_:=Y0 ((by rw [hg];exact Nat.ne_of_gt (IsS145.lt (show IsS145 w0 _ g s0_0 s0_1 from by repeat (with_reducible first|exact HI0.out|apply IsS145.alloc|apply IsS145.drewN|apply IsS145.drew|apply IsS145.set_0|apply IsS145.set_1))):gb115≠g));clear HI0;clear HK;clear HB;have HI0:=n0_;have HK:=n1_;have HB:=n2_;have BK115:=n3_;have GW115:=n4_;have GE115:=n5_;have NB0_115:=n6_;have NB115_0:=n7_;clear n0_ n1_ n2_ n3_ n4_ n5_ n6_ n7_;clear hb hbox hg;obtain ⟨HGz3,hgz3⟩:=HI0.out;have hcz3_0:=cellS145_0 HGz3;have hcz3_1:=cellS145_1 HGz3;have hfz3_0:=blk_frozen HGz3 0;have hfz3_1:=blk_frozen HGz3 1;clear HGz3 hgz3))
 repeat (go_quiet (first|((with_reducible refine gate_dst (N:=2) rfl ?_);refine box_event ?hg (N:=2) ?hd (cs:=#[.int .i64 0,.string (⟨#[]⟩:ByteArray),.int .i64 0,.int .i64 0]) (t:=149) ?hr ?_;(case hd=>rfl);(case hg=>rfl);(case hr=>first|(go_simp;done)|(go_simp;rfl));intro gb115 hg w2 hbox hb;have n0_:=Y0 (IsS145.below (by repeat (with_reducible first|exact HI0.out|apply IsS145.alloc|apply IsS145.drewN|apply IsS145.drew|apply IsS145.set_0|apply IsS145.set_1)) hb);have n1_:=Y0 (KeepBut.trans (by repeat (with_reducible first|exact HK.out|apply KeepBut.set_|apply keep_drewN|apply keep_drew|apply keep_alloc)) (KeepBut.of_below hb g none) (.inl rfl));have n2_:=Y0 (below_step (by repeat (with_reducible first|exact HB.out|apply Y3|apply Y1|apply Y2|refine Y4 ?_ (IsS145.ge HI0.out))) hb);have n3_:=Y0 (hbox);have n4_:=Y0 ((by rw [hg];exact (keep_size (w:=w) (g:=g) (row:=none) (by repeat (with_reducible first|exact HK.out|apply KeepBut.set_|apply keep_drewN|apply keep_drew|apply keep_alloc))):w.heap.size≤gb115));have n5_:=Y0 ((Nat.le_trans HW0.out (by rw [hg];exact (keep_size (w:=w) (g:=g) (row:=none) (by repeat (with_reducible first|exact HK.out|apply KeepBut.set_|apply keep_drewN|apply keep_drew|apply keep_alloc))):w.heap.size≤gb115):w0.heap.size≤gb115));have n6_:=Y0 ((by rw [hg];exact Nat.ne_of_lt (IsS145.lt (show IsS145 w0 _ g s0_0 s0_1 from by repeat (with_reducible first|exact HI0.out|apply IsS145.alloc|apply IsS145.drewN|apply IsS145.drew|apply IsS145.set_0|apply IsS145.set_1))):g≠gb115));have n7_:=Y0 ((by rw [hg];exact Nat.ne_of_gt (IsS145.lt (show IsS145 w0 _ g s0_0 s0_1 from by repeat (with_reducible first|exact HI0.out|apply IsS145.alloc|apply IsS145.drewN|apply IsS145.drew|apply IsS145.set_0|apply IsS145.set_1))):gb115≠g));clear HI0;clear HK;clear HB;have HI0:=n0_;have HK:=n1_;have HB:=n2_;have BK115:=n3_;have GW115:=n4_;have GE115:=n5_;have NB0_115:=n6_;have NB115_0:=n7_;clear n0_ n1_ n2_ n3_ n4_ n5_ n6_ n7_;clear hb hbox hg;obtain ⟨HGz3,hgz3⟩:=HI0.out;have hcz3_0:=cellS145_0 HGz3;have hcz3_1:=cellS145_1 HGz3;have hfz3_0:=blk_frozen HGz3 0;have hfz3_1:=blk_frozen HGz3 1;clear HGz3 hgz3));try go_wp2_with (first|((with_reducible refine gate_dst (N:=2) rfl ?_);refine box_event ?hg (N:=2) ?hd (cs:=#[.int .i64 0,.string (⟨#[]⟩:ByteArray),.int .i64 0,.int .i64 0]) (t:=149) ?hr ?_;(case hd=>rfl);(case hg=>rfl);(case hr=>first|(go_simp;done)|(go_simp;rfl));intro gb115 hg w2 hbox hb;have n0_:=Y0 (IsS145.below (by repeat (with_reducible first|exact HI0.out|apply IsS145.alloc|apply IsS145.drewN|apply IsS145.drew|apply IsS145.set_0|apply IsS145.set_1)) hb);have n1_:=Y0 (KeepBut.trans (by repeat (with_reducible first|exact HK.out|apply KeepBut.set_|apply keep_drewN|apply keep_drew|apply keep_alloc)) (KeepBut.of_below hb g none) (.inl rfl));have n2_:=Y0 (below_step (by repeat (with_reducible first|exact HB.out|apply Y3|apply Y1|apply Y2|refine Y4 ?_ (IsS145.ge HI0.out))) hb);have n3_:=Y0 (hbox);have n4_:=Y0 ((by rw [hg];exact (keep_size (w:=w) (g:=g) (row:=none) (by repeat (with_reducible first|exact HK.out|apply KeepBut.set_|apply keep_drewN|apply keep_drew|apply keep_alloc))):w.heap.size≤gb115));have n5_:=Y0 ((Nat.le_trans HW0.out (by rw [hg];exact (keep_size (w:=w) (g:=g) (row:=none) (by repeat (with_reducible first|exact HK.out|apply KeepBut.set_|apply keep_drewN|apply keep_drew|apply keep_alloc))):w.heap.size≤gb115):w0.heap.size≤gb115));have n6_:=Y0 ((by rw [hg];exact Nat.ne_of_lt (IsS145.lt (show IsS145 w0 _ g s0_0 s0_1 from by repeat (with_reducible first|exact HI0.out|apply IsS145.alloc|apply IsS145.drewN|apply IsS145.drew|apply IsS145.set_0|apply IsS145.set_1))):g≠gb115));have n7_:=Y0 ((by rw [hg];exact Nat.ne_of_gt (IsS145.lt (show IsS145 w0 _ g s0_0 s0_1 from by repeat (with_reducible first|exact HI0.out|apply IsS145.alloc|apply IsS145.drewN|apply IsS145.drew|apply IsS145.set_0|apply IsS145.set_1))):gb115≠g));clear HI0;clear HK;clear HB;have HI0:=n0_;have HK:=n1_;have HB:=n2_;have BK115:=n3_;have GW115:=n4_;have GE115:=n5_;have NB0_115:=n6_;have NB115_0:=n7_;clear n0_ n1_ n2_ n3_ n4_ n5_ n6_ n7_;clear hb hbox hg;obtain ⟨HGz3,hgz3⟩:=HI0.out;have hcz3_0:=cellS145_0 HGz3;have hcz3_1:=cellS145_1 HGz3;have hfz3_0:=blk_frozen HGz3 0;have hfz3_1:=blk_frozen HGz3 1;clear HGz3 hgz3)))
 go_loopg [4] k (fun kq v4 w'=>∃ (x4_1:List Int) (x1000_1:ByteArray) (x1001_1:Int) (x116000_1:Int) (x116001_1:ByteArray) (x116002_1:Int) (x116003_1:Int),Aside0 (token_reader_str.l0 kq x4_1 x1000_1 x1001_1=some (r1,r2,r3,r4,r5,r6,r7))∧Aside0 (kq≤k)∧Aside0 (Kd.R (Kd.int .u8) 5 w' w.heap.size (fun _=>True) v4 x4_1)∧Aside0 (w'.heap[gb115]?=some (.cells #[.int .i64 x116000_1,.string x116001_1,.int .i64 x116002_1,.int .i64 x116003_1] 149 (0,0)))∧Aside0 (IsS145 w0 w' g x1000_1 x1001_1)∧Aside0 (KeepBut w w' g none)∧Aside0 (Below w0.heap.size w0 w'))
 case atStart=>exact ⟨(([]:List Int)),(s0_0),(wrap64 (s0_1 + 1)),(0),((⟨#[]⟩:ByteArray)),(0),(0),H',⟨Nat.le_refl _⟩,⟨by first|exact Kd.R_nil _ _ _ _ _|exact Kd.N_nil _ _ _ _ _|exact Kd.V_nil _ _ _ _ _|exact Kd.Q_nil _ _ _ _ _|exact Kd.S_nil _ _ _ _ _⟩,⟨by (with_reducible repeat first|apply Y11|apply Y13|apply Y12);refine blk_far ?_ NB115_0.out _;(with_reducible repeat first|apply Y11|apply Y13|apply Y12);exact BK115.out⟩,⟨by repeat (with_reducible first|exact HI0.out|apply IsS145.alloc|apply IsS145.drewN|apply IsS145.drew|apply IsS145.set_0|apply IsS145.set_1|refine IsS145.far ?_ NB0_115.out _)⟩,⟨by repeat (with_reducible first|exact HK.out|apply KeepBut.set_|apply keep_drewN|apply keep_drew|apply keep_alloc|refine keep_far ?_ GW115.out _)⟩,⟨by repeat (with_reducible first|exact HB.out|apply Y3|apply Y1|apply Y2|refine Y4 ?_ (IsS145.ge HI0.out)|refine Y4 ?_ GE115.out)⟩⟩
 case round =>
  clear H'
  try clear p2;try clear hcz3_0;try clear hcz3_1;try clear hfz3_0;try clear hfz3_1
  obtain ⟨x4_1,x1000_1,x1001_1,x116000_1,x116001_1,x116002_1,x116003_1,HA,HK1,HO_4,BK115,HI0,HK,HB⟩:=hrel
  cases gk with
  | zero=>exact absurd HA.out (by simp [token_reader_str.l0])
  | succ k1 =>
   have H:=HA.out
   clear HA
   simp only [token_reader_str.l0] at H
   by_cases c4:x1001_1 < (x1000_1.size:Int)
   rotate_left
   ·rw [if_neg c4] at H
    have c4b0:decide (x1001_1 < (x1000_1.size:Int))=false:=decide_eq_false c4
    clear c4
    simp only [Option.some.injEq,Prod.mk.injEq] at H
    obtain ⟨rfl,rfl,rfl,rfl,rfl,rfl,rfl⟩:=H
    obtain ⟨HGz34,hgz34⟩:=HI0.out
    have hcz34_0:=cellS145_0 HGz34
    have hcz34_1:=cellS145_1 HGz34
    have hfz34_0:=blk_frozen HGz34 0
    have hfz34_1:=blk_frozen HGz34 1
    clear HGz34 hgz34
    have hnb35:=NB115_0.out
    have hnc35:=NB0_115.out
    have ⟨hcz36_0,hcz36_1,hcz36_2,hcz36_3,hfz36_0,hfz36_1,hfz36_2,hfz36_3⟩:=sq_box4 BK115.out
    go_wp2
    repeat (go_quiet (fail);try go_wp2)
    refine bodyPost_ret (results_ct rfl _ _ gb115 149 #[.int .i64 0,.string (⟨#[]⟩:ByteArray),.int .i64 0,.int .i64 0] (0,0) _ rfl (by (with_reducible repeat first|apply Y11|apply Y13|apply Y12);refine blk_put (cs:=#[.int .i64 0,.string (⟨#[]⟩:ByteArray),.int .i64 0,.int .i64 x116003_1]) ?_ 3 _ rfl;(with_reducible repeat first|apply Y11|apply Y13|apply Y12);refine blk_put (cs:=#[.int .i64 0,.string (⟨#[]⟩:ByteArray),.int .i64 x116002_1,.int .i64 x116003_1]) ?_ 2 _ rfl;(with_reducible repeat first|apply Y11|apply Y13|apply Y12);refine blk_put (cs:=#[.int .i64 0,.string x116001_1,.int .i64 x116002_1,.int .i64 x116003_1]) ?_ 1 _ rfl;(with_reducible repeat first|apply Y11|apply Y13|apply Y12);refine blk_put (cs:=#[.int .i64 x116000_1,.string x116001_1,.int .i64 x116002_1,.int .i64 x116003_1]) ?_ 0 _ rfl;(with_reducible repeat first|apply Y11|apply Y13|apply Y12);exact BK115.out) Tryz.underlying149 rfl (by kernel_rfl)) rfl ?_
    exact ⟨by first|rfl|(simp [] <;> rfl)|(simp [*] <;> rfl),by repeat (with_reducible first|exact HI0.out|apply IsS145.alloc|apply IsS145.drewN|apply IsS145.drew|apply IsS145.set_0|apply IsS145.set_1|refine IsS145.far ?_ NB0_115.out _),by repeat (with_reducible first|exact HB.out|apply Y3|apply Y1|apply Y2|refine Y4 ?_ (IsS145.ge HI0.out)|refine Y4 ?_ GE115.out),by repeat (with_reducible first|exact HK.out|apply KeepBut.set_|apply keep_drewN|apply keep_drew|apply keep_alloc|refine keep_far ?_ GW115.out _)⟩
   rw [if_pos c4] at H
   have c4b0:decide (x1001_1 < (x1000_1.size:Int))=true:=decide_eq_true c4
   clear c4
   by_cases c5:0≤x1001_1
   rotate_left
   ·rw [if_neg c5] at H
    exact absurd H (by simp)
   rw [if_pos c5] at H
   have c5b0:decide (0≤x1001_1)=true:=decide_eq_true c5
   clear c5
   by_cases c7:(bt x1000_1 x1001_1)=34
   ·rw [if_pos c7] at H
    have c7b0:((bt x1000_1 x1001_1) == 34)=true:=beq_iff_eq.mpr c7
    have c7b1:((bt x1000_1 x1001_1) != 34)=false:=bne_eq_false_iff_eq.mpr c7
    clear c7
    simp only [Option.some.injEq,Prod.mk.injEq] at H
    obtain ⟨rfl,rfl,rfl,rfl,rfl,rfl,rfl⟩:=H
    obtain ⟨HGz8,hgz8⟩:=HI0.out
    have hcz8_0:=cellS145_0 HGz8
    have hcz8_1:=cellS145_1 HGz8
    have hfz8_0:=blk_frozen HGz8 0
    have hfz8_1:=blk_frozen HGz8 1
    clear HGz8 hgz8
    have p6:0≤(x1001_1:Int):=of_decide_eq_true (by first|(with_reducible assumption)|assumption)
    have q6:x1001_1 < (x1000_1.size:Int):=of_decide_eq_true (by first|(with_reducible assumption)|assumption)
    have hx6:=bt_at x1000_1 x1001_1
    replace p6:=eq_true p6
    replace q6:=eq_true q6
    have hcv9:=own_string (P:=Tryz.prog) Tryz.underlying84 Tryz.underlying5 Tryz.underlying9 (Kd.own_of_R HO_4.out)
    have hcv9b:=fun m u=>own_string (P:=Tryz.prog) Tryz.underlying84 Tryz.underlying5 Tryz.underlying9 (Kd.own_of_R (Kd.R_keep (IsS145.apart HI0.out HO_4.out (by decide)) ((keep_drewN (KeepBut.refl _ g none) m).set_ 1 u) (fun _ h=>h.2)))
    have hnb10:=NB115_0.out
    have hnc10:=NB0_115.out
    have ⟨hcz11_0,hcz11_1,hcz11_2,hcz11_3,hfz11_0,hfz11_1,hfz11_2,hfz11_3⟩:=sq_box4 BK115.out
    go_wp2
    repeat (go_quiet (fail);try go_wp2)
    refine bodyPost_ret (results_ct rfl _ _ gb115 149 #[.int .i64 2,.string (strOfNums x4_1),.int .i64 0,.int .i64 0] (0,0) _ rfl (by (with_reducible repeat first|apply Y11|apply Y13|apply Y12);refine blk_put (cs:=#[.int .i64 2,.string (strOfNums x4_1),.int .i64 0,.int .i64 x116003_1]) ?_ 3 _ rfl;(with_reducible repeat first|apply Y11|apply Y13|apply Y12);refine blk_put (cs:=#[.int .i64 2,.string (strOfNums x4_1),.int .i64 x116002_1,.int .i64 x116003_1]) ?_ 2 _ rfl;(with_reducible repeat first|apply Y11|apply Y13|apply Y12);refine blk_put (cs:=#[.int .i64 2,.string x116001_1,.int .i64 x116002_1,.int .i64 x116003_1]) ?_ 1 _ rfl;(with_reducible repeat first|apply Y11|apply Y13|apply Y12);refine blk_put (cs:=#[.int .i64 x116000_1,.string x116001_1,.int .i64 x116002_1,.int .i64 x116003_1]) ?_ 0 _ rfl;(with_reducible repeat first|apply Y11|apply Y13|apply Y12);refine blk_far ?_ NB115_0.out _;(with_reducible repeat first|apply Y11|apply Y13|apply Y12);exact BK115.out) Tryz.underlying149 rfl (by kernel_rfl)) rfl ?_
    exact ⟨by first|rfl|(simp [] <;> rfl)|(simp [*] <;> rfl),by repeat (with_reducible first|exact HI0.out|apply IsS145.alloc|apply IsS145.drewN|apply IsS145.drew|apply IsS145.set_0|apply IsS145.set_1|refine IsS145.far ?_ NB0_115.out _),by repeat (with_reducible first|exact HB.out|apply Y3|apply Y1|apply Y2|refine Y4 ?_ (IsS145.ge HI0.out)|refine Y4 ?_ GE115.out),by repeat (with_reducible first|exact HK.out|apply KeepBut.set_|apply keep_drewN|apply keep_drew|apply keep_alloc|refine keep_far ?_ GW115.out _)⟩
   rw [if_neg c7] at H
   have c7b0:((bt x1000_1 x1001_1) == 34)=false:=beq_eq_false_iff_ne.mpr c7
   have c7b1:((bt x1000_1 x1001_1) != 34)=true:=bne_iff_ne.mpr c7
   by_cases c12:(bt x1000_1 x1001_1)=92
   rotate_left
   ·rw [if_neg c12] at H
    have c12b0:((bt x1000_1 x1001_1) == 92)=false:=beq_eq_false_iff_ne.mpr c12
    have c12b1:((bt x1000_1 x1001_1) != 92)=true:=bne_iff_ne.mpr c12
    by_cases c23:(bt x1000_1 x1001_1) < 32
    ·rw [if_pos c23] at H
     have c23b0:decide ((bt x1000_1 x1001_1) < 32)=true:=decide_eq_true c23
     clear c23
     simp only [Option.some.injEq,Prod.mk.injEq] at H
     obtain ⟨rfl,rfl,rfl,rfl,rfl,rfl,rfl⟩:=H
     obtain ⟨HGz24,hgz24⟩:=HI0.out
     have hcz24_0:=cellS145_0 HGz24
     have hcz24_1:=cellS145_1 HGz24
     have hfz24_0:=blk_frozen HGz24 0
     have hfz24_1:=blk_frozen HGz24 1
     clear HGz24 hgz24
     have p6:0≤(x1001_1:Int):=of_decide_eq_true (by first|(with_reducible assumption)|assumption)
     have q6:x1001_1 < (x1000_1.size:Int):=of_decide_eq_true (by first|(with_reducible assumption)|assumption)
     have hx6:=bt_at x1000_1 x1001_1
     replace p6:=eq_true p6
     replace q6:=eq_true q6
     have hnb25:=NB115_0.out
     have hnc25:=NB0_115.out
     have ⟨hcz26_0,hcz26_1,hcz26_2,hcz26_3,hfz26_0,hfz26_1,hfz26_2,hfz26_3⟩:=sq_box4 BK115.out
     go_wp2
     repeat (go_quiet (fail);try go_wp2)
     refine bodyPost_ret (results_ct rfl _ _ gb115 149 #[.int .i64 0,.string (⟨#[]⟩:ByteArray),.int .i64 0,.int .i64 0] (0,0) _ rfl (by (with_reducible repeat first|apply Y11|apply Y13|apply Y12);refine blk_put (cs:=#[.int .i64 0,.string (⟨#[]⟩:ByteArray),.int .i64 0,.int .i64 x116003_1]) ?_ 3 _ rfl;(with_reducible repeat first|apply Y11|apply Y13|apply Y12);refine blk_put (cs:=#[.int .i64 0,.string (⟨#[]⟩:ByteArray),.int .i64 x116002_1,.int .i64 x116003_1]) ?_ 2 _ rfl;(with_reducible repeat first|apply Y11|apply Y13|apply Y12);refine blk_put (cs:=#[.int .i64 0,.string x116001_1,.int .i64 x116002_1,.int .i64 x116003_1]) ?_ 1 _ rfl;(with_reducible repeat first|apply Y11|apply Y13|apply Y12);refine blk_put (cs:=#[.int .i64 x116000_1,.string x116001_1,.int .i64 x116002_1,.int .i64 x116003_1]) ?_ 0 _ rfl;(with_reducible repeat first|apply Y11|apply Y13|apply Y12);refine blk_far ?_ NB115_0.out _;(with_reducible repeat first|apply Y11|apply Y13|apply Y12);exact BK115.out) Tryz.underlying149 rfl (by kernel_rfl)) rfl ?_
     exact ⟨by first|rfl|(simp [] <;> rfl)|(simp [*] <;> rfl),by repeat (with_reducible first|exact HI0.out|apply IsS145.alloc|apply IsS145.drewN|apply IsS145.drew|apply IsS145.set_0|apply IsS145.set_1|refine IsS145.far ?_ NB0_115.out _),by repeat (with_reducible first|exact HB.out|apply Y3|apply Y1|apply Y2|refine Y4 ?_ (IsS145.ge HI0.out)|refine Y4 ?_ GE115.out),by repeat (with_reducible first|exact HK.out|apply KeepBut.set_|apply keep_drewN|apply keep_drew|apply keep_alloc|refine keep_far ?_ GW115.out _)⟩
    rw [if_neg c23] at H
    have c23b0:decide ((bt x1000_1 x1001_1) < 32)=false:=decide_eq_false c23
    clear c23
    by_cases c27:(bt x1000_1 x1001_1)=127
    ·rw [if_pos c27] at H
     have c27b0:((bt x1000_1 x1001_1) == 127)=true:=beq_iff_eq.mpr c27
     have c27b1:((bt x1000_1 x1001_1) != 127)=false:=bne_eq_false_iff_eq.mpr c27
     clear c27
     simp only [Option.some.injEq,Prod.mk.injEq] at H
     obtain ⟨rfl,rfl,rfl,rfl,rfl,rfl,rfl⟩:=H
     obtain ⟨HGz28,hgz28⟩:=HI0.out
     have hcz28_0:=cellS145_0 HGz28
     have hcz28_1:=cellS145_1 HGz28
     have hfz28_0:=blk_frozen HGz28 0
     have hfz28_1:=blk_frozen HGz28 1
     clear HGz28 hgz28
     have p6:0≤(x1001_1:Int):=of_decide_eq_true (by first|(with_reducible assumption)|assumption)
     have q6:x1001_1 < (x1000_1.size:Int):=of_decide_eq_true (by first|(with_reducible assumption)|assumption)
     have hx6:=bt_at x1000_1 x1001_1
     replace p6:=eq_true p6
     replace q6:=eq_true q6
     have hnb29:=NB115_0.out
     have hnc29:=NB0_115.out
     have ⟨hcz30_0,hcz30_1,hcz30_2,hcz30_3,hfz30_0,hfz30_1,hfz30_2,hfz30_3⟩:=sq_box4 BK115.out
     go_wp2
     repeat (go_quiet (fail);try go_wp2)
     refine bodyPost_ret (results_ct rfl _ _ gb115 149 #[.int .i64 0,.string (⟨#[]⟩:ByteArray),.int .i64 0,.int .i64 0] (0,0) _ rfl (by (with_reducible repeat first|apply Y11|apply Y13|apply Y12);refine blk_put (cs:=#[.int .i64 0,.string (⟨#[]⟩:ByteArray),.int .i64 0,.int .i64 x116003_1]) ?_ 3 _ rfl;(with_reducible repeat first|apply Y11|apply Y13|apply Y12);refine blk_put (cs:=#[.int .i64 0,.string (⟨#[]⟩:ByteArray),.int .i64 x116002_1,.int .i64 x116003_1]) ?_ 2 _ rfl;(with_reducible repeat first|apply Y11|apply Y13|apply Y12);refine blk_put (cs:=#[.int .i64 0,.string x116001_1,.int .i64 x116002_1,.int .i64 x116003_1]) ?_ 1 _ rfl;(with_reducible repeat first|apply Y11|apply Y13|apply Y12);refine blk_put (cs:=#[.int .i64 x116000_1,.string x116001_1,.int .i64 x116002_1,.int .i64 x116003_1]) ?_ 0 _ rfl;(with_reducible repeat first|apply Y11|apply Y13|apply Y12);refine blk_far ?_ NB115_0.out _;(with_reducible repeat first|apply Y11|apply Y13|apply Y12);exact BK115.out) Tryz.underlying149 rfl (by kernel_rfl)) rfl ?_
     exact ⟨by first|rfl|(simp [] <;> rfl)|(simp [*] <;> rfl),by repeat (with_reducible first|exact HI0.out|apply IsS145.alloc|apply IsS145.drewN|apply IsS145.drew|apply IsS145.set_0|apply IsS145.set_1|refine IsS145.far ?_ NB0_115.out _),by repeat (with_reducible first|exact HB.out|apply Y3|apply Y1|apply Y2|refine Y4 ?_ (IsS145.ge HI0.out)|refine Y4 ?_ GE115.out),by repeat (with_reducible first|exact HK.out|apply KeepBut.set_|apply keep_drewN|apply keep_drew|apply keep_alloc|refine keep_far ?_ GW115.out _)⟩
    rw [if_neg c27] at H
    have c27b0:((bt x1000_1 x1001_1) == 127)=false:=beq_eq_false_iff_ne.mpr c27
    have c27b1:((bt x1000_1 x1001_1) != 127)=true:=bne_iff_ne.mpr c27
    by_cases c31:x4_1.length < 140737488355328
    rotate_left
    ·rw [if_neg c31] at H
     exact absurd H (by simp)
    rw [if_pos c31] at H
    have LMc31:=Y0 c31
    clear c31
    obtain ⟨y123,hy123⟩:∃ y_:List Int,y_=(x4_1++[bt x1000_1 x1001_1]):=⟨_,rfl⟩
    replace H:(token_reader_str.l0 k1 y123 x1000_1 (wrap64 (x1001_1 + 1)))=some (r1,r2,r3,r4,r5,r6,r7):=by first|(rw [hy123];with_reducible exact H)|(have H2_:=(Option.bind_some _ _).symm.trans H;rw [hy123];with_reducible exact H2_)|(have H2_:=(Option.bind_some _ _).symm.trans H;with_reducible exact H2_)|with_reducible exact H|(rw [hy123];exact H)|exact H
    have Ny123:=Y0 hy123
    clear hy123
    have H':=Y0 H
    clear H
    obtain ⟨HGz32,hgz32⟩:=HI0.out
    have hcz32_0:=cellS145_0 HGz32
    have hcz32_1:=cellS145_1 HGz32
    have hfz32_0:=blk_frozen HGz32 0
    have hfz32_1:=blk_frozen HGz32 1
    clear HGz32 hgz32
    have p6:0≤(x1001_1:Int):=of_decide_eq_true (by first|(with_reducible assumption)|assumption)
    have q6:x1001_1 < (x1000_1.size:Int):=of_decide_eq_true (by first|(with_reducible assumption)|assumption)
    have hx6:=bt_at x1000_1 x1001_1
    replace p6:=eq_true p6
    replace q6:=eq_true q6
    go_wp2_with (first|((with_reducible refine gate_builtin (b:=.append) (xs:=#[.tmp 41,.tmp 43]) rfl ?_);at_builtin;refine Kd.R_append (Kd.int .u8) w.heap.size rfl (.tmp 41) (.tmp 43) 84 5 (.int .u8 0) 1 rfl Tryz.underlying84 info5 rfl (by decide) (by omega) u4 x4_1 (bt x1000_1 x1001_1) [.int .u8 (bt x1000_1 x1001_1)] (fun _=>True) (fun _=>False) rfl (by first|(go_simp;done)|(go_simp;rfl)) ?aP (fun _ hk=>hk.elim) ?aF ?aO (Below.refl _ _) ?aS ?aL ?_;(case aP=>exact rfl);(case aF=>exact (fun _ _=>trivial));(case aO=>exact (by (with_reducible repeat (first|apply Y5|apply Y6|apply Y7));exact Kd.R_mono (Kd.R_far (p:=⟨g,1,none⟩) (IsS145.apart HI0.out HO_4.out (by decide)) (fun _ hk=>hk.2) (.int .i64 (wrap64 (x1001_1 + 1)))) (fun _ hk=>trivial)));(case aS=>exact (keep_size (w:=w) (g:=g) (row:=none) (by repeat (with_reducible first|exact HK.out|apply KeepBut.set_|apply keep_drewN|apply keep_drew|apply keep_alloc|refine keep_far ?_ GW115.out _))));(case aL=>have:=LMc31.out;omega);intro v124 w33 ho hb hg hat;rw [← Ny123.out] at ho;have n0_:=Y0 (blk_grown (g:=gb115) (o:=.cells #[.int .i64 x116000_1,.string x116001_1,.int .i64 x116002_1,.int .i64 x116003_1] 149 (0,0)) (by (with_reducible repeat first|apply Y11|apply Y13|apply Y12);refine blk_far ?_ NB115_0.out _;(with_reducible repeat first|apply Y11|apply Y13|apply Y12);exact BK115.out) hg (Kd.R_ne HO_4.out BK115.out (by decide)));have n1_:=Y0 (IsS145.grown (by repeat (with_reducible first|exact HI0.out|apply IsS145.alloc|apply IsS145.drewN|apply IsS145.drew|apply IsS145.set_0|apply IsS145.set_1|refine IsS145.far ?_ NB0_115.out _)) hg (IsS145.own_ne HI0.out HO_4.out (by decide)));have n2_:=Y0 (below_weaken (by repeat (with_reducible first|exact HB.out|apply Y3|apply Y1|apply Y2|refine Y4 ?_ (IsS145.ge HI0.out)|refine Y4 ?_ GE115.out)) HL.out hb);have n3_:=Y0 (KeepBut.trans (by repeat (with_reducible first|exact HK.out|apply KeepBut.set_|apply keep_drewN|apply keep_drew|apply keep_alloc|refine keep_far ?_ GW115.out _)) (KeepBut.of_grown hg g) (Kd.R_base2 HO_4.out));have n4_:=Y0 (ho);clear BK115;clear HI0;clear HB;clear HK;clear HO_4;have BK115:=n0_;have HI0:=n1_;have HB:=n2_;have HK:=n3_;have HO125:=n4_;clear n0_ n1_ n2_ n3_ n4_;clear ho hb hg hat))
    repeat (go_quiet (first|((with_reducible refine gate_builtin (b:=.append) (xs:=#[.tmp 41,.tmp 43]) rfl ?_);at_builtin;refine Kd.R_append (Kd.int .u8) w.heap.size rfl (.tmp 41) (.tmp 43) 84 5 (.int .u8 0) 1 rfl Tryz.underlying84 info5 rfl (by decide) (by omega) u4 x4_1 (bt x1000_1 x1001_1) [.int .u8 (bt x1000_1 x1001_1)] (fun _=>True) (fun _=>False) rfl (by first|(go_simp;done)|(go_simp;rfl)) ?aP (fun _ hk=>hk.elim) ?aF ?aO (Below.refl _ _) ?aS ?aL ?_;(case aP=>exact rfl);(case aF=>exact (fun _ _=>trivial));(case aO=>exact (by (with_reducible repeat (first|apply Y5|apply Y6|apply Y7));exact Kd.R_mono (Kd.R_far (p:=⟨g,1,none⟩) (IsS145.apart HI0.out HO_4.out (by decide)) (fun _ hk=>hk.2) (.int .i64 (wrap64 (x1001_1 + 1)))) (fun _ hk=>trivial)));(case aS=>exact (keep_size (w:=w) (g:=g) (row:=none) (by repeat (with_reducible first|exact HK.out|apply KeepBut.set_|apply keep_drewN|apply keep_drew|apply keep_alloc|refine keep_far ?_ GW115.out _))));(case aL=>have:=LMc31.out;omega);intro v124 w33 ho hb hg hat;rw [← Ny123.out] at ho;have n0_:=Y0 (blk_grown (g:=gb115) (o:=.cells #[.int .i64 x116000_1,.string x116001_1,.int .i64 x116002_1,.int .i64 x116003_1] 149 (0,0)) (by (with_reducible repeat first|apply Y11|apply Y13|apply Y12);refine blk_far ?_ NB115_0.out _;(with_reducible repeat first|apply Y11|apply Y13|apply Y12);exact BK115.out) hg (Kd.R_ne HO_4.out BK115.out (by decide)));have n1_:=Y0 (IsS145.grown (by repeat (with_reducible first|exact HI0.out|apply IsS145.alloc|apply IsS145.drewN|apply IsS145.drew|apply IsS145.set_0|apply IsS145.set_1|refine IsS145.far ?_ NB0_115.out _)) hg (IsS145.own_ne HI0.out HO_4.out (by decide)));have n2_:=Y0 (below_weaken (by repeat (with_reducible first|exact HB.out|apply Y3|apply Y1|apply Y2|refine Y4 ?_ (IsS145.ge HI0.out)|refine Y4 ?_ GE115.out)) HL.out hb);have n3_:=Y0 (KeepBut.trans (by repeat (with_reducible first|exact HK.out|apply KeepBut.set_|apply keep_drewN|apply keep_drew|apply keep_alloc|refine keep_far ?_ GW115.out _)) (KeepBut.of_grown hg g) (Kd.R_base2 HO_4.out));have n4_:=Y0 (ho);clear BK115;clear HI0;clear HB;clear HK;clear HO_4;have BK115:=n0_;have HI0:=n1_;have HB:=n2_;have HK:=n3_;have HO125:=n4_;clear n0_ n1_ n2_ n3_ n4_;clear ho hb hg hat));try go_wp2_with (first|((with_reducible refine gate_builtin (b:=.append) (xs:=#[.tmp 41,.tmp 43]) rfl ?_);at_builtin;refine Kd.R_append (Kd.int .u8) w.heap.size rfl (.tmp 41) (.tmp 43) 84 5 (.int .u8 0) 1 rfl Tryz.underlying84 info5 rfl (by decide) (by omega) u4 x4_1 (bt x1000_1 x1001_1) [.int .u8 (bt x1000_1 x1001_1)] (fun _=>True) (fun _=>False) rfl (by first|(go_simp;done)|(go_simp;rfl)) ?aP (fun _ hk=>hk.elim) ?aF ?aO (Below.refl _ _) ?aS ?aL ?_;(case aP=>exact rfl);(case aF=>exact (fun _ _=>trivial));(case aO=>exact (by (with_reducible repeat (first|apply Y5|apply Y6|apply Y7));exact Kd.R_mono (Kd.R_far (p:=⟨g,1,none⟩) (IsS145.apart HI0.out HO_4.out (by decide)) (fun _ hk=>hk.2) (.int .i64 (wrap64 (x1001_1 + 1)))) (fun _ hk=>trivial)));(case aS=>exact (keep_size (w:=w) (g:=g) (row:=none) (by repeat (with_reducible first|exact HK.out|apply KeepBut.set_|apply keep_drewN|apply keep_drew|apply keep_alloc|refine keep_far ?_ GW115.out _))));(case aL=>have:=LMc31.out;omega);intro v124 w33 ho hb hg hat;rw [← Ny123.out] at ho;have n0_:=Y0 (blk_grown (g:=gb115) (o:=.cells #[.int .i64 x116000_1,.string x116001_1,.int .i64 x116002_1,.int .i64 x116003_1] 149 (0,0)) (by (with_reducible repeat first|apply Y11|apply Y13|apply Y12);refine blk_far ?_ NB115_0.out _;(with_reducible repeat first|apply Y11|apply Y13|apply Y12);exact BK115.out) hg (Kd.R_ne HO_4.out BK115.out (by decide)));have n1_:=Y0 (IsS145.grown (by repeat (with_reducible first|exact HI0.out|apply IsS145.alloc|apply IsS145.drewN|apply IsS145.drew|apply IsS145.set_0|apply IsS145.set_1|refine IsS145.far ?_ NB0_115.out _)) hg (IsS145.own_ne HI0.out HO_4.out (by decide)));have n2_:=Y0 (below_weaken (by repeat (with_reducible first|exact HB.out|apply Y3|apply Y1|apply Y2|refine Y4 ?_ (IsS145.ge HI0.out)|refine Y4 ?_ GE115.out)) HL.out hb);have n3_:=Y0 (KeepBut.trans (by repeat (with_reducible first|exact HK.out|apply KeepBut.set_|apply keep_drewN|apply keep_drew|apply keep_alloc|refine keep_far ?_ GW115.out _)) (KeepBut.of_grown hg g) (Kd.R_base2 HO_4.out));have n4_:=Y0 (ho);clear BK115;clear HI0;clear HB;clear HK;clear HO_4;have BK115:=n0_;have HI0:=n1_;have HB:=n2_;have HK:=n3_;have HO125:=n4_;clear n0_ n1_ n2_ n3_ n4_;clear ho hb hg hat)))
    go_roundg k1
    case measure=>have:=HK1.out;omega
    case rel=>exact ⟨(y123),(x1000_1),(wrap64 (x1001_1 + 1)),(x116000_1),(x116001_1),(x116002_1),(x116003_1),H',⟨by have:=HK1.out;omega⟩,⟨by (with_reducible repeat (first|apply Y5|apply Y6|apply Y7));exact HO125.out⟩,⟨by (with_reducible repeat first|apply Y11|apply Y13|apply Y12);exact BK115.out⟩,⟨by repeat (with_reducible first|exact HI0.out|apply IsS145.alloc|apply IsS145.drewN|apply IsS145.drew|apply IsS145.set_0|apply IsS145.set_1|refine IsS145.far ?_ NB0_115.out _)⟩,⟨by repeat (with_reducible first|exact HK.out|apply KeepBut.set_|apply keep_drewN|apply keep_drew|apply keep_alloc|refine keep_far ?_ GW115.out _)⟩,⟨by repeat (with_reducible first|exact HB.out|apply Y3|apply Y1|apply Y2|refine Y4 ?_ (IsS145.ge HI0.out)|refine Y4 ?_ GE115.out)⟩⟩
   rw [if_pos c12] at H
   have c12b0:((bt x1000_1 x1001_1) == 92)=true:=beq_iff_eq.mpr c12
   have c12b1:((bt x1000_1 x1001_1) != 92)=false:=bne_eq_false_iff_eq.mpr c12
   clear c12
   replace H:=Y17.mp H
   obtain ⟨⟨t116,t117,t118,t119⟩,A130,H⟩:=H
   replace H:(if t117=true then (if x4_1.length < 140737488355328 then (token_reader_str.l0 k1 (x4_1++[t116]) t118 t119) else (none)) else (some (0,(⟨#[]⟩:ByteArray),0,0,false,t118,t119)))=some (r1,r2,r3,r4,r5,r6,r7):=H
   have A13:=Y0 A130
   clear A130
   by_cases c14:t117=true
   rotate_left
   ·replace c14:=Bool.eq_false_iff.mpr c14
    subst c14
    have H1:(some (0,(⟨#[]⟩:ByteArray),0,0,false,t118,t119))=some (r1,r2,r3,r4,r5,r6,r7):=by first|(rw [if_neg (show ¬ (false=true) by decide)] at H;exact H)|rfl
    clear H
    have H:=H1
    clear H1
    simp only [Option.some.injEq,Prod.mk.injEq] at H
    obtain ⟨rfl,rfl,rfl,rfl,rfl,rfl,rfl⟩:=H
    obtain ⟨HGz19,hgz19⟩:=HI0.out
    have hcz19_0:=cellS145_0 HGz19
    have hcz19_1:=cellS145_1 HGz19
    have hfz19_0:=blk_frozen HGz19 0
    have hfz19_1:=blk_frozen HGz19 1
    clear HGz19 hgz19
    have p6:0≤(x1001_1:Int):=of_decide_eq_true (by first|(with_reducible assumption)|assumption)
    have q6:x1001_1 < (x1000_1.size:Int):=of_decide_eq_true (by first|(with_reducible assumption)|assumption)
    have hx6:=bt_at x1000_1 x1001_1
    replace p6:=eq_true p6
    replace q6:=eq_true q6
    go_wp2_with (first|(go_at_call 123;(with_reducible refine (token_reader_mark.calls k1 g x1000_1 (wrap64 (x1001_1 + 1)) t116 false t118 t119 w0 _ ?side1 ?side2 A13.out).mono ?_);(case side1=>repeat (first|(with_reducible first|exact HI0.out|apply IsS145.alloc|apply IsS145.drewN|apply IsS145.drew|apply IsS145.set_0|apply IsS145.set_1|refine IsS145.far ?_ NB0_115.out _)|exact HI0.out));(case side2=>repeat (first|(with_reducible first|exact HB.out|apply Y3|apply Y1|apply Y2|refine Y4 ?_ (IsS145.ge HI0.out)|refine Y4 ?_ GE115.out)|exact HB.out));rintro e w20 ⟨rfl,hi,hb,hk⟩;have n0_:=Y0 (Kd.R_mono (Kd.R_keep (IsS145.apart (show IsS145 w0 _ g x1000_1 (wrap64 (x1001_1 + 1)) from by repeat (with_reducible first|exact HI0.out|apply IsS145.alloc|apply IsS145.drewN|apply IsS145.drew|apply IsS145.set_0|apply IsS145.set_1|refine IsS145.far ?_ NB0_115.out _)) (by (with_reducible repeat (first|apply Y5|apply Y6|apply Y7));exact (Kd.R_mono (Kd.R_far (p:=⟨g,1,none⟩) (IsS145.apart HI0.out HO_4.out (by decide)) (fun _ hk=>hk.2) (.int .i64 (wrap64 (x1001_1 + 1)))) (fun _ h_=>h_.1))) (by decide)) hk (fun _ h=>h.2)) (fun _ h=>h.1));have n1_:=Y0 (KeepBut.blk hk (g':=gb115) (o:=.cells #[.int .i64 x116000_1,.string x116001_1,.int .i64 x116002_1,.int .i64 x116003_1] 149 (0,0)) (by (with_reducible repeat first|apply Y11|apply Y13|apply Y12);refine blk_far ?_ NB115_0.out _;(with_reducible repeat first|apply Y11|apply Y13|apply Y12);exact BK115.out) NB115_0.out (by simp));have n2_:=Y0 (KeepBut.trans (by repeat (with_reducible first|exact HK.out|apply KeepBut.set_|apply keep_drewN|apply keep_drew|apply keep_alloc|refine keep_far ?_ GW115.out _)) hk (.inl rfl));have n3_:=Y0 (hb);have n4_:=Y0 (hi);clear HO_4;clear BK115;clear HK;clear HB;clear HI0;have HO_4:=n0_;have BK115:=n1_;have HK:=n2_;have HB:=n3_;have HI0:=n4_;clear n0_ n1_ n2_ n3_ n4_;(try clear hb);(try clear hb2);(try clear hk);(try clear hi);have hnb21:=NB115_0.out;have hnc21:=NB0_115.out;have ⟨hcz22_0,hcz22_1,hcz22_2,hcz22_3,hfz22_0,hfz22_1,hfz22_2,hfz22_3⟩:=sq_box4 BK115.out))
    repeat (go_quiet (first|(go_at_call 123;(with_reducible refine (token_reader_mark.calls k1 g x1000_1 (wrap64 (x1001_1 + 1)) t116 false t118 t119 w0 _ ?side1 ?side2 A13.out).mono ?_);(case side1=>repeat (first|(with_reducible first|exact HI0.out|apply IsS145.alloc|apply IsS145.drewN|apply IsS145.drew|apply IsS145.set_0|apply IsS145.set_1|refine IsS145.far ?_ NB0_115.out _)|exact HI0.out));(case side2=>repeat (first|(with_reducible first|exact HB.out|apply Y3|apply Y1|apply Y2|refine Y4 ?_ (IsS145.ge HI0.out)|refine Y4 ?_ GE115.out)|exact HB.out));rintro e w20 ⟨rfl,hi,hb,hk⟩;have n0_:=Y0 (Kd.R_mono (Kd.R_keep (IsS145.apart (show IsS145 w0 _ g x1000_1 (wrap64 (x1001_1 + 1)) from by repeat (with_reducible first|exact HI0.out|apply IsS145.alloc|apply IsS145.drewN|apply IsS145.drew|apply IsS145.set_0|apply IsS145.set_1|refine IsS145.far ?_ NB0_115.out _)) (by (with_reducible repeat (first|apply Y5|apply Y6|apply Y7));exact (Kd.R_mono (Kd.R_far (p:=⟨g,1,none⟩) (IsS145.apart HI0.out HO_4.out (by decide)) (fun _ hk=>hk.2) (.int .i64 (wrap64 (x1001_1 + 1)))) (fun _ h_=>h_.1))) (by decide)) hk (fun _ h=>h.2)) (fun _ h=>h.1));have n1_:=Y0 (KeepBut.blk hk (g':=gb115) (o:=.cells #[.int .i64 x116000_1,.string x116001_1,.int .i64 x116002_1,.int .i64 x116003_1] 149 (0,0)) (by (with_reducible repeat first|apply Y11|apply Y13|apply Y12);refine blk_far ?_ NB115_0.out _;(with_reducible repeat first|apply Y11|apply Y13|apply Y12);exact BK115.out) NB115_0.out (by simp));have n2_:=Y0 (KeepBut.trans (by repeat (with_reducible first|exact HK.out|apply KeepBut.set_|apply keep_drewN|apply keep_drew|apply keep_alloc|refine keep_far ?_ GW115.out _)) hk (.inl rfl));have n3_:=Y0 (hb);have n4_:=Y0 (hi);clear HO_4;clear BK115;clear HK;clear HB;clear HI0;have HO_4:=n0_;have BK115:=n1_;have HK:=n2_;have HB:=n3_;have HI0:=n4_;clear n0_ n1_ n2_ n3_ n4_;(try clear hb);(try clear hb2);(try clear hk);(try clear hi);have hnb21:=NB115_0.out;have hnc21:=NB0_115.out;have ⟨hcz22_0,hcz22_1,hcz22_2,hcz22_3,hfz22_0,hfz22_1,hfz22_2,hfz22_3⟩:=sq_box4 BK115.out));try go_wp2_with (first|(go_at_call 123;(with_reducible refine (token_reader_mark.calls k1 g x1000_1 (wrap64 (x1001_1 + 1)) t116 false t118 t119 w0 _ ?side1 ?side2 A13.out).mono ?_);(case side1=>repeat (first|(with_reducible first|exact HI0.out|apply IsS145.alloc|apply IsS145.drewN|apply IsS145.drew|apply IsS145.set_0|apply IsS145.set_1|refine IsS145.far ?_ NB0_115.out _)|exact HI0.out));(case side2=>repeat (first|(with_reducible first|exact HB.out|apply Y3|apply Y1|apply Y2|refine Y4 ?_ (IsS145.ge HI0.out)|refine Y4 ?_ GE115.out)|exact HB.out));rintro e w20 ⟨rfl,hi,hb,hk⟩;have n0_:=Y0 (Kd.R_mono (Kd.R_keep (IsS145.apart (show IsS145 w0 _ g x1000_1 (wrap64 (x1001_1 + 1)) from by repeat (with_reducible first|exact HI0.out|apply IsS145.alloc|apply IsS145.drewN|apply IsS145.drew|apply IsS145.set_0|apply IsS145.set_1|refine IsS145.far ?_ NB0_115.out _)) (by (with_reducible repeat (first|apply Y5|apply Y6|apply Y7));exact (Kd.R_mono (Kd.R_far (p:=⟨g,1,none⟩) (IsS145.apart HI0.out HO_4.out (by decide)) (fun _ hk=>hk.2) (.int .i64 (wrap64 (x1001_1 + 1)))) (fun _ h_=>h_.1))) (by decide)) hk (fun _ h=>h.2)) (fun _ h=>h.1));have n1_:=Y0 (KeepBut.blk hk (g':=gb115) (o:=.cells #[.int .i64 x116000_1,.string x116001_1,.int .i64 x116002_1,.int .i64 x116003_1] 149 (0,0)) (by (with_reducible repeat first|apply Y11|apply Y13|apply Y12);refine blk_far ?_ NB115_0.out _;(with_reducible repeat first|apply Y11|apply Y13|apply Y12);exact BK115.out) NB115_0.out (by simp));have n2_:=Y0 (KeepBut.trans (by repeat (with_reducible first|exact HK.out|apply KeepBut.set_|apply keep_drewN|apply keep_drew|apply keep_alloc|refine keep_far ?_ GW115.out _)) hk (.inl rfl));have n3_:=Y0 (hb);have n4_:=Y0 (hi);clear HO_4;clear BK115;clear HK;clear HB;clear HI0;have HO_4:=n0_;have BK115:=n1_;have HK:=n2_;have HB:=n3_;have HI0:=n4_;clear n0_ n1_ n2_ n3_ n4_;(try clear hb);(try clear hb2);(try clear hk);(try clear hi);have hnb21:=NB115_0.out;have hnc21:=NB0_115.out;have ⟨hcz22_0,hcz22_1,hcz22_2,hcz22_3,hfz22_0,hfz22_1,hfz22_2,hfz22_3⟩:=sq_box4 BK115.out)))
    refine bodyPost_ret (results_ct rfl _ _ gb115 149 #[.int .i64 0,.string (⟨#[]⟩:ByteArray),.int .i64 0,.int .i64 0] (0,0) _ rfl (by (with_reducible repeat first|apply Y11|apply Y13|apply Y12);refine blk_put (cs:=#[.int .i64 0,.string (⟨#[]⟩:ByteArray),.int .i64 0,.int .i64 x116003_1]) ?_ 3 _ rfl;(with_reducible repeat first|apply Y11|apply Y13|apply Y12);refine blk_put (cs:=#[.int .i64 0,.string (⟨#[]⟩:ByteArray),.int .i64 x116002_1,.int .i64 x116003_1]) ?_ 2 _ rfl;(with_reducible repeat first|apply Y11|apply Y13|apply Y12);refine blk_put (cs:=#[.int .i64 0,.string x116001_1,.int .i64 x116002_1,.int .i64 x116003_1]) ?_ 1 _ rfl;(with_reducible repeat first|apply Y11|apply Y13|apply Y12);refine blk_put (cs:=#[.int .i64 x116000_1,.string x116001_1,.int .i64 x116002_1,.int .i64 x116003_1]) ?_ 0 _ rfl;(with_reducible repeat first|apply Y11|apply Y13|apply Y12);exact BK115.out) Tryz.underlying149 rfl (by kernel_rfl)) rfl ?_
    exact ⟨by first|rfl|(simp [] <;> rfl)|(simp [*] <;> rfl),by repeat (with_reducible first|exact HI0.out|apply IsS145.alloc|apply IsS145.drewN|apply IsS145.drew|apply IsS145.set_0|apply IsS145.set_1|refine IsS145.far ?_ NB0_115.out _),by repeat (with_reducible first|exact HB.out|apply Y3|apply Y1|apply Y2|refine Y4 ?_ (IsS145.ge HI0.out)|refine Y4 ?_ GE115.out),by repeat (with_reducible first|exact HK.out|apply KeepBut.set_|apply keep_drewN|apply keep_drew|apply keep_alloc|refine keep_far ?_ GW115.out _)⟩
   subst c14
   have H1:(if x4_1.length < 140737488355328 then (token_reader_str.l0 k1 (x4_1++[t116]) t118 t119) else (none))=some (r1,r2,r3,r4,r5,r6,r7):=by first|(rw [if_pos rfl] at H;exact H)|rfl
   clear H
   have H:=H1
   clear H1
   by_cases c15:x4_1.length < 140737488355328
   rotate_left
   ·rw [if_neg c15] at H
    exact absurd H (by simp)
   rw [if_pos c15] at H
   have LMc15:=Y0 c15
   clear c15
   obtain ⟨y120,hy120⟩:∃ y_:List Int,y_=(x4_1++[t116]):=⟨_,rfl⟩
   replace H:(token_reader_str.l0 k1 y120 t118 t119)=some (r1,r2,r3,r4,r5,r6,r7):=by first|(rw [hy120];with_reducible exact H)|(have H2_:=(Option.bind_some _ _).symm.trans H;rw [hy120];with_reducible exact H2_)|(have H2_:=(Option.bind_some _ _).symm.trans H;with_reducible exact H2_)|with_reducible exact H|(rw [hy120];exact H)|exact H
   have Ny120:=Y0 hy120
   clear hy120
   have H':=Y0 H
   clear H
   obtain ⟨HGz16,hgz16⟩:=HI0.out
   have hcz16_0:=cellS145_0 HGz16
   have hcz16_1:=cellS145_1 HGz16
   have hfz16_0:=blk_frozen HGz16 0
   have hfz16_1:=blk_frozen HGz16 1
   clear HGz16 hgz16
   have p6:0≤(x1001_1:Int):=of_decide_eq_true (by first|(with_reducible assumption)|assumption)
   have q6:x1001_1 < (x1000_1.size:Int):=of_decide_eq_true (by first|(with_reducible assumption)|assumption)
   have hx6:=bt_at x1000_1 x1001_1
   replace p6:=eq_true p6
   replace q6:=eq_true q6
   go_wp2_with (first|(go_at_call 123;(with_reducible refine (token_reader_mark.calls k1 g x1000_1 (wrap64 (x1001_1 + 1)) t116 true t118 t119 w0 _ ?side1 ?side2 A13.out).mono ?_);(case side1=>repeat (first|(with_reducible first|exact HI0.out|apply IsS145.alloc|apply IsS145.drewN|apply IsS145.drew|apply IsS145.set_0|apply IsS145.set_1|refine IsS145.far ?_ NB0_115.out _)|exact HI0.out));(case side2=>repeat (first|(with_reducible first|exact HB.out|apply Y3|apply Y1|apply Y2|refine Y4 ?_ (IsS145.ge HI0.out)|refine Y4 ?_ GE115.out)|exact HB.out));rintro e w17 ⟨rfl,hi,hb,hk⟩;have n0_:=Y0 (Kd.R_mono (Kd.R_keep (IsS145.apart (show IsS145 w0 _ g x1000_1 (wrap64 (x1001_1 + 1)) from by repeat (with_reducible first|exact HI0.out|apply IsS145.alloc|apply IsS145.drewN|apply IsS145.drew|apply IsS145.set_0|apply IsS145.set_1|refine IsS145.far ?_ NB0_115.out _)) (by (with_reducible repeat (first|apply Y5|apply Y6|apply Y7));exact (Kd.R_mono (Kd.R_far (p:=⟨g,1,none⟩) (IsS145.apart HI0.out HO_4.out (by decide)) (fun _ hk=>hk.2) (.int .i64 (wrap64 (x1001_1 + 1)))) (fun _ h_=>h_.1))) (by decide)) hk (fun _ h=>h.2)) (fun _ h=>h.1));have n1_:=Y0 (KeepBut.blk hk (g':=gb115) (o:=.cells #[.int .i64 x116000_1,.string x116001_1,.int .i64 x116002_1,.int .i64 x116003_1] 149 (0,0)) (by (with_reducible repeat first|apply Y11|apply Y13|apply Y12);refine blk_far ?_ NB115_0.out _;(with_reducible repeat first|apply Y11|apply Y13|apply Y12);exact BK115.out) NB115_0.out (by simp));have n2_:=Y0 (KeepBut.trans (by repeat (with_reducible first|exact HK.out|apply KeepBut.set_|apply keep_drewN|apply keep_drew|apply keep_alloc|refine keep_far ?_ GW115.out _)) hk (.inl rfl));have n3_:=Y0 (hb);have n4_:=Y0 (hi);clear HO_4;clear BK115;clear HK;clear HB;clear HI0;have HO_4:=n0_;have BK115:=n1_;have HK:=n2_;have HB:=n3_;have HI0:=n4_;clear n0_ n1_ n2_ n3_ n4_;(try clear hb);(try clear hb2);(try clear hk);(try clear hi))|((with_reducible refine gate_builtin (b:=.append) (xs:=#[.tmp 62,.tmp 64]) rfl ?_);at_builtin;refine Kd.R_append (Kd.int .u8) w.heap.size rfl (.tmp 62) (.tmp 64) 84 5 (.int .u8 0) 1 rfl Tryz.underlying84 info5 rfl (by decide) (by omega) u4 x4_1 t116 [.int .u8 t116] (fun _=>True) (fun _=>False) rfl rfl ?aP (fun _ hk=>hk.elim) ?aF ?aO (Below.refl _ _) ?aS ?aL ?_;(case aP=>exact rfl);(case aF=>exact (fun _ _=>trivial));(case aO=>exact (by (with_reducible repeat (first|apply Y5|apply Y6|apply Y7));exact HO_4.out));(case aS=>exact (keep_size (w:=w) (g:=g) (row:=none) (by repeat (with_reducible first|exact HK.out|apply KeepBut.set_|apply keep_drewN|apply keep_drew|apply keep_alloc|refine keep_far ?_ GW115.out _))));(case aL=>have:=LMc15.out;omega);intro v121 w18 ho hb hg hat;rw [← Ny120.out] at ho;have n0_:=Y0 (blk_grown (g:=gb115) (o:=.cells #[.int .i64 x116000_1,.string x116001_1,.int .i64 x116002_1,.int .i64 x116003_1] 149 (0,0)) (by (with_reducible repeat first|apply Y11|apply Y13|apply Y12);exact BK115.out) hg (Kd.R_ne HO_4.out BK115.out (by decide)));have n1_:=Y0 (IsS145.grown (by repeat (with_reducible first|exact HI0.out|apply IsS145.alloc|apply IsS145.drewN|apply IsS145.drew|apply IsS145.set_0|apply IsS145.set_1|refine IsS145.far ?_ NB0_115.out _)) hg (IsS145.own_ne HI0.out HO_4.out (by decide)));have n2_:=Y0 (below_weaken (by repeat (with_reducible first|exact HB.out|apply Y3|apply Y1|apply Y2|refine Y4 ?_ (IsS145.ge HI0.out)|refine Y4 ?_ GE115.out)) HL.out hb);have n3_:=Y0 (KeepBut.trans (by repeat (with_reducible first|exact HK.out|apply KeepBut.set_|apply keep_drewN|apply keep_drew|apply keep_alloc|refine keep_far ?_ GW115.out _)) (KeepBut.of_grown hg g) (Kd.R_base2 HO_4.out));have n4_:=Y0 (ho);clear BK115;clear HI0;clear HB;clear HK;clear HO_4;have BK115:=n0_;have HI0:=n1_;have HB:=n2_;have HK:=n3_;have HO122:=n4_;clear n0_ n1_ n2_ n3_ n4_;clear ho hb hg hat))
   repeat (go_quiet (first|(go_at_call 123;(with_reducible refine (token_reader_mark.calls k1 g x1000_1 (wrap64 (x1001_1 + 1)) t116 true t118 t119 w0 _ ?side1 ?side2 A13.out).mono ?_);(case side1=>repeat (first|(with_reducible first|exact HI0.out|apply IsS145.alloc|apply IsS145.drewN|apply IsS145.drew|apply IsS145.set_0|apply IsS145.set_1|refine IsS145.far ?_ NB0_115.out _)|exact HI0.out));(case side2=>repeat (first|(with_reducible first|exact HB.out|apply Y3|apply Y1|apply Y2|refine Y4 ?_ (IsS145.ge HI0.out)|refine Y4 ?_ GE115.out)|exact HB.out));rintro e w17 ⟨rfl,hi,hb,hk⟩;have n0_:=Y0 (Kd.R_mono (Kd.R_keep (IsS145.apart (show IsS145 w0 _ g x1000_1 (wrap64 (x1001_1 + 1)) from by repeat (with_reducible first|exact HI0.out|apply IsS145.alloc|apply IsS145.drewN|apply IsS145.drew|apply IsS145.set_0|apply IsS145.set_1|refine IsS145.far ?_ NB0_115.out _)) (by (with_reducible repeat (first|apply Y5|apply Y6|apply Y7));exact (Kd.R_mono (Kd.R_far (p:=⟨g,1,none⟩) (IsS145.apart HI0.out HO_4.out (by decide)) (fun _ hk=>hk.2) (.int .i64 (wrap64 (x1001_1 + 1)))) (fun _ h_=>h_.1))) (by decide)) hk (fun _ h=>h.2)) (fun _ h=>h.1));have n1_:=Y0 (KeepBut.blk hk (g':=gb115) (o:=.cells #[.int .i64 x116000_1,.string x116001_1,.int .i64 x116002_1,.int .i64 x116003_1] 149 (0,0)) (by (with_reducible repeat first|apply Y11|apply Y13|apply Y12);refine blk_far ?_ NB115_0.out _;(with_reducible repeat first|apply Y11|apply Y13|apply Y12);exact BK115.out) NB115_0.out (by simp));have n2_:=Y0 (KeepBut.trans (by repeat (with_reducible first|exact HK.out|apply KeepBut.set_|apply keep_drewN|apply keep_drew|apply keep_alloc|refine keep_far ?_ GW115.out _)) hk (.inl rfl));have n3_:=Y0 (hb);have n4_:=Y0 (hi);clear HO_4;clear BK115;clear HK;clear HB;clear HI0;have HO_4:=n0_;have BK115:=n1_;have HK:=n2_;have HB:=n3_;have HI0:=n4_;clear n0_ n1_ n2_ n3_ n4_;(try clear hb);(try clear hb2);(try clear hk);(try clear hi))|((with_reducible refine gate_builtin (b:=.append) (xs:=#[.tmp 62,.tmp 64]) rfl ?_);at_builtin;refine Kd.R_append (Kd.int .u8) w.heap.size rfl (.tmp 62) (.tmp 64) 84 5 (.int .u8 0) 1 rfl Tryz.underlying84 info5 rfl (by decide) (by omega) u4 x4_1 t116 [.int .u8 t116] (fun _=>True) (fun _=>False) rfl rfl ?aP (fun _ hk=>hk.elim) ?aF ?aO (Below.refl _ _) ?aS ?aL ?_;(case aP=>exact rfl);(case aF=>exact (fun _ _=>trivial));(case aO=>exact (by (with_reducible repeat (first|apply Y5|apply Y6|apply Y7));exact HO_4.out));(case aS=>exact (keep_size (w:=w) (g:=g) (row:=none) (by repeat (with_reducible first|exact HK.out|apply KeepBut.set_|apply keep_drewN|apply keep_drew|apply keep_alloc|refine keep_far ?_ GW115.out _))));(case aL=>have:=LMc15.out;omega);intro v121 w18 ho hb hg hat;rw [← Ny120.out] at ho;have n0_:=Y0 (blk_grown (g:=gb115) (o:=.cells #[.int .i64 x116000_1,.string x116001_1,.int .i64 x116002_1,.int .i64 x116003_1] 149 (0,0)) (by (with_reducible repeat first|apply Y11|apply Y13|apply Y12);exact BK115.out) hg (Kd.R_ne HO_4.out BK115.out (by decide)));have n1_:=Y0 (IsS145.grown (by repeat (with_reducible first|exact HI0.out|apply IsS145.alloc|apply IsS145.drewN|apply IsS145.drew|apply IsS145.set_0|apply IsS145.set_1|refine IsS145.far ?_ NB0_115.out _)) hg (IsS145.own_ne HI0.out HO_4.out (by decide)));have n2_:=Y0 (below_weaken (by repeat (with_reducible first|exact HB.out|apply Y3|apply Y1|apply Y2|refine Y4 ?_ (IsS145.ge HI0.out)|refine Y4 ?_ GE115.out)) HL.out hb);have n3_:=Y0 (KeepBut.trans (by repeat (with_reducible first|exact HK.out|apply KeepBut.set_|apply keep_drewN|apply keep_drew|apply keep_alloc|refine keep_far ?_ GW115.out _)) (KeepBut.of_grown hg g) (Kd.R_base2 HO_4.out));have n4_:=Y0 (ho);clear BK115;clear HI0;clear HB;clear HK;clear HO_4;have BK115:=n0_;have HI0:=n1_;have HB:=n2_;have HK:=n3_;have HO122:=n4_;clear n0_ n1_ n2_ n3_ n4_;clear ho hb hg hat));try go_wp2_with (first|(go_at_call 123;(with_reducible refine (token_reader_mark.calls k1 g x1000_1 (wrap64 (x1001_1 + 1)) t116 true t118 t119 w0 _ ?side1 ?side2 A13.out).mono ?_);(case side1=>repeat (first|(with_reducible first|exact HI0.out|apply IsS145.alloc|apply IsS145.drewN|apply IsS145.drew|apply IsS145.set_0|apply IsS145.set_1|refine IsS145.far ?_ NB0_115.out _)|exact HI0.out));(case side2=>repeat (first|(with_reducible first|exact HB.out|apply Y3|apply Y1|apply Y2|refine Y4 ?_ (IsS145.ge HI0.out)|refine Y4 ?_ GE115.out)|exact HB.out));rintro e w17 ⟨rfl,hi,hb,hk⟩;have n0_:=Y0 (Kd.R_mono (Kd.R_keep (IsS145.apart (show IsS145 w0 _ g x1000_1 (wrap64 (x1001_1 + 1)) from by repeat (with_reducible first|exact HI0.out|apply IsS145.alloc|apply IsS145.drewN|apply IsS145.drew|apply IsS145.set_0|apply IsS145.set_1|refine IsS145.far ?_ NB0_115.out _)) (by (with_reducible repeat (first|apply Y5|apply Y6|apply Y7));exact (Kd.R_mono (Kd.R_far (p:=⟨g,1,none⟩) (IsS145.apart HI0.out HO_4.out (by decide)) (fun _ hk=>hk.2) (.int .i64 (wrap64 (x1001_1 + 1)))) (fun _ h_=>h_.1))) (by decide)) hk (fun _ h=>h.2)) (fun _ h=>h.1));have n1_:=Y0 (KeepBut.blk hk (g':=gb115) (o:=.cells #[.int .i64 x116000_1,.string x116001_1,.int .i64 x116002_1,.int .i64 x116003_1] 149 (0,0)) (by (with_reducible repeat first|apply Y11|apply Y13|apply Y12);refine blk_far ?_ NB115_0.out _;(with_reducible repeat first|apply Y11|apply Y13|apply Y12);exact BK115.out) NB115_0.out (by simp));have n2_:=Y0 (KeepBut.trans (by repeat (with_reducible first|exact HK.out|apply KeepBut.set_|apply keep_drewN|apply keep_drew|apply keep_alloc|refine keep_far ?_ GW115.out _)) hk (.inl rfl));have n3_:=Y0 (hb);have n4_:=Y0 (hi);clear HO_4;clear BK115;clear HK;clear HB;clear HI0;have HO_4:=n0_;have BK115:=n1_;have HK:=n2_;have HB:=n3_;have HI0:=n4_;clear n0_ n1_ n2_ n3_ n4_;(try clear hb);(try clear hb2);(try clear hk);(try clear hi))|((with_reducible refine gate_builtin (b:=.append) (xs:=#[.tmp 62,.tmp 64]) rfl ?_);at_builtin;refine Kd.R_append (Kd.int .u8) w.heap.size rfl (.tmp 62) (.tmp 64) 84 5 (.int .u8 0) 1 rfl Tryz.underlying84 info5 rfl (by decide) (by omega) u4 x4_1 t116 [.int .u8 t116] (fun _=>True) (fun _=>False) rfl rfl ?aP (fun _ hk=>hk.elim) ?aF ?aO (Below.refl _ _) ?aS ?aL ?_;(case aP=>exact rfl);(case aF=>exact (fun _ _=>trivial));(case aO=>exact (by (with_reducible repeat (first|apply Y5|apply Y6|apply Y7));exact HO_4.out));(case aS=>exact (keep_size (w:=w) (g:=g) (row:=none) (by repeat (with_reducible first|exact HK.out|apply KeepBut.set_|apply keep_drewN|apply keep_drew|apply keep_alloc|refine keep_far ?_ GW115.out _))));(case aL=>have:=LMc15.out;omega);intro v121 w18 ho hb hg hat;rw [← Ny120.out] at ho;have n0_:=Y0 (blk_grown (g:=gb115) (o:=.cells #[.int .i64 x116000_1,.string x116001_1,.int .i64 x116002_1,.int .i64 x116003_1] 149 (0,0)) (by (with_reducible repeat first|apply Y11|apply Y13|apply Y12);exact BK115.out) hg (Kd.R_ne HO_4.out BK115.out (by decide)));have n1_:=Y0 (IsS145.grown (by repeat (with_reducible first|exact HI0.out|apply IsS145.alloc|apply IsS145.drewN|apply IsS145.drew|apply IsS145.set_0|apply IsS145.set_1|refine IsS145.far ?_ NB0_115.out _)) hg (IsS145.own_ne HI0.out HO_4.out (by decide)));have n2_:=Y0 (below_weaken (by repeat (with_reducible first|exact HB.out|apply Y3|apply Y1|apply Y2|refine Y4 ?_ (IsS145.ge HI0.out)|refine Y4 ?_ GE115.out)) HL.out hb);have n3_:=Y0 (KeepBut.trans (by repeat (with_reducible first|exact HK.out|apply KeepBut.set_|apply keep_drewN|apply keep_drew|apply keep_alloc|refine keep_far ?_ GW115.out _)) (KeepBut.of_grown hg g) (Kd.R_base2 HO_4.out));have n4_:=Y0 (ho);clear BK115;clear HI0;clear HB;clear HK;clear HO_4;have BK115:=n0_;have HI0:=n1_;have HB:=n2_;have HK:=n3_;have HO122:=n4_;clear n0_ n1_ n2_ n3_ n4_;clear ho hb hg hat)))
   go_roundg k1
   case measure=>have:=HK1.out;omega
   case rel=>exact ⟨(y120),(t118),(t119),(x116000_1),(x116001_1),(x116002_1),(x116003_1),H',⟨by have:=HK1.out;omega⟩,⟨by (with_reducible repeat (first|apply Y5|apply Y6|apply Y7));exact HO122.out⟩,⟨by (with_reducible repeat first|apply Y11|apply Y13|apply Y12);exact BK115.out⟩,⟨by repeat (with_reducible first|exact HI0.out|apply IsS145.alloc|apply IsS145.drewN|apply IsS145.drew|apply IsS145.set_0|apply IsS145.set_1|refine IsS145.far ?_ NB0_115.out _)⟩,⟨by repeat (with_reducible first|exact HK.out|apply KeepBut.set_|apply keep_drewN|apply keep_drew|apply keep_alloc|refine keep_far ?_ GW115.out _)⟩,⟨by repeat (with_reducible first|exact HB.out|apply Y3|apply Y1|apply Y2|refine Y4 ?_ (IsS145.ge HI0.out)|refine Y4 ?_ GE115.out)⟩⟩
def stringslite_HasPrefix.f (a0:ByteArray) (a1:ByteArray):Option (Bool):=if (a0.size:Int) ≥ (a1.size:Int) then (if 0≤(a1.size:Int) then (if (a1.size:Int)≤(a0.size:Int) then (some ((a0.extract 0 ((a1.size:Int):Int).toNat).toList == a1.toList)) else (none)) else (none)) else (some false)
set_option maxHeartbeats 8000000 in
set_option maxRecDepth 100000 in
theorem stringslite_HasPrefix.calls (a0:ByteArray) (a1:ByteArray) (r:Bool) (w:World) (h:stringslite_HasPrefix.f a0 a1=some r) :
  Calls Tryz.prog 151 #[.string a0,.string a1] w fun e w'=>e = .returned (.bool r)∧Drawn0 w w':=by
 have H:(if (a0.size:Int) ≥ (a1.size:Int) then (if 0≤(a1.size:Int) then (if (a1.size:Int)≤(a0.size:Int) then (some ((a0.extract 0 ((a1.size:Int):Int).toNat).toList == a1.toList)) else (none)) else (none)) else (some false))=some r:=h
 clear h
 by_cases c3:(a0.size:Int) ≥ (a1.size:Int)
 rotate_left
 ·rw [if_neg c3] at H
  have c3b0:decide ((a1.size:Int)≤(a0.size:Int))=false:=decide_eq_false c3
  have c3b1:decide (a1.size≤a0.size)=false:=decide_eq_false (fun h=>c3 (Int.ofNat_le.mpr h))
  clear c3
  obtain rfl:=Option.some.inj H
  go_enter Tryz.func151,Tryz.ntmps151
  go_wp2
  go_ret
  exact ⟨by first|rfl|(simp;done)|(simp [*];done),by repeat (first|exact Drawn0.refl _|apply Drawn0.step)⟩
 rw [if_pos c3] at H
 have c3b0:decide ((a1.size:Int)≤(a0.size:Int))=true:=decide_eq_true c3
 have c3b1:decide (a1.size≤a0.size)=true:=decide_eq_true (Int.ofNat_le.mp c3)
 clear c3
 by_cases c4:0≤(a1.size:Int)
 rotate_left
 ·rw [if_neg c4] at H
  exact absurd H (by simp)
 rw [if_pos c4] at H
 have c4b0:=eq_true c4
 have c4b1:decide (0≤(a1.size:Int))=true:=decide_eq_true c4
 clear c4
 by_cases c5:(a1.size:Int)≤(a0.size:Int)
 rotate_left
 ·rw [if_neg c5] at H
  exact absurd H (by simp)
 rw [if_pos c5] at H
 have c5b0:=eq_true c5
 have c5b1:decide ((a1.size:Int)≤(a0.size:Int))=true:=decide_eq_true c5
 clear c5
 obtain rfl:=Option.some.inj H
 go_enter Tryz.func151,Tryz.ntmps151
 go_wp2
 go_ret
 exact ⟨by first|rfl|(simp;done)|(simp [*];done),by repeat (first|exact Drawn0.refl _|apply Drawn0.step)⟩
def strings_HasPrefix.f (a0:ByteArray) (a1:ByteArray):Option (Bool):=(stringslite_HasPrefix.f a0 a1).bind fun t126=>(some t126)
set_option maxHeartbeats 8000000 in
set_option maxRecDepth 100000 in
theorem strings_HasPrefix.calls (a0:ByteArray) (a1:ByteArray) (r:Bool) (w:World) (h:strings_HasPrefix.f a0 a1=some r) :
  Calls Tryz.prog 125 #[.string a0,.string a1] w fun e w'=>e = .returned (.bool r)∧Drawn0 w w':=by
 have H:((stringslite_HasPrefix.f a0 a1).bind fun t126=>(some t126))=some r:=h
 clear h
 replace H:=Y17.mp H
 obtain ⟨t126,A30,H⟩:=H
 try dsimp only at H
 have A3:=Y0 A30
 clear A30
 obtain rfl:=Option.some.inj H
 go_enter Tryz.func125,Tryz.ntmps125
 go_wp2_with (first|((with_reducible refine gate_callee (f:=151) rfl ?_);refine goesL_ (some 7) rfl rfl Tryz.func151 (by kernel_rfl) rfl #[.string a0,.string a1] rfl (by (try simp only [List.map_toArray,List.map_cons,List.map_nil]);first|done|rfl|(simp only [List.length_drop,List.length_take];rfl)) ?_;(with_reducible refine (stringslite_HasPrefix.calls a0 a1 t126 _ A3.out).mono ?_);rintro e w' ⟨rfl,⟨nd,rfl⟩⟩;refine ⟨_,rfl,?_⟩))
 go_ret
 exact ⟨by first|rfl|(simp;done)|(simp [*];done),by repeat (first|exact Drawn0.refl _|apply Drawn0.step)⟩
def token_reader_skip.l0:Nat→ByteArray→Int→Option (ByteArray × Int)
 | 0,_,_=>none
 | k + 1,x1000,x1001=>if x1001 < (x1000.size:Int) then (if 0≤x1001 then ((strings_IndexByte.f (⟨#[32,9,10,13]⟩:ByteArray) (bt x1000 x1001)).bind fun t127=>(if t127 ≥ 0 then (token_reader_skip.l0 k x1000 (wrap64 (x1001 + 1))) else ((token_reader_rest.f x1000 x1001).bind fun bt128=>((strings_HasPrefix.f bt128.1 (⟨#[47,47]⟩:ByteArray)).bind fun t131=>(if t131=true then ((token_reader_rest.f bt128.2.1 bt128.2.2).bind fun bt132=>((strings_Cut.f bt132.1 (⟨#[10]⟩:ByteArray)).bind fun bt135=>(token_reader_skip.l0 k bt132.2.1 (wrap64 (bt132.2.2 + (bt135.1.size:Int)))))) else (some (bt128.2.1,bt128.2.2))))))) else (none)) else (some (x1000,x1001))
def token_reader_skip.f (k:Nat) (s0_0:ByteArray) (s0_1:Int):Option (ByteArray × Int):=token_reader_skip.l0 k s0_0 s0_1
set_option maxHeartbeats 8000000 in
set_option maxRecDepth 100000 in
theorem token_reader_skip.calls (k:Nat) (g:Nat) (s0_0:ByteArray) (s0_1:Int) (r1:ByteArray) (r2:Int) (w0 w:World) (hI:IsS145 w0 w g s0_0 s0_1) (hB:Below w0.heap.size w0 w) (h:token_reader_skip.f k s0_0 s0_1=some (r1,r2)) :
  Calls Tryz.prog 86 #[.pointer (some ⟨g,0,none⟩)] w fun e w'=>e = .returned (.tuple #[])∧IsS145 w0 w' g r1 r2∧Below w0.heap.size w0 w'∧KeepBut w w' g none:=by
 have HI0:=Y0 hI
 have HK:=Y0 (KeepBut.refl w g none)
 have HL:=Y0 hB.size
 clear hI
 have HW0:=Y0 hB.size
 have HB:=Y0 hB
 clear hB
 have H:(token_reader_skip.l0 k s0_0 s0_1)=some (r1,r2):=h
 clear h
 have H':=Y0 H
 clear H
 go_enter Tryz.func86,Tryz.ntmps86
 go_wp2
 repeat (go_quiet (fail);try go_wp2)
 go_loopg [] k (fun kq w'=>∃ (x1000_1:ByteArray) (x1001_1:Int),Aside0 (token_reader_skip.l0 kq x1000_1 x1001_1=some (r1,r2))∧Aside0 (kq≤k)∧Aside0 (IsS145 w0 w' g x1000_1 x1001_1)∧Aside0 (KeepBut w w' g none)∧Aside0 (Below w0.heap.size w0 w'))
 case atStart=>exact ⟨(s0_0),(s0_1),H',⟨Nat.le_refl _⟩,⟨by repeat (with_reducible first|exact HI0.out|apply IsS145.alloc|apply IsS145.drewN|apply IsS145.drew|apply IsS145.set_0|apply IsS145.set_1)⟩,⟨by repeat (with_reducible first|exact HK.out|apply KeepBut.set_|apply keep_drewN|apply keep_drew|apply keep_alloc)⟩,⟨by repeat (with_reducible first|exact HB.out|apply Y3|apply Y1|apply Y2|refine Y4 ?_ (IsS145.ge HI0.out))⟩⟩
 case round =>
  clear H'
  obtain ⟨x1000_1,x1001_1,HA,HK1,HI0,HK,HB⟩:=hrel
  cases gk with
  | zero=>exact absurd HA.out (by simp [token_reader_skip.l0])
  | succ k1 =>
   have H:=HA.out
   clear HA
   simp only [token_reader_skip.l0] at H
   by_cases c2:x1001_1 < (x1000_1.size:Int)
   rotate_left
   ·rw [if_neg c2] at H
    have c2b0:decide (x1001_1 < (x1000_1.size:Int))=false:=decide_eq_false c2
    clear c2
    simp only [Option.some.injEq,Prod.mk.injEq] at H
    obtain ⟨rfl,rfl⟩:=H
    obtain ⟨HGz19,hgz19⟩:=HI0.out
    have hcz19_0:=cellS145_0 HGz19
    have hcz19_1:=cellS145_1 HGz19
    have hfz19_0:=blk_frozen HGz19 0
    have hfz19_1:=blk_frozen HGz19 1
    clear HGz19 hgz19
    go_wp2
    repeat (go_quiet (fail);try go_wp2)
    first|go_end0|((try simp only [Exit.inBlock,Exit.then]);refine bodyPost_ret (results_none rfl _ _ _) rfl ?_)
    exact ⟨by first|rfl|(simp [] <;> rfl)|(simp [*] <;> rfl),by repeat (with_reducible first|exact HI0.out|apply IsS145.alloc|apply IsS145.drewN|apply IsS145.drew|apply IsS145.set_0|apply IsS145.set_1),by repeat (with_reducible first|exact HB.out|apply Y3|apply Y1|apply Y2|refine Y4 ?_ (IsS145.ge HI0.out)),by repeat (with_reducible first|exact HK.out|apply KeepBut.set_|apply keep_drewN|apply keep_drew|apply keep_alloc)⟩
   rw [if_pos c2] at H
   have c2b0:decide (x1001_1 < (x1000_1.size:Int))=true:=decide_eq_true c2
   clear c2
   by_cases c3:0≤x1001_1
   rotate_left
   ·rw [if_neg c3] at H
    exact absurd H (by simp)
   rw [if_pos c3] at H
   have c3b0:decide (0≤x1001_1)=true:=decide_eq_true c3
   clear c3
   replace H:=Y17.mp H
   obtain ⟨t127,A50,H⟩:=H
   replace H:(if t127 ≥ 0 then (token_reader_skip.l0 k1 x1000_1 (wrap64 (x1001_1 + 1))) else ((token_reader_rest.f x1000_1 x1001_1).bind fun bt128=>((strings_HasPrefix.f bt128.1 (⟨#[47,47]⟩:ByteArray)).bind fun t131=>(if t131=true then ((token_reader_rest.f bt128.2.1 bt128.2.2).bind fun bt132=>((strings_Cut.f bt132.1 (⟨#[10]⟩:ByteArray)).bind fun bt135=>(token_reader_skip.l0 k1 bt132.2.1 (wrap64 (bt132.2.2 + (bt135.1.size:Int)))))) else (some (bt128.2.1,bt128.2.2))))))=some (r1,r2):=H
   have A5:=Y0 A50
   clear A50
   by_cases c6:t127 ≥ 0
   ·rw [if_pos c6] at H
    have c6b0:decide (0≤t127)=true:=decide_eq_true c6
    clear c6
    have H':=Y0 H
    clear H
    obtain ⟨HGz7,hgz7⟩:=HI0.out
    have hcz7_0:=cellS145_0 HGz7
    have hcz7_1:=cellS145_1 HGz7
    have hfz7_0:=blk_frozen HGz7 0
    have hfz7_1:=blk_frozen HGz7 1
    clear HGz7 hgz7
    have p4:0≤(x1001_1:Int):=of_decide_eq_true (by first|(with_reducible assumption)|assumption)
    have q4:x1001_1 < (x1000_1.size:Int):=of_decide_eq_true (by first|(with_reducible assumption)|assumption)
    have hx4:=bt_at x1000_1 x1001_1
    replace p4:=eq_true p4
    replace q4:=eq_true q4
    go_wp2_with (first|(go_at_call 124;(with_reducible refine (strings_IndexByte.calls (⟨#[32,9,10,13]⟩:ByteArray) (bt x1000_1 x1001_1) t127 _ A5.out).mono ?_);rintro e w' ⟨rfl,⟨nd,rfl⟩⟩;(try first|exact ⟨rfl,_,World.drewN_drewN _ _ _⟩|exact ⟨rfl,_,Eq.trans (World.drewN_drewN _ _ _) (congrArg (World.drewN _) (Nat.add_assoc _ _ _))⟩)))
    repeat (go_quiet (first|(go_at_call 124;(with_reducible refine (strings_IndexByte.calls (⟨#[32,9,10,13]⟩:ByteArray) (bt x1000_1 x1001_1) t127 _ A5.out).mono ?_);rintro e w' ⟨rfl,⟨nd,rfl⟩⟩;(try first|exact ⟨rfl,_,World.drewN_drewN _ _ _⟩|exact ⟨rfl,_,Eq.trans (World.drewN_drewN _ _ _) (congrArg (World.drewN _) (Nat.add_assoc _ _ _))⟩)));try go_wp2_with (first|(go_at_call 124;(with_reducible refine (strings_IndexByte.calls (⟨#[32,9,10,13]⟩:ByteArray) (bt x1000_1 x1001_1) t127 _ A5.out).mono ?_);rintro e w' ⟨rfl,⟨nd,rfl⟩⟩;(try first|exact ⟨rfl,_,World.drewN_drewN _ _ _⟩|exact ⟨rfl,_,Eq.trans (World.drewN_drewN _ _ _) (congrArg (World.drewN _) (Nat.add_assoc _ _ _))⟩))))
    go_roundg k1
    case measure=>have:=HK1.out;omega
    case rel=>exact ⟨(x1000_1),(wrap64 (x1001_1 + 1)),H',⟨by have:=HK1.out;omega⟩,⟨by repeat (with_reducible first|exact HI0.out|apply IsS145.alloc|apply IsS145.drewN|apply IsS145.drew|apply IsS145.set_0|apply IsS145.set_1)⟩,⟨by repeat (with_reducible first|exact HK.out|apply KeepBut.set_|apply keep_drewN|apply keep_drew|apply keep_alloc)⟩,⟨by repeat (with_reducible first|exact HB.out|apply Y3|apply Y1|apply Y2|refine Y4 ?_ (IsS145.ge HI0.out))⟩⟩
   rw [if_neg c6] at H
   have c6b0:decide (0≤t127)=false:=decide_eq_false c6
   clear c6
   replace H:=Y17.mp H
   obtain ⟨⟨t128,t129,t130⟩,A80,H⟩:=H
   replace H:((strings_HasPrefix.f t128 (⟨#[47,47]⟩:ByteArray)).bind fun t131=>(if t131=true then ((token_reader_rest.f t129 t130).bind fun bt132=>((strings_Cut.f bt132.1 (⟨#[10]⟩:ByteArray)).bind fun bt135=>(token_reader_skip.l0 k1 bt132.2.1 (wrap64 (bt132.2.2 + (bt135.1.size:Int)))))) else (some (t129,t130))))=some (r1,r2):=H
   have A8:=Y0 A80
   clear A80
   replace H:=Y17.mp H
   obtain ⟨t131,A90,H⟩:=H
   replace H:(if t131=true then ((token_reader_rest.f t129 t130).bind fun bt132=>((strings_Cut.f bt132.1 (⟨#[10]⟩:ByteArray)).bind fun bt135=>(token_reader_skip.l0 k1 bt132.2.1 (wrap64 (bt132.2.2 + (bt135.1.size:Int)))))) else (some (t129,t130)))=some (r1,r2):=H
   have A9:=Y0 A90
   clear A90
   by_cases c10:t131=true
   rotate_left
   ·replace c10:=Bool.eq_false_iff.mpr c10
    subst c10
    have H1:(some (t129,t130))=some (r1,r2):=by first|(rw [if_neg (show ¬ (false=true) by decide)] at H;exact H)|rfl
    clear H
    have H:=H1
    clear H1
    simp only [Option.some.injEq,Prod.mk.injEq] at H
    obtain ⟨rfl,rfl⟩:=H
    obtain ⟨HGz17,hgz17⟩:=HI0.out
    have hcz17_0:=cellS145_0 HGz17
    have hcz17_1:=cellS145_1 HGz17
    have hfz17_0:=blk_frozen HGz17 0
    have hfz17_1:=blk_frozen HGz17 1
    clear HGz17 hgz17
    have p4:0≤(x1001_1:Int):=of_decide_eq_true (by first|(with_reducible assumption)|assumption)
    have q4:x1001_1 < (x1000_1.size:Int):=of_decide_eq_true (by first|(with_reducible assumption)|assumption)
    have hx4:=bt_at x1000_1 x1001_1
    replace p4:=eq_true p4
    replace q4:=eq_true q4
    go_wp2_with (first|(go_at_call 124;(with_reducible refine (strings_IndexByte.calls (⟨#[32,9,10,13]⟩:ByteArray) (bt x1000_1 x1001_1) t127 _ A5.out).mono ?_);rintro e w' ⟨rfl,⟨nd,rfl⟩⟩;(try first|exact ⟨rfl,_,World.drewN_drewN _ _ _⟩|exact ⟨rfl,_,Eq.trans (World.drewN_drewN _ _ _) (congrArg (World.drewN _) (Nat.add_assoc _ _ _))⟩))|(go_at_call 126;(with_reducible refine (token_reader_rest.calls g x1000_1 x1001_1 t128 t129 t130 w0 _ ?side1 ?side2 A8.out).mono ?_);(case side1=>repeat (first|(with_reducible first|exact HI0.out|apply IsS145.alloc|apply IsS145.drewN|apply IsS145.drew|apply IsS145.set_0|apply IsS145.set_1)|exact HI0.out));(case side2=>repeat (first|(with_reducible first|exact HB.out|apply Y3|apply Y1|apply Y2|refine Y4 ?_ (IsS145.ge HI0.out))|exact HB.out));rintro e w18 ⟨rfl,hi,hb,hk⟩;have n0_:=Y0 (KeepBut.trans (by repeat (with_reducible first|exact HK.out|apply KeepBut.set_|apply keep_drewN|apply keep_drew|apply keep_alloc)) hk (.inl rfl));have n1_:=Y0 (hb);have n2_:=Y0 (hi);clear HK;clear HB;clear HI0;have HK:=n0_;have HB:=n1_;have HI0:=n2_;clear n0_ n1_ n2_;(try clear hb);(try clear hb2);(try clear hk);(try clear hi))|(go_at_call 125;(with_reducible refine (strings_HasPrefix.calls t128 (⟨#[47,47]⟩:ByteArray) false _ A9.out).mono ?_);rintro e w' ⟨rfl,⟨nd,rfl⟩⟩;(try first|exact ⟨rfl,_,World.drewN_drewN _ _ _⟩|exact ⟨rfl,_,Eq.trans (World.drewN_drewN _ _ _) (congrArg (World.drewN _) (Nat.add_assoc _ _ _))⟩)))
    repeat (go_quiet (first|(go_at_call 124;(with_reducible refine (strings_IndexByte.calls (⟨#[32,9,10,13]⟩:ByteArray) (bt x1000_1 x1001_1) t127 _ A5.out).mono ?_);rintro e w' ⟨rfl,⟨nd,rfl⟩⟩;(try first|exact ⟨rfl,_,World.drewN_drewN _ _ _⟩|exact ⟨rfl,_,Eq.trans (World.drewN_drewN _ _ _) (congrArg (World.drewN _) (Nat.add_assoc _ _ _))⟩))|(go_at_call 126;(with_reducible refine (token_reader_rest.calls g x1000_1 x1001_1 t128 t129 t130 w0 _ ?side1 ?side2 A8.out).mono ?_);(case side1=>repeat (first|(with_reducible first|exact HI0.out|apply IsS145.alloc|apply IsS145.drewN|apply IsS145.drew|apply IsS145.set_0|apply IsS145.set_1)|exact HI0.out));(case side2=>repeat (first|(with_reducible first|exact HB.out|apply Y3|apply Y1|apply Y2|refine Y4 ?_ (IsS145.ge HI0.out))|exact HB.out));rintro e w18 ⟨rfl,hi,hb,hk⟩;have n0_:=Y0 (KeepBut.trans (by repeat (with_reducible first|exact HK.out|apply KeepBut.set_|apply keep_drewN|apply keep_drew|apply keep_alloc)) hk (.inl rfl));have n1_:=Y0 (hb);have n2_:=Y0 (hi);clear HK;clear HB;clear HI0;have HK:=n0_;have HB:=n1_;have HI0:=n2_;clear n0_ n1_ n2_;(try clear hb);(try clear hb2);(try clear hk);(try clear hi))|(go_at_call 125;(with_reducible refine (strings_HasPrefix.calls t128 (⟨#[47,47]⟩:ByteArray) false _ A9.out).mono ?_);rintro e w' ⟨rfl,⟨nd,rfl⟩⟩;(try first|exact ⟨rfl,_,World.drewN_drewN _ _ _⟩|exact ⟨rfl,_,Eq.trans (World.drewN_drewN _ _ _) (congrArg (World.drewN _) (Nat.add_assoc _ _ _))⟩)));try go_wp2_with (first|(go_at_call 124;(with_reducible refine (strings_IndexByte.calls (⟨#[32,9,10,13]⟩:ByteArray) (bt x1000_1 x1001_1) t127 _ A5.out).mono ?_);rintro e w' ⟨rfl,⟨nd,rfl⟩⟩;(try first|exact ⟨rfl,_,World.drewN_drewN _ _ _⟩|exact ⟨rfl,_,Eq.trans (World.drewN_drewN _ _ _) (congrArg (World.drewN _) (Nat.add_assoc _ _ _))⟩))|(go_at_call 126;(with_reducible refine (token_reader_rest.calls g x1000_1 x1001_1 t128 t129 t130 w0 _ ?side1 ?side2 A8.out).mono ?_);(case side1=>repeat (first|(with_reducible first|exact HI0.out|apply IsS145.alloc|apply IsS145.drewN|apply IsS145.drew|apply IsS145.set_0|apply IsS145.set_1)|exact HI0.out));(case side2=>repeat (first|(with_reducible first|exact HB.out|apply Y3|apply Y1|apply Y2|refine Y4 ?_ (IsS145.ge HI0.out))|exact HB.out));rintro e w18 ⟨rfl,hi,hb,hk⟩;have n0_:=Y0 (KeepBut.trans (by repeat (with_reducible first|exact HK.out|apply KeepBut.set_|apply keep_drewN|apply keep_drew|apply keep_alloc)) hk (.inl rfl));have n1_:=Y0 (hb);have n2_:=Y0 (hi);clear HK;clear HB;clear HI0;have HK:=n0_;have HB:=n1_;have HI0:=n2_;clear n0_ n1_ n2_;(try clear hb);(try clear hb2);(try clear hk);(try clear hi))|(go_at_call 125;(with_reducible refine (strings_HasPrefix.calls t128 (⟨#[47,47]⟩:ByteArray) false _ A9.out).mono ?_);rintro e w' ⟨rfl,⟨nd,rfl⟩⟩;(try first|exact ⟨rfl,_,World.drewN_drewN _ _ _⟩|exact ⟨rfl,_,Eq.trans (World.drewN_drewN _ _ _) (congrArg (World.drewN _) (Nat.add_assoc _ _ _))⟩))))
    first|go_end0|((try simp only [Exit.inBlock,Exit.then]);refine bodyPost_ret (results_none rfl _ _ _) rfl ?_)
    exact ⟨by first|rfl|(simp [] <;> rfl)|(simp [*] <;> rfl),by repeat (with_reducible first|exact HI0.out|apply IsS145.alloc|apply IsS145.drewN|apply IsS145.drew|apply IsS145.set_0|apply IsS145.set_1),by repeat (with_reducible first|exact HB.out|apply Y3|apply Y1|apply Y2|refine Y4 ?_ (IsS145.ge HI0.out)),by repeat (with_reducible first|exact HK.out|apply KeepBut.set_|apply keep_drewN|apply keep_drew|apply keep_alloc)⟩
   subst c10
   have H1:((token_reader_rest.f t129 t130).bind fun bt132=>((strings_Cut.f bt132.1 (⟨#[10]⟩:ByteArray)).bind fun bt135=>(token_reader_skip.l0 k1 bt132.2.1 (wrap64 (bt132.2.2 + (bt135.1.size:Int))))))=some (r1,r2):=by first|(rw [if_pos rfl] at H;exact H)|rfl
   clear H
   have H:=H1
   clear H1
   replace H:=Y17.mp H
   obtain ⟨⟨t132,t133,t134⟩,A110,H⟩:=H
   replace H:((strings_Cut.f t132 (⟨#[10]⟩:ByteArray)).bind fun bt135=>(token_reader_skip.l0 k1 t133 (wrap64 (t134 + (bt135.1.size:Int)))))=some (r1,r2):=H
   have A11:=Y0 A110
   clear A110
   replace H:=Y17.mp H
   obtain ⟨⟨t135,t136,t137⟩,A120,H⟩:=H
   replace H:(token_reader_skip.l0 k1 t133 (wrap64 (t134 + (t135.size:Int))))=some (r1,r2):=H
   have A12:=Y0 A120
   clear A120
   have H':=Y0 H
   clear H
   obtain ⟨HGz13,hgz13⟩:=HI0.out
   have hcz13_0:=cellS145_0 HGz13
   have hcz13_1:=cellS145_1 HGz13
   have hfz13_0:=blk_frozen HGz13 0
   have hfz13_1:=blk_frozen HGz13 1
   clear HGz13 hgz13
   have p4:0≤(x1001_1:Int):=of_decide_eq_true (by first|(with_reducible assumption)|assumption)
   have q4:x1001_1 < (x1000_1.size:Int):=of_decide_eq_true (by first|(with_reducible assumption)|assumption)
   have hx4:=bt_at x1000_1 x1001_1
   replace p4:=eq_true p4
   replace q4:=eq_true q4
   go_wp2_with (first|(go_at_call 124;(with_reducible refine (strings_IndexByte.calls (⟨#[32,9,10,13]⟩:ByteArray) (bt x1000_1 x1001_1) t127 _ A5.out).mono ?_);rintro e w' ⟨rfl,⟨nd,rfl⟩⟩;(try first|exact ⟨rfl,_,World.drewN_drewN _ _ _⟩|exact ⟨rfl,_,Eq.trans (World.drewN_drewN _ _ _) (congrArg (World.drewN _) (Nat.add_assoc _ _ _))⟩))|(go_at_call 126;(with_reducible refine (token_reader_rest.calls g x1000_1 x1001_1 t128 t129 t130 w0 _ ?side1 ?side2 A8.out).mono ?_);(case side1=>repeat (first|(with_reducible first|exact HI0.out|apply IsS145.alloc|apply IsS145.drewN|apply IsS145.drew|apply IsS145.set_0|apply IsS145.set_1)|exact HI0.out));(case side2=>repeat (first|(with_reducible first|exact HB.out|apply Y3|apply Y1|apply Y2|refine Y4 ?_ (IsS145.ge HI0.out))|exact HB.out));rintro e w14 ⟨rfl,hi,hb,hk⟩;have n0_:=Y0 (KeepBut.trans (by repeat (with_reducible first|exact HK.out|apply KeepBut.set_|apply keep_drewN|apply keep_drew|apply keep_alloc)) hk (.inl rfl));have n1_:=Y0 (hb);have n2_:=Y0 (hi);clear HK;clear HB;clear HI0;have HK:=n0_;have HB:=n1_;have HI0:=n2_;clear n0_ n1_ n2_;(try clear hb);(try clear hb2);(try clear hk);(try clear hi))|(go_at_call 125;(with_reducible refine (strings_HasPrefix.calls t128 (⟨#[47,47]⟩:ByteArray) true _ A9.out).mono ?_);rintro e w' ⟨rfl,⟨nd,rfl⟩⟩;(try first|exact ⟨rfl,_,World.drewN_drewN _ _ _⟩|exact ⟨rfl,_,Eq.trans (World.drewN_drewN _ _ _) (congrArg (World.drewN _) (Nat.add_assoc _ _ _))⟩))|(go_at_call 126;(with_reducible refine (token_reader_rest.calls g t129 t130 t132 t133 t134 w0 _ ?side1 ?side2 A11.out).mono ?_);(case side1=>repeat (first|(with_reducible first|exact HI0.out|apply IsS145.alloc|apply IsS145.drewN|apply IsS145.drew|apply IsS145.set_0|apply IsS145.set_1)|exact HI0.out));(case side2=>repeat (first|(with_reducible first|exact HB.out|apply Y3|apply Y1|apply Y2|refine Y4 ?_ (IsS145.ge HI0.out))|exact HB.out));rintro e w15 ⟨rfl,hi,hb,hk⟩;have n0_:=Y0 (KeepBut.trans (by repeat (with_reducible first|exact HK.out|apply KeepBut.set_|apply keep_drewN|apply keep_drew|apply keep_alloc)) hk (.inl rfl));have n1_:=Y0 (hb);have n2_:=Y0 (hi);clear HK;clear HB;clear HI0;have HK:=n0_;have HB:=n1_;have HI0:=n2_;clear n0_ n1_ n2_;(try clear hb);(try clear hb2);(try clear hk);(try clear hi))|(go_at_call 127;(with_reducible refine (strings_Cut.calls t132 (⟨#[10]⟩:ByteArray) t135 t136 t137 _ A12.out).mono ?_);rintro e w' ⟨rfl,⟨nd,rfl⟩⟩;(try first|exact ⟨rfl,_,World.drewN_drewN _ _ _⟩|exact ⟨rfl,_,Eq.trans (World.drewN_drewN _ _ _) (congrArg (World.drewN _) (Nat.add_assoc _ _ _))⟩);obtain ⟨HGz16,hgz16⟩:=HI0.out;have hcz16_0:=cellS145_0 HGz16;have hcz16_1:=cellS145_1 HGz16;have hfz16_0:=blk_frozen HGz16 0;have hfz16_1:=blk_frozen HGz16 1;clear HGz16 hgz16))
   repeat (go_quiet (first|(go_at_call 124;(with_reducible refine (strings_IndexByte.calls (⟨#[32,9,10,13]⟩:ByteArray) (bt x1000_1 x1001_1) t127 _ A5.out).mono ?_);rintro e w' ⟨rfl,⟨nd,rfl⟩⟩;(try first|exact ⟨rfl,_,World.drewN_drewN _ _ _⟩|exact ⟨rfl,_,Eq.trans (World.drewN_drewN _ _ _) (congrArg (World.drewN _) (Nat.add_assoc _ _ _))⟩))|(go_at_call 126;(with_reducible refine (token_reader_rest.calls g x1000_1 x1001_1 t128 t129 t130 w0 _ ?side1 ?side2 A8.out).mono ?_);(case side1=>repeat (first|(with_reducible first|exact HI0.out|apply IsS145.alloc|apply IsS145.drewN|apply IsS145.drew|apply IsS145.set_0|apply IsS145.set_1)|exact HI0.out));(case side2=>repeat (first|(with_reducible first|exact HB.out|apply Y3|apply Y1|apply Y2|refine Y4 ?_ (IsS145.ge HI0.out))|exact HB.out));rintro e w14 ⟨rfl,hi,hb,hk⟩;have n0_:=Y0 (KeepBut.trans (by repeat (with_reducible first|exact HK.out|apply KeepBut.set_|apply keep_drewN|apply keep_drew|apply keep_alloc)) hk (.inl rfl));have n1_:=Y0 (hb);have n2_:=Y0 (hi);clear HK;clear HB;clear HI0;have HK:=n0_;have HB:=n1_;have HI0:=n2_;clear n0_ n1_ n2_;(try clear hb);(try clear hb2);(try clear hk);(try clear hi))|(go_at_call 125;(with_reducible refine (strings_HasPrefix.calls t128 (⟨#[47,47]⟩:ByteArray) true _ A9.out).mono ?_);rintro e w' ⟨rfl,⟨nd,rfl⟩⟩;(try first|exact ⟨rfl,_,World.drewN_drewN _ _ _⟩|exact ⟨rfl,_,Eq.trans (World.drewN_drewN _ _ _) (congrArg (World.drewN _) (Nat.add_assoc _ _ _))⟩))|(go_at_call 126;(with_reducible refine (token_reader_rest.calls g t129 t130 t132 t133 t134 w0 _ ?side1 ?side2 A11.out).mono ?_);(case side1=>repeat (first|(with_reducible first|exact HI0.out|apply IsS145.alloc|apply IsS145.drewN|apply IsS145.drew|apply IsS145.set_0|apply IsS145.set_1)|exact HI0.out));(case side2=>repeat (first|(with_reducible first|exact HB.out|apply Y3|apply Y1|apply Y2|refine Y4 ?_ (IsS145.ge HI0.out))|exact HB.out));rintro e w15 ⟨rfl,hi,hb,hk⟩;have n0_:=Y0 (KeepBut.trans (by repeat (with_reducible first|exact HK.out|apply KeepBut.set_|apply keep_drewN|apply keep_drew|apply keep_alloc)) hk (.inl rfl));have n1_:=Y0 (hb);have n2_:=Y0 (hi);clear HK;clear HB;clear HI0;have HK:=n0_;have HB:=n1_;have HI0:=n2_;clear n0_ n1_ n2_;(try clear hb);(try clear hb2);(try clear hk);(try clear hi))|(go_at_call 127;(with_reducible refine (strings_Cut.calls t132 (⟨#[10]⟩:ByteArray) t135 t136 t137 _ A12.out).mono ?_);rintro e w' ⟨rfl,⟨nd,rfl⟩⟩;(try first|exact ⟨rfl,_,World.drewN_drewN _ _ _⟩|exact ⟨rfl,_,Eq.trans (World.drewN_drewN _ _ _) (congrArg (World.drewN _) (Nat.add_assoc _ _ _))⟩);obtain ⟨HGz16,hgz16⟩:=HI0.out;have hcz16_0:=cellS145_0 HGz16;have hcz16_1:=cellS145_1 HGz16;have hfz16_0:=blk_frozen HGz16 0;have hfz16_1:=blk_frozen HGz16 1;clear HGz16 hgz16));try go_wp2_with (first|(go_at_call 124;(with_reducible refine (strings_IndexByte.calls (⟨#[32,9,10,13]⟩:ByteArray) (bt x1000_1 x1001_1) t127 _ A5.out).mono ?_);rintro e w' ⟨rfl,⟨nd,rfl⟩⟩;(try first|exact ⟨rfl,_,World.drewN_drewN _ _ _⟩|exact ⟨rfl,_,Eq.trans (World.drewN_drewN _ _ _) (congrArg (World.drewN _) (Nat.add_assoc _ _ _))⟩))|(go_at_call 126;(with_reducible refine (token_reader_rest.calls g x1000_1 x1001_1 t128 t129 t130 w0 _ ?side1 ?side2 A8.out).mono ?_);(case side1=>repeat (first|(with_reducible first|exact HI0.out|apply IsS145.alloc|apply IsS145.drewN|apply IsS145.drew|apply IsS145.set_0|apply IsS145.set_1)|exact HI0.out));(case side2=>repeat (first|(with_reducible first|exact HB.out|apply Y3|apply Y1|apply Y2|refine Y4 ?_ (IsS145.ge HI0.out))|exact HB.out));rintro e w14 ⟨rfl,hi,hb,hk⟩;have n0_:=Y0 (KeepBut.trans (by repeat (with_reducible first|exact HK.out|apply KeepBut.set_|apply keep_drewN|apply keep_drew|apply keep_alloc)) hk (.inl rfl));have n1_:=Y0 (hb);have n2_:=Y0 (hi);clear HK;clear HB;clear HI0;have HK:=n0_;have HB:=n1_;have HI0:=n2_;clear n0_ n1_ n2_;(try clear hb);(try clear hb2);(try clear hk);(try clear hi))|(go_at_call 125;(with_reducible refine (strings_HasPrefix.calls t128 (⟨#[47,47]⟩:ByteArray) true _ A9.out).mono ?_);rintro e w' ⟨rfl,⟨nd,rfl⟩⟩;(try first|exact ⟨rfl,_,World.drewN_drewN _ _ _⟩|exact ⟨rfl,_,Eq.trans (World.drewN_drewN _ _ _) (congrArg (World.drewN _) (Nat.add_assoc _ _ _))⟩))|(go_at_call 126;(with_reducible refine (token_reader_rest.calls g t129 t130 t132 t133 t134 w0 _ ?side1 ?side2 A11.out).mono ?_);(case side1=>repeat (first|(with_reducible first|exact HI0.out|apply IsS145.alloc|apply IsS145.drewN|apply IsS145.drew|apply IsS145.set_0|apply IsS145.set_1)|exact HI0.out));(case side2=>repeat (first|(with_reducible first|exact HB.out|apply Y3|apply Y1|apply Y2|refine Y4 ?_ (IsS145.ge HI0.out))|exact HB.out));rintro e w15 ⟨rfl,hi,hb,hk⟩;have n0_:=Y0 (KeepBut.trans (by repeat (with_reducible first|exact HK.out|apply KeepBut.set_|apply keep_drewN|apply keep_drew|apply keep_alloc)) hk (.inl rfl));have n1_:=Y0 (hb);have n2_:=Y0 (hi);clear HK;clear HB;clear HI0;have HK:=n0_;have HB:=n1_;have HI0:=n2_;clear n0_ n1_ n2_;(try clear hb);(try clear hb2);(try clear hk);(try clear hi))|(go_at_call 127;(with_reducible refine (strings_Cut.calls t132 (⟨#[10]⟩:ByteArray) t135 t136 t137 _ A12.out).mono ?_);rintro e w' ⟨rfl,⟨nd,rfl⟩⟩;(try first|exact ⟨rfl,_,World.drewN_drewN _ _ _⟩|exact ⟨rfl,_,Eq.trans (World.drewN_drewN _ _ _) (congrArg (World.drewN _) (Nat.add_assoc _ _ _))⟩);obtain ⟨HGz16,hgz16⟩:=HI0.out;have hcz16_0:=cellS145_0 HGz16;have hcz16_1:=cellS145_1 HGz16;have hfz16_0:=blk_frozen HGz16 0;have hfz16_1:=blk_frozen HGz16 1;clear HGz16 hgz16)))
   go_roundg k1
   case measure=>have:=HK1.out;omega
   case rel=>exact ⟨(t133),(wrap64 (t134 + (t135.size:Int))),H',⟨by have:=HK1.out;omega⟩,⟨by repeat (with_reducible first|exact HI0.out|apply IsS145.alloc|apply IsS145.drewN|apply IsS145.drew|apply IsS145.set_0|apply IsS145.set_1)⟩,⟨by repeat (with_reducible first|exact HK.out|apply KeepBut.set_|apply keep_drewN|apply keep_drew|apply keep_alloc)⟩,⟨by repeat (with_reducible first|exact HB.out|apply Y3|apply Y1|apply Y2|refine Y4 ?_ (IsS145.ge HI0.out))⟩⟩
theorem format_any (n:Int) (h0 : -9223372036854775808≤n) (h1:n≤9223372036854775807) (w:World) (hG:GInv w) :
  Calls Tryz.prog 97 #[.int .i64 n,.int .i64 10] w fun e w'=>e = .returned (.string ⟨(Lib.itoa n).toArray⟩)∧Below w.heap.size w w':=by
 refine (Tryz.strconv_FormatInt_10 n h0 h1 w hG.tab).mono ?_
 rintro e w' ⟨rfl,k,os,rfl⟩
 exact ⟨rfl,Lib.below_grow _ w (Nat.le_refl _) k os⟩
def numV (l:List UInt8):Int:=match Lib.parseIntB 64 l with
 | .ok v=>v
 | .range=>Lib.intSat 64 l
 | _=>0
def numOk (l:List UInt8):Bool:=match Lib.parseIntB 64 l with
 | .ok v=>decide (Lib.itoa v=l)
 | _=>false
theorem parse_ok (s:ByteArray) (hs:s.size≤140737488351232) (v:Int) (h:Lib.parseIntB 64 s.data.toList = .ok v) (w:World) :
  Calls Tryz.prog 122 #[.string s,.int .i64 10,.int .i64 64] w fun e w'=>e = .returned (.tuple #[.int .i64 v,.nilIface])∧Below w.heap.size w w':=by
 refine (Tryz.strconv_ParseInt_10_at64_ok s (by omega) v h w).mono ?_
 rintro e w' ⟨rfl,rfl|⟨t,rfl⟩⟩
 ·exact ⟨rfl,Below.refl _ _⟩
 ·exact ⟨rfl,Lib.bytesWorld_below w _ t⟩
theorem parse_bad (s:ByteArray) (hs:s.size≤140737488351232) (h:∀ v,Lib.parseIntB 64 s.data.toList≠.ok v) (w:World) (hG:GInv w) :
  Calls Tryz.prog 122 #[.string s,.int .i64 10,.int .i64 64] w fun e w'=>∃ N:Nat,e = .returned (.tuple #[.int .i64 (numV s.data.toList),.iface 242 (.pointer (some ⟨N,0,none⟩))])∧Below w.heap.size w w':=by
 obtain ⟨⟨te,pe,h1⟩,⟨te2,pe2,h2⟩,h3,h4⟩:=hG
 unfold numV
 cases hp:Lib.parseIntB 64 s.data.toList with
 | ok v=>exact absurd hp (h v)
 | range =>
  refine (Tryz.strconv_ParseInt_10_at64_range s (by omega) hp _ w h2 (.inr ⟨te2,pe2,rfl⟩)).mono ?_
  rintro e w' ⟨N,rfl,_,_,hb⟩
  exact ⟨N,rfl,hb⟩
 | _ =>
  refine (Tryz.strconv_ParseInt_10_at64_syntax s (by omega) ⟨h,by rw [hp];intro e;cases e⟩ _ w h1 (.inr ⟨te,pe,rfl⟩)).mono ?_
  rintro e w' ⟨N,rfl,_,_,hb⟩
  exact ⟨N,rfl,hb⟩
theorem toList_inj {a b:ByteArray} (h:a.toList=b.toList):a=b:=by
 rw [ByteArray.toList_eq,ByteArray.toList_eq] at h
 cases a with|mk a=>cases b with|mk b=>exact congrArg ByteArray.mk (Array.toList_inj.mp h)
theorem parse_range (l:List UInt8) (v:Int) (h:Lib.parseIntB 64 l = .ok v) : -9223372036854775808≤v∧v≤9223372036854775807:=by
 have e:(2:Nat) ^ (64 - 1)=9223372036854775808:=by decide
 unfold Lib.parseIntB at h
 split at h
 ·cases h
 ·simp only [e] at h
  split at h
  ·cases h
  ·cases h
  ·split at h
   ·cases h
   ·split at h
    ·cases h
    ·injection h with h
     subst h
     split <;> omega
def token_reader_num.f (s0_0:ByteArray) (s0_1:Int):Option (Int × ByteArray × Int × Int × Bool × ByteArray × Int) :=
 (token_reader_while.f s0_0 s0_1 121).bind fun r=>some (1,r.1,numV r.1.data.toList,0,numOk r.1.data.toList,r.2.1,r.2.2)
set_option maxHeartbeats 4000000 in
set_option maxRecDepth 100000 in
theorem token_reader_num.calls (g:Nat) (s0_0:ByteArray) (s0_1:Int) (r1:Int) (r2:ByteArray) (r3:Int) (r4:Int) (r5:Bool) (r6:ByteArray) (r7:Int) (w0 w:World) (hI:IsS145 w0 w g s0_0 s0_1) (hB:Below w0.heap.size w0 w) (hG:GInv w0) (h:token_reader_num.f s0_0 s0_1=some (r1,r2,r3,r4,r5,r6,r7)) :
  Calls Tryz.prog 83 #[.pointer (some ⟨g,0,none⟩)] w fun e w'=>e = .returned (.tuple #[.agg #[.int .i64 r1,.string r2,.int .i64 r3,.int .i64 r4],.bool r5])∧IsS145 w0 w' g r6 r7∧Below w0.heap.size w0 w'∧KeepBut w w' g none:=by
 unfold token_reader_num.f at h
 obtain ⟨⟨t1,t2,t3⟩,A0,h⟩:=Option.bind_eq_some_iff.mp h
 simp only [Option.some.injEq,Prod.mk.injEq] at h
 obtain ⟨rfl,rfl,rfl,rfl,rfl,rfl,rfl⟩:=h
 have hsz:t1.size≤140737488351232:=by
  unfold token_reader_while.f at A0
  split at A0
  ·rename_i hc
   split at A0
   ·simp only [Option.some.injEq,Prod.mk.injEq] at A0
    obtain ⟨rfl,_⟩:=A0
    simp only [ByteArray.size_extract];omega
   ·split at A0
    ·simp only [Option.some.injEq,Prod.mk.injEq] at A0
     obtain ⟨rfl,_⟩:=A0
     simp only [ByteArray.size_extract];omega
    ·cases A0
  ·cases A0
 have A2:=Y0 A0
 clear A0
 have HI0:=Y0 hI
 have HK:=Y0 (KeepBut.refl w g none)
 have HL:=Y0 hB.size
 have HB:=Y0 hB
 clear hI hB
 have hu:=Tryz.underlying149
 by_cases hok:∃ v,Lib.parseIntB 64 t1.data.toList = .ok v
 rotate_left
 ·have hbad:∀ v,Lib.parseIntB 64 t1.data.toList≠.ok v:=fun v e=>hok ⟨v,e⟩
  have e2:numOk t1.data.toList=false:=by unfold numOk;cases hp:Lib.parseIntB 64 t1.data.toList <;> simp_all
  have HP:=Y0 (fun W hG=>parse_bad t1 hsz hbad W hG)
  rw [e2]
  clear e2 hok hbad h
  generalize numV t1.data.toList=v at *
  go_enter Tryz.func83,Tryz.ntmps83
  go_wp2_with (first
   | ((with_reducible refine gate_dst (N:=2) rfl ?_);refine box_event ?hg (N:=2) ?hd (cs:=#[.int .i64 0,.string (⟨#[]⟩:ByteArray),.int .i64 0,.int .i64 0]) (t:=149) ?hr ?_;(case hd=>rfl);(case hg=>rfl);(case hr=>first|(go_simp;done)|(go_simp;rfl));intro gb hg w3 hbox hb;have n0_:=Y0 (IsS145.below (by repeat (with_reducible first|exact HI0.out|apply IsS145.alloc|apply IsS145.drewN|apply IsS145.drew|apply IsS145.set_0|apply IsS145.set_1)) hb);have n1_:=Y0 (KeepBut.trans (by repeat (with_reducible first|exact HK.out|apply KeepBut.set_|apply keep_drewN|apply keep_drew|apply keep_alloc)) (KeepBut.of_below hb g none) (.inl rfl));have n2_:=Y0 (below_step (by repeat (with_reducible first|exact HB.out|apply Y3|apply Y1|apply Y2)) hb);have n3_:=Y0 hbox;have n4_:=Y0 ((by rw [hg];exact (keep_size (w:=w) (g:=g) (row:=none) (by repeat (with_reducible first|exact HK.out|apply KeepBut.set_|apply keep_drewN|apply keep_drew|apply keep_alloc)))):w.heap.size≤gb);have n6_:=Y0 ((by rw [hg];exact Nat.ne_of_lt (IsS145.lt (show IsS145 w0 _ g s0_0 s0_1 from (by repeat (with_reducible first|exact HI0.out|apply IsS145.alloc|apply IsS145.drewN|apply IsS145.drew|apply IsS145.set_0|apply IsS145.set_1))))):g≠gb);clear HI0 HK HB;have HI0:=n0_;have HK:=n1_;have HB:=n2_;have BK:=n3_;have GW:=n4_;have NB:=n6_;clear n0_ n1_ n2_ n3_ n4_ n6_;clear hb hbox hg)
   | ((with_reducible refine gate_callee (f:=119) rfl ?_);refine goesL_ (some 8) rfl rfl Tryz.func119 (by kernel_rfl) rfl #[.pointer (some ⟨g,0,none⟩),.func (.func 121) #[] #[]] rfl (by (try simp only [List.map_toArray,List.map_cons,List.map_nil]);first|done|rfl) ?_;(with_reducible refine (token_reader_while.calls g s0_0 s0_1 121 t1 t2 t3 w0 _ ?side1 ?side2 A2.out).mono ?_);(case side1=>exact (by repeat (with_reducible first|exact HI0.out|apply IsS145.alloc|apply IsS145.drewN|apply IsS145.drew|apply IsS145.set_0|apply IsS145.set_1)));(case side2=>exact (by repeat (with_reducible first|exact HB.out|apply Y3|apply Y1|apply Y2)));rintro e w4 ⟨rfl,hi,hb,hk⟩;refine ⟨_,rfl,?_⟩;have n0_:=Y0 (KeepBut.blk hk (g':=gb) (o:=.cells #[.int .i64 0,.string (⟨#[]⟩:ByteArray),.int .i64 0,.int .i64 0] 149 (0,0)) BK.out NB.out.symm (by simp));have n1_:=Y0 (KeepBut.trans (by repeat (with_reducible first|exact HK.out|apply KeepBut.set_|apply keep_drewN|apply keep_drew|apply keep_alloc)) hk (.inl rfl));have n2_:=Y0 hb;have n3_:=Y0 hi;clear BK HK HB HI0;have BK:=n0_;have HK:=n1_;have HB:=n2_;have HI0:=n3_;clear n0_ n1_ n2_ n3_ hb hi hk)
   | (go_at_call 122;refine (HP.out _ ?side1).mono ?_;(case side1=>exact hG.below (by repeat (with_reducible first|exact HB.out|apply Y3|apply Y1|apply Y2)));rintro e w5 ⟨N,rfl,hb⟩;have n0_:=Y0 ((hb.block gb (blk_lt BK.out)).trans BK.out);have n1_:=Y0 (KeepBut.trans HK.out (KeepBut.of_below hb g none) (.inl rfl));have n2_:=Y0 (below_step HB.out hb);have n3_:=Y0 (IsS145.below HI0.out hb);clear BK HK HB HI0;have BK:=n0_;have HK:=n1_;have HB:=n2_;have HI0:=n3_;clear n0_ n1_ n2_ n3_ hb;have z0:_=some (Value.int .i64 0):=(blk_cell BK.out 0).trans rfl;have z1:_=some (Value.string (⟨#[]⟩:ByteArray)):=(blk_cell BK.out 1).trans rfl;have z2:_=some (Value.int .i64 0):=(blk_cell BK.out 2).trans rfl;have z3:_=some (Value.int .i64 0):=(blk_cell BK.out 3).trans rfl;have y0:=blk_frozen BK.out 0;have y1:=blk_frozen BK.out 1;have y2:=blk_frozen BK.out 2;have y3:=blk_frozen BK.out 3))
  refine bodyPost_ret (results_ct rfl _ _ gb 149 #[.int .i64 1,.string t1,.int .i64 v,.int .i64 0] (0,0) _ rfl (by (with_reducible repeat first|apply Y11|apply Y13|apply Y12);refine blk_put (cs:=#[.int .i64 1,.string t1,.int .i64 v,.int .i64 0]) ?_ 3 _ rfl;(with_reducible repeat first|apply Y11|apply Y13|apply Y12);refine blk_put (cs:=#[.int .i64 1,.string t1,.int .i64 0,.int .i64 0]) ?_ 2 _ rfl;(with_reducible repeat first|apply Y11|apply Y13|apply Y12);refine blk_put (cs:=#[.int .i64 1,.string (⟨#[]⟩:ByteArray),.int .i64 0,.int .i64 0]) ?_ 1 _ rfl;(with_reducible repeat first|apply Y11|apply Y13|apply Y12);refine blk_put (cs:=#[.int .i64 0,.string (⟨#[]⟩:ByteArray),.int .i64 0,.int .i64 0]) ?_ 0 _ rfl;(with_reducible repeat first|apply Y11|apply Y13|apply Y12);exact BK.out) Tryz.underlying149 rfl (by kernel_rfl)) rfl ?_
  exact ⟨rfl,(by repeat (with_reducible first|exact HI0.out|apply IsS145.alloc|apply IsS145.drewN|apply IsS145.drew|apply IsS145.set_0|apply IsS145.set_1|refine IsS145.far ?_ NB.out _)),(by repeat (with_reducible first|exact HB.out|apply Y3|apply Y1|apply Y2|refine Y4 ?_ (Nat.le_trans HL.out GW.out))),(by repeat (with_reducible first|exact HK.out|apply KeepBut.set_|apply keep_drewN|apply keep_drew|apply keep_alloc|refine keep_far ?_ GW.out _))⟩
 obtain ⟨v,hv⟩:=hok
 have e1:numV t1.data.toList=v:=by unfold numV;rw [hv]
 have e2:numOk t1.data.toList=decide (Lib.itoa v=t1.data.toList):=by unfold numOk;rw [hv]
 have hbd:=parse_range _ _ hv
 have HP:=Y0 (fun W=>parse_ok t1 hsz v hv W)
 have HF:=Y0 (fun W hG=>format_any v hbd.1 hbd.2 W hG)
 rw [e1,e2]
 clear e1 e2 hv hbd h
 by_cases he:Lib.itoa v=t1.data.toList
 ·have hs:(⟨(Lib.itoa v).toArray⟩:ByteArray)=t1:=by rw [he]
  rw [hs] at HF
  rw [decide_eq_true he]
  clear hs he
  go_enter Tryz.func83,Tryz.ntmps83
  go_wp2_with (first
   | ((with_reducible refine gate_dst (N:=2) rfl ?_);refine box_event ?hg (N:=2) ?hd (cs:=#[.int .i64 0,.string (⟨#[]⟩:ByteArray),.int .i64 0,.int .i64 0]) (t:=149) ?hr ?_;(case hd=>rfl);(case hg=>rfl);(case hr=>first|(go_simp;done)|(go_simp;rfl));intro gb hg w3 hbox hb;have n0_:=Y0 (IsS145.below (by repeat (with_reducible first|exact HI0.out|apply IsS145.alloc|apply IsS145.drewN|apply IsS145.drew|apply IsS145.set_0|apply IsS145.set_1)) hb);have n1_:=Y0 (KeepBut.trans (by repeat (with_reducible first|exact HK.out|apply KeepBut.set_|apply keep_drewN|apply keep_drew|apply keep_alloc)) (KeepBut.of_below hb g none) (.inl rfl));have n2_:=Y0 (below_step (by repeat (with_reducible first|exact HB.out|apply Y3|apply Y1|apply Y2)) hb);have n3_:=Y0 hbox;have n4_:=Y0 ((by rw [hg];exact (keep_size (w:=w) (g:=g) (row:=none) (by repeat (with_reducible first|exact HK.out|apply KeepBut.set_|apply keep_drewN|apply keep_drew|apply keep_alloc)))):w.heap.size≤gb);have n6_:=Y0 ((by rw [hg];exact Nat.ne_of_lt (IsS145.lt (show IsS145 w0 _ g s0_0 s0_1 from (by repeat (with_reducible first|exact HI0.out|apply IsS145.alloc|apply IsS145.drewN|apply IsS145.drew|apply IsS145.set_0|apply IsS145.set_1))))):g≠gb);clear HI0 HK HB;have HI0:=n0_;have HK:=n1_;have HB:=n2_;have BK:=n3_;have GW:=n4_;have NB:=n6_;clear n0_ n1_ n2_ n3_ n4_ n6_;clear hb hbox hg)
   | ((with_reducible refine gate_callee (f:=119) rfl ?_);refine goesL_ (some 8) rfl rfl Tryz.func119 (by kernel_rfl) rfl #[.pointer (some ⟨g,0,none⟩),.func (.func 121) #[] #[]] rfl (by (try simp only [List.map_toArray,List.map_cons,List.map_nil]);first|done|rfl) ?_;(with_reducible refine (token_reader_while.calls g s0_0 s0_1 121 t1 t2 t3 w0 _ ?side1 ?side2 A2.out).mono ?_);(case side1=>exact (by repeat (with_reducible first|exact HI0.out|apply IsS145.alloc|apply IsS145.drewN|apply IsS145.drew|apply IsS145.set_0|apply IsS145.set_1)));(case side2=>exact (by repeat (with_reducible first|exact HB.out|apply Y3|apply Y1|apply Y2)));rintro e w4 ⟨rfl,hi,hb,hk⟩;refine ⟨_,rfl,?_⟩;have n0_:=Y0 (KeepBut.blk hk (g':=gb) (o:=.cells #[.int .i64 0,.string (⟨#[]⟩:ByteArray),.int .i64 0,.int .i64 0] 149 (0,0)) BK.out NB.out.symm (by simp));have n1_:=Y0 (KeepBut.trans (by repeat (with_reducible first|exact HK.out|apply KeepBut.set_|apply keep_drewN|apply keep_drew|apply keep_alloc)) hk (.inl rfl));have n2_:=Y0 hb;have n3_:=Y0 hi;clear BK HK HB HI0;have BK:=n0_;have HK:=n1_;have HB:=n2_;have HI0:=n3_;clear n0_ n1_ n2_ n3_ hb hi hk)
   | (go_at_call 122;refine (HP.out _).mono ?_;rintro e w5 ⟨rfl,hb⟩;have n0_:=Y0 ((hb.block gb (blk_lt BK.out)).trans BK.out);have n1_:=Y0 (KeepBut.trans HK.out (KeepBut.of_below hb g none) (.inl rfl));have n2_:=Y0 (below_step HB.out hb);have n3_:=Y0 (IsS145.below HI0.out hb);clear BK HK HB HI0;have BK:=n0_;have HK:=n1_;have HB:=n2_;have HI0:=n3_;clear n0_ n1_ n2_ n3_ hb)
   | (go_at_call 97;refine (HF.out _ ?side1).mono ?_;(case side1=>exact hG.below HB.out);rintro e w6 ⟨rfl,hb⟩;have n0_:=Y0 ((hb.block gb (blk_lt BK.out)).trans BK.out);have n1_:=Y0 (KeepBut.trans HK.out (KeepBut.of_below hb g none) (.inl rfl));have n2_:=Y0 (below_step HB.out hb);have n3_:=Y0 (IsS145.below HI0.out hb);clear BK HK HB HI0;have BK:=n0_;have HK:=n1_;have HB:=n2_;have HI0:=n3_;clear n0_ n1_ n2_ n3_ hb;have z0:_=some (Value.int .i64 0):=(blk_cell BK.out 0).trans rfl;have z1:_=some (Value.string (⟨#[]⟩:ByteArray)):=(blk_cell BK.out 1).trans rfl;have z2:_=some (Value.int .i64 0):=(blk_cell BK.out 2).trans rfl;have z3:_=some (Value.int .i64 0):=(blk_cell BK.out 3).trans rfl;have y0:=blk_frozen BK.out 0;have y1:=blk_frozen BK.out 1;have y2:=blk_frozen BK.out 2;have y3:=blk_frozen BK.out 3))
  refine bodyPost_ret (results_ct rfl _ _ gb 149 #[.int .i64 1,.string t1,.int .i64 v,.int .i64 0] (0,0) _ rfl (by (with_reducible repeat first|apply Y11|apply Y13|apply Y12);refine blk_put (cs:=#[.int .i64 1,.string t1,.int .i64 v,.int .i64 0]) ?_ 3 _ rfl;(with_reducible repeat first|apply Y11|apply Y13|apply Y12);refine blk_put (cs:=#[.int .i64 1,.string t1,.int .i64 0,.int .i64 0]) ?_ 2 _ rfl;(with_reducible repeat first|apply Y11|apply Y13|apply Y12);refine blk_put (cs:=#[.int .i64 1,.string (⟨#[]⟩:ByteArray),.int .i64 0,.int .i64 0]) ?_ 1 _ rfl;(with_reducible repeat first|apply Y11|apply Y13|apply Y12);refine blk_put (cs:=#[.int .i64 0,.string (⟨#[]⟩:ByteArray),.int .i64 0,.int .i64 0]) ?_ 0 _ rfl;(with_reducible repeat first|apply Y11|apply Y13|apply Y12);exact BK.out) Tryz.underlying149 rfl (by kernel_rfl)) rfl ?_
  exact ⟨rfl,(by repeat (with_reducible first|exact HI0.out|apply IsS145.alloc|apply IsS145.drewN|apply IsS145.drew|apply IsS145.set_0|apply IsS145.set_1|refine IsS145.far ?_ NB.out _)),(by repeat (with_reducible first|exact HB.out|apply Y3|apply Y1|apply Y2|refine Y4 ?_ (Nat.le_trans HL.out GW.out))),(by repeat (with_reducible first|exact HK.out|apply KeepBut.set_|apply keep_drewN|apply keep_drew|apply keep_alloc|refine keep_far ?_ GW.out _))⟩
 have hs:(⟨(Lib.itoa v).toArray⟩:ByteArray)≠t1:=fun e=>he (by rw [← e])
 rw [decide_eq_false he]
 clear he
 generalize (⟨(Lib.itoa v).toArray⟩:ByteArray)=f at *
 have q2:(f.toList == t1.toList)=false:=by rw [beq_eq_false_iff_ne];exact fun e=>hs (toList_inj e)
 have q3:decide (f=t1)=false:=decide_eq_false hs
 clear hs
 go_enter Tryz.func83,Tryz.ntmps83
 go_wp2_with (first
  | ((with_reducible refine gate_dst (N:=2) rfl ?_);refine box_event ?hg (N:=2) ?hd (cs:=#[.int .i64 0,.string (⟨#[]⟩:ByteArray),.int .i64 0,.int .i64 0]) (t:=149) ?hr ?_;(case hd=>rfl);(case hg=>rfl);(case hr=>first|(go_simp;done)|(go_simp;rfl));intro gb hg w3 hbox hb;have n0_:=Y0 (IsS145.below (by repeat (with_reducible first|exact HI0.out|apply IsS145.alloc|apply IsS145.drewN|apply IsS145.drew|apply IsS145.set_0|apply IsS145.set_1)) hb);have n1_:=Y0 (KeepBut.trans (by repeat (with_reducible first|exact HK.out|apply KeepBut.set_|apply keep_drewN|apply keep_drew|apply keep_alloc)) (KeepBut.of_below hb g none) (.inl rfl));have n2_:=Y0 (below_step (by repeat (with_reducible first|exact HB.out|apply Y3|apply Y1|apply Y2)) hb);have n3_:=Y0 hbox;have n4_:=Y0 ((by rw [hg];exact (keep_size (w:=w) (g:=g) (row:=none) (by repeat (with_reducible first|exact HK.out|apply KeepBut.set_|apply keep_drewN|apply keep_drew|apply keep_alloc)))):w.heap.size≤gb);have n6_:=Y0 ((by rw [hg];exact Nat.ne_of_lt (IsS145.lt (show IsS145 w0 _ g s0_0 s0_1 from (by repeat (with_reducible first|exact HI0.out|apply IsS145.alloc|apply IsS145.drewN|apply IsS145.drew|apply IsS145.set_0|apply IsS145.set_1))))):g≠gb);clear HI0 HK HB;have HI0:=n0_;have HK:=n1_;have HB:=n2_;have BK:=n3_;have GW:=n4_;have NB:=n6_;clear n0_ n1_ n2_ n3_ n4_ n6_;clear hb hbox hg)
  | ((with_reducible refine gate_callee (f:=119) rfl ?_);refine goesL_ (some 8) rfl rfl Tryz.func119 (by kernel_rfl) rfl #[.pointer (some ⟨g,0,none⟩),.func (.func 121) #[] #[]] rfl (by (try simp only [List.map_toArray,List.map_cons,List.map_nil]);first|done|rfl) ?_;(with_reducible refine (token_reader_while.calls g s0_0 s0_1 121 t1 t2 t3 w0 _ ?side1 ?side2 A2.out).mono ?_);(case side1=>exact (by repeat (with_reducible first|exact HI0.out|apply IsS145.alloc|apply IsS145.drewN|apply IsS145.drew|apply IsS145.set_0|apply IsS145.set_1)));(case side2=>exact (by repeat (with_reducible first|exact HB.out|apply Y3|apply Y1|apply Y2)));rintro e w4 ⟨rfl,hi,hb,hk⟩;refine ⟨_,rfl,?_⟩;have n0_:=Y0 (KeepBut.blk hk (g':=gb) (o:=.cells #[.int .i64 0,.string (⟨#[]⟩:ByteArray),.int .i64 0,.int .i64 0] 149 (0,0)) BK.out NB.out.symm (by simp));have n1_:=Y0 (KeepBut.trans (by repeat (with_reducible first|exact HK.out|apply KeepBut.set_|apply keep_drewN|apply keep_drew|apply keep_alloc)) hk (.inl rfl));have n2_:=Y0 hb;have n3_:=Y0 hi;clear BK HK HB HI0;have BK:=n0_;have HK:=n1_;have HB:=n2_;have HI0:=n3_;clear n0_ n1_ n2_ n3_ hb hi hk)
  | (go_at_call 122;refine (HP.out _).mono ?_;rintro e w5 ⟨rfl,hb⟩;have n0_:=Y0 ((hb.block gb (blk_lt BK.out)).trans BK.out);have n1_:=Y0 (KeepBut.trans HK.out (KeepBut.of_below hb g none) (.inl rfl));have n2_:=Y0 (below_step HB.out hb);have n3_:=Y0 (IsS145.below HI0.out hb);clear BK HK HB HI0;have BK:=n0_;have HK:=n1_;have HB:=n2_;have HI0:=n3_;clear n0_ n1_ n2_ n3_ hb)
  | (go_at_call 97;refine (HF.out _ ?side1).mono ?_;(case side1=>exact hG.below HB.out);rintro e w6 ⟨rfl,hb⟩;have n0_:=Y0 ((hb.block gb (blk_lt BK.out)).trans BK.out);have n1_:=Y0 (KeepBut.trans HK.out (KeepBut.of_below hb g none) (.inl rfl));have n2_:=Y0 (below_step HB.out hb);have n3_:=Y0 (IsS145.below HI0.out hb);clear BK HK HB HI0;have BK:=n0_;have HK:=n1_;have HB:=n2_;have HI0:=n3_;clear n0_ n1_ n2_ n3_ hb;have z0:_=some (Value.int .i64 0):=(blk_cell BK.out 0).trans rfl;have z1:_=some (Value.string (⟨#[]⟩:ByteArray)):=(blk_cell BK.out 1).trans rfl;have z2:_=some (Value.int .i64 0):=(blk_cell BK.out 2).trans rfl;have z3:_=some (Value.int .i64 0):=(blk_cell BK.out 3).trans rfl;have y0:=blk_frozen BK.out 0;have y1:=blk_frozen BK.out 1;have y2:=blk_frozen BK.out 2;have y3:=blk_frozen BK.out 3))
 refine bodyPost_ret (results_ct rfl _ _ gb 149 #[.int .i64 1,.string t1,.int .i64 v,.int .i64 0] (0,0) _ rfl (by (with_reducible repeat first|apply Y11|apply Y13|apply Y12);refine blk_put (cs:=#[.int .i64 1,.string t1,.int .i64 v,.int .i64 0]) ?_ 3 _ rfl;(with_reducible repeat first|apply Y11|apply Y13|apply Y12);refine blk_put (cs:=#[.int .i64 1,.string t1,.int .i64 0,.int .i64 0]) ?_ 2 _ rfl;(with_reducible repeat first|apply Y11|apply Y13|apply Y12);refine blk_put (cs:=#[.int .i64 1,.string (⟨#[]⟩:ByteArray),.int .i64 0,.int .i64 0]) ?_ 1 _ rfl;(with_reducible repeat first|apply Y11|apply Y13|apply Y12);refine blk_put (cs:=#[.int .i64 0,.string (⟨#[]⟩:ByteArray),.int .i64 0,.int .i64 0]) ?_ 0 _ rfl;(with_reducible repeat first|apply Y11|apply Y13|apply Y12);exact BK.out) Tryz.underlying149 rfl (by kernel_rfl)) rfl ?_
 exact ⟨rfl,(by repeat (with_reducible first|exact HI0.out|apply IsS145.alloc|apply IsS145.drewN|apply IsS145.drew|apply IsS145.set_0|apply IsS145.set_1|refine IsS145.far ?_ NB.out _)),(by repeat (with_reducible first|exact HB.out|apply Y3|apply Y1|apply Y2|refine Y4 ?_ (Nat.le_trans HL.out GW.out))),(by repeat (with_reducible first|exact HK.out|apply KeepBut.set_|apply keep_drewN|apply keep_drew|apply keep_alloc|refine keep_far ?_ GW.out _))⟩
def token_reader_one.f (s0_0:ByteArray) (s0_1:Int):Option (Int × ByteArray × Int × Int × Bool × ByteArray × Int) :=
 if s0_0.size≤140737488351232∧0≤s0_1∧s0_1 < s0_0.size then some (3,s0_0.extract s0_1.toNat (s0_1.toNat + 1),0,0,true,s0_0,s0_1 + 1) else none
set_option maxHeartbeats 2000000 in
set_option maxRecDepth 100000 in
theorem token_reader_one.calls (g:Nat) (s0_0:ByteArray) (s0_1:Int) (r1:Int) (r2:ByteArray) (r3:Int) (r4:Int) (r5:Bool) (r6:ByteArray) (r7:Int) (w0 w:World) (hI:IsS145 w0 w g s0_0 s0_1) (hB:Below w0.heap.size w0 w) (h:token_reader_one.f s0_0 s0_1=some (r1,r2,r3,r4,r5,r6,r7)) :
  Calls Tryz.prog 85 #[.pointer (some ⟨g,0,none⟩)] w fun e w'=>e = .returned (.tuple #[.agg #[.int .i64 r1,.string r2,.int .i64 r3,.int .i64 r4],.bool r5])∧IsS145 w0 w' g r6 r7∧Below w0.heap.size w0 w'∧KeepBut w w' g none:=by
 unfold token_reader_one.f at h
 split at h
 ·rename_i hc
  obtain ⟨hs,h0,h1⟩:=hc
  obtain ⟨n,rfl⟩:=Int.eq_ofNat_of_zero_le h0
  rw [Int.toNat_natCast] at h
  simp only [Option.some.injEq,Prod.mk.injEq] at h
  obtain ⟨rfl,rfl,rfl,rfl,rfl,rfl,rfl⟩:=h
  have hn1:n + 1≤s0_0.size:=by omega
  have hn2:(n:Int) + 1≤(s0_0.size:Int):=by omega
  have HI0:=Y0 hI
  have HK:=Y0 (KeepBut.refl w g none)
  have HL:=Y0 hB.size
  have HB:=Y0 hB
  have GLT:=Y0 (IsS145.lt hI)
  clear hI hB
  go_enter Tryz.func85,Tryz.ntmps85
  go_wp2_with ((with_reducible refine gate_dst (N:=2) rfl ?_);refine box_event ?hg (N:=2) ?hd (cs:=#[.int .i64 0,.string (⟨#[]⟩:ByteArray),.int .i64 0,.int .i64 0]) (t:=149) ?hr ?_;(case hd=>rfl);(case hg=>rfl);(case hr=>first|(go_simp;done)|(go_simp;rfl));intro gb hg w3 hbox hb;have n0_:=Y0 (IsS145.below (by repeat (with_reducible first|exact HI0.out|apply IsS145.alloc|apply IsS145.drewN|apply IsS145.drew|apply IsS145.set_0|apply IsS145.set_1)) hb);have n1_:=Y0 (KeepBut.trans (by repeat (with_reducible first|exact HK.out|apply KeepBut.set_|apply keep_drewN|apply keep_drew|apply keep_alloc)) (KeepBut.of_below hb g none) (.inl rfl));have n2_:=Y0 (below_step (by repeat (with_reducible first|exact HB.out|apply Y3|apply Y1|apply Y2)) hb);have n3_:=Y0 hbox;have n4_:=Y0 ((by rw [hg];exact (keep_size (w:=w) (g:=g) (row:=none) (by repeat (with_reducible first|exact HK.out|apply KeepBut.set_|apply keep_drewN|apply keep_drew|apply keep_alloc)))):w.heap.size≤gb);have n6_:=Y0 ((by rw [hg];exact Nat.ne_of_lt (IsS145.lt (show IsS145 w0 _ g s0_0 n from (by repeat (with_reducible first|exact HI0.out|apply IsS145.alloc|apply IsS145.drewN|apply IsS145.drew|apply IsS145.set_0|apply IsS145.set_1))))):g≠gb);clear HI0 HK HB;have HI0:=n0_;have HK:=n1_;have HB:=n2_;have BK:=n3_;have GW:=n4_;have NB:=n6_;clear n0_ n1_ n2_ n3_ n4_ n6_;clear hb hbox hg;have c0:=cellS145_0 HI0.out.1;have c1:=cellS145_1 HI0.out.1;have f1:=blk_frozen HI0.out.1 1;have hne:=NB.out;have hne':=NB.out.symm;have z0:w3.cell? ⟨gb,0,none⟩=some (.int .i64 0):=(blk_cell BK.out 0).trans rfl;have z1:w3.cell? ⟨gb,1,none⟩=some (.string (⟨#[]⟩:ByteArray)):=(blk_cell BK.out 1).trans rfl;have z2:w3.cell? ⟨gb,2,none⟩=some (.int .i64 0):=(blk_cell BK.out 2).trans rfl;have z3:w3.cell? ⟨gb,3,none⟩=some (.int .i64 0):=(blk_cell BK.out 3).trans rfl;have y0:=blk_frozen BK.out 0;have y1:=blk_frozen BK.out 1;have y2:=blk_frozen BK.out 2;have y3:=blk_frozen BK.out 3)
  have HI1:IsS145 w0 (w3.setCell ⟨g,1,none⟩ (.int .i64 ((n:Int) + 1))) g s0_0 ((n:Int) + 1):=IsS145.set_1 HI0.out _
  have HK1:KeepBut w (w3.setCell ⟨g,1,none⟩ (.int .i64 ((n:Int) + 1))) g none:=HK.out.set_ 1 _
  have HB1:Below w0.heap.size w0 (w3.setCell ⟨g,1,none⟩ (.int .i64 ((n:Int) + 1))):=below_set HB.out (IsS145.ge HI0.out)
  have BK1:(w3.setCell ⟨g,1,none⟩ (.int .i64 ((n:Int) + 1))).heap[gb]?=some (.cells #[.int .i64 0,.string (⟨#[]⟩:ByteArray),.int .i64 0,.int .i64 0] 149 (0,0)):=blk_far BK.out NB.out.symm _
  clear HI0 HK HB BK c0 c1 f1 z0 z1 z2 z3 y0 y1 y2 y3
  generalize w3.setCell ⟨g,1,none⟩ (.int .i64 ((n:Int) + 1))=W at *
  have HI0:=Y0 HI1
  have HK:=Y0 HK1
  have HB:=Y0 HB1
  have BK:=Y0 BK1
  clear HI1 HK1 HB1 BK1
  have c0:=cellS145_0 HI0.out.1
  have c1:=cellS145_1 HI0.out.1
  have z0:W.cell? ⟨gb,0,none⟩=some (.int .i64 0):=(blk_cell BK.out 0).trans rfl
  have z1:W.cell? ⟨gb,1,none⟩=some (.string (⟨#[]⟩:ByteArray)):=(blk_cell BK.out 1).trans rfl
  have z2:W.cell? ⟨gb,2,none⟩=some (.int .i64 0):=(blk_cell BK.out 2).trans rfl
  have z3:W.cell? ⟨gb,3,none⟩=some (.int .i64 0):=(blk_cell BK.out 3).trans rfl
  have y0:=blk_frozen BK.out 0
  have y1:=blk_frozen BK.out 1
  have y2:=blk_frozen BK.out 2
  have y3:=blk_frozen BK.out 3
  have hw1:IntKind.i64.wrap (n:Int)=n:=IntWalk.i64_in _ (by omega)
  have hd1:decide ((n:Int)≤(n:Int) + 1)=true:=decide_eq_true (by omega)
  have hd2:decide ((n:Int) + 1≤(s0_0.size:Int))=true:=decide_eq_true (by omega)
  have hd3:decide (n + 1≤s0_0.size)=true:=decide_eq_true (by omega)
  have hd4:decide (0≤(n:Int))=true:=decide_eq_true (by omega)
  have hd5:decide (0≤(n:Int) + 1)=true:=decide_eq_true (by omega)
  have hsl:∀ V:World,Sem.run Tryz.prog (Instr.slice 9 (.string s0_0) (some (.int .i64 (n:Int))) (some (.int .i64 ((n:Int) + 1))) none) V = .ok (.string (s0_0.extract n (n + 1))) V:=fun V=>by
   have e:=run_slice_string (P:=Tryz.prog) V 9 s0_0 .i64 .i64 (n:Int) ((n:Int) + 1) Tryz.underlying9 (by omega) (by omega) (by omega)
   rw [show ((n:Int) + 1).toNat=n + 1 from by omega,Int.toNat_natCast] at e
   exact e
  clear hd1 hd2 hd3 hd4 hd5
  go_still_tail 15,(by kernel_rfl)
  clear hw1 hsl
  change wpList _ _ _ _ _ W.drew
  go_wp2
  refine bodyPost_ret (results_ct rfl _ _ gb 149 #[.int .i64 3,.string (s0_0.extract n (n + 1)),.int .i64 0,.int .i64 0] (0,0) _ rfl (by (with_reducible repeat first|apply Y11|apply Y13|apply Y12);refine blk_put (cs:=#[.int .i64 3,.string (s0_0.extract n (n + 1)),.int .i64 0,.int .i64 0]) ?_ 3 _ rfl;(with_reducible repeat first|apply Y11|apply Y13|apply Y12);refine blk_put (cs:=#[.int .i64 3,.string (s0_0.extract n (n + 1)),.int .i64 0,.int .i64 0]) ?_ 2 _ rfl;(with_reducible repeat first|apply Y11|apply Y13|apply Y12);refine blk_put (cs:=#[.int .i64 3,.string (⟨#[]⟩:ByteArray),.int .i64 0,.int .i64 0]) ?_ 1 _ rfl;(with_reducible repeat first|apply Y11|apply Y13|apply Y12);refine blk_put (cs:=#[.int .i64 0,.string (⟨#[]⟩:ByteArray),.int .i64 0,.int .i64 0]) ?_ 0 _ rfl;(with_reducible repeat first|apply Y11|apply Y13|apply Y12);exact BK.out) Tryz.underlying149 rfl (by kernel_rfl)) rfl ?_
  exact ⟨rfl,(by repeat (with_reducible first|exact HI0.out|apply IsS145.alloc|apply IsS145.drewN|apply IsS145.drew|apply IsS145.set_0|apply IsS145.set_1|refine IsS145.far ?_ NB.out _)),(by repeat (with_reducible first|exact HB.out|apply Y3|apply Y1|apply Y2|refine Y4 ?_ (Nat.le_trans HL.out GW.out))),(by repeat (with_reducible first|exact HK.out|apply KeepBut.set_|apply keep_drewN|apply keep_drew|apply keep_alloc|refine keep_far ?_ GW.out _))⟩
 ·cases h
abbrev TokR:=Int × ByteArray × Int × Int × Bool × ByteArray × Int
def tokOne (k:Nat) (q:Int) (x:ByteArray) (at0:Int):Option TokR :=
 if q=0 then token_reader_name.f x at0 else if q=1 then token_reader_num.f x at0 else if q=2 then token_reader_str.f k x at0 else token_reader_one.f x at0
def tokLoop:Nat→ByteArray→ByteArray→List S149→Int→Option (List S149 × Int × Int)
 | 0,_,_,_,_=>none
 | k + 1,s,x,acc,at0=>if at0 < (s.size:Int) then (if 0≤at0 then (if ofK (bt s at0)=4 then some ([],at0,4)
   else (tokOne k (ofK (bt s at0)) x at0).bind fun r=>if r.2.2.2.2.1=false then some ([],at0,4)
    else if acc.length=1000 then some ([],at0,2)
    else (token_reader_skip.f k r.2.2.2.2.2.1 r.2.2.2.2.2.2).bind fun z=>tokLoop k s z.1 (acc++[⟨r.1,r.2.1,r.2.2.1,at0⟩]) z.2) else none)
  else some (acc,s.size,0)
def tokAll (k:Nat) (s:ByteArray):Option (List S149 × Int × Int) :=
 if (s.size:Int) > 5000 then some ([],0,2) else (token_reader_skip.f k s 0).bind fun z=>tokLoop k s z.1 [] z.2
theorem chkInt (b:Bool) (q:Int) (w:World):(Instr.checkKey b 10000 3 (.int .i64 q)).run Tryz.prog w = .ok () w:=by
 have h3:=run_underlying (w:=w) Tryz.underlying3
 show (Instr.checkKey b (9999 + 1) 3 (.int .i64 q)).run Tryz.prog w = .ok () w
 unfold Instr.checkKey
 simp [h3]
def beginM:Obj:=.map #[⟨.int .i64 0,.func (.func 82) #[] #[],0⟩,⟨.int .i64 1,.func (.func 83) #[] #[],1⟩,⟨.int .i64 2,.func (.func 84) #[] #[],2⟩,⟨.int .i64 3,.func (.func 85) #[] #[],3⟩] 4
def beginF (q:Int):Nat:=if q=0 then 82 else if q=1 then 83 else if q=2 then 84 else 85
theorem lookup_yes (w:World) (r:Nat) (q:Int) (h0:0≤q) (h3:q≤3) (hb:w.heap[r]?=some beginM) :
  Sem.run Tryz.prog (Instr.lookup 143 (.map (some r)) (.int .i64 q) true) w = .ok (.tuple #[.func (.func (beginF q)) #[] #[],.bool true]) w:=by
 have h53:=run_underlying (w:=w) Tryz.underlying143
 have hi:=run_underlying (w:=w) Tryz.underlying3
 unfold beginM at hb
 obtain rfl|rfl|rfl|rfl:q=0∨q=1∨q=2∨q=3:=by omega
 all_goals simp [Instr.lookup,chkInt,Instr.findKey,Instr.findNow,Instr.sameNow,h53,hi,MapKept.run_getObj_map hb,Result.andThen,beginF]
theorem lookup_no (w:World) (r:Nat) (hb:w.heap[r]?=some beginM) :
  Sem.run Tryz.prog (Instr.lookup 143 (.map (some r)) (.int .i64 4) true) w = .ok (.tuple #[.nilFunc,.bool false]) w:=by
 have h53:=run_underlying (w:=w) Tryz.underlying143
 have hi:=run_underlying (w:=w) Tryz.underlying3
 have hz:(zeroValue 140).run Tryz.prog w = .ok .nilFunc w:=by kernel_rfl
 unfold beginM at hb
 simp [Instr.lookup,chkInt,Instr.findKey,Instr.findNow,Instr.sameNow,h53,hi,MapKept.run_getObj_map hb,Result.andThen,hz]
theorem set_push {α:Type} (a:Array α) (x y:α):(a.push x).setIfInBounds a.size y=a.push y:=by
 apply Array.ext
 ·simp
 ·intro i h1 h2
  rw [Array.getElem_setIfInBounds]
  ·split
   ·subst_vars;simp
   ·rename_i hne
    have hlt:i < a.size:=by simp at h2;omega
    rw [Array.getElem_push_lt hlt,Array.getElem_push_lt hlt]
  ·simp at h2 ⊢;omega
theorem heap_set_new (w:World) (o o':Obj):ChangeMaps.setBlock (w.alloc o) w.heap.size o'=w.alloc o':=by
 unfold ChangeMaps.setBlock
 have e:(w.alloc o).heap.setIfInBounds w.heap.size o'=(w.alloc o').heap:=set_push w.heap o o'
 rw [e]
 rfl
theorem set_0 (w:World) (v:Value):Sem.run Tryz.prog (Instr.mapUpdate 143 (.map (some w.heap.size)) (.int .i64 0) v) (w.alloc (.map #[] 0)) = .ok () (w.alloc (.map #[⟨.int .i64 0,v,0⟩] 1)):=by
 have hb:(w.alloc (.map #[] 0)).heap[w.heap.size]?=some (.map #[] 0):=heap_alloc_new w _
 have h53:=run_underlying (w:=w.alloc (.map #[] 0)) Tryz.underlying143
 have hi:=run_underlying (w:=w.alloc (.map #[] 0)) Tryz.underlying3
 simp [Instr.mapUpdate,chkInt,Instr.findKey,Instr.findNow,Instr.sameNow,h53,hi,MapKept.run_getObj_map hb,MapKept.run_setObj_map _ hb,Result.andThen]
 exact heap_set_new w (.map #[] 0) _
theorem set_1 (w:World) (v0 v:Value):Sem.run Tryz.prog (Instr.mapUpdate 143 (.map (some w.heap.size)) (.int .i64 1) v) (w.alloc (.map #[⟨.int .i64 0,v0,0⟩] 1)) = .ok () (w.alloc (.map #[⟨.int .i64 0,v0,0⟩,⟨.int .i64 1,v,1⟩] 2)):=by
 have hb:(w.alloc (.map #[⟨.int .i64 0,v0,0⟩] 1)).heap[w.heap.size]?=some (.map #[⟨.int .i64 0,v0,0⟩] 1):=heap_alloc_new w _
 have h53:=run_underlying (w:=w.alloc (.map #[⟨.int .i64 0,v0,0⟩] 1)) Tryz.underlying143
 have hi:=run_underlying (w:=w.alloc (.map #[⟨.int .i64 0,v0,0⟩] 1)) Tryz.underlying3
 simp [Instr.mapUpdate,chkInt,Instr.findKey,Instr.findNow,Instr.sameNow,h53,hi,MapKept.run_getObj_map hb,MapKept.run_setObj_map _ hb,Result.andThen]
 exact heap_set_new w (.map #[⟨.int .i64 0,v0,0⟩] 1) _
theorem set_2 (w:World) (v0 v1 v:Value):Sem.run Tryz.prog (Instr.mapUpdate 143 (.map (some w.heap.size)) (.int .i64 2) v) (w.alloc (.map #[⟨.int .i64 0,v0,0⟩,⟨.int .i64 1,v1,1⟩] 2)) = .ok () (w.alloc (.map #[⟨.int .i64 0,v0,0⟩,⟨.int .i64 1,v1,1⟩,⟨.int .i64 2,v,2⟩] 3)):=by
 have hb:(w.alloc (.map #[⟨.int .i64 0,v0,0⟩,⟨.int .i64 1,v1,1⟩] 2)).heap[w.heap.size]?=some (.map #[⟨.int .i64 0,v0,0⟩,⟨.int .i64 1,v1,1⟩] 2):=heap_alloc_new w _
 have h53:=run_underlying (w:=w.alloc (.map #[⟨.int .i64 0,v0,0⟩,⟨.int .i64 1,v1,1⟩] 2)) Tryz.underlying143
 have hi:=run_underlying (w:=w.alloc (.map #[⟨.int .i64 0,v0,0⟩,⟨.int .i64 1,v1,1⟩] 2)) Tryz.underlying3
 simp [Instr.mapUpdate,chkInt,Instr.findKey,Instr.findNow,Instr.sameNow,h53,hi,MapKept.run_getObj_map hb,MapKept.run_setObj_map _ hb,Result.andThen]
 exact heap_set_new w (.map #[⟨.int .i64 0,v0,0⟩,⟨.int .i64 1,v1,1⟩] 2) _
theorem set_3 (w:World) (v0 v1 v2 v:Value):Sem.run Tryz.prog (Instr.mapUpdate 143 (.map (some w.heap.size)) (.int .i64 3) v) (w.alloc (.map #[⟨.int .i64 0,v0,0⟩,⟨.int .i64 1,v1,1⟩,⟨.int .i64 2,v2,2⟩] 3)) = .ok () (w.alloc (.map #[⟨.int .i64 0,v0,0⟩,⟨.int .i64 1,v1,1⟩,⟨.int .i64 2,v2,2⟩,⟨.int .i64 3,v,3⟩] 4)):=by
 have hb:(w.alloc (.map #[⟨.int .i64 0,v0,0⟩,⟨.int .i64 1,v1,1⟩,⟨.int .i64 2,v2,2⟩] 3)).heap[w.heap.size]?=some (.map #[⟨.int .i64 0,v0,0⟩,⟨.int .i64 1,v1,1⟩,⟨.int .i64 2,v2,2⟩] 3):=heap_alloc_new w _
 have h53:=run_underlying (w:=w.alloc (.map #[⟨.int .i64 0,v0,0⟩,⟨.int .i64 1,v1,1⟩,⟨.int .i64 2,v2,2⟩] 3)) Tryz.underlying143
 have hi:=run_underlying (w:=w.alloc (.map #[⟨.int .i64 0,v0,0⟩,⟨.int .i64 1,v1,1⟩,⟨.int .i64 2,v2,2⟩] 3)) Tryz.underlying3
 simp [Instr.mapUpdate,chkInt,Instr.findKey,Instr.findNow,Instr.sameNow,h53,hi,MapKept.run_getObj_map hb,MapKept.run_setObj_map _ hb,Result.andThen]
 exact heap_set_new w (.map #[⟨.int .i64 0,v0,0⟩,⟨.int .i64 1,v1,1⟩,⟨.int .i64 2,v2,2⟩] 3) _
theorem own_ne_map {W:World} {base n size:Nat} {e:TypeId} {v:Value} {xs:List Value} (h:W.ownsRow base e size v n xs) {m c:Nat} {es:Array MapEntry} (hm:W.heap[m]?=some (.map es c)):some m≠v.ownBlock:=by
 rcases h.2 with ⟨hv,_⟩|⟨g,cap,cur,hv,_,hc,_⟩
 ·subst hv;simp [Value.ownBlock]
 ·subst hv
  intro e
  simp only [Value.ownBlock,Option.some.injEq] at e
  subst e
  rw [hc] at hm
  cases hm
theorem R_ne_map {α:Type} {d:Kd α} {e:TypeId} {W:World} {base:Nat} {ok:Nat→Prop} {v:Value} {xs:List α} (h:d.R e W base ok v xs) {m c:Nat} {es:Array MapEntry} (hm:W.heap[m]?=some (.map es c)):some m≠v.ownBlock:=by
 obtain ⟨h0,inner,hown,hr⟩:=h
 exact own_ne_map hown hm
theorem begin_ne {α:Type} {d:Kd α} {e:TypeId} {W:World} {base:Nat} {ok:Nat→Prop} {v:Value} {xs:List α} (h:d.R e W base ok v xs) {m:Nat} (hm:W.heap[m]?=some beginM):some m≠v.ownBlock:=R_ne_map h hm
theorem begin_far {w:World} {m:Nat} {p:Addr} (h:w.heap[m]?=some beginM) (hne:m≠p.block) (u:Value):(w.setCell p u).heap[m]?=some beginM:=(Below.heap_setCell w p u m hne).trans h
theorem tokOne_calls (k:Nat) (q:Int) (h0:0≤q) (h3:q≤3) (g:Nat) (x:ByteArray) (at0:Int) (a b c:Int) (t:ByteArray) (ok:Bool) (x':ByteArray) (at':Int) (w0 W:World) (hI:IsS145 w0 W g x at0) (hB:Below w0.heap.size w0 W) (hG:GInv w0) (h:tokOne k q x at0=some (a,t,b,c,ok,x',at')) :
  Calls Tryz.prog (beginF q) #[.pointer (some ⟨g,0,none⟩)] W fun e w'=>e = .returned (.tuple #[.agg #[.int .i64 a,.string t,.int .i64 b,.int .i64 c],.bool ok])∧IsS145 w0 w' g x' at'∧Below w0.heap.size w0 w'∧KeepBut W w' g none:=by
 obtain rfl|rfl|rfl|rfl:q=0∨q=1∨q=2∨q=3:=by omega
 ·exact token_reader_name.calls g x at0 a t b c ok x' at' w0 W hI hB h
 ·exact token_reader_num.calls g x at0 a t b c ok x' at' w0 W hI hB hG h
 ·exact token_reader_str.calls k g x at0 a t b c ok x' at' w0 W hI hB h
 ·exact token_reader_one.calls g x at0 a t b c ok x' at' w0 W hI hB h
theorem begin_enter (q:Int) (h0:0≤q) (h3:q≤3) (args:Array Value) (w:World):(callFunc (beginF q) args).run Tryz.prog w = .ok (.enter (beginF q) args) w:=by
 obtain rfl|rfl|rfl|rfl:q=0∨q=1∨q=2∨q=3:=by omega
 ·exact run_enter Tryz.func82 (by kernel_rfl) (by kernel_rfl) _ _
 ·exact run_enter Tryz.func83 (by kernel_rfl) (by kernel_rfl) _ _
 ·exact run_enter Tryz.func84 (by kernel_rfl) (by kernel_rfl) _ _
 ·exact run_enter Tryz.func85 (by kernel_rfl) (by kernel_rfl) _ _
theorem ofK_range (c:Int):0≤ofK c∧ofK c≤4:=by
 unfold ofK
 repeat' split
 all_goals omega
set_option maxHeartbeats 1600000 in
set_option maxRecDepth 100000 in
theorem tokAll_walk (k:Nat) (a0:ByteArray) (r1:List S149) (r2 r3:Int) (w:World) (hG:GInv w) (h:tokAll k a0=some (r1,r2,r3)) :
  Calls Tryz.prog 36 #[.string a0] w fun e w'=>∃ v0_:Value,e = .returned (.tuple #[v0_,.int .i64 r2,.int .i64 r3])∧Kd.R k149 149 w' w.heap.size (fun _=>True) v0_ r1∧Below w.heap.size w w':=by
 unfold tokAll at h
 split at h
 ·rename_i hbig
  simp only [Option.some.injEq,Prod.mk.injEq] at h
  obtain ⟨rfl,rfl,rfl⟩:=h
  have b1:decide (5000 < (a0.size:Int))=true:=decide_eq_true hbig
  have b2:decide (5000 < a0.size)=true:=decide_eq_true (by omega)
  clear hbig
  go_enter Tryz.func36,Tryz.ntmps36
  go_wp2
  go_ret3
  exact ⟨_,rfl,Kd.R_nil _ _ _ _ _,Below.refl _ _⟩
 ·rename_i hbig
  have b1:decide (5000 < (a0.size:Int))=false:=decide_eq_false hbig
  have b2:decide (5000 < a0.size)=false:=decide_eq_false (by omega)
  clear hbig
  obtain ⟨⟨x,at0⟩,A0,h⟩:=Option.bind_eq_some_iff.mp h
  have AS:=Y0 A0
  have AL:=Y0 h
  clear A0 h
  go_enter Tryz.func36,Tryz.ntmps36
  have mk:=fun W=>@run_makeMap Tryz.prog W
  have s0:=set_0 w
  have s1:=set_1 w
  have s2:=set_2 w
  have s3:=set_3 w
  have HM:=Y0 (heap_alloc_new w beginM)
  have HB:=Y0 (below_alloc (Below.refl w.heap.size w) beginM)
  have hsz:(w.alloc beginM).heap.size=w.heap.size + 1:=by simp
  have HI:=Y0 (IsS145.new w (w.alloc beginM) a0 0 HB.out)
  have HM2:=Y0 (((below_alloc (Below.refl (w.alloc beginM).heap.size (w.alloc beginM)) (.cells #[.string a0,.int .i64 0] 145)).block w.heap.size (by rw [hsz];omega)).trans HM.out)
  have HB2:=Y0 (below_alloc HB.out (.cells #[.string a0,.int .i64 0] 145))
  rw [hsz] at HI
  clear HM HB hsz
  have hgm:w.heap.size + 1≠w.heap.size:=by omega
  go_wp2_with (go_at_call 86;refine (token_reader_skip.calls k (w.heap.size + 1) a0 0 x at0 w _ HI.out HB2.out AS.out).mono ?_;rintro e w1 ⟨rfl,hi,hb,hk⟩;have n0_:=Y0 (KeepBut.blk hk HM2.out (Ne.symm hgm) (by simp));clear HM2 HB2 HI AS hk;have HM:=n0_;have HB:=Y0 hb;have HI:=Y0 hi;clear n0_ hb hi)
  clear mk s0 s1 s2 s3
  generalize w.heap.size + 1=g at *
  go_loopg [7] k (fun kq v7 W=>∃ (x:ByteArray) (acc:List S149) (p:Int),Aside0 (tokLoop kq a0 x acc p=some (r1,r2,r3))∧Aside0 (Kd.R k149 149 W w.heap.size (fun _=>True) v7 acc)∧Aside0 (IsS145 w W g x p)∧Aside0 (W.heap[w.heap.size]?=some beginM)∧Aside0 (Below w.heap.size w W)∧Aside0 (acc.length≤1000))
  case atStart=>exact ⟨x,[],at0,AL,⟨Kd.R_nil _ _ _ _ _⟩,HI,HM,HB,⟨by simp⟩⟩
  case round =>
   clear AL HI HM HB
   obtain ⟨x,acc,p,HA,HO,HI,HM,HB,HL⟩:=hrel
   cases gk with
   | zero=>exact absurd HA.out (by simp [tokLoop])
   | succ k1 =>
    have H:=HA.out
    clear HA
    simp only [tokLoop] at H
    have c0:=cellS145_0 HI.out.1
    have c1:=cellS145_1 HI.out.1
    by_cases hlt:p < (a0.size:Int)
    ·rw [if_pos hlt] at H
     by_cases hp0:0≤p
     ·rw [if_pos hp0] at H
      obtain ⟨n,rfl⟩:=Int.eq_ofNat_of_zero_le hp0
      have hn:n < a0.size:=by omega
      have d1:decide ((n:Int) < (a0.size:Int))=true:=decide_eq_true hlt
      have d2:decide (n < a0.size)=true:=decide_eq_true hn
      have hbt:bt a0 n=(a0[n].toNat:Int):=by simp [bt,hn]
      rw [hbt] at H
      have hq:=ofK_range (a0[n].toNat:Int)
      have HQ:=Y0 (fun W=>token_of.calls 5 (a0[n].toNat:Int) _ W (token_of_eq 5 (by omega) _))
      generalize ofK (a0[n].toNat:Int)=q at *
      clear hbt hlt hp0
      by_cases hq4:q=4
      ·subst hq4
       rw [if_pos rfl] at H
       simp only [Option.some.injEq,Prod.mk.injEq] at H
       obtain ⟨rfl,rfl,rfl⟩:=H
       have hlk:∀ m,Sem.run Tryz.prog (Instr.lookup 143 (.map (some w.heap.size)) (.int .i64 4) true) (wr.drewN m) = .ok (.tuple #[.nilFunc,.bool false]) (wr.drewN m):=fun m=>lookup_no _ _ HM.out
       clear hq
       go_wp2_with (go_at_call 87;refine (HQ.out _).mono ?_;rintro e w2 ⟨rfl,⟨nd,rfl⟩⟩)
       go_ret3
       exact ⟨_,rfl,Kd.R_nil _ _ _ _ _,(by repeat (first|(with_reducible first|exact HB.out|apply Y3|apply Y1|apply Y2)|exact HB.out))⟩
      ·rw [if_neg hq4] at H
       have hlk:∀ m,Sem.run Tryz.prog (Instr.lookup 143 (.map (some w.heap.size)) (.int .i64 q) true) (wr.drewN m) = .ok (.tuple #[.func (.func (beginF q)) #[] #[],.bool true]) (wr.drewN m):=fun m=>lookup_yes _ _ q hq.1 (by omega) HM.out
       have hcf:=fun args W=>begin_enter q hq.1 (by omega) args W
       obtain ⟨⟨ka,ta,na,ca,ok,x',p'⟩,A1,H⟩:=Y17.mp H
       have HC:=Y0 (fun W hI hB=>tokOne_calls k1 q hq.1 (by omega) g x n ka na ca ta ok x' p' w W hI hB hG A1)
       generalize beginF q=F at *
       clear hq hq4 A1
       have HH:=Y0 H
       clear H
       go_wp2_with (go_at_call 87;refine (HQ.out _).mono ?_;rintro e w2 ⟨rfl,⟨nd,rfl⟩⟩)
       have HI1:=Y0 (show IsS145 w (wr.drewN nd) g x n from HI.out)
       have HM1:=Y0 (show (wr.drewN nd).heap[w.heap.size]?=some beginM from HM.out)
       have HB1:=Y0 (show Below w.heap.size w (wr.drewN nd) from (by repeat (first|(with_reducible first|exact HB.out|apply Y3|apply Y1|apply Y2)|exact HB.out)))
       have HO1:=Y0 (show Kd.R k149 149 (wr.drewN nd) w.heap.size (fun _=>True) u7 acc from by (with_reducible repeat (first|apply Y5|apply Y6|apply Y7));exact HO.out)
       clear HI HM HB HO c0 c1 hlk hcf HQ
       refine (HC.out _ HI1.out HB1.out).mono ?_
       rintro e w3 ⟨rfl,hi,hb,hk⟩
       have HO:=Y0 (Kd.R_mono (Kd.R_keep (IsS145.apart HI1.out HO1.out (by decide)) hk (fun _ h=>h.2)) (fun _ _=>trivial):Kd.R k149 149 w3 w.heap.size (fun _=>True) u7 acc)
       have HM:=Y0 (KeepBut.blk hk HM1.out (Ne.symm hgm) (by simp))
       have HB:=Y0 hb
       have HI:=Y0 hi
       clear HI1 HM1 HB1 HO1 HC hi hb hk
       cases ok with
       | false =>
        have H:=HH.out
        rw [if_pos rfl] at H
        simp only [Option.some.injEq,Prod.mk.injEq] at H
        obtain ⟨rfl,rfl,rfl⟩:=H
        go_wp2_with ((with_reducible refine gate_dst (N:=11) rfl ?_);refine box_event ?hg (N:=11) ?hd (cs:=#[.int .i64 0,.string (⟨#[]⟩:ByteArray),.int .i64 0,.int .i64 0]) (t:=149) ?hr ?_;(case hd=>rfl);(case hg=>rfl);(case hr=>first|(go_simp;done)|(go_simp;rfl));intro gb hg w4 hbox hb;have n0_:=Y0 (IsS145.below HI.out hb);have n1_:=Y0 (Kd.R_below (Kd.R_elderB HO.out gb (Nat.le_of_eq hg.symm)) hb);have n2_:=Y0 (below_step HB.out hb);have n3_:=Y0 hbox;have n4_:=Y0 ((by rw [hg];exact below_size HB.out):w.heap.size≤gb);have n5_:=Y0 ((hb.block _ (blk_lt HM.out)).trans HM.out);have n6_:=Y0 ((by rw [hg];exact Nat.ne_of_lt (IsS145.lt HI.out)):g≠gb);have n7_:=Y0 ((by rw [hg];exact Nat.ne_of_lt (blk_lt HM.out)):w.heap.size≠gb);clear HI HO HB HM;have HI:=n0_;have HO:=n1_;have HB:=n2_;have BK:=n3_;have GW:=n4_;have HM:=n5_;have NB:=n6_;have NM:=n7_;clear n0_ n1_ n2_ n3_ n4_ n5_ n6_ n7_;clear hb hbox hg;have z0:_=some (Value.int .i64 0):=(blk_cell BK.out 0).trans rfl;have z1:_=some (Value.string (⟨#[]⟩:ByteArray)):=(blk_cell BK.out 1).trans rfl;have z2:_=some (Value.int .i64 0):=(blk_cell BK.out 2).trans rfl;have z3:_=some (Value.int .i64 0):=(blk_cell BK.out 3).trans rfl;have y0:=blk_frozen BK.out 0;have y1:=blk_frozen BK.out 1;have y2:=blk_frozen BK.out 2;have y3:=blk_frozen BK.out 3;obtain ⟨Ao,co,eo⟩:=Kd.R_slice HO.out;subst eo)
        go_ret3
        exact ⟨_,rfl,Kd.R_nil _ _ _ _ _,(by repeat (first|(with_reducible first|exact HB.out|apply Y3|apply Y1|apply Y2|refine Y4 ?_ GW.out)|exact HB.out))⟩
       | true =>
        have H:=HH.out
        rw [if_neg (by simp)] at H
        clear HH
        by_cases hl:acc.length=1000
        ·rw [if_pos hl] at H
         simp only [Option.some.injEq,Prod.mk.injEq] at H
         obtain ⟨rfl,rfl,rfl⟩:=H
         have e1:((acc.length:Int) == 1000)=true:=by simp [hl]
         clear hl
         go_wp2_with ((with_reducible refine gate_dst (N:=11) rfl ?_);refine box_event ?hg (N:=11) ?hd (cs:=#[.int .i64 0,.string (⟨#[]⟩:ByteArray),.int .i64 0,.int .i64 0]) (t:=149) ?hr ?_;(case hd=>rfl);(case hg=>rfl);(case hr=>first|(go_simp;done)|(go_simp;rfl));intro gb hg w4 hbox hb;have n0_:=Y0 (IsS145.below HI.out hb);have n1_:=Y0 (Kd.R_below (Kd.R_elderB HO.out gb (Nat.le_of_eq hg.symm)) hb);have n2_:=Y0 (below_step HB.out hb);have n3_:=Y0 hbox;have n4_:=Y0 ((by rw [hg];exact below_size HB.out):w.heap.size≤gb);have n5_:=Y0 ((hb.block _ (blk_lt HM.out)).trans HM.out);have n6_:=Y0 ((by rw [hg];exact Nat.ne_of_lt (IsS145.lt HI.out)):g≠gb);have n7_:=Y0 ((by rw [hg];exact Nat.ne_of_lt (blk_lt HM.out)):w.heap.size≠gb);clear HI HO HB HM;have HI:=n0_;have HO:=n1_;have HB:=n2_;have BK:=n3_;have GW:=n4_;have HM:=n5_;have NB:=n6_;have NM:=n7_;clear n0_ n1_ n2_ n3_ n4_ n5_ n6_ n7_;clear hb hbox hg;have z0:_=some (Value.int .i64 0):=(blk_cell BK.out 0).trans rfl;have z1:_=some (Value.string (⟨#[]⟩:ByteArray)):=(blk_cell BK.out 1).trans rfl;have z2:_=some (Value.int .i64 0):=(blk_cell BK.out 2).trans rfl;have z3:_=some (Value.int .i64 0):=(blk_cell BK.out 3).trans rfl;have y0:=blk_frozen BK.out 0;have y1:=blk_frozen BK.out 1;have y2:=blk_frozen BK.out 2;have y3:=blk_frozen BK.out 3;obtain ⟨Ao,co,eo⟩:=Kd.R_slice HO.out;subst eo)
         go_ret3
         exact ⟨_,rfl,Kd.R_nil _ _ _ _ _,(by repeat (first|(with_reducible first|exact HB.out|apply Y3|apply Y1|apply Y2|refine Y4 ?_ GW.out)|exact HB.out))⟩
        ·rw [if_neg hl] at H
         obtain ⟨⟨x2,p2⟩,A2,H⟩:=Y17.mp H
         have e1:((acc.length:Int) == 1000)=false:=by rw [beq_eq_false_iff_ne];omega
         have HL2:=Y0 (show acc.length < 1000 by have:=HL.out;omega)
         have AS:=Y0 A2
         have AL:=Y0 H
         clear hl A2 H HL
         go_upto_region 16 with ((with_reducible refine gate_dst (N:=11) rfl ?_);refine box_event ?hg (N:=11) ?hd (cs:=#[.int .i64 0,.string (⟨#[]⟩:ByteArray),.int .i64 0,.int .i64 0]) (t:=149) ?hr ?_;(case hd=>rfl);(case hg=>rfl);(case hr=>first|(go_simp;done)|(go_simp;rfl));intro gb hg w4 hbox hb;have n0_:=Y0 (IsS145.below HI.out hb);have n1_:=Y0 (Kd.R_below (Kd.R_elderB HO.out gb (Nat.le_of_eq hg.symm)) hb);have n2_:=Y0 (below_step HB.out hb);have n3_:=Y0 hbox;have n4_:=Y0 ((by rw [hg];exact below_size HB.out):w.heap.size≤gb);have n5_:=Y0 ((hb.block _ (blk_lt HM.out)).trans HM.out);have n6_:=Y0 ((by rw [hg];exact Nat.ne_of_lt (IsS145.lt HI.out)):g≠gb);have n7_:=Y0 ((by rw [hg];exact Nat.ne_of_lt (blk_lt HM.out)):w.heap.size≠gb);clear HI HO HB HM;have HI:=n0_;have HO:=n1_;have HB:=n2_;have BK:=n3_;have GW:=n4_;have HM:=n5_;have NB:=n6_;have NM:=n7_;clear n0_ n1_ n2_ n3_ n4_ n5_ n6_ n7_;clear hb hbox hg;have z0:_=some (Value.int .i64 0):=(blk_cell BK.out 0).trans rfl;have z1:_=some (Value.string (⟨#[]⟩:ByteArray)):=(blk_cell BK.out 1).trans rfl;have z2:_=some (Value.int .i64 0):=(blk_cell BK.out 2).trans rfl;have z3:_=some (Value.int .i64 0):=(blk_cell BK.out 3).trans rfl;have y0:=blk_frozen BK.out 0;have y1:=blk_frozen BK.out 1;have y2:=blk_frozen BK.out 2;have y3:=blk_frozen BK.out 3;obtain ⟨Ao,co,eo⟩:=Kd.R_slice HO.out;subst eo)
         go_upto_region 18 with (fail)
         go_upto_region 19 with (fail)
         have HI2:IsS145 w (((((w4.setCell ⟨gb,0,none⟩ (.int .i64 ka)).setCell ⟨gb,1,none⟩ (.string ta)).setCell ⟨gb,2,none⟩ (.int .i64 na)).setCell ⟨gb,3,none⟩ (.int .i64 ca)).setCell ⟨gb,3,none⟩ (.int .i64 (n:Int))) g x' p':=(by repeat (first|(with_reducible first|exact HI.out|apply IsS145.alloc|apply IsS145.drewN|apply IsS145.drew|apply IsS145.set_0|apply IsS145.set_1|refine IsS145.far ?_ NB.out _)|exact HI.out))
         have HM2:(((((w4.setCell ⟨gb,0,none⟩ (.int .i64 ka)).setCell ⟨gb,1,none⟩ (.string ta)).setCell ⟨gb,2,none⟩ (.int .i64 na)).setCell ⟨gb,3,none⟩ (.int .i64 ca)).setCell ⟨gb,3,none⟩ (.int .i64 (n:Int))).heap[w.heap.size]?=some beginM:=begin_far (begin_far (begin_far (begin_far (begin_far HM.out NM.out _) NM.out _) NM.out _) NM.out _) NM.out _
         have HB2:Below w.heap.size w (((((w4.setCell ⟨gb,0,none⟩ (.int .i64 ka)).setCell ⟨gb,1,none⟩ (.string ta)).setCell ⟨gb,2,none⟩ (.int .i64 na)).setCell ⟨gb,3,none⟩ (.int .i64 ca)).setCell ⟨gb,3,none⟩ (.int .i64 (n:Int))):=(by repeat (first|(with_reducible first|exact HB.out|apply Y3|apply Y1|apply Y2|refine Y4 ?_ GW.out)|exact HB.out))
         have HO2:Kd.R k149 149 (((((w4.setCell ⟨gb,0,none⟩ (.int .i64 ka)).setCell ⟨gb,1,none⟩ (.string ta)).setCell ⟨gb,2,none⟩ (.int .i64 na)).setCell ⟨gb,3,none⟩ (.int .i64 ca)).setCell ⟨gb,3,none⟩ (.int .i64 (n:Int))) w.heap.size (fun k_=>k_≠gb) (.slice Ao acc.length co) acc:=Kd.R_mono (Kd.R_far (p:=⟨gb,3,none⟩) (Kd.R_far (p:=⟨gb,3,none⟩) (Kd.R_far (p:=⟨gb,2,none⟩) (Kd.R_far (p:=⟨gb,1,none⟩) (Kd.R_far (p:=⟨gb,0,none⟩) HO.out (fun _ h=>h.2) _) (fun _ h=>h.2) _) (fun _ h=>h.2) _) (fun _ h=>h.2) _) (fun _ h=>h.2) _) (fun _ h=>h.2)
         have BK2:(((((w4.setCell ⟨gb,0,none⟩ (.int .i64 ka)).setCell ⟨gb,1,none⟩ (.string ta)).setCell ⟨gb,2,none⟩ (.int .i64 na)).setCell ⟨gb,3,none⟩ (.int .i64 ca)).setCell ⟨gb,3,none⟩ (.int .i64 (n:Int))).heap[gb]?=some (.cells #[.int .i64 ka,.string ta,.int .i64 na,.int .i64 n] 149 (0,0)):=by
          refine blk_put (cs:=#[.int .i64 ka,.string ta,.int .i64 na,.int .i64 ca]) ?_ 3 _ rfl
          refine blk_put (cs:=#[.int .i64 ka,.string ta,.int .i64 na,.int .i64 0]) ?_ 3 _ rfl
          refine blk_put (cs:=#[.int .i64 ka,.string ta,.int .i64 0,.int .i64 0]) ?_ 2 _ rfl
          refine blk_put (cs:=#[.int .i64 ka,.string (⟨#[]⟩:ByteArray),.int .i64 0,.int .i64 0]) ?_ 1 _ rfl
          refine blk_put (cs:=#[.int .i64 0,.string (⟨#[]⟩:ByteArray),.int .i64 0,.int .i64 0]) ?_ 0 _ rfl
          exact BK.out
         clear HI HM HB HO BK z0 z1 z2 z3 y0 y1 y2 y3
         generalize (((((w4.setCell ⟨gb,0,none⟩ (.int .i64 ka)).setCell ⟨gb,1,none⟩ (.string ta)).setCell ⟨gb,2,none⟩ (.int .i64 na)).setCell ⟨gb,3,none⟩ (.int .i64 ca)).setCell ⟨gb,3,none⟩ (.int .i64 (n:Int)))=WW at *
         have HI:=Y0 HI2
         have HM:=Y0 HM2
         have HB:=Y0 HB2
         have HO:=Y0 HO2
         have BK:=Y0 BK2
         clear HI2 HM2 HB2 HO2 BK2
         have l0:WW.cell? ⟨gb,0,none⟩=some (.int .i64 ka):=(blk_cell BK.out 0).trans rfl
         have l1:WW.cell? ⟨gb,1,none⟩=some (.string ta):=(blk_cell BK.out 1).trans rfl
         have l2:WW.cell? ⟨gb,2,none⟩=some (.int .i64 na):=(blk_cell BK.out 2).trans rfl
         have l3:WW.cell? ⟨gb,3,none⟩=some (.int .i64 n):=(blk_cell BK.out 3).trans rfl
         go_wp2_with (first|((with_reducible refine gate_builtin (b:=.append) (xs:=#[.tmp 65,.tmp 67]) rfl ?_);at_builtin;refine Kd.R_append k149 (w0:=w) w.heap.size rfl (.tmp 65) (.tmp 67) 71 149 (.agg #[(.int .i64 0),(.string ⟨#[]⟩),(.int .i64 0),(.int .i64 0)]) 40 rfl Tryz.underlying71 info149 rfl (by decide) (by omega) (.slice Ao acc.length co) acc (⟨ka,ta,na,n⟩:S149) [.int .i64 ka,.string ta,.int .i64 na,.int .i64 n] (fun k_=>k_≠gb) (fun _=>False) rfl (by first|(go_simp;done)|(go_simp;rfl)) ?aP (fun _ hk=>hk.elim) ?aF ?aO ?aB ?aS ?aL ?_;(case aP=>exact k149_mkM _ _ _ (⟨ka,ta,na,n⟩:S149));(case aB=>exact (by repeat (first|(with_reducible first|exact HB.out|apply Y3|apply Y1|apply Y2)|exact HB.out)));(case aF=>exact fun k_ hk=>by have:=blk_lt BK.out;omega);(case aO=>(with_reducible repeat (first|apply Y5|apply Y6|apply Y7));exact HO.out);(case aS=>exact below_size (by repeat (first|(with_reducible first|exact HB.out|apply Y3|apply Y1|apply Y2)|exact HB.out)));(case aL=>have:=HL2.out;omega);intro v1 w5 ho hb hg hat;have n0_:=Y0 (IsS145.grown (by repeat (first|(with_reducible first|exact HI.out|apply IsS145.alloc|apply IsS145.drewN|apply IsS145.drew|apply IsS145.set_0|apply IsS145.set_1)|exact HI.out)) hg (IsS145.own_ne HI.out HO.out (by decide)));have n1_:=Y0 (blk_grown HM.out hg (begin_ne HO.out HM.out));have n2_:=Y0 hb;have n3_:=Y0 (Kd.R_mono (ok':=fun _=>True) ho (fun _ _=>trivial));clear HI HM HB HO BK l0 l1 l2 l3;have HI:=n0_;have HM:=n1_;have HB:=n2_;have HO:=n3_;clear n0_ n1_ n2_ n3_ ho hb hg hat)|(go_at_call 86;refine (token_reader_skip.calls k1 g x' p' x2 p2 w _ HI.out HB.out AS.out).mono ?_;rintro e w6 ⟨rfl,hi,hb,hk⟩;have n0_:=Y0 (KeepBut.blk hk HM.out (Ne.symm hgm) (by simp));have n1_:=Y0 (Kd.R_mono (ok':=fun _=>True) (Kd.R_keep (IsS145.apart HI.out HO.out (by decide)) hk (fun _ h=>h.2)) (fun _ _=>trivial));clear HM HB HI HO AS hk;have HM:=n0_;have HO:=n1_;have HB:=Y0 hb;have HI:=Y0 hi;clear n0_ n1_ hb hi))
         go_roundg k1
         case measure=>omega
         case rel=>exact ⟨x2,_,p2,AL,HO,HI,HM,HB,⟨by have:=HL2.out;simp;omega⟩⟩
     ·rw [if_neg hp0] at H;cases H
    ·rw [if_neg hlt] at H
     simp only [Option.some.injEq,Prod.mk.injEq] at H
     obtain ⟨rfl,rfl,rfl⟩:=H
     have d1:decide (p < (a0.size:Int))=false:=decide_eq_false hlt
     clear hlt
     go_wp2
     go_ret3
     exact ⟨_,rfl,HO.out,HB.out⟩
abbrev bl (s:ByteArray):List UInt8:=s.data.toList
theorem bl_length (s:ByteArray):(bl s).length=s.size:=by simp [bl]
theorem bt_nat (s:ByteArray) (i:Nat) (h:i < s.size):bt s i=(s[i].toNat:Int):=by simp [bt,h]
theorem drop_bl (s:ByteArray) (i:Nat) (h:i < s.size):(bl s).drop i=s[i] :: (bl s).drop (i + 1):=by
 have h2:i < (bl s).length:=by rw [bl_length];exact h
 rw [List.drop_eq_getElem_cons h2]
 rfl
theorem extract_bl (s:ByteArray) (i j:Nat):bl (s.extract i j)=((bl s).drop i).take (j - i):=by
 simp [bl,ByteArray.data_extract,List.extract_eq_take_drop]
theorem mk_bl (s:ByteArray):(⟨(bl s).toArray⟩:ByteArray)=s:=by simp [bl]
theorem toList_bl (s:ByteArray):s.toList=bl s:=ByteArray.toList_eq s
theorem eq_of_bl {a b:ByteArray} (h:bl a=bl b):a=b:=by rw [← mk_bl a,← mk_bl b,h]
theorem wrap_small (n:Int) (h0 : -1000000000000000000≤n) (h1:n≤1000000000000000000):wrap64 n=n:=by unfold wrap64;omega
theorem index_mem (l:List UInt8) (c:UInt8):Lib.indexByte l c=if c ∈ l then ((l.takeWhile (· != c)).length:Int) else -1:=by
 induction l with
 | nil=>simp [Lib.indexByte]
 | cons b l ih =>
  unfold Lib.indexByte
  by_cases hb:b=c
  ·subst hb;simp
  ·have hb2:c≠b:=fun e=>hb e.symm
   simp only [beq_iff_eq,hb,if_false,ih,List.mem_cons,hb2,false_or]
   by_cases hm:c ∈ l
   ·simp only [hm,if_true,List.takeWhile_cons,bne_iff_ne,ne_eq,hb,not_false_eq_true,if_true]
    rw [if_neg (by omega)]
    simp
   ·simp [hm]
theorem index_ge (l:List UInt8) (c:UInt8):0≤Lib.indexByte l c↔c ∈ l:=by
 rw [index_mem];split <;> simp_all
theorem index_at (l:List UInt8) (s:ByteArray) (i:Nat) (h:i < s.size):strings_IndexByte.f ⟨l.toArray⟩ (bt s i)=some (Lib.indexByte l s[i]):=by
 unfold strings_IndexByte.f
 rw [bt_nat s i h]
 simp
def blankB (c:UInt8):Bool:=c == 32 || c == 9 || c == 10 || c == 13
def skipN:Bool→List UInt8→Nat
 | _,[]=>0
 | true,b :: r=>1 + skipN (b != 10) r
 | false,b :: r=>if blankB b then 1 + skipN false r else if b=47∧r.head?=some 47 then 1 + skipN true r else 0
theorem skipN_le (c:Bool) (l:List UInt8):skipN c l≤l.length:=by
 induction l generalizing c with
 | nil=>simp [skipN]
 | cons b r ih =>
  cases c
  ·unfold skipN
   split
   ·have:=ih false;simp;omega
   ·split
    ·have:=ih true;simp;omega
    ·simp
  ·unfold skipN;have:=ih (b != 10);simp only [List.length_cons];omega
theorem skipN_line (l:List UInt8):skipN true l=(l.takeWhile (· != 10)).length + skipN false (l.drop (l.takeWhile (· != 10)).length):=by
 induction l with
 | nil=>simp [skipN]
 | cons b r ih =>
  by_cases hb:b=10
  ·subst hb;simp [skipN,blankB]
  ·have:(b != 10)=true:=by simp [hb]
   rw [skipN,this,ih]
   simp [List.takeWhile_cons,this]
   omega
theorem takeWhile_all {α:Type} (p:α→Bool) (l:List α) (h:∀ x ∈ l,p x=true):l.takeWhile p=l:=by
 induction l with
 | nil=>rfl
 | cons a r ih=>rw [List.takeWhile_cons,if_pos (h a (by simp)),ih (fun x hx=>h x (by simp [hx]))]
theorem cut_line (a:ByteArray):(cutAt a 10).1.size=((bl a).takeWhile (· != 10)).length:=by
 unfold cutAt
 rw [show Lib.indexByte a.data.toList 10=Lib.indexByte (bl a) 10 from rfl,index_mem]
 by_cases hm:(10:UInt8) ∈ bl a
 ·rw [if_pos hm,if_neg (by omega)]
  have:((bl a).takeWhile (· != 10)).length≤(bl a).length:=(List.takeWhile_sublist _).length_le
  rw [bl_length] at this
  simp only [Int.toNat_natCast,ByteArray.size_extract]
  omega
 ·rw [if_neg hm,if_pos (by omega)]
  have:(bl a).takeWhile (· != 10)=bl a:=by
   apply takeWhile_all
   intro x hx
   simp only [bne_iff_ne,ne_eq]
   rintro rfl
   exact hm hx
  rw [this,bl_length]
theorem rest_eq (s:ByteArray) (i:Nat) (h:i≤s.size):token_reader_rest.f s i=some (s.extract i s.size,s,(i:Int)):=by
 unfold token_reader_rest.f
 rw [if_pos (by omega),if_pos (by omega)]
 simp
theorem rest_bl (s:ByteArray) (i:Nat) (h:i≤s.size):bl (s.extract i s.size)=(bl s).drop i:=by
 rw [extract_bl,List.take_of_length_le]
 simp [bl_length]
theorem prefix_eq (a:ByteArray):strings_HasPrefix.f a ⟨#[47,47]⟩=some (decide ((bl a).take 2=[47,47])):=by
 have e2:(⟨#[47,47]⟩:ByteArray).size=2:=rfl
 unfold strings_HasPrefix.f stringslite_HasPrefix.f
 rw [e2]
 by_cases h:(a.size:Int) ≥ ((2:Nat):Int)
 ·rw [if_pos h,if_pos (by omega),if_pos (by omega)]
  simp only [Option.bind_some,toList_bl,extract_bl]
  congr 1
  simp [bl]
  rw [Bool.eq_iff_iff];simp
 ·rw [if_neg h]
  simp only [Option.bind_some]
  congr 1
  symm
  rw [decide_eq_false_iff_not]
  intro e
  have:=congrArg List.length e
  rw [List.length_take,bl_length] at this
  simp at this
  omega
theorem skip_l0 (s:ByteArray) (hs:s.size≤1000000000000):∀ (d k i:Nat),i≤s.size→s.size - i≤d→d < k→token_reader_skip.l0 k s i=some (s,((i + skipN false ((bl s).drop i):Nat):Int)):=by
 intro d
 induction d with
 | zero =>
  intro k i hi hd hk
  obtain ⟨k,rfl⟩:∃ m,k=m + 1:=⟨k - 1,by omega⟩
  obtain rfl:i=s.size:=by omega
  simp only [token_reader_skip.l0]
  rw [if_neg (by omega),List.drop_of_length_le (by rw [bl_length];omega)]
  simp [skipN]
 | succ d ih =>
  intro k i hi hd hk
  obtain ⟨k,rfl⟩:∃ m,k=m + 1:=⟨k - 1,by omega⟩
  by_cases hlt:i < s.size
  ·simp only [token_reader_skip.l0]
   rw [if_pos (by omega),if_pos (by omega),index_at _ s i hlt]
   simp only [Option.bind_some,ge_iff_le,index_ge]
   rw [drop_bl s i hlt]
   by_cases hb:blankB s[i]=true
   ·have hm:s[i] ∈ ([32,9,10,13]:List UInt8):=by unfold blankB at hb;simpa [or_assoc] using hb
    rw [if_pos hm,wrap_small _ (by omega) (by omega),show ((i:Int) + 1)=((i + 1:Nat):Int) from by omega,ih k (i + 1) (by omega) (by omega) (by omega)]
    simp only [skipN,hb,if_true]
    congr 2
    omega
   ·have hm:¬ s[i] ∈ ([32,9,10,13]:List UInt8):=by unfold blankB at hb;simpa [or_assoc] using hb
    rw [if_neg hm,rest_eq s i hi]
    simp only [Option.bind_some,prefix_eq,rest_bl s i hi,rest_eq s i hi]
    rw [drop_bl s i hlt]
    by_cases hc:s[i]=47∧((bl s).drop (i + 1)).head?=some 47
    ·obtain ⟨h1,h2⟩:=hc
     obtain ⟨r,hr⟩:∃ r,(bl s).drop (i + 1)=47 :: r:=by
      cases hl:(bl s).drop (i + 1) with
      | nil=>rw [hl] at h2;cases h2
      | cons a r=>rw [hl] at h2;simp at h2;exact ⟨r,by rw [h2]⟩
     have hcut:strings_Cut.f (s.extract i s.size) (⟨#[10]⟩:ByteArray)=some (cutAt (s.extract i s.size) 10):=by
      unfold strings_Cut.f
      rw [if_pos (by simp only [ByteArray.size_extract];omega)]
     have hln:(cutAt (s.extract i s.size) 10).1.size=1 + ((47 :: r:List UInt8).takeWhile (· != 10)).length:=by
      rw [cut_line,rest_bl s i hi,drop_bl s i hlt,h1,hr]
      simp [List.takeWhile_cons]
      omega
     have hle:((47 :: r:List UInt8).takeWhile (· != 10)).length≤s.size - i - 1:=by
      have a1:=(List.takeWhile_sublist (l:=(47 :: r:List UInt8)) (· != 10)).length_le
      have a2:=congrArg List.length hr
      rw [List.length_drop,bl_length] at a2
      omega
     rw [h1,hr]
     simp only [List.take_succ_cons,List.take_zero,decide_true,if_true,hcut,Option.bind_some,hln]
     rw [wrap_small _ (by omega) (by omega),show ((i:Int) + ((1 + ((47 :: r:List UInt8).takeWhile (· != 10)).length:Nat):Int))=((i + (1 + ((47 :: r:List UInt8).takeWhile (· != 10)).length):Nat):Int) from by omega,ih k _ (by omega) (by omega) (by omega)]
     have e:skipN false (47 :: 47 :: r)=1 + skipN true (47 :: r):=by simp [skipN,blankB]
     rw [e,skipN_line]
     have e2:(bl s).drop (i + (1 + ((47 :: r:List UInt8).takeWhile (· != 10)).length))=(47 :: r:List UInt8).drop ((47 :: r:List UInt8).takeWhile (· != 10)).length:=by
      rw [← hr,List.drop_drop]
      congr 1
      omega
     rw [e2]
     congr 2
     omega
    ·have hn:¬ (List.take 2 (s[i] :: (bl s).drop (i + 1))=[47,47]):=by
      intro e
      apply hc
      cases hl:(bl s).drop (i + 1) with
      | nil=>rw [hl] at e;simp at e
      | cons a r=>rw [hl] at e;simp at e;exact ⟨e.1,by simp [e.2]⟩
     simp only [hn,decide_false]
     rw [if_neg (by simp)]
     unfold skipN
     rw [if_neg hb,if_neg hc]
     simp
  ·obtain rfl:i=s.size:=by omega
   simp only [token_reader_skip.l0]
   rw [if_neg (by omega),List.drop_of_length_le (by rw [bl_length];omega)]
   simp [skipN]
theorem skip_eq (s:ByteArray) (hs:s.size≤1000000000000) (k i:Nat) (hi:i≤s.size) (hk:s.size - i < k):token_reader_skip.f k s i=some (s,((i + skipN false ((bl s).drop i):Nat):Int)) :=
 skip_l0 s hs (s.size - i) k i hi (Nat.le_refl _) hk
theorem bt_get (a:ByteArray) (j:Nat) (c:UInt8) (h:(bl a)[j]?=some c):bt a j=(c.toNat:Int):=by
 obtain ⟨hj,e⟩:=List.getElem?_eq_some_iff.mp h
 rw [bl_length] at hj
 rw [bt_nat a j hj,← e]
 rfl
theorem stopAt_eq (p:Int→Bool) (s:ByteArray):∀ n i,i≤s.size→s.size - i≤n→stopAt p s n i=i + (((bl s).drop i).takeWhile (fun c=>p (c.toNat:Int))).length:=by
 intro n
 induction n with
 | zero =>
  intro i hi hn
  obtain rfl:i=s.size:=by omega
  rw [stopAt,List.drop_of_length_le (by rw [bl_length];omega)]
  simp
 | succ n ih =>
  intro i hi hn
  unfold stopAt
  by_cases hlt:i < s.size
  ·rw [if_pos hlt,drop_bl s i hlt,bt_nat s i hlt,List.takeWhile_cons]
   by_cases hp:p (s[i].toNat:Int)=true
   ·rw [if_pos hp,if_pos hp,ih (i + 1) (by omega) (by omega)]
    simp;omega
   ·rw [if_neg hp,if_neg hp];simp
  ·rw [if_neg hlt,List.drop_of_length_le (by rw [bl_length];omega)]
   simp
def nameU (c:UInt8):Bool:=nameB (c.toNat:Int)
def numU (c:UInt8):Bool:=numB (c.toNat:Int)
def runN (p:UInt8→Bool):List UInt8→Nat
 | []=>0
 | _ :: r=>1 + (r.takeWhile p).length
theorem runN_le (p:UInt8→Bool) (l:List UInt8):runN p l≤l.length:=by
 cases l with
 | nil=>simp [runN]
 | cons a r=>have:=(List.takeWhile_sublist (l:=r) p).length_le;simp only [runN,List.length_cons];omega
theorem while_text (p:Int→Bool) (s:ByteArray) (i:Nat) (hi:i < s.size) :
  stopAt p s s.size (i + 1)=i + runN (fun c=>p (c.toNat:Int)) ((bl s).drop i)∧s.extract i (stopAt p s s.size (i + 1))=⟨(((bl s).drop i).take (runN (fun c=>p (c.toNat:Int)) ((bl s).drop i))).toArray⟩:=by
 have e:stopAt p s s.size (i + 1)=i + runN (fun c=>p (c.toNat:Int)) ((bl s).drop i):=by
  rw [stopAt_eq p s s.size (i + 1) (by omega) (by omega),drop_bl s i hi]
  simp only [runN];omega
 refine ⟨e,?_⟩
 apply eq_of_bl
 rw [e,extract_bl]
 simp [bl]
theorem name_eq (s:ByteArray) (hs:s.size≤1000000000000) (i:Nat) (hi:i < s.size) :
  token_reader_name.f s i=some (0,⟨(((bl s).drop i).take (runN nameU ((bl s).drop i))).toArray⟩,0,0,true,s,((i + runN nameU ((bl s).drop i):Nat):Int)):=by
 obtain ⟨h1,h2⟩:=while_text nameB s i hi
 unfold token_reader_name.f token_reader_while.f
 rw [if_pos ⟨by omega,by omega,by omega⟩,if_pos rfl,Int.toNat_natCast]
 simp only [Option.bind_some,h2]
 rw [h1]
 rfl
theorem num_eq (s:ByteArray) (hs:s.size≤1000000000000) (i:Nat) (hi:i < s.size) :
  token_reader_num.f s i=some (1,⟨(((bl s).drop i).take (runN numU ((bl s).drop i))).toArray⟩,numV (((bl s).drop i).take (runN numU ((bl s).drop i))),0,numOk (((bl s).drop i).take (runN numU ((bl s).drop i))),s,((i + runN numU ((bl s).drop i):Nat):Int)):=by
 obtain ⟨h1,h2⟩:=while_text numB s i hi
 unfold token_reader_num.f token_reader_while.f
 rw [if_pos ⟨by omega,by omega,by omega⟩,if_neg (by decide),if_pos rfl,Int.toNat_natCast]
 simp only [Option.bind_some,h2]
 rw [h1]
 rfl
theorem one_eq (s:ByteArray) (hs:s.size≤1000000000000) (i:Nat) (hi:i < s.size) :
  token_reader_one.f s i=some (3,⟨#[s[i]]⟩,0,0,true,s,((i + 1:Nat):Int)):=by
 unfold token_reader_one.f
 rw [if_pos ⟨by omega,by omega,by omega⟩,Int.toNat_natCast]
 have e:s.extract i (i + 1)=⟨#[s[i]]⟩:=by
  apply eq_of_bl
  rw [extract_bl,drop_bl s i hi,show i + 1 - i=1 from by omega]
  simp [bl]
 rw [e]
 simp
def hexesL:List UInt8:=[48,49,50,51,52,53,54,55,56,57,97,98,99,100,101,102]
def hexI (c:UInt8):Int:=Lib.indexByte hexesL c
theorem hexI_range (c:UInt8) : -1≤hexI c∧hexI c≤15:=by
 have:=indexByte_range hexesL c
 unfold hexI
 have e:hexesL.length=16:=rfl
 rw [e] at this
 omega
theorem hex_bits:∀ a b:Fin 16,(Go.bits .or .i64 (wrap64 ((a.val:Int) * 16)) (Go.bits .and .i64 (b.val:Int) 15)) % 256=(a.val:Int) * 16 + b.val:=by decide +kernel
def markL:List UInt8→Option (UInt8 × Nat)
 | []=>none
 | d :: r=>if d=34 then some (34,1) else if d=92 then some (92,1) else if d=110 then some (10,1)
  else if d=120 then match r with
   | a :: b :: _=>if 0≤hexI a∧0≤hexI b then some (UInt8.ofNat ((hexI a).toNat * 16 + (hexI b).toNat),3) else none
   | _=>none
  else none
theorem mark_eq (s:ByteArray) (hs:s.size≤1000000000000) (k i:Nat) (hi:i≤s.size) (hk:0 < k) :
  (∀ m n,markL ((bl s).drop i)=some (m,n)→token_reader_mark.f k s i=some ((m.toNat:Int),true,s,((i + n:Nat):Int))) ∧
  (markL ((bl s).drop i)=none→∃ v p,token_reader_mark.f k s i=some (v,false,s,p)):=by
 obtain ⟨k,rfl⟩:∃ m,k=m + 1:=⟨k - 1,by omega⟩
 unfold token_reader_mark.f
 rw [rest_eq s i hi]
 have hb:=rest_bl s i hi
 have hz:(s.extract i s.size).size=((bl s).drop i).length:=by rw [← bl_length,hb]
 simp only [Option.bind_some,toList_bl,hb]
 generalize s.extract i s.size=x at *
 cases hl:(bl s).drop i with
 | nil=>simp [markL]
 | cons d r =>
  rw [hl] at hb hz
  have hx:0 < (x.size:Int):=by rw [hz];simp
  have b0:bt x 0=(d.toNat:Int):=bt_get x 0 d (by rw [hb];rfl)
  rw [if_neg (by simp),if_pos hx]
  have hI:strings_IndexByte.f (⟨#[34,92,110]⟩:ByteArray) (bt x 0)=some (Lib.indexByte [34,92,110] d):=by
   unfold strings_IndexByte.f;rw [b0];simp
  rw [hI]
  simp only [Option.bind_some]
  by_cases d34:d=34
  ·subst d34
   have e:Lib.indexByte [34,92,110] 34=0:=by decide
   rw [e,wrap_small _ (by omega) (by omega)]
   have e2:bt (⟨#[34,92,10]⟩:ByteArray) 0=34:=by decide
   simp [markL,e2]
  ·by_cases d92:d=92
   ·subst d92
    have e:Lib.indexByte [34,92,110] 92=1:=by decide
    rw [e,wrap_small _ (by omega) (by omega)]
    have e2:bt (⟨#[34,92,10]⟩:ByteArray) 1=92:=by decide
    simp [markL,e2]
   ·by_cases d110:d=110
    ·subst d110
     have e:Lib.indexByte [34,92,110] 110=2:=by decide
     rw [e,wrap_small _ (by omega) (by omega)]
     have e2:bt (⟨#[34,92,10]⟩:ByteArray) 2=10:=by decide
     simp [markL,e2]
    ·have e:¬ (Lib.indexByte [34,92,110] d ≥ 0):=by rw [ge_iff_le,index_ge];simp [d34,d92,d110]
     rw [if_neg e]
     by_cases d120:d=120
     ·subst d120
      have b0':(bt x 0 != 120)=false:=by rw [b0];decide
      rw [b0']
      match r,hl,hb,hz with
      | [],hl,hb,hz =>
       rw [if_pos (by rw [hz];simp)]
       simp [markL,token_reader_mark.j0]
      | [a],hl,hb,hz =>
       rw [if_pos (by rw [hz];simp)]
       simp [markL,token_reader_mark.j0]
      | a :: b :: r',hl,hb,hz =>
       rw [if_neg (by rw [hz];simp;omega)]
       have b1:bt x 1=(a.toNat:Int):=bt_get x 1 a (by rw [hb];rfl)
       have b2:bt x 2=(b.toNat:Int):=bt_get x 2 b (by rw [hb];rfl)
       have h1:strings_IndexByte.f (⟨#[48,49,50,51,52,53,54,55,56,57,97,98,99,100,101,102]⟩:ByteArray) (bt x 1)=some (hexI a):=by
        unfold strings_IndexByte.f;rw [b1];simp [hexI,hexesL]
       have h2:strings_IndexByte.f (⟨#[48,49,50,51,52,53,54,55,56,57,97,98,99,100,101,102]⟩:ByteArray) (bt x 2)=some (hexI b):=by
        unfold strings_IndexByte.f;rw [b2];simp [hexI,hexesL]
       simp only [token_reader_mark.j0,h1,h2,Option.bind_some]
       rw [if_neg (by simp),if_pos (by rw [hz];simp;omega),if_pos (by rw [hz];simp;omega),wrap_small ((i:Int) + 3) (by omega) (by omega)]
       have ra:=hexI_range a
       have rb:=hexI_range b
       by_cases ha:0≤hexI a
       ·rw [if_pos ha]
        by_cases hb2:0≤hexI b
        ·have em:markL (120 :: a :: b :: r')=some (UInt8.ofNat ((hexI a).toNat * 16 + (hexI b).toNat),3):=by simp [markL,ha,hb2]
         rw [em]
         have hv:=hex_bits ⟨(hexI a).toNat,by omega⟩ ⟨(hexI b).toNat,by omega⟩
         simp only [Int.toNat_of_nonneg ha,Int.toNat_of_nonneg hb2] at hv
         rw [hv]
         refine ⟨fun m n hmn=>?_,fun h=>by cases h⟩
         simp only [Option.some.injEq,Prod.mk.injEq] at hmn
         obtain ⟨rfl,rfl⟩:=hmn
         have e3:((UInt8.ofNat ((hexI a).toNat * 16 + (hexI b).toNat)).toNat:Int)=hexI a * 16 + hexI b:=by
          rw [UInt8.toNat_ofNat',Nat.mod_eq_of_lt (by omega)];omega
         rw [e3]
         simp [hb2]
        ·have em:markL (120 :: a :: b :: r')=none:=by simp [markL,hb2]
         rw [em]
         refine ⟨fun m n h=>(by cases h),fun _=>⟨Go.bits .or .i64 (wrap64 (hexI a * 16)) (Go.bits .and .i64 (hexI b) 15) % 256,(i:Int) + 3,?_⟩⟩
         rw [show decide (hexI b ≥ 0)=false from decide_eq_false (by omega)]
       ·rw [if_neg ha]
        have em:markL (120 :: a :: b :: r')=none:=by simp [markL,ha]
        rw [em]
        exact ⟨fun m n h=>(by cases h),fun _=>⟨_,_,rfl⟩⟩
     ·have em:markL (d :: r)=none:=by simp [markL,d34,d92,d110,d120]
      rw [em]
      have b0':(bt x 0 != 120)=true:=by
       rw [b0,bne_iff_ne]
       intro e
       apply d120
       rw [← UInt8.toNat_inj]
       have:d.toNat=120:=by omega
       rw [this];rfl
      rw [b0']
      refine ⟨fun m n h=>(by cases h),fun _=>⟨0,i,?_⟩⟩
      split
      ·simp [token_reader_mark.j0]
      ·simp [token_reader_mark.j0]
def strL:Nat→List UInt8→Option (List UInt8 × Nat)
 | 0,_=>none
 | _ + 1,[]=>none
 | f + 1,c :: r=>if c=34 then some ([],1) else if c=92 then (match markL r with
   | none=>none
   | some (m,n)=>(strL f (r.drop n)).map fun x=>(m :: x.1,n + 1 + x.2))
  else if c < 32 then none else if c=127 then none else (strL f r).map fun x=>(c :: x.1,x.2 + 1)
theorem markL_le (l:List UInt8) (m:UInt8) (n:Nat) (h:markL l=some (m,n)):1≤n∧n≤l.length:=by
 cases l with
 | nil=>cases h
 | cons d r =>
  simp only [markL] at h
  by_cases h1:d=34
  ·rw [if_pos h1] at h;simp only [Option.some.injEq,Prod.mk.injEq] at h;obtain ⟨_,rfl⟩:=h;simp
  ·rw [if_neg h1] at h
   by_cases h2:d=92
   ·rw [if_pos h2] at h;simp only [Option.some.injEq,Prod.mk.injEq] at h;obtain ⟨_,rfl⟩:=h;simp
   ·rw [if_neg h2] at h
    by_cases h3:d=110
    ·rw [if_pos h3] at h;simp only [Option.some.injEq,Prod.mk.injEq] at h;obtain ⟨_,rfl⟩:=h;simp
    ·rw [if_neg h3] at h
     by_cases h4:d=120
     ·rw [if_pos h4] at h
      match r,h with
      | [],h=>cases h
      | [a],h=>cases h
      | a :: b :: r',h =>
       simp only at h
       split at h
       ·simp only [Option.some.injEq,Prod.mk.injEq] at h;obtain ⟨_,rfl⟩:=h;simp
       ·cases h
     ·rw [if_neg h4] at h;cases h
theorem strL_le:∀ (f:Nat) (l t:List UInt8) (n:Nat),strL f l=some (t,n)→1≤n∧n≤l.length∧t.length + 1≤n:=by
 intro f
 induction f with
 | zero=>intro l t n h;simp [strL] at h
 | succ f ih =>
  intro l t n h
  cases l with
  | nil=>simp [strL] at h
  | cons c r =>
   unfold strL at h
   split at h
   ·simp only [Option.some.injEq,Prod.mk.injEq] at h;obtain ⟨rfl,rfl⟩:=h;simp
   ·split at h
    ·split at h
     ·cases h
     ·rename_i m j hm
      obtain ⟨h1,h2⟩:=markL_le r m j hm
      obtain ⟨⟨t',n'⟩,h3,h4⟩:=Option.map_eq_some_iff.mp h
      obtain ⟨g1,g2,g3⟩:=ih _ _ _ h3
      simp only [Prod.mk.injEq] at h4
      obtain ⟨rfl,rfl⟩:=h4
      rw [List.length_drop] at g2
      simp only [List.length_cons]
      omega
    ·split at h
     ·cases h
     ·split at h
      ·cases h
      ·obtain ⟨⟨t',n'⟩,h3,h4⟩:=Option.map_eq_some_iff.mp h
       obtain ⟨g1,g2,g3⟩:=ih _ _ _ h3
       simp only [Prod.mk.injEq] at h4
       obtain ⟨rfl,rfl⟩:=h4
       simp only [List.length_cons]
       omega
def numsOf (l:List UInt8):List Int:=l.map fun c=>(c.toNat:Int)
theorem strOf_nums (l:List UInt8):strOfNums (numsOf l)=⟨l.toArray⟩:=by
 unfold strOfNums numsOf
 congr 2
 rw [List.map_map]
 conv=>rhs;rw [← List.map_id l]
 apply List.map_congr_left
 intro c _
 simp
theorem str_l0 (s:ByteArray) (hs:s.size≤1000000000000):∀ (d k i:Nat) (acc:List UInt8) (f:Nat),i≤s.size→s.size - i≤d→d < k→d < f→acc.length≤i →
  (∀ t n,strL f ((bl s).drop i)=some (t,n)→token_reader_str.l0 k (numsOf acc) s i=some (2,⟨(acc++t).toArray⟩,0,0,true,s,((i + n:Nat):Int))) ∧
  (strL f ((bl s).drop i)=none→∃ p,token_reader_str.l0 k (numsOf acc) s i=some (0,⟨#[]⟩,0,0,false,s,p)):=by
 intro d
 induction d with
 | zero =>
  intro k i acc f hi hd hk hf ha
  obtain ⟨k,rfl⟩:∃ m,k=m + 1:=⟨k - 1,by omega⟩
  obtain ⟨f,rfl⟩:∃ m,f=m + 1:=⟨f - 1,by omega⟩
  obtain rfl:i=s.size:=by omega
  simp only [token_reader_str.l0]
  rw [if_neg (by omega),List.drop_of_length_le (by rw [bl_length];omega)]
  simp [strL]
 | succ d ih =>
  intro k i acc f hi hd hk hf ha
  obtain ⟨k,rfl⟩:∃ m,k=m + 1:=⟨k - 1,by omega⟩
  obtain ⟨f,rfl⟩:∃ m,f=m + 1:=⟨f - 1,by omega⟩
  by_cases hlt:i < s.size
  ·have hw:wrap64 ((i:Int) + 1)=((i + 1:Nat):Int):=by rw [wrap_small _ (by omega) (by omega)];omega
   have hal:(numsOf acc).length < 140737488355328:=by unfold numsOf;rw [List.length_map];omega
   simp only [token_reader_str.l0]
   rw [if_pos (by omega),if_pos (by omega),drop_bl s i hlt,bt_nat s i hlt,hw]
   generalize hc:s[i]=c
   have e34:((c.toNat:Int)=34)↔c=34:=by rw [← UInt8.toNat_inj];show _↔c.toNat=34;omega
   have e92:((c.toNat:Int)=92)↔c=92:=by rw [← UInt8.toNat_inj];show _↔c.toNat=92;omega
   have e127:((c.toNat:Int)=127)↔c=127:=by rw [← UInt8.toNat_inj];show _↔c.toNat=127;omega
   have e32:((c.toNat:Int) < 32)↔c < 32:=by rw [UInt8.lt_iff_toNat_lt];show _↔c.toNat < 32;omega
   simp only [e34,e92,e127,e32]
   unfold strL
   by_cases h34:c=34
   ·rw [if_pos h34,if_pos h34]
    refine ⟨fun t n h=>?_,fun h=>by cases h⟩
    simp only [Option.some.injEq,Prod.mk.injEq] at h
    obtain ⟨rfl,rfl⟩:=h
    rw [strOf_nums,List.append_nil]
   ·rw [if_neg h34,if_neg h34]
    by_cases h92:c=92
    ·rw [if_pos h92,if_pos h92]
     obtain ⟨m1,m2⟩:=mark_eq s hs k (i + 1) (by omega) (by omega)
     cases hm:markL ((bl s).drop (i + 1)) with
     | none =>
      obtain ⟨v,p,hv⟩:=m2 hm
      rw [hv]
      exact ⟨fun t n h=>(by cases h),fun _=>⟨p,by simp⟩⟩
     | some x =>
      obtain ⟨m,n⟩:=x
      rw [m1 m n hm]
      simp only [Option.bind_some,if_true]
      rw [if_pos hal]
      obtain ⟨h1,h2⟩:=markL_le _ m n hm
      rw [List.length_drop,bl_length] at h2
      have hacc:numsOf acc++[(m.toNat:Int)]=numsOf (acc++[m]):=by simp [numsOf]
      rw [hacc]
      obtain ⟨g1,g2⟩:=ih k (i + 1 + n) (acc++[m]) f (by omega) (by omega) (by omega) (by omega) (by simp;omega)
      rw [List.drop_drop]
      constructor
      ·intro t n' h
       obtain ⟨⟨t',n2⟩,h3,h4⟩:=Option.map_eq_some_iff.mp h
       simp only [Prod.mk.injEq] at h4
       obtain ⟨rfl,rfl⟩:=h4
       rw [g1 t' n2 h3,show i + 1 + n + n2=i + (n + 1 + n2) from by omega]
       simp only [List.append_assoc,List.singleton_append]
      ·intro h
       exact g2 (Option.map_eq_none_iff.mp h)
    ·rw [if_neg h92,if_neg h92]
     by_cases h32:c < 32
     ·rw [if_pos h32,if_pos h32]
      exact ⟨fun t n h=>(by cases h),fun _=>⟨_,rfl⟩⟩
     ·rw [if_neg h32,if_neg h32]
      by_cases h127:c=127
      ·rw [if_pos h127,if_pos h127]
       exact ⟨fun t n h=>(by cases h),fun _=>⟨_,rfl⟩⟩
      ·rw [if_neg h127,if_neg h127,if_pos hal]
       have hacc:numsOf acc++[(c.toNat:Int)]=numsOf (acc++[c]):=by simp [numsOf]
       rw [hacc]
       obtain ⟨g1,g2⟩:=ih k (i + 1) (acc++[c]) f (by omega) (by omega) (by omega) (by omega) (by simp;omega)
       constructor
       ·intro t n' h
        obtain ⟨⟨t',n2⟩,h3,h4⟩:=Option.map_eq_some_iff.mp h
        simp only [Prod.mk.injEq] at h4
        obtain ⟨rfl,rfl⟩:=h4
        rw [g1 t' n2 h3,show i + 1 + n2=i + (n2 + 1) from by omega]
        simp only [List.append_assoc,List.singleton_append]
       ·intro h
        exact g2 (Option.map_eq_none_iff.mp h)
  ·obtain rfl:i=s.size:=by omega
   simp only [token_reader_str.l0]
   rw [if_neg (by omega),List.drop_of_length_le (by rw [bl_length];omega)]
   simp [strL]
def lex1:List UInt8→Option (Int × List UInt8 × Int × Nat)
 | []=>none
 | b :: r=>if ofK (b.toNat:Int)=4 then none
  else if ofK (b.toNat:Int)=0 then some (0,(b :: r).take (runN nameU (b :: r)),0,runN nameU (b :: r))
  else if ofK (b.toNat:Int)=1 then (if numOk ((b :: r).take (runN numU (b :: r)))=true then some (1,(b :: r).take (runN numU (b :: r)),numV ((b :: r).take (runN numU (b :: r))),runN numU (b :: r)) else none)
  else if ofK (b.toNat:Int)=2 then (strL (r.length + 1) r).map fun x=>(2,x.1,0,x.2 + 1)
  else some (3,[b],0,1)
theorem lex1_cons (b:UInt8) (r:List UInt8):lex1 (b :: r)=if ofK (b.toNat:Int)=4 then none
  else if ofK (b.toNat:Int)=0 then some (0,(b :: r).take (runN nameU (b :: r)),0,runN nameU (b :: r))
  else if ofK (b.toNat:Int)=1 then (if numOk ((b :: r).take (runN numU (b :: r)))=true then some (1,(b :: r).take (runN numU (b :: r)),numV ((b :: r).take (runN numU (b :: r))),runN numU (b :: r)) else none)
  else if ofK (b.toNat:Int)=2 then (strL (r.length + 1) r).map fun x=>(2,x.1,0,x.2 + 1)
  else some (3,[b],0,1):=rfl
theorem lex1_le (l:List UInt8) (kd:Int) (t:List UInt8) (v:Int) (n:Nat) (h:lex1 l=some (kd,t,v,n)):1≤n∧n≤l.length:=by
 cases l with
 | nil=>cases h
 | cons b r =>
  have hr1:1≤runN nameU (b :: r):=by simp [runN]
  have hr2:1≤runN numU (b :: r):=by simp [runN]
  have hr3:=runN_le nameU (b :: r)
  have hr4:=runN_le numU (b :: r)
  rw [lex1_cons] at h
  split at h
  ·cases h
  ·split at h
   ·simp only [Option.some.injEq,Prod.mk.injEq] at h;obtain ⟨_,_,_,rfl⟩:=h;exact ⟨hr1,hr3⟩
   ·split at h
    ·split at h
     ·simp only [Option.some.injEq,Prod.mk.injEq] at h;obtain ⟨_,_,_,rfl⟩:=h;exact ⟨hr2,hr4⟩
     ·cases h
    ·split at h
     ·obtain ⟨⟨t',n'⟩,h3,h4⟩:=Option.map_eq_some_iff.mp h
      simp only [Prod.mk.injEq] at h4
      obtain ⟨_,_,_,rfl⟩:=h4
      have:=strL_le _ _ _ _ h3
      simp only [List.length_cons];omega
     ·simp only [Option.some.injEq,Prod.mk.injEq] at h;obtain ⟨_,_,_,rfl⟩:=h;simp
theorem tokOne_eq (s:ByteArray) (hs:s.size≤1000000000000) (k i:Nat) (hi:i < s.size) (hk:s.size - i < k) :
  (∀ kd t v n,lex1 ((bl s).drop i)=some (kd,t,v,n)→¬ ofK (bt s i)=4∧tokOne k (ofK (bt s i)) s i=some (kd,⟨t.toArray⟩,v,0,true,s,((i + n:Nat):Int))) ∧
  (lex1 ((bl s).drop i)=none→ofK (bt s i)=4∨∃ a b c d p,tokOne k (ofK (bt s i)) s i=some (a,b,c,d,false,s,p)):=by
 have hn:=name_eq s hs i hi
 have hu:=num_eq s hs i hi
 have ho:=one_eq s hs i hi
 have hw:wrap64 ((i:Int) + 1)=((i + 1:Nat):Int):=by rw [wrap_small _ (by omega) (by omega)];omega
 have hst:token_reader_str.f k s i=token_reader_str.l0 k (numsOf []) s ((i + 1:Nat):Int):=by unfold token_reader_str.f;rw [hw];rfl
 have hl:=str_l0 s hs (s.size - (i + 1)) k (i + 1) [] (((bl s).drop (i + 1)).length + 1) (by omega) (by omega) (by omega) (by rw [List.length_drop,bl_length];omega) (by simp)
 rw [bt_nat s i hi]
 rw [drop_bl s i hi] at *
 have hq:=ofK_range (s[i].toNat:Int)
 rw [lex1_cons]
 unfold tokOne
 by_cases h4:ofK (s[i].toNat:Int)=4
 ·rw [if_pos h4];exact ⟨fun _ _ _ _ h=>(by cases h),fun _=>.inl h4⟩
 ·rw [if_neg h4]
  by_cases h0:ofK (s[i].toNat:Int)=0
  ·rw [if_pos h0,if_pos h0]
   refine ⟨fun kd t v n h=>?_,fun h=>(by cases h)⟩
   simp only [Option.some.injEq,Prod.mk.injEq] at h
   obtain ⟨rfl,rfl,rfl,rfl⟩:=h
   exact ⟨h4,hn⟩
  ·rw [if_neg h0,if_neg h0]
   by_cases h1:ofK (s[i].toNat:Int)=1
   ·rw [if_pos h1,if_pos h1]
    by_cases hok:numOk ((s[i] :: (bl s).drop (i + 1)).take (runN numU (s[i] :: (bl s).drop (i + 1))))=true
    ·rw [if_pos hok]
     refine ⟨fun kd t v n h=>?_,fun h=>(by cases h)⟩
     simp only [Option.some.injEq,Prod.mk.injEq] at h
     obtain ⟨rfl,rfl,rfl,rfl⟩:=h
     rw [hu,hok]
     exact ⟨h4,rfl⟩
    ·rw [if_neg hok]
     rw [Bool.eq_false_iff.mpr hok] at hu
     exact ⟨fun _ _ _ _ h=>(by cases h),fun _=>.inr ⟨_,_,_,_,_,hu⟩⟩
   ·rw [if_neg h1,if_neg h1]
    by_cases h2:ofK (s[i].toNat:Int)=2
    ·rw [if_pos h2,if_pos h2,hst]
     constructor
     ·intro kd t v n h
      obtain ⟨⟨t',n'⟩,h3,h5⟩:=Option.map_eq_some_iff.mp h
      simp only [Prod.mk.injEq] at h5
      obtain ⟨rfl,rfl,rfl,rfl⟩:=h5
      refine ⟨h4,?_⟩
      rw [hl.1 t' n' h3,List.nil_append,show i + 1 + n'=i + (n' + 1) from by omega]
     ·intro h
      obtain ⟨p,hp⟩:=hl.2 (Option.map_eq_none_iff.mp h)
      exact .inr ⟨_,_,_,_,p,hp⟩
    ·rw [if_neg h2,if_neg h2]
     refine ⟨fun kd t v n h=>?_,fun h=>(by cases h)⟩
     simp only [Option.some.injEq,Prod.mk.injEq] at h
     obtain ⟨rfl,rfl,rfl,rfl⟩:=h
     exact ⟨h4,ho⟩
abbrev TokS:=S149
def lexL:Nat→Nat→Nat→List UInt8→List TokS ⊕ (Nat × Int)
 | 0,_,p,_=>.inr (p,0)
 | _ + 1,_,_,[]=>.inl []
 | f + 1,m,p,b :: r=>match lex1 (b :: r) with
  | none=>.inr (p,4)
  | some (kd,t,v,n)=>if m=0 then .inr (p,2) else
   match lexL f (m - 1) (p + n + skipN false ((b :: r).drop n)) (((b :: r).drop n).drop (skipN false ((b :: r).drop n))) with
   | .inl ts=>.inl (⟨kd,⟨t.toArray⟩,v,p⟩ :: ts)
   | .inr e=>.inr e
def endL (s:ByteArray) (acc:List TokS):List TokS ⊕ (Nat × Int)→List TokS × Int × Int
 | .inl ts=>(acc++ts,s.size,0)
 | .inr (p,e)=>([],p,e)
theorem tokLoop_eq (s:ByteArray) (hs:s.size≤1000000000000):∀ (d k i m f:Nat) (acc:List TokS),i≤s.size→s.size - i≤d→d + 1 < k→d < f→acc.length + m=1000 →
  tokLoop k s s acc i=some (endL s acc (lexL f m i ((bl s).drop i))):=by
 intro d
 induction d with
 | zero =>
  intro k i m f acc hi hd hk hf hm
  obtain ⟨k,rfl⟩:∃ m,k=m + 1:=⟨k - 1,by omega⟩
  obtain ⟨f,rfl⟩:∃ m,f=m + 1:=⟨f - 1,by omega⟩
  obtain rfl:i=s.size:=by omega
  simp only [tokLoop]
  rw [if_neg (by omega),List.drop_of_length_le (by rw [bl_length];omega)]
  simp [lexL,endL]
 | succ d ih =>
  intro k i m f acc hi hd hk hf hm
  obtain ⟨k,rfl⟩:∃ m,k=m + 1:=⟨k - 1,by omega⟩
  obtain ⟨f,rfl⟩:∃ m,f=m + 1:=⟨f - 1,by omega⟩
  by_cases hlt:i < s.size
  ·simp only [tokLoop]
   rw [if_pos (by omega),if_pos (by omega)]
   obtain ⟨h1,h2⟩:=tokOne_eq s hs k i hlt (by omega)
   cases hx:lex1 ((bl s).drop i) with
   | none =>
    have e:lexL (f + 1) m i ((bl s).drop i) = .inr (i,4):=by rw [drop_bl s i hlt] at hx ⊢;simp only [lexL,hx]
    rw [e]
    by_cases h4:ofK (bt s i)=4
    ·rw [if_pos h4];rfl
    ·rw [if_neg h4]
     rcases h2 hx with h|⟨a,b,c,d',p,h⟩
     ·exact absurd h h4
     ·rw [h];rfl
   | some x =>
    obtain ⟨kd,t,v,n⟩:=x
    obtain ⟨h4,h5⟩:=h1 kd t v n hx
    obtain ⟨n1,n2⟩:=lex1_le _ _ _ _ _ hx
    rw [List.length_drop,bl_length] at n2
    rw [if_neg h4,h5]
    simp only [Option.bind_some]
    rw [if_neg (by simp)]
    have hsk:=skip_eq s hs k (i + n) (by omega) (by omega)
    have hle:=skipN_le false ((bl s).drop (i + n))
    rw [List.length_drop,bl_length] at hle
    by_cases hmm:m=0
    ·have e:lexL (f + 1) m i ((bl s).drop i) = .inr (i,2):=by rw [drop_bl s i hlt] at hx ⊢;simp only [lexL,hx];rw [if_pos hmm]
     rw [if_pos (by omega),e];rfl
    ·have e:lexL (f + 1) m i ((bl s).drop i)=match lexL f (m - 1) (i + n + skipN false ((bl s).drop (i + n))) ((bl s).drop (i + n + skipN false ((bl s).drop (i + n)))) with
       | .inl ts=>.inl (⟨kd,⟨t.toArray⟩,v,i⟩ :: ts)
       | .inr e=>.inr e:=by
      rw [← List.drop_drop,← List.drop_drop]
      rw [drop_bl s i hlt] at hx ⊢
      simp only [lexL,hx]
      rw [if_neg hmm,show (bl s).drop (i + n)=(s[i] :: (bl s).drop (i + 1)).drop n from by rw [← drop_bl s i hlt,List.drop_drop]]
     rw [if_neg (by omega),hsk]
     simp only [Option.bind_some]
     rw [ih k _ (m - 1) f _ (by omega) (by omega) (by omega) (by omega) (by simp;omega),e]
     cases lexL f (m - 1) (i + n + skipN false ((bl s).drop (i + n))) ((bl s).drop (i + n + skipN false ((bl s).drop (i + n)))) with
     | inl ts=>simp [endL]
     | inr e=>rfl
  ·obtain rfl:i=s.size:=by omega
   simp only [tokLoop]
   rw [if_neg (by omega),List.drop_of_length_le (by rw [bl_length];omega)]
   simp [lexL,endL]
def allL (l:List UInt8):List TokS ⊕ (Nat × Int):=lexL (l.length + 1) 1000 (skipN false l) (l.drop (skipN false l))
def allF (s:ByteArray):List TokS × Int × Int:=if s.size > 5000 then ([],0,2) else endL s [] (allL (bl s))
theorem tokAll_eq (s:ByteArray):tokAll (s.size + 3) s=some (allF s):=by
 unfold tokAll allF
 by_cases h:s.size > 5000
 ·rw [if_pos (by omega),if_pos h]
 ·rw [if_neg (by omega),if_neg h]
  have hsk:=skip_eq s (by omega) (s.size + 3) 0 (by omega) (by omega)
  have hle:=skipN_le false (bl s)
  rw [bl_length] at hle
  simp only [Int.natCast_zero,Nat.zero_add,List.drop_zero] at hsk
  rw [hsk]
  simp only [Option.bind_some]
  unfold allL
  exact tokLoop_eq s (by omega) s.size (s.size + 3) (skipN false (bl s)) 1000 ((bl s).length + 1) [] hle (by omega) (by omega) (by rw [bl_length];omega) (by simp)
def token_All.f (a0:ByteArray):Option (List TokS × Int × Int):=some (allF a0)
theorem token_All.calls (a0:ByteArray) (r1:List S149) (r2:Int) (r3:Int) (w:World) (hG:GInv w) (h:token_All.f a0=some (r1,r2,r3)) :
  Calls Tryz.prog 36 #[.string a0] w fun e w'=>∃ v0_:Value,e = .returned (.tuple #[v0_,.int .i64 r2,.int .i64 r3])∧Kd.R k149 149 w' w.heap.size (fun _=>True) v0_ r1∧Below w.heap.size w w' :=
 tokAll_walk (a0.size + 3) a0 r1 r2 r3 w hG (by rw [tokAll_eq];exact h)
def preE (ts:List TokS):List TokS ⊕ (Nat × Int)→List TokS ⊕ (Nat × Int)
 | .inl us=>.inl (ts++us)
 | .inr e=>.inr e
theorem lexL_step (f m p:Nat) (b:UInt8) (r:List UInt8):lexL (f + 1) m p (b :: r)=match lex1 (b :: r) with
  | none=>.inr (p,4)
  | some (kd,t,v,n)=>if m=0 then .inr (p,2) else
   preE [⟨kd,⟨t.toArray⟩,v,p⟩] (lexL f (m - 1) (p + n + skipN false ((b :: r).drop n)) (((b :: r).drop n).drop (skipN false ((b :: r).drop n)))):=by
 rw [lexL]
 cases h:lex1 (b :: r) with
 | none=>rfl
 | some y =>
  obtain ⟨kd,t,v,n⟩:=y
  dsimp only
  by_cases hm:m=0
  ·rw [if_pos hm,if_pos hm]
  ·rw [if_neg hm,if_neg hm]
   cases lexL f (m - 1) (p + n + skipN false ((b :: r).drop n)) (((b :: r).drop n).drop (skipN false ((b :: r).drop n))) <;> rfl
theorem lexL_fuel:∀ f g m p l,l.length < f→l.length < g→lexL f m p l=lexL g m p l:=by
 intro f
 induction f with
 | zero=>intro g m p l h _;omega
 | succ f ih =>
  intro g m p l hf hg
  obtain ⟨g,rfl⟩:∃ m,g=m + 1:=⟨g - 1,by omega⟩
  cases l with
  | nil=>rfl
  | cons b r =>
   rw [lexL_step,lexL_step]
   cases h:lex1 (b :: r) with
   | none=>rfl
   | some x =>
    obtain ⟨kd,t,v,n⟩:=x
    obtain ⟨n1,n2⟩:=lex1_le _ _ _ _ _ h
    simp only
    split
    ·rfl
    ·rw [ih g]
     ·simp only [List.length_drop];omega
     ·simp only [List.length_drop];omega
def lx (m p:Nat) (l:List UInt8):List TokS ⊕ (Nat × Int):=lexL (l.length + 1) m p l
def scan (m p:Nat) (l:List UInt8):List TokS ⊕ (Nat × Int):=lx m (p + skipN false l) (l.drop (skipN false l))
theorem lx_nil (m p:Nat):lx m p [] = .inl []:=rfl
theorem lx_cons (m p:Nat) (b:UInt8) (r:List UInt8):lx m p (b :: r)=match lex1 (b :: r) with
  | none=>.inr (p,4)
  | some (kd,t,v,n)=>if m=0 then .inr (p,2) else preE [⟨kd,⟨t.toArray⟩,v,p⟩] (scan (m - 1) (p + n) ((b :: r).drop n)):=by
 unfold lx scan
 rw [lexL_step]
 cases h:lex1 (b :: r) with
 | none=>rfl
 | some x =>
  obtain ⟨kd,t,v,n⟩:=x
  obtain ⟨n1,n2⟩:=lex1_le _ _ _ _ _ h
  simp only
  split
  ·rfl
  ·unfold lx
   rw [lexL_fuel _ ((((b :: r).drop n).drop (skipN false ((b :: r).drop n))).length + 1)]
   ·simp only [List.length_drop];omega
   ·omega
theorem all_scan (l:List UInt8):allL l=scan 1000 0 l:=by
 unfold allL scan lx
 rw [Nat.zero_add]
 exact lexL_fuel _ _ _ _ _ (by simp only [List.length_drop];omega) (by omega)
theorem scan_len:∀ (d m p:Nat) (a:List UInt8) (ts:List TokS),a.length≤d→scan m p a = .inl ts→ts.length≤a.length∧ts.length≤m:=by
 intro d
 induction d with
 | zero =>
  intro m p a ts hd h
  obtain rfl:a=[]:=List.length_eq_zero_iff.mp (by omega)
  simp only [scan,skipN,List.drop_nil,lx_nil,Sum.inl.injEq] at h
  subst h;simp
 | succ d ih =>
  intro m p a ts hd h
  unfold scan at h
  have hk:=skipN_le false a
  generalize skipN false a=k at h hk
  cases hl:a.drop k with
  | nil=>rw [hl,lx_nil] at h;simp only [Sum.inl.injEq] at h;subst h;simp
  | cons c r =>
   have hz:=congrArg List.length hl
   rw [List.length_drop,List.length_cons] at hz
   rw [hl,lx_cons] at h
   cases hx:lex1 (c :: r) with
   | none=>rw [hx] at h;cases h
   | some y =>
    obtain ⟨kd,t,v,n⟩:=y
    obtain ⟨n1,n2⟩:=lex1_le _ _ _ _ _ hx
    rw [hx] at h
    simp only at h
    split at h
    ·cases h
    ·rename_i hm
     cases hs:scan (m - 1) (p + k + n) ((c :: r).drop n) with
     | inr e=>rw [hs] at h;cases h
     | inl us =>
      rw [hs] at h
      simp only [preE,Sum.inl.injEq] at h
      subst h
      simp only [List.length_cons] at n2
      obtain ⟨g1,g2⟩:=ih _ _ _ _ (by simp only [List.length_drop,List.length_cons];omega) hs
      simp only [List.length_drop,List.length_cons] at g1
      simp only [List.length_append,List.length_cons,List.length_nil]
      omega
theorem rd_at (xs:List TokS) (i:Nat) (t:TokS) (h:xs[i]?=some t):rd_T149 xs (i:Int)=t:=by
 unfold rd_T149
 rw [Int.toNat_natCast,List.getD_eq_getElem?_getD,h]
 rfl
theorem allF_len (s:ByteArray):(allF s).1.length≤1000:=by
 unfold allF
 split
 ·simp
 ·rw [all_scan]
  cases h:scan 1000 0 (bl s) with
  | inr e=>obtain ⟨p,e⟩:=e;simp [endL]
  | inl ts=>have:=scan_len _ _ _ _ _ (Nat.le_refl _) h;simp [endL];omega
theorem allF_big (s:ByteArray) (h:5000 < s.size):(allF s).2.2≠0:=by
 unfold allF
 rw [if_pos (by omega)]
 decide
abbrev FieldS:=S36
abbrev MsgS:=S34
abbrev ValS:=S92
abbrev EnumS:=S68
structure PS where
 r:List TokS
 b:Bool
def zT:TokS:=⟨0,⟨#[]⟩,0,0⟩
def pAt (e:Int) (s:PS):Int:=match s.r with
 | []=>e
 | t :: _=>t.f3
def pTake (k:Int) (s:PS):TokS × PS:=if s.b=true then (zT,s) else match s.r with
 | []=>(zT,⟨[],true⟩)
 | t :: r=>if t.f0=k then (t,⟨r,false⟩) else (zT,⟨t :: r,true⟩)
def isT (k:Int) (x:List UInt8) (t:TokS):Bool:=t.f0 == k && bl t.f1 == x
def pIs (j:Nat) (k:Int) (x:List UInt8) (s:PS):Bool:=if s.b=true then false else match s.r[j]? with
 | some t=>isT k x t
 | none=>false
def pSign (x:List UInt8) (s:PS):Bool × PS:=if pIs 0 3 x s=true then (true,⟨s.r.tail,s.b⟩) else (false,s)
def pMust (x:List UInt8) (s:PS):PS:=if pIs 0 3 x s=true then ⟨s.r.tail,s.b⟩ else ⟨s.r,true⟩
def pNamed (s:PS):(ByteArray × Int) × PS :=
 (((pTake 0 s).1.f1,(pTake 1 (pMust [61] (pTake 0 s).2)).1.f2),pMust [59] (pTake 1 (pMust [61] (pTake 0 s).2)).2)
def pField (e one:Int) (s:PS):FieldS × PS :=
 (⟨(pTake 0 s).1.f1,⟨#[]⟩,false,one,(pNamed (pTake 0 s).2).1.1,(pNamed (pTake 0 s).2).1.2,pAt e s⟩,(pNamed (pTake 0 s).2).2)
def pLoop {α:Type} (x:List UInt8) (P:α→Int→PS→α × PS):Nat→α→Int→PS→α × PS
 | 0,a,_,s=>(a,s)
 | f + 1,a,e,s=>if s.b=true then (a,s) else if (pSign x s).1=true then (a,(pSign x s).2) else pLoop x P f (P a e s).1 e (P a e s).2
def mu (s:PS):Nat:=if s.b=true then 0 else s.r.length + 1
def pLoopW {α:Type} (x:List UInt8) (P:α→Int→PS→α × PS) (a:α) (e:Int) (s:PS):α × PS:=pLoop x P (mu s) a e s
def pOne (one:Int) (l:List FieldS) (e:Int) (s:PS):List FieldS × PS:=(l++[(pField e one s).1],(pField e one s).2)
def pNums:Nat→List Int→PS→List Int × PS
 | 0,a,s=>(a,s)
 | f + 1,a,s=>if (pTake 1 s).2.b=true then (a++[(pTake 1 s).1.f2],(pTake 1 s).2) else if (pSign [44] (pTake 1 s).2).1=true then pNums f (a++[(pTake 1 s).1.f2]) (pSign [44] (pTake 1 s).2).2 else (a++[(pTake 1 s).1.f2],(pTake 1 s).2)
abbrev MAcc:=List FieldS × List ByteArray × List Int
def repF (f:FieldS) (at_:Int):FieldS:=⟨f.f0,f.f1,true,f.f3,f.f4,f.f5,at_⟩
def pRep (m:MAcc) (e:Int) (s:PS):MAcc × PS:=((m.1++[repF (pField e 0 (pTake 0 s).2).1 (pAt e s)],m.2.1,m.2.2),(pField e 0 (pTake 0 s).2).2)
def pPlain (m:MAcc) (e:Int) (s:PS):MAcc × PS:=((m.1++[(pField e 0 s).1],m.2.1,m.2.2),(pField e 0 s).2)
def pMapT (s:PS):(ByteArray × ByteArray) × PS :=
 (((pTake 0 (pMust [60] (pTake 0 s).2)).1.f1,(pTake 0 (pMust [44] (pTake 0 (pMust [60] (pTake 0 s).2)).2)).1.f1),pMust [62] (pTake 0 (pMust [44] (pTake 0 (pMust [60] (pTake 0 s).2)).2)).2)
def pMap (m:MAcc) (e:Int) (s:PS):MAcc × PS :=
 ((m.1++[⟨(pMapT s).1.2,(pMapT s).1.1,false,0,(pNamed (pMapT s).2).1.1,(pNamed (pMapT s).2).1.2,pAt e s⟩],m.2.1,m.2.2),(pNamed (pMapT s).2).2)
def pOneof (m:MAcc) (e:Int) (s:PS):MAcc × PS :=
 let z:=pLoopW [125] (pOne ((m.2.1.length:Int) + 1)) m.1 e (pMust [123] (pTake 0 (pTake 0 s).2).2)
 ((z.1,m.2.1++[(pTake 0 (pTake 0 s).2).1.f1],m.2.2),z.2)
def pRes (m:MAcc) (_:Int) (s:PS):MAcc × PS :=
 let z:=pNums ((pTake 0 s).2.r.length + 1) m.2.2 (pTake 0 s).2
 ((m.1,m.2.1,z.1),pMust [59] z.2)
def wRep:List UInt8:=[114,101,112,101,97,116,101,100]
def wOneof:List UInt8:=[111,110,101,111,102]
def wRes:List UInt8:=[114,101,115,101,114,118,101,100]
def wMap:List UInt8:=[109,97,112]
def wMsg:List UInt8:=[109,101,115,115,97,103,101]
def wEnum:List UInt8:=[101,110,117,109]
def itemK (s:PS):Nat:=if pIs 0 0 wRep s=true then 1 else if pIs 0 0 wOneof s=true then 2 else if pIs 0 0 wRes s=true then 3 else if (pIs 0 0 wMap s && pIs 1 3 [60] s)=true then 4 else 0
def pItem (m:MAcc) (e:Int) (s:PS):MAcc × PS:=if itemK s=1 then pRep m e s else if itemK s=2 then pOneof m e s else if itemK s=3 then pRes m e s else if itemK s=4 then pMap m e s else pPlain m e s
def pMsg (e:Int) (s:PS):MsgS × PS :=
 let z:=pLoopW [125] pItem ([],[],[]) e (pMust [123] (pTake 0 (pTake 0 s).2).2)
 (⟨(pTake 0 (pTake 0 s).2).1.f1,z.1.1,z.1.2.1,z.1.2.2,pAt e s⟩,z.2)
def pVal (l:List ValS) (e:Int) (s:PS):List ValS × PS:=(l++[⟨(pNamed s).1.1,(pNamed s).1.2,pAt e s⟩],(pNamed s).2)
def pEnum (e:Int) (s:PS):EnumS × PS :=
 let z:=pLoopW [125] pVal [] e (pMust [123] (pTake 0 (pTake 0 s).2).2)
 (⟨(pTake 0 (pTake 0 s).2).1.f1,z.1,pAt e s⟩,z.2)
abbrev FileS:=List MsgS × List EnumS
def pTop1 (f:FileS) (e:Int) (s:PS):FileS × PS :=
 if pIs 0 0 wMsg s=true then ((f.1++[(pMsg e s).1],f.2),(pMsg e s).2) else if pIs 0 0 wEnum s=true then ((f.1,f.2++[(pEnum e s).1]),(pEnum e s).2) else (f,⟨s.r,true⟩)
def pTop:Nat→FileS→Int→PS→FileS × PS
 | 0,f,_,s=>(f,s)
 | k + 1,f,e,s=>if s.b=true then (f,s) else if s.r=[] then (f,s) else pTop k (pTop1 f e s).1 e (pTop1 f e s).2
def pAll (e:Int) (l:List TokS):FileS × PS:=pTop (l.length + 1) ([],[]) e ⟨l,false⟩
def parseF (s:ByteArray):FileS × Int × Int:=if (allF s).2.2≠0 then (([],[]),(allF s).2.1,(allF s).2.2) else
 if (pAll s.size (allF s).1).2.b=true then (([],[]),pAt s.size (pAll s.size (allF s).1).2,4) else ((pAll s.size (allF s).1).1,s.size,0)
end Go.Proofs.YtddpjjhekhompaaGreatDoor.P
