/- Part 8 of what the law TableMore leans on: contracts of the functions that it reaches, and plain lemmas. No condition. -/
import Derived.Lib.Strings
import Derived.Lib.Slices
import Derived.Lib.Walk
import Derived.Lib.Builder
import Derived.Lib.UnsafeStr
import Derived.Lib.MakeNoZero
import Derived.Laws.Externs
import Derived.Lib.SmallJoins
import Derived.Lib.ItoaMem
import Derived.Test.YtddpjjhekhompaaGreatDoorMTableMore7
namespace Go.Proofs.YtddpjjhekhompaaGreatDoor.P
open Go.RowKit Go.Proofs.YtddpjjhekhompaaGreatDoorW.PrintWords Go.Proofs.YtddpjjhekhompaaGreatDoorW.PrintLast Go.Proofs.YtddpjjhekhompaaGreatDoorW.PrintMore
attribute [local go_sem] max2_int max_two
set_option linter.unusedVariables false
set_option linter.unusedSimpArgs false
def findW (p:S51→Bool) (l0:List (S57)) (m:Int):S51 × Bool :=
 if 0≤m∧m < l0.length then (if idxW p (rd_T57 l0 m).f1 0 < 0 then (z51,false) else (rd_T51 (rd_T57 l0 m).f1 (idxW p (rd_T57 l0 m).f1 0),true)) else (z51,false)
theorem idxW_lt {α:Type} (p:α→Bool):∀ (l:List α) (s:Int),idxW p l s = -1∨s≤idxW p l s∧idxW p l s < s + l.length
 | [],_=>.inl rfl
 | x :: r,s=>by
  rw [idxW]
  by_cases h:p x=true
  ·rw [if_pos h];right;simp only [List.length_cons];omega
  ·rw [if_neg h]
   rcases idxW_lt p r (s + 1) with h1|h1
   ·exact .inl h1
   ·right;simp only [List.length_cons];omega
def FindP (w:World) (r:S51 × Bool) (e:Ending) (w':World):Prop:=e = .returned (.tuple #[.agg #[.int .i64 r.1.f0,.string r.1.f1,.int .i64 r.1.f2,.int .i64 r.1.f3,.bool r.1.f4,.int .i64 r.1.f5,.int .i64 r.1.f6],.bool r.2])∧Below w.heap.size w w'
theorem put7_blk {W:World} {g:Nat} {t:TypeId} {a0 a1 a2 a3 a4 a5 a6:Value} (h:W.heap[g]?=some (.cells #[a0,a1,a2,a3,a4,a5,a6] t (0,0))) (b0 b1 b2 b3 b4 b5 b6:Value):(((((((W.setCell ⟨g,0,none⟩ b0).setCell ⟨g,1,none⟩ b1).setCell ⟨g,2,none⟩ b2).setCell ⟨g,3,none⟩ b3).setCell ⟨g,4,none⟩ b4).setCell ⟨g,5,none⟩ b5).setCell ⟨g,6,none⟩ b6).heap[g]?=some (.cells #[b0,b1,b2,b3,b4,b5,b6] t (0,0)) :=
 blk_put (cs:=#[b0,b1,b2,b3,b4,b5,a6]) (blk_put (cs:=#[b0,b1,b2,b3,b4,a5,a6]) (blk_put (cs:=#[b0,b1,b2,b3,a4,a5,a6]) (blk_put (cs:=#[b0,b1,b2,a3,a4,a5,a6]) (blk_put (cs:=#[b0,b1,a2,a3,a4,a5,a6]) (blk_put (cs:=#[b0,a1,a2,a3,a4,a5,a6]) (blk_put h 0 b0 rfl) 1 b1 rfl) 2 b2 rfl) 3 b3 rfl) 4 b4 rfl) 5 b5 rfl) 6 b6 rfl
theorem put7_low {w W:World} {g:Nat} (hb:Below w.heap.size w W) (hg:w.heap.size≤g) (b0 b1 b2 b3 b4 b5 b6:Value):Below w.heap.size w (((((((W.setCell ⟨g,0,none⟩ b0).setCell ⟨g,1,none⟩ b1).setCell ⟨g,2,none⟩ b2).setCell ⟨g,3,none⟩ b3).setCell ⟨g,4,none⟩ b4).setCell ⟨g,5,none⟩ b5).setCell ⟨g,6,none⟩ b6) :=
 below_set (below_set (below_set (below_set (below_set (below_set (below_set hb hg) hg) hg) hg) hg) hg) hg
set_option maxRecDepth 100000 in
set_option maxHeartbeats 4000000 in
theorem find_name (A0 A1:Option Addr) (c0 c1:Nat) (l0:List (S57)) (l1:List (S119)) (m:Int) (nb:Nat) (nm:ByteArray) (w:World) (hC:k57.C w A0 l0.length l0) (hc0:l0.length≤c0) (hn:w.heap[nb]?=some (.cells #[.string nm] 9 (0,0))) :
  Calls Tryz.prog 64 #[.agg #[.slice A0 l0.length c0,.slice A1 l1.length c1],.int .i64 m,.func (.func 65) #[] #[.pointer (some ⟨nb,0,none⟩)]] w (FindP w (findW (fun x=>hasName x nm) l0 m)):=by
 have HC:=Y0 hC
 have HN:=Y0 hn
 have hm1:=Kd.C_max hC
 clear hC hn
 by_cases hin:0≤m∧m < l0.length
 ·obtain ⟨i,rfl⟩:∃ i:Nat,m=(i:Int):=⟨m.toNat,J7⟩
  have d3:(0:Int)≤(i:Int):=hin.1
  have d4:(i:Int) < (l0.length:Int):=hin.2
  have hf:findW (fun x=>hasName x nm) l0 i=if idxW (fun x=>hasName x nm) (rd_T57 l0 i).f1 0 < 0 then (z51,false) else (rd_T51 (rd_T57 l0 i).f1 (idxW (fun x=>hasName x nm) (rd_T57 l0 i).f1 0),true):=by unfold findW;rw [if_pos hin]
  have hi:table_in.f i 0 ((l0.length:Int) - 1)=some true:=by
   unfold table_in.f
   rw [if_pos d3,decide_eq_true J7]
  have HI:=Y0 hi
  rw [hf]
  clear hf hi hin
  obtain ⟨ad,A3,c3,had,z0,z1,lc3,kc3⟩:=at_T57 HC.out i d3 d4
  subst had
  rw [Int.toNat_natCast] at z0 z1
  have HK:=Y0 kc3
  clear kc3
  generalize rd_T57 l0 i=x at *
  obtain ⟨q,hq⟩:∃ q,q=idxW (fun x=>hasName x nm) x.f1 0:=⟨_,rfl⟩
  have hqb:=idxW_lt (fun x=>hasName x nm) x.f1 0
  rw [← hq] at hqb ⊢
  have HQ:=Y0 hq
  clear hq
  by_cases hlt:q < 0
  ·rw [if_pos hlt]
   have t1:decide (q < 0)=true:=decide_eq_true hlt
   clear hqb hlt
   go_enter Tryz.func64,Tryz.ntmps64
   go_wp2_with fail
   have e0:(w.alloc (.cells #[.slice (some ad) l0.length c0,.slice A1 l1.length c1] 46 (0,0))).heap.size=w.heap.size + 1:=World.size_alloc _ _
   have h1:=below_alloc (Below.refl w.heap.size w) (.cells #[.slice (some ad) l0.length c0,.slice A1 l1.length c1] 46 (0,0))
   have h2:=blk_alloc (blk_new w (.cells #[.slice (some ad) l0.length c0,.slice A1 l1.length c1] 46 (0,0))) (.cells #[.int .i64 0,.string (⟨#[]⟩:ByteArray),.int .i64 0,.int .i64 0,.bool false,.int .i64 0,.int .i64 0] 51 (0,0))
   have h3:=blk_new (w.alloc (.cells #[.slice (some ad) l0.length c0,.slice A1 l1.length c1] 46 (0,0))) (.cells #[.int .i64 0,.string (⟨#[]⟩:ByteArray),.int .i64 0,.int .i64 0,.bool false,.int .i64 0,.int .i64 0] 51 (0,0))
   have h4:=h1.trans ((below_alloc (Below.refl _ (w.alloc (.cells #[.slice (some ad) l0.length c0,.slice A1 l1.length c1] 46 (0,0)))) (.cells #[.int .i64 0,.string (⟨#[]⟩:ByteArray),.int .i64 0,.int .i64 0,.bool false,.int .i64 0,.int .i64 0] 51 (0,0))).mono h1.size)
   rw [e0] at h3
   generalize (w.alloc (.cells #[.slice (some ad) l0.length c0,.slice A1 l1.length c1] 46 (0,0))).alloc (.cells #[.int .i64 0,.string (⟨#[]⟩:ByteArray),.int .i64 0,.int .i64 0,.bool false,.int .i64 0,.int .i64 0] 51 (0,0))=V0 at *
   refine (table_in.calls i 0 ((l0.length:Int) - 1) true _ HI.out).mono ?_
   rintro e V1 ⟨rfl,hd⟩
   have HR:=Y0 (blk_below h3 hd.below)
   have HX:=Y0 (blk_below h2 hd.below)
   have HB:=Y0 (below_step h4 hd.below)
   clear e0 h1 h2 h3 h4 hd HI
   have hg:w.heap.size≤w.heap.size + 1:=Nat.le_succ _
   have x0:_=some (Value.slice _ _ _):=(blk_cell HX.out 0).trans rfl
   have Z0:=Y0 z0
   have Z1:=Y0 z1
   clear z0 z1
   have z1:=(HB.out.cell (World.block_lt_of_cell? w _ Z1.out)).trans Z1.out
   go_wp2_with fail
   have hcon:=idx_find x.f1 A3 c3 nb nm V1 (Kd.C_below HK.out HB.out) lc3 (blk_below HN.out HB.out)
   rw [← HQ.out] at hcon
   refine hcon.mono ?_
   clear hcon
   rintro e V2 ⟨rfl,hb2⟩
   have HR2:=Y0 (blk_below HR.out hb2)
   have HX2:=Y0 (blk_below HX.out hb2)
   have HB2:=Y0 (below_step HB.out hb2)
   clear HR HX HB hb2 x0 z1
   have HR:=Y0 HR2.out
   have HB:=Y0 HB2.out
   clear HR2 HB2
   have x0:_=some (Value.slice _ _ _):=(blk_cell HX2.out 0).trans rfl
   have z1:=(HB.out.cell (World.block_lt_of_cell? w _ Z1.out)).trans Z1.out
   have r0:_=some (Value.int .i64 0):=(blk_cell HR.out 0).trans rfl
   have y0:=blk_frozen HR.out 0
   have r1:_=some (Value.string (⟨#[]⟩:ByteArray)):=(blk_cell HR.out 1).trans rfl
   have y1:=blk_frozen HR.out 1
   have r2:_=some (Value.int .i64 0):=(blk_cell HR.out 2).trans rfl
   have y2:=blk_frozen HR.out 2
   have r3:_=some (Value.int .i64 0):=(blk_cell HR.out 3).trans rfl
   have y3:=blk_frozen HR.out 3
   have r4:_=some (Value.bool false):=(blk_cell HR.out 4).trans rfl
   have y4:=blk_frozen HR.out 4
   have r5:_=some (Value.int .i64 0):=(blk_cell HR.out 5).trans rfl
   have y5:=blk_frozen HR.out 5
   have r6:_=some (Value.int .i64 0):=(blk_cell HR.out 6).trans rfl
   have y6:=blk_frozen HR.out 6
   go_wp2
   have h5:=put7_blk HR.out (.int .i64 0) (.string (⟨#[]⟩:ByteArray)) (.int .i64 0) (.int .i64 0) (.bool false) (.int .i64 0) (.int .i64 0)
   have h6:=put7_low HB.out hg (.int .i64 0) (.string (⟨#[]⟩:ByteArray)) (.int .i64 0) (.int .i64 0) (.bool false) (.int .i64 0) (.int .i64 0)
   refine bodyPost_ret (results_ct rfl _ _ (w.heap.size + 1) 51 _ (0,0) _ rfl h5 Tryz.underlying51 rfl J0) rfl ⟨rfl,h6⟩
  ·rw [if_neg hlt]
   have t1:decide (q < 0)=false:=decide_eq_false hlt
   obtain ⟨j,rfl⟩:∃ j:Nat,q=(j:Int):=⟨q.toNat,J7⟩
   have d5:(0:Int)≤(j:Int):=by omega
   have d6:(j:Int) < (x.f1.length:Int):=by omega
   have hm2:=Kd.C_max HK.out
   clear hqb hlt
   obtain ⟨ad2,had2,w0,w1,w2,w3,w4,w5,w6⟩:=at_T51 HK.out j d5 d6
   subst had2
   rw [Int.toNat_natCast] at w0 w1 w2 w3 w4 w5 w6
   generalize rd_T51 x.f1 j=v at *
   have W0:=Y0 w0
   have W1:=Y0 w1
   have W2:=Y0 w2
   have W3:=Y0 w3
   have W4:=Y0 w4
   have W5:=Y0 w5
   have W6:=Y0 w6
   clear w0 w1 w2 w3 w4 w5 w6
   go_enter Tryz.func64,Tryz.ntmps64
   go_wp2_with fail
   have e0:(w.alloc (.cells #[.slice (some ad) l0.length c0,.slice A1 l1.length c1] 46 (0,0))).heap.size=w.heap.size + 1:=World.size_alloc _ _
   have h1:=below_alloc (Below.refl w.heap.size w) (.cells #[.slice (some ad) l0.length c0,.slice A1 l1.length c1] 46 (0,0))
   have h2:=blk_alloc (blk_new w (.cells #[.slice (some ad) l0.length c0,.slice A1 l1.length c1] 46 (0,0))) (.cells #[.int .i64 0,.string (⟨#[]⟩:ByteArray),.int .i64 0,.int .i64 0,.bool false,.int .i64 0,.int .i64 0] 51 (0,0))
   have h3:=blk_new (w.alloc (.cells #[.slice (some ad) l0.length c0,.slice A1 l1.length c1] 46 (0,0))) (.cells #[.int .i64 0,.string (⟨#[]⟩:ByteArray),.int .i64 0,.int .i64 0,.bool false,.int .i64 0,.int .i64 0] 51 (0,0))
   have h4:=h1.trans ((below_alloc (Below.refl _ (w.alloc (.cells #[.slice (some ad) l0.length c0,.slice A1 l1.length c1] 46 (0,0)))) (.cells #[.int .i64 0,.string (⟨#[]⟩:ByteArray),.int .i64 0,.int .i64 0,.bool false,.int .i64 0,.int .i64 0] 51 (0,0))).mono h1.size)
   rw [e0] at h3
   generalize (w.alloc (.cells #[.slice (some ad) l0.length c0,.slice A1 l1.length c1] 46 (0,0))).alloc (.cells #[.int .i64 0,.string (⟨#[]⟩:ByteArray),.int .i64 0,.int .i64 0,.bool false,.int .i64 0,.int .i64 0] 51 (0,0))=V0 at *
   refine (table_in.calls i 0 ((l0.length:Int) - 1) true _ HI.out).mono ?_
   rintro e V1 ⟨rfl,hd⟩
   have HR:=Y0 (blk_below h3 hd.below)
   have HX:=Y0 (blk_below h2 hd.below)
   have HB:=Y0 (below_step h4 hd.below)
   clear e0 h1 h2 h3 h4 hd HI
   have hg:w.heap.size≤w.heap.size + 1:=Nat.le_succ _
   have x0:_=some (Value.slice _ _ _):=(blk_cell HX.out 0).trans rfl
   have Z0:=Y0 z0
   have Z1:=Y0 z1
   clear z0 z1
   have z1:=(HB.out.cell (World.block_lt_of_cell? w _ Z1.out)).trans Z1.out
   go_wp2_with fail
   have hcon:=idx_find x.f1 (some ad2) c3 nb nm V1 (Kd.C_below HK.out HB.out) lc3 (blk_below HN.out HB.out)
   rw [← HQ.out] at hcon
   refine hcon.mono ?_
   clear hcon
   rintro e V2 ⟨rfl,hb2⟩
   have HR2:=Y0 (blk_below HR.out hb2)
   have HX2:=Y0 (blk_below HX.out hb2)
   have HB2:=Y0 (below_step HB.out hb2)
   clear HR HX HB hb2 x0 z1
   have HR:=Y0 HR2.out
   have HB:=Y0 HB2.out
   clear HR2 HB2
   have x0:_=some (Value.slice _ _ _):=(blk_cell HX2.out 0).trans rfl
   have z1:=(HB.out.cell (World.block_lt_of_cell? w _ Z1.out)).trans Z1.out
   have r0:_=some (Value.int .i64 0):=(blk_cell HR.out 0).trans rfl
   have y0:=blk_frozen HR.out 0
   have r1:_=some (Value.string (⟨#[]⟩:ByteArray)):=(blk_cell HR.out 1).trans rfl
   have y1:=blk_frozen HR.out 1
   have r2:_=some (Value.int .i64 0):=(blk_cell HR.out 2).trans rfl
   have y2:=blk_frozen HR.out 2
   have r3:_=some (Value.int .i64 0):=(blk_cell HR.out 3).trans rfl
   have y3:=blk_frozen HR.out 3
   have r4:_=some (Value.bool false):=(blk_cell HR.out 4).trans rfl
   have y4:=blk_frozen HR.out 4
   have r5:_=some (Value.int .i64 0):=(blk_cell HR.out 5).trans rfl
   have y5:=blk_frozen HR.out 5
   have r6:_=some (Value.int .i64 0):=(blk_cell HR.out 6).trans rfl
   have y6:=blk_frozen HR.out 6
   have w0:=(HB.out.cell (World.block_lt_of_cell? w _ W0.out)).trans W0.out
   have w1:=(HB.out.cell (World.block_lt_of_cell? w _ W1.out)).trans W1.out
   have w2:=(HB.out.cell (World.block_lt_of_cell? w _ W2.out)).trans W2.out
   have w3:=(HB.out.cell (World.block_lt_of_cell? w _ W3.out)).trans W3.out
   have w4:=(HB.out.cell (World.block_lt_of_cell? w _ W4.out)).trans W4.out
   have w5:=(HB.out.cell (World.block_lt_of_cell? w _ W5.out)).trans W5.out
   have w6:=(HB.out.cell (World.block_lt_of_cell? w _ W6.out)).trans W6.out
   go_wp2
   have h5:=put7_blk HR.out (.int .i64 v.f0) (.string v.f1) (.int .i64 v.f2) (.int .i64 v.f3) (.bool v.f4) (.int .i64 v.f5) (.int .i64 v.f6)
   have h6:=put7_low HB.out hg (.int .i64 v.f0) (.string v.f1) (.int .i64 v.f2) (.int .i64 v.f3) (.bool v.f4) (.int .i64 v.f5) (.int .i64 v.f6)
   refine bodyPost_ret (results_ct rfl _ _ (w.heap.size + 1) 51 _ (0,0) _ rfl h5 Tryz.underlying51 rfl J0) rfl ⟨rfl,h6⟩
 ·have hf:findW (fun x=>hasName x nm) l0 m=(z51,false):=by unfold findW;rw [if_neg hin]
  rw [hf]
  have hi:table_in.f m 0 ((l0.length:Int) - 1)=some false:=by
   unfold table_in.f
   by_cases h:m ≥ 0
   ·rw [if_pos h,decide_eq_false J7]
   ·rw [if_neg h]
  have HI:=Y0 hi
  clear hf hi
  go_enter Tryz.func64,Tryz.ntmps64
  go_wp2_with fail
  have e0:(w.alloc (.cells #[.slice A0 l0.length c0,.slice A1 l1.length c1] 46 (0,0))).heap.size=w.heap.size + 1:=World.size_alloc _ _
  have h1:=below_alloc (Below.refl w.heap.size w) (.cells #[.slice A0 l0.length c0,.slice A1 l1.length c1] 46 (0,0))
  have h2:=blk_alloc (blk_new w (.cells #[.slice A0 l0.length c0,.slice A1 l1.length c1] 46 (0,0))) (.cells #[.int .i64 0,.string (⟨#[]⟩:ByteArray),.int .i64 0,.int .i64 0,.bool false,.int .i64 0,.int .i64 0] 51 (0,0))
  have h3:=blk_new (w.alloc (.cells #[.slice A0 l0.length c0,.slice A1 l1.length c1] 46 (0,0))) (.cells #[.int .i64 0,.string (⟨#[]⟩:ByteArray),.int .i64 0,.int .i64 0,.bool false,.int .i64 0,.int .i64 0] 51 (0,0))
  have h4:=h1.trans ((below_alloc (Below.refl _ (w.alloc (.cells #[.slice A0 l0.length c0,.slice A1 l1.length c1] 46 (0,0)))) (.cells #[.int .i64 0,.string (⟨#[]⟩:ByteArray),.int .i64 0,.int .i64 0,.bool false,.int .i64 0,.int .i64 0] 51 (0,0))).mono h1.size)
  rw [e0] at h3
  generalize (w.alloc (.cells #[.slice A0 l0.length c0,.slice A1 l1.length c1] 46 (0,0))).alloc (.cells #[.int .i64 0,.string (⟨#[]⟩:ByteArray),.int .i64 0,.int .i64 0,.bool false,.int .i64 0,.int .i64 0] 51 (0,0))=V0 at *
  refine (table_in.calls m 0 ((l0.length:Int) - 1) false _ HI.out).mono ?_
  rintro e V1 ⟨rfl,hd⟩
  have HR:=Y0 (blk_below h3 hd.below)
  have HB:=Y0 (below_step h4 hd.below)
  clear e0 h1 h2 h3 h4 hd
  have hg:w.heap.size≤w.heap.size + 1:=Nat.le_succ _
  have z0:_=some (Value.int .i64 0):=(blk_cell HR.out 0).trans rfl
  have y0:=blk_frozen HR.out 0
  have z1:_=some (Value.string (⟨#[]⟩:ByteArray)):=(blk_cell HR.out 1).trans rfl
  have y1:=blk_frozen HR.out 1
  have z2:_=some (Value.int .i64 0):=(blk_cell HR.out 2).trans rfl
  have y2:=blk_frozen HR.out 2
  have z3:_=some (Value.int .i64 0):=(blk_cell HR.out 3).trans rfl
  have y3:=blk_frozen HR.out 3
  have z4:_=some (Value.bool false):=(blk_cell HR.out 4).trans rfl
  have y4:=blk_frozen HR.out 4
  have z5:_=some (Value.int .i64 0):=(blk_cell HR.out 5).trans rfl
  have y5:=blk_frozen HR.out 5
  have z6:_=some (Value.int .i64 0):=(blk_cell HR.out 6).trans rfl
  have y6:=blk_frozen HR.out 6
  go_wp2
  have h5:=put7_blk HR.out (.int .i64 0) (.string (⟨#[]⟩:ByteArray)) (.int .i64 0) (.int .i64 0) (.bool false) (.int .i64 0) (.int .i64 0)
  have h6:=put7_low HB.out hg (.int .i64 0) (.string (⟨#[]⟩:ByteArray)) (.int .i64 0) (.int .i64 0) (.bool false) (.int .i64 0) (.int .i64 0)
  refine bodyPost_ret (results_ct rfl _ _ (w.heap.size + 1) 51 _ (0,0) _ rfl h5 Tryz.underlying51 rfl J0) rfl ⟨rfl,h6⟩
set_option maxRecDepth 100000 in
set_option maxHeartbeats 4000000 in
theorem find_no (A0 A1:Option Addr) (c0 c1:Nat) (l0:List (S57)) (l1:List (S119)) (m:Int) (nb:Nat) (nm:Int) (w:World) (hC:k57.C w A0 l0.length l0) (hc0:l0.length≤c0) (hn:w.heap[nb]?=some (.cells #[.int .i64 nm] 3 (0,0))) :
  Calls Tryz.prog 64 #[.agg #[.slice A0 l0.length c0,.slice A1 l1.length c1],.int .i64 m,.func (.func 66) #[] #[.pointer (some ⟨nb,0,none⟩)]] w (FindP w (findW (fun x=>hasNo x nm) l0 m)):=by
 have HC:=Y0 hC
 have HN:=Y0 hn
 have hm1:=Kd.C_max hC
 clear hC hn
 by_cases hin:0≤m∧m < l0.length
 ·obtain ⟨i,rfl⟩:∃ i:Nat,m=(i:Int):=⟨m.toNat,J7⟩
  have d3:(0:Int)≤(i:Int):=hin.1
  have d4:(i:Int) < (l0.length:Int):=hin.2
  have hf:findW (fun x=>hasNo x nm) l0 i=if idxW (fun x=>hasNo x nm) (rd_T57 l0 i).f1 0 < 0 then (z51,false) else (rd_T51 (rd_T57 l0 i).f1 (idxW (fun x=>hasNo x nm) (rd_T57 l0 i).f1 0),true):=by unfold findW;rw [if_pos hin]
  have hi:table_in.f i 0 ((l0.length:Int) - 1)=some true:=by
   unfold table_in.f
   rw [if_pos d3,decide_eq_true J7]
  have HI:=Y0 hi
  rw [hf]
  clear hf hi hin
  obtain ⟨ad,A3,c3,had,z0,z1,lc3,kc3⟩:=at_T57 HC.out i d3 d4
  subst had
  rw [Int.toNat_natCast] at z0 z1
  have HK:=Y0 kc3
  clear kc3
  generalize rd_T57 l0 i=x at *
  obtain ⟨q,hq⟩:∃ q,q=idxW (fun x=>hasNo x nm) x.f1 0:=⟨_,rfl⟩
  have hqb:=idxW_lt (fun x=>hasNo x nm) x.f1 0
  rw [← hq] at hqb ⊢
  have HQ:=Y0 hq
  clear hq
  by_cases hlt:q < 0
  ·rw [if_pos hlt]
   have t1:decide (q < 0)=true:=decide_eq_true hlt
   clear hqb hlt
   go_enter Tryz.func64,Tryz.ntmps64
   go_wp2_with fail
   have e0:(w.alloc (.cells #[.slice (some ad) l0.length c0,.slice A1 l1.length c1] 46 (0,0))).heap.size=w.heap.size + 1:=World.size_alloc _ _
   have h1:=below_alloc (Below.refl w.heap.size w) (.cells #[.slice (some ad) l0.length c0,.slice A1 l1.length c1] 46 (0,0))
   have h2:=blk_alloc (blk_new w (.cells #[.slice (some ad) l0.length c0,.slice A1 l1.length c1] 46 (0,0))) (.cells #[.int .i64 0,.string (⟨#[]⟩:ByteArray),.int .i64 0,.int .i64 0,.bool false,.int .i64 0,.int .i64 0] 51 (0,0))
   have h3:=blk_new (w.alloc (.cells #[.slice (some ad) l0.length c0,.slice A1 l1.length c1] 46 (0,0))) (.cells #[.int .i64 0,.string (⟨#[]⟩:ByteArray),.int .i64 0,.int .i64 0,.bool false,.int .i64 0,.int .i64 0] 51 (0,0))
   have h4:=h1.trans ((below_alloc (Below.refl _ (w.alloc (.cells #[.slice (some ad) l0.length c0,.slice A1 l1.length c1] 46 (0,0)))) (.cells #[.int .i64 0,.string (⟨#[]⟩:ByteArray),.int .i64 0,.int .i64 0,.bool false,.int .i64 0,.int .i64 0] 51 (0,0))).mono h1.size)
   rw [e0] at h3
   generalize (w.alloc (.cells #[.slice (some ad) l0.length c0,.slice A1 l1.length c1] 46 (0,0))).alloc (.cells #[.int .i64 0,.string (⟨#[]⟩:ByteArray),.int .i64 0,.int .i64 0,.bool false,.int .i64 0,.int .i64 0] 51 (0,0))=V0 at *
   refine (table_in.calls i 0 ((l0.length:Int) - 1) true _ HI.out).mono ?_
   rintro e V1 ⟨rfl,hd⟩
   have HR:=Y0 (blk_below h3 hd.below)
   have HX:=Y0 (blk_below h2 hd.below)
   have HB:=Y0 (below_step h4 hd.below)
   clear e0 h1 h2 h3 h4 hd HI
   have hg:w.heap.size≤w.heap.size + 1:=Nat.le_succ _
   have x0:_=some (Value.slice _ _ _):=(blk_cell HX.out 0).trans rfl
   have Z0:=Y0 z0
   have Z1:=Y0 z1
   clear z0 z1
   have z1:=(HB.out.cell (World.block_lt_of_cell? w _ Z1.out)).trans Z1.out
   go_wp2_with fail
   have hcon:=idx_by x.f1 A3 c3 nb nm V1 (Kd.C_below HK.out HB.out) lc3 (blk_below HN.out HB.out)
   rw [← HQ.out] at hcon
   refine hcon.mono ?_
   clear hcon
   rintro e V2 ⟨rfl,hb2⟩
   have HR2:=Y0 (blk_below HR.out hb2)
   have HX2:=Y0 (blk_below HX.out hb2)
   have HB2:=Y0 (below_step HB.out hb2)
   clear HR HX HB hb2 x0 z1
   have HR:=Y0 HR2.out
   have HB:=Y0 HB2.out
   clear HR2 HB2
   have x0:_=some (Value.slice _ _ _):=(blk_cell HX2.out 0).trans rfl
   have z1:=(HB.out.cell (World.block_lt_of_cell? w _ Z1.out)).trans Z1.out
   have r0:_=some (Value.int .i64 0):=(blk_cell HR.out 0).trans rfl
   have y0:=blk_frozen HR.out 0
   have r1:_=some (Value.string (⟨#[]⟩:ByteArray)):=(blk_cell HR.out 1).trans rfl
   have y1:=blk_frozen HR.out 1
   have r2:_=some (Value.int .i64 0):=(blk_cell HR.out 2).trans rfl
   have y2:=blk_frozen HR.out 2
   have r3:_=some (Value.int .i64 0):=(blk_cell HR.out 3).trans rfl
   have y3:=blk_frozen HR.out 3
   have r4:_=some (Value.bool false):=(blk_cell HR.out 4).trans rfl
   have y4:=blk_frozen HR.out 4
   have r5:_=some (Value.int .i64 0):=(blk_cell HR.out 5).trans rfl
   have y5:=blk_frozen HR.out 5
   have r6:_=some (Value.int .i64 0):=(blk_cell HR.out 6).trans rfl
   have y6:=blk_frozen HR.out 6
   go_wp2
   have h5:=put7_blk HR.out (.int .i64 0) (.string (⟨#[]⟩:ByteArray)) (.int .i64 0) (.int .i64 0) (.bool false) (.int .i64 0) (.int .i64 0)
   have h6:=put7_low HB.out hg (.int .i64 0) (.string (⟨#[]⟩:ByteArray)) (.int .i64 0) (.int .i64 0) (.bool false) (.int .i64 0) (.int .i64 0)
   refine bodyPost_ret (results_ct rfl _ _ (w.heap.size + 1) 51 _ (0,0) _ rfl h5 Tryz.underlying51 rfl J0) rfl ⟨rfl,h6⟩
  ·rw [if_neg hlt]
   have t1:decide (q < 0)=false:=decide_eq_false hlt
   obtain ⟨j,rfl⟩:∃ j:Nat,q=(j:Int):=⟨q.toNat,J7⟩
   have d5:(0:Int)≤(j:Int):=by omega
   have d6:(j:Int) < (x.f1.length:Int):=by omega
   have hm2:=Kd.C_max HK.out
   clear hqb hlt
   obtain ⟨ad2,had2,w0,w1,w2,w3,w4,w5,w6⟩:=at_T51 HK.out j d5 d6
   subst had2
   rw [Int.toNat_natCast] at w0 w1 w2 w3 w4 w5 w6
   generalize rd_T51 x.f1 j=v at *
   have W0:=Y0 w0
   have W1:=Y0 w1
   have W2:=Y0 w2
   have W3:=Y0 w3
   have W4:=Y0 w4
   have W5:=Y0 w5
   have W6:=Y0 w6
   clear w0 w1 w2 w3 w4 w5 w6
   go_enter Tryz.func64,Tryz.ntmps64
   go_wp2_with fail
   have e0:(w.alloc (.cells #[.slice (some ad) l0.length c0,.slice A1 l1.length c1] 46 (0,0))).heap.size=w.heap.size + 1:=World.size_alloc _ _
   have h1:=below_alloc (Below.refl w.heap.size w) (.cells #[.slice (some ad) l0.length c0,.slice A1 l1.length c1] 46 (0,0))
   have h2:=blk_alloc (blk_new w (.cells #[.slice (some ad) l0.length c0,.slice A1 l1.length c1] 46 (0,0))) (.cells #[.int .i64 0,.string (⟨#[]⟩:ByteArray),.int .i64 0,.int .i64 0,.bool false,.int .i64 0,.int .i64 0] 51 (0,0))
   have h3:=blk_new (w.alloc (.cells #[.slice (some ad) l0.length c0,.slice A1 l1.length c1] 46 (0,0))) (.cells #[.int .i64 0,.string (⟨#[]⟩:ByteArray),.int .i64 0,.int .i64 0,.bool false,.int .i64 0,.int .i64 0] 51 (0,0))
   have h4:=h1.trans ((below_alloc (Below.refl _ (w.alloc (.cells #[.slice (some ad) l0.length c0,.slice A1 l1.length c1] 46 (0,0)))) (.cells #[.int .i64 0,.string (⟨#[]⟩:ByteArray),.int .i64 0,.int .i64 0,.bool false,.int .i64 0,.int .i64 0] 51 (0,0))).mono h1.size)
   rw [e0] at h3
   generalize (w.alloc (.cells #[.slice (some ad) l0.length c0,.slice A1 l1.length c1] 46 (0,0))).alloc (.cells #[.int .i64 0,.string (⟨#[]⟩:ByteArray),.int .i64 0,.int .i64 0,.bool false,.int .i64 0,.int .i64 0] 51 (0,0))=V0 at *
   refine (table_in.calls i 0 ((l0.length:Int) - 1) true _ HI.out).mono ?_
   rintro e V1 ⟨rfl,hd⟩
   have HR:=Y0 (blk_below h3 hd.below)
   have HX:=Y0 (blk_below h2 hd.below)
   have HB:=Y0 (below_step h4 hd.below)
   clear e0 h1 h2 h3 h4 hd HI
   have hg:w.heap.size≤w.heap.size + 1:=Nat.le_succ _
   have x0:_=some (Value.slice _ _ _):=(blk_cell HX.out 0).trans rfl
   have Z0:=Y0 z0
   have Z1:=Y0 z1
   clear z0 z1
   have z1:=(HB.out.cell (World.block_lt_of_cell? w _ Z1.out)).trans Z1.out
   go_wp2_with fail
   have hcon:=idx_by x.f1 (some ad2) c3 nb nm V1 (Kd.C_below HK.out HB.out) lc3 (blk_below HN.out HB.out)
   rw [← HQ.out] at hcon
   refine hcon.mono ?_
   clear hcon
   rintro e V2 ⟨rfl,hb2⟩
   have HR2:=Y0 (blk_below HR.out hb2)
   have HX2:=Y0 (blk_below HX.out hb2)
   have HB2:=Y0 (below_step HB.out hb2)
   clear HR HX HB hb2 x0 z1
   have HR:=Y0 HR2.out
   have HB:=Y0 HB2.out
   clear HR2 HB2
   have x0:_=some (Value.slice _ _ _):=(blk_cell HX2.out 0).trans rfl
   have z1:=(HB.out.cell (World.block_lt_of_cell? w _ Z1.out)).trans Z1.out
   have r0:_=some (Value.int .i64 0):=(blk_cell HR.out 0).trans rfl
   have y0:=blk_frozen HR.out 0
   have r1:_=some (Value.string (⟨#[]⟩:ByteArray)):=(blk_cell HR.out 1).trans rfl
   have y1:=blk_frozen HR.out 1
   have r2:_=some (Value.int .i64 0):=(blk_cell HR.out 2).trans rfl
   have y2:=blk_frozen HR.out 2
   have r3:_=some (Value.int .i64 0):=(blk_cell HR.out 3).trans rfl
   have y3:=blk_frozen HR.out 3
   have r4:_=some (Value.bool false):=(blk_cell HR.out 4).trans rfl
   have y4:=blk_frozen HR.out 4
   have r5:_=some (Value.int .i64 0):=(blk_cell HR.out 5).trans rfl
   have y5:=blk_frozen HR.out 5
   have r6:_=some (Value.int .i64 0):=(blk_cell HR.out 6).trans rfl
   have y6:=blk_frozen HR.out 6
   have w0:=(HB.out.cell (World.block_lt_of_cell? w _ W0.out)).trans W0.out
   have w1:=(HB.out.cell (World.block_lt_of_cell? w _ W1.out)).trans W1.out
   have w2:=(HB.out.cell (World.block_lt_of_cell? w _ W2.out)).trans W2.out
   have w3:=(HB.out.cell (World.block_lt_of_cell? w _ W3.out)).trans W3.out
   have w4:=(HB.out.cell (World.block_lt_of_cell? w _ W4.out)).trans W4.out
   have w5:=(HB.out.cell (World.block_lt_of_cell? w _ W5.out)).trans W5.out
   have w6:=(HB.out.cell (World.block_lt_of_cell? w _ W6.out)).trans W6.out
   go_wp2
   have h5:=put7_blk HR.out (.int .i64 v.f0) (.string v.f1) (.int .i64 v.f2) (.int .i64 v.f3) (.bool v.f4) (.int .i64 v.f5) (.int .i64 v.f6)
   have h6:=put7_low HB.out hg (.int .i64 v.f0) (.string v.f1) (.int .i64 v.f2) (.int .i64 v.f3) (.bool v.f4) (.int .i64 v.f5) (.int .i64 v.f6)
   refine bodyPost_ret (results_ct rfl _ _ (w.heap.size + 1) 51 _ (0,0) _ rfl h5 Tryz.underlying51 rfl J0) rfl ⟨rfl,h6⟩
 ·have hf:findW (fun x=>hasNo x nm) l0 m=(z51,false):=by unfold findW;rw [if_neg hin]
  rw [hf]
  have hi:table_in.f m 0 ((l0.length:Int) - 1)=some false:=by
   unfold table_in.f
   by_cases h:m ≥ 0
   ·rw [if_pos h,decide_eq_false J7]
   ·rw [if_neg h]
  have HI:=Y0 hi
  clear hf hi
  go_enter Tryz.func64,Tryz.ntmps64
  go_wp2_with fail
  have e0:(w.alloc (.cells #[.slice A0 l0.length c0,.slice A1 l1.length c1] 46 (0,0))).heap.size=w.heap.size + 1:=World.size_alloc _ _
  have h1:=below_alloc (Below.refl w.heap.size w) (.cells #[.slice A0 l0.length c0,.slice A1 l1.length c1] 46 (0,0))
  have h2:=blk_alloc (blk_new w (.cells #[.slice A0 l0.length c0,.slice A1 l1.length c1] 46 (0,0))) (.cells #[.int .i64 0,.string (⟨#[]⟩:ByteArray),.int .i64 0,.int .i64 0,.bool false,.int .i64 0,.int .i64 0] 51 (0,0))
  have h3:=blk_new (w.alloc (.cells #[.slice A0 l0.length c0,.slice A1 l1.length c1] 46 (0,0))) (.cells #[.int .i64 0,.string (⟨#[]⟩:ByteArray),.int .i64 0,.int .i64 0,.bool false,.int .i64 0,.int .i64 0] 51 (0,0))
  have h4:=h1.trans ((below_alloc (Below.refl _ (w.alloc (.cells #[.slice A0 l0.length c0,.slice A1 l1.length c1] 46 (0,0)))) (.cells #[.int .i64 0,.string (⟨#[]⟩:ByteArray),.int .i64 0,.int .i64 0,.bool false,.int .i64 0,.int .i64 0] 51 (0,0))).mono h1.size)
  rw [e0] at h3
  generalize (w.alloc (.cells #[.slice A0 l0.length c0,.slice A1 l1.length c1] 46 (0,0))).alloc (.cells #[.int .i64 0,.string (⟨#[]⟩:ByteArray),.int .i64 0,.int .i64 0,.bool false,.int .i64 0,.int .i64 0] 51 (0,0))=V0 at *
  refine (table_in.calls m 0 ((l0.length:Int) - 1) false _ HI.out).mono ?_
  rintro e V1 ⟨rfl,hd⟩
  have HR:=Y0 (blk_below h3 hd.below)
  have HB:=Y0 (below_step h4 hd.below)
  clear e0 h1 h2 h3 h4 hd
  have hg:w.heap.size≤w.heap.size + 1:=Nat.le_succ _
  have z0:_=some (Value.int .i64 0):=(blk_cell HR.out 0).trans rfl
  have y0:=blk_frozen HR.out 0
  have z1:_=some (Value.string (⟨#[]⟩:ByteArray)):=(blk_cell HR.out 1).trans rfl
  have y1:=blk_frozen HR.out 1
  have z2:_=some (Value.int .i64 0):=(blk_cell HR.out 2).trans rfl
  have y2:=blk_frozen HR.out 2
  have z3:_=some (Value.int .i64 0):=(blk_cell HR.out 3).trans rfl
  have y3:=blk_frozen HR.out 3
  have z4:_=some (Value.bool false):=(blk_cell HR.out 4).trans rfl
  have y4:=blk_frozen HR.out 4
  have z5:_=some (Value.int .i64 0):=(blk_cell HR.out 5).trans rfl
  have y5:=blk_frozen HR.out 5
  have z6:_=some (Value.int .i64 0):=(blk_cell HR.out 6).trans rfl
  have y6:=blk_frozen HR.out 6
  go_wp2
  have h5:=put7_blk HR.out (.int .i64 0) (.string (⟨#[]⟩:ByteArray)) (.int .i64 0) (.int .i64 0) (.bool false) (.int .i64 0) (.int .i64 0)
  have h6:=put7_low HB.out hg (.int .i64 0) (.string (⟨#[]⟩:ByteArray)) (.int .i64 0) (.int .i64 0) (.bool false) (.int .i64 0) (.int .i64 0)
  refine bodyPost_ret (results_ct rfl _ _ (w.heap.size + 1) 51 _ (0,0) _ rfl h5 Tryz.underlying51 rfl J0) rfl ⟨rfl,h6⟩
set_option maxRecDepth 100000 in
set_option maxHeartbeats 4000000 in
theorem find_s (A0 A1:Option Addr) (c0 c1:Nat) (l0:List (S57)) (l1:List (S119)) (m:Int) (nm:ByteArray) (w:World) (hC:k57.C w A0 l0.length l0) (hc0:l0.length≤c0) :
  Calls Tryz.prog 20 #[.agg #[.slice A0 l0.length c0,.slice A1 l1.length c1],.int .i64 m,.string nm] w (FindP w (findW (fun x=>hasName x nm) l0 m)):=by
 have HC:=Y0 hC
 obtain ⟨r,hr⟩:∃ r,r=findW (fun x=>hasName x nm) l0 m:=⟨_,rfl⟩
 rw [← hr]
 have HF:=Y0 hr
 clear hC hr
 go_enter Tryz.func20,Tryz.ntmps20
 go_wp2_with fail
 have e0:(w.alloc (.cells #[.slice A0 l0.length c0,.slice A1 l1.length c1] 46 (0,0))).heap.size=w.heap.size + 1:=World.size_alloc _ _
 have e1:((w.alloc (.cells #[.slice A0 l0.length c0,.slice A1 l1.length c1] 46 (0,0))).alloc (.cells #[.string nm] 9 (0,0))).heap.size=w.heap.size + 1 + 1:=by rw [World.size_alloc,e0]
 have h1:=below_alloc (Below.refl w.heap.size w) (.cells #[.slice A0 l0.length c0,.slice A1 l1.length c1] 46 (0,0))
 have h2:=below_step h1 (below_alloc (Below.refl _ (w.alloc (.cells #[.slice A0 l0.length c0,.slice A1 l1.length c1] 46 (0,0)))) (.cells #[.string nm] 9 (0,0)))
 have h3:=below_step h2 (below_alloc (Below.refl _ ((w.alloc (.cells #[.slice A0 l0.length c0,.slice A1 l1.length c1] 46 (0,0))).alloc (.cells #[.string nm] 9 (0,0)))) (.cells #[.int .i64 0,.string (⟨#[]⟩:ByteArray),.int .i64 0,.int .i64 0,.bool false,.int .i64 0,.int .i64 0] 51 (0,0)))
 have k2:=blk_alloc (blk_new (w.alloc (.cells #[.slice A0 l0.length c0,.slice A1 l1.length c1] 46 (0,0))) (.cells #[.string nm] 9 (0,0))) (.cells #[.int .i64 0,.string (⟨#[]⟩:ByteArray),.int .i64 0,.int .i64 0,.bool false,.int .i64 0,.int .i64 0] 51 (0,0))
 have k3:=blk_new ((w.alloc (.cells #[.slice A0 l0.length c0,.slice A1 l1.length c1] 46 (0,0))).alloc (.cells #[.string nm] 9 (0,0))) (.cells #[.int .i64 0,.string (⟨#[]⟩:ByteArray),.int .i64 0,.int .i64 0,.bool false,.int .i64 0,.int .i64 0] 51 (0,0))
 rw [e0] at k2
 rw [e1] at k3
 generalize ((w.alloc (.cells #[.slice A0 l0.length c0,.slice A1 l1.length c1] 46 (0,0))).alloc (.cells #[.string nm] 9 (0,0))).alloc (.cells #[.int .i64 0,.string (⟨#[]⟩:ByteArray),.int .i64 0,.int .i64 0,.bool false,.int .i64 0,.int .i64 0] 51 (0,0))=V0 at *
 have hcon:=find_name A0 A1 c0 c1 l0 l1 m (w.heap.size + 1) nm V0 (Kd.C_below HC.out h3) hc0 k2
 rw [← HF.out] at hcon
 refine hcon.mono ?_
 rintro e V1 ⟨rfl,hb⟩
 have HR:=Y0 (blk_below k3 hb)
 have HB:=Y0 (below_step h3 hb)
 have hg:w.heap.size≤w.heap.size + 1 + 1:=by omega
 clear e0 e1 h1 h2 h3 k2 k3 hcon hb HF HC hc0
 obtain ⟨v,b⟩:=r
 have r0:_=some (Value.int .i64 0):=(blk_cell HR.out 0).trans rfl
 have y0:=blk_frozen HR.out 0
 have r1:_=some (Value.string (⟨#[]⟩:ByteArray)):=(blk_cell HR.out 1).trans rfl
 have y1:=blk_frozen HR.out 1
 have r2:_=some (Value.int .i64 0):=(blk_cell HR.out 2).trans rfl
 have y2:=blk_frozen HR.out 2
 have r3:_=some (Value.int .i64 0):=(blk_cell HR.out 3).trans rfl
 have y3:=blk_frozen HR.out 3
 have r4:_=some (Value.bool false):=(blk_cell HR.out 4).trans rfl
 have y4:=blk_frozen HR.out 4
 have r5:_=some (Value.int .i64 0):=(blk_cell HR.out 5).trans rfl
 have y5:=blk_frozen HR.out 5
 have r6:_=some (Value.int .i64 0):=(blk_cell HR.out 6).trans rfl
 have y6:=blk_frozen HR.out 6
 go_wp2
 have h5:=put7_blk HR.out (.int .i64 v.f0) (.string v.f1) (.int .i64 v.f2) (.int .i64 v.f3) (.bool v.f4) (.int .i64 v.f5) (.int .i64 v.f6)
 have h6:=put7_low HB.out hg (.int .i64 v.f0) (.string v.f1) (.int .i64 v.f2) (.int .i64 v.f3) (.bool v.f4) (.int .i64 v.f5) (.int .i64 v.f6)
 exact bodyPost_ret (results_ct rfl _ _ (w.heap.size + 1 + 1) 51 _ (0,0) _ rfl h5 Tryz.underlying51 rfl J0) rfl ⟨rfl,h6⟩
set_option maxRecDepth 100000 in
set_option maxHeartbeats 4000000 in
theorem by_s (A0 A1:Option Addr) (c0 c1:Nat) (l0:List (S57)) (l1:List (S119)) (m:Int) (nm:Int) (w:World) (hC:k57.C w A0 l0.length l0) (hc0:l0.length≤c0) :
  Calls Tryz.prog 21 #[.agg #[.slice A0 l0.length c0,.slice A1 l1.length c1],.int .i64 m,.int .i64 nm] w (FindP w (findW (fun x=>hasNo x nm) l0 m)):=by
 have HC:=Y0 hC
 obtain ⟨r,hr⟩:∃ r,r=findW (fun x=>hasNo x nm) l0 m:=⟨_,rfl⟩
 rw [← hr]
 have HF:=Y0 hr
 clear hC hr
 go_enter Tryz.func21,Tryz.ntmps21
 go_wp2_with fail
 have e0:(w.alloc (.cells #[.slice A0 l0.length c0,.slice A1 l1.length c1] 46 (0,0))).heap.size=w.heap.size + 1:=World.size_alloc _ _
 have e1:((w.alloc (.cells #[.slice A0 l0.length c0,.slice A1 l1.length c1] 46 (0,0))).alloc (.cells #[.int .i64 nm] 3 (0,0))).heap.size=w.heap.size + 1 + 1:=by rw [World.size_alloc,e0]
 have h1:=below_alloc (Below.refl w.heap.size w) (.cells #[.slice A0 l0.length c0,.slice A1 l1.length c1] 46 (0,0))
 have h2:=below_step h1 (below_alloc (Below.refl _ (w.alloc (.cells #[.slice A0 l0.length c0,.slice A1 l1.length c1] 46 (0,0)))) (.cells #[.int .i64 nm] 3 (0,0)))
 have h3:=below_step h2 (below_alloc (Below.refl _ ((w.alloc (.cells #[.slice A0 l0.length c0,.slice A1 l1.length c1] 46 (0,0))).alloc (.cells #[.int .i64 nm] 3 (0,0)))) (.cells #[.int .i64 0,.string (⟨#[]⟩:ByteArray),.int .i64 0,.int .i64 0,.bool false,.int .i64 0,.int .i64 0] 51 (0,0)))
 have k2:=blk_alloc (blk_new (w.alloc (.cells #[.slice A0 l0.length c0,.slice A1 l1.length c1] 46 (0,0))) (.cells #[.int .i64 nm] 3 (0,0))) (.cells #[.int .i64 0,.string (⟨#[]⟩:ByteArray),.int .i64 0,.int .i64 0,.bool false,.int .i64 0,.int .i64 0] 51 (0,0))
 have k3:=blk_new ((w.alloc (.cells #[.slice A0 l0.length c0,.slice A1 l1.length c1] 46 (0,0))).alloc (.cells #[.int .i64 nm] 3 (0,0))) (.cells #[.int .i64 0,.string (⟨#[]⟩:ByteArray),.int .i64 0,.int .i64 0,.bool false,.int .i64 0,.int .i64 0] 51 (0,0))
 rw [e0] at k2
 rw [e1] at k3
 generalize ((w.alloc (.cells #[.slice A0 l0.length c0,.slice A1 l1.length c1] 46 (0,0))).alloc (.cells #[.int .i64 nm] 3 (0,0))).alloc (.cells #[.int .i64 0,.string (⟨#[]⟩:ByteArray),.int .i64 0,.int .i64 0,.bool false,.int .i64 0,.int .i64 0] 51 (0,0))=V0 at *
 have hcon:=find_no A0 A1 c0 c1 l0 l1 m (w.heap.size + 1) nm V0 (Kd.C_below HC.out h3) hc0 k2
 rw [← HF.out] at hcon
 refine hcon.mono ?_
 rintro e V1 ⟨rfl,hb⟩
 have HR:=Y0 (blk_below k3 hb)
 have HB:=Y0 (below_step h3 hb)
 have hg:w.heap.size≤w.heap.size + 1 + 1:=by omega
 clear e0 e1 h1 h2 h3 k2 k3 hcon hb HF HC hc0
 obtain ⟨v,b⟩:=r
 have r0:_=some (Value.int .i64 0):=(blk_cell HR.out 0).trans rfl
 have y0:=blk_frozen HR.out 0
 have r1:_=some (Value.string (⟨#[]⟩:ByteArray)):=(blk_cell HR.out 1).trans rfl
 have y1:=blk_frozen HR.out 1
 have r2:_=some (Value.int .i64 0):=(blk_cell HR.out 2).trans rfl
 have y2:=blk_frozen HR.out 2
 have r3:_=some (Value.int .i64 0):=(blk_cell HR.out 3).trans rfl
 have y3:=blk_frozen HR.out 3
 have r4:_=some (Value.bool false):=(blk_cell HR.out 4).trans rfl
 have y4:=blk_frozen HR.out 4
 have r5:_=some (Value.int .i64 0):=(blk_cell HR.out 5).trans rfl
 have y5:=blk_frozen HR.out 5
 have r6:_=some (Value.int .i64 0):=(blk_cell HR.out 6).trans rfl
 have y6:=blk_frozen HR.out 6
 go_wp2
 have h5:=put7_blk HR.out (.int .i64 v.f0) (.string v.f1) (.int .i64 v.f2) (.int .i64 v.f3) (.bool v.f4) (.int .i64 v.f5) (.int .i64 v.f6)
 have h6:=put7_low HB.out hg (.int .i64 v.f0) (.string v.f1) (.int .i64 v.f2) (.int .i64 v.f3) (.bool v.f4) (.int .i64 v.f5) (.int .i64 v.f6)
 exact bodyPost_ret (results_ct rfl _ _ (w.heap.size + 1 + 1) 51 _ (0,0) _ rfl h5 Tryz.underlying51 rfl J0) rfl ⟨rfl,h6⟩
def table_By.f (l0_0:List (S57)) (l0_1:List (S119)) (a1:Int) (a2:Int):Option (Int × ByteArray × Int × Int × Bool × Int × Int × Bool) :=
 let r:=findW (fun x=>hasNo x a2) l0_0 a1
 some (r.1.f0,r.1.f1,r.1.f2,r.1.f3,r.1.f4,r.1.f5,r.1.f6,r.2)
theorem table_By.calls (A0_0:Option Addr) (c0_0:Nat) (l0_0:List (S57)) (A0_1:Option Addr) (c0_1:Nat) (l0_1:List (S119)) (a1:Int) (a2:Int) (r1:Int) (r2:ByteArray) (r3 r4:Int) (r5:Bool) (r6 r7:Int) (r8:Bool) (w:World) (hr0_0:Kd.C k57 w A0_0 l0_0.length l0_0) (hc0_0:l0_0.length≤c0_0) (hr0_1:Kd.C k119 w A0_1 l0_1.length l0_1) (hc0_1:l0_1.length≤c0_1) (h:table_By.f l0_0 l0_1 a1 a2=some (r1,r2,r3,r4,r5,r6,r7,r8)) :
  Calls Tryz.prog 21 #[.agg #[.slice A0_0 l0_0.length c0_0,.slice A0_1 l0_1.length c0_1],.int .i64 a1,.int .i64 a2] w fun e w'=>e = .returned (.tuple #[.agg #[.int .i64 r1,.string r2,.int .i64 r3,.int .i64 r4,.bool r5,.int .i64 r6,.int .i64 r7],.bool r8])∧Below w.heap.size w w':=by
 unfold table_By.f at h
 simp only [Option.some.injEq,Prod.mk.injEq] at h
 obtain ⟨rfl,rfl,rfl,rfl,rfl,rfl,rfl,rfl⟩:=h
 exact by_s A0_0 A0_1 c0_0 c0_1 l0_0 l0_1 a1 a2 w hr0_0 hc0_0
def table_Find.f (l0_0:List (S57)) (l0_1:List (S119)) (a1:Int) (a2:ByteArray):Option (Int × ByteArray × Int × Int × Bool × Int × Int × Bool) :=
 let r:=findW (fun x=>hasName x a2) l0_0 a1
 some (r.1.f0,r.1.f1,r.1.f2,r.1.f3,r.1.f4,r.1.f5,r.1.f6,r.2)
theorem table_Find.calls (A0_0:Option Addr) (c0_0:Nat) (l0_0:List (S57)) (A0_1:Option Addr) (c0_1:Nat) (l0_1:List (S119)) (a1:Int) (a2:ByteArray) (r1:Int) (r2:ByteArray) (r3 r4:Int) (r5:Bool) (r6 r7:Int) (r8:Bool) (w:World) (hr0_0:Kd.C k57 w A0_0 l0_0.length l0_0) (hc0_0:l0_0.length≤c0_0) (hr0_1:Kd.C k119 w A0_1 l0_1.length l0_1) (hc0_1:l0_1.length≤c0_1) (h:table_Find.f l0_0 l0_1 a1 a2=some (r1,r2,r3,r4,r5,r6,r7,r8)) :
  Calls Tryz.prog 20 #[.agg #[.slice A0_0 l0_0.length c0_0,.slice A0_1 l0_1.length c0_1],.int .i64 a1,.string a2] w fun e w'=>e = .returned (.tuple #[.agg #[.int .i64 r1,.string r2,.int .i64 r3,.int .i64 r4,.bool r5,.int .i64 r6,.int .i64 r7],.bool r8])∧Below w.heap.size w w':=by
 unfold table_Find.f at h
 simp only [Option.some.injEq,Prod.mk.injEq] at h
 obtain ⟨rfl,rfl,rfl,rfl,rfl,rfl,rfl,rfl⟩:=h
 exact find_s A0_0 A0_1 c0_0 c0_1 l0_0 l0_1 a1 a2 w hr0_0 hc0_0
def words8:List (List UInt8):=[wI64,wS64,wU32,wBool,wF32,wF64,wStr,wByt]
theorem own_ne_iter {W:World} {base n size:Nat} {e:TypeId} {v:Value} {xs:List Value} (h:W.ownsRow base e size v n xs) {m:Nat} {o:Obj} (hm:W.heap[m]?=some o) (ho:∀ cs,o≠.cells cs e (0,0)):some m≠v.ownBlock:=by
 rcases h.2 with ⟨hv,_⟩|⟨g,cap,cur,hv,_,hc,_⟩
 ·subst hv;simp [Value.ownBlock]
 ·subst hv
  intro e
  simp only [Value.ownBlock,Option.some.injEq] at e
  subst e
  rw [hc] at hm
  injection hm with hm
  exact ho _ hm.symm
def Gath (X:List ByteArray) (left:Lit→Bool):Prop:=(∀ y:List UInt8,(X.map bl).count y=if (typO y).isSome && !(left (slit y)) then 1 else 0)∧(∀ x ∈ X,x.size≤maxLen)
theorem gath_start {D:DataW Unit} (h:∀ x z,D.atKey (slit x) z=((typO x).map eInt).getD z):Gath [] (Maps.has D):=by
 refine ⟨fun y=>?_,fun _ h=>absurd h List.not_mem_nil⟩
 rw [GM.has h]
 cases (typO y).isSome <;> rfl
theorem gath_step {X:List ByteArray} {left:Lit→Bool} (h:Gath X left) {x:ByteArray} (hx:left (slit (bl x))=true) (ht:(typO (bl x)).isSome=true) (hz:x.size≤maxLen):Gath (X++[x]) (fun z=>left z && !z.sameKey (slit (bl x))):=by
 refine ⟨fun y=>?_,fun q hq=>?_⟩
 ·rw [List.map_append,List.count_append,h.1]
  by_cases e:y=bl x
  ·subst e
   rw [ht,hx]
   simp [Lit.sameKey,slit]
  ·have h1:List.count y ([x].map bl)=0:=by rw [List.count_eq_zero];simpa using e
   have h2:(slit y).sameKey (slit (bl x))=false:=by
    cases hs:(slit y).sameKey (slit (bl x)) with
    | false=>rfl
    | true=>exact absurd (by have:=WideAt.sameKey_eq hs;injection this) e
   rw [h1]
   simp [h2]
 ·rcases List.mem_append.1 hq with hq|hq
  ·exact h.2 q hq
  ·obtain rfl:=List.mem_singleton.1 hq
   exact hz
theorem gath_end {X:List ByteArray} {left:Lit→Bool} (h:Gath X left) (hl:∀ k,left k=false):∀ y,(X.map bl).count y=words8.count y:=by
 intro y
 rw [h.1,hl]
 unfold words8 typO
 by_cases e8:y=wByt
 ·subst e8;decide
 ·by_cases e7:y=wStr
  ·subst e7;decide
  ·by_cases e6:y=wF64
   ·subst e6;decide
   ·by_cases e5:y=wF32
    ·subst e5;decide
    ·by_cases e4:y=wBool
     ·subst e4;decide
     ·by_cases e3:y=wU32
      ·subst e3;decide
      ·by_cases e2:y=wS64
       ·subst e2;decide
       ·by_cases e1:y=wI64
        ·subst e1;decide
        ·have:List.count y [wI64,wS64,wU32,wBool,wF32,wF64,wStr,wByt]=0:=by rw [List.count_eq_zero];simp [e1,e2,e3,e4,e5,e6,e7,e8]
         rw [this]
         simp [e1,e2,e3,e4,e5,e6,e7,e8]
theorem own_low {W:World} {base n size:Nat} {e:TypeId} {v:Value} {xs:List Value} (h:W.ownsRow base e size v n xs):∀ k,v.ownBlock=some k→base≤k:=by
 intro k hk
 rcases h.2 with ⟨hv,_⟩|⟨g,cap,cur,hv,hg,_⟩
 ·subst hv;simp [Value.ownBlock] at hk
 ·subst hv
  simp only [Value.ownBlock,Option.some.injEq] at hk
  subst hk
  exact hg
theorem str_key {key:Value} {kl:Lit} (h:keyOf Tryz.prog 9 key=some kl):∃ s:ByteArray,key = .string s:=by
 rw [keyOf_string tb_str] at h
 cases key <;> simp [mapKey] at h
 exact ⟨_,rfl⟩
theorem str_key2 {s:ByteArray} {kl:Lit} (h:keyOf Tryz.prog 9 (.string s)=some kl):kl=slit (bl s)∧s.size≤maxLen:=by
 rw [keyOf_string tb_str] at h
 simp [mapKey] at h
 exact ⟨h.2.symm,h.1⟩
theorem plain_key {D:DataW Unit} (hf:∀ x z,D.atKey (slit x) z=((typO x).map eInt).getD z) {x:List UInt8} {y:DataW Unit} (h:∀ z,D.atKey (slit x) z=y):(typO x).isSome=true:=by
 cases ht:typO x with
 | some q=>rfl
 | none =>
  have h1:=(hf x .nil).symm.trans (h .nil)
  have h2:=(hf x (.lit (.bool true))).symm.trans (h (.lit (.bool true)))
  rw [ht] at h1 h2
  have h3:(DataW.nil:DataW Unit) = .lit (.bool true):=h1.trans h2.symm
  cases h3
def mayR (l0:List (S57)) (l1:List (S119)) (MO:S57→Bool) (EO:S119→Bool):Bool :=
 decide (1≤l0.length∧l0.length≤20∧l1.length≤20) && (l0.all MO && (l1.all EO && uniqB (words8++(l0.map (fun x=>bl x.f0)++l1.map (fun x=>bl x.f0)))))
theorem mayR_out (l0:List (S57)) (l1:List (S119)) (MO:S57→Bool) (EO:S119→Bool) (h:¬ (1≤l0.length∧l0.length≤20∧l1.length≤20)):mayR l0 l1 MO EO=false:=by
 unfold mayR
 rw [decide_eq_false h,Bool.false_and]
theorem mayR_badM (l0:List (S57)) (l1:List (S119)) (MO:S57→Bool) (EO:S119→Bool) (x:S57) (hx:x ∈ l0) (h:MO x=false):mayR l0 l1 MO EO=false:=by
 unfold mayR
 have:l0.all MO=false:=by rw [List.all_eq_false];exact ⟨x,hx,by rw [h];decide⟩
 rw [this,Bool.false_and,Bool.and_false]
theorem mayR_badE (l0:List (S57)) (l1:List (S119)) (MO:S57→Bool) (EO:S119→Bool) (x:S119) (hx:x ∈ l1) (h:EO x=false):mayR l0 l1 MO EO=false:=by
 unfold mayR
 have:l1.all EO=false:=by rw [List.all_eq_false];exact ⟨x,hx,by rw [h];decide⟩
 rw [this,Bool.false_and,Bool.and_false,Bool.and_false]
theorem cnt_lawful {κ:Type} (i1 i2:BEq κ) [@LawfulBEq κ i1] [@LawfulBEq κ i2] (y:κ) (l:List κ):@List.count κ i1 y l=@List.count κ i2 y l:=by
 induction l with
 | nil=>rfl
 | cons a l ih =>
  rw [@List.count_cons κ i1,@List.count_cons κ i2,ih]
  by_cases e:a=y
  ·subst e
   rw [if_pos (@beq_self_eq_true κ i1 _ a),if_pos (@beq_self_eq_true κ i2 _ a)]
  ·rw [if_neg (fun h=>e (@eq_of_beq κ i1 _ a y h)),if_neg (fun h=>e (@eq_of_beq κ i2 _ a y h))]
theorem uniq_count (a b:List (List UInt8)) (h:∀ y,a.count y=b.count y):uniqB a=uniqB b:=by
 have h2:∀ y,@List.count _ instBEqOfDecidableEq y a=@List.count _ instBEqOfDecidableEq y b:=fun y=>by rw [cnt_lawful instBEqOfDecidableEq _ y a,cnt_lawful instBEqOfDecidableEq _ y b];exact h y
 unfold uniqB
 refine decide_eq_decide.2 ⟨fun hx x hm=>?_,fun hx x hm=>?_⟩
 ·rw [← h2];exact hx x (by rw [← List.count_pos_iff,h x];exact List.count_pos_iff.2 hm)
 ·rw [h2];exact hx x (by rw [← List.count_pos_iff,← h x];exact List.count_pos_iff.2 hm)
theorem mayR_end (l0:List (S57)) (l1:List (S119)) (MO:S57→Bool) (EO:S119→Bool) (X:List ByteArray) (hn:1≤l0.length∧l0.length≤20∧l1.length≤20) (hc:∀ y,(X.map bl).count y=words8.count y) (hs:∀ x ∈ X,x.size≤maxLen) (h0:∀ x ∈ l0,x.f0.size≤maxLen) (h1:∀ x ∈ l1,x.f0.size≤maxLen) (hm:∀ x ∈ l0,MO x=true) (he:∀ x ∈ l1,EO x=true):table_unique_string.f (X++l0.map (·.f0)++l1.map (·.f0))=some (mayR l0 l1 MO EO):=by
 unfold table_unique_string.f mayR
 rw [if_pos ?_,decide_eq_true hn,List.all_eq_true.2 hm,List.all_eq_true.2 he,Bool.true_and,Bool.true_and,Bool.true_and]
 ·refine congrArg some (uniq_count _ _ fun y=>?_)
  rw [List.map_append,List.map_append,List.append_assoc,List.count_append,List.count_append,hc,List.map_map,List.map_map,List.count_append,List.count_append]
  rfl
 ·intro s hs'
  rcases List.mem_append.1 hs' with q|q
  ·rcases List.mem_append.1 q with q|q
   ·exact hs s q
   ·obtain ⟨x,hx,rfl⟩:=List.mem_map.1 q
    exact h0 x hx
  ·obtain ⟨x,hx,rfl⟩:=List.mem_map.1 q
   exact h1 x hx
theorem own_strs {w:World} {base:Nat} {v:Value} {X:List ByteArray} (h:w.ownsRow base 9 1 v X.length (X.map Value.string)):∃ A c,v = .slice A X.length c∧X.length≤c∧Kd.string.C w A X.length X :=
 OwnRow.reads (R:=fun x cs=>cs=[Value.string x]) (size:=1) ⟨X.map Value.string,h,Kd.reps_scalar X⟩
theorem own_low2 {W W1:World} {base n size:Nat} {e:TypeId} {v:Value} {xs:List Value} (h:W.ownsRow base e size v n xs) (hb:Below W.heap.size W W1):W1.ownsRow base e size v n xs:=pw_own_below h hb
set_option maxRecDepth 100000 in
set_option maxHeartbeats 4000000 in
theorem may_s (A0 A1:Option Addr) (c0 c1:Nat) (l0:List (S57)) (l1:List (S119)) (w:World) (hC:k57.C w A0 l0.length l0) (hc0:l0.length≤c0) (hE:k119.C w A1 l1.length l1) (hc1:l1.length≤c1) (MO:S57→Bool) (EO:S119→Bool) (hMO:∀ x ∈ l0,∃ k,table_message.f k l0 l1 x.f0 x.f1=some (MO x)) (hEO:∀ x ∈ l1,table_enum.f x.f0 x.f1 x.f2=some (EO x)) (hz0_:∀ x ∈ l0,x.f0.size≤maxLen) (hz1_:∀ x ∈ l1,x.f0.size≤maxLen) :
  Calls Tryz.prog 19 #[.agg #[.slice A0 l0.length c0,.slice A1 l1.length c1]] w (SameT w (mayR l0 l1 MO EO)):=by
 have HC:=Y0 hC
 have HE:=Y0 hE
 have hm0:=Kd.C_max hC
 have hm1:=Kd.C_max hE
 clear hC hE
 obtain ⟨i0,hif,hzz⟩:=Option.map_eq_some_iff.1 info9
 simp only [Prod.mk.injEq] at hzz
 obtain ⟨hz0,hz1,hz2⟩:=hzz
 go_enter Tryz.func19,Tryz.ntmps19
 go_wp2_with fail
 have e0:(w.alloc (.cells #[.slice A0 l0.length c0,.slice A1 l1.length c1] 46 (0,0))).heap.size=w.heap.size + 1:=World.size_alloc _ _
 have h1:=below_alloc (Below.refl w.heap.size w) (.cells #[.slice A0 l0.length c0,.slice A1 l1.length c1] 46 (0,0))
 have k1:=blk_new w (.cells #[.slice A0 l0.length c0,.slice A1 l1.length c1] 46 (0,0))
 generalize w.alloc (.cells #[.slice A0 l0.length c0,.slice A1 l1.length c1] 46 (0,0))=V0 at *
 refine (tplain_s _).mono ?_
 rintro e V1 ⟨rfl,hp,hb⟩
 have HX:=Y0 (blk_below k1 hb)
 have HB:=Y0 (below_step h1 hb)
 rw [e0] at hp ⊢
 clear h1 k1 hb e0
 obtain ⟨D,hD,hf⟩:=hp
 have HF:=Y0 hf
 have hD8:=hD.size_le
 clear hf
 go_wp2_with (at_range;refine wpList_range_own _ rfl _ 114 rfl 9 3 (Maps.string_keyed tb_str) tb_mSI _ _ 8 D rfl hD ?_;intro W0 hrg0 hg0 hs0)
 go_frame
 have hrl:=hs0
 obtain ⟨rb,hrb⟩:∃ rb,rb=V1.heap.size:=⟨_,rfl⟩
 have hV1:=HB.out.size
 have HW:w.heap.size + 1≤V1.heap.size:=by have:=hD.lt;omega
 rw [← hrb] at hrg0 HW ⊢
 have HR0:=Y0 hrg0
 have HB0:=Y0 (HB.out.trans (show Below w.heap.size V1 W0 from (Below.refl w.heap.size V1).grown hg0 hV1 (fun k e=>by cases e)))
 have HX0:=Y0 ((hg0.block w.heap.size (blk_lt HX.out) J53).trans HX.out)
 clear hrg0 hg0 hs0 hrl hrb hV1 HB HX hD
 go_loopg [3] 8 (fun n_ v V=>∃ (X:List ByteArray) (left:Lit→Bool) (cnt:Nat),Aside0 (V.ranges Tryz.prog 9 (plainElem Tryz.prog 3) (w.heap.size + 1) rb 8 D left cnt)∧Aside0 (Gath X left)∧Aside0 (V.ownsRow w.heap.size 9 1 v X.length (X.map Value.string))∧Aside0 (Below w.heap.size w V)∧Aside0 (V.heap[w.heap.size]?=some (.cells #[.slice A0 l0.length c0,.slice A1 l1.length c1] 46 (0,0)))∧Aside0 (cnt≤n_∧X.length + cnt≤8))
 case atStart=>exact ⟨[],_,_,HR0,⟨gath_start HF.out⟩,⟨World.ownsRow_nil _ _ _ _⟩,HB0,HX0,⟨J129⟩⟩
 case round =>
  clear HR0 HB0 HX0
  obtain ⟨X,left,cnt,HRG,HG,HOW,HB,HX,HN⟩:=hrel
  go_wp2_with (at_next;refine wpList_next_ranges _ rfl _ rfl 9 (Maps.string_keyed tb_str) (plainElem Tryz.prog 3) Value.string (Value.int .i64) (fun _ _ h=>str_key h) (fun _ _ h=>by obtain ⟨c,rfl,_⟩:=plainElem_int_inv tb_int h;exact ⟨c,rfl⟩) (w.heap.size + 1) rb 8 D left cnt rfl HRG.out ?_ ?_)
  ·intro _ hl0
   have HGE:=Y0 (gath_end HG.out hl0)
   have HGS:=Y0 HG.out.2
   have HXL:Aside0 (X.length≤8):=⟨J105⟩
   clear hl0 HG HN HRG
   have q0:_=some (Value.slice A0 l0.length c0):=(blk_cell HX.out 0).trans rfl
   have q1:_=some (Value.slice A1 l1.length c1):=(blk_cell HX.out 1).trans rfl
   have q2:=blk_frozen HX.out 0
   have q3:=blk_frozen HX.out 1
   by_cases hA:1≤l0.length∧l0.length≤20
   ·have hin:table_in.f (l0.length:Int) 1 20=some true:=by unfold table_in.f;rw [if_pos J7];exact congrArg some (decide_eq_true J7)
    have HIN:=Y0 hin
    clear hin
    by_cases hB:l1.length≤20
    ·have hb20:decide ((20:Int) < (l1.length:Int))=false:=decide_eq_false J7
     go_wp2_with (go_at_call 60;refine (table_in.calls _ 1 20 true _ HIN.out).mono ?_;rintro e W1 ⟨rfl,hd⟩;have m1_:=Y0 (blk_below HX.out hd.below);have m2_:=Y0 (below_step HB.out hd.below);have m3_:=Y0 (own_low2 HOW.out hd.below);clear HX HB HOW q0 q1 q2 q3 hd;have HX:=m1_;have HB:=m2_;have HOW:=m3_;clear m1_ m2_ m3_;have q0:_=some (Value.slice A0 l0.length c0):=(blk_cell HX.out 0).trans rfl;have q1:_=some (Value.slice A1 l1.length c1):=(blk_cell HX.out 1).trans rfl;have q2:=blk_frozen HX.out 0;have q3:=blk_frozen HX.out 1)
     clear q0 q1 q2 q3
     go_loopg [3,33] l0.length (fun n_ v3_ vi_ V=>∃ i:Nat,vi_ = .int .i64 i∧Aside0 (i + n_=l0.length)∧Aside0 (∀ x ∈ l0.take i,MO x=true)∧Aside0 (V.ownsRow w.heap.size 9 1 v3_ (X++(l0.take i).map (·.f0)).length ((X++(l0.take i).map (·.f0)).map Value.string))∧Aside0 (Below w.heap.size w V)∧Aside0 (V.heap[w.heap.size]?=some (.cells #[.slice A0 l0.length c0,.slice A1 l1.length c1] 46 (0,0))))
     case atStart=>exact ⟨0,rfl,⟨J7⟩,⟨fun x hx=>absurd hx J53⟩,⟨by simpa using HOW.out⟩,HB,HX⟩
     case round =>
      clear HOW HB HX
      obtain ⟨i,rfl,HL,HP,HOW,HB,HX⟩:=hrel
      by_cases hlt:i < l0.length
      ·have d3:(0:Int)≤(i:Int):=by omega
       have d4:(i:Int) < (l0.length:Int):=by omega
       obtain ⟨ad,A2_,c2_,had,z0,z1,hcc,hCC⟩:=at_T57 HC.out i d3 d4
       obtain ⟨x,hx⟩:∃ x,x=l0[i]'hlt:=⟨_,rfl⟩
       have hrd:rd_T57 l0 i=x:=by unfold rd_T57;rw [hx,List.getD_eq_getElem?_getD];simp [hlt]
       rw [hrd] at z0 z1 hcc hCC
       rw [Int.toNat_natCast] at z0 z1
       replace z0:=(HB.out.cell (World.block_lt_of_cell? w _ z0)).trans z0
       replace z1:=(HB.out.cell (World.block_lt_of_cell? w _ z1)).trans z1
       clear hrd
       subst had
       have hmem:x ∈ l0:=by rw [hx];exact List.getElem_mem hlt
       have htake:l0.take (i + 1)=l0.take i++[x]:=by rw [hx];exact (List.take_succ_eq_append_getElem hlt)
       clear hx
       obtain ⟨kf,hmo⟩:=hMO x hmem
       have HMO:=Y0 hmo
       have HCC:=Y0 (Kd.C_below hCC HB.out)
       have HTK:=Y0 htake
       have HME:=Y0 hmem
       obtain ⟨Y,hY⟩:∃ Y,Y=X++(l0.take i).map (·.f0):=⟨_,rfl⟩
       have HYL:Aside0 (Y.length≤48):=⟨by rw [hY];have:=HXL.out;simp;omega⟩
       rw [← hY] at HOW
       have HY:=Y0 hY
       clear hmo hCC htake hmem hY
       have q0:∀ o,(wr.alloc o).cell? ⟨w.heap.size,0,none⟩=some (Value.slice (some ad) l0.length c0):=fun o=>(blk_cell (blk_alloc HX.out o) 0).trans rfl
       have q1:∀ o,(wr.alloc o).cell? ⟨w.heap.size,1,none⟩=some (Value.slice A1 l1.length c1):=fun o=>(blk_cell (blk_alloc HX.out o) 1).trans rfl
       have HZ:Aside0 (x.f0.size≤maxLen):=⟨hz0_ x HME.out⟩
       obtain ⟨r_,hr_⟩:∃ r_,MO x=r_:=⟨_,rfl⟩
       rw [hr_] at HMO
       have HRR:=Y0 hr_
       clear hr_
       have hyl:=HYL.out
       cases gk with
       | zero=>have:=HL.out;omega
       | succ k1 =>
        cases r_
        ·go_wp2_with (go_at_call 61;refine (table_message.calls kf _ _ l0 _ _ l1 x.f0 _ _ x.f1 false _ ?s1 ?s2 ?s3 ?s4 ?s5 ?s6 HMO.out).mono ?_;(case s1=>exact Kd.C_alloc (Kd.C_below HC.out HB.out) _);(case s2=>exact hc0);(case s3=>exact Kd.C_alloc (Kd.C_below HE.out HB.out) _);(case s4=>exact hc1);(case s5=>exact Kd.C_alloc HCC.out _);(case s6=>exact hcc);rintro e W1 ⟨rfl,hb1⟩;have m2_:=Y0 (below_step (below_alloc HB.out (.cells #[.string x.f0,.slice A2_ x.f1.length c2_] 57 (0,0))) hb1);clear HX HB HOW q0 q1 hb1;have HB:=m2_;clear m2_)
         go_ret
         exact ⟨by rw [mayR_badM _ _ _ _ x HME.out HRR.out];rfl,HB.out⟩
        ·go_wp2_with (first|(go_at_call 61;refine (table_message.calls kf _ _ l0 _ _ l1 x.f0 _ _ x.f1 true _ ?s1 ?s2 ?s3 ?s4 ?s5 ?s6 HMO.out).mono ?_;(case s1=>exact Kd.C_alloc (Kd.C_below HC.out HB.out) _);(case s2=>exact hc0);(case s3=>exact Kd.C_alloc (Kd.C_below HE.out HB.out) _);(case s4=>exact hc1);(case s5=>exact Kd.C_alloc HCC.out _);(case s6=>exact hcc);rintro e W1 ⟨rfl,hb1⟩;have m1_:=Y0 (blk_below (blk_alloc HX.out (.cells #[.string x.f0,.slice A2_ x.f1.length c2_] 57 (0,0))) hb1);have m2_:=Y0 (below_step (below_alloc HB.out (.cells #[.string x.f0,.slice A2_ x.f1.length c2_] 57 (0,0))) hb1);have m3_:=Y0 (own_low2 (HOW.out.alloc (.cells #[.string x.f0,.slice A2_ x.f1.length c2_] 57 (0,0))) hb1);have m4_:=Y0 (blk_below (blk_new wr (.cells #[.string x.f0,.slice A2_ x.f1.length c2_] 57 (0,0))) hb1);clear HX HB HOW q0 q1 hb1;have HX:=m1_;have HB:=m2_;have HOW:=m3_;clear m1_ m2_ m3_;have q6:_=some (Value.string x.f0):=(blk_cell m4_.out 0).trans rfl;have V2R:∃ V2,V2=W1:=⟨_,rfl⟩;obtain ⟨V2,hV2⟩:=V2R;rw [← hV2] at HX HB HOW q6 ⊢;clear hV2 m4_)|(at_builtin;refine wpList_append_own _ rfl _ _ 31 rfl w.heap.size 9 i0 (.string ⟨#[]⟩) 1 16 Tryz.underlying31 hif hz0 hz1 hz2 rfl J11 _ _ _ rfl (HOW.out.alloc _) ⟨V2.heap.size,0,none⟩ 1 1 [.string x.f0] rfl rfl (cell_one_new _ _ _) (by simp [Value.oneCell']) J149 J7 (Nat.le_trans HB.out.size (below_alloc (Below.refl _ V2) _).size) ?_;intro v' V3 hown3 hg3 _))
         have hY2:X++(l0.take (i + 1)).map (·.f0)=Y++[x.f0]:=by rw [HTK.out,HY.out];simp
         have m1_:Aside0 (V3.ownsRow w.heap.size 9 1 v' (X++(l0.take (i + 1)).map (·.f0)).length ((X++(l0.take (i + 1)).map (·.f0)).map Value.string)):=⟨by rw [hY2];simpa using hown3⟩
         have m2_:=Y0 ((below_alloc HB.out (.cells #[.string x.f0] 9 (0,0))).grown hg3 (Nat.le_trans HB.out.size (below_alloc (Below.refl _ V2) (.cells #[.string x.f0] 9 (0,0))).size) (own_low HOW.out))
         have m4_:=Y0 ((hg3.block w.heap.size (blk_lt (blk_alloc HX.out (.cells #[.string x.f0] 9 (0,0)))) (own_ne_iter (HOW.out.alloc (.cells #[.string x.f0] 9 (0,0))) (blk_alloc HX.out (.cells #[.string x.f0] 9 (0,0))) (fun _ e=>by injection e with _ e;exact absurd e J11))).trans (blk_alloc HX.out (.cells #[.string x.f0] 9 (0,0))))
         have m5_:Aside0 (∀ y ∈ l0.take (i + 1),MO y=true):=⟨fun y hy=>by rw [HTK.out] at hy;rcases List.mem_append.1 hy with hy|hy;exact HP.out y hy;rw [List.mem_singleton.1 hy];exact HRR.out⟩
         clear hY2 hown3 hg3 HOW HB HX HP
         go_roundg k1
         case measure=>omega
         case rel=>exact ⟨i + 1,J112,⟨J69⟩,m5_,m1_,m2_,m4_⟩
      ·have hil:i=l0.length:=by have:=HL.out;omega
       subst hil
       rw [List.take_length] at HP HOW
       have HPM:=HP
       clear HP HL
       have q0:_=some (Value.slice A0 l0.length c0):=(blk_cell HX.out 0).trans rfl
       have q1:_=some (Value.slice A1 l1.length c1):=(blk_cell HX.out 1).trans rfl
       have q2:=blk_frozen HX.out 0
       have q3:=blk_frozen HX.out 1
       go_wp2_with fail
       clear q0 q1 q2 q3
       go_loopg [3,50] l1.length (fun n_ v3_ vi_ V=>∃ i:Nat,vi_ = .int .i64 i∧Aside0 (i + n_=l1.length)∧Aside0 (∀ x ∈ l1.take i,EO x=true)∧Aside0 (V.ownsRow w.heap.size 9 1 v3_ (X++l0.map (·.f0)++(l1.take i).map (·.f0)).length ((X++l0.map (·.f0)++(l1.take i).map (·.f0)).map Value.string))∧Aside0 (Below w.heap.size w V)∧Aside0 (V.heap[w.heap.size]?=some (.cells #[.slice A0 l0.length c0,.slice A1 l1.length c1] 46 (0,0))))
       case atStart=>exact ⟨0,rfl,⟨J7⟩,⟨fun x hx=>absurd hx J53⟩,⟨by simpa using HOW.out⟩,HB,HX⟩
       case round =>
        clear HOW HB HX
        obtain ⟨i,rfl,HL,HP,HOW,HB,HX⟩:=hrel
        by_cases hlt:i < l1.length
        ·have d3:(0:Int)≤(i:Int):=by omega
         have d4:(i:Int) < (l1.length:Int):=by omega
         obtain ⟨ad,A2_,c2_,A3_,c3_,had,z0,z1,z2,hcc,hCC,hcd,hCD⟩:=at_T119 HE.out i d3 d4
         obtain ⟨x,hx⟩:∃ x,x=l1[i]'hlt:=⟨_,rfl⟩
         have hrd:rd_T119 l1 i=x:=by unfold rd_T119;rw [hx,List.getD_eq_getElem?_getD];simp [hlt]
         rw [hrd] at z0 z1 z2 hcc hCC hcd hCD
         rw [Int.toNat_natCast] at z0 z1 z2
         replace z0:=(HB.out.cell (World.block_lt_of_cell? w _ z0)).trans z0
         replace z1:=(HB.out.cell (World.block_lt_of_cell? w _ z1)).trans z1
         replace z2:=(HB.out.cell (World.block_lt_of_cell? w _ z2)).trans z2
         clear hrd
         subst had
         have hmem:x ∈ l1:=by rw [hx];exact List.getElem_mem hlt
         have htake:l1.take (i + 1)=l1.take i++[x]:=by rw [hx];exact (List.take_succ_eq_append_getElem hlt)
         clear hx
         have hmo:=hEO x hmem
         have HMO:=Y0 hmo
         have HCC:=Y0 (Kd.C_below hCC HB.out)
         have HCD:=Y0 (Kd.C_below hCD HB.out)
         have HTK:=Y0 htake
         have HME:=Y0 hmem
         obtain ⟨Y,hY⟩:∃ Y,Y=X++l0.map (·.f0)++(l1.take i).map (·.f0):=⟨_,rfl⟩
         have HYL:Aside0 (Y.length≤48):=⟨by rw [hY];have:=HXL.out;simp;omega⟩
         rw [← hY] at HOW
         have HY:=Y0 hY
         clear hmo hCC htake hmem hY hCD
         have q0:∀ o,(wr.alloc o).cell? ⟨w.heap.size,0,none⟩=some (Value.slice A0 l0.length c0):=fun o=>(blk_cell (blk_alloc HX.out o) 0).trans rfl
         have q1:∀ o,(wr.alloc o).cell? ⟨w.heap.size,1,none⟩=some (Value.slice (some ad) l1.length c1):=fun o=>(blk_cell (blk_alloc HX.out o) 1).trans rfl
         have HZ:Aside0 (x.f0.size≤maxLen):=⟨hz1_ x HME.out⟩
         obtain ⟨r_,hr_⟩:∃ r_,EO x=r_:=⟨_,rfl⟩
         rw [hr_] at HMO
         have HRR:=Y0 hr_
         clear hr_
         have hyl:=HYL.out
         cases gk with
         | zero=>have:=HL.out;omega
         | succ k1 =>
          cases r_
          ·go_wp2_with (go_at_call 62;refine (table_enum.calls x.f0 _ _ x.f1 _ _ x.f2 false _ ?s1 ?s2 ?s3 ?s4 HMO.out).mono ?_;(case s1=>exact Kd.C_alloc HCC.out _);(case s2=>exact hcc);(case s3=>exact Kd.C_alloc HCD.out _);(case s4=>exact hcd);rintro e W1 ⟨rfl,hb1⟩;have m2_:=Y0 (below_step (below_alloc HB.out (.cells #[.string x.f0,.slice A2_ x.f1.length c2_,.slice A3_ x.f2.length c3_] 119 (0,0))) hb1);clear HX HB HOW q0 q1 hb1;have HB:=m2_;clear m2_)
           go_ret
           exact ⟨by rw [mayR_badE _ _ _ _ x HME.out HRR.out];rfl,HB.out⟩
          ·go_wp2_with (first|(go_at_call 62;refine (table_enum.calls x.f0 _ _ x.f1 _ _ x.f2 true _ ?s1 ?s2 ?s3 ?s4 HMO.out).mono ?_;(case s1=>exact Kd.C_alloc HCC.out _);(case s2=>exact hcc);(case s3=>exact Kd.C_alloc HCD.out _);(case s4=>exact hcd);rintro e W1 ⟨rfl,hb1⟩;have m1_:=Y0 (blk_below (blk_alloc HX.out (.cells #[.string x.f0,.slice A2_ x.f1.length c2_,.slice A3_ x.f2.length c3_] 119 (0,0))) hb1);have m2_:=Y0 (below_step (below_alloc HB.out (.cells #[.string x.f0,.slice A2_ x.f1.length c2_,.slice A3_ x.f2.length c3_] 119 (0,0))) hb1);have m3_:=Y0 (own_low2 (HOW.out.alloc (.cells #[.string x.f0,.slice A2_ x.f1.length c2_,.slice A3_ x.f2.length c3_] 119 (0,0))) hb1);have m4_:=Y0 (blk_below (blk_new wr (.cells #[.string x.f0,.slice A2_ x.f1.length c2_,.slice A3_ x.f2.length c3_] 119 (0,0))) hb1);clear HX HB HOW q0 q1 hb1;have HX:=m1_;have HB:=m2_;have HOW:=m3_;clear m1_ m2_ m3_;have q6:_=some (Value.string x.f0):=(blk_cell m4_.out 0).trans rfl;have V2R:∃ V2,V2=W1:=⟨_,rfl⟩;obtain ⟨V2,hV2⟩:=V2R;rw [← hV2] at HX HB HOW q6 ⊢;clear hV2 m4_)|(at_builtin;refine wpList_append_own _ rfl _ _ 31 rfl w.heap.size 9 i0 (.string ⟨#[]⟩) 1 16 Tryz.underlying31 hif hz0 hz1 hz2 rfl J11 _ _ _ rfl (HOW.out.alloc _) ⟨V2.heap.size,0,none⟩ 1 1 [.string x.f0] rfl rfl (cell_one_new _ _ _) (by simp [Value.oneCell']) J149 J7 (Nat.le_trans HB.out.size (below_alloc (Below.refl _ V2) _).size) ?_;intro v' V3 hown3 hg3 _))
           have hY2:X++l0.map (·.f0)++(l1.take (i + 1)).map (·.f0)=Y++[x.f0]:=by rw [HTK.out,HY.out];simp
           have m1_:Aside0 (V3.ownsRow w.heap.size 9 1 v' (X++l0.map (·.f0)++(l1.take (i + 1)).map (·.f0)).length ((X++l0.map (·.f0)++(l1.take (i + 1)).map (·.f0)).map Value.string)):=⟨by rw [hY2];simpa using hown3⟩
           have m2_:=Y0 ((below_alloc HB.out (.cells #[.string x.f0] 9 (0,0))).grown hg3 (Nat.le_trans HB.out.size (below_alloc (Below.refl _ V2) (.cells #[.string x.f0] 9 (0,0))).size) (own_low HOW.out))
           have m4_:=Y0 ((hg3.block w.heap.size (blk_lt (blk_alloc HX.out (.cells #[.string x.f0] 9 (0,0)))) (own_ne_iter (HOW.out.alloc (.cells #[.string x.f0] 9 (0,0))) (blk_alloc HX.out (.cells #[.string x.f0] 9 (0,0))) (fun _ e=>by injection e with _ e;exact absurd e J11))).trans (blk_alloc HX.out (.cells #[.string x.f0] 9 (0,0))))
           have m5_:Aside0 (∀ y ∈ l1.take (i + 1),EO y=true):=⟨fun y hy=>by rw [HTK.out] at hy;rcases List.mem_append.1 hy with hy|hy;exact HP.out y hy;rw [List.mem_singleton.1 hy];exact HRR.out⟩
           clear hY2 hown3 hg3 HOW HB HX HP
           go_roundg k1
           case measure=>omega
           case rel=>exact ⟨i + 1,J112,⟨J69⟩,m5_,m1_,m2_,m4_⟩
        ·have hil:i=l1.length:=by have:=HL.out;omega
         subst hil
         rw [List.take_length] at HP HOW
         obtain ⟨Z,hZ⟩:∃ Z,Z=X++l0.map (·.f0)++l1.map (·.f0):=⟨_,rfl⟩
         have hun:table_unique_string.f Z=some (mayR l0 l1 MO EO):=by rw [hZ];exact mayR_end l0 l1 MO EO X ⟨hA.1,hA.2,hB⟩ HGE.out HGS.out hz0_ hz1_ HPM.out HP.out
         rw [← hZ] at HOW
         obtain ⟨A_,c_,hsl,hcl,hcc⟩:=own_strs HOW.out
         subst hsl
         have HCL:=Y0 hcc
         have HUN:=Y0 hun
         clear hun hcc hZ
         go_wp2_with (go_at_call 63;refine (table_unique_string.calls _ _ Z _ _ HCL.out hcl HUN.out).mono ?_;rintro e W1 ⟨rfl,hb1⟩;have m2_:=Y0 (below_step HB.out hb1);clear HX HB HOW hb1;have HB:=m2_;clear m2_)
         go_ret
         exact ⟨rfl,HB.out⟩
    ·have hb20:decide ((20:Int) < (l1.length:Int))=true:=decide_eq_true J7
     go_wp2_with (go_at_call 60;refine (table_in.calls _ 1 20 true _ HIN.out).mono ?_;rintro e W1 ⟨rfl,hd⟩;have m1_:=Y0 (blk_below HX.out hd.below);have m2_:=Y0 (below_step HB.out hd.below);clear HX HB HOW q0 q1 q2 q3 hd;have HX:=m1_;have HB:=m2_;clear m1_ m2_;have q0:_=some (Value.slice A0 l0.length c0):=(blk_cell HX.out 0).trans rfl;have q1:_=some (Value.slice A1 l1.length c1):=(blk_cell HX.out 1).trans rfl;have q2:=blk_frozen HX.out 0;have q3:=blk_frozen HX.out 1)
     go_ret
     exact ⟨by rw [mayR_out _ _ _ _ J7];rfl,HB.out⟩
   ·have hin:table_in.f (l0.length:Int) 1 20=some false:=by unfold table_in.f;split <;> first|rfl|exact congrArg some (decide_eq_false J7)
    have HIN:=Y0 hin
    clear hin
    go_wp2_with (go_at_call 60;refine (table_in.calls _ 1 20 false _ HIN.out).mono ?_;rintro e W1 ⟨rfl,hd⟩;have m2_:=Y0 (below_step HB.out hd.below);clear HX HB HOW q0 q1 q2 q3 hd;have HB:=m2_;clear m2_)
    go_ret
    exact ⟨by rw [mayR_out _ _ _ _ J7];rfl,HB.out⟩
  ·intro x c kl y y2_ V2 cnt2 hkey hlk hval hat hrg2 hlt hg2 hs2 hen
   obtain ⟨rfl,hxs⟩:=str_key2 hkey
   have htp:=plain_key HF.out hat
   have HG2:=Y0 (gath_step HG.out hlk htp hxs)
   have hit:∃ a b q z,wr.heap[rb]?=some (.mapIter a b q z):=by
    obtain ⟨es,clock,since,seen,c0',_,_,_,_,hr,_⟩:=HRG.out
    exact ⟨_,_,_,_,hr⟩
   obtain ⟨a_,b_,q_,z_,hit⟩:=hit
   have hne:=own_ne_iter HOW.out hit (fun _ e=>by cases e)
   have HOW2:=Y0 (World.ownsRow.kept HOW.out hg2 (.inr (Ne.symm hne)))
   have HX2:=Y0 ((hg2.block w.heap.size (blk_lt HX.out) (by intro e;injection e with e;omega)).trans HX.out)
   have HB2:=Y0 (HB.out.grown hg2 HB.out.size (fun k e=>by injection e with e;omega))
   have HR2:=Y0 hrg2
   have hit2:∃ a b q z,V2.heap[rb]?=some (.mapIter a b q z):=by
    obtain ⟨es,clock,since,seen,c0',_,_,_,_,hr,_⟩:=hrg2
    exact ⟨_,_,_,_,hr⟩
   obtain ⟨a2_,b2_,q2_,z2_,hit2⟩:=hit2
   have HNR:=Y0 (own_ne_iter HOW2.out hit2 (fun _ e=>by cases e))
   have hmp:=hrg2.owns
   have hmb:∃ es c,V2.heap[w.heap.size + 1]?=some (.map es c):=by
    obtain ⟨es,cl,h1,_⟩:=hmp
    exact ⟨es,cl,h1⟩
   obtain ⟨es_,cl_,hmb⟩:=hmb
   have HNM:=Y0 (own_ne_iter HOW2.out hmb (fun _ e=>by cases e))
   have HN2:Aside0 (cnt2 + 1≤gk∧X.length + cnt2 + 1≤8):=⟨J105⟩
   have hxl:X.length≤8:=by have:=HN.out;omega
   clear HRG HG HOW HB HX HN hkey hlk hval hat hrg2 hlt hg2 hit hit2 hne hmp hmb htp hxs hs2
   go_wp2_with (at_builtin;refine wpList_append_own _ rfl _ _ 31 rfl w.heap.size 9 i0 (.string ⟨#[]⟩) 1 16 Tryz.underlying31 hif hz0 hz1 hz2 rfl J11 _ _ _ rfl (HOW2.out.alloc _) ⟨V2.heap.size,0,none⟩ 1 1 [.string x] rfl rfl (cell_one_new _ _ _) (by simp [Value.oneCell']) J149 J7 (Nat.le_trans HB2.out.size (below_alloc (Below.refl _ V2) _).size) ?_;intro v' V3 hown3 hg3 _)
   have m1_:=Y0 ((HR2.out.alloc (.cells #[.string x] 9 (0,0))).kept hg3 HNM.out HNR.out)
   have m2_:Aside0 (V3.ownsRow w.heap.size 9 1 v' (X++[x]).length ((X++[x]).map Value.string)):=⟨by simpa using hown3⟩
   have m3_:=Y0 ((below_alloc HB2.out (.cells #[.string x] 9 (0,0))).grown hg3 (Nat.le_trans HB2.out.size (below_alloc (Below.refl _ V2) (.cells #[.string x] 9 (0,0))).size) (own_low HOW2.out))
   have m4_:=Y0 ((hg3.block w.heap.size (blk_lt (blk_alloc HX2.out (.cells #[.string x] 9 (0,0)))) (own_ne_iter (HOW2.out.alloc (.cells #[.string x] 9 (0,0))) (blk_alloc HX2.out (.cells #[.string x] 9 (0,0))) (fun _ e=>by injection e with _ e;exact absurd e J11))).trans (blk_alloc HX2.out (.cells #[.string x] 9 (0,0))))
   clear HR2 HOW2 HB2 HX2 HNM HNR hown3 hg3 hen
   cases gk with
   | zero=>have:=HN2.out;omega
   | succ k1 =>
    go_roundg k1
    case measure=>omega
    case rel=>exact ⟨X++[x],_,cnt2,m1_,HG2,m2_,m3_,m4_,⟨by have:=HN2.out;simp;omega⟩⟩
def tmMay (l0:List (S57)) (l1:List (S119)):Bool:=mayR l0 l1 (tmMsg l0.length l1.length) tmEnum
def TmOk (l0:List (S57)) (l1:List (S119)):Prop:=l0.length≤9223372036854775807∧l1.length≤9223372036854775807∧(∀ x ∈ l0,x.f0.size≤maxLen∧x.f1.length < 8796093022208∧∀ y ∈ x.f1,y.f1.size≤maxLen)∧(∀ x ∈ l1,x.f0.size≤maxLen∧(∀ s ∈ x.f1,s.size≤maxLen)∧∀ n ∈ x.f2,(Lit.int .i64 n).wf=true)
instance decTm (l0:List (S57)) (l1:List (S119)):Decidable (TmOk l0 l1):=by unfold TmOk;infer_instance
def table_May.f (l0_0:List (S57)) (l0_1:List (S119)):Option Bool:=if TmOk l0_0 l0_1 then some (tmMay l0_0 l0_1) else none
theorem table_May.calls (A0_0:Option Addr) (c0_0:Nat) (l0_0:List (S57)) (A0_1:Option Addr) (c0_1:Nat) (l0_1:List (S119)) (r:Bool) (w:World) (hr0_0:Kd.C k57 w A0_0 l0_0.length l0_0) (hc0_0:l0_0.length≤c0_0) (hr0_1:Kd.C k119 w A0_1 l0_1.length l0_1) (hc0_1:l0_1.length≤c0_1) (h:table_May.f l0_0 l0_1=some r) :
  Calls Tryz.prog 19 #[.agg #[.slice A0_0 l0_0.length c0_0,.slice A0_1 l0_1.length c0_1]] w fun e w'=>e = .returned (.bool r)∧Below w.heap.size w w':=by
 unfold table_May.f at h
 split at h
 ·rename_i ho
  obtain rfl:=Option.some.inj h
  exact may_s A0_0 A0_1 c0_0 c0_1 l0_0 l0_1 w hr0_0 hc0_0 hr0_1 hc0_1 _ _ (fun x hx=>tm_msg l0_0 l0_1 x ho.1 ho.2.1 (ho.2.2.1 x hx).2.1 (ho.2.2.1 x hx).2.2) (fun x hx=>tm_enum x (ho.2.2.2 x hx).2.1 (ho.2.2.2 x hx).2.2) (fun x hx=>(ho.2.2.1 x hx).1) (fun x hx=>(ho.2.2.2 x hx).1)
 ·cases h
def trufflelaw08_awake.f  : Option (Bool):=(table_Read.f (⟨#[109,101,115,115,97,103,101,32,65,32,123,32,65,32,97,32,61,32,50,59,32,105,110,116,54,52,32,98,32,61,32,49,59,32,125]⟩:ByteArray)).bind fun bt295=>((table_Find.f bt295.1 bt295.2.1 0 (⟨#[97]⟩:ByteArray)).bind fun bt304=>((table_By.f bt295.1 bt295.2.1 0 1).bind fun bt313=>(if bt295.2.2.2=0 then (if (bt295.1.length:Int)=1 then (if 0 < (bt295.1.length:Int) then (if (((rd_T57 bt295.1 0).f1).length:Int)=2 then (if bt304.2.2.2.2.2.2.2=true then (if bt304.2.2.1=9 then (if bt304.1=2 then (if bt313.2.2.2.2.2.2.2=true then (if bt313.2.1.toList=([98]:List UInt8) then ((table_May.f bt295.1 bt295.2.1).bind fun t323=>(some t323)) else (some false)) else (some false)) else (some false)) else (some false)) else (some false)) else (some false)) else (none)) else (some false)) else (some false))))
set_option maxHeartbeats 8000000 in
set_option maxRecDepth 100000 in
theorem trufflelaw08_awake.callsT  (w:World) (hG:GInv w) (h:trufflelaw08_awake.f  = some true) :
  Calls Tryz.prog 16 #[] w fun e w'=>e = .returned (.bool true)∧Below w.heap.size w w':=by
 have hu46:=Tryz.underlying46
 have hu51:=Tryz.underlying51
 have HB:=Y0 (Below.refl w.heap.size w)
 have H:((table_Read.f (⟨#[109,101,115,115,97,103,101,32,65,32,123,32,65,32,97,32,61,32,50,59,32,105,110,116,54,52,32,98,32,61,32,49,59,32,125]⟩:ByteArray)).bind fun bt295=>((table_Find.f bt295.1 bt295.2.1 0 (⟨#[97]⟩:ByteArray)).bind fun bt304=>((table_By.f bt295.1 bt295.2.1 0 1).bind fun bt313=>(if bt295.2.2.2=0 then (if (bt295.1.length:Int)=1 then (if 0 < (bt295.1.length:Int) then (if (((rd_T57 bt295.1 0).f1).length:Int)=2 then (if bt304.2.2.2.2.2.2.2=true then (if bt304.2.2.1=9 then (if bt304.1=2 then (if bt313.2.2.2.2.2.2.2=true then (if bt313.2.1.toList=([98]:List UInt8) then ((table_May.f bt295.1 bt295.2.1).bind fun t323=>(some t323)) else (some false)) else (some false)) else (some false)) else (some false)) else (some false)) else (some false)) else (none)) else (some false)) else (some false)))))=some true:=h
 clear h
 replace H:=Y17.mp H
 obtain ⟨⟨t295,t298,t301,t302⟩,A10,H⟩:=H
 try dsimp only at H
 have A1:=Y0 A10
 clear A10
 replace H:=Y17.mp H
 obtain ⟨⟨t304,t305,t306,t307,t308,t309,t310,t311⟩,A20,H⟩:=H
 try dsimp only at H
 have A2:=Y0 A20
 clear A20
 replace H:=Y17.mp H
 obtain ⟨⟨t313,t314,t315,t316,t317,t318,t319,t320⟩,A30,H⟩:=H
 try dsimp only at H
 have A3:=Y0 A30
 clear A30
 by_cases c4:t302=0
 rotate_left
 ·rw [if_neg c4] at H
  have c4b0:(t302 == 0)=false:=beq_eq_false_iff_ne.mpr c4
  have c4b1:(t302 != 0)=true:=bne_iff_ne.mpr c4
  exact absurd (Option.some.inj H) Bool.false_ne_true
 rw [if_pos c4] at H
 have c4b0:(t302 == 0)=true:=beq_iff_eq.mpr c4
 have c4b1:(t302 != 0)=false:=bne_eq_false_iff_eq.mpr c4
 clear c4
 by_cases c5:(t295.length:Int)=1
 rotate_left
 ·rw [if_neg c5] at H
  have c5b0:((t295.length:Int) == 1)=false:=beq_eq_false_iff_ne.mpr c5
  have c5b1:((t295.length:Int) != 1)=true:=bne_iff_ne.mpr c5
  exact absurd (Option.some.inj H) Bool.false_ne_true
 rw [if_pos c5] at H
 have c5b0:((t295.length:Int) == 1)=true:=beq_iff_eq.mpr c5
 have c5b1:((t295.length:Int) != 1)=false:=bne_eq_false_iff_eq.mpr c5
 clear c5
 by_cases c6:0 < (t295.length:Int)
 rotate_left
 ·rw [if_neg c6] at H
  exact absurd H J53
 rw [if_pos c6] at H
 have c6b0:decide (0 < (t295.length:Int))=true:=decide_eq_true c6
 have c6b1:decide (0 < t295.length)=true:=decide_eq_true J7
 clear c6
 by_cases c7:(((rd_T57 t295 0).f1).length:Int)=2
 rotate_left
 ·rw [if_neg c7] at H
  have c7b0:((((rd_T57 t295 0).f1).length:Int) == 2)=false:=beq_eq_false_iff_ne.mpr c7
  have c7b1:((((rd_T57 t295 0).f1).length:Int) != 2)=true:=bne_iff_ne.mpr c7
  exact absurd (Option.some.inj H) Bool.false_ne_true
 rw [if_pos c7] at H
 have c7b0:((((rd_T57 t295 0).f1).length:Int) == 2)=true:=beq_iff_eq.mpr c7
 have c7b1:((((rd_T57 t295 0).f1).length:Int) != 2)=false:=bne_eq_false_iff_eq.mpr c7
 clear c7
 by_cases c8:t311=true
 rotate_left
 ·replace c8:=Bool.eq_false_iff.mpr c8
  subst c8
  rw [if_neg (show ¬ (false=true) by decide)] at H
  exact absurd (Option.some.inj H) Bool.false_ne_true
 subst c8
 rw [if_pos rfl] at H
 by_cases c9:t306=9
 rotate_left
 ·rw [if_neg c9] at H
  have c9b0:(t306 == 9)=false:=beq_eq_false_iff_ne.mpr c9
  have c9b1:(t306 != 9)=true:=bne_iff_ne.mpr c9
  exact absurd (Option.some.inj H) Bool.false_ne_true
 rw [if_pos c9] at H
 have c9b0:(t306 == 9)=true:=beq_iff_eq.mpr c9
 have c9b1:(t306 != 9)=false:=bne_eq_false_iff_eq.mpr c9
 clear c9
 by_cases c10:t304=2
 rotate_left
 ·rw [if_neg c10] at H
  have c10b0:(t304 == 2)=false:=beq_eq_false_iff_ne.mpr c10
  have c10b1:(t304 != 2)=true:=bne_iff_ne.mpr c10
  exact absurd (Option.some.inj H) Bool.false_ne_true
 rw [if_pos c10] at H
 have c10b0:(t304 == 2)=true:=beq_iff_eq.mpr c10
 have c10b1:(t304 != 2)=false:=bne_eq_false_iff_eq.mpr c10
 clear c10
 by_cases c11:t320=true
 rotate_left
 ·replace c11:=Bool.eq_false_iff.mpr c11
  subst c11
  rw [if_neg (show ¬ (false=true) by decide)] at H
  exact absurd (Option.some.inj H) Bool.false_ne_true
 subst c11
 rw [if_pos rfl] at H
 by_cases c12:t314.toList=([98]:List UInt8)
 rotate_left
 ·rw [if_neg c12] at H
  have c12b0:(t314.toList == ([98]:List UInt8))=false:=beq_eq_false_iff_ne.mpr c12
  have c12b1:(t314.toList != ([98]:List UInt8))=true:=bne_iff_ne.mpr c12
  exact absurd (Option.some.inj H) Bool.false_ne_true
 rw [if_pos c12] at H
 have c12b0:(t314.toList == ([98]:List UInt8))=true:=beq_iff_eq.mpr c12
 have c12b1:(t314.toList != ([98]:List UInt8))=false:=bne_eq_false_iff_eq.mpr c12
 clear c12
 replace H:=Y17.mp H
 obtain ⟨t323,A130,H⟩:=H
 try dsimp only at H
 have A13:=Y0 A130
 clear A130
 have hv_:=Option.some.inj H
 go_enter Tryz.func16,Tryz.ntmps16
 go_wp2_with (first|((with_reducible refine gate_callee (f:=27) rfl ?_);refine goesL_ (some 9) rfl rfl Tryz.func27 J0 rfl #[.string (⟨#[109,101,115,115,97,103,101,32,65,32,123,32,65,32,97,32,61,32,50,59,32,105,110,116,54,52,32,98,32,61,32,49,59,32,125]⟩:ByteArray)] rfl J1 ?_;(with_reducible refine (table_Read.calls (⟨#[109,101,115,115,97,103,101,32,65,32,123,32,65,32,97,32,61,32,50,59,32,105,110,116,54,52,32,98,32,61,32,49,59,32,125]⟩:ByteArray) t295 t298 t301 t302 _ ?side1 A1.out).mono ?_);(case side1=>exact hG.below J4);rintro e w14 ⟨v296,v299,rfl,ho0,ho1,hb⟩;refine ⟨_,rfl,?_⟩;have n0_:=Y0 (Kd.R_lower ho0 (below_size J4));have n1_:=Y0 (Kd.R_lower ho1 (below_size J4));have n2_:=Y0 (below_step J4 hb);clear HB;have HO297:=n0_;have HO300:=n1_;have HB:=n2_;clear n0_ n1_ n2_;(try clear hb);(try clear hb2);(try clear hk);(try clear hi);(try clear ho0);(try clear ho1))|((with_reducible refine gate_dst (N:=1) rfl ?_);(try (refine gate_guard J19 ?_;dsimp only));refine box_event ?hg (N:=1) ?hd (cs:=#[.slice none 0 0,.slice none 0 0]) (t:=46) ?hr ?_;(case hd=>rfl);(case hg=>rfl);(case hr=>first|(go_simp;done)|(go_simp;rfl));intro gb303 hg w15 hbox hb;have n0_:=Y0 (Kd.R_below J110 hb);have n1_:=Y0 (Kd.R_below J109 hb);have n2_:=Y0 (below_step J4 hb);have n3_:=Y0 (hbox);have n4_:=Y0 ((by rw [hg];exact (below_size J4):w.heap.size≤gb303));have n5_:=Y0 ((by rw [hg];exact (below_size J4):w.heap.size≤gb303));clear HO297;clear HO300;clear HB;have HO297:=n0_;have HO300:=n1_;have HB:=n2_;have BK303:=n3_;have GW303:=n4_;have GE303:=n5_;clear n0_ n1_ n2_ n3_ n4_ n5_;clear hb hbox hg;obtain ⟨Ao16,co16,eo16⟩:=Kd.R_slice HO297.out;subst eo16;have ⟨hcz17_0,hcz17_1,hfz17_0,hfz17_1⟩:=sq_box2 BK303.out;obtain ⟨Ao18,co18,eo18⟩:=Kd.R_slice HO300.out;subst eo18)|((with_reducible refine gate_callee (f:=20) rfl ?_);refine goesL_ (some 15) rfl rfl Tryz.func20 J0 rfl #[.agg #[.slice Ao16 t295.length co16,.slice Ao18 t298.length co18],.int .i64 0,.string (⟨#[97]⟩:ByteArray)] rfl J1 ?_;(with_reducible refine (table_Find.calls _ _ t295 _ _ t298 0 (⟨#[97]⟩:ByteArray) t304 t305 t306 t307 t308 t309 t310 true _ ?side1 ?side2 ?side3 ?side4 A2.out).mono ?_);(case side1=>refine (Kd.R_reads' (e:=57) (base:=w.heap.size) (ok:=fun k_=>True) (n:=t295.length) (c:=co16) ?_).2.2;exact J93);(case side2=>exact (Kd.R_reads' HO297.out).2.1);(case side3=>refine (Kd.R_reads' (e:=119) (base:=w.heap.size) (ok:=fun k_=>True) (n:=t298.length) (c:=co18) ?_).2.2;exact J92);(case side4=>exact (Kd.R_reads' HO300.out).2.1);rintro e w19 ⟨rfl,hb⟩;refine ⟨_,rfl,?_⟩;have n0_:=Y0 (Kd.R_below J93 hb);have n1_:=Y0 (Kd.R_below J92 hb);have n2_:=Y0 (blk_below (g:=gb303) (o:=.cells #[.slice Ao16 t295.length co16,.slice Ao18 t298.length co18] 46 (0,0)) (by (with_reducible repeat first|apply Y11|apply Y13|apply Y12);refine blk_put (cs:=#[.slice Ao16 t295.length co16,.slice none 0 0]) ?_ 1 _ rfl;(with_reducible repeat first|apply Y11|apply Y13|apply Y12);refine blk_put (cs:=#[.slice none 0 0,.slice none 0 0]) ?_ 0 _ rfl;(with_reducible repeat first|apply Y11|apply Y13|apply Y12);exact BK303.out) hb);have n3_:=Y0 (below_step J97 hb);clear HO297;clear HO300;clear BK303;clear HB;have HO297:=n0_;have HO300:=n1_;have BK303:=n2_;have HB:=n3_;clear n0_ n1_ n2_ n3_;(try clear hb);(try clear hb2);(try clear hk);(try clear hi))|((with_reducible refine gate_dst (N:=4) rfl ?_);(try (refine gate_guard J19 ?_;dsimp only));refine box_event ?hg (N:=4) ?hd (cs:=#[.int .i64 0,.string (⟨#[]⟩:ByteArray),.int .i64 0,.int .i64 0,.bool false,.int .i64 0,.int .i64 0]) (t:=51) ?hr ?_;(case hd=>rfl);(case hg=>rfl);(case hr=>first|(go_simp;done)|(go_simp;rfl));intro gb312 hg w20 hbox hb;have n0_:=Y0 (Kd.R_below (Kd.R_elderB J110 gb312 (Nat.le_of_eq hg.symm)) hb);have n1_:=Y0 (Kd.R_below J109 hb);have n2_:=Y0 (blk_below (g:=gb303) (o:=.cells #[.slice Ao16 t295.length co16,.slice Ao18 t298.length co18] 46 (0,0)) J75 hb);have n3_:=Y0 (below_step J97 hb);have n4_:=Y0 (hbox);have n5_:=Y0 ((by rw [hg];exact (below_size J97):w.heap.size≤gb312));have n6_:=Y0 ((by rw [hg];exact (below_size J97):w.heap.size≤gb312));have n7_:=Y0 ((by rw [hg];exact Nat.ne_of_lt (blk_lt (g:=gb303) (o:=.cells #[.slice Ao16 t295.length co16,.slice Ao18 t298.length co18] 46 (0,0)) J75):gb303≠gb312));have n8_:=Y0 ((by rw [hg];exact Nat.ne_of_gt (blk_lt (g:=gb303) (o:=.cells #[.slice Ao16 t295.length co16,.slice Ao18 t298.length co18] 46 (0,0)) J75):gb312≠gb303));clear HO297;clear HO300;clear BK303;clear HB;have HO297:=n0_;have HO300:=n1_;have BK303:=n2_;have HB:=n3_;have BK312:=n4_;have GW312:=n5_;have GE312:=n6_;have NB303_312:=n7_;have NB312_303:=n8_;clear n0_ n1_ n2_ n3_ n4_ n5_ n6_ n7_ n8_;clear hb hbox hg;have hnb21:=NB312_303.out;have hnc21:=NB303_312.out;have ⟨hcz22_0,hcz22_1,hcz22_2,hcz22_3,hcz22_4,hcz22_5,hcz22_6,hfz22_0,hfz22_1,hfz22_2,hfz22_3,hfz22_4,hfz22_5,hfz22_6⟩:=sq_box7 BK312.out;have ⟨hcz23_0,hcz23_1,hfz23_0,hfz23_1⟩:=sq_box2 BK303.out)|((with_reducible refine gate_callee (f:=21) rfl ?_);refine goesL_ (some 20) rfl rfl Tryz.func21 J0 rfl #[.agg #[.slice Ao16 t295.length co16,.slice Ao18 t298.length co18],.int .i64 0,.int .i64 1] rfl J1 ?_;(with_reducible refine (table_By.calls _ _ t295 _ _ t298 0 1 t313 t314 t315 t316 t317 t318 t319 true _ ?side1 ?side2 ?side3 ?side4 A3.out).mono ?_);(case side1=>refine (Kd.R_reads' (e:=57) (base:=w.heap.size) (ok:=fun k_=>(True∧k_≠gb312)) (n:=t295.length) (c:=co16) ?_).2.2;exact J56);(case side2=>exact (Kd.R_reads' HO297.out).2.1);(case side3=>refine (Kd.R_reads' (e:=119) (base:=w.heap.size) (ok:=fun k_=>True) (n:=t298.length) (c:=co18) ?_).2.2;exact J58);(case side4=>exact (Kd.R_reads' HO300.out).2.1);rintro e w24 ⟨rfl,hb⟩;refine ⟨_,rfl,?_⟩;have n0_:=Y0 (Kd.R_below J56 hb);have n1_:=Y0 (Kd.R_below J58 hb);have n2_:=Y0 (blk_below (g:=gb303) (o:=.cells #[.slice Ao16 t295.length co16,.slice Ao18 t298.length co18] 46 (0,0)) (by (with_reducible repeat first|apply Y11|apply Y13|apply Y12);refine blk_far ?_ NB303_312.out _;(with_reducible repeat first|apply Y11|apply Y13|apply Y12);refine blk_far ?_ NB303_312.out _;(with_reducible repeat first|apply Y11|apply Y13|apply Y12);refine blk_far ?_ NB303_312.out _;(with_reducible repeat first|apply Y11|apply Y13|apply Y12);refine blk_far ?_ NB303_312.out _;(with_reducible repeat first|apply Y11|apply Y13|apply Y12);refine blk_far ?_ NB303_312.out _;(with_reducible repeat first|apply Y11|apply Y13|apply Y12);refine blk_far ?_ NB303_312.out _;(with_reducible repeat first|apply Y11|apply Y13|apply Y12);refine blk_far ?_ NB303_312.out _;(with_reducible repeat first|apply Y11|apply Y13|apply Y12);exact BK303.out) hb);have n3_:=Y0 (blk_below (g:=gb312) (o:=.cells #[.int .i64 t304,.string t305,.int .i64 t306,.int .i64 t307,.bool t308,.int .i64 t309,.int .i64 t310] 51 (0,0)) (by (with_reducible repeat first|apply Y11|apply Y13|apply Y12);refine blk_put (cs:=#[.int .i64 t304,.string t305,.int .i64 t306,.int .i64 t307,.bool t308,.int .i64 t309,.int .i64 0]) ?_ 6 _ rfl;(with_reducible repeat first|apply Y11|apply Y13|apply Y12);refine blk_put (cs:=#[.int .i64 t304,.string t305,.int .i64 t306,.int .i64 t307,.bool t308,.int .i64 0,.int .i64 0]) ?_ 5 _ rfl;(with_reducible repeat first|apply Y11|apply Y13|apply Y12);refine blk_put (cs:=#[.int .i64 t304,.string t305,.int .i64 t306,.int .i64 t307,.bool false,.int .i64 0,.int .i64 0]) ?_ 4 _ rfl;(with_reducible repeat first|apply Y11|apply Y13|apply Y12);refine blk_put (cs:=#[.int .i64 t304,.string t305,.int .i64 t306,.int .i64 0,.bool false,.int .i64 0,.int .i64 0]) ?_ 3 _ rfl;(with_reducible repeat first|apply Y11|apply Y13|apply Y12);refine blk_put (cs:=#[.int .i64 t304,.string t305,.int .i64 0,.int .i64 0,.bool false,.int .i64 0,.int .i64 0]) ?_ 2 _ rfl;(with_reducible repeat first|apply Y11|apply Y13|apply Y12);refine blk_put (cs:=#[.int .i64 t304,.string (⟨#[]⟩:ByteArray),.int .i64 0,.int .i64 0,.bool false,.int .i64 0,.int .i64 0]) ?_ 1 _ rfl;(with_reducible repeat first|apply Y11|apply Y13|apply Y12);refine blk_put (cs:=#[.int .i64 0,.string (⟨#[]⟩:ByteArray),.int .i64 0,.int .i64 0,.bool false,.int .i64 0,.int .i64 0]) ?_ 0 _ rfl;(with_reducible repeat first|apply Y11|apply Y13|apply Y12);exact BK312.out) hb);have n4_:=Y0 (below_step J82 hb);clear HO297;clear HO300;clear BK303;clear BK312;clear HB;have HO297:=n0_;have HO300:=n1_;have BK303:=n2_;have BK312:=n3_;have HB:=n4_;clear n0_ n1_ n2_ n3_ n4_;(try clear hb);(try clear hb2);(try clear hk);(try clear hi))|((with_reducible refine gate_dst (N:=6) rfl ?_);(try (refine gate_guard J19 ?_;dsimp only));refine box_event ?hg (N:=6) ?hd (cs:=#[.int .i64 0,.string (⟨#[]⟩:ByteArray),.int .i64 0,.int .i64 0,.bool false,.int .i64 0,.int .i64 0]) (t:=51) ?hr ?_;(case hd=>rfl);(case hg=>rfl);(case hr=>first|(go_simp;done)|(go_simp;rfl));intro gb321 hg w25 hbox hb;have n0_:=Y0 (Kd.R_below (Kd.R_elderB J110 gb321 (Nat.le_of_eq hg.symm)) hb);have n1_:=Y0 (Kd.R_below J109 hb);have n2_:=Y0 (blk_below (g:=gb303) (o:=.cells #[.slice Ao16 t295.length co16,.slice Ao18 t298.length co18] 46 (0,0)) J75 hb);have n3_:=Y0 (blk_below (g:=gb312) (o:=.cells #[.int .i64 t304,.string t305,.int .i64 t306,.int .i64 t307,.bool t308,.int .i64 t309,.int .i64 t310] 51 (0,0)) J108 hb);have n4_:=Y0 (below_step J82 hb);have n5_:=Y0 (hbox);have n6_:=Y0 ((by rw [hg];exact (below_size J82):w.heap.size≤gb321));have n7_:=Y0 ((by rw [hg];exact (below_size J82):w.heap.size≤gb321));have n8_:=Y0 ((by rw [hg];exact Nat.ne_of_lt (blk_lt (g:=gb303) (o:=.cells #[.slice Ao16 t295.length co16,.slice Ao18 t298.length co18] 46 (0,0)) J75):gb303≠gb321));have n9_:=Y0 ((by rw [hg];exact Nat.ne_of_gt (blk_lt (g:=gb303) (o:=.cells #[.slice Ao16 t295.length co16,.slice Ao18 t298.length co18] 46 (0,0)) J75):gb321≠gb303));have n10_:=Y0 ((by rw [hg];exact Nat.ne_of_lt (blk_lt (g:=gb312) (o:=.cells #[.int .i64 t304,.string t305,.int .i64 t306,.int .i64 t307,.bool t308,.int .i64 t309,.int .i64 t310] 51 (0,0)) J108):gb312≠gb321));have n11_:=Y0 ((by rw [hg];exact Nat.ne_of_gt (blk_lt (g:=gb312) (o:=.cells #[.int .i64 t304,.string t305,.int .i64 t306,.int .i64 t307,.bool t308,.int .i64 t309,.int .i64 t310] 51 (0,0)) J108):gb321≠gb312));clear HO297;clear HO300;clear BK303;clear BK312;clear HB;have HO297:=n0_;have HO300:=n1_;have BK303:=n2_;have BK312:=n3_;have HB:=n4_;have BK321:=n5_;have GW321:=n6_;have GE321:=n7_;have NB303_321:=n8_;have NB321_303:=n9_;have NB312_321:=n10_;have NB321_312:=n11_;clear n0_ n1_ n2_ n3_ n4_ n5_ n6_ n7_ n8_ n9_ n10_ n11_;clear hb hbox hg;have hnb26:=NB321_303.out;have hnc26:=NB303_321.out;have hnb27:=NB321_312.out;have hnc27:=NB312_321.out;have ⟨hcz28_0,hcz28_1,hcz28_2,hcz28_3,hcz28_4,hcz28_5,hcz28_6,hfz28_0,hfz28_1,hfz28_2,hfz28_3,hfz28_4,hfz28_5,hfz28_6⟩:=sq_box7 BK321.out)|((with_reducible refine gate_store (t:=51) (p:=6) rfl ?_);refine store_event (t:=51) (p:=6) (v:=?vo_w29) (w1:=(((((((w25.setCell ⟨gb321,0,none⟩ (.int .i64 t313)).setCell ⟨gb321,1,none⟩ (.string t314)).setCell ⟨gb321,2,none⟩ (.int .i64 t315)).setCell ⟨gb321,3,none⟩ (.int .i64 t316)).setCell ⟨gb321,4,none⟩ (.bool t317)).setCell ⟨gb321,5,none⟩ (.int .i64 t318)).setCell ⟨gb321,6,none⟩ (.int .i64 t319))) ?hg ?ho ?hn ?hr ?_;(case ho=>rfl);(case hg=>rfl);(case hn=>rfl);(case hr=>first|(go_simp;done)|(go_simp;rfl));intro w29 hw;have n0_:Aside0 (Kd.R k57 57 w29 w.heap.size (fun k_=>k_≠gb312∧k_≠gb321) (.slice Ao16 t295.length co16) t295):=⟨(by rw [hw];exact (by (with_reducible repeat (first|apply Y5|apply Y6|apply Y7));exact Kd.R_mono (Kd.R_far (p:=⟨gb321,6,none⟩) (Kd.R_far (p:=⟨gb321,5,none⟩) (Kd.R_far (p:=⟨gb321,4,none⟩) (Kd.R_far (p:=⟨gb321,3,none⟩) (Kd.R_far (p:=⟨gb321,2,none⟩) (Kd.R_far (p:=⟨gb321,1,none⟩) (Kd.R_far (p:=⟨gb321,0,none⟩) (Kd.R_mono HO297.out (fun k_ hk=>(⟨hk,hk.2⟩:_∧k_≠gb321))) (fun _ hk=>hk.2) (.int .i64 t313)) (fun _ hk=>hk.2) (.string t314)) (fun _ hk=>hk.2) (.int .i64 t315)) (fun _ hk=>hk.2) (.int .i64 t316)) (fun _ hk=>hk.2) (.bool t317)) (fun _ hk=>hk.2) (.int .i64 t318)) (fun _ hk=>hk.2) (.int .i64 t319)) (fun _ hk=>⟨hk.1.1.2,hk.1.2⟩)))⟩;have n1_:Aside0 (Kd.R k119 119 w29 w.heap.size (fun _=>True) (.slice Ao18 t298.length co18) t298):=⟨(by rw [hw];exact (by (with_reducible repeat (first|apply Y5|apply Y6|apply Y7));exact Kd.R_mono (Kd.R_far (p:=⟨gb321,6,none⟩) (Kd.R_far (p:=⟨gb321,5,none⟩) (Kd.R_far (p:=⟨gb321,4,none⟩) (Kd.R_far (p:=⟨gb321,3,none⟩) (Kd.R_far (p:=⟨gb321,2,none⟩) (Kd.R_far (p:=⟨gb321,1,none⟩) (Kd.R_far (p:=⟨gb321,0,none⟩) (Kd.R_types HO300.out BK321.out J11) (fun _ hk=>hk.2) (.int .i64 t313)) (fun _ hk=>hk.2) (.string t314)) (fun _ hk=>hk.2) (.int .i64 t315)) (fun _ hk=>hk.2) (.int .i64 t316)) (fun _ hk=>hk.2) (.bool t317)) (fun _ hk=>hk.2) (.int .i64 t318)) (fun _ hk=>hk.2) (.int .i64 t319)) (fun _ hk=>trivial)))⟩;have n2_:Aside0 (w29.heap[gb303]?=some (.cells #[.slice Ao16 t295.length co16,.slice Ao18 t298.length co18] 46 (0,0))):=⟨(by rw [hw];exact (by (with_reducible repeat first|apply Y11|apply Y13|apply Y12);refine blk_far ?_ NB303_321.out _;(with_reducible repeat first|apply Y11|apply Y13|apply Y12);refine blk_far ?_ NB303_321.out _;(with_reducible repeat first|apply Y11|apply Y13|apply Y12);refine blk_far ?_ NB303_321.out _;(with_reducible repeat first|apply Y11|apply Y13|apply Y12);refine blk_far ?_ NB303_321.out _;(with_reducible repeat first|apply Y11|apply Y13|apply Y12);refine blk_far ?_ NB303_321.out _;(with_reducible repeat first|apply Y11|apply Y13|apply Y12);refine blk_far ?_ NB303_321.out _;(with_reducible repeat first|apply Y11|apply Y13|apply Y12);refine blk_far ?_ NB303_321.out _;(with_reducible repeat first|apply Y11|apply Y13|apply Y12);exact BK303.out))⟩;have n3_:Aside0 (w29.heap[gb312]?=some (.cells #[.int .i64 t304,.string t305,.int .i64 t306,.int .i64 t307,.bool t308,.int .i64 t309,.int .i64 t310] 51 (0,0))):=⟨(by rw [hw];exact (by (with_reducible repeat first|apply Y11|apply Y13|apply Y12);refine blk_far ?_ NB312_321.out _;(with_reducible repeat first|apply Y11|apply Y13|apply Y12);refine blk_far ?_ NB312_321.out _;(with_reducible repeat first|apply Y11|apply Y13|apply Y12);refine blk_far ?_ NB312_321.out _;(with_reducible repeat first|apply Y11|apply Y13|apply Y12);refine blk_far ?_ NB312_321.out _;(with_reducible repeat first|apply Y11|apply Y13|apply Y12);refine blk_far ?_ NB312_321.out _;(with_reducible repeat first|apply Y11|apply Y13|apply Y12);refine blk_far ?_ NB312_321.out _;(with_reducible repeat first|apply Y11|apply Y13|apply Y12);refine blk_far ?_ NB312_321.out _;(with_reducible repeat first|apply Y11|apply Y13|apply Y12);exact BK312.out))⟩;have n4_:Aside0 (w29.heap[gb321]?=some (.cells #[.int .i64 t313,.string t314,.int .i64 t315,.int .i64 t316,.bool t317,.int .i64 t318,.int .i64 t319] 51 (0,0))):=⟨(by rw [hw];exact (by (with_reducible repeat first|apply Y11|apply Y13|apply Y12);refine blk_put (cs:=#[.int .i64 t313,.string t314,.int .i64 t315,.int .i64 t316,.bool t317,.int .i64 t318,.int .i64 0]) ?_ 6 _ rfl;(with_reducible repeat first|apply Y11|apply Y13|apply Y12);refine blk_put (cs:=#[.int .i64 t313,.string t314,.int .i64 t315,.int .i64 t316,.bool t317,.int .i64 0,.int .i64 0]) ?_ 5 _ rfl;(with_reducible repeat first|apply Y11|apply Y13|apply Y12);refine blk_put (cs:=#[.int .i64 t313,.string t314,.int .i64 t315,.int .i64 t316,.bool false,.int .i64 0,.int .i64 0]) ?_ 4 _ rfl;(with_reducible repeat first|apply Y11|apply Y13|apply Y12);refine blk_put (cs:=#[.int .i64 t313,.string t314,.int .i64 t315,.int .i64 0,.bool false,.int .i64 0,.int .i64 0]) ?_ 3 _ rfl;(with_reducible repeat first|apply Y11|apply Y13|apply Y12);refine blk_put (cs:=#[.int .i64 t313,.string t314,.int .i64 0,.int .i64 0,.bool false,.int .i64 0,.int .i64 0]) ?_ 2 _ rfl;(with_reducible repeat first|apply Y11|apply Y13|apply Y12);refine blk_put (cs:=#[.int .i64 t313,.string (⟨#[]⟩:ByteArray),.int .i64 0,.int .i64 0,.bool false,.int .i64 0,.int .i64 0]) ?_ 1 _ rfl;(with_reducible repeat first|apply Y11|apply Y13|apply Y12);refine blk_put (cs:=#[.int .i64 0,.string (⟨#[]⟩:ByteArray),.int .i64 0,.int .i64 0,.bool false,.int .i64 0,.int .i64 0]) ?_ 0 _ rfl;(with_reducible repeat first|apply Y11|apply Y13|apply Y12);exact BK321.out))⟩;have n5_:Aside0 (Below w.heap.size w w29):=⟨(by rw [hw];exact J98)⟩;clear hw;clear HO297;clear HO300;clear BK303;clear BK312;clear BK321;clear HB;have HO297:=n0_;have HO300:=n1_;have BK303:=n2_;have BK312:=n3_;have BK321:=n4_;have HB:=n5_;clear n0_ n1_ n2_ n3_ n4_ n5_;have ⟨hcz30_0,hcz30_1,hfz30_0,hfz30_1⟩:=sq_box2 BK303.out;have p322:0≤(0:Int):=J7;have q322:0 < (t295.length:Int):=of_decide_eq_true J3;obtain ⟨ad322,A322_1,c322_1,e322,hx322_0,hx322_1,hl322_1,hi322_1⟩:=at_T57 (Kd.R_reads' HO297.out).2.2 0 p322 q322;cases e322;obtain ⟨ce322,hce322,hMe322,hcc322⟩:=Kd.R_get HO297.out z57 0 p322 (by first|exact q322|exact of_decide_eq_true J3|(have e_:=(Kd.R_reads' HO297.out).1;omega));obtain ⟨ve322_1,rfl,ge322_1⟩:=k57_openM hMe322;have hv322_1:=hcc322 1 _ rfl;rw [add_field _ _ 1 J7] at hv322_1;replace hv322_1:=Option.some.inj (hv322_1.symm.trans hx322_1);rw [hv322_1] at ge322_1;have HL322_1:=Y0 (show Kd.R k51 51 _ _ _ _ ((rd_T57 t295 0).f1) from ge322_1);clear hv322_1 ge322_1;clear hcc322 hce322;have qi322:(0 < t295.length)=True:=eq_true J7;(try rw [show ((0:Int)).toNat=0 from rfl] at hx322_0);(try rw [show 0 * 2=0 from rfl] at hx322_0);(try rw [Addr.add_zero'] at hx322_0);(try rw [show ((0:Int)).toNat=0 from rfl] at hx322_1);(try rw [show 0 * 2=0 from rfl] at hx322_1);(try rw [Addr.add_zero'] at hx322_1);have HR322_1:=Y0 hi322_1;have HC322_1:=Y0 hl322_1;clear hi322_1 hl322_1;replace p322:=eq_true p322;replace q322:=eq_true q322;have ⟨hcz31_0,hcz31_1,hcz31_2,hcz31_3,hcz31_4,hcz31_5,hcz31_6,hfz31_0,hfz31_1,hfz31_2,hfz31_3,hfz31_4,hfz31_5,hfz31_6⟩:=sq_box7 BK312.out;have ⟨hcz32_0,hcz32_1,hcz32_2,hcz32_3,hcz32_4,hcz32_5,hcz32_6,hfz32_0,hfz32_1,hfz32_2,hfz32_3,hfz32_4,hfz32_5,hfz32_6⟩:=sq_box7 BK321.out)|(go_at_call 19;(with_reducible refine (table_May.calls _ _ t295 _ _ t298 t323 _ ?side1 ?side2 ?side3 ?side4 A13.out).mono ?_);(case side1=>repeat (first|exact (Kd.R_reads' HO297.out).2.2|(with_reducible refine Y8 ?_ _)|(with_reducible refine Kd.C_drewN ?_ _)|(with_reducible refine Kd.C_drew ?_)));(case side2=>exact (Kd.R_reads' HO297.out).2.1);(case side3=>repeat (first|exact (Kd.R_reads' HO300.out).2.2|(with_reducible refine Y8 ?_ _)|(with_reducible refine Kd.C_drewN ?_ _)|(with_reducible refine Kd.C_drew ?_)));(case side4=>exact (Kd.R_reads' HO300.out).2.1);rintro e w33 ⟨rfl,hb⟩;have n0_:=Y0 (Kd.R_below J110 hb);have n1_:=Y0 (Kd.R_below J109 hb);have n2_:=Y0 (Kd.R_below (by (with_reducible repeat (first|apply Y5|apply Y6|apply Y7));exact HL322_1.out) hb);have n3_:=Y0 (blk_below (g:=gb303) (o:=.cells #[.slice (some ad322) t295.length co16,.slice Ao18 t298.length co18] 46 (0,0)) J75 hb);have n4_:=Y0 (blk_below (g:=gb312) (o:=.cells #[.int .i64 t304,.string t305,.int .i64 t306,.int .i64 t307,.bool t308,.int .i64 t309,.int .i64 t310] 51 (0,0)) J108 hb);have n5_:=Y0 (blk_below (g:=gb321) (o:=.cells #[.int .i64 t313,.string t314,.int .i64 t315,.int .i64 t316,.bool t317,.int .i64 t318,.int .i64 t319] 51 (0,0)) (by (with_reducible repeat first|apply Y11|apply Y13|apply Y12);exact BK321.out) hb);have n6_:=Y0 (Kd.C_below (by repeat (first|(with_reducible exact HR322_1.out)|(with_reducible refine Y8 ?_ _)|(with_reducible refine Kd.C_drewN ?_ _)|(with_reducible refine Kd.C_drew ?_)|exact HR322_1.out)) hb);have n7_:=Y0 (below_step J98 hb);clear HO297;clear HO300;clear HL322_1;clear BK303;clear BK312;clear BK321;clear HR322_1;clear HB;have HO297:=n0_;have HO300:=n1_;have HL322_1:=n2_;have BK303:=n3_;have BK312:=n4_;have BK321:=n5_;have HR322_1:=n6_;have HB:=n7_;clear n0_ n1_ n2_ n3_ n4_ n5_ n6_ n7_;(try clear hb);(try clear hb2);(try clear hk);(try clear hi)))
 go_ret
 exact ⟨J114,J98⟩
mutual
def trufflelaw08_few.j0:Nat→Bool→List (S34)→List (S68)→Option (Bool)
 | 0,_,_,_=>none
 | k + 1,x3,x325000,x325001=>trufflelaw08_few.l0 k x3 0 x325000 x325001
def trufflelaw08_few.j2:Nat→Bool→List (S34)→List (S68)→Option (Bool)
 | 0,_,_,_=>none
 | k + 1,x3,x325000,x325001=>trufflelaw08_few.l1 k x3 0 x325000 x325001
def trufflelaw08_few.l1:Nat→Bool→Int→List (S34)→List (S68)→Option (Bool)
 | 0,_,_,_,_=>none
 | k + 1,x3,x5,x325000,x325001=>if x5 < (x325001.length:Int) then (if x3=true then (if 0≤x5 then (trufflelaw08_few.l1 k (decide ((((rd_T68 x325001 x5).f1).length:Int)≤40)) (wrap64 (x5 + 1)) x325000 x325001) else (none)) else (some x3)) else (some x3)
def trufflelaw08_few.l0:Nat→Bool→Int→List (S34)→List (S68)→Option (Bool)
 | 0,_,_,_,_=>none
 | k + 1,x3,x4,x325000,x325001=>if x4 < (x325000.length:Int) then (if x3=true then (if 0≤x4 then (if (((rd_T34 x325000 x4).f1).length:Int)≤40 then (if (((rd_T34 x325000 x4).f2).length:Int)≤40 then (trufflelaw08_few.l0 k (decide ((((rd_T34 x325000 x4).f3).length:Int)≤40)) (wrap64 (x4 + 1)) x325000 x325001) else (trufflelaw08_few.l0 k false (wrap64 (x4 + 1)) x325000 x325001)) else (trufflelaw08_few.l0 k false (wrap64 (x4 + 1)) x325000 x325001)) else (none)) else (trufflelaw08_few.j2 k x3 x325000 x325001)) else (trufflelaw08_few.j2 k x3 x325000 x325001)
end
def trufflelaw08_few.f (k:Nat) (l0_0:List (S34)) (l0_1:List (S68)):Option (Bool):=if (l0_0.length:Int)≤30 then (trufflelaw08_few.j0 k (decide ((l0_1.length:Int)≤30)) l0_0 l0_1) else (trufflelaw08_few.j0 k false l0_0 l0_1)
set_option maxHeartbeats 8000000 in
set_option maxRecDepth 100000 in
theorem trufflelaw08_few.calls (k:Nat) (A0_0:Option Addr) (c0_0:Nat) (l0_0:List (S34)) (A0_1:Option Addr) (c0_1:Nat) (l0_1:List (S68)) (r:Bool) (w:World) (hr0_0:Kd.C k34 w A0_0 l0_0.length l0_0) (hc0_0:l0_0.length≤c0_0) (hr0_1:Kd.C k68 w A0_1 l0_1.length l0_1) (hc0_1:l0_1.length≤c0_1) (h:trufflelaw08_few.f k l0_0 l0_1=some r) :
  Calls Tryz.prog 17 #[.agg #[.slice A0_0 l0_0.length c0_0,.slice A0_1 l0_1.length c0_1]] w fun e w'=>e = .returned (.bool r)∧Below w.heap.size w w':=by
 have hu26:=Tryz.underlying26
 have HR0_0:=Y0 hr0_0
 have HC0_0:=Y0 hc0_0
 clear hr0_0 hc0_0
 have HR0_1:=Y0 hr0_1
 have HC0_1:=Y0 hc0_1
 clear hr0_1 hc0_1
 have HB:=Y0 (Below.refl w.heap.size w)
 have H:(if (l0_0.length:Int)≤30 then (trufflelaw08_few.j0 k (decide ((l0_1.length:Int)≤30)) l0_0 l0_1) else (trufflelaw08_few.j0 k false l0_0 l0_1))=some r:=h
 clear h
 have HC2:=Y0 H
 clear H
 go_enter Tryz.func17,Tryz.ntmps17
 go_upto_region 1 with (first|((with_reducible refine gate_dst (N:=1) rfl ?_);(try (refine gate_guard J19 ?_;dsimp only));refine box_event ?hg (N:=1) ?hd (cs:=#[.slice A0_0 l0_0.length c0_0,.slice A0_1 l0_1.length c0_1]) (t:=26) ?hr ?_;(case hd=>rfl);(case hg=>rfl);(case hr=>first|(go_simp;done)|(go_simp;rfl));intro gb324 hg w3 hbox hb;have n0_:=Y0 (below_step J4 hb);have n1_:=Y0 (hbox);have n2_:=Y0 ((by rw [hg];exact (below_size J4):w.heap.size≤gb324));have n3_:=Y0 ((by rw [hg];exact (below_size J4):w.heap.size≤gb324));clear HB;have HB:=n0_;have BK324:=n1_;have GW324:=n2_;have GE324:=n3_;clear n0_ n1_ n2_ n3_;clear hb hbox hg))
 (try simp only [Act.put,Y14,Y15,Y16])
 go_cut [3] (fun v3 wc=>∃ (kq:Nat) (x3_1:Bool),v3 = .bool x3_1∧Aside0 (trufflelaw08_few.j0 kq x3_1 l0_0 l0_1=some r)∧Aside0 (kq≤k)∧Aside0 (wc.heap[gb324]?=some (.cells #[(.slice A0_0 l0_0.length c0_0),(.slice A0_1 l0_1.length c0_1)] 26 (0,0)))∧Aside0 (Below w.heap.size w wc))
 case first =>
  have H:=HC2.out
  clear HC2
  by_cases c4:(l0_0.length:Int)≤30
  rotate_left
  ·rw [if_neg c4] at H
   have c4b0:decide ((l0_0.length:Int)≤30)=false:=decide_eq_false c4
   have c4b1:decide (l0_0.length≤30)=false:=decide_eq_false J7
   clear c4
   (first|rw [c4b0]|(simp only [i64_w];rw [c4b0])|skip)
   have H':=Y0 H
   clear H
   have ⟨hcz6_0,hcz6_1,hfz6_0,hfz6_1⟩:=sq_box2 BK324.out
   go_wp2
   go_meet
   case rel=>exact ⟨_,(false),J12,H',⟨J79⟩,⟨J54⟩,⟨J42⟩⟩
  rw [if_pos c4] at H
  have c4b0:decide ((l0_0.length:Int)≤30)=true:=decide_eq_true c4
  have c4b1:decide (l0_0.length≤30)=true:=decide_eq_true J7
  clear c4
  (first|rw [c4b0]|(simp only [i64_w];rw [c4b0])|skip)
  have H':=Y0 H
  clear H
  have ⟨hcz5_0,hcz5_1,hfz5_0,hfz5_1⟩:=sq_box2 BK324.out
  go_wp2
  go_meet
  case rel=>exact ⟨_,(decide ((l0_1.length:Int)≤30)),J12,H',⟨J79⟩,⟨J54⟩,⟨J42⟩⟩
 case rest =>
  clear HC2
  obtain ⟨kq,x3_1,rfl,HA,HJ1,BK324,HB⟩:=hcut
  cases kq with
  | zero=>exact absurd HA.out (by simp [trufflelaw08_few.j0])
  | succ kj1 =>
   have H:=HA.out
   clear HA
   simp only [trufflelaw08_few.j0] at H
   have HC7:=Y0 H
   clear H
   go_upto_block 0 with (fail)
   go_cut [3] (fun v3 wc=>∃ (kq:Nat) (x3_6:Bool),v3 = .bool x3_6∧Aside0 (trufflelaw08_few.j2 kq x3_6 l0_0 l0_1=some r)∧Aside0 (kq≤kj1)∧Aside0 (wc.heap[gb324]?=some (.cells #[(.slice A0_0 l0_0.length c0_0),(.slice A0_1 l0_1.length c0_1)] 26 (0,0)))∧Aside0 (Below w.heap.size w wc))
   case first =>
    have H:=HC7.out
    clear HC7
    have H':=Y0 H
    clear H
    go_wp2
    go_loopg [3,4] kj1 (fun kq v3 v4 w'=>∃ (x3_2:Bool) (x4_2:Int),v3 = .bool x3_2∧v4 = .int .i64 x4_2∧Aside0 (trufflelaw08_few.l0 kq x3_2 x4_2 l0_0 l0_1=some r)∧Aside0 (kq≤kj1)∧Aside0 (w'.heap[gb324]?=some (.cells #[(.slice A0_0 l0_0.length c0_0),(.slice A0_1 l0_1.length c0_1)] 26 (0,0)))∧Aside0 (Below w.heap.size w w'))
    case atStart=>exact ⟨(x3_1),(0),J12,J12,H',⟨Nat.le_refl _⟩,⟨J54⟩,⟨J42⟩⟩
    case round =>
     clear H'
     obtain ⟨x3_2,x4_2,rfl,rfl,HA,HK2,BK324,HB⟩:=hrel
     cases gk with
     | zero=>exact absurd HA.out (by simp [trufflelaw08_few.l0])
     | succ k2 =>
      have H:=HA.out
      clear HA
      simp only [trufflelaw08_few.l0] at H
      by_cases c8:x4_2 < (l0_0.length:Int)
      rotate_left
      ·rw [if_neg c8] at H
       have c8b0:decide (x4_2 < (l0_0.length:Int))=false:=decide_eq_false c8
       clear c8
       (first|rw [c8b0]|(simp only [i64_w];rw [c8b0])|skip)
       have H':=Y0 H
       clear H
       have ⟨hcz17_0,hcz17_1,hfz17_0,hfz17_1⟩:=sq_box2 BK324.out
       go_wp2
       go_meet
       case rel=>exact ⟨_,(x3_2),J12,H',⟨J159⟩,⟨J54⟩,⟨J42⟩⟩
      rw [if_pos c8] at H
      have c8b0:decide (x4_2 < (l0_0.length:Int))=true:=decide_eq_true c8
      clear c8
      (first|rw [c8b0]|(simp only [i64_w];rw [c8b0])|skip)
      by_cases c9:x3_2=true
      rotate_left
      ·replace c9:=Bool.eq_false_iff.mpr c9
       subst c9
       rw [if_neg (show ¬ (false=true) by decide)] at H
       have H':=Y0 H
       clear H
       have ⟨hcz16_0,hcz16_1,hfz16_0,hfz16_1⟩:=sq_box2 BK324.out
       go_wp2
       go_meet
       case rel=>exact ⟨_,(false),J12,H',⟨J159⟩,⟨J54⟩,⟨J42⟩⟩
      subst c9
      rw [if_pos rfl] at H
      by_cases c10:0≤x4_2
      rotate_left
      ·rw [if_neg c10] at H
       exact absurd H J53
      rw [if_pos c10] at H
      have c10b0:decide (0≤x4_2)=true:=decide_eq_true c10
      clear c10
      by_cases c11:(((rd_T34 l0_0 x4_2).f1).length:Int)≤40
      rotate_left
      ·rw [if_neg c11] at H
       have c11b0:decide ((((rd_T34 l0_0 x4_2).f1).length:Int)≤40)=false:=decide_eq_false c11
       have c11b1:decide (((rd_T34 l0_0 x4_2).f1).length≤40)=false:=decide_eq_false J7
       clear c11
       have H':=Y0 H
       clear H
       have ⟨hcz15_0,hcz15_1,hfz15_0,hfz15_1⟩:=sq_box2 BK324.out
       have p325:0≤(x4_2:Int):=of_decide_eq_true J3
       have q325:x4_2 < (l0_0.length:Int):=of_decide_eq_true J3
       obtain ⟨ad325,A325_1,c325_1,A325_2,c325_2,A325_3,c325_3,e325,hx325_0,hx325_1,hx325_2,hx325_3,hx325_4,hl325_1,hi325_1,hl325_2,hi325_2,hl325_3,hi325_3⟩:=at_T34 HR0_0.out x4_2 p325 q325
       cases e325
       replace hx325_0:=(HB.out.cell (World.block_lt_of_cell? w _ hx325_0)).trans hx325_0
       replace hx325_1:=(HB.out.cell (World.block_lt_of_cell? w _ hx325_1)).trans hx325_1
       replace hx325_2:=(HB.out.cell (World.block_lt_of_cell? w _ hx325_2)).trans hx325_2
       replace hx325_3:=(HB.out.cell (World.block_lt_of_cell? w _ hx325_3)).trans hx325_3
       replace hx325_4:=(HB.out.cell (World.block_lt_of_cell? w _ hx325_4)).trans hx325_4
       have HR325_1:=Y0 hi325_1
       have HC325_1:=Y0 hl325_1
       clear hi325_1 hl325_1
       have HR325_2:=Y0 hi325_2
       have HC325_2:=Y0 hl325_2
       clear hi325_2 hl325_2
       have HR325_3:=Y0 hi325_3
       have HC325_3:=Y0 hl325_3
       clear hi325_3 hl325_3
       replace p325:=eq_true p325
       replace q325:=eq_true q325
       go_wp2
       go_roundg k2
       case measure=>have:=HJ1.out;have:=HK2.out;omega
       case rel=>exact ⟨(false),(wrap64 (x4_2 + 1)),J12,J12,H',⟨J154⟩,⟨J54⟩,⟨J42⟩⟩
      rw [if_pos c11] at H
      have c11b0:decide ((((rd_T34 l0_0 x4_2).f1).length:Int)≤40)=true:=decide_eq_true c11
      have c11b1:decide (((rd_T34 l0_0 x4_2).f1).length≤40)=true:=decide_eq_true J7
      clear c11
      by_cases c12:(((rd_T34 l0_0 x4_2).f2).length:Int)≤40
      rotate_left
      ·rw [if_neg c12] at H
       have c12b0:decide ((((rd_T34 l0_0 x4_2).f2).length:Int)≤40)=false:=decide_eq_false c12
       have c12b1:decide (((rd_T34 l0_0 x4_2).f2).length≤40)=false:=decide_eq_false J7
       clear c12
       have H':=Y0 H
       clear H
       have ⟨hcz14_0,hcz14_1,hfz14_0,hfz14_1⟩:=sq_box2 BK324.out
       have p325:0≤(x4_2:Int):=of_decide_eq_true J3
       have q325:x4_2 < (l0_0.length:Int):=of_decide_eq_true J3
       obtain ⟨ad325,A325_1,c325_1,A325_2,c325_2,A325_3,c325_3,e325,hx325_0,hx325_1,hx325_2,hx325_3,hx325_4,hl325_1,hi325_1,hl325_2,hi325_2,hl325_3,hi325_3⟩:=at_T34 HR0_0.out x4_2 p325 q325
       cases e325
       replace hx325_0:=(HB.out.cell (World.block_lt_of_cell? w _ hx325_0)).trans hx325_0
       replace hx325_1:=(HB.out.cell (World.block_lt_of_cell? w _ hx325_1)).trans hx325_1
       replace hx325_2:=(HB.out.cell (World.block_lt_of_cell? w _ hx325_2)).trans hx325_2
       replace hx325_3:=(HB.out.cell (World.block_lt_of_cell? w _ hx325_3)).trans hx325_3
       replace hx325_4:=(HB.out.cell (World.block_lt_of_cell? w _ hx325_4)).trans hx325_4
       have HR325_1:=Y0 hi325_1
       have HC325_1:=Y0 hl325_1
       clear hi325_1 hl325_1
       have HR325_2:=Y0 hi325_2
       have HC325_2:=Y0 hl325_2
       clear hi325_2 hl325_2
       have HR325_3:=Y0 hi325_3
       have HC325_3:=Y0 hl325_3
       clear hi325_3 hl325_3
       replace p325:=eq_true p325
       replace q325:=eq_true q325
       have p326:0≤(x4_2:Int):=of_decide_eq_true J3
       have q326:x4_2 < (l0_0.length:Int):=of_decide_eq_true J3
       obtain ⟨ad326,A326_1,c326_1,A326_2,c326_2,A326_3,c326_3,e326,hx326_0,hx326_1,hx326_2,hx326_3,hx326_4,hl326_1,hi326_1,hl326_2,hi326_2,hl326_3,hi326_3⟩:=at_T34 HR0_0.out x4_2 p326 q326
       obtain rfl:ad325=ad326:=(by injection e326)
       replace hx326_0:=(HB.out.cell (World.block_lt_of_cell? w _ hx326_0)).trans hx326_0
       replace hx326_1:=(HB.out.cell (World.block_lt_of_cell? w _ hx326_1)).trans hx326_1
       replace hx326_2:=(HB.out.cell (World.block_lt_of_cell? w _ hx326_2)).trans hx326_2
       replace hx326_3:=(HB.out.cell (World.block_lt_of_cell? w _ hx326_3)).trans hx326_3
       replace hx326_4:=(HB.out.cell (World.block_lt_of_cell? w _ hx326_4)).trans hx326_4
       have HR326_1:=Y0 hi326_1
       have HC326_1:=Y0 hl326_1
       clear hi326_1 hl326_1
       have HR326_2:=Y0 hi326_2
       have HC326_2:=Y0 hl326_2
       clear hi326_2 hl326_2
       have HR326_3:=Y0 hi326_3
       have HC326_3:=Y0 hl326_3
       clear hi326_3 hl326_3
       replace p326:=eq_true p326
       replace q326:=eq_true q326
       have ea_:=Option.some.inj (hx325_1.symm.trans hx326_1)
       injection ea_ with ea_ en_ ec_
       subst ea_
       subst ec_
       clear en_
       have ea_:=Option.some.inj (hx325_2.symm.trans hx326_2)
       injection ea_ with ea_ en_ ec_
       subst ea_
       subst ec_
       clear en_
       have ea_:=Option.some.inj (hx325_3.symm.trans hx326_3)
       injection ea_ with ea_ en_ ec_
       subst ea_
       subst ec_
       clear en_
       go_wp2
       go_roundg k2
       case measure=>have:=HJ1.out;have:=HK2.out;omega
       case rel=>exact ⟨(false),(wrap64 (x4_2 + 1)),J12,J12,H',⟨J154⟩,⟨J54⟩,⟨J42⟩⟩
      rw [if_pos c12] at H
      have c12b0:decide ((((rd_T34 l0_0 x4_2).f2).length:Int)≤40)=true:=decide_eq_true c12
      have c12b1:decide (((rd_T34 l0_0 x4_2).f2).length≤40)=true:=decide_eq_true J7
      clear c12
      have H':=Y0 H
      clear H
      have ⟨hcz13_0,hcz13_1,hfz13_0,hfz13_1⟩:=sq_box2 BK324.out
      have p325:0≤(x4_2:Int):=of_decide_eq_true J3
      have q325:x4_2 < (l0_0.length:Int):=of_decide_eq_true J3
      obtain ⟨ad325,A325_1,c325_1,A325_2,c325_2,A325_3,c325_3,e325,hx325_0,hx325_1,hx325_2,hx325_3,hx325_4,hl325_1,hi325_1,hl325_2,hi325_2,hl325_3,hi325_3⟩:=at_T34 HR0_0.out x4_2 p325 q325
      cases e325
      replace hx325_0:=(HB.out.cell (World.block_lt_of_cell? w _ hx325_0)).trans hx325_0
      replace hx325_1:=(HB.out.cell (World.block_lt_of_cell? w _ hx325_1)).trans hx325_1
      replace hx325_2:=(HB.out.cell (World.block_lt_of_cell? w _ hx325_2)).trans hx325_2
      replace hx325_3:=(HB.out.cell (World.block_lt_of_cell? w _ hx325_3)).trans hx325_3
      replace hx325_4:=(HB.out.cell (World.block_lt_of_cell? w _ hx325_4)).trans hx325_4
      have HR325_1:=Y0 hi325_1
      have HC325_1:=Y0 hl325_1
      clear hi325_1 hl325_1
      have HR325_2:=Y0 hi325_2
      have HC325_2:=Y0 hl325_2
      clear hi325_2 hl325_2
      have HR325_3:=Y0 hi325_3
      have HC325_3:=Y0 hl325_3
      clear hi325_3 hl325_3
      replace p325:=eq_true p325
      replace q325:=eq_true q325
      have p326:0≤(x4_2:Int):=of_decide_eq_true J3
      have q326:x4_2 < (l0_0.length:Int):=of_decide_eq_true J3
      obtain ⟨ad326,A326_1,c326_1,A326_2,c326_2,A326_3,c326_3,e326,hx326_0,hx326_1,hx326_2,hx326_3,hx326_4,hl326_1,hi326_1,hl326_2,hi326_2,hl326_3,hi326_3⟩:=at_T34 HR0_0.out x4_2 p326 q326
      obtain rfl:ad325=ad326:=(by injection e326)
      replace hx326_0:=(HB.out.cell (World.block_lt_of_cell? w _ hx326_0)).trans hx326_0
      replace hx326_1:=(HB.out.cell (World.block_lt_of_cell? w _ hx326_1)).trans hx326_1
      replace hx326_2:=(HB.out.cell (World.block_lt_of_cell? w _ hx326_2)).trans hx326_2
      replace hx326_3:=(HB.out.cell (World.block_lt_of_cell? w _ hx326_3)).trans hx326_3
      replace hx326_4:=(HB.out.cell (World.block_lt_of_cell? w _ hx326_4)).trans hx326_4
      have HR326_1:=Y0 hi326_1
      have HC326_1:=Y0 hl326_1
      clear hi326_1 hl326_1
      have HR326_2:=Y0 hi326_2
      have HC326_2:=Y0 hl326_2
      clear hi326_2 hl326_2
      have HR326_3:=Y0 hi326_3
      have HC326_3:=Y0 hl326_3
      clear hi326_3 hl326_3
      replace p326:=eq_true p326
      replace q326:=eq_true q326
      have ea_:=Option.some.inj (hx325_1.symm.trans hx326_1)
      injection ea_ with ea_ en_ ec_
      subst ea_
      subst ec_
      clear en_
      have ea_:=Option.some.inj (hx325_2.symm.trans hx326_2)
      injection ea_ with ea_ en_ ec_
      subst ea_
      subst ec_
      clear en_
      have ea_:=Option.some.inj (hx325_3.symm.trans hx326_3)
      injection ea_ with ea_ en_ ec_
      subst ea_
      subst ec_
      clear en_
      have p327:0≤(x4_2:Int):=of_decide_eq_true J3
      have q327:x4_2 < (l0_0.length:Int):=of_decide_eq_true J3
      obtain ⟨ad327,A327_1,c327_1,A327_2,c327_2,A327_3,c327_3,e327,hx327_0,hx327_1,hx327_2,hx327_3,hx327_4,hl327_1,hi327_1,hl327_2,hi327_2,hl327_3,hi327_3⟩:=at_T34 HR0_0.out x4_2 p327 q327
      obtain rfl:ad325=ad327:=(by injection e327)
      replace hx327_0:=(HB.out.cell (World.block_lt_of_cell? w _ hx327_0)).trans hx327_0
      replace hx327_1:=(HB.out.cell (World.block_lt_of_cell? w _ hx327_1)).trans hx327_1
      replace hx327_2:=(HB.out.cell (World.block_lt_of_cell? w _ hx327_2)).trans hx327_2
      replace hx327_3:=(HB.out.cell (World.block_lt_of_cell? w _ hx327_3)).trans hx327_3
      replace hx327_4:=(HB.out.cell (World.block_lt_of_cell? w _ hx327_4)).trans hx327_4
      have HR327_1:=Y0 hi327_1
      have HC327_1:=Y0 hl327_1
      clear hi327_1 hl327_1
      have HR327_2:=Y0 hi327_2
      have HC327_2:=Y0 hl327_2
      clear hi327_2 hl327_2
      have HR327_3:=Y0 hi327_3
      have HC327_3:=Y0 hl327_3
      clear hi327_3 hl327_3
      replace p327:=eq_true p327
      replace q327:=eq_true q327
      have ea_:=Option.some.inj (hx325_1.symm.trans hx327_1)
      injection ea_ with ea_ en_ ec_
      subst ea_
      subst ec_
      clear en_
      have ea_:=Option.some.inj (hx325_2.symm.trans hx327_2)
      injection ea_ with ea_ en_ ec_
      subst ea_
      subst ec_
      clear en_
      have ea_:=Option.some.inj (hx325_3.symm.trans hx327_3)
      injection ea_ with ea_ en_ ec_
      subst ea_
      subst ec_
      clear en_
      go_wp2
      go_roundg k2
      case measure=>have:=HJ1.out;have:=HK2.out;omega
      case rel=>exact ⟨(decide ((((rd_T34 l0_0 x4_2).f3).length:Int)≤40)),(wrap64 (x4_2 + 1)),J12,J12,H',⟨J154⟩,⟨J54⟩,⟨J42⟩⟩
   case rest =>
    clear HC7
    obtain ⟨kq,x3_6,rfl,HA,HJ6,BK324,HB⟩:=hcut
    cases kq with
    | zero=>exact absurd HA.out (by simp [trufflelaw08_few.j2])
    | succ kj6 =>
     have H:=HA.out
     clear HA
     simp only [trufflelaw08_few.j2] at H
     have H':=Y0 H
     clear H
     go_wp2
     go_loopg [3,5] kj6 (fun kq v3 v5 w'=>∃ (x3_3:Bool) (x5_3:Int),v3 = .bool x3_3∧v5 = .int .i64 x5_3∧Aside0 (trufflelaw08_few.l1 kq x3_3 x5_3 l0_0 l0_1=some r)∧Aside0 (kq≤kj6)∧Aside0 (w'.heap[gb324]?=some (.cells #[(.slice A0_0 l0_0.length c0_0),(.slice A0_1 l0_1.length c0_1)] 26 (0,0)))∧Aside0 (Below w.heap.size w w'))
     case atStart=>exact ⟨(x3_6),(0),J12,J12,H',⟨Nat.le_refl _⟩,⟨J54⟩,⟨J42⟩⟩
     case round =>
      clear H'
      obtain ⟨x3_3,x5_3,rfl,rfl,HA,HK3,BK324,HB⟩:=hrel
      cases gk with
      | zero=>exact absurd HA.out (by simp [trufflelaw08_few.l1])
      | succ k3 =>
       have H:=HA.out
       clear HA
       simp only [trufflelaw08_few.l1] at H
       by_cases c18:x5_3 < (l0_1.length:Int)
       rotate_left
       ·rw [if_neg c18] at H
        have c18b0:decide (x5_3 < (l0_1.length:Int))=false:=decide_eq_false c18
        clear c18
        obtain rfl:=Option.some.inj H
        have ⟨hcz23_0,hcz23_1,hfz23_0,hfz23_1⟩:=sq_box2 BK324.out
        go_wp2
        go_ret
        exact ⟨J21,J42⟩
       rw [if_pos c18] at H
       have c18b0:decide (x5_3 < (l0_1.length:Int))=true:=decide_eq_true c18
       clear c18
       by_cases c19:x3_3=true
       rotate_left
       ·replace c19:=Bool.eq_false_iff.mpr c19
        subst c19
        rw [if_neg (show ¬ (false=true) by decide)] at H
        obtain rfl:=Option.some.inj H
        have ⟨hcz22_0,hcz22_1,hfz22_0,hfz22_1⟩:=sq_box2 BK324.out
        go_wp2
        go_ret
        exact ⟨J21,J42⟩
       subst c19
       rw [if_pos rfl] at H
       by_cases c20:0≤x5_3
       rotate_left
       ·rw [if_neg c20] at H
        exact absurd H J53
       rw [if_pos c20] at H
       have c20b0:decide (0≤x5_3)=true:=decide_eq_true c20
       clear c20
       have H':=Y0 H
       clear H
       have ⟨hcz21_0,hcz21_1,hfz21_0,hfz21_1⟩:=sq_box2 BK324.out
       have p328:0≤(x5_3:Int):=of_decide_eq_true J3
       have q328:x5_3 < (l0_1.length:Int):=of_decide_eq_true J3
       obtain ⟨ad328,A328_1,c328_1,e328,hx328_0,hx328_1,hx328_2,hl328_1,hi328_1⟩:=at_T68 HR0_1.out x5_3 p328 q328
       cases e328
       replace hx328_0:=(HB.out.cell (World.block_lt_of_cell? w _ hx328_0)).trans hx328_0
       replace hx328_1:=(HB.out.cell (World.block_lt_of_cell? w _ hx328_1)).trans hx328_1
       replace hx328_2:=(HB.out.cell (World.block_lt_of_cell? w _ hx328_2)).trans hx328_2
       have HR328_1:=Y0 hi328_1
       have HC328_1:=Y0 hl328_1
       clear hi328_1 hl328_1
       replace p328:=eq_true p328
       replace q328:=eq_true q328
       go_wp2
       go_roundg k3
       case measure=>have:=HJ1.out;have:=HJ6.out;have:=HK3.out;omega
       case rel=>exact ⟨(decide ((((rd_T68 l0_1 x5_3).f1).length:Int)≤40)),(wrap64 (x5_3 + 1)),J12,J12,H',⟨by have:=HJ1.out;have:=HJ6.out;have:=HK3.out;omega⟩,⟨J54⟩,⟨J42⟩⟩
end Go.Proofs.YtddpjjhekhompaaGreatDoor.P
namespace Go.Proofs.YtddpjjhekhompaaGreatDoor.P
end Go.Proofs.YtddpjjhekhompaaGreatDoor.P
namespace Go.Proofs.YtddpjjhekhompaaGreatDoor.P
open Go.RowKit Go.Proofs.YtddpjjhekhompaaGreatDoorW.PrintWords Go.Proofs.YtddpjjhekhompaaGreatDoorW.PrintLast Go.Proofs.YtddpjjhekhompaaGreatDoorW.PrintMore
attribute [local go_sem] max2_int max_two
set_option linter.unusedVariables false
set_option linter.unusedSimpArgs false
theorem itoa_1:Lib.itoa 1=[49]:=by
 have h:=Lib.itoa_nonneg 1
 have e:Lib.decDigits 1=[49]:=by rw [Lib.decDigits_one J7];decide
 rw [e] at h
 exact h
theorem parse_1:Lib.parseIntB 64 [49] = .ok 1:=by decide
theorem numOk_1:numOk [49]=true:=by
 unfold numOk
 rw [parse_1]
 simp only [itoa_1,decide_true]
theorem numV_1:numV [49]=1:=by unfold numV;rw [parse_1]
theorem lex_1:lex1 [49,59,32,125]=some (1,[49],1,1):=by
 rw [lex1_cons,if_neg J11,if_neg J11,if_pos J11]
 have e:List.take (runN numU [49,59,32,125]) ([49,59,32,125]:List UInt8)=[49]:=by decide
 have e2:runN numU [49,59,32,125]=1:=by decide
 rw [e,numOk_1,numV_1,if_pos rfl,e2]
theorem itoa_2:Lib.itoa 2=[50]:=by
 have h:=Lib.itoa_nonneg 2
 have e:Lib.decDigits 2=[50]:=by rw [Lib.decDigits_one J7];decide
 rw [e] at h
 exact h
theorem parse_2:Lib.parseIntB 64 [50] = .ok 2:=by decide
theorem numOk_2:numOk [50]=true:=by
 unfold numOk
 rw [parse_2]
 simp only [itoa_2,decide_true]
theorem numV_2:numV [50]=2:=by unfold numV;rw [parse_2]
theorem lex_2:lex1 [50,59,32,105,110,116,54,52,32,98,32,61,32,49,59,32,125]=some (1,[50],2,1):=by
 rw [lex1_cons,if_neg J11,if_neg J11,if_pos J11]
 have e:List.take (runN numU [50,59,32,105,110,116,54,52,32,98,32,61,32,49,59,32,125]) ([50,59,32,105,110,116,54,52,32,98,32,61,32,49,59,32,125]:List UInt8)=[50]:=by decide
 have e2:runN numU [50,59,32,105,110,116,54,52,32,98,32,61,32,49,59,32,125]=1:=by decide
 rw [e,numOk_2,numV_2,if_pos rfl,e2]
def exText8:ByteArray:=⟨#[109,101,115,115,97,103,101,32,65,32,123,32,65,32,97,32,61,32,50,59,32,105,110,116,54,52,32,98,32,61,32,49,59,32,125]⟩
def exToks8:List TokS:=[⟨0,⟨#[109,101,115,115,97,103,101]⟩,0,0⟩,⟨0,⟨#[65]⟩,0,8⟩,⟨3,⟨#[123]⟩,0,10⟩,⟨0,⟨#[65]⟩,0,12⟩,⟨0,⟨#[97]⟩,0,14⟩,⟨3,⟨#[61]⟩,0,16⟩,⟨1,⟨#[50]⟩,2,18⟩,⟨3,⟨#[59]⟩,0,19⟩,⟨0,⟨#[105,110,116,54,52]⟩,0,21⟩,⟨0,⟨#[98]⟩,0,27⟩,⟨3,⟨#[61]⟩,0,29⟩,⟨1,⟨#[49]⟩,1,31⟩,⟨3,⟨#[59]⟩,0,32⟩,⟨3,⟨#[125]⟩,0,34⟩]
theorem allF_ex8:allF exText8=(exToks8,35,0):=by
 have e0:lex1 [109,101,115,115,97,103,101,32,65,32,123,32,65,32,97,32,61,32,50,59,32,105,110,116,54,52,32,98,32,61,32,49,59,32,125]=some (0,[109,101,115,115,97,103,101],0,7):=by decide
 have e1:lex1 [65,32,123,32,65,32,97,32,61,32,50,59,32,105,110,116,54,52,32,98,32,61,32,49,59,32,125]=some (0,[65],0,1):=by decide
 have e2:lex1 [123,32,65,32,97,32,61,32,50,59,32,105,110,116,54,52,32,98,32,61,32,49,59,32,125]=some (3,[123],0,1):=by decide
 have e3:lex1 [65,32,97,32,61,32,50,59,32,105,110,116,54,52,32,98,32,61,32,49,59,32,125]=some (0,[65],0,1):=by decide
 have e4:lex1 [97,32,61,32,50,59,32,105,110,116,54,52,32,98,32,61,32,49,59,32,125]=some (0,[97],0,1):=by decide
 have e5:lex1 [61,32,50,59,32,105,110,116,54,52,32,98,32,61,32,49,59,32,125]=some (3,[61],0,1):=by decide
 have e7:lex1 [59,32,105,110,116,54,52,32,98,32,61,32,49,59,32,125]=some (3,[59],0,1):=by decide
 have e8:lex1 [105,110,116,54,52,32,98,32,61,32,49,59,32,125]=some (0,[105,110,116,54,52],0,5):=by decide
 have e9:lex1 [98,32,61,32,49,59,32,125]=some (0,[98],0,1):=by decide
 have e10:lex1 [61,32,49,59,32,125]=some (3,[61],0,1):=by decide
 have e12:lex1 [59,32,125]=some (3,[59],0,1):=by decide
 have e13:lex1 [125]=some (3,[125],0,1):=by decide
 have s_:skipN false [109,101,115,115,97,103,101,32,65,32,123,32,65,32,97,32,61,32,50,59,32,105,110,116,54,52,32,98,32,61,32,49,59,32,125]=0:=by decide
 have s0:skipN false [32,65,32,123,32,65,32,97,32,61,32,50,59,32,105,110,116,54,52,32,98,32,61,32,49,59,32,125]=1:=by decide
 have s1:skipN false [32,123,32,65,32,97,32,61,32,50,59,32,105,110,116,54,52,32,98,32,61,32,49,59,32,125]=1:=by decide
 have s2:skipN false [32,65,32,97,32,61,32,50,59,32,105,110,116,54,52,32,98,32,61,32,49,59,32,125]=1:=by decide
 have s3:skipN false [32,97,32,61,32,50,59,32,105,110,116,54,52,32,98,32,61,32,49,59,32,125]=1:=by decide
 have s4:skipN false [32,61,32,50,59,32,105,110,116,54,52,32,98,32,61,32,49,59,32,125]=1:=by decide
 have s5:skipN false [32,50,59,32,105,110,116,54,52,32,98,32,61,32,49,59,32,125]=1:=by decide
 have s6:skipN false [59,32,105,110,116,54,52,32,98,32,61,32,49,59,32,125]=0:=by decide
 have s7:skipN false [32,105,110,116,54,52,32,98,32,61,32,49,59,32,125]=1:=by decide
 have s8:skipN false [32,98,32,61,32,49,59,32,125]=1:=by decide
 have s9:skipN false [32,61,32,49,59,32,125]=1:=by decide
 have s10:skipN false [32,49,59,32,125]=1:=by decide
 have s11:skipN false [59,32,125]=0:=by decide
 have s12:skipN false [32,125]=1:=by decide
 have s13:skipN false []=0:=by decide
 have b:bl exText8=[109,101,115,115,97,103,101,32,65,32,123,32,65,32,97,32,61,32,50,59,32,105,110,116,54,52,32,98,32,61,32,49,59,32,125]:=rfl
 have z:exText8.size=35:=rfl
 unfold allF allL
 rw [z,if_neg J7,b,s_]
 simp only [List.length_cons,List.length_nil,List.drop_zero,lexL,e0,e1,e2,e3,e4,e5,lex_2,e7,e8,e9,e10,lex_1,e12,e13,s0,s1,s2,s3,s4,s5,s6,s7,s8,s9,s10,s11,s12,s13,List.drop_succ_cons,List.drop_nil,endL,List.nil_append,z]
 rfl
def exF1:FieldS:=⟨⟨#[65]⟩,⟨#[]⟩,false,0,⟨#[97]⟩,2,12⟩
def exF2:FieldS:=⟨⟨#[105,110,116,54,52]⟩,⟨#[]⟩,false,0,⟨#[98]⟩,1,21⟩
def exM8:MsgS:=⟨⟨#[65]⟩,[exF1,exF2],[],[],0⟩
theorem parse_ex8:parseF exText8=(([exM8],[]),35,0):=by
 have z:exText8.size=35:=rfl
 have h:pAll 35 exToks8=(([exM8],[]),⟨[],false⟩):=by rfl
 unfold parseF
 rw [allF_ex8,z]
 show (if ((0:Int)≠0) then _ else if (pAll 35 exToks8).2.b=true then _ else ((pAll 35 exToks8).1,(35:Int),(0:Int)))=_
 rw [if_neg J11,h]
 rfl
theorem fd_eq {l l':List (S51)} (hp:l.Perm l') (hs:l'.Pairwise (fun a b=>a.f0 < b.f0)):fdSort l=l':=by
 have h1:=fd_sorts l
 refine List.Perm.eq_of_pairwise (le:=fun a b=>a.f0≤b.f0) (fun a b ha hb h2 h3=>?_) h1.2 (hs.imp (fun h=>Int.le_of_lt h)) (h1.1.trans hp)
 have ha':a ∈ l':=(h1.1.trans hp).subset ha
 obtain ⟨i,hi,rfl⟩:=List.getElem_of_mem ha'
 obtain ⟨j,hj,rfl⟩:=List.getElem_of_mem hb
 have hw:=List.pairwise_iff_getElem.1 hs
 rcases Nat.lt_trichotomy i j with h4|h4|h4
 ·have:=hw i j hi hj h4;omega
 ·subst h4;rfl
 ·have:=hw j i hj hi h4;omega
theorem hasK_bl (x:S36):hasK x=(bl x.f1 != []):=by unfold hasK;rw [toList_bl]
def exD1:S51:=⟨2,⟨#[97]⟩,9,0,false,-1,0⟩
def exD2:S51:=⟨1,⟨#[98]⟩,0,0,false,-1,0⟩
def exMD:S57:=⟨⟨#[65]⟩,[exD2,exD1]⟩
theorem hasK_1:hasK exF1=false:=by rw [hasK_bl];rfl
theorem hasK_2:hasK exF2=false:=by rw [hasK_bl];rfl
theorem res_ex8:rsF [exM8] []=(([exMD],[]),0,0):=by
 have hN:rsN [exM8] []=((rsN [exM8] []).1,0,0):=by rfl
 have hE:rsE [exM8] []=(0,0):=by
  unfold rsE
  show fdL (rsN [exM8] []).1 0 [exF1,exF2] (onesS []) (resN []) (rsN [exM8] []).2.1 (rsN [exM8] []).2.2=_
  have e1:∀ S N,fdE (rsN [exM8] []).1 0 exF1 S N (rsN [exM8] []).2.1 (rsN [exM8] []).2.2=fdE3 (rsN [exM8] []).1 exF1 (failE 0 0 ((S [97]).getD false || (!tmNum 2 || ((N 2).getD false || (!(decide ((0:Int)≤0∧(0:Int)≤((0:Nat):Int))) || ((false && hasK exF1) || (((0:Int) != 0) && (false || hasK exF1))))))) 12 4):=by
   intro S N
   unfold fdE fdE2
   rw [hasK_1]
   rfl
  have e2:∀ S N,fdE (rsN [exM8] []).1 0 exF2 S N 0 0=fdE3 (rsN [exM8] []).1 exF2 (failE 0 0 ((S [98]).getD false || (!tmNum 1 || ((N 1).getD false || (!(decide ((0:Int)≤0∧(0:Int)≤((0:Nat):Int))) || ((false && hasK exF2) || (((0:Int) != 0) && (false || hasK exF2))))))) 21 4):=by
   intro S N
   unfold fdE fdE2
   rw [hasK_2]
   rfl
  have e3:fdE (rsN [exM8] []).1 0 exF1 (onesS []) (resN []) (rsN [exM8] []).2.1 (rsN [exM8] []).2.2=(0,0):=by rw [e1,hasK_1];rfl
  rw [fdL,e3,fdL,e2,hasK_2]
  rfl
 have hM:msDef (rsN [exM8] []).1 exM8=exMD:=by
  have k1:keyN exF1 = -1:=by unfold keyN;rw [if_neg (by rw [hasK_1];decide)]
  have k2:keyN exF2 = -1:=by unfold keyN;rw [if_neg (by rw [hasK_2];decide)]
  have d1:fdDef (rsN [exM8] []).1 exF1=exD1:=by unfold fdDef;rw [k1];rfl
  have d2:fdDef (rsN [exM8] []).1 exF2=exD2:=by unfold fdDef;rw [k2];rfl
  show (⟨⟨#[65]⟩,fdSort [fdDef (rsN [exM8] []).1 exF1,fdDef (rsN [exM8] []).1 exF2]⟩:S57)=_
  rw [d1,d2,fd_eq (l':=[exD2,exD1]) (List.Perm.swap _ _ _) (by unfold exD1 exD2;decide)]
  rfl
 unfold rsF
 rw [if_neg J11,hE,if_pos rfl]
 show (([msDef (rsN [exM8] []).1 exM8],[]),_,_)=_
 rw [hM]
theorem ok_ex8:RsOk [exM8] []:=@of_decide_eq_true _ (decRs [exM8] []) J19
theorem may_ex8:tmMay [exMD] []=true:=by decide
theorem tmok_ex8:TmOk [exMD] []:=@of_decide_eq_true _ (decTm [exMD] []) J19
theorem read_ex8:table_Read.f exText8=some ([exMD],[],0,0):=by
 unfold table_Read.f proto_Parse.f
 rw [parse_ex8,Option.bind_some]
 have hr:table_Resolve.f [exM8] []=some ([exMD],[],0,0):=by
  unfold table_Resolve.f
  rw [if_pos ok_ex8,res_ex8]
 show (if (0:Int)=0 then (table_Resolve.f [exM8] []).bind _ else _)=_
 rw [if_pos rfl,hr]
 rfl
theorem find_ex8:table_Find.f [exMD] [] 0 ⟨#[97]⟩=some (2,⟨#[97]⟩,9,0,false,-1,0,true):=by
 have h:findW (fun x=>hasName x ⟨#[97]⟩) [exMD] 0=(exD1,true):=by
  have h1:idxW (fun x=>hasName x ⟨#[97]⟩) [exD2,exD1] 0=1:=by
   simp only [idxW,hasName,toList_bl]
   rfl
  unfold findW
  rw [if_pos J11]
  show (if idxW _ [exD2,exD1] 0 < 0 then _ else (rd_T51 [exD2,exD1] (idxW _ [exD2,exD1] 0),true))=_
  rw [h1,if_neg J11]
  rfl
 unfold table_Find.f
 rw [h]
 rfl
theorem by_ex8:table_By.f [exMD] [] 0 1=some (1,⟨#[98]⟩,0,0,false,-1,0,true):=by
 have h:findW (fun x=>hasNo x 1) [exMD] 0=(exD2,true):=by rfl
 unfold table_By.f
 rw [h]
 rfl
theorem awake08_true:trufflelaw08_awake.f=some true:=by
 have hp:=read_ex8
 unfold exText8 at hp
 have hm:table_May.f [exMD] []=some true:=by
  unfold table_May.f
  rw [if_pos tmok_ex8,may_ex8]
 unfold trufflelaw08_awake.f
 rw [hp,Option.bind_some]
 simp only [find_ex8,by_ex8,hm,Option.bind_some,toList_bl]
 rfl
theorem trufflelaw08_awake.calls (r:Bool) (w:World) (hG:GInv w) (h:trufflelaw08_awake.f=some r) :
  Calls Tryz.prog 16 #[] w fun e w'=>e = .returned (.bool r)∧Below w.heap.size w w':=by
 have hr:r=true:=by rw [awake08_true] at h;exact (Option.some.inj h).symm
 subst hr
 exact trufflelaw08_awake.callsT w hG h
theorem msY_E {w0:World}:(Kd.fixed k34 w0).E=[]:=rfl
theorem msX_E {w0:World}:(Kd.fixed k34 w0).E=[]:=rfl
section
variable {w0 w:World} {A:Option Addr} {n:Nat} {xs:List (S34)}
theorem msY_row (h:k34.C w0 A n xs) (hb:Below w0.heap.size w0 w):ReadsRow (k34.K w0) (Kd.fixed k34 w0).sz w A n xs:=ReadsRow.imp_ h hb (fun _ _ h=>h)
theorem msY_C (h:(Kd.fixed k34 w0).C w A n xs) (hb:Below w0.heap.size w0 w):k34.C w A n xs:=Kd.C_read (d:=k34) (dm:=Kd.fixed k34 w0) rfl (fun x cs (h:k34.K w0 x cs)=>k34.K_below (w:=w0) hb h) h
theorem msY_new (w0:World) (nm:ByteArray):k34.K w0 (⟨nm,[],[],[],0⟩:S34) [.string nm,.slice none 0 0,.slice none 0 0,.slice none 0 0,.int .i64 0] :=
 k34_mk w0 (⟨nm,[],[],[],0⟩:S34) (Nat.le_refl _) (Kd.C_nil _ _) (Nat.le_refl _) (Kd.C_nil _ _) (Nat.le_refl _) (Kd.C_nil _ _)
end
def table_Root.f (l0_0:List (S57)) (l0_1:List (S119)) (a1:ByteArray):Option (Int × Bool) :=
 let i:=idxW (fun x=>msgName x a1) l0_0 0
 some (if i < 0 then 0 else i,decide (0≤i))
set_option maxHeartbeats 4000000 in
theorem table_Root.calls (A0_0:Option Addr) (c0_0:Nat) (l0_0:List (S57)) (A0_1:Option Addr) (c0_1:Nat) (l0_1:List (S119)) (a1:ByteArray) (r1:Int) (r2:Bool) (w:World) (hr0_0:Kd.C k57 w A0_0 l0_0.length l0_0) (hc0_0:l0_0.length≤c0_0) (hr0_1:Kd.C k119 w A0_1 l0_1.length l0_1) (hc0_1:l0_1.length≤c0_1) (h:table_Root.f l0_0 l0_1 a1=some (r1,r2)) :
  Calls Tryz.prog 23 #[.agg #[.slice A0_0 l0_0.length c0_0,.slice A0_1 l0_1.length c0_1],.string a1] w fun e w'=>e = .returned (.tuple #[.int .i64 r1,.bool r2])∧Below w.heap.size w w':=by
 unfold table_Root.f at h
 simp only [Option.some.injEq,Prod.mk.injEq] at h
 obtain ⟨rfl,rfl⟩:=h
 have HC:=Y0 hr0_0
 have hqb:=idxW_lt (fun x=>msgName x a1) l0_0 0
 have hm:=Kd.C_max hr0_0
 obtain ⟨q,hq⟩:∃ q,q=idxW (fun x=>msgName x a1) l0_0 0:=⟨_,rfl⟩
 rw [← hq] at hqb ⊢
 have HQ:=Y0 hq
 clear hq hr0_0 hr0_1
 by_cases hlt:q < 0
 rotate_left
 ·rw [if_neg hlt,decide_eq_true J7]
  have t1:decide (0≤q)=true:=decide_eq_true J7
  have t2:decide (q < 0)=false:=decide_eq_false hlt
  clear hqb
  go_enter Tryz.func23,Tryz.ntmps23
  go_wp2_with fail
  have e0:(w.alloc (.cells #[.slice A0_0 l0_0.length c0_0,.slice A0_1 l0_1.length c0_1] 46 (0,0))).heap.size=w.heap.size + 1:=World.size_alloc _ _
  have h1:=below_alloc (Below.refl w.heap.size w) (.cells #[.slice A0_0 l0_0.length c0_0,.slice A0_1 l0_1.length c0_1] 46 (0,0))
  have h2:=below_step h1 (below_alloc (Below.refl _ (w.alloc (.cells #[.slice A0_0 l0_0.length c0_0,.slice A0_1 l0_1.length c0_1] 46 (0,0)))) (.cells #[.string a1] 9 (0,0)))
  have k2:=blk_new (w.alloc (.cells #[.slice A0_0 l0_0.length c0_0,.slice A0_1 l0_1.length c0_1] 46 (0,0))) (.cells #[.string a1] 9 (0,0))
  rw [e0] at k2
  generalize (w.alloc (.cells #[.slice A0_0 l0_0.length c0_0,.slice A0_1 l0_1.length c0_1] 46 (0,0))).alloc (.cells #[.string a1] 9 (0,0))=V0 at *
  have hcon:=idx_root l0_0 A0_0 c0_0 (w.heap.size + 1) a1 V0 (Kd.C_below HC.out h2) hc0_0 k2
  rw [← HQ.out] at hcon
  refine hcon.mono ?_
  rintro e V1 ⟨rfl,hb⟩
  have HB:=Y0 (below_step h2 hb)
  clear e0 h1 h2 k2 hcon hb HC hc0_0 HQ
  go_wp2
  all_goals first|(exfalso;omega)|(go_ret2;first|exact ⟨rfl,HB.out⟩|(obtain rfl:q=0:=by omega;exact ⟨rfl,HB.out⟩))
 rw [if_pos hlt,decide_eq_false J7]
 have t1:decide (0≤q)=false:=decide_eq_false J7
 have t2:decide (q < 0)=true:=decide_eq_true hlt
 clear hqb
 go_enter Tryz.func23,Tryz.ntmps23
 go_wp2_with fail
 have e0:(w.alloc (.cells #[.slice A0_0 l0_0.length c0_0,.slice A0_1 l0_1.length c0_1] 46 (0,0))).heap.size=w.heap.size + 1:=World.size_alloc _ _
 have h1:=below_alloc (Below.refl w.heap.size w) (.cells #[.slice A0_0 l0_0.length c0_0,.slice A0_1 l0_1.length c0_1] 46 (0,0))
 have h2:=below_step h1 (below_alloc (Below.refl _ (w.alloc (.cells #[.slice A0_0 l0_0.length c0_0,.slice A0_1 l0_1.length c0_1] 46 (0,0)))) (.cells #[.string a1] 9 (0,0)))
 have k2:=blk_new (w.alloc (.cells #[.slice A0_0 l0_0.length c0_0,.slice A0_1 l0_1.length c0_1] 46 (0,0))) (.cells #[.string a1] 9 (0,0))
 rw [e0] at k2
 generalize (w.alloc (.cells #[.slice A0_0 l0_0.length c0_0,.slice A0_1 l0_1.length c0_1] 46 (0,0))).alloc (.cells #[.string a1] 9 (0,0))=V0 at *
 have hcon:=idx_root l0_0 A0_0 c0_0 (w.heap.size + 1) a1 V0 (Kd.C_below HC.out h2) hc0_0 k2
 rw [← HQ.out] at hcon
 refine hcon.mono ?_
 rintro e V1 ⟨rfl,hb⟩
 have HB:=Y0 (below_step h2 hb)
 clear e0 h1 h2 k2 hcon hb HC hc0_0 HQ
 go_wp2
 all_goals first|(exfalso;omega)|(go_ret2;first|exact ⟨rfl,HB.out⟩|(obtain rfl:q=0:=by omega;exact ⟨rfl,HB.out⟩))
end Go.Proofs.YtddpjjhekhompaaGreatDoor.P
namespace Go.Proofs.YtddpjjhekhompaaGreatDoor.P
end Go.Proofs.YtddpjjhekhompaaGreatDoor.P
namespace Go.Proofs.YtddpjjhekhompaaGreatDoor.P
open Go.RowKit Go.Proofs.YtddpjjhekhompaaGreatDoorW.PrintWords Go.Proofs.YtddpjjhekhompaaGreatDoorW.PrintLast Go.Proofs.YtddpjjhekhompaaGreatDoorW.PrintMore
attribute [local go_sem] max2_int max_two
set_option linter.unusedVariables false
set_option linter.unusedSimpArgs false
def allEq {α β:Type} (g:α→β→Bool):List α→List β→Bool
 | [],[]=>true
 | x :: r,y :: s=>g x y && allEq g r s
 | [],_ :: _=>false
 | _ :: _,[]=>false
theorem allEq_len {α β:Type} (g:α→β→Bool) (l:List α):∀ m:List β,l.length≠m.length→allEq g l m=false:=by
 induction l with
 | nil=>intro m h;cases m with
  | nil=>exact absurd rfl h
  | cons=>rfl
 | cons x r ih=>intro m h;cases m with
  | nil=>rfl
  | cons y s=>rw [allEq,ih s (by simpa using h),Bool.and_false]
theorem allEq_step {α β:Type} (g:α→β→Bool) (l:List α) (m:List β) (k:Nat) (hk:k < l.length) (hm:k < m.length):allEq g (l.drop k) (m.drop k)=(g l[k] m[k] && allEq g (l.drop (k + 1)) (m.drop (k + 1))):=by
 rw [List.drop_eq_getElem_cons hk,List.drop_eq_getElem_cons hm,allEq]
def slices_Equal_string_string.l0:Nat→List ByteArray→List ByteArray→Int→Int→Option (Bool)
 | 0,_,_,_,_=>none
 | k + 1,x0,x1,x12,x13=>if x13 < x12 then (if 0≤x13 then (if x13 < (x0.length:Int) then (if x13 < (x1.length:Int) then (if (rdOf ByteArray.empty x0 x13).toList=(rdOf ByteArray.empty x1 x13).toList then (slices_Equal_string_string.l0 k x0 x1 x12 (wrap64 (x13 + 1))) else (some false)) else (none)) else (none)) else (none)) else (some true)
def slices_Equal_string_string.f (k:Nat) (l0:List ByteArray) (l1:List ByteArray):Option (Bool):=if (l0.length:Int)=(l1.length:Int) then (slices_Equal_string_string.l0 k l0 l1 (l0.length:Int) 0) else (some false)
theorem slices_Equal_string_string.mono_l:∀ k,(∀ y0 y1 y2 y3,LeO (slices_Equal_string_string.l0 k y0 y1 y2 y3) (slices_Equal_string_string.l0 (k + 1) y0 y1 y2 y3))
 | 0=>fun _ _ _ _ r h=>by simp [slices_Equal_string_string.l0] at h
 | k + 1=>by
  have ih0:=slices_Equal_string_string.mono_l k
  ·intro y0 y1 y2 y3
   unfold slices_Equal_string_string.l0
   repeat' first
   | (with_reducible exact LeO.refl _)
   | (with_reducible exact LeO.none _)
   | (with_reducible refine LeO.ite ?_ ?_)
   | (with_reducible refine LeO.bind ?_ (fun _=>?_))
   | exact ih0 _ _ _ _
   | exact LeO.none _
   | refine LeO.ite ?_ ?_
   | refine LeO.bind ?_ (fun _=>?_)
theorem slices_Equal_string_string.mono:∀ a0 a1 k,LeO (slices_Equal_string_string.f k a0 a1) (slices_Equal_string_string.f (k + 1) a0 a1):=by
 intro a0 a1 k
 have ih0:=slices_Equal_string_string.mono_l k
 unfold slices_Equal_string_string.f
 repeat' first
   | (with_reducible exact LeO.refl _)
   | (with_reducible exact LeO.none _)
   | (with_reducible refine LeO.ite ?_ ?_)
   | (with_reducible refine LeO.bind ?_ (fun _=>?_))
   | exact ih0 _ _ _ _
   | exact LeO.none _
   | refine LeO.ite ?_ ?_
   | refine LeO.bind ?_ (fun _=>?_)
set_option maxHeartbeats 8000000 in
set_option maxRecDepth 100000 in
theorem slices_Equal_string_string.calls (k:Nat) (A0:Option Addr) (c0:Nat) (l0:List ByteArray) (A1:Option Addr) (c1:Nat) (l1:List ByteArray) (r:Bool) (w:World) (hr0:Kd.C Kd.string w A0 l0.length l0) (hc0:l0.length≤c0) (hr1:Kd.C Kd.string w A1 l1.length l1) (hc1:l1.length≤c1) (h:slices_Equal_string_string.f k l0 l1=some r) :
  Calls Tryz.prog 48 #[.slice A0 l0.length c0,.slice A1 l1.length c1] w fun e w'=>e = .returned (.bool r)∧Drawn0 w w':=by
 have HR0:=Y0 hr0
 have HC0:=Y0 hc0
 clear hr0 hc0
 have HR1:=Y0 hr1
 have HC1:=Y0 hc1
 clear hr1 hc1
 have H:(if (l0.length:Int)=(l1.length:Int) then (slices_Equal_string_string.l0 k l0 l1 (l0.length:Int) 0) else (some false))=some r:=h
 clear h
 by_cases c3:(l0.length:Int)=(l1.length:Int)
 rotate_left
 ·rw [if_neg c3] at H
  have c3b0:((l0.length:Int) == (l1.length:Int))=false:=beq_eq_false_iff_ne.mpr c3
  have c3b1:((l0.length:Int) != (l1.length:Int))=true:=bne_iff_ne.mpr c3
  have c3b2:(l0.length == l1.length)=false:=by first|simpa using c3|(simp at c3 ⊢;omega)
  obtain rfl:=Option.some.inj H
  go_enter Tryz.func48,Tryz.ntmps48
  go_wp2
  repeat (go_quiet (fail);try go_wp2)
  go_ret
  exact ⟨J12,J17⟩
 rw [if_pos c3] at H
 have c3b0:((l0.length:Int) == (l1.length:Int))=true:=beq_iff_eq.mpr c3
 have c3b1:((l0.length:Int) != (l1.length:Int))=false:=bne_eq_false_iff_eq.mpr c3
 have c3b2:(l0.length == l1.length)=true:=by first|simpa using c3|(simp at c3 ⊢;omega)
 clear c3
 have H':=Y0 H
 clear H
 go_enter Tryz.func48,Tryz.ntmps48
 go_wp2
 repeat (go_quiet (fail);try go_wp2)
 go_loopg [13] k (fun kq v13 w'=>∃ (x13_1:Int),v13 = .int .i64 x13_1∧Aside0 (slices_Equal_string_string.l0 kq l0 l1 (l0.length:Int) x13_1=some r)∧Aside0 (kq≤k)∧Drawn0 w w')
 case atStart=>exact ⟨(0),J12,H',⟨Nat.le_refl _⟩,J17⟩
 case round =>
  clear H'
  obtain ⟨x13_1,rfl,HA,HK1,⟨m1,rfl⟩⟩:=hrel
  cases gk with
  | zero=>exact absurd HA.out (by simp [slices_Equal_string_string.l0])
  | succ k1 =>
   have H:=HA.out
   clear HA
   simp only [slices_Equal_string_string.l0] at H
   by_cases c4:x13_1 < (l0.length:Int)
   rotate_left
   ·rw [if_neg c4] at H
    have c4b0:decide (x13_1 < (l0.length:Int))=false:=decide_eq_false c4
    clear c4
    obtain rfl:=Option.some.inj H
    go_wp2
    repeat (go_quiet (fail);try go_wp2)
    go_ret
    exact ⟨J12,J17⟩
   rw [if_pos c4] at H
   have c4b0:decide (x13_1 < (l0.length:Int))=true:=decide_eq_true c4
   clear c4
   by_cases c5:0≤x13_1
   rotate_left
   ·rw [if_neg c5] at H
    exact absurd H J53
   rw [if_pos c5] at H
   have c5b0:decide (0≤x13_1)=true:=decide_eq_true c5
   clear c5
   by_cases c6:x13_1 < (l0.length:Int)
   rotate_left
   ·rw [if_neg c6] at H
    exact absurd H J53
   rw [if_pos c6] at H
   have c6b0:decide (x13_1 < (l0.length:Int))=true:=decide_eq_true c6
   clear c6
   by_cases c7:x13_1 < (l1.length:Int)
   rotate_left
   ·rw [if_neg c7] at H
    exact absurd H J53
   rw [if_pos c7] at H
   have c7b0:decide (x13_1 < (l1.length:Int))=true:=decide_eq_true c7
   clear c7
   by_cases c8:(rdOf ByteArray.empty l0 x13_1).toList=(rdOf ByteArray.empty l1 x13_1).toList
   rotate_left
   ·rw [if_neg c8] at H
    have c8b0:((rdOf ByteArray.empty l0 x13_1).toList == (rdOf ByteArray.empty l1 x13_1).toList)=false:=beq_eq_false_iff_ne.mpr c8
    have c8b1:((rdOf ByteArray.empty l0 x13_1).toList != (rdOf ByteArray.empty l1 x13_1).toList)=true:=bne_iff_ne.mpr c8
    obtain rfl:=Option.some.inj H
    have p155:0≤(x13_1:Int):=of_decide_eq_true J3
    have q155:x13_1 < (l0.length:Int):=of_decide_eq_true J3
    obtain ⟨ad155,e155,hx155_0⟩:=Kd.at_string HR0.out x13_1 p155 q155
    cases e155
    replace p155:=eq_true p155
    replace q155:=eq_true q155
    have p156:0≤(x13_1:Int):=of_decide_eq_true J3
    have q156:x13_1 < (l1.length:Int):=of_decide_eq_true J3
    obtain ⟨ad156,e156,hx156_0⟩:=Kd.at_string HR1.out x13_1 p156 q156
    cases e156
    replace p156:=eq_true p156
    replace q156:=eq_true q156
    go_wp2
    repeat (go_quiet (fail);try go_wp2)
    go_ret
    exact ⟨J12,J17⟩
   rw [if_pos c8] at H
   have c8b0:((rdOf ByteArray.empty l0 x13_1).toList == (rdOf ByteArray.empty l1 x13_1).toList)=true:=beq_iff_eq.mpr c8
   have c8b1:((rdOf ByteArray.empty l0 x13_1).toList != (rdOf ByteArray.empty l1 x13_1).toList)=false:=bne_eq_false_iff_eq.mpr c8
   clear c8
   have H':=Y0 H
   clear H
   have p155:0≤(x13_1:Int):=of_decide_eq_true J3
   have q155:x13_1 < (l0.length:Int):=of_decide_eq_true J3
   obtain ⟨ad155,e155,hx155_0⟩:=Kd.at_string HR0.out x13_1 p155 q155
   cases e155
   replace p155:=eq_true p155
   replace q155:=eq_true q155
   have p156:0≤(x13_1:Int):=of_decide_eq_true J3
   have q156:x13_1 < (l1.length:Int):=of_decide_eq_true J3
   obtain ⟨ad156,e156,hx156_0⟩:=Kd.at_string HR1.out x13_1 p156 q156
   cases e156
   replace p156:=eq_true p156
   replace q156:=eq_true q156
   go_wp2
   repeat (go_quiet (fail);try go_wp2)
   go_roundg k1
   case measure=>have:=HK1.out;omega
   case rel=>exact ⟨(wrap64 (x13_1 + 1)),J12,H',⟨J123⟩,J17⟩
def slices_Equal_int64_int64.l0:Nat→List Int→List Int→Int→Int→Option (Bool)
 | 0,_,_,_,_=>none
 | k + 1,x0,x1,x12,x13=>if x13 < x12 then (if 0≤x13 then (if x13 < (x0.length:Int) then (if x13 < (x1.length:Int) then (if (rd x0 x13)=(rd x1 x13) then (slices_Equal_int64_int64.l0 k x0 x1 x12 (wrap64 (x13 + 1))) else (some false)) else (none)) else (none)) else (none)) else (some true)
def slices_Equal_int64_int64.f (k:Nat) (l0:List Int) (l1:List Int):Option (Bool):=if (l0.length:Int)=(l1.length:Int) then (slices_Equal_int64_int64.l0 k l0 l1 (l0.length:Int) 0) else (some false)
theorem slices_Equal_int64_int64.mono_l:∀ k,(∀ y0 y1 y2 y3,LeO (slices_Equal_int64_int64.l0 k y0 y1 y2 y3) (slices_Equal_int64_int64.l0 (k + 1) y0 y1 y2 y3))
 | 0=>fun _ _ _ _ r h=>by simp [slices_Equal_int64_int64.l0] at h
 | k + 1=>by
  have ih0:=slices_Equal_int64_int64.mono_l k
  ·intro y0 y1 y2 y3
   unfold slices_Equal_int64_int64.l0
   repeat' first
   | (with_reducible exact LeO.refl _)
   | (with_reducible exact LeO.none _)
   | (with_reducible refine LeO.ite ?_ ?_)
   | (with_reducible refine LeO.bind ?_ (fun _=>?_))
   | exact ih0 _ _ _ _
   | exact LeO.none _
   | refine LeO.ite ?_ ?_
   | refine LeO.bind ?_ (fun _=>?_)
theorem slices_Equal_int64_int64.mono:∀ a0 a1 k,LeO (slices_Equal_int64_int64.f k a0 a1) (slices_Equal_int64_int64.f (k + 1) a0 a1):=by
 intro a0 a1 k
 have ih0:=slices_Equal_int64_int64.mono_l k
 unfold slices_Equal_int64_int64.f
 repeat' first
   | (with_reducible exact LeO.refl _)
   | (with_reducible exact LeO.none _)
   | (with_reducible refine LeO.ite ?_ ?_)
   | (with_reducible refine LeO.bind ?_ (fun _=>?_))
   | exact ih0 _ _ _ _
   | exact LeO.none _
   | refine LeO.ite ?_ ?_
   | refine LeO.bind ?_ (fun _=>?_)
set_option maxHeartbeats 8000000 in
set_option maxRecDepth 100000 in
theorem slices_Equal_int64_int64.calls (k:Nat) (A0:Option Addr) (c0:Nat) (l0:List Int) (A1:Option Addr) (c1:Nat) (l1:List Int) (r:Bool) (w:World) (hr0:Kd.C (Kd.int .i64) w A0 l0.length l0) (hc0:l0.length≤c0) (hr1:Kd.C (Kd.int .i64) w A1 l1.length l1) (hc1:l1.length≤c1) (h:slices_Equal_int64_int64.f k l0 l1=some r) :
  Calls Tryz.prog 49 #[.slice A0 l0.length c0,.slice A1 l1.length c1] w fun e w'=>e = .returned (.bool r)∧Drawn0 w w':=by
 have HR0:=Y0 hr0
 have HC0:=Y0 hc0
 clear hr0 hc0
 have HR1:=Y0 hr1
 have HC1:=Y0 hc1
 clear hr1 hc1
 have H:(if (l0.length:Int)=(l1.length:Int) then (slices_Equal_int64_int64.l0 k l0 l1 (l0.length:Int) 0) else (some false))=some r:=h
 clear h
 by_cases c3:(l0.length:Int)=(l1.length:Int)
 rotate_left
 ·rw [if_neg c3] at H
  have c3b0:((l0.length:Int) == (l1.length:Int))=false:=beq_eq_false_iff_ne.mpr c3
  have c3b1:((l0.length:Int) != (l1.length:Int))=true:=bne_iff_ne.mpr c3
  have c3b2:(l0.length == l1.length)=false:=by first|simpa using c3|(simp at c3 ⊢;omega)
  obtain rfl:=Option.some.inj H
  go_enter Tryz.func49,Tryz.ntmps49
  go_wp2
  repeat (go_quiet (fail);try go_wp2)
  go_ret
  exact ⟨J12,J17⟩
 rw [if_pos c3] at H
 have c3b0:((l0.length:Int) == (l1.length:Int))=true:=beq_iff_eq.mpr c3
 have c3b1:((l0.length:Int) != (l1.length:Int))=false:=bne_eq_false_iff_eq.mpr c3
 have c3b2:(l0.length == l1.length)=true:=by first|simpa using c3|(simp at c3 ⊢;omega)
 clear c3
 have H':=Y0 H
 clear H
 go_enter Tryz.func49,Tryz.ntmps49
 go_wp2
 repeat (go_quiet (fail);try go_wp2)
 go_loopg [13] k (fun kq v13 w'=>∃ (x13_1:Int),v13 = .int .i64 x13_1∧Aside0 (slices_Equal_int64_int64.l0 kq l0 l1 (l0.length:Int) x13_1=some r)∧Aside0 (kq≤k)∧Drawn0 w w')
 case atStart=>exact ⟨(0),J12,H',⟨Nat.le_refl _⟩,J17⟩
 case round =>
  clear H'
  obtain ⟨x13_1,rfl,HA,HK1,⟨m1,rfl⟩⟩:=hrel
  cases gk with
  | zero=>exact absurd HA.out (by simp [slices_Equal_int64_int64.l0])
  | succ k1 =>
   have H:=HA.out
   clear HA
   simp only [slices_Equal_int64_int64.l0] at H
   by_cases c4:x13_1 < (l0.length:Int)
   rotate_left
   ·rw [if_neg c4] at H
    have c4b0:decide (x13_1 < (l0.length:Int))=false:=decide_eq_false c4
    clear c4
    obtain rfl:=Option.some.inj H
    go_wp2
    repeat (go_quiet (fail);try go_wp2)
    go_ret
    exact ⟨J12,J17⟩
   rw [if_pos c4] at H
   have c4b0:decide (x13_1 < (l0.length:Int))=true:=decide_eq_true c4
   clear c4
   by_cases c5:0≤x13_1
   rotate_left
   ·rw [if_neg c5] at H
    exact absurd H J53
   rw [if_pos c5] at H
   have c5b0:decide (0≤x13_1)=true:=decide_eq_true c5
   clear c5
   by_cases c6:x13_1 < (l0.length:Int)
   rotate_left
   ·rw [if_neg c6] at H
    exact absurd H J53
   rw [if_pos c6] at H
   have c6b0:decide (x13_1 < (l0.length:Int))=true:=decide_eq_true c6
   clear c6
   by_cases c7:x13_1 < (l1.length:Int)
   rotate_left
   ·rw [if_neg c7] at H
    exact absurd H J53
   rw [if_pos c7] at H
   have c7b0:decide (x13_1 < (l1.length:Int))=true:=decide_eq_true c7
   clear c7
   by_cases c8:(rd l0 x13_1)=(rd l1 x13_1)
   rotate_left
   ·rw [if_neg c8] at H
    have c8b0:((rd l0 x13_1) == (rd l1 x13_1))=false:=beq_eq_false_iff_ne.mpr c8
    have c8b1:((rd l0 x13_1) != (rd l1 x13_1))=true:=bne_iff_ne.mpr c8
    obtain rfl:=Option.some.inj H
    have p157:0≤(x13_1:Int):=of_decide_eq_true J3
    have q157:x13_1 < (l0.length:Int):=of_decide_eq_true J3
    obtain ⟨ad157,e157,hx157_0⟩:=Kd.at_int HR0.out x13_1 p157 q157
    cases e157
    replace p157:=eq_true p157
    replace q157:=eq_true q157
    have p158:0≤(x13_1:Int):=of_decide_eq_true J3
    have q158:x13_1 < (l1.length:Int):=of_decide_eq_true J3
    obtain ⟨ad158,e158,hx158_0⟩:=Kd.at_int HR1.out x13_1 p158 q158
    cases e158
    replace p158:=eq_true p158
    replace q158:=eq_true q158
    go_wp2
    repeat (go_quiet (fail);try go_wp2)
    go_ret
    exact ⟨J12,J17⟩
   rw [if_pos c8] at H
   have c8b0:((rd l0 x13_1) == (rd l1 x13_1))=true:=beq_iff_eq.mpr c8
   have c8b1:((rd l0 x13_1) != (rd l1 x13_1))=false:=bne_eq_false_iff_eq.mpr c8
   clear c8
   have H':=Y0 H
   clear H
   have p157:0≤(x13_1:Int):=of_decide_eq_true J3
   have q157:x13_1 < (l0.length:Int):=of_decide_eq_true J3
   obtain ⟨ad157,e157,hx157_0⟩:=Kd.at_int HR0.out x13_1 p157 q157
   cases e157
   replace p157:=eq_true p157
   replace q157:=eq_true q157
   have p158:0≤(x13_1:Int):=of_decide_eq_true J3
   have q158:x13_1 < (l1.length:Int):=of_decide_eq_true J3
   obtain ⟨ad158,e158,hx158_0⟩:=Kd.at_int HR1.out x13_1 p158 q158
   cases e158
   replace p158:=eq_true p158
   replace q158:=eq_true q158
   go_wp2
   repeat (go_quiet (fail);try go_wp2)
   go_roundg k1
   case measure=>have:=HK1.out;omega
   case rel=>exact ⟨(wrap64 (x13_1 + 1)),J12,H',⟨J123⟩,J17⟩
theorem eqA51 (d:Nat) (w:World) (x0 y0:Int) (x1 y1:ByteArray) (x2 y2:Int) (x3 y3:Int) (x4 y4:Bool) (x5 y5:Int) (x6 y6:Int) :
  (Op.equalIn (d + 2) 51 (.agg #[.int .i64 x0,.string x1,.int .i64 x2,.int .i64 x3,.bool x4,.int .i64 x5,.int .i64 x6]) (.agg #[.int .i64 y0,.string y1,.int .i64 y2,.int .i64 y3,.bool y4,.int .i64 y5,.int .i64 y6])).run Tryz.prog w = .ok (x0 == y0 && (x1.toList == y1.toList && (x2 == y2 && (x3 == y3 && (x4 == y4 && (x5 == y5 && (x6 == y6))))))) w:=by
 refine eqA_of Tryz.underlying51 J0 ?_
 refine eqf_cons J19 J118 J118 J161 ?_
 refine eqf_cons J19 J118 J118 J161 ?_
 refine eqf_cons J19 J118 J118 J161 ?_
 refine eqf_cons J19 J118 J118 J161 ?_
 refine eqf_cons J19 J118 J118 J161 ?_
 refine eqf_cons J19 J118 J118 J161 ?_
 exact eqf_last J19 J118 J118 J161
end Go.Proofs.YtddpjjhekhompaaGreatDoor.P
namespace Go.Proofs.YtddpjjhekhompaaGreatDoor.P
open Go.RowKit Go.Proofs.YtddpjjhekhompaaGreatDoorW.PrintWords Go.Proofs.YtddpjjhekhompaaGreatDoorW.PrintLast Go.Proofs.YtddpjjhekhompaaGreatDoorW.PrintMore
attribute [local go_sem] max2_int max_two
set_option linter.unusedVariables false
set_option linter.unusedSimpArgs false
attribute [local go_sem high] eqA51
def api_FieldDef.l0:Nat→List (S51)→List (S51)→Int→Int→Option (Bool)
 | 0,_,_,_,_=>none
 | k + 1,x0,x1,x12,x13=>if x13 < x12 then (if 0≤x13 then (if x13 < (x0.length:Int) then (if x13 < (x1.length:Int) then (if (!(((rd_T51 x0 x13).f0) == ((rd_T51 x1 x13).f0)) || (!((((rd_T51 x0 x13).f1).toList) == (((rd_T51 x1 x13).f1).toList)) || (!(((rd_T51 x0 x13).f2) == ((rd_T51 x1 x13).f2)) || (!(((rd_T51 x0 x13).f3) == ((rd_T51 x1 x13).f3)) || (!(((rd_T51 x0 x13).f4) == ((rd_T51 x1 x13).f4)) || (!(((rd_T51 x0 x13).f5) == ((rd_T51 x1 x13).f5)) || (!(((rd_T51 x0 x13).f6) == ((rd_T51 x1 x13).f6)))))))))=true then (some false) else (api_FieldDef.l0 k x0 x1 x12 (wrap64 (x13 + 1)))) else (none)) else (none)) else (none)) else (some true)
def api_FieldDef.f (k:Nat) (l0:List (S51)) (l1:List (S51)):Option (Bool):=if (l0.length:Int)=(l1.length:Int) then (api_FieldDef.l0 k l0 l1 (l0.length:Int) 0) else (some false)
set_option maxHeartbeats 8000000 in
set_option maxRecDepth 100000 in
theorem api_FieldDef.calls (k:Nat) (A0:Option Addr) (c0:Nat) (l0:List (S51)) (A1:Option Addr) (c1:Nat) (l1:List (S51)) (r:Bool) (w:World) (hr0:Kd.C k51 w A0 l0.length l0) (hc0:l0.length≤c0) (hr1:Kd.C k51 w A1 l1.length l1) (hc1:l1.length≤c1) (h:api_FieldDef.f k l0 l1=some r) :
  Calls Tryz.prog 70 #[.slice A0 l0.length c0,.slice A1 l1.length c1] w fun e w'=>e = .returned (.bool r)∧Drawn0 w w':=by
 have hu51:=Tryz.underlying51
 have HR0:=Y0 hr0
 have HC0:=Y0 hc0
 clear hr0 hc0
 have HR1:=Y0 hr1
 have HC1:=Y0 hc1
 clear hr1 hc1
 have H:(if (l0.length:Int)=(l1.length:Int) then (api_FieldDef.l0 k l0 l1 (l0.length:Int) 0) else (some false))=some r:=h
 clear h
 by_cases c3:(l0.length:Int)=(l1.length:Int)
 rotate_left
 ·rw [if_neg c3] at H
  have c3b0:((l0.length:Int) == (l1.length:Int))=false:=beq_eq_false_iff_ne.mpr c3
  have c3b1:((l0.length:Int) != (l1.length:Int))=true:=bne_iff_ne.mpr c3
  have c3b2:(l0.length == l1.length)=false:=by first|simpa using c3|(simp at c3 ⊢;omega)
  obtain rfl:=Option.some.inj H
  go_enter Tryz.func70,Tryz.ntmps70
  go_wp2
  repeat (go_quiet (fail);try go_wp2)
  go_ret
  exact ⟨J12,J17⟩
 rw [if_pos c3] at H
 have c3b0:((l0.length:Int) == (l1.length:Int))=true:=beq_iff_eq.mpr c3
 have c3b1:((l0.length:Int) != (l1.length:Int))=false:=bne_eq_false_iff_eq.mpr c3
 have c3b2:(l0.length == l1.length)=true:=by first|simpa using c3|(simp at c3 ⊢;omega)
 clear c3
 have H':=Y0 H
 clear H
 go_enter Tryz.func70,Tryz.ntmps70
 go_wp2
 repeat (go_quiet (fail);try go_wp2)
 go_loopg [13] k (fun kq v13 w'=>∃ (x13_1:Int),v13 = .int .i64 x13_1∧Aside0 (api_FieldDef.l0 kq l0 l1 (l0.length:Int) x13_1=some r)∧Aside0 (kq≤k)∧Drawn0 w w')
 case atStart=>exact ⟨(0),J12,H',⟨Nat.le_refl _⟩,J17⟩
 case round =>
  clear H'
  obtain ⟨x13_1,rfl,HA,HK1,⟨m1,rfl⟩⟩:=hrel
  cases gk with
  | zero=>exact absurd HA.out (by simp [api_FieldDef.l0])
  | succ k1 =>
   have H:=HA.out
   clear HA
   simp only [api_FieldDef.l0] at H
   by_cases c4:x13_1 < (l0.length:Int)
   rotate_left
   ·rw [if_neg c4] at H
    have c4b0:decide (x13_1 < (l0.length:Int))=false:=decide_eq_false c4
    clear c4
    obtain rfl:=Option.some.inj H
    go_wp2
    repeat (go_quiet (fail);try go_wp2)
    go_ret
    exact ⟨J12,J17⟩
   rw [if_pos c4] at H
   have c4b0:decide (x13_1 < (l0.length:Int))=true:=decide_eq_true c4
   clear c4
   by_cases c5:0≤x13_1
   rotate_left
   ·rw [if_neg c5] at H
    exact absurd H J53
   rw [if_pos c5] at H
   have c5b0:decide (0≤x13_1)=true:=decide_eq_true c5
   clear c5
   by_cases c6:x13_1 < (l0.length:Int)
   rotate_left
   ·rw [if_neg c6] at H
    exact absurd H J53
   rw [if_pos c6] at H
   have c6b0:decide (x13_1 < (l0.length:Int))=true:=decide_eq_true c6
   clear c6
   by_cases c7:x13_1 < (l1.length:Int)
   rotate_left
   ·rw [if_neg c7] at H
    exact absurd H J53
   rw [if_pos c7] at H
   have c7b0:decide (x13_1 < (l1.length:Int))=true:=decide_eq_true c7
   clear c7
   by_cases c8:(!(((rd_T51 l0 x13_1).f0) == ((rd_T51 l1 x13_1).f0)) || (!((((rd_T51 l0 x13_1).f1).toList) == (((rd_T51 l1 x13_1).f1).toList)) || (!(((rd_T51 l0 x13_1).f2) == ((rd_T51 l1 x13_1).f2)) || (!(((rd_T51 l0 x13_1).f3) == ((rd_T51 l1 x13_1).f3)) || (!(((rd_T51 l0 x13_1).f4) == ((rd_T51 l1 x13_1).f4)) || (!(((rd_T51 l0 x13_1).f5) == ((rd_T51 l1 x13_1).f5)) || (!(((rd_T51 l0 x13_1).f6) == ((rd_T51 l1 x13_1).f6)))))))))=true
   ·rw [if_pos c8] at H
    have c8b0:(!(((rd_T51 l0 x13_1).f0) == ((rd_T51 l1 x13_1).f0)) || (!((((rd_T51 l0 x13_1).f1).toList) == (((rd_T51 l1 x13_1).f1).toList)) || (!(((rd_T51 l0 x13_1).f2) == ((rd_T51 l1 x13_1).f2)) || (!(((rd_T51 l0 x13_1).f3) == ((rd_T51 l1 x13_1).f3)) || (!(((rd_T51 l0 x13_1).f4) == ((rd_T51 l1 x13_1).f4)) || (!(((rd_T51 l0 x13_1).f5) == ((rd_T51 l1 x13_1).f5)) || (!(((rd_T51 l0 x13_1).f6) == ((rd_T51 l1 x13_1).f6)))))))))=true:=c8
    clear c8
    obtain rfl:=Option.some.inj H
    have p422:0≤(x13_1:Int):=of_decide_eq_true J3
    have q422:x13_1 < (l0.length:Int):=of_decide_eq_true J3
    obtain ⟨ad422,e422,hx422_0,hx422_1,hx422_2,hx422_3,hx422_4,hx422_5,hx422_6⟩:=at_T51 HR0.out x13_1 p422 q422
    cases e422
    replace p422:=eq_true p422
    replace q422:=eq_true q422
    have p423:0≤(x13_1:Int):=of_decide_eq_true J3
    have q423:x13_1 < (l1.length:Int):=of_decide_eq_true J3
    obtain ⟨ad423,e423,hx423_0,hx423_1,hx423_2,hx423_3,hx423_4,hx423_5,hx423_6⟩:=at_T51 HR1.out x13_1 p423 q423
    cases e423
    replace p423:=eq_true p423
    replace q423:=eq_true q423
    go_wp2
    repeat (go_quiet (fail);try go_wp2)
    go_ret
    exact ⟨J12,J17⟩
   rw [if_neg c8] at H
   have c8b0:(!(((rd_T51 l0 x13_1).f0) == ((rd_T51 l1 x13_1).f0)) || (!((((rd_T51 l0 x13_1).f1).toList) == (((rd_T51 l1 x13_1).f1).toList)) || (!(((rd_T51 l0 x13_1).f2) == ((rd_T51 l1 x13_1).f2)) || (!(((rd_T51 l0 x13_1).f3) == ((rd_T51 l1 x13_1).f3)) || (!(((rd_T51 l0 x13_1).f4) == ((rd_T51 l1 x13_1).f4)) || (!(((rd_T51 l0 x13_1).f5) == ((rd_T51 l1 x13_1).f5)) || (!(((rd_T51 l0 x13_1).f6) == ((rd_T51 l1 x13_1).f6)))))))))=false:=by simpa using c8
   clear c8
   have H':=Y0 H
   clear H
   have p422:0≤(x13_1:Int):=of_decide_eq_true J3
   have q422:x13_1 < (l0.length:Int):=of_decide_eq_true J3
   obtain ⟨ad422,e422,hx422_0,hx422_1,hx422_2,hx422_3,hx422_4,hx422_5,hx422_6⟩:=at_T51 HR0.out x13_1 p422 q422
   cases e422
   replace p422:=eq_true p422
   replace q422:=eq_true q422
   have p423:0≤(x13_1:Int):=of_decide_eq_true J3
   have q423:x13_1 < (l1.length:Int):=of_decide_eq_true J3
   obtain ⟨ad423,e423,hx423_0,hx423_1,hx423_2,hx423_3,hx423_4,hx423_5,hx423_6⟩:=at_T51 HR1.out x13_1 p423 q423
   cases e423
   replace p423:=eq_true p423
   replace q423:=eq_true q423
   go_wp2
   repeat (go_quiet (fail);try go_wp2)
   go_roundg k1
   case measure=>have:=HK1.out;omega
   case rel=>exact ⟨(wrap64 (x13_1 + 1)),J12,H',⟨J123⟩,J17⟩
end Go.Proofs.YtddpjjhekhompaaGreatDoor.P
