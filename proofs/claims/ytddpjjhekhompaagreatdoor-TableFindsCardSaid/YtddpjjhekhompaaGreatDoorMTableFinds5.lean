/- Part 5 of what the law TableFinds leans on: contracts of the functions that it reaches, and plain lemmas; printed walks and words (by the kit's print, through wip/mp.py) and the session's own texts, one behind the other, what is not used left out (wip/prune.py). -/
import Derived.Maps.Own
import Derived.Maps.OwnSet
import Derived.Maps.Views
import Derived.Maps.StringElems
import Derived.StringKeys
import Derived.Maps.RangeWalk
import Derived.BigQuiet
import Derived.Outline
import Derived.Test.YtddpjjhekhompaaGreatDoorMTableFinds1
import Derived.Test.YtddpjjhekhompaaGreatDoorMTableFinds2
import Derived.Test.YtddpjjhekhompaaGreatDoorMTableFinds3
import Derived.Test.YtddpjjhekhompaaGreatDoorMTableFinds4
namespace Go.Proofs.YtddpjjhekhompaaGreatDoor.P
open Go.RowKit Go.Proofs.YtddpjjhekhompaaGreatDoorW.PrintWords Go.Proofs.YtddpjjhekhompaaGreatDoorW.PrintLast Go.Proofs.YtddpjjhekhompaaGreatDoorW.PrintMore
attribute [local go_sem] max2_int max_two
set_option linter.unusedVariables false
set_option linter.unusedSimpArgs false
structure PB (B:Nat) (W:World) (p g:Nat) (f:FileS) (vM vE:Value):Prop where
 blk:W.heap[p]?=some (.cells #[.pointer (some ⟨g,0,none⟩),vM,vE] 79 (0,0))
 rM:k34.R 34 W B (fun _=>True) vM f.1
 rE:k68.R 68 W B (fun _=>True) vE f.2
theorem PB.keep {B g p:Nat} {W W':World} {f:FileS} {vM vE:Value} (H:PB B W p g f vM vE) (hF:Fr W.heap.size g W W') (hg:g < B) (hp:p≠g):PB B W' p g f vM vE :=
 ⟨(hF.block p (blk_lt H.blk) hp).trans H.blk,R_fr H.rM hF hg,R_fr H.rE hF hg⟩
theorem PB.below {B g p:Nat} {W W':World} {f:FileS} {vM vE:Value} (H:PB B W p g f vM vE) (hb:Below W.heap.size W W'):PB B W' p g f vM vE :=
 ⟨blk_below H.blk hb,Kd.R_below H.rM hb,Kd.R_below H.rE hb⟩
theorem PB.appM {B g p:Nat} {W W':World} {f:FileS} {vM vE v:Value} {l:List MsgS} (H:PB B W p g f vM vE) (hR:k34.R 34 W' B (fun _=>True) v l) (hg:W.grownBy W' vM.ownBlock):PB B (W'.setCell ⟨p,1,none⟩ v) p g (l,f.2) v vE:=by
 have hb:=blk_grow H.rM H.blk (by decide) hg
 exact ⟨blk_put hb 1 _ rfl,Kd.R_set hR hb (by decide) 1 v,Kd.R_set (R_grow H.rE H.rM (by decide) hg) hb (by decide) 1 v⟩
theorem PB.appE {B g p:Nat} {W W':World} {f:FileS} {vM vE v:Value} {l:List EnumS} (H:PB B W p g f vM vE) (hR:k68.R 68 W' B (fun _=>True) v l) (hg:W.grownBy W' vE.ownBlock):PB B (W'.setCell ⟨p,2,none⟩ v) p g (f.1,l) vM v:=by
 have hb:=blk_grow H.rE H.blk (by decide) hg
 exact ⟨blk_put hb 2 _ rfl,Kd.R_set (R_grow H.rM H.rE (by decide) hg) hb (by decide) 2 v,Kd.R_set hR hb (by decide) 2 v⟩
def TopP (B:Nat) (W:World) (p g:Nat) (l:TL) (e:Int) (f:FileS) (s:PS) (en:Ending) (W':World):Prop :=
 en = .returned (.tuple #[])∧TS B W' p g l e s∧(∃ vM vE,PB B W' p g f vM vE)∧(∀ B0,B0≤B→B0≤p→B0≤g→Below B0 W W')
theorem MB.name {D h:Nat} {W:World} {nm:ByteArray} {m:MAcc} {a:Int} {vF vO vR:Value} (H:MB D W h nm m a vF vO vR) (n2:ByteArray):MB D (W.setCell ⟨h,0,none⟩ (.string n2)) h n2 m a vF vO vR :=
 ⟨blk_put H.blk 0 _ rfl,Kd.R_set H.rF H.blk (by decide) 0 _,Kd.R_set H.rO H.blk (by decide) 0 _,Kd.R_set H.rR H.blk (by decide) 0 _,H.ge⟩
theorem MB.new (W:World) (a:Int) (D:Nat) (hD:D≤W.heap.size):MB D (W.alloc (.cells #[.string (⟨#[]⟩:ByteArray),.slice none 0 0,.slice none 0 0,.slice none 0 0,.int .i64 a] 34 (0,0))) W.heap.size ⟨#[]⟩ ([],[],[]) a (.slice none 0 0) (.slice none 0 0) (.slice none 0 0) :=
 ⟨blk_new _ _,Kd.R_nil _ _ _ _ _,Kd.R_nil _ _ _ _ _,Kd.R_nil _ _ _ _ _,hD⟩
set_option maxHeartbeats 2000000 in
set_option maxRecDepth 100000 in
theorem message_s {B p g:Nat} {W:World} {l:TL} {e:Int} {s:PS} {f:FileS} {vM vE:Value} (H:TS B W p g l e s) (HPB:PB B W p g f vM vE) (hl:f.1.length≤1000000):Calls Tryz.prog 38 #[.pointer (some ⟨p,0,none⟩)] W (TopP B W p g l e (f.1++[(pMsg e s).1],f.2) (pMsg e s).2):=by
 have HT0:=Y0 H
 have HL0:=Y0 H.lens
 have HG0:Aside0 (g < W.heap.size):=⟨by have:=H.lens;omega⟩
 have HT:=Y0 (H.lift H.lens.2.1 (Nat.le_refl _))
 have HLEN:=Y0 hl
 obtain ⟨AM,cM,rfl⟩:=Kd.R_slice HPB.rM
 have HP0:=Y0 HPB
 have hc:=H.par
 have q1:=tok_f1
 obtain ⟨r,hr⟩:∃ r,pLoopW [125] pItem ([],[],[]) e (pMust [123] (pTake 0 (pTake 0 s).2).2)=r:=⟨_,rfl⟩
 have HR:=Y0 hr
 obtain ⟨NM,hnm⟩:∃ NM,(pTake 0 (pTake 0 s).2).1.f1=NM:=⟨_,rfl⟩
 have HE:Aside0 (pMsg e s=(⟨NM,r.1.1,r.1.2.1,r.1.2.2,pAt e s⟩,r.2)):=⟨by unfold pMsg;rw [hr,hnm]⟩
 have HNM:=Y0 hnm
 rw [HE.out]
 clear H HPB hl hr hnm
 go_enter Tryz.func38,Tryz.ntmps38
 go_wp2_with fail
 go_at_call 40
 refine (at_s HT.out).mono ?_
 rintro en_ W1 ⟨rfl,hd⟩
 have n1_:=Y0 (HT.out.drawn hd)
 have HF:=Y0 (drawn_fr hd W.heap.size g)
 clear HT hc hd
 have HT:=n1_
 have hc:=HT.out.par
 clear n1_
 have hcA:∀ o,(W1.alloc o).cell? ⟨p,0,none⟩=some (.pointer (some ⟨g,0,none⟩)):=fun o=>pw_cell_below (below_alloc (Below.refl _ W1) o) hc
 go_wp2_with fail
 clear hcA
 have n1_:=Y0 (HT.out.alloc (.cells #[.string (⟨#[]⟩:ByteArray),.slice none 0 0,.slice none 0 0,.slice none 0 0,.int .i64 (pAt e s)] 34 (0,0)))
 have n2_:=Y0 (HF.out.alloc HF.out.size (.cells #[.string (⟨#[]⟩:ByteArray),.slice none 0 0,.slice none 0 0,.slice none 0 0,.int .i64 (pAt e s)] 34 (0,0)))
 have n3_:=Y0 (MB.new W1 (pAt e s) W.heap.size HF.out.size)
 have HHW:=Y0 HF.out.size
 clear HT HF hc
 generalize W1.alloc (.cells #[.string (⟨#[]⟩:ByteArray),.slice none 0 0,.slice none 0 0,.slice none 0 0,.int .i64 (pAt e s)] 34 (0,0))=V0 at *
 obtain ⟨h,hh⟩:∃ h,W1.heap.size=h:=⟨_,rfl⟩
 rw [hh] at n3_ HHW ⊢
 clear hh
 have HT:=n1_
 have HF:=n2_
 have HM:=n3_
 have hc:=HT.out.par
 clear n1_ n2_ n3_
 go_at_call 88
 refine (take_s 0 HT.out).mono ?_
 rintro en_ V1 ⟨rfl,h1,f1⟩
 have n4_:=Y0 (HM.out.keep f1 HG0.out)
 clear HM
 have HM:=n4_
 clear n4_
 have n1_:=Y0 h1
 have n2_:=Y0 (HF.out.trans (f1.mono HF.out.size))
 clear hc HT HF
 have hc:=h1.par
 have HT:=n1_
 have HF:=n2_
 clear h1 f1 n1_ n2_
 go_wp2_with fail
 go_at_call 88
 refine (take_s 0 HT.out).mono ?_
 rintro en_ V2 ⟨rfl,h1,f1⟩
 have n4_:=Y0 (HM.out.keep f1 HG0.out)
 clear HM
 have HM:=n4_
 clear n4_
 have n1_:=Y0 h1
 have n2_:=Y0 (HF.out.trans (f1.mono HF.out.size))
 clear hc HT HF
 have hc:=h1.par
 have HT:=n1_
 have HF:=n2_
 clear h1 f1 n1_ n2_
 have hph:p≠h:=by have:=HL0.out;have:=HHW.out;omega
 have hhp:=Ne.symm hph
 have z0:_=some (Value.string _):=(blk_cell HM.out.blk 0).trans rfl
 have w0:=blk_frozen HM.out.blk 0
 go_wp2_with fail
 clear z0 w0 hph hhp hc
 rw [HNM.out] at ⊢
 have n1_:=Y0 (HT.out.far (q:=⟨h,0,none⟩) HM.out.ge (.string NM))
 have n2_:=Y0 (HF.out.far (p:=⟨h,0,none⟩) HM.out.ge (.string NM))
 have n3_:=Y0 (HM.out.name NM)
 clear HT HF HM
 generalize V2.setCell ⟨h,0,none⟩ (.string NM)=V3 at *
 have HT:=n1_
 have HF:=n2_
 have HM:=n3_
 have hc:=HT.out.par
 clear n1_ n2_ n3_
 go_at_call 89
 refine (must_s (⟨#[123]⟩:ByteArray) HT.out).mono ?_
 rintro en_ V4 ⟨rfl,h1,f1⟩
 have n4_:=Y0 (HM.out.keep f1 HG0.out)
 clear HM
 have HM:=n4_
 clear n4_
 have n1_:=Y0 h1
 have n2_:=Y0 (HF.out.trans (f1.mono HF.out.size))
 clear hc HT HF
 have hc:=h1.par
 have HT:=n1_
 have HF:=n2_
 clear h1 f1 n1_ n2_
 have hbl:bl (⟨#[123]⟩:ByteArray)=[123]:=rfl
 rw [hbl] at HT
 clear hbl hc
 obtain ⟨S0,hS0⟩:∃ S0,pMust [123] (pTake 0 (pTake 0 s).2).2=S0:=⟨_,rfl⟩
 rw [hS0] at HT HR
 clear hS0
 go_upto_block 0 with (fail)
 go_cut [2] (fun v2 V=>v2 = .pointer (some ⟨h,0,none⟩)∧∃ vF vO vR:Value,Aside0 (TS W.heap.size V p g l e r.2)∧Aside0 (MB W.heap.size V h NM r.1 (pAt e s) vF vO vR)∧Aside0 (Fr W.heap.size g W V))
 case first =>
  go_wp2
  go_loopg [27] (mu S0) (fun n _ V=>∃ (m1:MAcc) (s1:PS) (vF vO vR:Value),Aside0 (TS W.heap.size V p g l e s1)∧Aside0 (MB W.heap.size V h NM m1 (pAt e s) vF vO vR)∧Aside0 (Fr W.heap.size g W V)∧Aside0 (pLoop [125] pItem n m1 e s1=r)∧Aside0 (mu s1≤n∧szM m1 + mu s1≤1001))
  case atStart =>
   refine ⟨([],[],[]),S0,_,_,_,HT,HM,HF,HR,⟨Nat.le_refl _,?_⟩⟩
   have h2:mu S0≤1001:=by
    unfold mu
    split
    ·omega
    ·have:=HT.out.lens.1;omega
   exact Nat.le_trans (Nat.le_of_eq (Nat.zero_add _)) h2
  case round =>
   clear HT HM HF HR
   obtain ⟨m1,s1,vF,vO,vR,HT,HM,HF,HR,HN⟩:=hrel
   have hc:=HT.out.par
   have hb3:=HT.out.bad
   cases hb:s1.b with
   | true =>
    rw [hb] at hb3
    have HE2:Aside0 (r=(m1,s1)):=⟨by rw [← HR.out];exact pLoop_stay _ _ _ _ _ _ hb⟩
    clear hb HR
    go_wp2
    go_meet
    exact ⟨rfl,vF,vO,vR,by rw [HE2.out];exact HT,by rw [HE2.out];exact HM,HF⟩
   | false =>
    rw [hb] at hb3
    cases gk with
    | zero =>
     have:=mu_zero s1 (by have:=HN.out;omega)
     rw [hb] at this
     cases this
    | succ k1 =>
     have HSG:=Y0 (sign_s (⟨#[125]⟩:ByteArray) HT.out)
     have hbl:bl (⟨#[125]⟩:ByteArray)=[125]:=rfl
     rw [hbl] at HSG
     clear hbl
     have hR2:=HR.out
     rw [pLoop,if_neg (by rw [hb];decide)] at hR2
     cases hsg:(pSign [125] s1).1 with
     | true =>
      rw [hsg,if_pos rfl] at hR2
      rw [hsg] at HSG
      have HE2:=Y0 hR2
      clear hsg hR2 HR hb
      go_wp2_with fail
      go_at_call 90
      refine HSG.out.mono ?_
      rintro en_ W4 ⟨rfl,h1,f1⟩
      have n1_:=Y0 h1
      have n2_:=Y0 (HM.out.keep f1 HG0.out)
      have n3_:=Y0 (HF.out.trans (f1.mono HF.out.size))
      clear HT HM HF hc hb3 h1 f1 HSG
      have HT:=n1_
      have HM:=n2_
      have HF:=n3_
      clear n1_ n2_ n3_
      go_wp2
      go_meet
      exact ⟨rfl,vF,vO,vR,by rw [← HE2.out];exact HT,by rw [← HE2.out];exact HM,HF⟩
     | false =>
      have hs2:(pSign [125] s1).2=s1:=sign_no _ _ hsg
      rw [hsg,if_neg Bool.false_ne_true] at hR2
      rw [hsg,hs2] at HSG
      have HMU:=Y0 ((item_good m1).mu_lt e s1 hb)
      have HPOT:=Y0 (item_pot m1 e s1 hb)
      have HE2:=Y0 hR2
      have HFW:Aside0 (fewM m1):=⟨by have:=HN.out;unfold szM at this;exact ⟨by omega,by omega,by omega⟩⟩
      clear hsg hs2 hR2 HR hb
      go_wp2_with fail
      go_at_call 90
      refine HSG.out.mono ?_
      rintro en_ W4 ⟨rfl,h1,f1⟩
      have n1_:=Y0 h1
      have n2_:=Y0 (HM.out.keep f1 HG0.out)
      have n3_:=Y0 (HF.out.trans (f1.mono HF.out.size))
      clear HT HM HF hc hb3 h1 f1 HSG
      go_wp2_with fail
      go_at_call 91
      refine (item_fn n1_.out).mono ?_
      rintro en_ W5 ⟨rfl,hd⟩
      have HT:=Y0 (n1_.out.drawn hd)
      have HM:=Y0 (n2_.out.drawn hd)
      have HF:=Y0 (n3_.out.trans (drawn_fr hd W.heap.size g))
      clear n1_ n2_ n3_ hd
      have HI:=Y0 (item_calls HT.out HM.out HFW.out)
      have hcf:=item_enter s1
      generalize itemF s1=fi at *
      clear HT HM
      go_wp2_with fail
      refine HI.out.mono ?_
      rintro en_ W6 ⟨rfl,h1,⟨vF',vO',vR',h2⟩,f1⟩
      have n1_:=Y0 h1
      have n2_:=Y0 h2
      have n3_:=Y0 (HF.out.trans f1)
      clear h1 h2 f1 HF HI hcf
      go_wp2_with fail
      go_roundg k1
      case measure=>omega
      case rel=>exact ⟨_,_,vF',vO',vR',n1_,n2_,n3_,HE2,⟨by have:=HMU.out;have:=HN.out;omega,by have:=HPOT.out;have:=HN.out;omega⟩⟩
 case rest =>
  obtain ⟨rfl,vF,vO,vR,HT,HM,HF⟩:=hcut
  go_wp2_with fail
  obtain ⟨AF,cF,rfl⟩:=Kd.R_slice HM.out.rF
  obtain ⟨AO,cO,rfl⟩:=Kd.R_slice HM.out.rO
  obtain ⟨AR,cR,rfl⟩:=Kd.R_slice HM.out.rR
  have n1_:=Y0 (HP0.out.keep HF.out (show g < B from by have:=HL0.out;omega) (by have:=HL0.out;omega))
  have y0:=(blk_cell HM.out.blk 0).trans rfl
  have y1:=(blk_cell HM.out.blk 1).trans rfl
  have y2:=(blk_cell HM.out.blk 2).trans rfl
  have y3:=(blk_cell HM.out.blk 3).trans rfl
  have y4:=(blk_cell HM.out.blk 4).trans rfl
  have hp1:=(blk_cell n1_.out.blk 1).trans rfl
  have HP:=Y0 (n1_.out.below (Below.refl _ wc).drew)
  have HTZ:=Y0 (HT0.out.back HT.out HF.out.size)
  have HS1:Aside0 (B≤wc.drew.heap.size):=⟨Nat.le_trans HL0.out.2.1 HF.out.size⟩
  have HFD:=Y0 HF.out.drew
  have HTD:=Y0 HTZ.out.drew
  have HBW:Aside0 (B≤W.heap.size):=⟨HL0.out.2.1⟩
  have HMM:Aside0 (k34.M wc.drew B (fun k=>W.heap.size≤k) (⟨NM,r.1.1,r.1.2.1,r.1.2.2,pAt e s⟩:MsgS) [.string NM,.slice AF r.1.1.length cF,.slice AO r.1.2.1.length cO,.slice AR r.1.2.2.length cR,.int .i64 (pAt e s)]):=⟨k34_mkM _ _ _ _ (Kd.R_lower (Kd.R_mono (Kd.R_bound (Kd.R_drew HM.out.rF)) (fun k hk=>hk.2.1)) HBW.out) (Kd.R_lower (Kd.R_mono (Kd.R_bound (Kd.R_drew HM.out.rO)) (fun k hk=>hk.2.1)) HBW.out) (Kd.R_lower (Kd.R_mono (Kd.R_bound (Kd.R_drew HM.out.rR)) (fun k hk=>hk.2.1)) HBW.out)⟩
  have HOK:Aside0 (∀ k,W.heap.size≤k→True∧some k≠(Value.slice AM f.1.length cM).ownBlock):=⟨fun k hk=>⟨trivial,fun he=>by have:=Kd.R_lt HP0.out.rM k he.symm;omega⟩⟩
  clear n1_ HT HF HTZ
  refine start_ (n:=13) (S:=fun w'=>w'.cell? ⟨p,1,none⟩=some (.slice AM f.1.length cM)∧w'.cell? ⟨h,0,none⟩=some (.string NM)∧w'.cell? ⟨h,1,none⟩=some (.slice AF r.1.1.length cF)∧w'.cell? ⟨h,2,none⟩=some (.slice AO r.1.2.1.length cO)∧w'.cell? ⟨h,3,none⟩=some (.slice AR r.1.2.2.length cR)∧w'.cell? ⟨h,4,none⟩=some (.int .i64 (pAt e s))) (ds:=[8,12]) #[false,false,false,false,false,false,false,false,false,false,false,false,false] (by kernel_rfl) rfl rfl ⟨hp1,y0,y1,y2,y3,y4⟩ (fun hHeld=>?_)
  generalize wc.drew=WD at *
  refine pure_ (i:=0) (N:=some 47) (v:=?_) (a':=?_) (sqB 13 1) rfl rfl (by kernel_rfl) (fun _ _ _ h=>h) (Or.inl ⟨by rfl,?_⟩) ?_ ?_;rotate_left;intro w';go_simp;with_reducible rfl;rotate_left;simp only [Act.put,Y14,Y15,Y16];rfl
  refine pure_ (i:=1) (N:=some 48) (v:=?_) (a':=?_) (sqB 13 3) rfl rfl (by kernel_rfl) (fun _ _ _ h=>h) (Or.inl ⟨by rfl,?_⟩) ?_ ?_;rotate_left;intro w';go_simp;with_reducible rfl;rotate_left;simp only [Act.put,Y14,Y15,Y16];rfl
  refine pure_ (i:=2) (N:=some 49) (v:=?_) (a':=?_) (sqB 13 7) rfl rfl (by kernel_rfl) (fun _ _ _ h=>h) (Or.inl ⟨by rfl,?_⟩) ?_ ?_;rotate_left;intro w';go_simp;with_reducible rfl;rotate_left;simp only [Act.put,Y14,Y15,Y16];rfl
  refine pure_ (i:=3) (N:=some 50) (v:=?_) (a':=?_) (sqB 13 15) rfl rfl (by kernel_rfl) (fun _ _ _ h=>h) (Or.inl ⟨by rfl,?_⟩) ?_ ?_;rotate_left;intro w';go_simp;with_reducible rfl;rotate_left;simp only [Act.put,Y14,Y15,Y16];rfl
  refine pure_ (i:=4) (N:=some 51) (v:=?_) (a':=?_) (sqB 13 31) rfl rfl (by kernel_rfl) (fun _ _ _ h=>h) (Or.inl ⟨by rfl,?_⟩) ?_ ?_;rotate_left;intro w';go_simp;with_reducible rfl;rotate_left;simp only [Act.put,Y14,Y15,Y16];rfl
  refine take_ (i:=5) (N:=some 52) (v:=?_) (a':=?_) (sqB 13 63) rfl rfl (by kernel_rfl) (fun _ _ _ h=>h) (Or.inl ⟨by rfl,?_⟩) hHeld ?_ ?_;rotate_left;rintro w' ⟨s0,s1,s2,s3,s4,s5⟩;go_simp;with_reducible rfl;rotate_left;simp only [Act.put,Y14,Y15,Y16];rfl
  refine take_ (i:=6) (N:=some 53) (v:=?_) (a':=?_) (sqB 13 127) rfl rfl (by kernel_rfl) (fun _ _ _ h=>h) (Or.inl ⟨by rfl,?_⟩) hHeld ?_ ?_;rotate_left;rintro w' ⟨s0,s1,s2,s3,s4,s5⟩;go_simp;with_reducible rfl;rotate_left;simp only [Act.put,Y14,Y15,Y16];rfl
  refine one_ (i:=7) (N:=some 54) (sqB 13 255) rfl rfl (by kernel_rfl) (by decide) (fun K hK=>?_)
  refine value_ (w1:=?_) (v:=?_) (by rfl) rfl ?_ ?_
  rotate_left 2
  ·go_simp
   constructor
   ·rfl
   ·rfl
  refine hK.out _ _ ⟨(pw_cell_below (below_alloc (Below.refl _ _) _) hHeld.1),(pw_cell_below (below_alloc (Below.refl _ _) _) hHeld.2.1),(pw_cell_below (below_alloc (Below.refl _ _) _) hHeld.2.2.1),(pw_cell_below (below_alloc (Below.refl _ _) _) hHeld.2.2.2.1),(pw_cell_below (below_alloc (Below.refl _ _) _) hHeld.2.2.2.2.1),(pw_cell_below (below_alloc (Below.refl _ _) _) hHeld.2.2.2.2.2)⟩ (fun hHeld=>?_)
  clear hK K
  refine norm_ (a':=?_) ?_ ?_;rotate_left;show Act.put _ (some 54) _=_;simp only [Act.put,Y14,Y15,Y16];rfl
  refine last_ (i:=8) (N:=some 55) (sqB 13 511) rfl rfl (by kernel_rfl) (by decide) (fun K hK=>?_)
  refine Kd.R_append_step k34 (w0:=WD) B (by rfl) (.tmp 52) (.tmp 54) 23 34 (.agg #[(.string ⟨#[]⟩),(.slice none 0 0),(.slice none 0 0),(.slice none 0 0),(.int .i64 0)]) 96 rfl Tryz.underlying23 info34 rfl (by decide) (by decide) _ f.1 ⟨NM,r.1.1,r.1.2.1,r.1.2.2,pAt e s⟩ [.string NM,.slice AF r.1.1.length cF,.slice AO r.1.2.1.length cO,.slice AR r.1.2.2.length cR,.int .i64 (pAt e s)] (fun _=>True) (fun k=>W.heap.size≤k) rfl rfl HMM.out HOK.out (fun _ _=>trivial) HP.out.rM (Below.refl _ _) HS1.out (by have:=HLEN.out;omega) ?_
  intro v1 w1 hR1 _ hg1 _
  obtain ⟨A1,c1,hv1⟩:=Kd.R_slice hR1
  have hv2:v1 = .slice A1 (f.1.length + 1) c1:=by rw [hv1,List.length_append];rfl
  clear hv1
  subst hv2
  have HR1:=Y0 hR1
  have HG1:=Y0 hg1
  clear hR1 hg1
  have hf1:=blk_frozen (blk_grow HP.out.rM HP.out.blk (by decide) HG1.out) 1
  have hk1:=(blk_cell (blk_grow HP.out.rM HP.out.blk (by decide) HG1.out) 1).trans rfl
  refine hK.out _ _ ?_
  clear hK K
  refine norm_ (a':=?_) ?_ ?_;rotate_left;show Act.put _ (some 55) _=_;simp only [Act.put,Y14,Y15,Y16];rfl
  refine pure_ (i:=9) (N:=some 56) (v:=?_) (a':=?_) (sqB 13 1023) rfl rfl (by kernel_rfl) (fun _ _ _ h=>h) (Or.inl ⟨by rfl,?_⟩) ?_ ?_;rotate_left;intro w';go_simp;with_reducible rfl;rotate_left;simp only [Act.put,Y14,Y15,Y16];rfl
  refine pure_ (i:=10) (N:=some 57) (v:=?_) (a':=?_) (sqB 13 2047) rfl rfl (by kernel_rfl) (fun _ _ _ h=>h) (Or.inl ⟨by rfl,?_⟩) ?_ ?_;rotate_left;intro w';go_simp;with_reducible rfl;rotate_left;simp only [Act.put,Y14,Y15,Y16];rfl
  refine pure_ (i:=11) (N:=some 58) (v:=?_) (a':=?_) (sqB 13 4095) rfl rfl (by kernel_rfl) (fun _ _ _ h=>h) (Or.inl ⟨by rfl,?_⟩) ?_ ?_;rotate_left;intro w';go_simp;with_reducible rfl;rotate_left;simp only [Act.put,Y14,Y15,Y16];rfl
  refine last_ (i:=12) (N:=none) (sqB 13 8191) rfl rfl (by kernel_rfl) (by decide) (fun K hK=>?_)
  refine skip_ (w1:=?_) (by rfl) rfl ?_ ?_
  rotate_left
  ·go_simp
   rfl
  refine hK.out _ _ ?_
  clear hK K
  refine done_ (by kernel_rfl) ?_
  go_wp2_with fail
  go_end0
  have hq:=HP.out.appM HR1.out HG1.out
  refine ⟨rfl,(HTD.out.other (grown_below HP.out.rM HG1.out HS1.out)).setp hq.blk rfl,⟨_,_,hq⟩,fun B0 h1 h2 h3=>?_⟩
  exact ((HFD.out.below (Below.refl B0 W) (Nat.le_trans h1 HBW.out) h3).trans ((grown_below HP.out.rM HG1.out HS1.out).mono h1)).setCell (p:=⟨p,1,none⟩) h2 _
structure EB (D:Nat) (W:World) (h:Nat) (nm:ByteArray) (vs:List ValS) (a:Int) (vV:Value):Prop where
 blk:W.heap[h]?=some (.cells #[.string nm,vV,.int .i64 a] 68 (0,0))
 rV:k92.R 92 W D (fun _=>True) vV vs
 ge:D≤h
theorem EB.keep {D g h:Nat} {W W':World} {nm:ByteArray} {vs:List ValS} {a:Int} {vV:Value} (H:EB D W h nm vs a vV) (hF:Fr W.heap.size g W W') (hg:g < D):EB D W' h nm vs a vV :=
 ⟨(hF.block h (blk_lt H.blk) (by have:=H.ge;omega)).trans H.blk,R_fr H.rV hF hg,H.ge⟩
theorem EB.below {D h:Nat} {W W':World} {nm:ByteArray} {vs:List ValS} {a:Int} {vV:Value} (H:EB D W h nm vs a vV) (hb:Below W.heap.size W W'):EB D W' h nm vs a vV:=⟨blk_below H.blk hb,Kd.R_below H.rV hb,H.ge⟩
theorem EB.drawn {D h:Nat} {W W':World} {nm:ByteArray} {vs:List ValS} {a:Int} {vV:Value} (H:EB D W h nm vs a vV) (hd:Drawn0 W W'):EB D W' h nm vs a vV:=H.below hd.below
theorem EB.name {D h:Nat} {W:World} {nm:ByteArray} {vs:List ValS} {a:Int} {vV:Value} (H:EB D W h nm vs a vV) (n2:ByteArray):EB D (W.setCell ⟨h,0,none⟩ (.string n2)) h n2 vs a vV:=⟨blk_put H.blk 0 _ rfl,Kd.R_set H.rV H.blk (by decide) 0 _,H.ge⟩
theorem EB.new (W:World) (a:Int) (D:Nat) (hD:D≤W.heap.size):EB D (W.alloc (.cells #[.string (⟨#[]⟩:ByteArray),.slice none 0 0,.int .i64 a] 68 (0,0))) W.heap.size ⟨#[]⟩ [] a (.slice none 0 0):=⟨blk_new _ _,Kd.R_nil _ _ _ _ _,hD⟩
theorem EB.appV {D h:Nat} {W W':World} {nm:ByteArray} {vs l:List ValS} {a:Int} {vV v:Value} (H:EB D W h nm vs a vV) (hR:k92.R 92 W' D (fun _=>True) v l) (hg:W.grownBy W' vV.ownBlock):EB D (W'.setCell ⟨h,1,none⟩ v) h nm l a v:=by
 have hb:=blk_grow H.rV H.blk (by decide) hg
 exact ⟨blk_put hb 1 _ rfl,Kd.R_set hR hb (by decide) 1 v,H.ge⟩
theorem R_far2 {α:Type} {d:Kd α} {t B b j:Nat} {W W':World} {v u:Value} {xs:List α} (h:d.R t W B (fun k=>k≠b) v xs) (e:W'=W.setCell ⟨b,j,none⟩ u):d.R t W' B (fun k=>k≠b) v xs:=e ▸ Kd.R_far h (p:=⟨b,j,none⟩) (fun _ hk=>hk) u
set_option maxHeartbeats 2000000 in
set_option maxRecDepth 100000 in
theorem enum_s {B p g:Nat} {W:World} {l:TL} {e:Int} {s:PS} {f:FileS} {vM vE:Value} (H:TS B W p g l e s) (HPB:PB B W p g f vM vE) (hl:f.2.length≤1000000):Calls Tryz.prog 39 #[.pointer (some ⟨p,0,none⟩)] W (TopP B W p g l e (f.1,f.2++[(pEnum e s).1]) (pEnum e s).2):=by
 have HT0:=Y0 H
 have HL0:=Y0 H.lens
 have HG0:Aside0 (g < W.heap.size):=⟨by have:=H.lens;omega⟩
 have HT:=Y0 (H.lift H.lens.2.1 (Nat.le_refl _))
 have HLEN:=Y0 hl
 obtain ⟨AE,cE,rfl⟩:=Kd.R_slice HPB.rE
 have HP0:=Y0 HPB
 have hc:=H.par
 have q1:=tok_f1
 obtain ⟨r,hr⟩:∃ r,pLoopW [125] pVal [] e (pMust [123] (pTake 0 (pTake 0 s).2).2)=r:=⟨_,rfl⟩
 have HR:=Y0 hr
 obtain ⟨NM,hnm⟩:∃ NM,(pTake 0 (pTake 0 s).2).1.f1=NM:=⟨_,rfl⟩
 have HE:Aside0 (pEnum e s=(⟨NM,r.1,pAt e s⟩,r.2)):=⟨by unfold pEnum;rw [hr,hnm]⟩
 have HNM:=Y0 hnm
 rw [HE.out]
 clear H HPB hl hr hnm
 go_enter Tryz.func39,Tryz.ntmps39
 go_wp2_with fail
 go_at_call 40
 refine (at_s HT.out).mono ?_
 rintro en_ W1 ⟨rfl,hd⟩
 have n1_:=Y0 (HT.out.drawn hd)
 have HF:=Y0 (drawn_fr hd W.heap.size g)
 clear HT hc hd
 have HT:=n1_
 have hc:=HT.out.par
 clear n1_
 have hcA:∀ o,(W1.alloc o).cell? ⟨p,0,none⟩=some (.pointer (some ⟨g,0,none⟩)):=fun o=>pw_cell_below (below_alloc (Below.refl _ W1) o) hc
 go_wp2_with fail
 clear hcA
 have n1_:=Y0 (HT.out.alloc (.cells #[.string (⟨#[]⟩:ByteArray),.slice none 0 0,.int .i64 (pAt e s)] 68 (0,0)))
 have n2_:=Y0 (HF.out.alloc HF.out.size (.cells #[.string (⟨#[]⟩:ByteArray),.slice none 0 0,.int .i64 (pAt e s)] 68 (0,0)))
 have n3_:=Y0 (EB.new W1 (pAt e s) W.heap.size HF.out.size)
 have HHW:=Y0 HF.out.size
 clear HT HF hc
 generalize W1.alloc (.cells #[.string (⟨#[]⟩:ByteArray),.slice none 0 0,.int .i64 (pAt e s)] 68 (0,0))=V0 at *
 obtain ⟨h,hh⟩:∃ h,W1.heap.size=h:=⟨_,rfl⟩
 rw [hh] at n3_ HHW ⊢
 clear hh
 have HT:=n1_
 have HF:=n2_
 have HM:=n3_
 have hc:=HT.out.par
 clear n1_ n2_ n3_
 go_at_call 88
 refine (take_s 0 HT.out).mono ?_
 rintro en_ V1 ⟨rfl,h1,f1⟩
 have n4_:=Y0 (HM.out.keep f1 HG0.out)
 clear HM
 have HM:=n4_
 clear n4_
 have n1_:=Y0 h1
 have n2_:=Y0 (HF.out.trans (f1.mono HF.out.size))
 clear hc HT HF
 have hc:=h1.par
 have HT:=n1_
 have HF:=n2_
 clear h1 f1 n1_ n2_
 go_wp2_with fail
 go_at_call 88
 refine (take_s 0 HT.out).mono ?_
 rintro en_ V2 ⟨rfl,h1,f1⟩
 have n4_:=Y0 (HM.out.keep f1 HG0.out)
 clear HM
 have HM:=n4_
 clear n4_
 have n1_:=Y0 h1
 have n2_:=Y0 (HF.out.trans (f1.mono HF.out.size))
 clear hc HT HF
 have hc:=h1.par
 have HT:=n1_
 have HF:=n2_
 clear h1 f1 n1_ n2_
 have hph:p≠h:=by have:=HL0.out;have:=HHW.out;omega
 have hhp:=Ne.symm hph
 have z0:_=some (Value.string _):=(blk_cell HM.out.blk 0).trans rfl
 have w0:=blk_frozen HM.out.blk 0
 go_wp2_with fail
 clear z0 w0 hph hhp hc
 rw [HNM.out] at ⊢
 have n1_:=Y0 (HT.out.far (q:=⟨h,0,none⟩) HM.out.ge (.string NM))
 have n2_:=Y0 (HF.out.far (p:=⟨h,0,none⟩) HM.out.ge (.string NM))
 have n3_:=Y0 (HM.out.name NM)
 clear HT HF HM
 generalize V2.setCell ⟨h,0,none⟩ (.string NM)=V3 at *
 have HT:=n1_
 have HF:=n2_
 have HM:=n3_
 have hc:=HT.out.par
 clear n1_ n2_ n3_
 go_at_call 89
 refine (must_s (⟨#[123]⟩:ByteArray) HT.out).mono ?_
 rintro en_ V4 ⟨rfl,h1,f1⟩
 have n4_:=Y0 (HM.out.keep f1 HG0.out)
 clear HM
 have HM:=n4_
 clear n4_
 have n1_:=Y0 h1
 have n2_:=Y0 (HF.out.trans (f1.mono HF.out.size))
 clear hc HT HF
 have hc:=h1.par
 have HT:=n1_
 have HF:=n2_
 clear h1 f1 n1_ n2_
 have hbl:bl (⟨#[123]⟩:ByteArray)=[123]:=rfl
 rw [hbl] at HT
 clear hbl hc
 obtain ⟨S0,hS0⟩:∃ S0,pMust [123] (pTake 0 (pTake 0 s).2).2=S0:=⟨_,rfl⟩
 rw [hS0] at HT HR
 clear hS0
 go_upto_block 0 with (fail)
 go_cut [2] (fun v2 V=>v2 = .pointer (some ⟨h,0,none⟩)∧∃ vV:Value,Aside0 (TS W.heap.size V p g l e r.2)∧Aside0 (EB W.heap.size V h NM r.1 (pAt e s) vV)∧Aside0 (Fr W.heap.size g W V))
 case first =>
  go_wp2
  go_loopg [27] (mu S0) (fun n _ V=>∃ (l1:List ValS) (s1:PS) (A2:Option Addr) (c2:Nat),Aside0 (TS W.heap.size V p g l e s1)∧Aside0 (EB W.heap.size V h NM l1 (pAt e s) (.slice A2 l1.length c2))∧Aside0 (Fr W.heap.size g W V)∧Aside0 (pLoop [125] pVal n l1 e s1=r)∧Aside0 (mu s1≤n∧l1.length + n≤1001))
  case atStart =>
   refine ⟨[],S0,_,_,HT,HM,HF,HR,⟨Nat.le_refl _,?_⟩⟩
   have h2:mu S0≤1001:=by
    unfold mu
    split
    ·omega
    ·have:=HT.out.lens.1;omega
   exact Nat.le_trans (Nat.le_of_eq (Nat.zero_add _)) h2
  case round =>
   clear HT HM HF HR
   obtain ⟨l1,s1,A2,c2,HT,HM,HF,HR,HN⟩:=hrel
   have hc:=HT.out.par
   have hb3:=HT.out.bad
   cases hb:s1.b with
   | true =>
    rw [hb] at hb3
    have HE2:Aside0 (r=(l1,s1)):=⟨by rw [← HR.out];exact pLoop_stay _ _ _ _ _ _ hb⟩
    clear hb HR
    go_wp2
    go_meet
    exact ⟨rfl,_,by rw [HE2.out];exact HT,by rw [HE2.out];exact HM,HF⟩
   | false =>
    rw [hb] at hb3
    cases gk with
    | zero =>
     have:=mu_zero s1 (by have:=HN.out;omega)
     rw [hb] at this
     cases this
    | succ k1 =>
     have HSG:=Y0 (sign_s (⟨#[125]⟩:ByteArray) HT.out)
     have hbl:bl (⟨#[125]⟩:ByteArray)=[125]:=rfl
     rw [hbl] at HSG
     clear hbl
     have hR2:=HR.out
     rw [pLoop,if_neg (by rw [hb];decide)] at hR2
     cases hsg:(pSign [125] s1).1 with
     | true =>
      rw [hsg,if_pos rfl] at hR2
      rw [hsg] at HSG
      have HE2:=Y0 hR2
      clear hsg hR2 HR hb
      go_wp2_with fail
      go_at_call 90
      refine HSG.out.mono ?_
      rintro en_ W4 ⟨rfl,h1,f1⟩
      have n1_:=Y0 h1
      have n2_:=Y0 (HM.out.keep f1 HG0.out)
      have n3_:=Y0 (HF.out.trans (f1.mono HF.out.size))
      clear HT HM HF hc hb3 h1 f1 HSG
      go_wp2
      go_meet
      exact ⟨rfl,_,by rw [← HE2.out];exact n1_,by rw [← HE2.out];exact n2_,n3_⟩
     | false =>
      have hs2:(pSign [125] s1).2=s1:=sign_no _ _ hsg
      rw [hsg,if_neg Bool.false_ne_true] at hR2
      rw [hsg,hs2] at HSG
      have HMU:=Y0 ((val_good l1).mu_lt e s1 hb)
      have HE2:=Y0 hR2
      have HLE:Aside0 ((l1.length + 1) * 32≤140737488355328):=⟨by have:=HN.out;omega⟩
      clear hsg hs2 hR2 HR hb
      go_wp2_with fail
      go_at_call 90
      refine HSG.out.mono ?_
      rintro en_ W4 ⟨rfl,h1,f1⟩
      have n1_:=Y0 h1
      have n2_:=Y0 (HM.out.keep f1 HG0.out)
      have n3_:=Y0 (HF.out.trans (f1.mono HF.out.size))
      clear HT HM HF hc hb3 h1 f1 HSG
      have hc:=n1_.out.par
      go_wp2_with fail
      go_at_call 40
      refine (at_s n1_.out).mono ?_
      rintro en_ W5 ⟨rfl,hd⟩
      have HT:=Y0 (n1_.out.drawn hd)
      have HM:=Y0 (n2_.out.drawn hd)
      have HF:=Y0 (n3_.out.trans (drawn_fr hd W.heap.size g))
      clear n1_ n2_ n3_ hd hc
      have hc:=HT.out.par
      have hcA:∀ o,(W5.alloc o).cell? ⟨p,0,none⟩=some (.pointer (some ⟨g,0,none⟩)):=fun o=>pw_cell_below (below_alloc (Below.refl _ W5) o) hc
      go_wp2_with fail
      clear hcA hc
      have n1_:=Y0 (HT.out.alloc (.cells #[.string (⟨#[]⟩:ByteArray),.int .i64 0,.int .i64 (pAt e s1)] 92 (0,0)))
      have n2_:=Y0 (HM.out.below (below_alloc (Below.refl _ W5) (.cells #[.string (⟨#[]⟩:ByteArray),.int .i64 0,.int .i64 (pAt e s1)] 92 (0,0))))
      have n3_:=Y0 (HF.out.alloc HF.out.size (.cells #[.string (⟨#[]⟩:ByteArray),.int .i64 0,.int .i64 (pAt e s1)] 92 (0,0)))
      have HX:=Y0 (blk_new W5 (.cells #[.string (⟨#[]⟩:ByteArray),.int .i64 0,.int .i64 (pAt e s1)] 92 (0,0)))
      have HVW:=Y0 HF.out.size
      have HVH:Aside0 (W5.heap.size≠h):=⟨Nat.ne_of_gt (blk_lt HM.out.blk)⟩
      have hrr:=Kd.R_alloc (Kd.R_bound HM.out.rV) (.cells #[.string (⟨#[]⟩:ByteArray),.int .i64 0,.int .i64 (pAt e s1)] 92 (0,0))
      have HRV:=Y0 (Kd.R_mono hrr (ok':=fun k=>k≠W5.heap.size) (fun k hk=>Nat.ne_of_lt hk.2.2.1))
      clear HT HM HF hrr
      generalize W5.alloc (.cells #[.string (⟨#[]⟩:ByteArray),.int .i64 0,.int .i64 (pAt e s1)] 92 (0,0))=V6 at *
      obtain ⟨vb,hvb⟩:∃ vb,W5.heap.size=vb:=⟨_,rfl⟩
      rw [hvb] at HX HVW HVH HRV ⊢
      clear hvb
      have HVG:Aside0 (vb≠g):=⟨by have:=HVW.out;have:=HG0.out;omega⟩
      go_at_call 92
      refine (named_s n1_.out).mono ?_
      rintro en_ V7 ⟨rfl,h1,f1⟩
      have HT:=Y0 h1
      have HM:=Y0 (n2_.out.keep f1 HG0.out)
      have HF:=Y0 (n3_.out.trans (f1.mono n3_.out.size))
      have hx:=(f1.block vb (blk_lt HX.out) HVG.out).trans HX.out
      have hrv:=Kd.R_bound HRV.out
      have hrv2:=Kd.R_keep hrv (f1.keep rfl) (fun k hk=>(by have:=hk.2.1;have:=HG0.out;omega))
      have HRV7:=Y0 (Kd.R_mono hrv2 (ok':=fun k=>k≠vb) (fun k hk=>hk.1))
      have x0:=blk_frozen hx 0
      have x1:=blk_frozen hx 1
      have y0:_=some (Value.string _):=(blk_cell hx 0).trans rfl
      have y1:_=some (Value.int .i64 _):=(blk_cell hx 1).trans rfl
      have HX7:=Y0 hx
      clear n1_ n2_ n3_ h1 f1 hx hrv hrv2 HX HRV
      go_upto_region 7 with (fail)
      clear x0 x1 y0 y1
      have n1_:=Y0 ((HT.out.far (q:=⟨vb,0,none⟩) HVW.out (.string (pNamed s1).1.1)).far (q:=⟨vb,1,none⟩) HVW.out (.int .i64 (pNamed s1).1.2))
      have n3_:=Y0 ((HF.out.far (p:=⟨vb,0,none⟩) HVW.out (.string (pNamed s1).1.1)).far (p:=⟨vb,1,none⟩) HVW.out (.int .i64 (pNamed s1).1.2))
      have hb9:=blk_put (cs':=#[.string (pNamed s1).1.1,.int .i64 (pNamed s1).1.2,.int .i64 (pAt e s1)]) (blk_put (cs':=#[.string (pNamed s1).1.1,.int .i64 0,.int .i64 (pAt e s1)]) HX7.out 0 (.string (pNamed s1).1.1) rfl) 1 (.int .i64 (pNamed s1).1.2) rfl
      have hm9:=blk_far (blk_far HM.out.blk (p:=⟨vb,0,none⟩) HVH.out.symm (.string (pNamed s1).1.1)) (p:=⟨vb,1,none⟩) HVH.out.symm (.int .i64 (pNamed s1).1.2)
      have hr9:=Kd.R_mono (R_far2 (R_far2 HRV7.out (j:=0) (u:=.string (pNamed s1).1.1) rfl) (j:=1) (u:=.int .i64 (pNamed s1).1.2) rfl) (ok':=fun _=>True) (fun _ _=>trivial)
      have n2_:=Y0 (EB.mk hm9 hr9 HM.out.ge)
      clear HT HM HF HX7 HRV7 hm9 hr9
      generalize (V7.setCell ⟨vb,0,none⟩ (.string (pNamed s1).1.1)).setCell ⟨vb,1,none⟩ (.int .i64 (pNamed s1).1.2)=V9 at *
      have HT:=n1_
      have HM:=n2_
      have HF:=n3_
      clear n1_ n2_ n3_
      have hk0:V9.cell? ⟨h,1,none⟩=some (.slice A2 l1.length c2):=(blk_cell HM.out.blk 1).trans rfl
      have y0:_=some (Value.string _):=(blk_cell hb9 0).trans rfl
      have y1:_=some (Value.int .i64 _):=(blk_cell hb9 1).trans rfl
      have y2:_=some (Value.int .i64 _):=(blk_cell hb9 2).trans rfl
      clear hb9
      have HS9:=Y0 HF.out.size
      go_wp2_with ((with_reducible refine gate_builtin (b:=.append) (xs:=#[.tmp 57,.tmp 59]) rfl ?_);at_builtin;refine Kd.R_append k92 (w0:=V9) W.heap.size rfl (.tmp 57) (.tmp 59) 66 92 (.agg #[(.string ⟨#[]⟩),(.int .i64 0),(.int .i64 0)]) 32 rfl Tryz.underlying66 info92 rfl (by decide) (by decide) _ l1 ⟨(pNamed s1).1.1,(pNamed s1).1.2,pAt e s1⟩ [.string (pNamed s1).1.1,.int .i64 (pNamed s1).1.2,.int .i64 (pAt e s1)] (fun _=>True) (fun _=>False) rfl rfl (k92_mkM _ _ _ _) (fun _ hk=>hk.elim) (fun _ _=>trivial) HM.out.rV (Below.refl _ _) HS9.out HLE.out ?_;intro v1 w1 hR1 _ hg1 _;obtain ⟨A5,c5,hv1⟩:=Kd.R_slice hR1;have hv2:v1 = .slice A5 (l1.length + 1) c5:=(by rw [hv1,List.length_append];rfl);clear hv1;subst hv2;have HR1:=Y0 hR1;have HG1:=Y0 hg1;clear hR1 hg1;have hf1:=blk_frozen (blk_grow HM.out.rV HM.out.blk (by decide) HG1.out) 1;have hk1:_=some (Value.slice _ _ _):=(blk_cell (blk_grow HM.out.rV HM.out.blk (by decide) HG1.out) 1).trans rfl)
      have n1_:=Y0 ((HT.out.other (grown_below HM.out.rV HG1.out HS9.out)).far (q:=⟨h,1,none⟩) HM.out.ge (.slice A5 (l1.length + 1) c5))
      have n2_:=Y0 (HM.out.appV HR1.out HG1.out)
      have n3_:=Y0 ((HF.out.trans (Fr.of_below (grown_below HM.out.rV HG1.out HS9.out))).far (p:=⟨h,1,none⟩) HM.out.ge (.slice A5 (l1.length + 1) c5))
      clear HT HM HF HR1 HG1 hk0 y0 y1 y2 hf1 hk1
      go_roundg k1
      case measure=>omega
      case rel=>exact ⟨l1++[⟨(pNamed s1).1.1,(pNamed s1).1.2,pAt e s1⟩],_,A5,c5,n1_,⟨by rw [List.length_append];exact n2_.out⟩,n3_,HE2,⟨by have h1:mu (pNamed s1).2 < mu s1:=HMU.out;have:=HN.out;omega,by rw [List.length_append];have:=HN.out;simp only [List.length_cons,List.length_nil];omega⟩⟩
 case rest =>
  obtain ⟨rfl,vV,HT,HM,HF⟩:=hcut
  go_wp2_with fail
  obtain ⟨AV,cV,rfl⟩:=Kd.R_slice HM.out.rV
  have n1_:=Y0 (HP0.out.keep HF.out (show g < B from by have:=HL0.out;omega) (by have:=HL0.out;omega))
  have y0:=(blk_cell HM.out.blk 0).trans rfl
  have y1:=(blk_cell HM.out.blk 1).trans rfl
  have y2:=(blk_cell HM.out.blk 2).trans rfl
  have hp1:=(blk_cell n1_.out.blk 2).trans rfl
  have HP:=Y0 (n1_.out.below (Below.refl _ wc).drew)
  have HTZ:=Y0 (HT0.out.back HT.out HF.out.size)
  have HS1:Aside0 (B≤wc.drew.heap.size):=⟨Nat.le_trans HL0.out.2.1 HF.out.size⟩
  have HFD:=Y0 HF.out.drew
  have HTD:=Y0 HTZ.out.drew
  have HBW:Aside0 (B≤W.heap.size):=⟨HL0.out.2.1⟩
  have HMM:Aside0 (k68.M wc.drew B (fun k=>W.heap.size≤k) (⟨NM,r.1,pAt e s⟩:EnumS) [.string NM,.slice AV r.1.length cV,.int .i64 (pAt e s)]):=⟨k68_mkM _ _ _ _ (Kd.R_lower (Kd.R_mono (Kd.R_bound (Kd.R_drew HM.out.rV)) (fun k hk=>hk.2.1)) HBW.out)⟩
  have HOK:Aside0 (∀ k,W.heap.size≤k→True∧some k≠(Value.slice AE f.2.length cE).ownBlock):=⟨fun k hk=>⟨trivial,fun he=>by have:=Kd.R_lt HP0.out.rE k he.symm;omega⟩⟩
  clear n1_ HT HF HTZ
  refine start_ (n:=13) (S:=fun w'=>w'.cell? ⟨p,2,none⟩=some (.slice AE f.2.length cE)∧w'.cell? ⟨h,0,none⟩=some (.string NM)∧w'.cell? ⟨h,1,none⟩=some (.slice AV r.1.length cV)∧w'.cell? ⟨h,2,none⟩=some (.int .i64 (pAt e s))) (ds:=[8,12]) #[false,false,false,false,false,false,false,false,false,false,false,false,false] (by kernel_rfl) rfl rfl ⟨hp1,y0,y1,y2⟩ (fun hHeld=>?_)
  generalize wc.drew=WD at *
  refine pure_ (i:=0) (N:=some 62) (v:=?_) (a':=?_) (sqB 13 1) rfl rfl (by kernel_rfl) (fun _ _ _ h=>h) (Or.inl ⟨by rfl,?_⟩) ?_ ?_;rotate_left;intro w';go_simp;with_reducible rfl;rotate_left;simp only [Act.put,Y14,Y15,Y16];rfl
  refine pure_ (i:=1) (N:=some 63) (v:=?_) (a':=?_) (sqB 13 3) rfl rfl (by kernel_rfl) (fun _ _ _ h=>h) (Or.inl ⟨by rfl,?_⟩) ?_ ?_;rotate_left;intro w';go_simp;with_reducible rfl;rotate_left;simp only [Act.put,Y14,Y15,Y16];rfl
  refine pure_ (i:=2) (N:=some 64) (v:=?_) (a':=?_) (sqB 13 7) rfl rfl (by kernel_rfl) (fun _ _ _ h=>h) (Or.inl ⟨by rfl,?_⟩) ?_ ?_;rotate_left;intro w';go_simp;with_reducible rfl;rotate_left;simp only [Act.put,Y14,Y15,Y16];rfl
  refine pure_ (i:=3) (N:=some 65) (v:=?_) (a':=?_) (sqB 13 15) rfl rfl (by kernel_rfl) (fun _ _ _ h=>h) (Or.inl ⟨by rfl,?_⟩) ?_ ?_;rotate_left;intro w';go_simp;with_reducible rfl;rotate_left;simp only [Act.put,Y14,Y15,Y16];rfl
  refine pure_ (i:=4) (N:=some 66) (v:=?_) (a':=?_) (sqB 13 31) rfl rfl (by kernel_rfl) (fun _ _ _ h=>h) (Or.inl ⟨by rfl,?_⟩) ?_ ?_;rotate_left;intro w';go_simp;with_reducible rfl;rotate_left;simp only [Act.put,Y14,Y15,Y16];rfl
  refine take_ (i:=5) (N:=some 67) (v:=?_) (a':=?_) (sqB 13 63) rfl rfl (by kernel_rfl) (fun _ _ _ h=>h) (Or.inl ⟨by rfl,?_⟩) hHeld ?_ ?_;rotate_left;rintro w' ⟨s0,s1,s2,s3⟩;go_simp;with_reducible rfl;rotate_left;simp only [Act.put,Y14,Y15,Y16];rfl
  refine take_ (i:=6) (N:=some 68) (v:=?_) (a':=?_) (sqB 13 127) rfl rfl (by kernel_rfl) (fun _ _ _ h=>h) (Or.inl ⟨by rfl,?_⟩) hHeld ?_ ?_;rotate_left;rintro w' ⟨s0,s1,s2,s3⟩;go_simp;with_reducible rfl;rotate_left;simp only [Act.put,Y14,Y15,Y16];rfl
  refine one_ (i:=7) (N:=some 69) (sqB 13 255) rfl rfl (by kernel_rfl) (by decide) (fun K hK=>?_)
  refine value_ (w1:=?_) (v:=?_) (by rfl) rfl ?_ ?_
  rotate_left 2
  ·go_simp
   constructor
   ·rfl
   ·rfl
  refine hK.out _ _ ⟨(pw_cell_below (below_alloc (Below.refl _ _) _) hHeld.1),(pw_cell_below (below_alloc (Below.refl _ _) _) hHeld.2.1),(pw_cell_below (below_alloc (Below.refl _ _) _) hHeld.2.2.1),(pw_cell_below (below_alloc (Below.refl _ _) _) hHeld.2.2.2)⟩ (fun hHeld=>?_)
  clear hK K
  refine norm_ (a':=?_) ?_ ?_;rotate_left;show Act.put _ (some 69) _=_;simp only [Act.put,Y14,Y15,Y16];rfl
  refine last_ (i:=8) (N:=some 70) (sqB 13 511) rfl rfl (by kernel_rfl) (by decide) (fun K hK=>?_)
  refine Kd.R_append_step k68 (w0:=WD) B (by rfl) (.tmp 67) (.tmp 69) 24 68 (.agg #[(.string ⟨#[]⟩),(.slice none 0 0),(.int .i64 0)]) 48 rfl Tryz.underlying24 info68 rfl (by decide) (by decide) _ f.2 ⟨NM,r.1,pAt e s⟩ [.string NM,.slice AV r.1.length cV,.int .i64 (pAt e s)] (fun _=>True) (fun k=>W.heap.size≤k) rfl rfl HMM.out HOK.out (fun _ _=>trivial) HP.out.rE (Below.refl _ _) HS1.out (by have:=HLEN.out;omega) ?_
  intro v1 w1 hR1 _ hg1 _
  obtain ⟨A1,c1,hv1⟩:=Kd.R_slice hR1
  have hv2:v1 = .slice A1 (f.2.length + 1) c1:=by rw [hv1,List.length_append];rfl
  clear hv1
  subst hv2
  have HR1:=Y0 hR1
  have HG1:=Y0 hg1
  clear hR1 hg1
  have hf1:=blk_frozen (blk_grow HP.out.rE HP.out.blk (by decide) HG1.out) 2
  have hk1:=(blk_cell (blk_grow HP.out.rE HP.out.blk (by decide) HG1.out) 2).trans rfl
  refine hK.out _ _ ?_
  clear hK K
  refine norm_ (a':=?_) ?_ ?_;rotate_left;show Act.put _ (some 70) _=_;simp only [Act.put,Y14,Y15,Y16];rfl
  refine pure_ (i:=9) (N:=some 71) (v:=?_) (a':=?_) (sqB 13 1023) rfl rfl (by kernel_rfl) (fun _ _ _ h=>h) (Or.inl ⟨by rfl,?_⟩) ?_ ?_;rotate_left;intro w';go_simp;with_reducible rfl;rotate_left;simp only [Act.put,Y14,Y15,Y16];rfl
  refine pure_ (i:=10) (N:=some 72) (v:=?_) (a':=?_) (sqB 13 2047) rfl rfl (by kernel_rfl) (fun _ _ _ h=>h) (Or.inl ⟨by rfl,?_⟩) ?_ ?_;rotate_left;intro w';go_simp;with_reducible rfl;rotate_left;simp only [Act.put,Y14,Y15,Y16];rfl
  refine pure_ (i:=11) (N:=some 73) (v:=?_) (a':=?_) (sqB 13 4095) rfl rfl (by kernel_rfl) (fun _ _ _ h=>h) (Or.inl ⟨by rfl,?_⟩) ?_ ?_;rotate_left;intro w';go_simp;with_reducible rfl;rotate_left;simp only [Act.put,Y14,Y15,Y16];rfl
  refine last_ (i:=12) (N:=none) (sqB 13 8191) rfl rfl (by kernel_rfl) (by decide) (fun K hK=>?_)
  refine skip_ (w1:=?_) (by rfl) rfl ?_ ?_
  rotate_left
  ·go_simp
   rfl
  refine hK.out _ _ ?_
  clear hK K
  refine done_ (by kernel_rfl) ?_
  go_wp2_with fail
  go_end0
  have hq:=HP.out.appE HR1.out HG1.out
  refine ⟨rfl,(HTD.out.other (grown_below HP.out.rE HG1.out HS1.out)).setp (j:=1) hq.blk rfl,⟨_,_,hq⟩,fun B0 h1 h2 h3=>?_⟩
  exact ((HFD.out.below (Below.refl B0 W) (Nat.le_trans h1 HBW.out) h3).trans ((grown_below HP.out.rE HG1.out HS1.out).mono h1)).setCell (p:=⟨p,2,none⟩) h2 _
def PParseP (w:World) (f:FileS) (at_ en:Int) (e:Ending) (w':World):Prop :=
 ∃ v0 v1:Value,e = .returned (.tuple #[.agg #[v0,v1],.int .i64 at_,.int .i64 en])∧k34.R 34 w' w.heap.size (fun _=>True) v0 f.1∧k68.R 68 w' w.heap.size (fun _=>True) v1 f.2∧Below w.heap.size w w'
theorem pparse_ret {w V:World} {tmps:Array Value} {f:FileS} {a b:Int} {v0 v1:Value} (ht:tmps.getD 2 undef = .pointer (some ⟨w.heap.size,0,none⟩)) (h3:tmps.getD 3 undef = .int .i64 a) (h4:tmps.getD 4 undef = .int .i64 b)
  (hb:V.heap[w.heap.size]?=some (.cells #[v0,v1] 26 (0,0))) (hM:k34.R 34 V w.heap.size (fun _=>True) v0 f.1) (hE:k68.R 68 V w.heap.size (fun _=>True) v1 f.2) (h0:∃ A n c,v0 = .slice A n c) (h1:∃ A n c,v1 = .slice A n c) (hB:Below w.heap.size w V) :
  bodyPost Tryz.prog Tryz.f13 (PParseP w f a b) .ret { tmps:=tmps,defers:=[] } V:=by
 obtain ⟨A,n,c,rfl⟩:=h0
 obtain ⟨A',n',c',rfl⟩:=h1
 refine bodyPost_ret (results_ctt rfl _ _ w.heap.size 26 _ (0,0) _ ht hb Tryz.underlying26 rfl (by kernel_rfl)) rfl ⟨_,_,?_,hM,hE,hB⟩
 rw [h3,h4]
set_option maxRecDepth 100000 in
set_option maxHeartbeats 2000000 in
theorem pparse_err (s:ByteArray) (w:World) (hG:GInv w) (he:(allF s).2.2≠0):Calls Tryz.prog 13 #[.string s] w (PParseP w ([],[]) (allF s).2.1 (allF s).2.2):=by
 have HA:=Y0 (fun (W:World) (h:GInv W)=>token_All.calls s (allF s).1 (allF s).2.1 (allF s).2.2 W h rfl)
 have HG:=Y0 (hG.below (below_alloc (Below.refl _ w) (.cells #[.slice none 0 0,.slice none 0 0] 26 (0,0))))
 have hn:((allF s).2.2 != 0)=true:=bne_iff_ne.2 he
 clear he hG
 generalize (allF s).1=l at *
 generalize (allF s).2.1=p at *
 generalize (allF s).2.2=e at *
 go_enter Tryz.func13,Tryz.ntmps13
 go_wp2_with fail
 go_at_call 36
 refine (HA.out _ HG.out).mono ?_
 rintro e1 W1 ⟨v0,rfl,hR,hB⟩
 have hb0:=blk_below (blk_new w (.cells #[.slice none 0 0,.slice none 0 0] 26 (0,0))) hB
 have q0:_=some (Value.slice none 0 0):=(blk_cell hb0 0).trans rfl
 have q1:_=some (Value.slice none 0 0):=(blk_cell hb0 1).trans rfl
 have f0:=blk_frozen hb0 0
 have f1:=blk_frozen hb0 1
 have HB0:=Y0 hb0
 have HB:=Y0 (below_step (below_alloc (Below.refl _ w) _) hB)
 clear hR hB hb0
 go_wp2
 have k1:=blk_put (blk_put HB0.out 0 (.slice none 0 0) rfl) 1 (.slice none 0 0) rfl
 have k2:=(HB.out.setCell (p:=⟨w.heap.size,0,none⟩) (Nat.le_refl _) (.slice none 0 0)).setCell (p:=⟨w.heap.size,1,none⟩) (Nat.le_refl _) (.slice none 0 0)
 refine pparse_ret (f:=([],[])) ?_ ?_ ?_ k1 (Kd.R_nil _ _ _ _ _) (Kd.R_nil _ _ _ _ _) ⟨_,_,_,rfl⟩ ⟨_,_,_,rfl⟩ k2
 ·rfl
 ·rfl
 ·rfl
def PLoopI (w:World) (B p g:Nat) (L:TL) (e:Int) (f:FileS) (s:PS) (V:World):Prop:=TS B V p g L e s∧(∃ vM vE,PB B V p g f vM vE)∧Below (w.heap.size + 1) (w.alloc (.cells #[.slice none 0 0,.slice none 0 0] 26 (0,0))) V
theorem PLoopI.drawn {w V V':World} {B p g:Nat} {L:TL} {e:Int} {f:FileS} {s:PS} (h:PLoopI w B p g L e f s V) (hd:Drawn0 V V'):PLoopI w B p g L e f s V':=by
 obtain ⟨h1,⟨vM,vE,h2⟩,h3⟩:=h
 refine ⟨h1.drawn hd,⟨vM,vE,h2.below hd.below⟩,h3.trans ?_⟩
 obtain ⟨m,rfl⟩:=hd.out
 exact pw_below_drewN (Below.refl _ _) m
theorem PLoopI.drewN {w V:World} {B p g:Nat} {L:TL} {e:Int} {f:FileS} {s:PS} (h:PLoopI w B p g L e f s V) (m:Nat):PLoopI w B p g L e f s (V.drewN m):=h.drawn ((Drawn0.refl V).step m)
theorem PLoopI.setb {w V:World} {B p g:Nat} {L:TL} {e:Int} {f:FileS} {s:PS} (h:PLoopI w B p g L e f s V) (hg:w.heap.size + 1≤g):PLoopI w B p g L e f ⟨s.r,true⟩ (V.setCell ⟨g,3,none⟩ (.bool true)):=by
 obtain ⟨h1,⟨vM,vE,h2⟩,h3⟩:=h
 have hl:=h1.lens
 exact ⟨h1.setb,⟨vM,vE,h2.keep ((Fr.refl _ g V).set_ 3 _) hl.2.2.2.1 hl.2.2.2.2⟩,h3.setCell (p:=⟨g,3,none⟩) hg _⟩
theorem PLoopI.whole {w V:World} {B p g:Nat} {L:TL} {e:Int} {f:FileS} {s:PS} (h:PLoopI w B p g L e f s V):Below w.heap.size w V:=(below_alloc (Below.refl _ w) _).trans (h.2.2.mono (Nat.le_succ _))
theorem trow_of_C {W:World} {A:Option Addr} {l:List TokS} (h:k149.C W A l.length l):TRow W A l:=by
 intro j t hj
 have hlt:j < l.length:=(List.getElem?_eq_some_iff.1 hj).1
 obtain ⟨ad,ha,h0,h1,h2,h3⟩:=at_T149 h (j:Int) (by omega) (by omega)
 rw [rd_at l j t hj,Int.toNat_natCast] at h0 h1 h2 h3
 exact ⟨ad,ha,h0,h1,h2,h3⟩
theorem trow_below {W W':World} {A:Option Addr} {l:List TokS} (h:TRow W A l) (hb:Below W.heap.size W W'):TRow W' A l:=by
 intro j t hj
 obtain ⟨ad,ha,h0,h1,h2,h3⟩:=h j t hj
 exact ⟨ad,ha,pw_cell_below hb h0,pw_cell_below hb h1,pw_cell_below hb h2,pw_cell_below hb h3⟩
theorem top1_bad (f:FileS) (e:Int) (s:PS):(pTop1 f e s).1.1.length + (pTop1 f e s).1.2.length≤f.1.length + f.2.length + 1:=by
 unfold pTop1
 split
 ·simp;omega
 ·split
  ·simp;omega
  ·simp
theorem pTop_done (n:Nat) (f:FileS) (e:Int) (s:PS) (h:s.b=true∨s.r=[]):pTop n f e s=(f,s):=by
 cases n with
 | zero=>rfl
 | succ n =>
  rw [pTop]
  rcases h with h|h
  ·rw [if_pos h]
  ·by_cases hb:s.b=true
   ·rw [if_pos hb]
   ·rw [if_neg hb,if_pos h]
set_option maxRecDepth 100000 in
set_option maxHeartbeats 4000000 in
theorem pparse_ok (s:ByteArray) (l:List TokS) (q:Int) (w:World) (hG:GInv w) (hA:token_All.f s=some (l,q,0)) (hl:l.length≤1000) (hs:s.size≤140737488351232):Calls Tryz.prog 13 #[.string s] w
  (PParseP w (if (pAll s.size l).2.b=true then ([],[]) else (pAll s.size l).1) (if (pAll s.size l).2.b=true then pAt s.size (pAll s.size l).2 else s.size) (if (pAll s.size l).2.b=true then 4 else 0)):=by
 have HA:=Y0 (fun (W:World) (h:GInv W)=>token_All.calls s l q 0 W h hA)
 have HG:=Y0 (hG.below (below_alloc (Below.refl _ w) (.cells #[.slice none 0 0,.slice none 0 0] 26 (0,0))))
 obtain ⟨e,he⟩:∃ e:Int,(s.size:Int)=e:=⟨_,rfl⟩
 have HE:=Y0 he
 obtain ⟨R,hR⟩:∃ R,pAll s.size l=R:=⟨_,rfl⟩
 have HR:Aside0 (pTop (l.length + 1) ([],[]) e ⟨l,false⟩=R):=⟨by rw [← he];exact hR⟩
 rw [hR]
 obtain ⟨ff,hff⟩:∃ ff:FileS,(if R.2.b=true then (([],[]):FileS) else R.1)=ff:=⟨_,rfl⟩
 obtain ⟨fa,hfa⟩:∃ fa:Int,(if R.2.b=true then pAt s.size R.2 else s.size)=fa:=⟨_,rfl⟩
 obtain ⟨fe,hfe⟩:∃ fe:Int,(if R.2.b=true then 4 else 0)=fe:=⟨_,rfl⟩
 rw [hff,hfa,hfe]
 have HFF:=Y0 hff
 have HFA:=Y0 hfa
 have HFE:=Y0 hfe
 clear hG hA hR he hff hfa hfe
 go_enter Tryz.func13,Tryz.ntmps13
 go_wp2_with fail
 go_at_call 36
 refine (HA.out _ HG.out).mono ?_
 rintro e1 W1 ⟨v0,rfl,hR,hB⟩
 have HB:=Y0 hB
 have HRT:=Y0 hR
 obtain ⟨A,c,rfl⟩:=Kd.R_slice hR
 clear hR hB HA
 go_upto_block 0 with (fail)
 have hz1:(w.alloc (.cells #[.slice none 0 0,.slice none 0 0] 26 (0,0))).heap.size=w.heap.size + 1:=World.size_alloc ..
 have hz2:(W1.alloc (.cells #[.slice A l.length c,.int .i64 (s.size:Int),.int .i64 0,.bool false] 77 (0,0))).heap.size=W1.heap.size + 1:=World.size_alloc ..
 have hb1:=below_alloc (Below.refl _ W1) (.cells #[.slice A l.length c,.int .i64 (s.size:Int),.int .i64 0,.bool false] 77 (0,0))
 have hn1:=blk_new W1 (.cells #[.slice A l.length c,.int .i64 (s.size:Int),.int .i64 0,.bool false] 77 (0,0))
 generalize W1.alloc (.cells #[.slice A l.length c,.int .i64 (s.size:Int),.int .i64 0,.bool false] 77 (0,0))=W2 at *
 have hz3:(W2.alloc (.cells #[.pointer (some ⟨W1.heap.size,0,none⟩),.slice none 0 0,.slice none 0 0] 79 (0,0))).heap.size=W2.heap.size + 1:=World.size_alloc ..
 have hb2:=below_alloc (Below.refl _ W2) (.cells #[.pointer (some ⟨W1.heap.size,0,none⟩),.slice none 0 0,.slice none 0 0] 79 (0,0))
 have hn2:=blk_new W2 (.cells #[.pointer (some ⟨W1.heap.size,0,none⟩),.slice none 0 0,.slice none 0 0] 79 (0,0))
 have hn3:=blk_below hn1 hb2
 generalize W2.alloc (.cells #[.pointer (some ⟨W1.heap.size,0,none⟩),.slice none 0 0,.slice none 0 0] 79 (0,0))=V0 at *
 rw [hz2] at hn2 hz3
 obtain ⟨p,hp⟩:∃ p,W1.heap.size + 1=p:=⟨_,rfl⟩
 obtain ⟨g,hg⟩:∃ g,W1.heap.size=g:=⟨_,rfl⟩
 rw [hp] at hn2 hz3 ⊢
 rw [hg] at hn2 hn3 ⊢
 have hbW:=below_step hb1 (hb2)
 have hlw:w.heap.size + 1≤g:=by have:=HB.out.size;rw [hz1] at this;omega
 have HLW:=Y0 hlw
 have HPG:Aside0 (p=g + 1):=⟨by omega⟩
 have HZ0:Aside0 (V0.heap.size=g + 2):=⟨by omega⟩
 have hts:TS V0.heap.size V0 p g ⟨l,A,c⟩ e ⟨l,false⟩:=by
  refine ⟨0,rfl,?_,?_,?_,?_,?_,?_,?_,hl,Nat.zero_le _,(Kd.R_reads' HRT.out).2.1,Nat.le_refl _⟩
  ·rw [← HE.out];exact hn3
  ·exact (blk_cell hn2 0).trans rfl
  ·exact trow_below (trow_of_C (Kd.R_reads' HRT.out).2.2) hbW
  ·omega
  ·omega
  ·omega
  ·intro ad ha
   have:=Kd.R_lt HRT.out ad.block (by rw [show A=some ad from ha];rfl)
   exact ⟨by omega,by omega,by omega⟩
 have hpb:PB V0.heap.size V0 p g ([],[]) (.slice none 0 0) (.slice none 0 0):=⟨hn2,Kd.R_nil _ _ _ _ _,Kd.R_nil _ _ _ _ _⟩
 have hbl:Below (w.heap.size + 1) (w.alloc (.cells #[.slice none 0 0,.slice none 0 0] 26 (0,0))) V0:=by
  have h1:=HB.out.mono (Nat.le_of_eq hz1.symm)
  exact h1.trans (hbW.mono (by omega))
 have HI:=Y0 (show PLoopI w V0.heap.size p g ⟨l,A,c⟩ e ([],[]) ⟨l,false⟩ V0 from ⟨hts,⟨_,_,hpb⟩,hbl⟩)
 clear hz1 hz2 hz3 hb1 hb2 hn1 hn2 hn3 hts hpb hbl hbW hp hg HB HRT hlw HG
 obtain ⟨B,hB⟩:∃ B,V0.heap.size=B:=⟨_,rfl⟩
 rw [hB] at HI HZ0
 clear hB
 obtain ⟨L,hL⟩:∃ L,(⟨l,A,c⟩:TL)=L:=⟨_,rfl⟩
 rw [hL] at HI
 clear hL
 go_cut [8] (fun v8 V=>v8 = .pointer (some ⟨p,0,none⟩)∧Aside0 (PLoopI w B p g L e R.1 R.2 V))
 case first =>
  go_wp2
  go_loopg [27] (l.length + 1) (fun n _ V=>∃ (f1:FileS) (s1:PS),Aside0 (PLoopI w B p g L e f1 s1 V)∧Aside0 (pTop n f1 e s1=R)∧Aside0 (mu s1≤n∧f1.1.length + f1.2.length + n≤2000))
  case atStart=>exact ⟨([],[]),⟨l,false⟩,HI,HR,⟨Nat.le_refl _,by simp;omega⟩⟩
  case round =>
   clear HI HR
   obtain ⟨f1,s1,HI,HR,HN⟩:=hrel
   have hc:=HI.out.1.par
   obtain ⟨k,hr,hk⟩:=HI.out.1
   have c0:_=some (Value.slice _ _ _):=(blk_cell hk.blk 0).trans rfl
   have c2:_=some (Value.int .i64 _):=(blk_cell hk.blk 2).trans rfl
   have c3:_=some (Value.bool _):=(blk_cell hk.blk 3).trans rfl
   have hkn:=hk.hn
   have hll:=hk.len
   have HRR:=Y0 hr
   clear hr hk
   cases hb:s1.b with
   | true =>
    rw [hb] at c3
    have HX:Aside0 (R=(f1,s1)):=⟨by rw [← HR.out];exact pTop_done _ _ _ _ (.inl hb)⟩
    clear hb HR
    go_wp2
    go_quiet (fail)
    go_wp2
    go_meet
    exact ⟨rfl,⟨by rw [HX.out];exact PLoopI.drewN HI.out _⟩⟩
   | false =>
    rw [hb] at c3
    by_cases hlt:k < L.l.length
    ·have d1:decide ((k:Int) < (L.l.length:Int))=true:=decide_eq_true (by omega)
     have d2:decide (k < L.l.length)=true:=decide_eq_true hlt
     have hne:s1.r≠[]:=by rw [HRR.out,drop_here hlt];exact List.cons_ne_nil _ _
     cases gk with
     | zero =>
      have:=mu_zero s1 (by have:=HN.out;omega)
      rw [hb] at this
      cases this
     | succ k1 =>
      have hR2:=HR.out
      rw [pTop,if_neg (by rw [hb];decide),if_neg hne] at hR2
      have HX:=Y0 hR2
      have HMU:=Y0 ((top1_good f1).mu_lt e s1 hb)
      have HSZ:=Y0 (top1_bad f1 e s1)
      clear hR2 HR hne hb
      go_wp2
      go_quiet (fail)
      have HI2:=Y0 (PLoopI.drewN HI.out nq)
      clear HI hc c0 c2 c3 d1 d2 hkn hll
      generalize wr.drewN nq=V1 at *
      have hc:=HI2.out.1.par
      by_cases hm:pIs 0 0 wMsg s1=true
      ·have H1:=Y0 (show pIs 0 0 (bl ⟨#[109,101,115,115,97,103,101]⟩) s1=true from hm)
       have HT1:Aside0 (pTop1 f1 e s1=((f1.1++[(pMsg e s1).1],f1.2),(pMsg e s1).2)):=⟨by unfold pTop1;rw [if_pos hm]⟩
       clear hm
       rw [HT1.out] at HX HMU HSZ
       go_wp2_with fail
       go_at_call 37
       refine (is0_b HI2.out.1 H1.out).mono ?_
       rintro en_ V2 ⟨rfl,hd⟩
       have HI3:=Y0 (PLoopI.drawn HI2.out hd)
       clear hc hd HI2
       go_wp2_with fail
       go_at_call 38
       obtain ⟨vM,vE,hpb⟩:=HI3.out.2.1
       refine (message_s HI3.out.1 hpb (by have:=HN.out;omega)).mono ?_
       rintro en_ V3 ⟨rfl,h1,h2,h3⟩
       have HI4:=Y0 (show PLoopI w B p g L e (f1.1++[(pMsg e s1).1],f1.2) (pMsg e s1).2 V3 from ⟨h1,h2,HI3.out.2.2.trans (h3 _ (by have:=HZ0.out;have:=HLW.out;omega) (by have:=HPG.out;have:=HLW.out;omega) HLW.out)⟩)
       clear h1 h2 h3 hpb HI3
       go_wp2_with fail
       go_roundg k1
       case measure=>omega
       case rel=>exact ⟨_,_,HI4,HX,⟨by have h1:=HMU.out;have h2:=HN.out;(try dsimp only at h1 ⊢);omega,by have h1:=HSZ.out;have h2:=HN.out;(try dsimp only at h1 ⊢);omega⟩⟩
      ·have H1:=Y0 (show pIs 0 0 (bl ⟨#[109,101,115,115,97,103,101]⟩) s1=false from Bool.eq_false_iff.2 hm)
       by_cases hen:pIs 0 0 wEnum s1=true
       ·have H2:=Y0 (show pIs 0 0 (bl ⟨#[101,110,117,109]⟩) s1=true from hen)
        have HT1:Aside0 (pTop1 f1 e s1=((f1.1,f1.2++[(pEnum e s1).1]),(pEnum e s1).2)):=⟨by unfold pTop1;rw [if_neg hm,if_pos hen]⟩
        clear hm hen
        rw [HT1.out] at HX HMU HSZ
        go_wp2_with fail
        go_at_call 37
        refine (is0_b HI2.out.1 H1.out).mono ?_
        rintro en_ V2 ⟨rfl,hd⟩
        have HI3:=Y0 (PLoopI.drawn HI2.out hd)
        clear hc hd HI2
        have hc:=HI3.out.1.par
        go_wp2_with fail
        go_at_call 37
        refine (is0_b HI3.out.1 H2.out).mono ?_
        rintro en_ V4 ⟨rfl,hd⟩
        have HI5:=Y0 (PLoopI.drawn HI3.out hd)
        clear hc hd HI3
        go_wp2_with fail
        go_at_call 39
        obtain ⟨vM,vE,hpb⟩:=HI5.out.2.1
        refine (enum_s HI5.out.1 hpb (by have:=HN.out;omega)).mono ?_
        rintro en_ V3 ⟨rfl,h1,h2,h3⟩
        have HI4:=Y0 (show PLoopI w B p g L e (f1.1,f1.2++[(pEnum e s1).1]) (pEnum e s1).2 V3 from ⟨h1,h2,HI5.out.2.2.trans (h3 _ (by have:=HZ0.out;have:=HLW.out;omega) (by have:=HPG.out;have:=HLW.out;omega) HLW.out)⟩)
        clear h1 h2 h3 hpb HI5
        go_wp2_with fail
        go_roundg k1
        case measure=>omega
        case rel=>exact ⟨_,_,HI4,HX,⟨by have h1:=HMU.out;have h2:=HN.out;(try dsimp only at h1 ⊢);omega,by have h1:=HSZ.out;have h2:=HN.out;(try dsimp only at h1 ⊢);omega⟩⟩
       ·have H2:=Y0 (show pIs 0 0 (bl ⟨#[101,110,117,109]⟩) s1=false from Bool.eq_false_iff.2 hen)
        have HT1:Aside0 (pTop1 f1 e s1=(f1,⟨s1.r,true⟩)):=⟨by unfold pTop1;rw [if_neg hm,if_neg hen]⟩
        clear hm hen
        rw [HT1.out] at HX HMU HSZ
        go_wp2_with fail
        go_at_call 37
        refine (is0_b HI2.out.1 H1.out).mono ?_
        rintro en_ V2 ⟨rfl,hd⟩
        have HI3:=Y0 (PLoopI.drawn HI2.out hd)
        clear hc hd HI2
        have hc:=HI3.out.1.par
        go_wp2_with fail
        go_at_call 37
        refine (is0_b HI3.out.1 H2.out).mono ?_
        rintro en_ V4 ⟨rfl,hd⟩
        have HI5:=Y0 (PLoopI.drawn HI3.out hd)
        clear hc hd HI3
        have hc:=HI5.out.1.par
        have c3:=HI5.out.1.bad
        have f3:V4.frozen? ⟨g,3,none⟩=false:=by obtain ⟨n_,_,hh⟩:=HI5.out.1;exact blk_frozen hh.blk 3
        go_wp2_with fail
        have HI4:=Y0 (PLoopI.setb HI5.out (by have:=HLW.out;omega))
        go_roundg k1
        case measure=>omega
        case rel=>exact ⟨_,_,HI4,HX,⟨by have h1:=HMU.out;have h2:=HN.out;(try dsimp only at h1 ⊢);omega,by have h1:=HSZ.out;have h2:=HN.out;(try dsimp only at h1 ⊢);omega⟩⟩
    ·have d1:decide ((k:Int) < (L.l.length:Int))=false:=decide_eq_false (by omega)
     have d2:decide (k < L.l.length)=false:=decide_eq_false hlt
     have HX:Aside0 (R=(f1,s1)):=⟨by rw [← HR.out];exact pTop_done _ _ _ _ (.inr (by rw [HRR.out,List.drop_of_length_le (by omega)]))⟩
     clear hb HR
     go_wp2
     go_quiet (fail)
     go_wp2
     go_meet
     exact ⟨rfl,⟨by rw [HX.out];exact PLoopI.drewN HI.out _⟩⟩
 case rest =>
  obtain ⟨rfl,HI⟩:=hcut
  have hc:=HI.out.1.par
  have c3:=HI.out.1.bad
  have HRB:=Y0 ((HI.out.2.2.block w.heap.size (Nat.lt_succ_self _)).trans (blk_new w (.cells #[.slice none 0 0,.slice none 0 0] 26 (0,0))))
  cases hb:R.2.b with
  | true =>
   rw [hb] at c3
   have H1:Aside0 (([],[])=ff):=⟨by rw [← HFF.out,if_pos hb]⟩
   have H2:Aside0 (pAt e R.2=fa):=⟨by rw [← HFA.out,if_pos hb,HE.out]⟩
   have H3:Aside0 ((4:Int)=fe):=⟨by rw [← HFE.out,if_pos hb]⟩
   clear hb
   go_wp2_with fail
   go_at_call 40
   refine (at_s HI.out.1).mono ?_
   rintro en_ V2 ⟨rfl,hd⟩
   have HI3:=Y0 (PLoopI.drawn HI.out hd)
   have hb0:V2.heap[w.heap.size]?=_:=(by obtain ⟨m_,rfl⟩:=hd.out;exact HRB.out)
   have q0:_=some (Value.slice none 0 0):=(blk_cell hb0 0).trans rfl
   have q1:_=some (Value.slice none 0 0):=(blk_cell hb0 1).trans rfl
   have f0:=blk_frozen hb0 0
   have f1:=blk_frozen hb0 1
   have HB0:=Y0 hb0
   clear hd hc c3 hb0
   go_wp2
   have k1:=blk_put (blk_put HB0.out 0 (.slice none 0 0) rfl) 1 (.slice none 0 0) rfl
   have hbw:=PLoopI.whole HI3.out
   have k2:=(hbw.setCell (p:=⟨w.heap.size,0,none⟩) (Nat.le_refl _) (.slice none 0 0)).setCell (p:=⟨w.heap.size,1,none⟩) (Nat.le_refl _) (.slice none 0 0)
   rw [← H1.out,← H2.out,← H3.out]
   refine pparse_ret (f:=([],[])) ?_ ?_ ?_ k1 (Kd.R_nil _ _ _ _ _) (Kd.R_nil _ _ _ _ _) ⟨_,_,_,rfl⟩ ⟨_,_,_,rfl⟩ k2
   ·rfl
   ·rfl
   ·rfl
  | false =>
   rw [hb] at c3
   have H1:Aside0 (R.1=ff):=⟨by rw [← HFF.out,if_neg (by rw [hb];decide)]⟩
   have H2:Aside0 (e=fa):=⟨by rw [← HFA.out,if_neg (by rw [hb];decide),HE.out]⟩
   have H3:Aside0 ((0:Int)=fe):=⟨by rw [← HFE.out,if_neg (by rw [hb];decide)]⟩
   clear hb
   obtain ⟨vM,vE,hpb⟩:=HI.out.2.1
   obtain ⟨AM,cM,rfl⟩:=Kd.R_slice hpb.rM
   obtain ⟨AE,cE,rfl⟩:=Kd.R_slice hpb.rE
   have p1:wc.cell? ⟨p,1,none⟩=some (.slice AM R.1.1.length cM):=(blk_cell hpb.blk 1).trans rfl
   have p2:wc.cell? ⟨p,2,none⟩=some (.slice AE R.1.2.length cE):=(blk_cell hpb.blk 2).trans rfl
   have q0:wc.cell? ⟨w.heap.size,0,none⟩=some (.slice none 0 0):=(blk_cell HRB.out 0).trans rfl
   have q1:wc.cell? ⟨w.heap.size,1,none⟩=some (.slice none 0 0):=(blk_cell HRB.out 1).trans rfl
   have f0:=blk_frozen HRB.out 0
   have f1:=blk_frozen HRB.out 1
   have HPB:=Y0 hpb
   clear hpb
   go_wp2
   have k0:=blk_put (cs':=#[.slice AM R.1.1.length cM,.slice none 0 0]) HRB.out 0 (.slice AM R.1.1.length cM) rfl
   have k1:=blk_put (cs':=#[.slice AM R.1.1.length cM,.slice AE R.1.2.length cE]) k0 1 (.slice AE R.1.2.length cE) rfl
   have k2:=((PLoopI.whole HI.out).setCell (p:=⟨w.heap.size,0,none⟩) (Nat.le_refl _) (.slice AM R.1.1.length cM)).setCell (p:=⟨w.heap.size,1,none⟩) (Nat.le_refl _) (.slice AE R.1.2.length cE)
   have hwB:w.heap.size≤B:=by have:=HZ0.out;have:=HLW.out;omega
   rw [← H1.out]
   refine pparse_ret (f:=R.1) ?_ ?_ ?_ k1 (Kd.R_lower (Kd.R_set (Kd.R_set HPB.out.rM HRB.out (by decide) 0 _) k0 (by decide) 1 _) hwB) (Kd.R_lower (Kd.R_set (Kd.R_set HPB.out.rE HRB.out (by decide) 0 _) k0 (by decide) 1 _) hwB) ⟨_,_,_,rfl⟩ ⟨_,_,_,rfl⟩ k2
   ·rfl
   ·show Value.int .i64 (s.size:Int) = .int .i64 fa
    rw [← H2.out,HE.out]
   ·show Value.int .i64 0 = .int .i64 fe
    rw [← H3.out]
def proto_Parse.f (a0:ByteArray):Option (List (S34) × List (S68) × Int × Int):=some ((parseF a0).1.1,(parseF a0).1.2,(parseF a0).2.1,(parseF a0).2.2)
theorem proto_Parse.calls (a0:ByteArray) (r1:List (S34)) (r2:List (S68)) (r3 r4:Int) (w:World) (hG:GInv w) (h:proto_Parse.f a0=some (r1,r2,r3,r4)) :
  Calls Tryz.prog 13 #[.string a0] w fun e w'=>∃ v0_ v1_:Value,e = .returned (.tuple #[.agg #[v0_,v1_],.int .i64 r3,.int .i64 r4])∧Kd.R k34 34 w' w.heap.size (fun _=>True) v0_ r1∧Kd.R k68 68 w' w.heap.size (fun _=>True) v1_ r2∧Below w.heap.size w w':=by
 have hp:Calls Tryz.prog 13 #[.string a0] w (PParseP w (parseF a0).1 (parseF a0).2.1 (parseF a0).2.2):=by
  by_cases he:(allF a0).2.2=0
  ·have hsz:a0.size≤5000:=by
    by_cases hb:5000 < a0.size
    ·exact absurd he (allF_big a0 hb)
    ·omega
   have e:parseF a0=(if (pAll a0.size (allF a0).1).2.b=true then ([],[]) else (pAll a0.size (allF a0).1).1,if (pAll a0.size (allF a0).1).2.b=true then pAt a0.size (pAll a0.size (allF a0).1).2 else a0.size,if (pAll a0.size (allF a0).1).2.b=true then 4 else 0):=by
    unfold parseF
    rw [if_neg (by rw [he];decide)]
    by_cases hb:(pAll a0.size (allF a0).1).2.b=true
    ·rw [if_pos hb,if_pos hb,if_pos hb,if_pos hb]
    ·rw [if_neg hb,if_neg hb,if_neg hb,if_neg hb]
   rw [e]
   refine pparse_ok a0 (allF a0).1 (allF a0).2.1 w hG ?_ (allF_len a0) (by omega)
   unfold token_All.f
   rw [← he]
  ·have e:parseF a0=(([],[]),(allF a0).2.1,(allF a0).2.2):=by unfold parseF;rw [if_pos he]
   rw [e]
   exact pparse_err a0 w hG he
 unfold proto_Parse.f at h
 simp only [Option.some.injEq,Prod.mk.injEq] at h
 obtain ⟨rfl,rfl,rfl,rfl⟩:=h
 exact hp
def GM {κ β:Type} (kt:TypeId) (kl:κ→Lit) (R:Value→Option (DataW Unit × List MemPlace)) (enc:β→DataW Unit) (W:World) (mb n:Nat) (f:κ→Option β):Prop :=
 ∃ D,W.ownsMap Tryz.prog kt R mb n D∧∀ x z,D.atKey (kl x) z=((f x).map enc).getD z
structure KeyK {κ:Type} (kt:TypeId) (kl:κ→Lit):Prop where
 keyed:Maps.Keyed Tryz.prog kt
 inj:∀ x y,kl x=kl y→x=y
 lit:∀ x,WideAt.IsKeyLit (kl x)
 all:∀ l,Maps.KeysOf Tryz.prog kt l→∃ x,l=kl x
section
variable {κ β:Type} {kt:TypeId} {kl:κ→Lit} {R:Value→Option (DataW Unit × List MemPlace)} {enc:β→DataW Unit} {W:World} {mb n:Nat} {f:κ→Option β}
theorem GM.made (W:World):GM kt kl R enc (W.alloc (.map #[] 0)) W.heap.size 0 (fun _=>none):=⟨.map [],World.ownsMap_made _ _ _ _,fun _ _=>rfl⟩
theorem GM.is (h:GM kt kl R enc W mb n f):∃ es c,W.heap[mb]?=some (.map es c):=by
 obtain ⟨D,⟨es,c,hb,_⟩,_⟩:=h
 exact ⟨es,c,hb⟩
theorem GM.lt (h:GM kt kl R enc W mb n f):mb < W.heap.size:=by
 obtain ⟨D,hD,_⟩:=h
 exact hD.lt
theorem GM.move {W':World} (h:GM kt kl R enc W mb n f) (hb:W'.heap[mb]?=W.heap[mb]?):GM kt kl R enc W' mb n f:=by
 obtain ⟨D,⟨es,c,h1,h2⟩,h3⟩:=h
 exact ⟨D,⟨es,c,hb.trans h1,h2⟩,h3⟩
theorem GM.below {W':World} (h:GM kt kl R enc W mb n f) (hb:Below W.heap.size W W'):GM kt kl R enc W' mb n f:=h.move (hb.block mb h.lt)
theorem GM.grown {W':World} {row:Option Nat} (h:GM kt kl R enc W mb n f) (hg:W.grownBy W' row) (hne:some mb≠row):GM kt kl R enc W' mb n f:=h.move (hg.block mb h.lt hne)
theorem GM.mono {n':Nat} {f':κ→Option β} (h:GM kt kl R enc W mb n f) (hn:n≤n') (hf:∀ x,f x=f' x):GM kt kl R enc W mb n' f':=by
 obtain ⟨D,hD,h3⟩:=h
 exact ⟨D,hD.mono hn,fun x z=>by rw [h3,hf]⟩
theorem GM.has {D:DataW Unit} (h:∀ x z,D.atKey (kl x) z=((f x).map enc).getD z) (x:κ):Maps.has D (kl x)=(f x).isSome:=by
 cases hf:f x with
 | none=>exact Maps.has_false_of_atKey fun z=>by rw [h,hf];rfl
 | some y=>exact Maps.has_true_of_atKey (y:=enc y) fun z=>by rw [h,hf];rfl
theorem GM.look {t e:TypeId} (h:GM kt kl R enc W mb n f) (K:KeyK kt kl) (ht:Tryz.prog.underlying t=some (.map kt e)) {z:Value} (hz:(zeroValue e).run Tryz.prog W = .ok z W) {zd:DataW Unit} {zp:List MemPlace} (hzd:R z=some (zd,zp)) {key:Value} {x:κ} (hkey:keyOf Tryz.prog kt key=some (kl x)) :
  ∃ v ps,(Instr.lookup t (.map (some mb)) key false).run Tryz.prog W = .ok v W∧R v=some (((f x).map enc).getD zd,ps):=by
 obtain ⟨D,hD,hf⟩:=h
 obtain ⟨v,ps,h1,h2⟩:=hD.lookup K.keyed ht hz hzd hkey
 exact ⟨v,ps,h1,by rw [h2,hf]⟩
theorem GM.look_ok {t e:TypeId} (h:GM kt kl R enc W mb n f) (K:KeyK kt kl) (ht:Tryz.prog.underlying t=some (.map kt e)) {z:Value} (hz:(zeroValue e).run Tryz.prog W = .ok z W) {zd:DataW Unit} {zp:List MemPlace} (hzd:R z=some (zd,zp)) {key:Value} {x:κ} (hkey:keyOf Tryz.prog kt key=some (kl x)) :
  ∃ v ps,(Instr.lookup t (.map (some mb)) key true).run Tryz.prog W = .ok (.tuple #[v,.bool (f x).isSome]) W∧R v=some (((f x).map enc).getD zd,ps):=by
 obtain ⟨D,hD,hf⟩:=h
 obtain ⟨v,ps,h1,h2⟩:=hD.look_ok K.keyed ht hz hzd hkey
 rw [GM.has hf] at h1
 exact ⟨v,ps,h1,by rw [h2,hf]⟩
theorem GM.put [DecidableEq κ] {t e:TypeId} (h:GM kt kl R enc W mb n f) (K:KeyK kt kl) (ht:Tryz.prog.underlying t=some (.map kt e)) (hn:n < maxLen) {key val:Value} {x:κ} {y:β} {ps:List MemPlace} (hkey:keyOf Tryz.prog kt key=some (kl x)) (hv:R val=some (enc y,ps)) :
  ∃ W',(Instr.mapUpdate t (.map (some mb)) key val).run Tryz.prog W = .ok () W'∧GM kt kl R enc W' mb (n + 1) (fun q=>if q=x then some y else f q)∧W.grownBy W' (some mb):=by
 obtain ⟨D,hD,hf⟩:=h
 obtain ⟨W',h1,h2,h3⟩:=hD.update K.keyed ht hn hkey hv
 refine ⟨W',h1,⟨_,h2,fun q z=>?_⟩,h3⟩
 by_cases e:q=x
 ·subst e
  rw [Maps.atKey_put_same hD.isMap (K.lit q)]
  simp
 ·rw [Maps.atKey_put_other (fun h=>e (K.inj _ _ h)),hf]
  simp [e]
theorem GM.del [DecidableEq κ] {t e:TypeId} (h:GM kt kl R enc W mb n f) (K:KeyK kt kl) (ht:Tryz.prog.underlying t=some (.map kt e)) {key:Value} {x:κ} (hkey:keyOf Tryz.prog kt key=some (kl x)) (ty:TypeId) :
  ∃ W',(Builtin.delete_ #[t,kt] ty #[.map (some mb),key]).run Tryz.prog W = .ok (.tuple #[]) W'∧GM kt kl R enc W' mb n (fun q=>if q=x then none else f q)∧W.grownBy W' (some mb):=by
 obtain ⟨D,hD,hf⟩:=h
 obtain ⟨W',h1,h2,h3⟩:=hD.drop K.keyed ht hkey ty
 refine ⟨W',h1,⟨_,h2,fun q z=>?_⟩,h3.grown⟩
 by_cases e:q=x
 ·subst e
  rw [Maps.atKey_del_same]
  simp
 ·rw [Maps.atKey_del_other (fun h=>e (K.inj _ _ h)),hf]
  simp [e]
theorem GM.len {t e:TypeId} (h:GM kt kl R enc W mb n f) (K:KeyK kt kl) (ht:Tryz.prog.underlying t=some (.map kt e)) (ty:TypeId) :
  ∃ N:Nat,(Builtin.len_ #[t] ty #[.map (some mb)]).run Tryz.prog W = .ok (.int .i64 N) W∧(N=0↔∀ x,f x=none)∧N≤n:=by
 obtain ⟨D,hD,hf⟩:=h
 refine ⟨Maps.size D,hD.len ht ty,?_,hD.size_le⟩
 have hh:=fun x=>GM.has hf x
 obtain ⟨es,c,hb,F,_,rfl⟩:=hD
 constructor
 ·intro h0 x
  have h1:=hh x
  cases hl:(es.toList.map (WideElems.rg Tryz.prog kt R)).foldr DataW.insert [] with
  | nil =>
   rw [hl] at h1
   cases hfx:f x with
   | none=>rfl
   | some y=>rw [hfx] at h1;cases h1
  | cons p r=>rw [hl] at h0;cases h0
 ·intro hall
  cases hl:(es.toList.map (WideElems.rg Tryz.prog kt R)).foldr DataW.insert [] with
  | nil=>rfl
  | cons p r =>
   exfalso
   have hm:p ∈ (es.toList.map (WideElems.rg Tryz.prog kt R)).foldr DataW.insert []:=by rw [hl];simp
   have hm2:=mem_sorted.1 hm
   obtain ⟨x,hx⟩:=K.all _ (Maps.fit_keys F p hm2)
   have h1:=hh x
   rw [hall x,hl,← hx] at h1
   rw [Maps.has_eq,List.any_cons,WideAt.sameKey_self (by rw [hx];exact K.lit x)] at h1
   cases h1
end
def slit (x:List UInt8):Lit:=.string x
def nlit (q:Int):Lit:=.int .i64 q
theorem tb_str:Tryz.prog.underlying 9=some .string:=by kernel_rfl
theorem tb_int:Tryz.prog.underlying 3=some (.int .i64):=by kernel_rfl
theorem tb_i64:Tryz.prog.underlying 2=some (.int .i64):=by kernel_rfl
theorem tb_bool:Tryz.prog.underlying 4=some .bool:=by kernel_rfl
theorem key_str:KeyK 9 slit:=by
 refine ⟨Maps.string_keyed tb_str,fun x y h=>?_,fun _=>trivial,fun l hl=>?_⟩
 ·injection h
 ·obtain ⟨key,hk⟩:=hl
  rw [keyOf_string tb_str] at hk
  cases key <;> simp [mapKey] at hk
  rename_i s
  exact ⟨_,hk.2.symm⟩
theorem key_i64:KeyK 2 nlit:=by
 refine ⟨Maps.int_keyed tb_i64,fun x y h=>?_,fun _=>trivial,fun l hl=>?_⟩
 ·injection h
 ·obtain ⟨key,hk⟩:=hl
  obtain ⟨x,_,h2,_⟩:=Maps.keyOf_int_inv tb_i64 hk
  exact ⟨x,h2⟩
theorem at_str {s:ByteArray} (hs:s.size≤maxLen):keyOf Tryz.prog 9 (.string s)=some (slit (bl s)):=WideMaps.keyOf_string_mk tb_str hs
theorem at_i64 {q:Int} (hq:(Lit.int .i64 q).wf=true):keyOf Tryz.prog 2 (.int .i64 q)=some (nlit q):=Maps.keyOf_int_mk tb_i64 hq
def wI64:List UInt8:=[105,110,116,54,52]
def wS64:List UInt8:=[115,105,110,116,54,52]
def wU32:List UInt8:=[117,105,110,116,51,50]
def wBool:List UInt8:=[98,111,111,108]
def wF32:List UInt8:=[102,105,120,101,100,51,50]
def wF64:List UInt8:=[115,102,105,120,101,100,54,52]
def wStr:List UInt8:=[115,116,114,105,110,103]
def wByt:List UInt8:=[98,121,116,101,115]
def typO (x:List UInt8):Option Int:=if x=wByt then some 8 else if x=wStr then some 7 else if x=wF64 then some 5 else if x=wF32 then some 4 else if x=wBool then some 3 else if x=wU32 then some 2 else if x=wS64 then some 1 else if x=wI64 then some 0 else none
def eInt (q:Int):DataW Unit:=.lit (.int .i64 q)
abbrev PMap (W:World) (mb n:Nat) (f:List UInt8→Option Int):Prop:=GM 9 slit (plainElem Tryz.prog 3) eInt W mb n f
theorem tb_mSI:Tryz.prog.underlying 114=some (.map 9 3):=by kernel_rfl
theorem tb_zInt (w:World):(zeroValue 3).run Tryz.prog w = .ok (.int .i64 0) w:=by kernel_rfl
theorem eInt_el {q:Int} (h:(Lit.int .i64 q).wf=true):plainElem Tryz.prog 3 (.int .i64 q)=some (eInt q,[]):=plainElem_int tb_int h
theorem PMap.look_ok {W:World} {mb n:Nat} {f:List UInt8→Option Int} (h:PMap W mb n f) {s:ByteArray} (hs:s.size≤maxLen) :
  (Instr.lookup 114 (.map (some mb)) (.string s) true).run Tryz.prog W = .ok (.tuple #[.int .i64 ((f (bl s)).getD 0),.bool (f (bl s)).isSome]) W:=by
 obtain ⟨v,ps,h1,h2⟩:=GM.look_ok h key_str tb_mSI (tb_zInt W) (eInt_el (by decide)) (at_str hs)
 obtain ⟨a,rfl,h3,_⟩:=plainElem_int_inv tb_int h2
 have h4:(f (bl s)).getD 0=a:=by
  cases hf:f (bl s) with
  | none =>
   rw [hf] at h3
   simp [eInt] at h3
   exact h3.1
  | some y =>
   rw [hf] at h3
   simp [eInt] at h3
   exact h3.1
 rw [h4]
 exact h1
theorem PMap.put {W:World} {mb n:Nat} {f:List UInt8→Option Int} (h:PMap W mb n f) (hn:n < maxLen) {s:ByteArray} (hs:s.size≤maxLen) {q:Int} (hq:(Lit.int .i64 q).wf=true) :
  ∃ W',(Instr.mapUpdate 114 (.map (some mb)) (.string s) (.int .i64 q)).run Tryz.prog W = .ok () W'∧PMap W' mb (n + 1) (fun x=>if x=bl s then some q else f x)∧W.grownBy W' (some mb) :=
 GM.put h key_str tb_mSI hn (at_str hs) (eInt_el hq)
def PlainP (w:World) (e:Ending) (w':World):Prop:=e = .returned (.map (some w.heap.size))∧PMap w' w.heap.size 8 typO∧Below w.heap.size w w'
set_option maxHeartbeats 4000000 in
theorem tplain_s (w:World):Calls Tryz.prog 59 #[] w (PlainP w):=by
 have g0:PMap (w.alloc (.map #[] 0)) w.heap.size 0 (fun _=>none):=GM.made w
 have b0:=below_alloc (Below.refl w.heap.size w) (.map #[] 0)
 have z0:(w.alloc (.map #[] 0)).heap.size=w.heap.size + 1:=World.size_alloc _ _
 have hm:maxLen=140737488355328∨100 < maxLen:=.inr (by decide)
 obtain ⟨w1,r1,g1,b1⟩:=g0.put (s:=⟨#[105,110,116,54,52]⟩) (q:=0) (by decide) (by decide) (by decide)
 obtain ⟨w2,r2,g2,b2⟩:=g1.put (s:=⟨#[115,105,110,116,54,52]⟩) (q:=1) (by decide) (by decide) (by decide)
 obtain ⟨w3,r3,g3,b3⟩:=g2.put (s:=⟨#[117,105,110,116,51,50]⟩) (q:=2) (by decide) (by decide) (by decide)
 obtain ⟨w4,r4,g4,b4⟩:=g3.put (s:=⟨#[98,111,111,108]⟩) (q:=3) (by decide) (by decide) (by decide)
 obtain ⟨w5,r5,g5,b5⟩:=g4.put (s:=⟨#[102,105,120,101,100,51,50]⟩) (q:=4) (by decide) (by decide) (by decide)
 obtain ⟨w6,r6,g6,b6⟩:=g5.put (s:=⟨#[115,102,105,120,101,100,54,52]⟩) (q:=5) (by decide) (by decide) (by decide)
 obtain ⟨w7,r7,g7,b7⟩:=g6.put (s:=⟨#[115,116,114,105,110,103]⟩) (q:=7) (by decide) (by decide) (by decide)
 obtain ⟨w8,r8,g8,b8⟩:=g7.put (s:=⟨#[98,121,116,101,115]⟩) (q:=8) (by decide) (by decide) (by decide)
 have hok:∀ k,some w.heap.size=some k→w.heap.size≤k:=fun k e=>by injection e with e;omega
 have c1:=b0.grown b1 (by omega) hok
 have c2:=c1.grown b2 c1.size hok
 have c3:=c2.grown b3 c2.size hok
 have c4:=c3.grown b4 c3.size hok
 have c5:=c4.grown b5 c4.size hok
 have c6:=c5.grown b6 c5.size hok
 have c7:=c6.grown b7 c6.size hok
 have c8:=c7.grown b8 c7.size hok
 have HG:=Y0 (show PMap w8 w.heap.size 8 typO from g8)
 have HB:=Y0 c8
 clear g0 g1 g2 g3 g4 g5 g6 g7 g8 b0 b1 b2 b3 b4 b5 b6 b7 b8 c1 c2 c3 c4 c5 c6 c7 c8 hok z0 hm
 have hmm:=@run_makeMap Tryz.prog
 go_enter Tryz.func59,Tryz.ntmps59
 go_wp2
 go_ret
 exact ⟨rfl,HG.out,HB.out⟩
def RB (W:World) (p:Nat) (vM vE vN sM sE:Value) (a e:Int):Prop:=W.heap[p]?=some (.cells #[vM,vE,vN,sM,sE,.int .i64 a,.int .i64 e] 108 (0,0))
def FailP (W:World) (p:Nat) (vM vE vN sM sE:Value) (a e:Int) (en:Ending) (W':World):Prop:=en = .returned (.tuple #[])∧RB W' p vM vE vN sM sE a e∧KeepBut W W' p none∧W'.heap.size=W.heap.size∧∀ B,B≤p→Below B W W'
def failE (a0 e0:Int) (b:Bool) (a e:Int):Int × Int:=if b=true∧e0=0 then (a,e) else (a0,e0)
set_option maxHeartbeats 2000000 in
set_option maxRecDepth 100000 in
theorem fail_s {W:World} {p:Nat} {vM vE vN sM sE:Value} {a0 e0:Int} (h:RB W p vM vE vN sM sE a0 e0) (b:Bool) (a e:Int) :
  Calls Tryz.prog 56 #[.pointer (some ⟨p,0,none⟩),.bool b,.int .i64 a,.int .i64 e] W (FailP W p vM vE vN sM sE (failE a0 e0 b a e).1 (failE a0 e0 b a e).2):=by
 have HR:=Y0 h
 have c5:W.cell? ⟨p,5,none⟩=some (.int .i64 a0):=(blk_cell h 5).trans rfl
 have c6:W.cell? ⟨p,6,none⟩=some (.int .i64 e0):=(blk_cell h 6).trans rfl
 have y5:=blk_frozen h 5
 have y6:=blk_frozen h 6
 obtain ⟨r,hr⟩:∃ r,r=failE a0 e0 b a e:=⟨_,rfl⟩
 rw [← hr]
 have HQ:=Y0 hr
 clear h hr
 cases b
 ·have hq:r=(a0,e0):=by rw [HQ.out];unfold failE;rw [if_neg (by simp)]
  subst hq
  clear HQ
  go_enter Tryz.func56,Tryz.ntmps56
  go_wp2
  go_end0
  exact ⟨rfl,HR.out,KeepBut.refl _ _ _,rfl,fun B _=>Below.refl B W⟩
 ·by_cases h0:e0=0
  ·subst h0
   have hq:r=(a,e):=by rw [HQ.out];unfold failE;rw [if_pos ⟨rfl,rfl⟩]
   subst hq
   clear HQ
   go_enter Tryz.func56,Tryz.ntmps56
   go_wp2
   go_end0
   exact ⟨rfl,blk_put (cs:=#[vM,vE,vN,sM,sE,.int .i64 a,.int .i64 0]) (blk_put HR.out 5 _ rfl) 6 _ rfl,((KeepBut.refl W p none).set_ 5 _).set_ 6 _,by simp [World.setCell],fun B hB=>((Below.refl B W).setCell (p:=⟨p,5,none⟩) hB _).setCell (p:=⟨p,6,none⟩) hB _⟩
  ·have hq:r=(a0,e0):=by rw [HQ.out];unfold failE;rw [if_neg (by simp [h0])]
   subst hq
   have hd:(e0 == 0)=false:=by simpa using h0
   have hd2:decide (e0=0)=false:=decide_eq_false h0
   clear HQ
   go_enter Tryz.func56,Tryz.ntmps56
   go_wp2
   go_end0
   exact ⟨rfl,HR.out,KeepBut.refl _ _ _,rfl,fun B _=>Below.refl B W⟩
def plE (p:Int × Int):DataW Unit:=.agg [.lit (.int .i64 p.1),.lit (.int .i64 p.2)]
def plV (p:Int × Int):Value:=.agg #[.int .i64 p.1,.int .i64 p.2]
def plR:Value→Option (DataW Unit × List MemPlace)
 | .agg ⟨[.int .i64 a,.int .i64 b]⟩=>some (plE (a,b),[])
 | _=>none
theorem plR_inv {v:Value} {d:DataW Unit} {ps:List MemPlace} (h:plR v=some (d,ps)):∃ p,v=plV p∧d=plE p∧ps=[]:=by
 unfold plR at h
 split at h
 ·rename_i a b
  simp only [Option.some.injEq,Prod.mk.injEq] at h
  exact ⟨(a,b),rfl,h.1.symm,h.2.symm⟩
 ·cases h
theorem plE_inj {p q:Int × Int} (h:plE p=plE q):p=q:=by
 unfold plE at h
 simp only [DataW.agg.injEq,List.cons.injEq,DataW.lit.injEq,Lit.int.injEq,true_and,and_true] at h
 exact Prod.ext h.1 h.2
abbrev NMap (W:World) (mb n:Nat) (f:List UInt8→Option (Int × Int)):Prop:=GM 9 slit plR plE W mb n f
theorem tb_mSP:Tryz.prog.underlying 106=some (.map 9 111):=by kernel_rfl
theorem tb_zPl (w:World):(zeroValue 111).run Tryz.prog w = .ok (plV (0,0)) w:=by kernel_rfl
theorem NMap.look_ok {W:World} {mb n:Nat} {f:List UInt8→Option (Int × Int)} (h:NMap W mb n f) {s:ByteArray} (hs:s.size≤maxLen) :
  (Instr.lookup 106 (.map (some mb)) (.string s) true).run Tryz.prog W = .ok (.tuple #[plV ((f (bl s)).getD (0,0)),.bool (f (bl s)).isSome]) W:=by
 obtain ⟨v,ps,h1,h2⟩:=GM.look_ok (zd:=plE (0,0)) (zp:=[]) h key_str tb_mSP (tb_zPl W) rfl (at_str hs)
 obtain ⟨p,rfl,h3,_⟩:=plR_inv h2
 have h4:(f (bl s)).getD (0,0)=p:=by
  cases hf:f (bl s) with
  | none =>
   rw [hf] at h3
   exact plE_inj h3
  | some y =>
   rw [hf] at h3
   exact plE_inj h3
 rw [h4]
 exact h1
theorem NMap.put {W:World} {mb n:Nat} {f:List UInt8→Option (Int × Int)} (h:NMap W mb n f) (hn:n < maxLen) {s:ByteArray} (hs:s.size≤maxLen) (p:Int × Int) :
  ∃ W',(Instr.mapUpdate 106 (.map (some mb)) (.string s) (plV p)).run Tryz.prog W = .ok () W'∧NMap W' mb (n + 1) (fun x=>if x=bl s then some p else f x)∧W.grownBy W' (some mb) :=
 GM.put (y:=p) (ps:=[]) h key_str tb_mSP hn (at_str hs) rfl
def kindF (f:List UInt8→Option (Int × Int)) (nm:List UInt8):Int × Int × Bool :=
 match typO nm with
 | some k=>(k,0,true)
 | none=>(if ((f nm).getD (0,0)).1=6 then 6 else 9,((f nm).getD (0,0)).2,(f nm).isSome)
def KindP (W:World) (r:Int × Int × Bool) (e:Ending) (W':World):Prop:=e = .returned (.tuple #[.int .i64 r.1,.int .i64 r.2.1,.bool r.2.2])∧Below W.heap.size W W'
theorem eqf_int {d:Nat} {a b:Int} {w:World}:(Op.equalIn (d + 1) 3 (.int .i64 a) (.int .i64 b)).run Tryz.prog w = .ok (a == b) w:=by
 simp [Op.equalIn,tb_int]
theorem eqf_pl (a b c d:Int) (w:World):(Op.equalIn 10000 111 (.agg #[.int .i64 a,.int .i64 b]) (.agg #[.int .i64 c,.int .i64 d])).run Tryz.prog w = .ok (a == c && b == d) w:=by
 show (Op.equalIn (9998 + 1 + 1) _ _ _).run _ _=_
 have p0:∀ x y,(part 3 #[Value.int .i64 x,Value.int .i64 y] 0).run Tryz.prog w = .ok (.int .i64 x) w:=fun x y=>by kernel_rfl
 have p1:∀ x y,(part 3 #[Value.int .i64 x,Value.int .i64 y] 1).run Tryz.prog w = .ok (.int .i64 y) w:=fun x y=>by kernel_rfl
 have q0:∀ x y,(Op.equalIn 9999 3 (.int .i64 x) (.int .i64 y)).run Tryz.prog w = .ok (x == y) w:=fun x y=>eqf_int (d:=9998)
 have hr:List.range' 0 2=[0,1]:=rfl
 rw [Op.equalIn]
 simp [hr,p0,p1,q0,Result.andThen]
 by_cases h1:a=c
 ·subst h1
  by_cases h2:b=d
  ·subst h2
   simp [p0,p1,q0,Result.andThen]
  ·have h2':(b == d)=false:=by simpa using h2
   simp [p0,p1,q0,Result.andThen,h2,h2']
 ·have h1':(a == c)=false:=by simpa using h1
  simp [p0,p1,q0,Result.andThen,h1,h1']
set_option maxHeartbeats 4000000 in
set_option maxRecDepth 100000 in
theorem kind_s {W:World} {p mb n:Nat} {vM vE sM sE:Value} {a0 e0:Int} {f:List UInt8→Option (Int × Int)} (h:RB W p vM vE (.map (some mb)) sM sE a0 e0) (hN:NMap W mb n f) (nm:ByteArray) (hs:nm.size≤maxLen) :
  Calls Tryz.prog 100 #[.pointer (some ⟨p,0,none⟩),.string nm] W (KindP W (kindF f (bl nm))):=by
 have HR:=Y0 h
 have HN:=Y0 hN
 have HS:=Y0 hs
 obtain ⟨r,hr⟩:∃ r,r=kindF f (bl nm):=⟨_,rfl⟩
 rw [← hr]
 unfold kindF at hr
 obtain ⟨t,ht⟩:∃ t,t=typO (bl nm):=⟨_,rfl⟩
 rw [← ht] at hr
 have HT:=Y0 ht
 have HQ:=Y0 hr
 clear h hN hs hr ht
 cases t with
 | some k =>
  have hq:r=(k,0,true):=HQ.out
  subst hq
  clear HQ HN HR
  go_enter Tryz.func100,Tryz.ntmps100
  go_wp2_with fail
  refine (tplain_s _).mono ?_
  rintro e V1 ⟨rfl,hp,hb⟩
  have hl:=hp.look_ok (s:=nm) HS.out
  rw [← HT.out] at hl
  simp only [Option.getD_some,Option.isSome_some] at hl
  clear hp
  go_wp2
  go_ret3
  exact ⟨rfl,hb⟩
 | none =>
  obtain ⟨⟨a,b⟩,hab⟩:∃ q:Int × Int,q=(f (bl nm)).getD (0,0):=⟨_,rfl⟩
  obtain ⟨is,his⟩:∃ is,is=(f (bl nm)).isSome:=⟨_,rfl⟩
  have hq:r=(if a=6 then 6 else 9,b,is):=by rw [HQ.out,his,← hab]
  clear HQ
  have HAB:=Y0 hab
  have HIS:=Y0 his
  clear hab his
  by_cases h6:a=6
  ·rw [if_pos h6] at hq
   subst hq h6
   go_enter Tryz.func100,Tryz.ntmps100
   go_wp2_with fail
   refine (tplain_s _).mono ?_
   rintro e V1 ⟨rfl,hp,hb⟩
   have hl:=hp.look_ok (s:=nm) HS.out
   rw [← HT.out] at hl
   simp only [Option.getD_none,Option.isSome_none] at hl
   have hr1:=blk_below HR.out hb
   have hn1:=NMap.look_ok (HN.out.below hb) (s:=nm) HS.out
   rw [← HAB.out,← HIS.out] at hn1
   simp only [plV] at hn1
   have heq:=fun w=>eqf_pl 6 b 6 b w
   simp only [beq_self_eq_true,Bool.and_self] at heq
   have c2:V1.cell? ⟨p,2,none⟩=some (.map (some mb)):=(blk_cell hr1 2).trans rfl
   clear hp hr1
   go_wp2
   go_quiet (fail)
   go_wp2
   go_ret3
   exact ⟨rfl,pw_below_drewN (below_alloc hb _) _⟩
  ·rw [if_neg h6] at hq
   subst hq
   have h6b:(a == 6)=false:=by simpa using h6
   clear h6
   go_enter Tryz.func100,Tryz.ntmps100
   go_wp2_with fail
   refine (tplain_s _).mono ?_
   rintro e V1 ⟨rfl,hp,hb⟩
   have hl:=hp.look_ok (s:=nm) HS.out
   rw [← HT.out] at hl
   simp only [Option.getD_none,Option.isSome_none] at hl
   have hr1:=blk_below HR.out hb
   have hn1:=NMap.look_ok (HN.out.below hb) (s:=nm) HS.out
   rw [← HAB.out,← HIS.out] at hn1
   simp only [plV] at hn1
   have heq:=fun w=>eqf_pl a b 6 b w
   simp only [h6b,Bool.false_and] at heq
   have c2:V1.cell? ⟨p,2,none⟩=some (.map (some mb)):=(blk_cell hr1 2).trans rfl
   clear hp hr1
   go_wp2
   go_quiet (fail)
   go_wp2
   go_ret3
   exact ⟨rfl,pw_below_drewN (below_alloc hb _) _⟩
def table_in.f (a0:Int) (a1:Int) (a2:Int):Option (Bool):=if a0 ≥ a1 then (some (decide (a0≤a2))) else (some false)
set_option maxHeartbeats 8000000 in
set_option maxRecDepth 100000 in
theorem table_in.calls (a0:Int) (a1:Int) (a2:Int) (r:Bool) (w:World) (h:table_in.f a0 a1 a2=some r) :
  Calls Tryz.prog 60 #[.int .i64 a0,.int .i64 a1,.int .i64 a2] w fun e w'=>e = .returned (.bool r)∧Drawn0 w w':=by
 have H:(if a0 ≥ a1 then (some (decide (a0≤a2))) else (some false))=some r:=h
 clear h
 by_cases c4:a0 ≥ a1
 ·rw [if_pos c4] at H
  have c4b0:decide (a1≤a0)=true:=decide_eq_true c4
  clear c4
  obtain rfl:=Option.some.inj H
  go_enter Tryz.func60,Tryz.ntmps60
  go_wp2
  go_ret
  exact ⟨by first|rfl|(simp;done)|(simp [*];done),by repeat (first|exact Drawn0.refl _|apply Drawn0.step)⟩
 rw [if_neg c4] at H
 have c4b0:decide (a1≤a0)=false:=decide_eq_false c4
 clear c4
 obtain rfl:=Option.some.inj H
 go_enter Tryz.func60,Tryz.ntmps60
 go_wp2
 go_ret
 exact ⟨by first|rfl|(simp;done)|(simp [*];done),by repeat (first|exact Drawn0.refl _|apply Drawn0.step)⟩
def table_number.f (a0:Int):Option (Bool):=if a0 ≥ 1 then (if a0≤536870911 then (if a0 < 19000 then (some true) else (some (decide (a0 > 19999)))) else (some false)) else (some false)
set_option maxHeartbeats 8000000 in
set_option maxRecDepth 100000 in
theorem table_number.calls (a0:Int) (r:Bool) (w:World) (h:table_number.f a0=some r) :
  Calls Tryz.prog 98 #[.int .i64 a0] w fun e w'=>e = .returned (.bool r)∧Drawn0 w w':=by
 have H:(if a0 ≥ 1 then (if a0≤536870911 then (if a0 < 19000 then (some true) else (some (decide (a0 > 19999)))) else (some false)) else (some false))=some r:=h
 clear h
 by_cases c2:a0 ≥ 1
 rotate_left
 ·rw [if_neg c2] at H
  have c2b0:decide (1≤a0)=false:=decide_eq_false c2
  clear c2
  obtain rfl:=Option.some.inj H
  go_enter Tryz.func98,Tryz.ntmps98
  go_wp2
  go_ret
  exact ⟨by first|rfl|(simp;done)|(simp [*];done),by repeat (first|exact Drawn0.refl _|apply Drawn0.step)⟩
 rw [if_pos c2] at H
 have c2b0:decide (1≤a0)=true:=decide_eq_true c2
 clear c2
 by_cases c3:a0≤536870911
 rotate_left
 ·rw [if_neg c3] at H
  have c3b0:decide (a0≤536870911)=false:=decide_eq_false c3
  clear c3
  obtain rfl:=Option.some.inj H
  go_enter Tryz.func98,Tryz.ntmps98
  go_wp2
  go_ret
  exact ⟨by first|rfl|(simp;done)|(simp [*];done),by repeat (first|exact Drawn0.refl _|apply Drawn0.step)⟩
 rw [if_pos c3] at H
 have c3b0:decide (a0≤536870911)=true:=decide_eq_true c3
 clear c3
 by_cases c4:a0 < 19000
 ·rw [if_pos c4] at H
  have c4b0:decide (a0 < 19000)=true:=decide_eq_true c4
  clear c4
  obtain rfl:=Option.some.inj H
  go_enter Tryz.func98,Tryz.ntmps98
  go_wp2
  go_ret
  exact ⟨by first|rfl|(simp;done)|(simp [*];done),by repeat (first|exact Drawn0.refl _|apply Drawn0.step)⟩
 rw [if_neg c4] at H
 have c4b0:decide (a0 < 19000)=false:=decide_eq_false c4
 clear c4
 obtain rfl:=Option.some.inj H
 go_enter Tryz.func98,Tryz.ntmps98
 go_wp2
 go_ret
 exact ⟨by first|rfl|(simp;done)|(simp [*];done),by repeat (first|exact Drawn0.refl _|apply Drawn0.step)⟩
def table_keyed.f (a0:Int):Option (Bool):=if a0 ≥ 0 then (if a0 < 9 then (if a0=6 then (some false) else (some (a0 != 8))) else (some false)) else (some false)
set_option maxHeartbeats 8000000 in
set_option maxRecDepth 100000 in
theorem table_keyed.calls (a0:Int) (r:Bool) (w:World) (h:table_keyed.f a0=some r) :
  Calls Tryz.prog 99 #[.int .i64 a0] w fun e w'=>e = .returned (.bool r)∧Drawn0 w w':=by
 have H:(if a0 ≥ 0 then (if a0 < 9 then (if a0=6 then (some false) else (some (a0 != 8))) else (some false)) else (some false))=some r:=h
 clear h
 by_cases c2:a0 ≥ 0
 rotate_left
 ·rw [if_neg c2] at H
  have c2b0:decide (0≤a0)=false:=decide_eq_false c2
  clear c2
  obtain rfl:=Option.some.inj H
  go_enter Tryz.func99,Tryz.ntmps99
  go_wp2
  go_ret
  exact ⟨by first|rfl|(simp;done)|(simp [*];done),by repeat (first|exact Drawn0.refl _|apply Drawn0.step)⟩
 rw [if_pos c2] at H
 have c2b0:decide (0≤a0)=true:=decide_eq_true c2
 clear c2
 by_cases c3:a0 < 9
 rotate_left
 ·rw [if_neg c3] at H
  have c3b0:decide (a0 < 9)=false:=decide_eq_false c3
  clear c3
  obtain rfl:=Option.some.inj H
  go_enter Tryz.func99,Tryz.ntmps99
  go_wp2
  go_ret
  exact ⟨by first|rfl|(simp;done)|(simp [*];done),by repeat (first|exact Drawn0.refl _|apply Drawn0.step)⟩
 rw [if_pos c3] at H
 have c3b0:decide (a0 < 9)=true:=decide_eq_true c3
 clear c3
 by_cases c4:a0=6
 rotate_left
 ·rw [if_neg c4] at H
  have c4b0:(a0 == 6)=false:=beq_eq_false_iff_ne.mpr c4
  have c4b1:(a0 != 6)=true:=bne_iff_ne.mpr c4
  obtain rfl:=Option.some.inj H
  go_enter Tryz.func99,Tryz.ntmps99
  go_wp2
  go_ret
  exact ⟨by first|rfl|(simp;done)|(simp [*];done),by repeat (first|exact Drawn0.refl _|apply Drawn0.step)⟩
 rw [if_pos c4] at H
 have c4b0:(a0 == 6)=true:=beq_iff_eq.mpr c4
 have c4b1:(a0 != 6)=false:=bne_eq_false_iff_eq.mpr c4
 clear c4
 obtain rfl:=Option.some.inj H
 go_enter Tryz.func99,Tryz.ntmps99
 go_wp2
 go_ret
 exact ⟨by first|rfl|(simp;done)|(simp [*];done),by repeat (first|exact Drawn0.refl _|apply Drawn0.step)⟩
mutual
def table_field.j0:Nat→Bool→Int→ByteArray→Int→Int→Bool→Int→Int→Option (Bool)
 | 0,_,_,_,_,_,_,_,_=>none
 | k + 1,x5,x251000,x251001,x251002,x251003,x251004,x251005,x251006=>if x251004=true then (table_field.j1 k x5 true x251000 x251001 x251002 x251003 x251004 x251005 x251006) else (table_field.j1 k x5 (x251005 != (-1)) x251000 x251001 x251002 x251003 x251004 x251005 x251006)
def table_field.j1:Nat→Bool→Bool→Int→ByteArray→Int→Int→Bool→Int→Int→Option (Bool)
 | 0,_,_,_,_,_,_,_,_,_=>none
 | k + 1,x5,x6,x251000,x251001,x251002,x251003,x251004,x251005,x251006=>if x251005=(-1) then ((table_number.f x251000).bind fun t253=>(if t253=true then ((table_in.f x251002 0 9).bind fun t254=>(if t254=true then (if x5=true then ((table_in.f x251006 0 30).bind fun t255=>(if t255=true then (if x251006=0 then (some true) else (some (!x6))) else (some false))) else (some false)) else (some false))) else (some false))) else ((table_keyed.f x251005).bind fun t256=>(if t256=true then ((table_number.f x251000).bind fun t257=>(if t257=true then ((table_in.f x251002 0 9).bind fun t258=>(if t258=true then (if x5=true then (if x251004=true then (some false) else ((table_in.f x251006 0 30).bind fun t259=>(if t259=true then (if x251006=0 then (some true) else (some (!x6))) else (some false)))) else (some false)) else (some false))) else (some false))) else ((table_number.f x251000).bind fun t260=>(if t260=true then ((table_in.f x251002 0 9).bind fun t261=>(if t261=true then (if x5=true then (some false) else (some false)) else (some false))) else (some false)))))
end
def table_field.f (k:Nat) (l0_0:List (S57)) (l0_1:List (S119)) (a1_0:Int) (a1_1:ByteArray) (a1_2:Int) (a1_3:Int) (a1_4:Bool) (a1_5:Int) (a1_6:Int):Option (Bool):=if a1_2=9 then ((table_in.f a1_3 0 (wrap64 ((l0_0.length:Int) - 1))).bind fun t251=>(table_field.j0 k t251 a1_0 a1_1 a1_2 a1_3 a1_4 a1_5 a1_6)) else (if a1_2=6 then ((table_in.f a1_3 0 (wrap64 ((l0_1.length:Int) - 1))).bind fun t252=>(table_field.j0 k t252 a1_0 a1_1 a1_2 a1_3 a1_4 a1_5 a1_6)) else (table_field.j0 k (a1_3 == 0) a1_0 a1_1 a1_2 a1_3 a1_4 a1_5 a1_6))
set_option maxHeartbeats 8000000 in
set_option maxRecDepth 100000 in
theorem table_field.calls (k:Nat) (A0_0:Option Addr) (c0_0:Nat) (l0_0:List (S57)) (A0_1:Option Addr) (c0_1:Nat) (l0_1:List (S119)) (a1_0:Int) (a1_1:ByteArray) (a1_2:Int) (a1_3:Int) (a1_4:Bool) (a1_5:Int) (a1_6:Int) (r:Bool) (w:World) (hr0_0:Kd.C k57 w A0_0 l0_0.length l0_0) (hc0_0:l0_0.length≤c0_0) (hr0_1:Kd.C k119 w A0_1 l0_1.length l0_1) (hc0_1:l0_1.length≤c0_1) (h:table_field.f k l0_0 l0_1 a1_0 a1_1 a1_2 a1_3 a1_4 a1_5 a1_6=some r) :
  Calls Tryz.prog 104 #[.agg #[.slice A0_0 l0_0.length c0_0,.slice A0_1 l0_1.length c0_1],.agg #[.int .i64 a1_0,.string a1_1,.int .i64 a1_2,.int .i64 a1_3,.bool a1_4,.int .i64 a1_5,.int .i64 a1_6]] w fun e w'=>e = .returned (.bool r)∧Below w.heap.size w w':=by
 have hu46:=Tryz.underlying46
 have hu51:=Tryz.underlying51
 have HR0_0:=Y0 hr0_0
 have HC0_0:=Y0 hc0_0
 clear hr0_0 hc0_0
 have HR0_1:=Y0 hr0_1
 have HC0_1:=Y0 hc0_1
 clear hr0_1 hc0_1
 have HB:=Y0 (Below.refl w.heap.size w)
 have H:(if a1_2=9 then ((table_in.f a1_3 0 (wrap64 ((l0_0.length:Int) - 1))).bind fun t251=>(table_field.j0 k t251 a1_0 a1_1 a1_2 a1_3 a1_4 a1_5 a1_6)) else (if a1_2=6 then ((table_in.f a1_3 0 (wrap64 ((l0_1.length:Int) - 1))).bind fun t252=>(table_field.j0 k t252 a1_0 a1_1 a1_2 a1_3 a1_4 a1_5 a1_6)) else (table_field.j0 k (a1_3 == 0) a1_0 a1_1 a1_2 a1_3 a1_4 a1_5 a1_6)))=some r:=h
 clear h
 have HC3:=Y0 H
 clear H
 go_enter Tryz.func104,Tryz.ntmps104
 go_upto_block 0 with (first|((with_reducible refine gate_dst (N:=2) rfl ?_);refine box_event ?hg (N:=2) ?hd (cs:=#[.slice A0_0 l0_0.length c0_0,.slice A0_1 l0_1.length c0_1]) (t:=46) ?hr ?_;(case hd=>rfl);(case hg=>rfl);(case hr=>first|(go_simp;done)|(go_simp;rfl));intro gb249 hg w4 hbox hb;have n0_:=Y0 (below_step (by repeat (with_reducible first|exact HB.out|apply Y3|apply Y1|apply Y2)) hb);have n1_:=Y0 (hbox);have n2_:=Y0 ((by rw [hg];exact (below_size (by repeat (with_reducible first|exact HB.out|apply Y3|apply Y1|apply Y2))):w.heap.size≤gb249));have n3_:=Y0 ((by rw [hg];exact (below_size (by repeat (with_reducible first|exact HB.out|apply Y3|apply Y1|apply Y2))):w.heap.size≤gb249));clear HB;have HB:=n0_;have BK249:=n1_;have GW249:=n2_;have GE249:=n3_;clear n0_ n1_ n2_ n3_;clear hb hbox hg)|((with_reducible refine gate_dst (N:=3) rfl ?_);refine box_event ?hg (N:=3) ?hd (cs:=#[.int .i64 a1_0,.string a1_1,.int .i64 a1_2,.int .i64 a1_3,.bool a1_4,.int .i64 a1_5,.int .i64 a1_6]) (t:=51) ?hr ?_;(case hd=>rfl);(case hg=>rfl);(case hr=>first|(go_simp;done)|(go_simp;rfl));intro gb250 hg w5 hbox hb;have n0_:=Y0 (blk_below (g:=gb249) (o:=.cells #[.slice A0_0 l0_0.length c0_0,.slice A0_1 l0_1.length c0_1] 46 (0,0)) (by (with_reducible repeat first|apply Y11|apply Y13|apply Y12);exact BK249.out) hb);have n1_:=Y0 (below_step (by repeat (with_reducible first|exact HB.out|apply Y3|apply Y1|apply Y2|refine Y4 ?_ GE249.out)) hb);have n2_:=Y0 (hbox);have n3_:=Y0 ((by rw [hg];exact (below_size (by repeat (with_reducible first|exact HB.out|apply Y3|apply Y1|apply Y2|refine Y4 ?_ GE249.out))):w.heap.size≤gb250));have n4_:=Y0 ((by rw [hg];exact (below_size (by repeat (with_reducible first|exact HB.out|apply Y3|apply Y1|apply Y2|refine Y4 ?_ GE249.out))):w.heap.size≤gb250));have n5_:=Y0 ((by rw [hg];exact Nat.ne_of_lt (blk_lt (g:=gb249) (o:=.cells #[.slice A0_0 l0_0.length c0_0,.slice A0_1 l0_1.length c0_1] 46 (0,0)) (by (with_reducible repeat first|apply Y11|apply Y13|apply Y12);exact BK249.out)):gb249≠gb250));have n6_:=Y0 ((by rw [hg];exact Nat.ne_of_gt (blk_lt (g:=gb249) (o:=.cells #[.slice A0_0 l0_0.length c0_0,.slice A0_1 l0_1.length c0_1] 46 (0,0)) (by (with_reducible repeat first|apply Y11|apply Y13|apply Y12);exact BK249.out)):gb250≠gb249));clear BK249;clear HB;have BK249:=n0_;have HB:=n1_;have BK250:=n2_;have GW250:=n3_;have GE250:=n4_;have NB249_250:=n5_;have NB250_249:=n6_;clear n0_ n1_ n2_ n3_ n4_ n5_ n6_;clear hb hbox hg;have hnb6:=NB250_249.out;have hnc6:=NB249_250.out;have ⟨hcz7_0,hcz7_1,hcz7_2,hcz7_3,hcz7_4,hcz7_5,hcz7_6,hfz7_0,hfz7_1,hfz7_2,hfz7_3,hfz7_4,hfz7_5,hfz7_6⟩:=sq_box7 BK250.out))
 (try simp only [Act.put,Y14,Y15,Y16])
 go_cut [5] (fun v5 wc=>∃ (kq:Nat) (x5_2:Bool),v5 = .bool x5_2∧Aside0 (table_field.j0 kq x5_2 a1_0 a1_1 a1_2 a1_3 a1_4 a1_5 a1_6=some r)∧Aside0 (kq≤k)∧Aside0 (wc.heap[gb249]?=some (.cells #[(.slice A0_0 l0_0.length c0_0),(.slice A0_1 l0_1.length c0_1)] 46 (0,0)))∧Aside0 (wc.heap[gb250]?=some (.cells #[.int .i64 a1_0,.string a1_1,.int .i64 a1_2,.int .i64 a1_3,.bool a1_4,.int .i64 a1_5,.int .i64 a1_6] 51 (0,0)))∧Aside0 (Below w.heap.size w wc))
 case first =>
  have H:=HC3.out
  clear HC3
  by_cases c8:a1_2=9
  ·rw [if_pos c8] at H
   have c8b0:(a1_2 == 9)=true:=beq_iff_eq.mpr c8
   have c8b1:(a1_2 != 9)=false:=bne_eq_false_iff_eq.mpr c8
   clear c8
   (first|rw [c8b0]|(simp only [];rw [c8b0])|skip)
   replace H:=Y17.mp H
   obtain ⟨t251,A90,H⟩:=H
   try dsimp only at H
   have A9:=Y0 A90
   clear A90
   have H':=Y0 H
   clear H
   have hnb10:=NB250_249.out
   have hnc10:=NB249_250.out
   have ⟨hcz11_0,hcz11_1,hcz11_2,hcz11_3,hcz11_4,hcz11_5,hcz11_6,hfz11_0,hfz11_1,hfz11_2,hfz11_3,hfz11_4,hfz11_5,hfz11_6⟩:=sq_box7 BK250.out
   have ⟨hcz12_0,hcz12_1,hfz12_0,hfz12_1⟩:=sq_box2 BK249.out
   go_wp2_with (first|((with_reducible refine gate_callee (f:=60) rfl ?_);refine goesL_ (some 21) rfl rfl Tryz.func60 (by kernel_rfl) rfl #[.int .i64 a1_3,.int .i64 0,.int .i64 (wrap64 ((l0_0.length:Int) - 1))] rfl (by (try simp only [List.map_toArray,List.map_cons,List.map_nil]);first|done|rfl|(simp only [List.length_drop,List.length_take];rfl)) ?_;(with_reducible refine (table_in.calls a1_3 0 (wrap64 ((l0_0.length:Int) - 1)) t251 _ A9.out).mono ?_);rintro e w' ⟨rfl,⟨nd,rfl⟩⟩;refine ⟨_,rfl,?_⟩))
   go_meet
   case rel=>exact ⟨_,(t251),(by first|rfl|(simp;done)|(simp [*];done)),H',⟨by first|omega|exact Nat.le_refl _⟩,⟨by (with_reducible repeat first|apply Y11|apply Y13|apply Y12);exact BK249.out⟩,⟨by (with_reducible repeat first|apply Y11|apply Y13|apply Y12);exact BK250.out⟩,⟨by repeat (with_reducible first|exact HB.out|apply Y3|apply Y1|apply Y2|refine Y4 ?_ GE249.out|refine Y4 ?_ GE250.out)⟩⟩
  rw [if_neg c8] at H
  have c8b0:(a1_2 == 9)=false:=beq_eq_false_iff_ne.mpr c8
  have c8b1:(a1_2 != 9)=true:=bne_iff_ne.mpr c8
  (first|rw [c8b0]|(simp only [];rw [c8b0])|skip)
  by_cases c13:a1_2=6
  rotate_left
  ·rw [if_neg c13] at H
   have c13b0:(a1_2 == 6)=false:=beq_eq_false_iff_ne.mpr c13
   have c13b1:(a1_2 != 6)=true:=bne_iff_ne.mpr c13
   have H':=Y0 H
   clear H
   go_wp2
   go_meet
   case rel=>exact ⟨_,((a1_3 == 0)),(by first|rfl|(simp;done)|(simp [*];done)),H',⟨by first|omega|exact Nat.le_refl _⟩,⟨by (with_reducible repeat first|apply Y11|apply Y13|apply Y12);exact BK249.out⟩,⟨by (with_reducible repeat first|apply Y11|apply Y13|apply Y12);exact BK250.out⟩,⟨by repeat (with_reducible first|exact HB.out|apply Y3|apply Y1|apply Y2|refine Y4 ?_ GE249.out|refine Y4 ?_ GE250.out)⟩⟩
  rw [if_pos c13] at H
  have c13b0:(a1_2 == 6)=true:=beq_iff_eq.mpr c13
  have c13b1:(a1_2 != 6)=false:=bne_eq_false_iff_eq.mpr c13
  clear c13
  replace H:=Y17.mp H
  obtain ⟨t252,A140,H⟩:=H
  try dsimp only at H
  have A14:=Y0 A140
  clear A140
  have H':=Y0 H
  clear H
  have hnb15:=NB250_249.out
  have hnc15:=NB249_250.out
  have ⟨hcz16_0,hcz16_1,hcz16_2,hcz16_3,hcz16_4,hcz16_5,hcz16_6,hfz16_0,hfz16_1,hfz16_2,hfz16_3,hfz16_4,hfz16_5,hfz16_6⟩:=sq_box7 BK250.out
  have ⟨hcz17_0,hcz17_1,hfz17_0,hfz17_1⟩:=sq_box2 BK249.out
  go_wp2_with (first|((with_reducible refine gate_callee (f:=60) rfl ?_);refine goesL_ (some 30) rfl rfl Tryz.func60 (by kernel_rfl) rfl #[.int .i64 a1_3,.int .i64 0,.int .i64 (wrap64 ((l0_1.length:Int) - 1))] rfl (by (try simp only [List.map_toArray,List.map_cons,List.map_nil]);first|done|rfl|(simp only [List.length_drop,List.length_take];rfl)) ?_;(with_reducible refine (table_in.calls a1_3 0 (wrap64 ((l0_1.length:Int) - 1)) t252 _ A14.out).mono ?_);rintro e w' ⟨rfl,⟨nd,rfl⟩⟩;refine ⟨_,rfl,?_⟩))
  go_meet
  case rel=>exact ⟨_,(t252),(by first|rfl|(simp;done)|(simp [*];done)),H',⟨by first|omega|exact Nat.le_refl _⟩,⟨by (with_reducible repeat first|apply Y11|apply Y13|apply Y12);exact BK249.out⟩,⟨by (with_reducible repeat first|apply Y11|apply Y13|apply Y12);exact BK250.out⟩,⟨by repeat (with_reducible first|exact HB.out|apply Y3|apply Y1|apply Y2|refine Y4 ?_ GE249.out|refine Y4 ?_ GE250.out)⟩⟩
 case rest =>
  clear HC3
  obtain ⟨kq,x5_2,rfl,HA,HJ2,BK249,BK250,HB⟩:=hcut
  cases kq with
  | zero=>exact absurd HA.out (by simp [table_field.j0])
  | succ kj2 =>
   have H:=HA.out
   clear HA
   simp only [table_field.j0] at H
   have HC18:=Y0 H
   clear H
   go_upto_region 7 with (fail)
   go_cut [6] (fun v6 wc=>∃ (kq:Nat) (x6_17:Bool),v6 = .bool x6_17∧Aside0 (table_field.j1 kq x5_2 x6_17 a1_0 a1_1 a1_2 a1_3 a1_4 a1_5 a1_6=some r)∧Aside0 (kq≤kj2)∧Aside0 (wc.heap[gb249]?=some (.cells #[(.slice A0_0 l0_0.length c0_0),(.slice A0_1 l0_1.length c0_1)] 46 (0,0)))∧Aside0 (wc.heap[gb250]?=some (.cells #[.int .i64 a1_0,.string a1_1,.int .i64 a1_2,.int .i64 a1_3,.bool a1_4,.int .i64 a1_5,.int .i64 a1_6] 51 (0,0)))∧Aside0 (Below w.heap.size w wc))
   case first =>
    have H:=HC18.out
    clear HC18
    by_cases c19:a1_4=true
    ·subst c19
     rw [if_pos rfl] at H
     have H':=Y0 H
     clear H
     have hnb20:=NB250_249.out
     have hnc20:=NB249_250.out
     have ⟨hcz21_0,hcz21_1,hcz21_2,hcz21_3,hcz21_4,hcz21_5,hcz21_6,hfz21_0,hfz21_1,hfz21_2,hfz21_3,hfz21_4,hfz21_5,hfz21_6⟩:=sq_box7 BK250.out
     go_wp2
     go_meet
     case rel=>exact ⟨_,(true),(by first|rfl|(simp;done)|(simp [*];done)),H',⟨by have:=HJ2.out;first|omega|exact Nat.le_refl _⟩,⟨by (with_reducible repeat first|apply Y11|apply Y13|apply Y12);exact BK249.out⟩,⟨by (with_reducible repeat first|apply Y11|apply Y13|apply Y12);exact BK250.out⟩,⟨by repeat (with_reducible first|exact HB.out|apply Y3|apply Y1|apply Y2|refine Y4 ?_ GE249.out|refine Y4 ?_ GE250.out)⟩⟩
    replace c19:=Bool.eq_false_iff.mpr c19
    subst c19
    rw [if_neg (show ¬ (false=true) by decide)] at H
    have H':=Y0 H
    clear H
    have hnb22:=NB250_249.out
    have hnc22:=NB249_250.out
    have ⟨hcz23_0,hcz23_1,hcz23_2,hcz23_3,hcz23_4,hcz23_5,hcz23_6,hfz23_0,hfz23_1,hfz23_2,hfz23_3,hfz23_4,hfz23_5,hfz23_6⟩:=sq_box7 BK250.out
    go_wp2
    go_meet
    case rel=>exact ⟨_,((a1_5 != (-1))),(by first|rfl|(simp;done)|(simp [*];done)),H',⟨by have:=HJ2.out;first|omega|exact Nat.le_refl _⟩,⟨by (with_reducible repeat first|apply Y11|apply Y13|apply Y12);exact BK249.out⟩,⟨by (with_reducible repeat first|apply Y11|apply Y13|apply Y12);exact BK250.out⟩,⟨by repeat (with_reducible first|exact HB.out|apply Y3|apply Y1|apply Y2|refine Y4 ?_ GE249.out|refine Y4 ?_ GE250.out)⟩⟩
   case rest =>
    clear HC18
    obtain ⟨kq,x6_17,rfl,HA,HJ17,BK249,BK250,HB⟩:=hcut
    cases kq with
    | zero=>exact absurd HA.out (by simp [table_field.j1])
    | succ kj17 =>
     have H:=HA.out
     clear HA
     simp only [table_field.j1] at H
     by_cases c24:a1_5=(-1)
     ·rw [if_pos c24] at H
      have c24b0:(a1_5 == (-1))=true:=beq_iff_eq.mpr c24
      have c24b1:(a1_5 != (-1))=false:=bne_eq_false_iff_eq.mpr c24
      clear c24
      replace H:=Y17.mp H
      obtain ⟨t253,A250,H⟩:=H
      try dsimp only at H
      have A25:=Y0 A250
      clear A250
      by_cases c26:t253=true
      rotate_left
      ·replace c26:=Bool.eq_false_iff.mpr c26
       subst c26
       rw [if_neg (show ¬ (false=true) by decide)] at H
       obtain rfl:=Option.some.inj H
       have hnb43:=NB250_249.out
       have hnc43:=NB249_250.out
       have ⟨hcz44_0,hcz44_1,hcz44_2,hcz44_3,hcz44_4,hcz44_5,hcz44_6,hfz44_0,hfz44_1,hfz44_2,hfz44_3,hfz44_4,hfz44_5,hfz44_6⟩:=sq_box7 BK250.out
       go_wp2_with (first|((with_reducible refine gate_callee (f:=98) rfl ?_);refine goesL_ (some 53) rfl rfl Tryz.func98 (by kernel_rfl) rfl #[.int .i64 a1_0] rfl (by (try simp only [List.map_toArray,List.map_cons,List.map_nil]);first|done|rfl|(simp only [List.length_drop,List.length_take];rfl)) ?_;(with_reducible refine (table_number.calls a1_0 false _ A25.out).mono ?_);rintro e w' ⟨rfl,⟨nd,rfl⟩⟩;refine ⟨_,rfl,?_⟩))
       go_ret
       exact ⟨by first|rfl|(simp [] <;> rfl)|(simp [*] <;> rfl),by repeat (with_reducible first|exact HB.out|apply Y3|apply Y1|apply Y2|refine Y4 ?_ GE249.out|refine Y4 ?_ GE250.out)⟩
      subst c26
      rw [if_pos rfl] at H
      replace H:=Y17.mp H
      obtain ⟨t254,A270,H⟩:=H
      try dsimp only at H
      have A27:=Y0 A270
      clear A270
      by_cases c28:t254=true
      rotate_left
      ·replace c28:=Bool.eq_false_iff.mpr c28
       subst c28
       rw [if_neg (show ¬ (false=true) by decide)] at H
       obtain rfl:=Option.some.inj H
       have hnb41:=NB250_249.out
       have hnc41:=NB249_250.out
       have ⟨hcz42_0,hcz42_1,hcz42_2,hcz42_3,hcz42_4,hcz42_5,hcz42_6,hfz42_0,hfz42_1,hfz42_2,hfz42_3,hfz42_4,hfz42_5,hfz42_6⟩:=sq_box7 BK250.out
       go_wp2_with (first|((with_reducible refine gate_callee (f:=98) rfl ?_);refine goesL_ (some 53) rfl rfl Tryz.func98 (by kernel_rfl) rfl #[.int .i64 a1_0] rfl (by (try simp only [List.map_toArray,List.map_cons,List.map_nil]);first|done|rfl|(simp only [List.length_drop,List.length_take];rfl)) ?_;(with_reducible refine (table_number.calls a1_0 true _ A25.out).mono ?_);rintro e w' ⟨rfl,⟨nd,rfl⟩⟩;refine ⟨_,rfl,?_⟩)|(go_at_call 60;(with_reducible refine (table_in.calls a1_2 0 9 false _ A27.out).mono ?_);rintro e w' ⟨rfl,⟨nd,rfl⟩⟩))
       go_ret
       exact ⟨by first|rfl|(simp [] <;> rfl)|(simp [*] <;> rfl),by repeat (with_reducible first|exact HB.out|apply Y3|apply Y1|apply Y2|refine Y4 ?_ GE249.out|refine Y4 ?_ GE250.out)⟩
      subst c28
      rw [if_pos rfl] at H
      by_cases c29:x5_2=true
      rotate_left
      ·replace c29:=Bool.eq_false_iff.mpr c29
       subst c29
       rw [if_neg (show ¬ (false=true) by decide)] at H
       obtain rfl:=Option.some.inj H
       have hnb39:=NB250_249.out
       have hnc39:=NB249_250.out
       have ⟨hcz40_0,hcz40_1,hcz40_2,hcz40_3,hcz40_4,hcz40_5,hcz40_6,hfz40_0,hfz40_1,hfz40_2,hfz40_3,hfz40_4,hfz40_5,hfz40_6⟩:=sq_box7 BK250.out
       go_wp2_with (first|((with_reducible refine gate_callee (f:=98) rfl ?_);refine goesL_ (some 53) rfl rfl Tryz.func98 (by kernel_rfl) rfl #[.int .i64 a1_0] rfl (by (try simp only [List.map_toArray,List.map_cons,List.map_nil]);first|done|rfl|(simp only [List.length_drop,List.length_take];rfl)) ?_;(with_reducible refine (table_number.calls a1_0 true _ A25.out).mono ?_);rintro e w' ⟨rfl,⟨nd,rfl⟩⟩;refine ⟨_,rfl,?_⟩)|(go_at_call 60;(with_reducible refine (table_in.calls a1_2 0 9 true _ A27.out).mono ?_);rintro e w' ⟨rfl,⟨nd,rfl⟩⟩))
       go_ret
       exact ⟨by first|rfl|(simp [] <;> rfl)|(simp [*] <;> rfl),by repeat (with_reducible first|exact HB.out|apply Y3|apply Y1|apply Y2|refine Y4 ?_ GE249.out|refine Y4 ?_ GE250.out)⟩
      subst c29
      rw [if_pos rfl] at H
      replace H:=Y17.mp H
      obtain ⟨t255,A300,H⟩:=H
      try dsimp only at H
      have A30:=Y0 A300
      clear A300
      by_cases c31:t255=true
      rotate_left
      ·replace c31:=Bool.eq_false_iff.mpr c31
       subst c31
       rw [if_neg (show ¬ (false=true) by decide)] at H
       obtain rfl:=Option.some.inj H
       have hnb37:=NB250_249.out
       have hnc37:=NB249_250.out
       have ⟨hcz38_0,hcz38_1,hcz38_2,hcz38_3,hcz38_4,hcz38_5,hcz38_6,hfz38_0,hfz38_1,hfz38_2,hfz38_3,hfz38_4,hfz38_5,hfz38_6⟩:=sq_box7 BK250.out
       go_wp2_with (first|((with_reducible refine gate_callee (f:=98) rfl ?_);refine goesL_ (some 53) rfl rfl Tryz.func98 (by kernel_rfl) rfl #[.int .i64 a1_0] rfl (by (try simp only [List.map_toArray,List.map_cons,List.map_nil]);first|done|rfl|(simp only [List.length_drop,List.length_take];rfl)) ?_;(with_reducible refine (table_number.calls a1_0 true _ A25.out).mono ?_);rintro e w' ⟨rfl,⟨nd,rfl⟩⟩;refine ⟨_,rfl,?_⟩)|(go_at_call 60;(with_reducible refine (table_in.calls a1_2 0 9 true _ A27.out).mono ?_);rintro e w' ⟨rfl,⟨nd,rfl⟩⟩)|(go_at_call 60;(with_reducible refine (table_in.calls a1_6 0 30 false _ A30.out).mono ?_);rintro e w' ⟨rfl,⟨nd,rfl⟩⟩))
       go_ret
       exact ⟨by first|rfl|(simp [] <;> rfl)|(simp [*] <;> rfl),by repeat (with_reducible first|exact HB.out|apply Y3|apply Y1|apply Y2|refine Y4 ?_ GE249.out|refine Y4 ?_ GE250.out)⟩
      subst c31
      rw [if_pos rfl] at H
      by_cases c32:a1_6=0
      rotate_left
      ·rw [if_neg c32] at H
       have c32b0:(a1_6 == 0)=false:=beq_eq_false_iff_ne.mpr c32
       have c32b1:(a1_6 != 0)=true:=bne_iff_ne.mpr c32
       obtain rfl:=Option.some.inj H
       have hnb35:=NB250_249.out
       have hnc35:=NB249_250.out
       have ⟨hcz36_0,hcz36_1,hcz36_2,hcz36_3,hcz36_4,hcz36_5,hcz36_6,hfz36_0,hfz36_1,hfz36_2,hfz36_3,hfz36_4,hfz36_5,hfz36_6⟩:=sq_box7 BK250.out
       go_wp2_with (first|((with_reducible refine gate_callee (f:=98) rfl ?_);refine goesL_ (some 53) rfl rfl Tryz.func98 (by kernel_rfl) rfl #[.int .i64 a1_0] rfl (by (try simp only [List.map_toArray,List.map_cons,List.map_nil]);first|done|rfl|(simp only [List.length_drop,List.length_take];rfl)) ?_;(with_reducible refine (table_number.calls a1_0 true _ A25.out).mono ?_);rintro e w' ⟨rfl,⟨nd,rfl⟩⟩;refine ⟨_,rfl,?_⟩)|(go_at_call 60;(with_reducible refine (table_in.calls a1_2 0 9 true _ A27.out).mono ?_);rintro e w' ⟨rfl,⟨nd,rfl⟩⟩)|(go_at_call 60;(with_reducible refine (table_in.calls a1_6 0 30 true _ A30.out).mono ?_);rintro e w' ⟨rfl,⟨nd,rfl⟩⟩))
       go_ret
       exact ⟨by first|rfl|(simp [] <;> rfl)|(simp [*] <;> rfl),by repeat (with_reducible first|exact HB.out|apply Y3|apply Y1|apply Y2|refine Y4 ?_ GE249.out|refine Y4 ?_ GE250.out)⟩
      rw [if_pos c32] at H
      have c32b0:(a1_6 == 0)=true:=beq_iff_eq.mpr c32
      have c32b1:(a1_6 != 0)=false:=bne_eq_false_iff_eq.mpr c32
      clear c32
      obtain rfl:=Option.some.inj H
      have hnb33:=NB250_249.out
      have hnc33:=NB249_250.out
      have ⟨hcz34_0,hcz34_1,hcz34_2,hcz34_3,hcz34_4,hcz34_5,hcz34_6,hfz34_0,hfz34_1,hfz34_2,hfz34_3,hfz34_4,hfz34_5,hfz34_6⟩:=sq_box7 BK250.out
      go_wp2_with (first|((with_reducible refine gate_callee (f:=98) rfl ?_);refine goesL_ (some 53) rfl rfl Tryz.func98 (by kernel_rfl) rfl #[.int .i64 a1_0] rfl (by (try simp only [List.map_toArray,List.map_cons,List.map_nil]);first|done|rfl|(simp only [List.length_drop,List.length_take];rfl)) ?_;(with_reducible refine (table_number.calls a1_0 true _ A25.out).mono ?_);rintro e w' ⟨rfl,⟨nd,rfl⟩⟩;refine ⟨_,rfl,?_⟩)|(go_at_call 60;(with_reducible refine (table_in.calls a1_2 0 9 true _ A27.out).mono ?_);rintro e w' ⟨rfl,⟨nd,rfl⟩⟩)|(go_at_call 60;(with_reducible refine (table_in.calls a1_6 0 30 true _ A30.out).mono ?_);rintro e w' ⟨rfl,⟨nd,rfl⟩⟩))
      go_ret
      exact ⟨by first|rfl|(simp [] <;> rfl)|(simp [*] <;> rfl),by repeat (with_reducible first|exact HB.out|apply Y3|apply Y1|apply Y2|refine Y4 ?_ GE249.out|refine Y4 ?_ GE250.out)⟩
     rw [if_neg c24] at H
     have c24b0:(a1_5 == (-1))=false:=beq_eq_false_iff_ne.mpr c24
     have c24b1:(a1_5 != (-1))=true:=bne_iff_ne.mpr c24
     replace H:=Y17.mp H
     obtain ⟨t256,A450,H⟩:=H
     try dsimp only at H
     have A45:=Y0 A450
     clear A450
     by_cases c46:t256=true
     rotate_left
     ·replace c46:=Bool.eq_false_iff.mpr c46
      subst c46
      rw [if_neg (show ¬ (false=true) by decide)] at H
      replace H:=Y17.mp H
      obtain ⟨t260,A700,H⟩:=H
      try dsimp only at H
      have A70:=Y0 A700
      clear A700
      by_cases c71:t260=true
      rotate_left
      ·replace c71:=Bool.eq_false_iff.mpr c71
       subst c71
       rw [if_neg (show ¬ (false=true) by decide)] at H
       obtain rfl:=Option.some.inj H
       have hnb81:=NB250_249.out
       have hnc81:=NB249_250.out
       have ⟨hcz82_0,hcz82_1,hcz82_2,hcz82_3,hcz82_4,hcz82_5,hcz82_6,hfz82_0,hfz82_1,hfz82_2,hfz82_3,hfz82_4,hfz82_5,hfz82_6⟩:=sq_box7 BK250.out
       go_wp2_with (first|(go_at_call 99;(with_reducible refine (table_keyed.calls a1_5 false _ A45.out).mono ?_);rintro e w' ⟨rfl,⟨nd,rfl⟩⟩)|((with_reducible refine gate_callee (f:=98) rfl ?_);refine goesL_ (some 53) rfl rfl Tryz.func98 (by kernel_rfl) rfl #[.int .i64 a1_0] rfl (by (try simp only [List.map_toArray,List.map_cons,List.map_nil]);first|done|rfl|(simp only [List.length_drop,List.length_take];rfl)) ?_;(with_reducible refine (table_number.calls a1_0 false _ A70.out).mono ?_);rintro e w' ⟨rfl,⟨nd,rfl⟩⟩;refine ⟨_,rfl,?_⟩))
       go_ret
       exact ⟨by first|rfl|(simp [] <;> rfl)|(simp [*] <;> rfl),by repeat (with_reducible first|exact HB.out|apply Y3|apply Y1|apply Y2|refine Y4 ?_ GE249.out|refine Y4 ?_ GE250.out)⟩
      subst c71
      rw [if_pos rfl] at H
      replace H:=Y17.mp H
      obtain ⟨t261,A720,H⟩:=H
      try dsimp only at H
      have A72:=Y0 A720
      clear A720
      by_cases c73:t261=true
      rotate_left
      ·replace c73:=Bool.eq_false_iff.mpr c73
       subst c73
       rw [if_neg (show ¬ (false=true) by decide)] at H
       obtain rfl:=Option.some.inj H
       have hnb79:=NB250_249.out
       have hnc79:=NB249_250.out
       have ⟨hcz80_0,hcz80_1,hcz80_2,hcz80_3,hcz80_4,hcz80_5,hcz80_6,hfz80_0,hfz80_1,hfz80_2,hfz80_3,hfz80_4,hfz80_5,hfz80_6⟩:=sq_box7 BK250.out
       go_wp2_with (first|(go_at_call 99;(with_reducible refine (table_keyed.calls a1_5 false _ A45.out).mono ?_);rintro e w' ⟨rfl,⟨nd,rfl⟩⟩)|((with_reducible refine gate_callee (f:=98) rfl ?_);refine goesL_ (some 53) rfl rfl Tryz.func98 (by kernel_rfl) rfl #[.int .i64 a1_0] rfl (by (try simp only [List.map_toArray,List.map_cons,List.map_nil]);first|done|rfl|(simp only [List.length_drop,List.length_take];rfl)) ?_;(with_reducible refine (table_number.calls a1_0 true _ A70.out).mono ?_);rintro e w' ⟨rfl,⟨nd,rfl⟩⟩;refine ⟨_,rfl,?_⟩)|(go_at_call 60;(with_reducible refine (table_in.calls a1_2 0 9 false _ A72.out).mono ?_);rintro e w' ⟨rfl,⟨nd,rfl⟩⟩))
       go_ret
       exact ⟨by first|rfl|(simp [] <;> rfl)|(simp [*] <;> rfl),by repeat (with_reducible first|exact HB.out|apply Y3|apply Y1|apply Y2|refine Y4 ?_ GE249.out|refine Y4 ?_ GE250.out)⟩
      subst c73
      rw [if_pos rfl] at H
      by_cases c74:x5_2=true
      ·subst c74
       rw [if_pos rfl] at H
       obtain rfl:=Option.some.inj H
       have hnb75:=NB250_249.out
       have hnc75:=NB249_250.out
       have ⟨hcz76_0,hcz76_1,hcz76_2,hcz76_3,hcz76_4,hcz76_5,hcz76_6,hfz76_0,hfz76_1,hfz76_2,hfz76_3,hfz76_4,hfz76_5,hfz76_6⟩:=sq_box7 BK250.out
       go_wp2_with (first|(go_at_call 99;(with_reducible refine (table_keyed.calls a1_5 false _ A45.out).mono ?_);rintro e w' ⟨rfl,⟨nd,rfl⟩⟩)|((with_reducible refine gate_callee (f:=98) rfl ?_);refine goesL_ (some 53) rfl rfl Tryz.func98 (by kernel_rfl) rfl #[.int .i64 a1_0] rfl (by (try simp only [List.map_toArray,List.map_cons,List.map_nil]);first|done|rfl|(simp only [List.length_drop,List.length_take];rfl)) ?_;(with_reducible refine (table_number.calls a1_0 true _ A70.out).mono ?_);rintro e w' ⟨rfl,⟨nd,rfl⟩⟩;refine ⟨_,rfl,?_⟩)|(go_at_call 60;(with_reducible refine (table_in.calls a1_2 0 9 true _ A72.out).mono ?_);rintro e w' ⟨rfl,⟨nd,rfl⟩⟩))
       go_ret
       exact ⟨by first|rfl|(simp [] <;> rfl)|(simp [*] <;> rfl),by repeat (with_reducible first|exact HB.out|apply Y3|apply Y1|apply Y2|refine Y4 ?_ GE249.out|refine Y4 ?_ GE250.out)⟩
      replace c74:=Bool.eq_false_iff.mpr c74
      subst c74
      rw [if_neg (show ¬ (false=true) by decide)] at H
      obtain rfl:=Option.some.inj H
      have hnb77:=NB250_249.out
      have hnc77:=NB249_250.out
      have ⟨hcz78_0,hcz78_1,hcz78_2,hcz78_3,hcz78_4,hcz78_5,hcz78_6,hfz78_0,hfz78_1,hfz78_2,hfz78_3,hfz78_4,hfz78_5,hfz78_6⟩:=sq_box7 BK250.out
      go_wp2_with (first|(go_at_call 99;(with_reducible refine (table_keyed.calls a1_5 false _ A45.out).mono ?_);rintro e w' ⟨rfl,⟨nd,rfl⟩⟩)|((with_reducible refine gate_callee (f:=98) rfl ?_);refine goesL_ (some 53) rfl rfl Tryz.func98 (by kernel_rfl) rfl #[.int .i64 a1_0] rfl (by (try simp only [List.map_toArray,List.map_cons,List.map_nil]);first|done|rfl|(simp only [List.length_drop,List.length_take];rfl)) ?_;(with_reducible refine (table_number.calls a1_0 true _ A70.out).mono ?_);rintro e w' ⟨rfl,⟨nd,rfl⟩⟩;refine ⟨_,rfl,?_⟩)|(go_at_call 60;(with_reducible refine (table_in.calls a1_2 0 9 true _ A72.out).mono ?_);rintro e w' ⟨rfl,⟨nd,rfl⟩⟩))
      go_ret
      exact ⟨by first|rfl|(simp [] <;> rfl)|(simp [*] <;> rfl),by repeat (with_reducible first|exact HB.out|apply Y3|apply Y1|apply Y2|refine Y4 ?_ GE249.out|refine Y4 ?_ GE250.out)⟩
     subst c46
     rw [if_pos rfl] at H
     replace H:=Y17.mp H
     obtain ⟨t257,A470,H⟩:=H
     try dsimp only at H
     have A47:=Y0 A470
     clear A470
     by_cases c48:t257=true
     rotate_left
     ·replace c48:=Bool.eq_false_iff.mpr c48
      subst c48
      rw [if_neg (show ¬ (false=true) by decide)] at H
      obtain rfl:=Option.some.inj H
      have hnb68:=NB250_249.out
      have hnc68:=NB249_250.out
      have ⟨hcz69_0,hcz69_1,hcz69_2,hcz69_3,hcz69_4,hcz69_5,hcz69_6,hfz69_0,hfz69_1,hfz69_2,hfz69_3,hfz69_4,hfz69_5,hfz69_6⟩:=sq_box7 BK250.out
      go_wp2_with (first|(go_at_call 99;(with_reducible refine (table_keyed.calls a1_5 true _ A45.out).mono ?_);rintro e w' ⟨rfl,⟨nd,rfl⟩⟩)|((with_reducible refine gate_callee (f:=98) rfl ?_);refine goesL_ (some 53) rfl rfl Tryz.func98 (by kernel_rfl) rfl #[.int .i64 a1_0] rfl (by (try simp only [List.map_toArray,List.map_cons,List.map_nil]);first|done|rfl|(simp only [List.length_drop,List.length_take];rfl)) ?_;(with_reducible refine (table_number.calls a1_0 false _ A47.out).mono ?_);rintro e w' ⟨rfl,⟨nd,rfl⟩⟩;refine ⟨_,rfl,?_⟩))
      go_ret
      exact ⟨by first|rfl|(simp [] <;> rfl)|(simp [*] <;> rfl),by repeat (with_reducible first|exact HB.out|apply Y3|apply Y1|apply Y2|refine Y4 ?_ GE249.out|refine Y4 ?_ GE250.out)⟩
     subst c48
     rw [if_pos rfl] at H
     replace H:=Y17.mp H
     obtain ⟨t258,A490,H⟩:=H
     try dsimp only at H
     have A49:=Y0 A490
     clear A490
     by_cases c50:t258=true
     rotate_left
     ·replace c50:=Bool.eq_false_iff.mpr c50
      subst c50
      rw [if_neg (show ¬ (false=true) by decide)] at H
      obtain rfl:=Option.some.inj H
      have hnb66:=NB250_249.out
      have hnc66:=NB249_250.out
      have ⟨hcz67_0,hcz67_1,hcz67_2,hcz67_3,hcz67_4,hcz67_5,hcz67_6,hfz67_0,hfz67_1,hfz67_2,hfz67_3,hfz67_4,hfz67_5,hfz67_6⟩:=sq_box7 BK250.out
      go_wp2_with (first|(go_at_call 99;(with_reducible refine (table_keyed.calls a1_5 true _ A45.out).mono ?_);rintro e w' ⟨rfl,⟨nd,rfl⟩⟩)|((with_reducible refine gate_callee (f:=98) rfl ?_);refine goesL_ (some 53) rfl rfl Tryz.func98 (by kernel_rfl) rfl #[.int .i64 a1_0] rfl (by (try simp only [List.map_toArray,List.map_cons,List.map_nil]);first|done|rfl|(simp only [List.length_drop,List.length_take];rfl)) ?_;(with_reducible refine (table_number.calls a1_0 true _ A47.out).mono ?_);rintro e w' ⟨rfl,⟨nd,rfl⟩⟩;refine ⟨_,rfl,?_⟩)|(go_at_call 60;(with_reducible refine (table_in.calls a1_2 0 9 false _ A49.out).mono ?_);rintro e w' ⟨rfl,⟨nd,rfl⟩⟩))
      go_ret
      exact ⟨by first|rfl|(simp [] <;> rfl)|(simp [*] <;> rfl),by repeat (with_reducible first|exact HB.out|apply Y3|apply Y1|apply Y2|refine Y4 ?_ GE249.out|refine Y4 ?_ GE250.out)⟩
     subst c50
     rw [if_pos rfl] at H
     by_cases c51:x5_2=true
     rotate_left
     ·replace c51:=Bool.eq_false_iff.mpr c51
      subst c51
      rw [if_neg (show ¬ (false=true) by decide)] at H
      obtain rfl:=Option.some.inj H
      have hnb64:=NB250_249.out
      have hnc64:=NB249_250.out
      have ⟨hcz65_0,hcz65_1,hcz65_2,hcz65_3,hcz65_4,hcz65_5,hcz65_6,hfz65_0,hfz65_1,hfz65_2,hfz65_3,hfz65_4,hfz65_5,hfz65_6⟩:=sq_box7 BK250.out
      go_wp2_with (first|(go_at_call 99;(with_reducible refine (table_keyed.calls a1_5 true _ A45.out).mono ?_);rintro e w' ⟨rfl,⟨nd,rfl⟩⟩)|((with_reducible refine gate_callee (f:=98) rfl ?_);refine goesL_ (some 53) rfl rfl Tryz.func98 (by kernel_rfl) rfl #[.int .i64 a1_0] rfl (by (try simp only [List.map_toArray,List.map_cons,List.map_nil]);first|done|rfl|(simp only [List.length_drop,List.length_take];rfl)) ?_;(with_reducible refine (table_number.calls a1_0 true _ A47.out).mono ?_);rintro e w' ⟨rfl,⟨nd,rfl⟩⟩;refine ⟨_,rfl,?_⟩)|(go_at_call 60;(with_reducible refine (table_in.calls a1_2 0 9 true _ A49.out).mono ?_);rintro e w' ⟨rfl,⟨nd,rfl⟩⟩))
      go_ret
      exact ⟨by first|rfl|(simp [] <;> rfl)|(simp [*] <;> rfl),by repeat (with_reducible first|exact HB.out|apply Y3|apply Y1|apply Y2|refine Y4 ?_ GE249.out|refine Y4 ?_ GE250.out)⟩
     subst c51
     rw [if_pos rfl] at H
     by_cases c52:a1_4=true
     ·subst c52
      rw [if_pos rfl] at H
      obtain rfl:=Option.some.inj H
      have hnb53:=NB250_249.out
      have hnc53:=NB249_250.out
      have ⟨hcz54_0,hcz54_1,hcz54_2,hcz54_3,hcz54_4,hcz54_5,hcz54_6,hfz54_0,hfz54_1,hfz54_2,hfz54_3,hfz54_4,hfz54_5,hfz54_6⟩:=sq_box7 BK250.out
      go_wp2_with (first|(go_at_call 99;(with_reducible refine (table_keyed.calls a1_5 true _ A45.out).mono ?_);rintro e w' ⟨rfl,⟨nd,rfl⟩⟩)|((with_reducible refine gate_callee (f:=98) rfl ?_);refine goesL_ (some 53) rfl rfl Tryz.func98 (by kernel_rfl) rfl #[.int .i64 a1_0] rfl (by (try simp only [List.map_toArray,List.map_cons,List.map_nil]);first|done|rfl|(simp only [List.length_drop,List.length_take];rfl)) ?_;(with_reducible refine (table_number.calls a1_0 true _ A47.out).mono ?_);rintro e w' ⟨rfl,⟨nd,rfl⟩⟩;refine ⟨_,rfl,?_⟩)|(go_at_call 60;(with_reducible refine (table_in.calls a1_2 0 9 true _ A49.out).mono ?_);rintro e w' ⟨rfl,⟨nd,rfl⟩⟩))
      go_ret
      exact ⟨by first|rfl|(simp [] <;> rfl)|(simp [*] <;> rfl),by repeat (with_reducible first|exact HB.out|apply Y3|apply Y1|apply Y2|refine Y4 ?_ GE249.out|refine Y4 ?_ GE250.out)⟩
     replace c52:=Bool.eq_false_iff.mpr c52
     subst c52
     rw [if_neg (show ¬ (false=true) by decide)] at H
     replace H:=Y17.mp H
     obtain ⟨t259,A550,H⟩:=H
     try dsimp only at H
     have A55:=Y0 A550
     clear A550
     by_cases c56:t259=true
     rotate_left
     ·replace c56:=Bool.eq_false_iff.mpr c56
      subst c56
      rw [if_neg (show ¬ (false=true) by decide)] at H
      obtain rfl:=Option.some.inj H
      have hnb62:=NB250_249.out
      have hnc62:=NB249_250.out
      have ⟨hcz63_0,hcz63_1,hcz63_2,hcz63_3,hcz63_4,hcz63_5,hcz63_6,hfz63_0,hfz63_1,hfz63_2,hfz63_3,hfz63_4,hfz63_5,hfz63_6⟩:=sq_box7 BK250.out
      go_wp2_with (first|(go_at_call 99;(with_reducible refine (table_keyed.calls a1_5 true _ A45.out).mono ?_);rintro e w' ⟨rfl,⟨nd,rfl⟩⟩)|((with_reducible refine gate_callee (f:=98) rfl ?_);refine goesL_ (some 53) rfl rfl Tryz.func98 (by kernel_rfl) rfl #[.int .i64 a1_0] rfl (by (try simp only [List.map_toArray,List.map_cons,List.map_nil]);first|done|rfl|(simp only [List.length_drop,List.length_take];rfl)) ?_;(with_reducible refine (table_number.calls a1_0 true _ A47.out).mono ?_);rintro e w' ⟨rfl,⟨nd,rfl⟩⟩;refine ⟨_,rfl,?_⟩)|(go_at_call 60;(with_reducible refine (table_in.calls a1_2 0 9 true _ A49.out).mono ?_);rintro e w' ⟨rfl,⟨nd,rfl⟩⟩)|(go_at_call 60;(with_reducible refine (table_in.calls a1_6 0 30 false _ A55.out).mono ?_);rintro e w' ⟨rfl,⟨nd,rfl⟩⟩))
      go_ret
      exact ⟨by first|rfl|(simp [] <;> rfl)|(simp [*] <;> rfl),by repeat (with_reducible first|exact HB.out|apply Y3|apply Y1|apply Y2|refine Y4 ?_ GE249.out|refine Y4 ?_ GE250.out)⟩
     subst c56
     rw [if_pos rfl] at H
     by_cases c57:a1_6=0
     rotate_left
     ·rw [if_neg c57] at H
      have c57b0:(a1_6 == 0)=false:=beq_eq_false_iff_ne.mpr c57
      have c57b1:(a1_6 != 0)=true:=bne_iff_ne.mpr c57
      obtain rfl:=Option.some.inj H
      have hnb60:=NB250_249.out
      have hnc60:=NB249_250.out
      have ⟨hcz61_0,hcz61_1,hcz61_2,hcz61_3,hcz61_4,hcz61_5,hcz61_6,hfz61_0,hfz61_1,hfz61_2,hfz61_3,hfz61_4,hfz61_5,hfz61_6⟩:=sq_box7 BK250.out
      go_wp2_with (first|(go_at_call 99;(with_reducible refine (table_keyed.calls a1_5 true _ A45.out).mono ?_);rintro e w' ⟨rfl,⟨nd,rfl⟩⟩)|((with_reducible refine gate_callee (f:=98) rfl ?_);refine goesL_ (some 53) rfl rfl Tryz.func98 (by kernel_rfl) rfl #[.int .i64 a1_0] rfl (by (try simp only [List.map_toArray,List.map_cons,List.map_nil]);first|done|rfl|(simp only [List.length_drop,List.length_take];rfl)) ?_;(with_reducible refine (table_number.calls a1_0 true _ A47.out).mono ?_);rintro e w' ⟨rfl,⟨nd,rfl⟩⟩;refine ⟨_,rfl,?_⟩)|(go_at_call 60;(with_reducible refine (table_in.calls a1_2 0 9 true _ A49.out).mono ?_);rintro e w' ⟨rfl,⟨nd,rfl⟩⟩)|(go_at_call 60;(with_reducible refine (table_in.calls a1_6 0 30 true _ A55.out).mono ?_);rintro e w' ⟨rfl,⟨nd,rfl⟩⟩))
      go_ret
      exact ⟨by first|rfl|(simp [] <;> rfl)|(simp [*] <;> rfl),by repeat (with_reducible first|exact HB.out|apply Y3|apply Y1|apply Y2|refine Y4 ?_ GE249.out|refine Y4 ?_ GE250.out)⟩
     rw [if_pos c57] at H
     have c57b0:(a1_6 == 0)=true:=beq_iff_eq.mpr c57
     have c57b1:(a1_6 != 0)=false:=bne_eq_false_iff_eq.mpr c57
     clear c57
     obtain rfl:=Option.some.inj H
     have hnb58:=NB250_249.out
     have hnc58:=NB249_250.out
     have ⟨hcz59_0,hcz59_1,hcz59_2,hcz59_3,hcz59_4,hcz59_5,hcz59_6,hfz59_0,hfz59_1,hfz59_2,hfz59_3,hfz59_4,hfz59_5,hfz59_6⟩:=sq_box7 BK250.out
     go_wp2_with (first|(go_at_call 99;(with_reducible refine (table_keyed.calls a1_5 true _ A45.out).mono ?_);rintro e w' ⟨rfl,⟨nd,rfl⟩⟩)|((with_reducible refine gate_callee (f:=98) rfl ?_);refine goesL_ (some 53) rfl rfl Tryz.func98 (by kernel_rfl) rfl #[.int .i64 a1_0] rfl (by (try simp only [List.map_toArray,List.map_cons,List.map_nil]);first|done|rfl|(simp only [List.length_drop,List.length_take];rfl)) ?_;(with_reducible refine (table_number.calls a1_0 true _ A47.out).mono ?_);rintro e w' ⟨rfl,⟨nd,rfl⟩⟩;refine ⟨_,rfl,?_⟩)|(go_at_call 60;(with_reducible refine (table_in.calls a1_2 0 9 true _ A49.out).mono ?_);rintro e w' ⟨rfl,⟨nd,rfl⟩⟩)|(go_at_call 60;(with_reducible refine (table_in.calls a1_6 0 30 true _ A55.out).mono ?_);rintro e w' ⟨rfl,⟨nd,rfl⟩⟩))
     go_ret
     exact ⟨by first|rfl|(simp [] <;> rfl)|(simp [*] <;> rfl),by repeat (with_reducible first|exact HB.out|apply Y3|apply Y1|apply Y2|refine Y4 ?_ GE249.out|refine Y4 ?_ GE250.out)⟩
def SameT (w:World) (b:Bool) (e:Ending) (w':World):Prop:=e = .returned (.bool b)∧Below w.heap.size w w'
def idxW {α:Type} (p:α→Bool):List α→Int→Int
 | [],_=>-1
 | x :: r,i=>if p x=true then i else idxW p r (i + 1)
def hasName (x:S51) (nm:ByteArray):Bool:=x.f1.toList == nm.toList
def hasNo (x:S51) (no:Int):Bool:=x.f0 == no
def msgName (x:S57) (nm:ByteArray):Bool:=x.f0.toList == nm.toList
theorem find_c (x:S51) (nb:Nat) (nm:ByteArray) (b:Bool) (hb:hasName x nm=b) (W:World) (hn:W.heap[nb]?=some (.cells #[.string nm] 9 (0,0))) :
  Calls Tryz.prog 65 #[.agg #[.int .i64 x.f0,.string x.f1,.int .i64 x.f2,.int .i64 x.f3,.bool x.f4,.int .i64 x.f5,.int .i64 x.f6],.pointer (some ⟨nb,0,none⟩)] W (SameT W b):=by
 have c0:∀ o,(W.alloc o).cell? ⟨nb,0,none⟩=some (.string nm):=fun o=>(blk_cell (blk_alloc hn o) 0).trans rfl
 clear hn
 unfold hasName at hb
 subst hb
 by_cases he:x.f1=nm
 ·subst he
  have q2:(x.f1.toList == x.f1.toList)=true:=beq_self_eq_true _
  rw [q2]
  go_enter Tryz.func65,Tryz.ntmps65
  go_wp2
  go_ret
  exact ⟨rfl,below_alloc (Below.refl _ _) _⟩
 ·have q2:(x.f1.toList == nm.toList)=false:=by rw [beq_eq_false_iff_ne];exact fun e=>he (toList_inj e)
  have q3:decide (x.f1=nm)=false:=decide_eq_false he
  rw [q2]
  go_enter Tryz.func65,Tryz.ntmps65
  go_wp2
  go_ret
  exact ⟨rfl,below_alloc (Below.refl _ _) _⟩
theorem by_c (x:S51) (nb:Nat) (nm:Int) (b:Bool) (hb:hasNo x nm=b) (W:World) (hn:W.heap[nb]?=some (.cells #[.int .i64 nm] 3 (0,0))) :
  Calls Tryz.prog 66 #[.agg #[.int .i64 x.f0,.string x.f1,.int .i64 x.f2,.int .i64 x.f3,.bool x.f4,.int .i64 x.f5,.int .i64 x.f6],.pointer (some ⟨nb,0,none⟩)] W (SameT W b):=by
 have c0:∀ o,(W.alloc o).cell? ⟨nb,0,none⟩=some (.int .i64 nm):=fun o=>(blk_cell (blk_alloc hn o) 0).trans rfl
 clear hn
 unfold hasNo at hb
 subst hb
 by_cases he:x.f0=nm
 ·have q2:(x.f0 == nm)=true:=by rw [he];exact beq_self_eq_true _
  rw [q2]
  go_enter Tryz.func66,Tryz.ntmps66
  go_wp2
  go_ret
  exact ⟨rfl,below_alloc (Below.refl _ _) _⟩
 ·have q2:(x.f0 == nm)=false:=beq_eq_false_iff_ne.2 he
  rw [q2]
  go_enter Tryz.func66,Tryz.ntmps66
  go_wp2
  go_ret
  exact ⟨rfl,below_alloc (Below.refl _ _) _⟩
theorem root_c (x:S57) (A3:Option Addr) (c3:Nat) (nb:Nat) (nm:ByteArray) (b:Bool) (hb:msgName x nm=b) (W:World) (hn:W.heap[nb]?=some (.cells #[.string nm] 9 (0,0))) :
  Calls Tryz.prog 68 #[.agg #[.string x.f0,.slice A3 x.f1.length c3],.pointer (some ⟨nb,0,none⟩)] W (SameT W b):=by
 have c0:∀ o,(W.alloc o).cell? ⟨nb,0,none⟩=some (.string nm):=fun o=>(blk_cell (blk_alloc hn o) 0).trans rfl
 clear hn
 unfold msgName at hb
 subst hb
 by_cases he:x.f0=nm
 ·subst he
  have q2:(x.f0.toList == x.f0.toList)=true:=beq_self_eq_true _
  rw [q2]
  go_enter Tryz.func68,Tryz.ntmps68
  go_wp2
  go_ret
  exact ⟨rfl,below_alloc (Below.refl _ _) _⟩
 ·have q2:(x.f0.toList == nm.toList)=false:=by rw [beq_eq_false_iff_ne];exact fun e=>he (toList_inj e)
  have q3:decide (x.f0=nm)=false:=decide_eq_false he
  rw [q2]
  go_enter Tryz.func68,Tryz.ntmps68
  go_wp2
  go_ret
  exact ⟨rfl,below_alloc (Below.refl _ _) _⟩
set_option maxRecDepth 100000 in
set_option maxHeartbeats 4000000 in
theorem idx_find (l:List (S51)) (A:Option Addr) (c:Nat) (nb:Nat) (nm:ByteArray) (w:World) (hC:k51.C w A l.length l) (hc:l.length≤c) (hn:w.heap[nb]?=some (.cells #[.string nm] 9 (0,0))) :
  Calls Tryz.prog 108 #[.slice A l.length c,.func (.func 65) #[] #[.pointer (some ⟨nb,0,none⟩)]] w fun e w'=>e = .returned (.int .i64 (idxW (fun x=>hasName x nm) l 0))∧Below w.heap.size w w':=by
 have HC:=Y0 hC
 have HN:=Y0 hn
 have hm1:=Kd.C_max hC
 clear hC hn
 go_enter Tryz.func108,Tryz.ntmps108
 go_wp2
 go_loopg [8] l.length (fun n v W=>∃ i:Nat,v = .int .i64 i∧Aside0 (idxW (fun x=>hasName x nm) (l.drop i) i=idxW (fun x=>hasName x nm) l 0)∧Aside0 (Below w.heap.size w W)∧Aside0 (i + n=l.length))
 case atStart=>exact ⟨0,rfl,⟨rfl⟩,⟨Below.refl _ _⟩,⟨by omega⟩⟩
 case round =>
  obtain ⟨i,rfl,HS,HB,HL⟩:=hrel
  by_cases hlt:i < l.length
  ·have hst:=HS.out
   rw [List.drop_eq_getElem_cons hlt,idxW] at hst
   have HT:=Y0 hst
   clear HS hst
   have d3:(0:Int)≤(i:Int):=by omega
   have d4:(i:Int) < (l.length:Int):=by omega
   obtain ⟨ad,had,z0,z1,z2,z3,z4,z5,z6⟩:=at_T51 HC.out i d3 d4
   obtain ⟨x,hx⟩:∃ x,x=l[i]'hlt:=⟨_,rfl⟩
   have hrd:rd_T51 l i=x:=by unfold rd_T51;rw [hx,List.getD_eq_getElem?_getD];simp [hlt]
   rw [hrd] at z0 z1 z2 z3 z4 z5 z6
   rw [Int.toNat_natCast] at z0 z1 z2 z3 z4 z5 z6
   replace z0:=(HB.out.cell (World.block_lt_of_cell? w _ z0)).trans z0
   replace z1:=(HB.out.cell (World.block_lt_of_cell? w _ z1)).trans z1
   replace z2:=(HB.out.cell (World.block_lt_of_cell? w _ z2)).trans z2
   replace z3:=(HB.out.cell (World.block_lt_of_cell? w _ z3)).trans z3
   replace z4:=(HB.out.cell (World.block_lt_of_cell? w _ z4)).trans z4
   replace z5:=(HB.out.cell (World.block_lt_of_cell? w _ z5)).trans z5
   replace z6:=(HB.out.cell (World.block_lt_of_cell? w _ z6)).trans z6
   clear hrd
   subst had
   rw [← hx] at HT
   clear hx
   obtain ⟨b,hb⟩:∃ b,hasName x nm=b:=⟨_,rfl⟩
   rw [hb] at HT
   have HBX:=Y0 hb
   have HN1:=Y0 (blk_below HN.out HB.out)
   clear hb
   cases gk with
   | zero=>have:=HL.out;omega
   | succ k1 =>
    cases b
    ·have hF:Aside0 (idxW (fun x=>hasName x nm) (l.drop (i + 1)) ((i + 1:Nat):Int)=idxW (fun x=>hasName x nm) l 0):=⟨HT.out⟩
     clear HT
     go_wp2_with (go_at_call 65;refine (find_c x nb nm _ HBX.out _ HN1.out).mono ?_;rintro e W1 ⟨rfl,hB1⟩)
     go_roundg k1
     case measure=>omega
     case rel=>exact ⟨i + 1,by go_num,hF,⟨below_step HB.out hB1⟩,⟨by have:=HL.out;omega⟩⟩
    ·have hT:Aside0 ((i:Int)=idxW (fun x=>hasName x nm) l 0):=⟨HT.out⟩
     clear HT
     go_wp2_with (go_at_call 65;refine (find_c x nb nm _ HBX.out _ HN1.out).mono ?_;rintro e W1 ⟨rfl,hB1⟩)
     go_ret
     exact ⟨by rw [← hT.out];rfl,below_step HB.out hB1⟩
  ·have hF:Aside0 ((-1:Int)=idxW (fun x=>hasName x nm) l 0):=⟨by rw [← HS.out,List.drop_of_length_le (by omega)];rfl⟩
   clear HS
   go_wp2
   go_ret
   exact ⟨by rw [← hF.out];rfl,HB.out⟩
set_option maxRecDepth 100000 in
set_option maxHeartbeats 4000000 in
theorem idx_by (l:List (S51)) (A:Option Addr) (c:Nat) (nb:Nat) (nm:Int) (w:World) (hC:k51.C w A l.length l) (hc:l.length≤c) (hn:w.heap[nb]?=some (.cells #[.int .i64 nm] 3 (0,0))) :
  Calls Tryz.prog 108 #[.slice A l.length c,.func (.func 66) #[] #[.pointer (some ⟨nb,0,none⟩)]] w fun e w'=>e = .returned (.int .i64 (idxW (fun x=>hasNo x nm) l 0))∧Below w.heap.size w w':=by
 have HC:=Y0 hC
 have HN:=Y0 hn
 have hm1:=Kd.C_max hC
 clear hC hn
 go_enter Tryz.func108,Tryz.ntmps108
 go_wp2
 go_loopg [8] l.length (fun n v W=>∃ i:Nat,v = .int .i64 i∧Aside0 (idxW (fun x=>hasNo x nm) (l.drop i) i=idxW (fun x=>hasNo x nm) l 0)∧Aside0 (Below w.heap.size w W)∧Aside0 (i + n=l.length))
 case atStart=>exact ⟨0,rfl,⟨rfl⟩,⟨Below.refl _ _⟩,⟨by omega⟩⟩
 case round =>
  obtain ⟨i,rfl,HS,HB,HL⟩:=hrel
  by_cases hlt:i < l.length
  ·have hst:=HS.out
   rw [List.drop_eq_getElem_cons hlt,idxW] at hst
   have HT:=Y0 hst
   clear HS hst
   have d3:(0:Int)≤(i:Int):=by omega
   have d4:(i:Int) < (l.length:Int):=by omega
   obtain ⟨ad,had,z0,z1,z2,z3,z4,z5,z6⟩:=at_T51 HC.out i d3 d4
   obtain ⟨x,hx⟩:∃ x,x=l[i]'hlt:=⟨_,rfl⟩
   have hrd:rd_T51 l i=x:=by unfold rd_T51;rw [hx,List.getD_eq_getElem?_getD];simp [hlt]
   rw [hrd] at z0 z1 z2 z3 z4 z5 z6
   rw [Int.toNat_natCast] at z0 z1 z2 z3 z4 z5 z6
   replace z0:=(HB.out.cell (World.block_lt_of_cell? w _ z0)).trans z0
   replace z1:=(HB.out.cell (World.block_lt_of_cell? w _ z1)).trans z1
   replace z2:=(HB.out.cell (World.block_lt_of_cell? w _ z2)).trans z2
   replace z3:=(HB.out.cell (World.block_lt_of_cell? w _ z3)).trans z3
   replace z4:=(HB.out.cell (World.block_lt_of_cell? w _ z4)).trans z4
   replace z5:=(HB.out.cell (World.block_lt_of_cell? w _ z5)).trans z5
   replace z6:=(HB.out.cell (World.block_lt_of_cell? w _ z6)).trans z6
   clear hrd
   subst had
   rw [← hx] at HT
   clear hx
   obtain ⟨b,hb⟩:∃ b,hasNo x nm=b:=⟨_,rfl⟩
   rw [hb] at HT
   have HBX:=Y0 hb
   have HN1:=Y0 (blk_below HN.out HB.out)
   clear hb
   cases gk with
   | zero=>have:=HL.out;omega
   | succ k1 =>
    cases b
    ·have hF:Aside0 (idxW (fun x=>hasNo x nm) (l.drop (i + 1)) ((i + 1:Nat):Int)=idxW (fun x=>hasNo x nm) l 0):=⟨HT.out⟩
     clear HT
     go_wp2_with (go_at_call 66;refine (by_c x nb nm _ HBX.out _ HN1.out).mono ?_;rintro e W1 ⟨rfl,hB1⟩)
     go_roundg k1
     case measure=>omega
     case rel=>exact ⟨i + 1,by go_num,hF,⟨below_step HB.out hB1⟩,⟨by have:=HL.out;omega⟩⟩
    ·have hT:Aside0 ((i:Int)=idxW (fun x=>hasNo x nm) l 0):=⟨HT.out⟩
     clear HT
     go_wp2_with (go_at_call 66;refine (by_c x nb nm _ HBX.out _ HN1.out).mono ?_;rintro e W1 ⟨rfl,hB1⟩)
     go_ret
     exact ⟨by rw [← hT.out];rfl,below_step HB.out hB1⟩
  ·have hF:Aside0 ((-1:Int)=idxW (fun x=>hasNo x nm) l 0):=⟨by rw [← HS.out,List.drop_of_length_le (by omega)];rfl⟩
   clear HS
   go_wp2
   go_ret
   exact ⟨by rw [← hF.out];rfl,HB.out⟩
set_option maxRecDepth 100000 in
set_option maxHeartbeats 4000000 in
theorem idx_root (l:List (S57)) (A:Option Addr) (c:Nat) (nb:Nat) (nm:ByteArray) (w:World) (hC:k57.C w A l.length l) (hc:l.length≤c) (hn:w.heap[nb]?=some (.cells #[.string nm] 9 (0,0))) :
  Calls Tryz.prog 67 #[.slice A l.length c,.func (.func 68) #[] #[.pointer (some ⟨nb,0,none⟩)]] w fun e w'=>e = .returned (.int .i64 (idxW (fun x=>msgName x nm) l 0))∧Below w.heap.size w w':=by
 have HC:=Y0 hC
 have HN:=Y0 hn
 have hm1:=Kd.C_max hC
 clear hC hn
 go_enter Tryz.func67,Tryz.ntmps67
 go_wp2
 go_loopg [8] l.length (fun n v W=>∃ i:Nat,v = .int .i64 i∧Aside0 (idxW (fun x=>msgName x nm) (l.drop i) i=idxW (fun x=>msgName x nm) l 0)∧Aside0 (Below w.heap.size w W)∧Aside0 (i + n=l.length))
 case atStart=>exact ⟨0,rfl,⟨rfl⟩,⟨Below.refl _ _⟩,⟨by omega⟩⟩
 case round =>
  obtain ⟨i,rfl,HS,HB,HL⟩:=hrel
  by_cases hlt:i < l.length
  ·have hst:=HS.out
   rw [List.drop_eq_getElem_cons hlt,idxW] at hst
   have HT:=Y0 hst
   clear HS hst
   have d3:(0:Int)≤(i:Int):=by omega
   have d4:(i:Int) < (l.length:Int):=by omega
   obtain ⟨ad,A3,c3,had,z0,z1,lc3,kc3⟩:=at_T57 HC.out i d3 d4
   obtain ⟨x,hx⟩:∃ x,x=l[i]'hlt:=⟨_,rfl⟩
   have hrd:rd_T57 l i=x:=by unfold rd_T57;rw [hx,List.getD_eq_getElem?_getD];simp [hlt]
   rw [hrd] at z0 z1 lc3 kc3
   rw [Int.toNat_natCast] at z0 z1
   replace z0:=(HB.out.cell (World.block_lt_of_cell? w _ z0)).trans z0
   replace z1:=(HB.out.cell (World.block_lt_of_cell? w _ z1)).trans z1
   clear hrd
   subst had
   rw [← hx] at HT
   clear hx
   obtain ⟨b,hb⟩:∃ b,msgName x nm=b:=⟨_,rfl⟩
   rw [hb] at HT
   have HBX:=Y0 hb
   have HN1:=Y0 (blk_below HN.out HB.out)
   clear hb
   cases gk with
   | zero=>have:=HL.out;omega
   | succ k1 =>
    cases b
    ·have hF:Aside0 (idxW (fun x=>msgName x nm) (l.drop (i + 1)) ((i + 1:Nat):Int)=idxW (fun x=>msgName x nm) l 0):=⟨HT.out⟩
     clear HT
     go_wp2_with (go_at_call 68;refine (root_c x A3 c3 nb nm _ HBX.out _ HN1.out).mono ?_;rintro e W1 ⟨rfl,hB1⟩)
     go_roundg k1
     case measure=>omega
     case rel=>exact ⟨i + 1,by go_num,hF,⟨below_step HB.out hB1⟩,⟨by have:=HL.out;omega⟩⟩
    ·have hT:Aside0 ((i:Int)=idxW (fun x=>msgName x nm) l 0):=⟨HT.out⟩
     clear HT
     go_wp2_with (go_at_call 68;refine (root_c x A3 c3 nb nm _ HBX.out _ HN1.out).mono ?_;rintro e W1 ⟨rfl,hB1⟩)
     go_ret
     exact ⟨by rw [← hT.out];rfl,below_step HB.out hB1⟩
  ·have hF:Aside0 ((-1:Int)=idxW (fun x=>msgName x nm) l 0):=⟨by rw [← HS.out,List.drop_of_length_le (by omega)];rfl⟩
   clear HS
   go_wp2
   go_ret
   exact ⟨by rw [← hF.out];rfl,HB.out⟩
def cntO {κ:Type} [DecidableEq κ] (ks:List κ) (i:Nat) (x:κ):Option Int:=if (ks.take i).count x=0 then none else some ((ks.take i).count x:Int)
def cntN {κ:Type} [DecidableEq κ] (ks:List κ) (i:Nat) (x:κ):Nat:=(ks.take i).count x
theorem cntN_le {κ:Type} [DecidableEq κ] (ks:List κ) (i:Nat) (x:κ):cntN ks i x≤i:=Nat.le_trans List.count_le_length (by simp;omega)
theorem cntO_get {κ:Type} [DecidableEq κ] (ks:List κ) (i:Nat) (x:κ):(cntO ks i x).getD 0=(cntN ks i x:Int):=by
 unfold cntO cntN
 by_cases h:(ks.take i).count x=0
 ·rw [if_pos h,h];rfl
 ·rw [if_neg h];rfl
def leftO {κ:Type} [DecidableEq κ] (ks:List κ) (i:Nat) (x:κ):Option Int:=if ks.count x=0 then none else if ks.count x=1∧x ∈ ks.take i then none else some (ks.count x:Int)
def uniqB {κ:Type} [DecidableEq κ] (ks:List κ):Bool:=decide (∀ x ∈ ks,ks.count x=1)
theorem wf_i64 {q:Int} (h : -9223372036854775808≤q∧q≤9223372036854775807):(Lit.int .i64 q).wf=true:=by
 simp [Lit.wf,IntKind.min,IntKind.max,IntKind.signed,IntKind.bits]
 omega
section
variable {κ:Type} [DecidableEq κ] (ks:List κ) (i:Nat) (hi:i < ks.length) (y:κ) (hy:ks[i]=y)
include hi hy
theorem cntO_step (q:Nat) (hq:q=cntN ks i y) (x:κ):(if x=y then some ((q:Int) + 1) else cntO ks i x)=cntO ks (i + 1) x:=by
 unfold cntN at hq
 unfold cntO
 rw [List.take_succ_eq_append_getElem hi,List.count_append,hy]
 by_cases h:x=y
 ·subst h
  rw [if_pos rfl,← hq]
  simp
 ·rw [if_neg h]
  have:List.count x [y]=0:=by rw [List.count_eq_zero];simpa using h
  rw [this,Nat.add_zero]
theorem left_del (h1:(leftO ks i y).getD 0=1) (x:κ):(if x=y then none else leftO ks i x)=leftO ks (i + 1) x:=by
 have hm:y ∈ ks:=by rw [← hy];exact List.getElem_mem hi
 have hp:0 < ks.count y:=List.count_pos_iff.2 hm
 have hc:ks.count y=1:=by
  unfold leftO at h1
  rw [if_neg (by omega)] at h1
  split at h1
  ·simp at h1
  ·simp at h1;omega
 unfold leftO
 rw [List.take_succ_eq_append_getElem hi,hy]
 by_cases h:x=y
 ·subst h
  simp [hc]
 ·simp [h]
theorem left_keep (h1:(leftO ks i y).getD 0≠1) (x:κ):leftO ks i x=leftO ks (i + 1) x:=by
 have hm:y ∈ ks:=by rw [← hy];exact List.getElem_mem hi
 have hp:0 < ks.count y:=List.count_pos_iff.2 hm
 have hc:ks.count y≠1:=by
  intro hc
  have hn:y ∉ ks.take i:=by
   intro hn
   have h2:1≤(ks.take i).count y:=List.count_pos_iff.2 hn
   have h3:1≤(ks.drop i).count y:=List.count_pos_iff.2 (by rw [List.drop_eq_getElem_cons hi,hy];simp)
   have h4:=congrArg (List.count y) (List.take_append_drop i ks)
   rw [List.count_append] at h4
   omega
  unfold leftO at h1
  rw [if_neg (by omega),if_neg (fun h=>hn h.2),hc] at h1
  exact h1 rfl
 unfold leftO
 rw [List.take_succ_eq_append_getElem hi,hy]
 by_cases h:x=y
 ·subst h
  simp [hc]
 ·simp [h]
end
section
variable {κ:Type} [DecidableEq κ] (ks:List κ) (i:Nat) (hi:ks.length≤i)
include hi
theorem left_start (x:κ):cntO ks i x=leftO ks 0 x:=by
 unfold cntO leftO
 rw [List.take_of_length_le hi]
 by_cases h:ks.count x=0
 ·rw [if_pos h,if_pos h]
 ·rw [if_neg h,if_neg h,if_neg (fun h=>by simp at h)]
theorem left_end:((∀ x,leftO ks i x=none)→uniqB ks=true)∧(uniqB ks=true→∀ x,leftO ks i x=none):=by
 unfold leftO uniqB
 rw [List.take_of_length_le hi]
 constructor
 ·intro h
  rw [decide_eq_true_eq]
  intro x hx
  have h1:=h x
  have hp:0 < ks.count x:=List.count_pos_iff.2 hx
  rw [if_neg (by omega)] at h1
  by_cases hc:ks.count x=1
  ·exact hc
  ·rw [if_neg (fun h=>hc h.1)] at h1;cases h1
 ·intro h x
  rw [decide_eq_true_eq] at h
  by_cases hc:ks.count x=0
  ·rw [if_pos hc]
  ·have hx:x ∈ ks:=List.count_pos_iff.1 (by omega)
   rw [if_neg hc,if_pos ⟨h x hx,hx⟩]
end
theorem uniq_s_und:Tryz.prog.underlying 114=some (.map 9 3):=by kernel_rfl
theorem uniq_s_look {W:World} {mb n:Nat} {f:(List UInt8)→Option Int} (h:GM 9 slit (plainElem Tryz.prog 3) eInt W mb n f) {s:ByteArray} (hs:s.size≤maxLen) :
  (Instr.lookup 114 (.map (some mb)) (.string s) false).run Tryz.prog W = .ok (.int .i64 ((f (bl s)).getD 0)) W:=by
 obtain ⟨v,ps,h1,h2⟩:=GM.look h key_str uniq_s_und (tb_zInt W) (eInt_el (by decide)) (at_str hs)
 obtain ⟨a,rfl,h3,_⟩:=plainElem_int_inv tb_int h2
 have h4:(f (bl s)).getD 0=a:=by
  cases hf:f (bl s) with
  | none=>rw [hf] at h3;simp [eInt] at h3;exact h3.1
  | some y=>rw [hf] at h3;simp [eInt] at h3;exact h3.1
 rw [h4]
 exact h1
set_option maxRecDepth 100000 in
set_option maxHeartbeats 4000000 in
theorem uniq_s (l:List ByteArray) (A:Option Addr) (c:Nat) (w:World) (hC:Kd.string.C w A l.length l) (hc:l.length≤c) (hz:∀ s ∈ l,s.size≤maxLen) :
  Calls Tryz.prog 63 #[.slice A l.length c] w (SameT w (uniqB (l.map bl))):=by
 have HC:=Y0 hC
 have hm1:=Kd.C_max hC
 have HZ:=Y0 hz
 clear hC hz
 obtain ⟨ks,hks⟩:∃ ks,ks=l.map bl:=⟨_,rfl⟩
 have hlen:ks.length=l.length:=by rw [hks];first|done|simp
 have HKS:=Y0 hks
 have HLEN:=Y0 hlen
 rw [← hks]
 clear hks hlen
 have g0:GM 9 slit (plainElem Tryz.prog 3) eInt (w.alloc (.map #[] 0)) w.heap.size 0 (cntO ks 0):=(GM.made w).mono (Nat.le_refl _) (fun x=>by simp [cntO])
 have G0:=Y0 g0
 have B0:=Y0 (below_alloc (Below.refl w.heap.size w) (.map #[] 0))
 clear g0
 have hmm:=@run_makeMap Tryz.prog
 go_enter Tryz.func63,Tryz.ntmps63
 go_wp2
 clear hmm
 go_loopg [11] l.length (fun n v W=>∃ i:Nat,v = .int .i64 i∧Aside0 (GM 9 slit (plainElem Tryz.prog 3) eInt W w.heap.size i (cntO ks i))∧Aside0 (Below w.heap.size w W)∧Aside0 (i + n=l.length))
 case atStart=>exact ⟨0,rfl,G0,B0,⟨by omega⟩⟩
 case round =>
  clear G0 B0
  obtain ⟨i,rfl,HG,HB,HL⟩:=hrel
  by_cases hlt:i < l.length
  ·have d3:(0:Int)≤(i:Int):=by omega
   have d4:(i:Int) < (l.length:Int):=by omega
   obtain ⟨x,hx⟩:∃ x,x=l[i]'hlt:=⟨_,rfl⟩
   obtain ⟨ad,had,z0⟩:=Kd.at_string HC.out i d3 d4
   have hrd:rdOf ByteArray.empty l i=x:=by unfold rdOf;rw [hx,List.getD_eq_getElem?_getD];simp [hlt]
   rw [hrd] at z0
   subst had
   rw [Int.toNat_natCast] at z0
   have hxz:=HZ.out x (by rw [hx];exact List.getElem_mem hlt)
   have hki:i < ks.length:=by have:=HLEN.out;omega
   have hkx:ks[i]=bl x:=by have:=HKS.out;subst this;simp [hx]
   clear hrd hx
   replace z0:=(HB.out.cell (World.block_lt_of_cell? w _ z0)).trans z0
   have hl:=uniq_s_look HG.out hxz
   obtain ⟨q,hq⟩:∃ q:Nat,q=cntN ks i (bl x):=⟨_,rfl⟩
   have hqb:q≤i:=by rw [hq];exact cntN_le ks i _
   have hqv:(cntO ks i (bl x)).getD 0=(q:Int):=by rw [cntO_get,← hq]
   rw [hqv] at hl
   have d5:(0:Int)≤(q:Int):=by omega
   have d6:(q:Int)≤9223372036854775806:=by omega
   obtain ⟨W',hr,hg',hb'⟩:=GM.put (y:=(q:Int) + 1) HG.out key_str uniq_s_und (by unfold maxLen;omega) (at_str hxz) (eInt_el (wf_i64 (by omega)))
   have hg2:=Y0 (GM.mono (n':=i + 1) (f':=cntO ks (i + 1)) hg' (Nat.le_refl _) (cntO_step ks i hki _ hkx q hq))
   have HB2:=Y0 (HB.out.grown hb' HB.out.size (fun k e=>by injection e with e;omega))
   clear hg' hb' hq hqv hkx hki HG HB hqb hxz
   cases gk with
   | zero=>have:=HL.out;omega
   | succ k1 =>
    go_wp2
    go_roundg k1
    case measure=>omega
    case rel=>exact ⟨i + 1,by go_num,hg2,HB2,⟨by have:=HL.out;omega⟩⟩
  ·have hi:i=l.length:=by have:=HL.out;omega
   have HG1:=Y0 (GM.mono (n':=l.length) (f':=leftO ks 0) HG.out (by omega) (left_start ks i (by have:=HLEN.out;omega)))
   clear HG HL hi
   go_wp2
   clear hlt
   go_loopg [22] l.length (fun n v W=>∃ i:Nat,v = .int .i64 i∧Aside0 (GM 9 slit (plainElem Tryz.prog 3) eInt W w.heap.size l.length (leftO ks i))∧Aside0 (Below w.heap.size w W)∧Aside0 (i + n=l.length))
   case atStart=>exact ⟨0,rfl,HG1,HB,⟨by omega⟩⟩
   case round =>
    clear HG1 HB
    obtain ⟨i,rfl,HG,HB,HL⟩:=hrel
    by_cases hlt:i < l.length
    ·have d3:(0:Int)≤(i:Int):=by omega
     have d4:(i:Int) < (l.length:Int):=by omega
     obtain ⟨x,hx⟩:∃ x,x=l[i]'hlt:=⟨_,rfl⟩
     obtain ⟨ad,had,z0⟩:=Kd.at_string HC.out i d3 d4
     have hrd:rdOf ByteArray.empty l i=x:=by unfold rdOf;rw [hx,List.getD_eq_getElem?_getD];simp [hlt]
     rw [hrd] at z0
     subst had
     rw [Int.toNat_natCast] at z0
     have hxz:=HZ.out x (by rw [hx];exact List.getElem_mem hlt)
     have hki:i < ks.length:=by have:=HLEN.out;omega
     have hkx:ks[i]=bl x:=by have:=HKS.out;subst this;simp [hx]
     clear hrd hx
     replace z0:=(HB.out.cell (World.block_lt_of_cell? w _ z0)).trans z0
     have hl:=uniq_s_look HG.out hxz
     obtain ⟨q,hq⟩:∃ q:Int,q=(leftO ks i (bl x)).getD 0:=⟨_,rfl⟩
     rw [← hq] at hl
     by_cases h1:q=1
     ·have t1:(q == 1)=true:=by rw [h1];rfl
      obtain ⟨W',hr,hg',hb'⟩:=GM.del HG.out key_str uniq_s_und (at_str hxz) 0
      have hg2:=Y0 (GM.mono (n':=l.length) (f':=leftO ks (i + 1)) hg' (Nat.le_refl _) (left_del ks i hki _ hkx (by rw [← hq];exact h1)))
      have HB2:=Y0 (HB.out.grown hb' HB.out.size (fun k e=>by injection e with e;omega))
      clear hg' hb' hq hkx hki HG HB hxz h1
      cases gk with
      | zero=>have:=HL.out;omega
      | succ k1 =>
       go_wp2
       go_roundg k1
       case measure=>omega
       case rel=>exact ⟨i + 1,by go_num,hg2,HB2,⟨by have:=HL.out;omega⟩⟩
     ·have t1:(q == 1)=false:=beq_eq_false_iff_ne.2 h1
      have hg2:=Y0 (GM.mono (n':=l.length) (f':=leftO ks (i + 1)) HG.out (Nat.le_refl _) (left_keep ks i hki _ hkx (by rw [← hq];exact h1)))
      clear hq hkx hki HG hxz h1
      cases gk with
      | zero=>have:=HL.out;omega
      | succ k1 =>
       go_wp2
       go_roundg k1
       case measure=>omega
       case rel=>exact ⟨i + 1,by go_num,hg2,HB,⟨by have:=HL.out;omega⟩⟩
    ·obtain ⟨N,hr,hN,hNl⟩:=GM.len HG.out key_str uniq_s_und 3
     have hu:=left_end ks i (by have:=HLEN.out;have:=HL.out;omega)
     by_cases h0:N=0
     ·have t1:((N:Int) == 0)=true:=by rw [h0];rfl
      have hT:uniqB ks=true:=hu.1 (hN.1 h0)
      have HT0:=Y0 hT
      clear hu hN h0 hT HG
      go_wp2
      go_ret
      exact ⟨by rw [HT0.out];rfl,HB.out⟩
     ·have t1:((N:Int) == 0)=false:=by rw [beq_eq_false_iff_ne];omega
      have hF:uniqB ks=false:=by
       cases hb:uniqB ks with
       | false=>rfl
       | true=>exact absurd (hN.2 (hu.2 hb)) h0
      have HT0:=Y0 hF
      clear hu hN h0 hF HG
      go_wp2
      go_ret
      exact ⟨by rw [HT0.out];rfl,HB.out⟩
theorem uniq_i_und:Tryz.prog.underlying 204=some (.map 2 3):=by kernel_rfl
theorem uniq_i_look {W:World} {mb n:Nat} {f:Int→Option Int} (h:GM 2 nlit (plainElem Tryz.prog 3) eInt W mb n f) {s:Int} (hs:(Lit.int .i64 s).wf=true) :
  (Instr.lookup 204 (.map (some mb)) (.int .i64 s) false).run Tryz.prog W = .ok (.int .i64 ((f (s)).getD 0)) W:=by
 obtain ⟨v,ps,h1,h2⟩:=GM.look h key_i64 uniq_i_und (tb_zInt W) (eInt_el (by decide)) (at_i64 hs)
 obtain ⟨a,rfl,h3,_⟩:=plainElem_int_inv tb_int h2
 have h4:(f (s)).getD 0=a:=by
  cases hf:f (s) with
  | none=>rw [hf] at h3;simp [eInt] at h3;exact h3.1
  | some y=>rw [hf] at h3;simp [eInt] at h3;exact h3.1
 rw [h4]
 exact h1
set_option maxRecDepth 100000 in
set_option maxHeartbeats 4000000 in
theorem uniq_i (l:List Int) (A:Option Addr) (c:Nat) (w:World) (hC:(Kd.int .i64).C w A l.length l) (hc:l.length≤c) (hz:∀ s ∈ l,(Lit.int .i64 s).wf=true) :
  Calls Tryz.prog 107 #[.slice A l.length c] w (SameT w (uniqB (l.map id))):=by
 have HC:=Y0 hC
 have hm1:=Kd.C_max hC
 have HZ:=Y0 hz
 clear hC hz
 obtain ⟨ks,hks⟩:∃ ks,ks=l.map id:=⟨_,rfl⟩
 have hlen:ks.length=l.length:=by rw [hks];first|done|simp
 have HKS:=Y0 hks
 have HLEN:=Y0 hlen
 rw [← hks]
 clear hks hlen
 have g0:GM 2 nlit (plainElem Tryz.prog 3) eInt (w.alloc (.map #[] 0)) w.heap.size 0 (cntO ks 0):=(GM.made w).mono (Nat.le_refl _) (fun x=>by simp [cntO])
 have G0:=Y0 g0
 have B0:=Y0 (below_alloc (Below.refl w.heap.size w) (.map #[] 0))
 clear g0
 have hmm:=@run_makeMap Tryz.prog
 go_enter Tryz.func107,Tryz.ntmps107
 go_wp2
 clear hmm
 go_loopg [11] l.length (fun n v W=>∃ i:Nat,v = .int .i64 i∧Aside0 (GM 2 nlit (plainElem Tryz.prog 3) eInt W w.heap.size i (cntO ks i))∧Aside0 (Below w.heap.size w W)∧Aside0 (i + n=l.length))
 case atStart=>exact ⟨0,rfl,G0,B0,⟨by omega⟩⟩
 case round =>
  clear G0 B0
  obtain ⟨i,rfl,HG,HB,HL⟩:=hrel
  by_cases hlt:i < l.length
  ·have d3:(0:Int)≤(i:Int):=by omega
   have d4:(i:Int) < (l.length:Int):=by omega
   obtain ⟨x,hx⟩:∃ x,x=l[i]'hlt:=⟨_,rfl⟩
   obtain ⟨ad,had,z0⟩:=Kd.at_int HC.out i d3 d4
   have hrd:rd l i=x:=by unfold rd;rw [hx,List.getD_eq_getElem?_getD];simp [hlt]
   rw [hrd] at z0
   subst had
   rw [Int.toNat_natCast] at z0
   have hxz:=HZ.out x (by rw [hx];exact List.getElem_mem hlt)
   have hki:i < ks.length:=by have:=HLEN.out;omega
   have hkx:ks[i]=x:=by have:=HKS.out;subst this;simp [hx]
   clear hrd hx
   replace z0:=(HB.out.cell (World.block_lt_of_cell? w _ z0)).trans z0
   have hl:=uniq_i_look HG.out hxz
   obtain ⟨q,hq⟩:∃ q:Nat,q=cntN ks i (x):=⟨_,rfl⟩
   have hqb:q≤i:=by rw [hq];exact cntN_le ks i _
   have hqv:(cntO ks i (x)).getD 0=(q:Int):=by rw [cntO_get,← hq]
   rw [hqv] at hl
   have d5:(0:Int)≤(q:Int):=by omega
   have d6:(q:Int)≤9223372036854775806:=by omega
   obtain ⟨W',hr,hg',hb'⟩:=GM.put (y:=(q:Int) + 1) HG.out key_i64 uniq_i_und (by unfold maxLen;omega) (at_i64 hxz) (eInt_el (wf_i64 (by omega)))
   have hg2:=Y0 (GM.mono (n':=i + 1) (f':=cntO ks (i + 1)) hg' (Nat.le_refl _) (cntO_step ks i hki _ hkx q hq))
   have HB2:=Y0 (HB.out.grown hb' HB.out.size (fun k e=>by injection e with e;omega))
   clear hg' hb' hq hqv hkx hki HG HB hqb hxz
   cases gk with
   | zero=>have:=HL.out;omega
   | succ k1 =>
    go_wp2
    go_roundg k1
    case measure=>omega
    case rel=>exact ⟨i + 1,by go_num,hg2,HB2,⟨by have:=HL.out;omega⟩⟩
  ·have hi:i=l.length:=by have:=HL.out;omega
   have HG1:=Y0 (GM.mono (n':=l.length) (f':=leftO ks 0) HG.out (by omega) (left_start ks i (by have:=HLEN.out;omega)))
   clear HG HL hi
   go_wp2
   clear hlt
   go_loopg [22] l.length (fun n v W=>∃ i:Nat,v = .int .i64 i∧Aside0 (GM 2 nlit (plainElem Tryz.prog 3) eInt W w.heap.size l.length (leftO ks i))∧Aside0 (Below w.heap.size w W)∧Aside0 (i + n=l.length))
   case atStart=>exact ⟨0,rfl,HG1,HB,⟨by omega⟩⟩
   case round =>
    clear HG1 HB
    obtain ⟨i,rfl,HG,HB,HL⟩:=hrel
    by_cases hlt:i < l.length
    ·have d3:(0:Int)≤(i:Int):=by omega
     have d4:(i:Int) < (l.length:Int):=by omega
     obtain ⟨x,hx⟩:∃ x,x=l[i]'hlt:=⟨_,rfl⟩
     obtain ⟨ad,had,z0⟩:=Kd.at_int HC.out i d3 d4
     have hrd:rd l i=x:=by unfold rd;rw [hx,List.getD_eq_getElem?_getD];simp [hlt]
     rw [hrd] at z0
     subst had
     rw [Int.toNat_natCast] at z0
     have hxz:=HZ.out x (by rw [hx];exact List.getElem_mem hlt)
     have hki:i < ks.length:=by have:=HLEN.out;omega
     have hkx:ks[i]=x:=by have:=HKS.out;subst this;simp [hx]
     clear hrd hx
     replace z0:=(HB.out.cell (World.block_lt_of_cell? w _ z0)).trans z0
     have hl:=uniq_i_look HG.out hxz
     obtain ⟨q,hq⟩:∃ q:Int,q=(leftO ks i (x)).getD 0:=⟨_,rfl⟩
     rw [← hq] at hl
     by_cases h1:q=1
     ·have t1:(q == 1)=true:=by rw [h1];rfl
      obtain ⟨W',hr,hg',hb'⟩:=GM.del HG.out key_i64 uniq_i_und (at_i64 hxz) 0
      have hg2:=Y0 (GM.mono (n':=l.length) (f':=leftO ks (i + 1)) hg' (Nat.le_refl _) (left_del ks i hki _ hkx (by rw [← hq];exact h1)))
      have HB2:=Y0 (HB.out.grown hb' HB.out.size (fun k e=>by injection e with e;omega))
      clear hg' hb' hq hkx hki HG HB hxz h1
      cases gk with
      | zero=>have:=HL.out;omega
      | succ k1 =>
       go_wp2
       go_roundg k1
       case measure=>omega
       case rel=>exact ⟨i + 1,by go_num,hg2,HB2,⟨by have:=HL.out;omega⟩⟩
     ·have t1:(q == 1)=false:=beq_eq_false_iff_ne.2 h1
      have hg2:=Y0 (GM.mono (n':=l.length) (f':=leftO ks (i + 1)) HG.out (Nat.le_refl _) (left_keep ks i hki _ hkx (by rw [← hq];exact h1)))
      clear hq hkx hki HG hxz h1
      cases gk with
      | zero=>have:=HL.out;omega
      | succ k1 =>
       go_wp2
       go_roundg k1
       case measure=>omega
       case rel=>exact ⟨i + 1,by go_num,hg2,HB,⟨by have:=HL.out;omega⟩⟩
    ·obtain ⟨N,hr,hN,hNl⟩:=GM.len HG.out key_i64 uniq_i_und 3
     have hu:=left_end ks i (by have:=HLEN.out;have:=HL.out;omega)
     by_cases h0:N=0
     ·have t1:((N:Int) == 0)=true:=by rw [h0];rfl
      have hT:uniqB ks=true:=hu.1 (hN.1 h0)
      have HT0:=Y0 hT
      clear hu hN h0 hT HG
      go_wp2
      go_ret
      exact ⟨by rw [HT0.out];rfl,HB.out⟩
     ·have t1:((N:Int) == 0)=false:=by rw [beq_eq_false_iff_ne];omega
      have hF:uniqB ks=false:=by
       cases hb:uniqB ks with
       | false=>rfl
       | true=>exact absurd (hN.2 (hu.2 hb)) h0
      have HT0:=Y0 hF
      clear hu hN h0 hF HG
      go_wp2
      go_ret
      exact ⟨by rw [HT0.out];rfl,HB.out⟩
def table_unique_string.f (l0:List ByteArray):Option Bool:=if ∀ s ∈ l0,s.size≤maxLen then some (uniqB (l0.map bl)) else none
theorem table_unique_string.calls (A0:Option Addr) (c0:Nat) (l0:List ByteArray) (r:Bool) (w:World) (hr0:Kd.C Kd.string w A0 l0.length l0) (hc0:l0.length≤c0) (h:table_unique_string.f l0=some r) :
  Calls Tryz.prog 63 #[.slice A0 l0.length c0] w fun e w'=>e = .returned (.bool r)∧Below w.heap.size w w':=by
 unfold table_unique_string.f at h
 split at h
 ·rename_i hz
  obtain rfl:=Option.some.inj h
  exact uniq_s l0 A0 c0 w hr0 hc0 hz
 ·cases h
end Go.Proofs.YtddpjjhekhompaaGreatDoor.P
