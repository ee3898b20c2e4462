/- Part 4 of what the law TableMore leans on: contracts of the functions that it reaches, and plain lemmas. No condition. -/
import Derived.Test.YtddpjjhekhompaaGreatDoorMTableMore3
namespace Go.Proofs.YtddpjjhekhompaaGreatDoor.P
open Go.RowKit Go.Proofs.YtddpjjhekhompaaGreatDoorW.PrintWords Go.Proofs.YtddpjjhekhompaaGreatDoorW.PrintLast Go.Proofs.YtddpjjhekhompaaGreatDoorW.PrintMore
attribute [local go_sem] max2_int max_two
set_option linter.unusedVariables false
set_option linter.unusedSimpArgs false
structure TL where
 l:List TokS
 A:Option Addr
 c:Nat
def TS (B:Nat) (W:World) (p g:Nat) (l:TL) (e:Int) (s:PS):Prop:=∃ n,s.r=l.l.drop n∧TK B W p g l.A l.c l.l e n s.b
theorem TS.par {B p g:Nat} {W:World} {l:TL} {e:Int} {s:PS} (h:TS B W p g l e s):W.cell? ⟨p,0,none⟩=some (.pointer (some ⟨g,0,none⟩)):=by
 obtain ⟨n,_,h⟩:=h
 exact h.par
theorem TS.bad {B p g:Nat} {W:World} {l:TL} {e:Int} {s:PS} (h:TS B W p g l e s):W.cell? ⟨g,3,none⟩=some (.bool s.b):=by
 obtain ⟨n,_,h⟩:=h
 exact (blk_cell h.blk 3).trans rfl
theorem TS.lens {B p g:Nat} {W:World} {l:TL} {e:Int} {s:PS} (h:TS B W p g l e s):s.r.length≤1000∧B≤W.heap.size∧p < B∧g < B∧p≠g:=by
 obtain ⟨n,h1,h⟩:=h
 refine ⟨?_,h.hB,h.hp,h.hg,h.hpg⟩
 rw [h1,List.length_drop]
 have:=h.len
 omega
theorem TS.other {B p g:Nat} {W W':World} {l:TL} {e:Int} {s:PS} (h:TS B W p g l e s) (hb:Below B W W'):TS B W' p g l e s:=by
 obtain ⟨n,h1,h⟩:=h
 exact ⟨n,h1,h.other hb⟩
theorem TS.below {B p g:Nat} {W W':World} {l:TL} {e:Int} {s:PS} (h:TS B W p g l e s) (hb:Below W.heap.size W W'):TS B W' p g l e s:=h.other (hb.mono h.lens.2.1)
theorem TS.alloc {B p g:Nat} {W:World} {l:TL} {e:Int} {s:PS} (h:TS B W p g l e s) (o:Obj):TS B (W.alloc o) p g l e s:=h.below (below_alloc (Below.refl _ _) o)
theorem TS.drewN {B p g:Nat} {W:World} {l:TL} {e:Int} {s:PS} (h:TS B W p g l e s) (m:Nat):TS B (W.drewN m) p g l e s:=h.other (pw_below_drewN (Below.refl _ _) m)
theorem TS.drew {B p g:Nat} {W:World} {l:TL} {e:Int} {s:PS} (h:TS B W p g l e s):TS B W.drew p g l e s:=h.drewN 1
theorem TS.drawn {B p g:Nat} {W W':World} {l:TL} {e:Int} {s:PS} (h:TS B W p g l e s) (hd:Drawn0 W W'):TS B W' p g l e s:=by
 obtain ⟨m,rfl⟩:=hd.out
 exact h.drewN m
theorem TS.far {B p g:Nat} {W:World} {l:TL} {e:Int} {s:PS} (h:TS B W p g l e s) {q:Addr} (hq:B≤q.block) (u:Value):TS B (W.setCell q u) p g l e s:=h.other ((Below.refl _ _).setCell hq u)
theorem TS.back {B B' p g:Nat} {W W':World} {l:TL} {e:Int} {s s':PS} (h0:TS B W p g l e s) (h:TS B' W' p g l e s') (hz:W.heap.size≤W'.heap.size):TS B W' p g l e s':=by
 obtain ⟨_,_,h0⟩:=h0
 obtain ⟨n,h1,h⟩:=h
 exact ⟨n,h1,h.blk,h.par,h.row,h0.hp,h0.hg,h0.hpg,h0.hA,h.len,h.hn,h.cap,Nat.le_trans h0.hB hz⟩
theorem TS.lift {B B' p g:Nat} {W:World} {l:TL} {e:Int} {s:PS} (h:TS B W p g l e s) (hB:B≤B') (hz:B'≤W.heap.size):TS B' W p g l e s:=by
 obtain ⟨n,h1,h⟩:=h
 exact ⟨n,h1,h.blk,h.par,h.row,Nat.lt_of_lt_of_le h.hp hB,Nat.lt_of_lt_of_le h.hg hB,h.hpg,fun ad ha=>⟨Nat.lt_of_lt_of_le (h.hA ad ha).1 hB,(h.hA ad ha).2⟩,h.len,h.hn,h.cap,hz⟩
theorem TS.setp {B p g j:Nat} {W:World} {l:TL} {e:Int} {s:PS} {cs:Array Value} {u:Value} (h:TS B W p g l e s) (hb:(W.setCell ⟨p,j + 1,none⟩ u).heap[p]?=some (.cells cs 79 (0,0))) (hc0:cs[0]?=some (.pointer (some ⟨g,0,none⟩))):TS B (W.setCell ⟨p,j + 1,none⟩ u) p g l e s:=by
 obtain ⟨n,h1,h⟩:=h
 have hc:∀ q:Addr,q.block≠p→(W.setCell ⟨p,j + 1,none⟩ u).cell? q=W.cell? q:=fun q hq=>cell_far (p:=⟨p,j + 1,none⟩) hq u
 refine ⟨n,h1,blk_far h.blk (p:=⟨p,j + 1,none⟩) (Ne.symm h.hpg) u,?_,?_,h.hp,h.hg,h.hpg,h.hA,h.len,h.hn,h.cap,?_⟩
 ·exact (blk_cell hb 0).trans hc0
 ·intro k t hk
  obtain ⟨ad,ha,h0,h2,h3,h4⟩:=h.row k t hk
  have hq:=(h.hA ad ha).2.2
  have ho:∀ q:Addr,q.block=(ad.add (k * 4)).block→(W.setCell ⟨p,j + 1,none⟩ u).cell? q=W.cell? q:=fun q e=>hc q (by rw [e,add_block];exact hq)
  exact ⟨ad,ha,(ho _ rfl).trans h0,(ho ⟨_,_,none⟩ rfl).trans h2,(ho ⟨_,_,none⟩ rfl).trans h3,(ho ⟨_,_,none⟩ rfl).trans h4⟩
 ·exact Nat.le_trans h.hB ((Below.refl 0 W).setCell (p:=⟨p,j + 1,none⟩) (Nat.zero_le _) u).size
theorem at_s {B p g:Nat} {W:World} {l:TL} {e:Int} {s:PS} (h:TS B W p g l e s):Calls Tryz.prog 40 #[.pointer (some ⟨g,0,none⟩)] W (AtPost W (pAt e s)):=by
 obtain ⟨r,b⟩:=s
 obtain ⟨n,h1,h⟩:=h
 cases h1
 exact at_calls h
def TakeP (B:Nat) (W:World) (p g:Nat) (l:TL) (e:Int) (t:TokS) (s:PS) (en:Ending) (W':World):Prop :=
 en = .returned (.agg #[.int .i64 t.f0,.string t.f1,.int .i64 t.f2,.int .i64 t.f3])∧TS B W' p g l e s∧Fr W.heap.size g W W'
theorem take_s {B p g:Nat} {W:World} {l:TL} {e:Int} {s:PS} (k:Int) (h:TS B W p g l e s):Calls Tryz.prog 88 #[.pointer (some ⟨g,0,none⟩),.int .i64 k] W (TakeP B W p g l e (pTake k s).1 (pTake k s).2):=by
 obtain ⟨r,b⟩:=s
 obtain ⟨n,h1,h⟩:=h
 cases h1
 refine (take_any k h).mono ?_
 rintro en W' ⟨h1,⟨n',h2,_,h3⟩,h4⟩
 exact ⟨h1,⟨n',h2,h3⟩,h4⟩
theorem is_s {B p g:Nat} {W:World} {l:TL} {e:Int} {s:PS} (j:Nat) (k:Int) (x:ByteArray) (hj:j≤1) (h:TS B W p g l e s):Calls Tryz.prog 37 #[.pointer (some ⟨g,0,none⟩),.int .i64 (j:Int),.int .i64 k,.string x] W (IsPost W (pIs j k (bl x) s)):=by
 obtain ⟨r,b⟩:=s
 obtain ⟨n,h1,h⟩:=h
 cases h1
 exact is_any j k x hj h
theorem is0_s {B p g:Nat} {W:World} {l:TL} {e:Int} {s:PS} (k:Int) (x:ByteArray) (h:TS B W p g l e s):Calls Tryz.prog 37 #[.pointer (some ⟨g,0,none⟩),.int .i64 0,.int .i64 k,.string x] W (IsPost W (pIs 0 k (bl x) s)):=is_s 0 k x J11 h
theorem is1_s {B p g:Nat} {W:World} {l:TL} {e:Int} {s:PS} (k:Int) (x:ByteArray) (h:TS B W p g l e s):Calls Tryz.prog 37 #[.pointer (some ⟨g,0,none⟩),.int .i64 1,.int .i64 k,.string x] W (IsPost W (pIs 1 k (bl x) s)):=is_s 1 k x J11 h
def SignP (B:Nat) (W:World) (p g:Nat) (l:TL) (e:Int) (r:Bool) (s:PS) (en:Ending) (W':World):Prop:=en = .returned (.bool r)∧TS B W' p g l e s∧Fr W.heap.size g W W'
theorem is_here {s:PS} {k:Int} {x:List UInt8} {l:List TokS} {n:Nat} (h:pIs 0 k x s=true) (hs:s.r=l.drop n) (hn:n≤l.length):s.r.tail=l.drop (n + 1)∧n + 1≤l.length:=by
 refine ⟨by rw [hs,List.tail_drop],?_⟩
 by_cases hlt:n < l.length
 ·omega
 ·have e:s.r=[]:=by rw [hs,List.drop_of_length_le J7]
  unfold pIs at h
  rw [e] at h
  split at h <;> cases h
theorem drawn_fr {W W':World} (h:Drawn0 W W') (B g:Nat):Fr B g W W':=by
 obtain ⟨m,rfl⟩:=h.out
 exact (Fr.refl B g W).drewN m
set_option maxHeartbeats 1000000 in
theorem sign_s {B p g:Nat} {W:World} {l:TL} {e:Int} {s:PS} (x:ByteArray) (h:TS B W p g l e s):Calls Tryz.prog 90 #[.pointer (some ⟨g,0,none⟩),.string x] W (SignP B W p g l e (pSign (bl x) s).1 (pSign (bl x) s).2):=by
 have HI:=Y0 (is0_s 3 x h)
 obtain ⟨n,h1,h2⟩:=h
 have hn:=h2.hn
 have hl:=h2.len
 by_cases hp:pIs 0 3 (bl x) s=true
 ·have e1:pSign (bl x) s=(true,⟨s.r.tail,s.b⟩):=by unfold pSign;rw [if_pos hp]
  obtain ⟨k1,k2⟩:=is_here hp h1 hn
  rw [hp] at HI
  rw [e1]
  have HT:=Y0 h2
  have HK:=Y0 k1
  clear h1 h2 hp e1 k1
  go_enter Tryz.func90,Tryz.ntmps90
  go_wp2_with fail
  go_at_call 37
  refine HI.out.mono ?_
  rintro e1 W1 ⟨rfl,hd⟩
  have n0_:=Y0 (drawn_fr hd W.heap.size g)
  have n1_:=Y0 (show TK B W1 p g l.A l.c l.l e n s.b from (by obtain ⟨m,rfl⟩:=hd.out;exact HT.out.drewN m))
  clear HT hd HI
  have HT:=n1_
  have HF:=n0_
  clear n0_ n1_
  have c0:_=some (Value.slice _ _ _):=(blk_cell HT.out.blk 0).trans rfl;have c1:_=some (Value.int .i64 _):=(blk_cell HT.out.blk 1).trans rfl;have c2:_=some (Value.int .i64 _):=(blk_cell HT.out.blk 2).trans rfl;have c3:_=some (Value.bool _):=(blk_cell HT.out.blk 3).trans rfl;have f2:=blk_frozen HT.out.blk 2;have f3:=blk_frozen HT.out.blk 3
  go_wp2
  go_ret
  refine ⟨rfl,⟨n + 1,HK.out,?_⟩,HF.out.set_ 2 _⟩
  have h3:=HT.out.setn (n + 1) k2
  rw [show ((n + 1:Nat):Int)=(n:Int) + 1 from by omega] at h3
  exact h3
 ·have hp':pIs 0 3 (bl x) s=false:=by simpa using hp
  have e1:pSign (bl x) s=(false,s):=by unfold pSign;rw [if_neg hp]
  rw [hp'] at HI
  rw [e1]
  have HT:=Y0 (show TS B W p g l e s from ⟨n,h1,h2⟩)
  clear h1 h2 hp hp' e1
  go_enter Tryz.func90,Tryz.ntmps90
  go_wp2_with fail
  go_at_call 37
  refine HI.out.mono ?_
  rintro e1 W1 ⟨rfl,hd⟩
  have n0_:=Y0 (drawn_fr hd W.heap.size g)
  have n1_:=Y0 (HT.out.drawn hd)
  clear HT hd HI
  have HT:=n1_
  have HF:=n0_
  clear n0_ n1_
  go_wp2
  go_ret
  exact ⟨rfl,HT.out,HF.out⟩
def MustP (B:Nat) (W:World) (p g:Nat) (l:TL) (e:Int) (s:PS) (en:Ending) (W':World):Prop:=en = .returned (.tuple #[])∧TS B W' p g l e s∧Fr W.heap.size g W W'
theorem sign_no (x:List UInt8) (s:PS) (h:(pSign x s).1=false):(pSign x s).2=s:=by
 unfold pSign at h ⊢
 split
 ·rename_i hp
  rw [if_pos hp] at h
  cases h
 ·rfl
theorem take_shorter (s:PS):(pTake 1 s).2.b=false→(pTake 1 s).2.r.length < s.r.length:=by
 obtain ⟨r,b⟩:=s
 cases b with
 | true=>intro h;cases h
 | false=>cases r with
  | nil=>intro h;cases h
  | cons t r =>
   rw [pTake_cons]
   split
   ·intro _;exact Nat.lt_succ_self _
   ·intro h;cases h
theorem sign_shorter (x:List UInt8) (s:PS):(pSign x s).2.r.length≤s.r.length:=by
 unfold pSign
 split
 ·show s.r.tail.length≤_
  rw [List.length_tail]
  omega
 ·exact Nat.le_refl _
theorem must_sign (x:List UInt8) (s:PS):pMust x s=if (pSign x s).1=true then (pSign x s).2 else ⟨(pSign x s).2.r,true⟩:=by
 unfold pMust pSign
 by_cases h:pIs 0 3 x s=true
 ·rw [if_pos h,if_pos h,if_pos rfl]
 ·rw [if_neg h,if_neg h,if_neg Bool.false_ne_true]
theorem TS.setb {B p g:Nat} {W:World} {l:TL} {e:Int} {s:PS} (h:TS B W p g l e s):TS B (W.setCell ⟨g,3,none⟩ (.bool true)) p g l e ⟨s.r,true⟩:=by
 obtain ⟨n,h1,h⟩:=h
 exact ⟨n,h1,h.setb true⟩
set_option maxHeartbeats 1000000 in
theorem must_s {B p g:Nat} {W:World} {l:TL} {e:Int} {s:PS} (x:ByteArray) (h:TS B W p g l e s):Calls Tryz.prog 89 #[.pointer (some ⟨g,0,none⟩),.string x] W (MustP B W p g l e (pMust (bl x) s)):=by
 rw [must_sign]
 have HI:=Y0 (sign_s x h)
 clear h
 cases hs:(pSign (bl x) s).1 with
 | true =>
  rw [hs] at HI
  rw [if_pos rfl]
  generalize (pSign (bl x) s).2=s2 at *
  clear hs
  go_enter Tryz.func89,Tryz.ntmps89
  go_wp2_with fail
  go_at_call 90
  refine HI.out.mono ?_
  rintro e1 W1 ⟨rfl,hs,hf⟩
  have HT:=Y0 hs
  have HF:=Y0 hf
  clear hs hf HI
  go_wp2
  go_end0
  exact ⟨rfl,HT.out,HF.out⟩
 | false =>
  rw [hs] at HI
  rw [if_neg Bool.false_ne_true]
  generalize (pSign (bl x) s).2=s2 at *
  clear hs
  go_enter Tryz.func89,Tryz.ntmps89
  go_wp2_with fail
  go_at_call 90
  refine HI.out.mono ?_
  rintro e1 W1 ⟨rfl,hs,hf⟩
  have HT:=Y0 hs
  have HF:=Y0 hf
  have c3:=hs.bad
  have f3:W1.frozen? ⟨g,3,none⟩=false:=by (obtain ⟨n,_,h⟩:=hs;exact blk_frozen h.blk 3)
  clear hs hf HI
  go_wp2
  go_end0
  exact ⟨rfl,HT.out.setb,HF.out.set_ 3 _⟩
theorem tok_f1 (a:Int) (b:ByteArray) (c d:Int) (w:World):Sem.run Tryz.prog (Instr.field 149 (.agg #[.int .i64 a,.string b,.int .i64 c,.int .i64 d]) 1) w = .ok (.string b) w:=by kernel_rfl
theorem tok_f2 (a:Int) (b:ByteArray) (c d:Int) (w:World):Sem.run Tryz.prog (Instr.field 149 (.agg #[.int .i64 a,.string b,.int .i64 c,.int .i64 d]) 2) w = .ok (.int .i64 c) w:=by kernel_rfl
set_option maxHeartbeats 1000000 in
set_option maxRecDepth 100000 in
theorem named_s {B p g:Nat} {W:World} {l:TL} {e:Int} {s:PS} (h:TS B W p g l e s):Calls Tryz.prog 92 #[.pointer (some ⟨p,0,none⟩)] W
  (fun en W'=>en = .returned (.tuple #[.string (pNamed s).1.1,.int .i64 (pNamed s).1.2])∧TS B W' p g l e (pNamed s).2∧Fr W.heap.size g W W'):=by
 have hc:=h.par
 have HT:=Y0 h
 clear h
 unfold pNamed
 have q1:=tok_f1
 have q2:=tok_f2
 go_enter Tryz.func92,Tryz.ntmps92
 go_wp2_with fail
 go_at_call 88
 refine (take_s 0 HT.out).mono ?_
 rintro e1 W1 ⟨rfl,h1,f1⟩
 clear hc HT
 have hc:=h1.par
 have HT:=Y0 h1
 have HF:=Y0 f1
 clear h1 f1
 go_wp2_with fail
 go_at_call 89
 refine (must_s ⟨#[61]⟩ HT.out).mono ?_
 rintro e1 W2 ⟨rfl,h1,f1⟩
 have n1_:=Y0 (HF.out.trans (f1.mono HF.out.size))
 clear hc HT HF
 have hc:=h1.par
 have HT:=Y0 h1
 have HF:=n1_
 clear h1 f1 n1_
 go_wp2_with fail

 go_at_call 88
 refine (take_s 1 HT.out).mono ?_
 rintro e1 W3 ⟨rfl,h1,f1⟩
 have n1_:=Y0 (HF.out.trans (f1.mono HF.out.size))
 clear hc HT HF
 have hc:=h1.par
 have HT:=Y0 h1
 have HF:=n1_
 clear h1 f1 n1_
 go_wp2_with fail
 go_at_call 89
 refine (must_s ⟨#[59]⟩ HT.out).mono ?_
 rintro e1 W4 ⟨rfl,h1,f1⟩
 have n1_:=Y0 (HF.out.trans (f1.mono HF.out.size))
 clear hc HT HF
 have HT:=Y0 h1
 have HF:=n1_
 clear h1 f1 n1_
 go_wp2
 go_ret2
 exact ⟨rfl,HT.out,HF.out⟩
structure MB (B:Nat) (W:World) (h:Nat) (nm:ByteArray) (m:MAcc) (a:Int) (vF vO vR:Value):Prop where
 blk:W.heap[h]?=some (.cells #[.string nm,vF,vO,vR,.int .i64 a] 34 (0,0))
 rF:k36.R 36 W B (fun _=>True) vF m.1
 rO:Kd.string.R 9 W B (fun _=>True) vO m.2.1
 rR:(Kd.int .i64).R 2 W B (fun _=>True) vR m.2.2
 ge:B≤h
theorem R_fr {α:Type} {d:Kd α} {t B g:Nat} {W W':World} {v:Value} {xs:List α} (h:d.R t W B (fun _=>True) v xs) (hF:Fr W.heap.size g W W') (hg:g < B):d.R t W' B (fun _=>True) v xs :=
 Kd.R_mono (Kd.R_keep (Kd.R_bound h) (hF.keep rfl) (fun k hk=>by have:=hk.2.1;omega)) (fun _ _=>trivial)
theorem R_grow {α β:Type} {d:Kd α} {d':Kd β} {t t' B B':Nat} {W W':World} {v u:Value} {xs:List α} {ys:List β} {ok:Nat→Prop} (h:d.R t W B (fun _=>True) v xs) (hv:d'.R t' W B' ok u ys) (ht:∀ q,q ∈ t :: d.E→q≠t') (hg:W.grownBy W' u.ownBlock):d.R t W' B (fun _=>True) v xs :=
 Kd.R_over h hv ht hg
theorem MB.keep {B g h:Nat} {W W':World} {nm:ByteArray} {m:MAcc} {a:Int} {vF vO vR:Value} (H:MB B W h nm m a vF vO vR) (hF:Fr W.heap.size g W W') (hg:g < B):MB B W' h nm m a vF vO vR :=
 ⟨(hF.block h (blk_lt H.blk) (by have:=H.ge;omega)).trans H.blk,R_fr H.rF hF hg,R_fr H.rO hF hg,R_fr H.rR hF hg,H.ge⟩
theorem MB.below {B h:Nat} {W W':World} {nm:ByteArray} {m:MAcc} {a:Int} {vF vO vR:Value} (H:MB B W h nm m a vF vO vR) (hb:Below W.heap.size W W'):MB B W' h nm m a vF vO vR :=
 ⟨blk_below H.blk hb,Kd.R_below H.rF hb,Kd.R_below H.rO hb,Kd.R_below H.rR hb,H.ge⟩
theorem MB.drawn {B h:Nat} {W W':World} {nm:ByteArray} {m:MAcc} {a:Int} {vF vO vR:Value} (H:MB B W h nm m a vF vO vR) (hd:Drawn0 W W'):MB B W' h nm m a vF vO vR:=H.below hd.below
theorem blk_grow {α:Type} {d:Kd α} {t t' B h:Nat} {W W':World} {u:Value} {xs:List α} {cs:Array Value} {ok:Nat→Prop} (hr:d.R t W B ok u xs) (hb:W.heap[h]?=some (.cells cs t' (0,0))) (ht:t≠t') (hg:W.grownBy W' u.ownBlock):W'.heap[h]?=some (.cells cs t' (0,0)) :=
 (hg.block h (blk_lt hb) (Kd.R_ne hr hb ht)).trans hb
theorem MB.appF {B h:Nat} {W W':World} {nm:ByteArray} {m:MAcc} {a:Int} {vF vO vR v:Value} {l:List FieldS} (H:MB B W h nm m a vF vO vR) (hR:k36.R 36 W' B (fun _=>True) v l) (hg:W.grownBy W' vF.ownBlock):MB B (W'.setCell ⟨h,1,none⟩ v) h nm (l,m.2.1,m.2.2) a v vO vR:=by
 have hb:=blk_grow H.rF H.blk J11 hg
 exact ⟨blk_put hb 1 _ rfl,Kd.R_set hR hb J11 1 v,Kd.R_set (R_grow H.rO H.rF J11 hg) hb J11 1 v,Kd.R_set (R_grow H.rR H.rF J11 hg) hb J11 1 v,H.ge⟩
theorem MB.appO {B h:Nat} {W W':World} {nm:ByteArray} {m:MAcc} {a:Int} {vF vO vR v:Value} {l:List ByteArray} (H:MB B W h nm m a vF vO vR) (hR:Kd.string.R 9 W' B (fun _=>True) v l) (hg:W.grownBy W' vO.ownBlock):MB B (W'.setCell ⟨h,2,none⟩ v) h nm (m.1,l,m.2.2) a vF v vR:=by
 have hb:=blk_grow H.rO H.blk J11 hg
 exact ⟨blk_put hb 2 _ rfl,Kd.R_set (R_grow H.rF H.rO J11 hg) hb J11 2 v,Kd.R_set hR hb J11 2 v,Kd.R_set (R_grow H.rR H.rO J11 hg) hb J11 2 v,H.ge⟩
theorem MB.appR {B h:Nat} {W W':World} {nm:ByteArray} {m:MAcc} {a:Int} {vF vO vR v:Value} {l:List Int} (H:MB B W h nm m a vF vO vR) (hR:(Kd.int .i64).R 2 W' B (fun _=>True) v l) (hg:W.grownBy W' vR.ownBlock):MB B (W'.setCell ⟨h,3,none⟩ v) h nm (m.1,m.2.1,l) a vF vO v:=by
 have hb:=blk_grow H.rR H.blk J11 hg
 exact ⟨blk_put hb 3 _ rfl,Kd.R_set (R_grow H.rF H.rR J11 hg) hb J11 3 v,Kd.R_set (R_grow H.rO H.rR J11 hg) hb J11 3 v,Kd.R_set hR hb J11 3 v,H.ge⟩
theorem grown_below {α:Type} {d:Kd α} {t B:Nat} {W W':World} {v:Value} {xs:List α} {ok:Nat→Prop} (hr:d.R t W B ok v xs) (hg:W.grownBy W' v.ownBlock) (hB:B≤W.heap.size):Below B W W' :=
 (Below.refl B W).grown hg hB (fun k hk=>Kd.R_base hr k hk)
def ItemP (B:Nat) (W:World) (p g h:Nat) (l:TL) (e:Int) (nm:ByteArray) (m:MAcc) (a:Int) (s:PS) (en:Ending) (W':World):Prop :=
 en = .returned (.tuple #[])∧TS B W' p g l e s∧(∃ vF vO vR,MB B W' h nm m a vF vO vR)∧Fr B g W W'
def fewM (m:MAcc):Prop:=m.1.length≤1000000∧m.2.1.length≤1000000∧m.2.2.length≤1000000
def FldP (B:Nat) (W:World) (p g:Nat) (l:TL) (e:Int) (f:FieldS) (s:PS) (en:Ending) (W':World):Prop :=
 en = .returned (.agg #[.string f.f0,.string f.f1,.bool f.f2,.int .i64 f.f3,.string f.f4,.int .i64 f.f5,.int .i64 f.f6])∧TS B W' p g l e s∧Fr W.heap.size g W W'
theorem box_put7 {V:World} {g:Nat} {t:TypeId} {c0 c1 c2 c3 c4 c5 c6:Value} (h:V.heap[g]?=some (.cells #[c0,c1,c2,c3,c4,c5,c6] t (0,0))) (u0 u1 u2 u3 u4 u5 u6:Value) :
  (((((((V.setCell ⟨g,0,none⟩ u0).setCell ⟨g,1,none⟩ u1).setCell ⟨g,2,none⟩ u2).setCell ⟨g,3,none⟩ u3).setCell ⟨g,4,none⟩ u4).setCell ⟨g,5,none⟩ u5).setCell ⟨g,6,none⟩ u6).heap[g]?=some (.cells #[u0,u1,u2,u3,u4,u5,u6] t (0,0)) :=
 blk_put (cs':=#[u0,u1,u2,u3,u4,u5,u6]) (blk_put (cs':=#[u0,u1,u2,u3,u4,u5,c6]) (blk_put (cs':=#[u0,u1,u2,u3,u4,c5,c6]) (blk_put (cs':=#[u0,u1,u2,u3,c4,c5,c6]) (blk_put (cs':=#[u0,u1,u2,c3,c4,c5,c6]) (blk_put (cs':=#[u0,u1,c2,c3,c4,c5,c6]) (blk_put (cs':=#[u0,c1,c2,c3,c4,c5,c6]) h 0 u0 rfl) 1 u1 rfl) 2 u2 rfl) 3 u3 rfl) 4 u4 rfl) 5 u5 rfl) 6 u6 rfl
theorem TS.far7 {B p g b:Nat} {W:World} {l:TL} {e:Int} {s:PS} (h:TS B W p g l e s) (hq:B≤b) (u0 u1 u2 u3 u4 u5 u6:Value) :
  TS B (((((((W.setCell ⟨b,0,none⟩ u0).setCell ⟨b,1,none⟩ u1).setCell ⟨b,2,none⟩ u2).setCell ⟨b,3,none⟩ u3).setCell ⟨b,4,none⟩ u4).setCell ⟨b,5,none⟩ u5).setCell ⟨b,6,none⟩ u6) p g l e s :=
 ((((((h.far (q:=⟨b,0,none⟩) hq _).far (q:=⟨b,1,none⟩) hq _).far (q:=⟨b,2,none⟩) hq _).far (q:=⟨b,3,none⟩) hq _).far (q:=⟨b,4,none⟩) hq _).far (q:=⟨b,5,none⟩) hq _).far (q:=⟨b,6,none⟩) hq _
theorem Fr.far7 {B g b:Nat} {a W:World} (h:Fr B g a W) (hq:B≤b) (u0 u1 u2 u3 u4 u5 u6:Value) :
  Fr B g a (((((((W.setCell ⟨b,0,none⟩ u0).setCell ⟨b,1,none⟩ u1).setCell ⟨b,2,none⟩ u2).setCell ⟨b,3,none⟩ u3).setCell ⟨b,4,none⟩ u4).setCell ⟨b,5,none⟩ u5).setCell ⟨b,6,none⟩ u6) :=
 ((((((h.far (p:=⟨b,0,none⟩) hq _).far (p:=⟨b,1,none⟩) hq _).far (p:=⟨b,2,none⟩) hq _).far (p:=⟨b,3,none⟩) hq _).far (p:=⟨b,4,none⟩) hq _).far (p:=⟨b,5,none⟩) hq _).far (p:=⟨b,6,none⟩) hq _
theorem fld_fin {B p g:Nat} {W V:World} {l:TL} {e:Int} {s:PS} {f:FieldS} {tmps:Array Value} {gb fb:Nat} {a4 a5 c0 c1 c2 c3 c4 c5 c6:Value}
  (HT:TS B V p g l e s) (HF:Fr W.heap.size g W V) (BK:V.heap[gb]?=some (.cells #[c0,c1,c2,c3,c4,c5,c6] 36 (0,0))) (_:V.heap[fb]?=some (.cells #[.string f.f0,.string f.f1,.bool f.f2,.int .i64 f.f3,a4,a5,.int .i64 f.f6] 36 (0,0)))
  (GW:W.heap.size≤gb) (GF:W.heap.size≤fb) (hB:B≤W.heap.size) (hne:gb≠fb) (ht:tmps.getD 4 undef = .pointer (some ⟨gb,0,none⟩)) :
  bodyPost Tryz.prog Tryz.f153 (FldP B W p g l e f s) .ret { tmps:=tmps,defers:=[] } (((((((((V.setCell ⟨fb,4,none⟩ (.string f.f4)).setCell ⟨fb,5,none⟩ (.int .i64 f.f5)).setCell ⟨gb,0,none⟩ (.string f.f0)).setCell ⟨gb,1,none⟩ (.string f.f1)).setCell ⟨gb,2,none⟩ (.bool f.f2)).setCell ⟨gb,3,none⟩ (.int .i64 f.f3)).setCell ⟨gb,4,none⟩ (.string f.f4)).setCell ⟨gb,5,none⟩ (.int .i64 f.f5)).setCell ⟨gb,6,none⟩ (.int .i64 f.f6)):=by
 refine bodyPost_ret (results_single rfl (.cell gb _ _ _ _ ht (box_put7 (blk_far (blk_far BK (p:=⟨fb,4,none⟩) hne _) (p:=⟨fb,5,none⟩) hne _) _ _ _ _ _ _ _) Tryz.underlying36 rfl J0 .nil)) rfl ⟨rfl,?_,?_⟩
 ·exact TS.far7 ((HT.far (q:=⟨fb,4,none⟩) (Nat.le_trans hB GF) _).far (q:=⟨fb,5,none⟩) (Nat.le_trans hB GF) _) (Nat.le_trans hB GW) _ _ _ _ _ _ _
 ·exact Fr.far7 ((HF.far (p:=⟨fb,4,none⟩) GF _).far (p:=⟨fb,5,none⟩) GF _) GW _ _ _ _ _ _ _
set_option maxHeartbeats 2000000 in
set_option maxRecDepth 100000 in
theorem field_s {B p g:Nat} {W:World} {l:TL} {e:Int} {s:PS} (one:Int) (h:TS B W p g l e s):Calls Tryz.prog 153 #[.pointer (some ⟨p,0,none⟩),.int .i64 one] W (FldP B W p g l e (pField e one s).1 (pField e one s).2):=by
 have HT:=Y0 h
 have HL:=Y0 h.lens.2.1
 clear h
 unfold pField
 have q1:=tok_f1
 go_enter Tryz.func153,Tryz.ntmps153
 go_upto_region 1 with ((with_reducible refine gate_dst (N:=4) rfl ?_);refine box_event ?hg (N:=4) ?hd (cs:=#[.string (⟨#[]⟩:ByteArray),.string (⟨#[]⟩:ByteArray),.bool false,.int .i64 0,.string (⟨#[]⟩:ByteArray),.int .i64 0,.int .i64 0]) (t:=36) ?hr ?_;(case hd=>rfl);(case hg=>rfl);(case hr=>first|(go_simp;done)|(go_simp;rfl));intro gb hg w3 hbox hb;have n1_:=Y0 (TS.below HT.out hb);have n2_:=Y0 (Fr.of_below (g:=g) hb);have n3_:=Y0 hbox;have n4_:=Y0 (Nat.le_of_eq hg.symm);have n5_:=Y0 (show gb < w3.heap.size from blk_lt hbox);clear HT hb hbox hg;have HT:=n1_;have HF:=n2_;have BK:=n3_;have GW:=n4_;have GL:=n5_;clear n1_ n2_ n3_ n4_ n5_)
 (try simp only [Act.put,Y14,Y15,Y16])
 have hc:=HT.out.par
 have NEG:Aside0 (w3.heap.size≠g):=⟨J165⟩
 go_cut [5] (fun v5 wc=>∃ fb:Nat,v5 = .pointer (some ⟨fb,0,none⟩)∧Aside0 (wc.heap[fb]?=some (.cells #[.string (pTake 0 s).1.f1,.string ⟨#[]⟩,.bool false,.int .i64 one,.string ⟨#[]⟩,.int .i64 0,.int .i64 (pAt e s)] 36 (0,0)))∧Aside0 (TS B wc p g l e (pTake 0 s).2)∧Aside0 (Fr w3.heap.size g w3 wc)∧Aside0 (w3.heap.size≤fb))
 case first =>
  refine start_ (n:=15) (S:=fun w'=>w'.cell? ⟨p,0,none⟩=some (.pointer (some ⟨g,0,none⟩))) (ds:=[14]) #[false,false,false,false,false,false,false,false,false,false,false,false,false,false,false] J0 rfl rfl (hc) (fun hHeld=>?_)
  refine pure_ (i:=0) (N:=some 6) (v:=?_) (a':=?_) (sqB 15 1) rfl rfl J0 (fun _ _ _ h=>h) (Or.inl ⟨J19,?_⟩) ?_ ?_;rotate_left;intro w';go_simp;with_reducible rfl;rotate_left;simp only [Act.put,Y14,Y15,Y16,i64_w];rfl
  refine pure_ (i:=1) (N:=some 7) (v:=?_) (a':=?_) (sqB 15 3) rfl rfl J0 (fun _ _ _ h=>h) (Or.inl ⟨J19,?_⟩) ?_ ?_;rotate_left;intro w';go_simp;with_reducible rfl;rotate_left;simp only [Act.put,Y14,Y15,Y16,i64_w];rfl
  refine pure_ (i:=2) (N:=some 8) (v:=?_) (a':=?_) (sqB 15 7) rfl rfl J0 (fun _ _ _ h=>h) (Or.inl ⟨J19,?_⟩) ?_ ?_;rotate_left;intro w';go_simp;with_reducible rfl;rotate_left;simp only [Act.put,Y14,Y15,Y16,i64_w];rfl
  refine pure_ (i:=5) (N:=some 11) (v:=?_) (a':=?_) (sqB 15 39) rfl rfl J0 (fun _ _ _ h=>h) (Or.inl ⟨J19,?_⟩) ?_ ?_;rotate_left;intro w';go_simp;with_reducible rfl;rotate_left;simp only [Act.put,Y14,Y15,Y16,i64_w];rfl
  refine pure_ (i:=6) (N:=some 12) (v:=?_) (a':=?_) (sqB 15 103) rfl rfl J0 (fun _ _ _ h=>h) (Or.inl ⟨J19,?_⟩) ?_ ?_;rotate_left;intro w';go_simp;with_reducible rfl;rotate_left;simp only [Act.put,Y14,Y15,Y16,i64_w];rfl
  refine pure_ (i:=7) (N:=some 13) (v:=?_) (a':=?_) (sqB 15 231) rfl rfl J0 (fun _ _ _ h=>h) (Or.inl ⟨J19,?_⟩) ?_ ?_;rotate_left;intro w';go_simp;with_reducible rfl;rotate_left;simp only [Act.put,Y14,Y15,Y16,i64_w];rfl
  refine pure_ (i:=8) (N:=some 14) (v:=?_) (a':=?_) (sqB 15 487) rfl rfl J0 (fun _ _ _ h=>h) (Or.inl ⟨J19,?_⟩) ?_ ?_;rotate_left;intro w';go_simp;with_reducible rfl;rotate_left;simp only [Act.put,Y14,Y15,Y16,i64_w];rfl
  refine take_ (i:=3) (N:=some 9) (v:=?_) (a':=?_) (sqB 15 495) rfl rfl J0 (fun _ _ _ h=>h) (Or.inl ⟨J19,?_⟩) hHeld ?_ ?_;rotate_left;intro w' s0;go_simp;with_reducible rfl;rotate_left;simp only [Act.put,Y14,Y15,Y16,i64_w];rfl
  refine take_ (i:=9) (N:=some 15) (v:=?_) (a':=?_) (sqB 15 1007) rfl rfl J0 (fun _ _ _ h=>h) (Or.inl ⟨J19,?_⟩) hHeld ?_ ?_;rotate_left;intro w' s0;go_simp;with_reducible rfl;rotate_left;simp only [Act.put,Y14,Y15,Y16,i64_w];rfl
  refine join_ (σ:=Nat) 1 #[true,true,true,true,true,true,true,true,true,true,true,true,true,true,false] (fun fb=>[(10,.int .i64 (pAt e s)),(16,.agg #[.int .i64 (pTake 0 s).1.f0,.string (pTake 0 s).1.f1,.int .i64 (pTake 0 s).1.f2,.int .i64 (pTake 0 s).1.f3]),(17,.string (pTake 0 s).1.f1),(18,.agg #[.string (pTake 0 s).1.f1,.string (⟨#[]⟩:ByteArray),.bool false,.int .i64 one,.string (⟨#[]⟩:ByteArray),.int .i64 0,.int .i64 (pAt e s)]),(5,.pointer (some ⟨fb,0,none⟩))]) (fun fb w'=>Aside0 (TS B w' p g l e (pTake 0 s).2)∧Aside0 (Fr w3.heap.size g w3 w')∧Aside0 (w3.heap.size≤fb)∧Aside0 (w'.heap[fb]?=some (.cells #[.string (⟨#[]⟩:ByteArray),.string (⟨#[]⟩:ByteArray),.bool false,.int .i64 0,.string (⟨#[]⟩:ByteArray),.int .i64 0,.int .i64 0] 36 (0,0)))) ?_ ?_
  rotate_left
  ·intro hCont
   refine two_ (i:=4) (j:=13) (Ni:=some 10) (Nj:=some 5) #[true,true,true,true,true,true,true,true,true,true,false,false,false,false,false] #[true,true,true,true,false,true,true,true,true,true,false,false,false,true,false] rfl rfl rfl rfl J0 J11 J11 (fun K hK=>?_) (fun K hK=>?_)
   ·skip
    refine goes_ Tryz.func40 J0 rfl #[.pointer (some ⟨g,0,none⟩)] J19 rfl rfl J32 ?_
    with_reducible refine (at_s (TS.drew HT.out)).mono ?_
    rintro e1 W1 ⟨rfl,hd⟩
    refine ⟨_,rfl,?_⟩
    have HT1:=Y0 (TS.drawn (HT.out.drew) hd)
    have HF1:=Y0 (((Fr.refl w3.heap.size g w3).drew).trans (drawn_fr hd w3.heap.size g))
    clear hd
    refine hK.out _ _ (HT1.out.par) (fun hHeld=>?_)
    clear hK K
    refine norm_ (a':=?_) ?_ ?_;rotate_left;show Act.put _ (some 10) _=_;simp only [Act.put,Y14,Y15,Y16,i64_w];rfl
    refine two_ (i:=10) (j:=13) (Ni:=some 16) (Nj:=some 5) #[true,true,true,true,true,true,true,true,true,true,true,false,false,false,false] #[true,true,true,true,true,true,true,true,true,true,false,false,false,true,false] rfl rfl rfl rfl J0 J11 J11 (fun K hK=>?_) (fun K hK=>?_)
    ·skip
     refine goes_ Tryz.func88 J0 rfl #[.pointer (some ⟨g,0,none⟩),.int .i64 0] J19 rfl rfl J32 ?_
     with_reducible refine (take_s 0 HT1.out).mono ?_
     rintro e2 W2 ⟨rfl,hs,hf⟩
     refine ⟨_,rfl,?_⟩
     have HT2:=Y0 hs
     have HF2:=Y0 (Fr.trans (HF1.out) (hf.mono HF1.out.size))
     clear hs hf
     refine hK.out _ _ (HT2.out.par) (fun hHeld=>?_)
     clear hK K
     refine norm_ (a':=?_) ?_ ?_;rotate_left;show Act.put _ (some 16) _=_;simp only [Act.put,Y14,Y15,Y16,i64_w];rfl
     refine pure_ (i:=11) (N:=some 17) (v:=?_) (a':=?_) (sqB 15 4095) rfl rfl J0 (fun _ _ _ h=>h) (Or.inl ⟨J19,?_⟩) ?_ ?_;rotate_left;intro w';go_simp;with_reducible rfl;rotate_left;simp only [Act.put,Y14,Y15,Y16,i64_w];rfl
     refine pure_ (i:=12) (N:=some 18) (v:=?_) (a':=?_) (sqB 15 8191) rfl rfl J0 (fun _ _ _ h=>h) (Or.inl ⟨J19,?_⟩) ?_ ?_;rotate_left;intro w';go_simp;with_reducible rfl;rotate_left;simp only [Act.put,Y14,Y15,Y16,i64_w];rfl
     refine one_ (i:=13) (N:=some 5) (sqB 15 16383) rfl rfl J0 J11 (fun K hK=>?_)
     refine value_ (w1:=?_) (v:=?_) J19 rfl ?_ ?_
     rotate_left 2
     ·go_simp
      constructor
      ·rfl
      ·rfl
     refine hK.out _ _ ((pw_cell_below (below_alloc (Below.refl _ _) _) hHeld)) (fun hHeld=>?_)
     clear hK K
     refine norm_ (a':=?_) ?_ ?_;rotate_left;show Act.put _ (some 5) _=_;simp only [Act.put,Y14,Y15,Y16,i64_w];rfl
     exact norm_ J74 (hCont W2.heap.size _ ⟨⟨HT2.out.alloc _⟩,⟨HF2.out.alloc HF2.out.size _⟩,⟨HF2.out.size⟩,⟨blk_new W2 _⟩⟩)
    ·skip
     refine value_ (w1:=?_) (v:=?_) J19 rfl ?_ ?_
     rotate_left 2
     ·go_simp
      constructor
      ·rfl
      ·rfl
     refine hK.out _ _ ((pw_cell_below (below_alloc (Below.refl _ _) _) hHeld)) (fun hHeld=>?_)
     clear hK K
     refine norm_ (a':=?_) ?_ ?_;rotate_left;show Act.put _ (some 5) _=_;simp only [Act.put,Y14,Y15,Y16,i64_w];rfl
     refine one_ (i:=10) (N:=some 16) (sqB 15 10239) rfl rfl J0 J11 (fun K hK=>?_)
     refine goes_ Tryz.func88 J0 rfl #[.pointer (some ⟨g,0,none⟩),.int .i64 0] J19 rfl rfl J32 ?_
     with_reducible refine (take_s 0 (HT1.out.alloc _)).mono ?_
     rintro e2 W2 ⟨rfl,hs,hf⟩
     refine ⟨_,rfl,?_⟩
     have HX2:=Y0 ((hf.block W1.heap.size (by rw [World.size_alloc];exact Nat.lt_succ_self _) (Nat.ne_of_gt (Nat.lt_of_lt_of_le HT1.out.lens.2.2.2.1 HT1.out.lens.2.1))).trans (blk_new W1 _))
     have HT2:=Y0 hs
     have HF2:=Y0 (Fr.trans (HF1.out.alloc HF1.out.size _) (hf.mono (Nat.le_trans HF1.out.size (by rw [World.size_alloc];exact Nat.le_succ _))))
     clear hs hf
     refine hK.out _ _ (HT2.out.par) (fun hHeld=>?_)
     clear hK K
     refine norm_ (a':=?_) ?_ ?_;rotate_left;show Act.put _ (some 16) _=_;simp only [Act.put,Y14,Y15,Y16,i64_w];rfl
     refine pure_ (i:=11) (N:=some 17) (v:=?_) (a':=?_) (sqB 15 12287) rfl rfl J0 (fun _ _ _ h=>h) (Or.inl ⟨J19,?_⟩) ?_ ?_;rotate_left;intro w';go_simp;with_reducible rfl;rotate_left;simp only [Act.put,Y14,Y15,Y16,i64_w];rfl
     refine pure_ (i:=12) (N:=some 18) (v:=?_) (a':=?_) (sqB 15 16383) rfl rfl J0 (fun _ _ _ h=>h) (Or.inl ⟨J19,?_⟩) ?_ ?_;rotate_left;intro w';go_simp;with_reducible rfl;rotate_left;simp only [Act.put,Y14,Y15,Y16,i64_w];rfl
     exact norm_ J74 (hCont W1.heap.size _ ⟨HT2,HF2,⟨HF1.out.size⟩,HX2⟩)
   ·skip
    refine value_ (w1:=?_) (v:=?_) J19 rfl ?_ ?_
    rotate_left 2
    ·go_simp
     constructor
     ·rfl
     ·rfl
    refine hK.out _ _ ((pw_cell_below (below_alloc (Below.refl _ _) _) hHeld)) (fun hHeld=>?_)
    clear hK K
    refine norm_ (a':=?_) ?_ ?_;rotate_left;show Act.put _ (some 5) _=_;simp only [Act.put,Y14,Y15,Y16,i64_w];rfl
    refine one_ (i:=4) (N:=some 10) (sqB 15 9215) rfl rfl J0 J11 (fun K hK=>?_)
    refine goes_ Tryz.func40 J0 rfl #[.pointer (some ⟨g,0,none⟩)] J19 rfl rfl J32 ?_
    with_reducible refine (at_s (HT.out.alloc _).drew).mono ?_
    rintro e1 W1 ⟨rfl,hd⟩
    refine ⟨_,rfl,?_⟩
    have HT1:=Y0 (TS.drawn ((HT.out.alloc _).drew) hd)
    have HF1:=Y0 ((((Fr.refl w3.heap.size g w3).alloc (Nat.le_refl _) _).drew).trans (drawn_fr hd w3.heap.size g))
    have HX1:=Y0 (show W1.heap[w3.heap.size]?=some (.cells #[.string (⟨#[]⟩:ByteArray),.string (⟨#[]⟩:ByteArray),.bool false,.int .i64 0,.string (⟨#[]⟩:ByteArray),.int .i64 0,.int .i64 0] 36 (0,0)) from by obtain ⟨m,rfl⟩:=hd.out;exact blk_drewN (blk_drew (blk_new _ _)) m)
    clear hd
    refine hK.out _ _ (HT1.out.par) (fun hHeld=>?_)
    clear hK K
    refine norm_ (a':=?_) ?_ ?_;rotate_left;show Act.put _ (some 10) _=_;simp only [Act.put,Y14,Y15,Y16,i64_w];rfl
    refine one_ (i:=10) (N:=some 16) (sqB 15 10239) rfl rfl J0 J11 (fun K hK=>?_)
    refine goes_ Tryz.func88 J0 rfl #[.pointer (some ⟨g,0,none⟩),.int .i64 0] J19 rfl rfl J32 ?_
    with_reducible refine (take_s 0 HT1.out).mono ?_
    rintro e2 W2 ⟨rfl,hs,hf⟩
    refine ⟨_,rfl,?_⟩
    have HX2:=Y0 ((hf.block w3.heap.size (blk_lt HX1.out) NEG.out).trans HX1.out)
    have HT2:=Y0 hs
    have HF2:=Y0 (Fr.trans (HF1.out) (hf.mono HF1.out.size))
    clear hs hf
    refine hK.out _ _ (HT2.out.par) (fun hHeld=>?_)
    clear hK K
    refine norm_ (a':=?_) ?_ ?_;rotate_left;show Act.put _ (some 16) _=_;simp only [Act.put,Y14,Y15,Y16,i64_w];rfl
    refine pure_ (i:=11) (N:=some 17) (v:=?_) (a':=?_) (sqB 15 12287) rfl rfl J0 (fun _ _ _ h=>h) (Or.inl ⟨J19,?_⟩) ?_ ?_;rotate_left;intro w';go_simp;with_reducible rfl;rotate_left;simp only [Act.put,Y14,Y15,Y16,i64_w];rfl
    refine pure_ (i:=12) (N:=some 18) (v:=?_) (a':=?_) (sqB 15 16383) rfl rfl J0 (fun _ _ _ h=>h) (Or.inl ⟨J19,?_⟩) ?_ ?_;rotate_left;intro w';go_simp;with_reducible rfl;rotate_left;simp only [Act.put,Y14,Y15,Y16,i64_w];rfl
    exact norm_ J74 (hCont w3.heap.size _ ⟨HT2,HF2,⟨Nat.le_refl _⟩,HX2⟩)
  rintro fb w' ⟨HT2,HF2,HGE,HX2⟩
  have hHeld:=HT2.out.par
  have y0:=(blk_cell HX2.out 0).trans rfl
  have y1:=(blk_cell HX2.out 1).trans rfl
  have y2:=(blk_cell HX2.out 2).trans rfl
  have y3:=(blk_cell HX2.out 3).trans rfl
  have y4:=(blk_cell HX2.out 4).trans rfl
  have y5:=(blk_cell HX2.out 5).trans rfl
  have y6:=(blk_cell HX2.out 6).trans rfl
  have x0:=blk_frozen HX2.out 0
  have x1:=blk_frozen HX2.out 1
  have x2:=blk_frozen HX2.out 2
  have x3:=blk_frozen HX2.out 3
  have x4:=blk_frozen HX2.out 4
  have x5:=blk_frozen HX2.out 5
  have x6:=blk_frozen HX2.out 6
  refine norm_ (a':=?_) ?_ ?_
  rotate_left
  ·simp only [putAll,Act.put,List.setIfInBounds_toArray,List.set_cons_zero,List.set_cons_succ]
   rfl
  refine last_ (i:=14) (N:=none) (sqB 15 32767) rfl rfl J0 J11 (fun K hK=>?_)
  refine skip_ (w1:=?_) J19 rfl ?_ ?_
  rotate_left
  ·go_simp
   rfl
  refine hK.out _ _ ?_
  clear hK K
  refine done_ J0 ?_
  go_wp2_with fail
  go_meet
  exact ⟨fb,rfl,⟨box_put7 HX2.out _ _ _ _ _ _ _⟩,⟨TS.far7 HT2.out (Nat.le_trans HT.out.lens.2.1 HGE.out) _ _ _ _ _ _ _⟩,⟨Fr.far7 HF2.out HGE.out _ _ _ _ _ _ _⟩,HGE⟩
 case rest =>
  obtain ⟨fb,rfl,HX,HT2,HF2,HGE⟩:=hcut
  have HN:=Y0 (named_s HT2.out)
  have HXN:=Y0 (show fb≠g from by have:=HT.out.lens;have:=HGE.out;omega)
  clear hc
  go_wp2_with fail
  go_at_call 92
  refine HN.out.mono ?_
  rintro e1 W4 ⟨rfl,h1,f1⟩
  have hx:=(f1.block fb (blk_lt HX.out) HXN.out).trans HX.out
  have hk:=(f1.block gb (Nat.lt_of_lt_of_le GL.out HF2.out.size) (show gb≠g from by have:=HT.out.lens;have:=GW.out;have:=HL.out;omega)).trans ((HF2.out.block gb GL.out (show gb≠g from by have:=HT.out.lens;have:=GW.out;have:=HL.out;omega)).trans BK.out)
  have HNE:=Y0 (show gb≠fb from by have:=GL.out;have:=HGE.out;omega)
  have HX4:=Y0 hx
  have HK4:=Y0 hk
  have HT4:=Y0 h1
  have HF4:=Y0 ((HF.out.trans (HF2.out.mono HF.out.size)).trans (f1.mono (Nat.le_trans HF.out.size HF2.out.size)))
  have hne:=HNE.out
  have hne':=HNE.out.symm
  have y0:_=some (Value.string _):=(blk_cell hx 0).trans rfl
  have x0:=blk_frozen hx 0
  have z0:_=some (Value.string _):=(blk_cell hk 0).trans rfl
  have w0_:=blk_frozen hk 0
  have y1:_=some (Value.string _):=(blk_cell hx 1).trans rfl
  have x1:=blk_frozen hx 1
  have z1:_=some (Value.string _):=(blk_cell hk 1).trans rfl
  have w1_:=blk_frozen hk 1
  have y2:_=some (Value.bool _):=(blk_cell hx 2).trans rfl
  have x2:=blk_frozen hx 2
  have z2:_=some (Value.bool _):=(blk_cell hk 2).trans rfl
  have w2_:=blk_frozen hk 2
  have y3:_=some (Value.int .i64 _):=(blk_cell hx 3).trans rfl
  have x3:=blk_frozen hx 3
  have z3:_=some (Value.int .i64 _):=(blk_cell hk 3).trans rfl
  have w3_:=blk_frozen hk 3
  have y4:_=some (Value.string _):=(blk_cell hx 4).trans rfl
  have x4:=blk_frozen hx 4
  have z4:_=some (Value.string _):=(blk_cell hk 4).trans rfl
  have w4_:=blk_frozen hk 4
  have y5:_=some (Value.int .i64 _):=(blk_cell hx 5).trans rfl
  have x5:=blk_frozen hx 5
  have z5:_=some (Value.int .i64 _):=(blk_cell hk 5).trans rfl
  have w5_:=blk_frozen hk 5
  have y6:_=some (Value.int .i64 _):=(blk_cell hx 6).trans rfl
  have x6:=blk_frozen hx 6
  have z6:_=some (Value.int .i64 _):=(blk_cell hk 6).trans rfl
  have w6_:=blk_frozen hk 6
  clear h1 f1 hx hk
  go_wp2
  have HG4:=Y0 (Nat.le_trans GW.out (Nat.le_of_lt (Nat.lt_of_lt_of_le GL.out HGE.out)))
  exact fld_fin HT4.out HF4.out HK4.out HX4.out GW.out HG4.out HL.out HNE.out rfl
set_option maxHeartbeats 2000000 in
set_option maxRecDepth 100000 in
theorem plain_s {B p g h:Nat} {W:World} {l:TL} {e:Int} {s:PS} {nm:ByteArray} {m:MAcc} {a:Int} {vF vO vR:Value} (H:TS B W p g l e s) (HM:MB B W h nm m a vF vO vR) (hl:fewM m):Calls Tryz.prog 132 #[.pointer (some ⟨p,0,none⟩),.pointer (some ⟨h,0,none⟩)] W (ItemP B W p g h l e nm (pPlain m e s).1 a (pPlain m e s).2):=by
 have HT:=Y0 H
 have HL:=Y0 H.lens.2.1
 have HG0:=Y0 H.lens.2.2.2.1
 have HLEN:=Y0 hl
 obtain ⟨AF,cF,rfl⟩:=Kd.R_slice HM.rF
 have hc1:W.cell? ⟨h,1,none⟩=some (.slice AF m.1.length cF):=(blk_cell HM.blk 1).trans rfl
 have HM:=Y0 HM
 clear H hl
 unfold pPlain
 go_enter Tryz.func132,Tryz.ntmps132
 refine start_ (n:=12) (S:=fun w'=>w'.cell? ⟨h,1,none⟩=some (.slice AF m.1.length cF)) (ds:=[11]) #[false,false,false,false,false,false,false,false,false,false,false,false] J0 rfl rfl (hc1) (fun hHeld=>?_)
 refine pure_ (i:=0) (N:=some 4) (v:=?_) (a':=?_) (sqB 12 1) rfl rfl J0 (fun _ _ _ h=>h) (Or.inl ⟨J19,?_⟩) ?_ ?_;rotate_left;intro w';go_simp;with_reducible rfl;rotate_left;simp only [Act.put,Y14,Y15,Y16,i64_w];rfl
 refine pure_ (i:=1) (N:=some 5) (v:=?_) (a':=?_) (sqB 12 3) rfl rfl J0 (fun _ _ _ h=>h) (Or.inl ⟨J19,?_⟩) ?_ ?_;rotate_left;intro w';go_simp;with_reducible rfl;rotate_left;simp only [Act.put,Y14,Y15,Y16,i64_w];rfl
 refine pure_ (i:=2) (N:=some 6) (v:=?_) (a':=?_) (sqB 12 7) rfl rfl J0 (fun _ _ _ h=>h) (Or.inl ⟨J19,?_⟩) ?_ ?_;rotate_left;intro w';go_simp;with_reducible rfl;rotate_left;simp only [Act.put,Y14,Y15,Y16,i64_w];rfl
 refine pure_ (i:=3) (N:=some 7) (v:=?_) (a':=?_) (sqB 12 15) rfl rfl J0 (fun _ _ _ h=>h) (Or.inl ⟨J19,?_⟩) ?_ ?_;rotate_left;intro w';go_simp;with_reducible rfl;rotate_left;simp only [Act.put,Y14,Y15,Y16,i64_w];rfl
 refine pure_ (i:=5) (N:=some 9) (v:=?_) (a':=?_) (sqB 12 47) rfl rfl J0 (fun _ _ _ h=>h) (Or.inl ⟨J19,?_⟩) ?_ ?_;rotate_left;intro w';go_simp;with_reducible rfl;rotate_left;simp only [Act.put,Y14,Y15,Y16,i64_w];rfl
 refine take_ (i:=4) (N:=some 8) (v:=?_) (a':=?_) (sqB 12 63) rfl rfl J0 (fun _ _ _ h=>h) (Or.inl ⟨J19,?_⟩) hHeld ?_ ?_;rotate_left;intro w' s0;go_simp;with_reducible rfl;rotate_left;simp only [Act.put,Y14,Y15,Y16,i64_w];rfl
 refine one_ (i:=6) (N:=some 10) (sqB 12 127) rfl rfl J0 J11 (fun K hK=>?_)
 refine goes_ Tryz.func153 J0 rfl #[.pointer (some ⟨p,0,none⟩),.int .i64 0] J19 rfl rfl J32 ?_
 with_reducible refine (field_s 0 (HT.out.drew)).mono ?_
 rintro e1 W1 ⟨rfl,h1,f1⟩
 refine ⟨_,rfl,?_⟩
 have HT1:=Y0 h1
 have HM1:=Y0 ((HM.out.below (Below.refl _ W).drew).keep f1 HG0.out)
 have HF1:=Y0 (((Fr.refl B g W).drew).trans (f1.mono HL.out))
 have HS1:=Y0 (Nat.le_trans HL.out f1.size)
 clear h1 f1
 refine hK.out _ _ (((blk_cell HM1.out.blk 1).trans rfl)) (fun hHeld=>?_)
 clear hK K
 refine norm_ (a':=?_) ?_ ?_;rotate_left;show Act.put _ (some 10) _=_;simp only [Act.put,Y14,Y15,Y16,i64_w];rfl
 refine one_ (i:=7) (N:=some 11) (sqB 12 255) rfl rfl J0 J11 (fun K hK=>?_)
 refine value_ (w1:=?_) (v:=?_) J19 rfl ?_ ?_
 rotate_left 2
 ·go_simp
  constructor
  ·rfl
  ·rfl
 refine hK.out _ _ ((pw_cell_below (below_alloc (Below.refl _ _) _) hHeld)) (fun hHeld=>?_)
 clear hK K
 refine norm_ (a':=?_) ?_ ?_;rotate_left;show Act.put _ (some 11) _=_;simp only [Act.put,Y14,Y15,Y16,i64_w];rfl
 refine one_ (i:=8) (N:=some 12) (sqB 12 511) rfl rfl J0 J11 (fun K hK=>?_)
 refine Kd.R_append_step k36 (w0:=W1) B J19 (.tmp 8) (.tmp 11) 30 36 (.agg #[(.string ⟨#[]⟩),(.string ⟨#[]⟩),(.bool false),(.int .i64 0),(.string ⟨#[]⟩),(.int .i64 0),(.int .i64 0)]) 80 rfl Tryz.underlying30 info36 rfl J11 J11 _ m.1 (pField e 0 s).1 [.string (pField e 0 s).1.f0,.string (pField e 0 s).1.f1,.bool (pField e 0 s).1.f2,.int .i64 (pField e 0 s).1.f3,.string (pField e 0 s).1.f4,.int .i64 (pField e 0 s).1.f5,.int .i64 (pField e 0 s).1.f6] (fun _=>True) (fun _=>False) rfl rfl (k36_mkM _ _ _ _) (fun _ hk=>hk.elim) (fun _ _=>trivial) HM1.out.rF (Below.refl _ _) HS1.out J166 ?_
 intro v1 w1 hR1 _ hg1 _
 obtain ⟨A1,c1,hv1⟩:=Kd.R_slice hR1
 have hv2:v1 = .slice A1 (m.1.length + 1) c1:=by rw [hv1,List.length_append];rfl
 clear hv1
 subst hv2
 have HR1:=Y0 hR1
 have HG1:=Y0 hg1
 clear hR1 hg1
 have hf1:=blk_frozen (blk_grow HM1.out.rF HM1.out.blk J11 HG1.out) 1
 refine hK.out _ _ (((blk_cell (blk_grow HM1.out.rF HM1.out.blk J11 HG1.out) 1).trans rfl)) (fun hHeld=>?_)
 clear hK K
 refine norm_ (a':=?_) ?_ ?_;rotate_left;show Act.put _ (some 12) _=_;simp only [Act.put,Y14,Y15,Y16,i64_w];rfl
 refine pure_ (i:=9) (N:=some 13) (v:=?_) (a':=?_) (sqB 12 1023) rfl rfl J0 (fun _ _ _ h=>h) (Or.inl ⟨J19,?_⟩) ?_ ?_;rotate_left;intro w';go_simp;with_reducible rfl;rotate_left;simp only [Act.put,Y14,Y15,Y16,i64_w];rfl
 refine pure_ (i:=10) (N:=some 14) (v:=?_) (a':=?_) (sqB 12 2047) rfl rfl J0 (fun _ _ _ h=>h) (Or.inl ⟨J19,?_⟩) ?_ ?_;rotate_left;intro w';go_simp;with_reducible rfl;rotate_left;simp only [Act.put,Y14,Y15,Y16,i64_w];rfl
 refine last_ (i:=11) (N:=none) (sqB 12 4095) rfl rfl J0 J11 (fun K hK=>?_)
 refine skip_ (w1:=?_) J19 rfl ?_ ?_
 rotate_left
 ·go_simp
  rfl
 refine hK.out _ _ ?_
 clear hK K
 refine done_ J0 ?_
 go_wp2_with fail
 go_end0
 refine ⟨rfl,?_,⟨_,_,_,HM1.out.appF HR1.out HG1.out⟩,?_⟩
 ·exact (HT1.out.other (grown_below HM1.out.rF HG1.out HS1.out)).far (q:=⟨h,1,none⟩) HM.out.ge _
 ·exact (HF1.out.trans (Fr.of_below (grown_below HM1.out.rF HG1.out HS1.out))).far (p:=⟨h,1,none⟩) HM.out.ge _
set_option maxHeartbeats 2000000 in
set_option maxRecDepth 100000 in
theorem rep_s {B p g h:Nat} {W:World} {l:TL} {e:Int} {s:PS} {nm:ByteArray} {m:MAcc} {a:Int} {vF vO vR:Value} (H:TS B W p g l e s) (HM:MB B W h nm m a vF vO vR) (hl:fewM m):Calls Tryz.prog 128 #[.pointer (some ⟨p,0,none⟩),.pointer (some ⟨h,0,none⟩)] W (ItemP B W p g h l e nm (pRep m e s).1 a (pRep m e s).2):=by
 have HT:=Y0 H
 have HL:=Y0 H.lens.2.1
 have HG0:=Y0 H.lens.2.2.2.1
 have HLEN:=Y0 hl
 obtain ⟨AF,cF,rfl⟩:=Kd.R_slice HM.rF
 have HM:=Y0 HM
 have hc:=H.par
 clear H hl
 unfold pRep
 have q1:=tok_f1
 have q2:=tok_f2
 go_enter Tryz.func128,Tryz.ntmps128
 go_wp2_with fail
 go_at_call 40
 refine (at_s HT.out).mono ?_
 rintro en_ W1 ⟨rfl,hd⟩
 have n1_:=Y0 (HT.out.drawn hd)
 have HF:=Y0 (drawn_fr hd W.heap.size g)
 clear HT hc hd
 have HT:=n1_
 have hc:=HT.out.par
 clear n1_
 go_wp2_with fail
 go_at_call 88
 refine (take_s 0 HT.out).mono ?_
 rintro en_ W2 ⟨rfl,h1,f1⟩
 have n1_:=Y0 h1
 have n2_:=Y0 (HF.out.trans (f1.mono HF.out.size))
 clear hc HT HF
 have hc:=h1.par
 have HT:=n1_
 have HF:=n2_
 clear h1 f1 n1_ n2_
 go_wp2_with fail
 go_at_call 153
 refine (field_s 0 HT.out).mono ?_
 rintro en_ W3 ⟨rfl,h1,f1⟩
 have n1_:=Y0 h1
 have n2_:=Y0 (HF.out.trans (f1.mono HF.out.size))
 clear hc HT HF
 have hc:=h1.par
 have HT:=n1_
 have HF:=n2_
 clear h1 f1 n1_ n2_
 go_wp2_with fail
 have n1_:=Y0 (HT.out.alloc (.cells #[.string (pField e 0 (pTake 0 s).2).1.f0,.string (pField e 0 (pTake 0 s).2).1.f1,.bool true,.int .i64 (pField e 0 (pTake 0 s).2).1.f3,.string (pField e 0 (pTake 0 s).2).1.f4,.int .i64 (pField e 0 (pTake 0 s).2).1.f5,.int .i64 (pAt e s)] 36 (0,0)))
 have n2_:=Y0 (HF.out.alloc HF.out.size (.cells #[.string (pField e 0 (pTake 0 s).2).1.f0,.string (pField e 0 (pTake 0 s).2).1.f1,.bool true,.int .i64 (pField e 0 (pTake 0 s).2).1.f3,.string (pField e 0 (pTake 0 s).2).1.f4,.int .i64 (pField e 0 (pTake 0 s).2).1.f5,.int .i64 (pAt e s)] 36 (0,0)))
 have n3_:=Y0 (blk_new W3 (.cells #[.string (pField e 0 (pTake 0 s).2).1.f0,.string (pField e 0 (pTake 0 s).2).1.f1,.bool true,.int .i64 (pField e 0 (pTake 0 s).2).1.f3,.string (pField e 0 (pTake 0 s).2).1.f4,.int .i64 (pField e 0 (pTake 0 s).2).1.f5,.int .i64 (pAt e s)] 36 (0,0)))
 have HXW:=Y0 HF.out.size
 have HBX:=Y0 HT.out.lens.2.1
 have HXN:Aside0 (W3.heap.size≠g):=⟨J165⟩
 clear HT HF hc
 generalize W3.alloc (.cells #[.string (pField e 0 (pTake 0 s).2).1.f0,.string (pField e 0 (pTake 0 s).2).1.f1,.bool true,.int .i64 (pField e 0 (pTake 0 s).2).1.f3,.string (pField e 0 (pTake 0 s).2).1.f4,.int .i64 (pField e 0 (pTake 0 s).2).1.f5,.int .i64 (pAt e s)] 36 (0,0))=W9 at *
 obtain ⟨fb,hfb⟩:∃ fb,W3.heap.size=fb:=⟨_,rfl⟩
 rw [hfb] at HXW HBX HXN n3_ ⊢
 clear hfb
 have HT:=n1_
 have HF:=n2_
 have HX:=n3_
 have hc:=HT.out.par
 clear n1_ n2_ n3_
 have hb9:=HX.out
 have y0:W9.cell? ⟨fb,0,none⟩=some (.string (pField e 0 (pTake 0 s).2).1.f0):=(blk_cell hb9 0).trans rfl
 have y1:W9.cell? ⟨fb,1,none⟩=some (.string (pField e 0 (pTake 0 s).2).1.f1):=(blk_cell hb9 1).trans rfl
 have y2:W9.cell? ⟨fb,2,none⟩=some (.bool true):=(blk_cell hb9 2).trans rfl
 have y3:W9.cell? ⟨fb,3,none⟩=some (.int .i64 (pField e 0 (pTake 0 s).2).1.f3):=(blk_cell hb9 3).trans rfl
 have y4:W9.cell? ⟨fb,4,none⟩=some (.string (pField e 0 (pTake 0 s).2).1.f4):=(blk_cell hb9 4).trans rfl
 have y5:W9.cell? ⟨fb,5,none⟩=some (.int .i64 (pField e 0 (pTake 0 s).2).1.f5):=(blk_cell hb9 5).trans rfl
 have y6:W9.cell? ⟨fb,6,none⟩=some (.int .i64 (pAt e s)):=(blk_cell hb9 6).trans rfl
 clear hb9 HX
 have n1_:=Y0 HT.out.drew
 have n2_:=Y0 HF.out.drew
 clear HT HF hc
 have HT:=n1_
 have HF:=n2_
 clear n1_ n2_
 have HM1:=Y0 (HM.out.keep HF.out HG0.out)
 have HS1:=Y0 (Nat.le_trans HL.out HF.out.size)
 have hc1:W9.cell? ⟨h,1,none⟩=some (.slice AF m.1.length cF):=(blk_cell HM1.out.blk 1).trans rfl
 refine start_ (n:=11) (S:=fun w'=>w'.cell? ⟨h,1,none⟩=some (.slice AF m.1.length cF)∧w'.cell? ⟨fb,0,none⟩=some (.string (pField e 0 (pTake 0 s).2).1.f0)∧w'.cell? ⟨fb,1,none⟩=some (.string (pField e 0 (pTake 0 s).2).1.f1)∧w'.cell? ⟨fb,2,none⟩=some (.bool true)∧w'.cell? ⟨fb,3,none⟩=some (.int .i64 (pField e 0 (pTake 0 s).2).1.f3)∧w'.cell? ⟨fb,4,none⟩=some (.string (pField e 0 (pTake 0 s).2).1.f4)∧w'.cell? ⟨fb,5,none⟩=some (.int .i64 (pField e 0 (pTake 0 s).2).1.f5)∧w'.cell? ⟨fb,6,none⟩=some (.int .i64 (pAt e s))) (ds:=[7,10]) #[false,false,false,false,false,false,false,false,false,false,false] J0 rfl rfl ⟨hc1,y0,y1,y2,y3,y4,y5,y6⟩ (fun hHeld=>?_)
 generalize W9.drew=WD at *
 refine pure_ (i:=0) (N:=some 21) (v:=?_) (a':=?_) (sqB 11 1) rfl rfl J0 (fun _ _ _ h=>h) (Or.inl ⟨J19,?_⟩) ?_ ?_;rotate_left;intro w';go_simp;with_reducible rfl;rotate_left;simp only [Act.put,Y14,Y15,Y16,i64_w];rfl
 refine pure_ (i:=1) (N:=some 22) (v:=?_) (a':=?_) (sqB 11 3) rfl rfl J0 (fun _ _ _ h=>h) (Or.inl ⟨J19,?_⟩) ?_ ?_;rotate_left;intro w';go_simp;with_reducible rfl;rotate_left;simp only [Act.put,Y14,Y15,Y16,i64_w];rfl
 refine pure_ (i:=2) (N:=some 23) (v:=?_) (a':=?_) (sqB 11 7) rfl rfl J0 (fun _ _ _ h=>h) (Or.inl ⟨J19,?_⟩) ?_ ?_;rotate_left;intro w';go_simp;with_reducible rfl;rotate_left;simp only [Act.put,Y14,Y15,Y16,i64_w];rfl
 refine pure_ (i:=3) (N:=some 24) (v:=?_) (a':=?_) (sqB 11 15) rfl rfl J0 (fun _ _ _ h=>h) (Or.inl ⟨J19,?_⟩) ?_ ?_;rotate_left;intro w';go_simp;with_reducible rfl;rotate_left;simp only [Act.put,Y14,Y15,Y16,i64_w];rfl
 refine take_ (i:=4) (N:=some 25) (v:=?_) (a':=?_) (sqB 11 31) rfl rfl J0 (fun _ _ _ h=>h) (Or.inl ⟨J19,?_⟩) hHeld ?_ ?_;rotate_left;rintro w' ⟨s0,s1,s2,s3,s4,s5,s6,s7⟩;go_simp;with_reducible rfl;rotate_left;simp only [Act.put,Y14,Y15,Y16,i64_w];rfl
 refine take_ (i:=5) (N:=some 26) (v:=?_) (a':=?_) (sqB 11 63) rfl rfl J0 (fun _ _ _ h=>h) (Or.inl ⟨J19,?_⟩) hHeld ?_ ?_;rotate_left;rintro w' ⟨s0,s1,s2,s3,s4,s5,s6,s7⟩;go_simp;with_reducible rfl;rotate_left;simp only [Act.put,Y14,Y15,Y16,i64_w];rfl
 refine one_ (i:=6) (N:=some 27) (sqB 11 127) rfl rfl J0 J11 (fun K hK=>?_)
 refine value_ (w1:=?_) (v:=?_) J19 rfl ?_ ?_
 rotate_left 2
 ·go_simp
  constructor
  ·rfl
  ·rfl
 refine hK.out _ _ ⟨(pw_cell_below (below_alloc (Below.refl _ _) _) hHeld.1),(pw_cell_below (below_alloc (Below.refl _ _) _) hHeld.2.1),(pw_cell_below (below_alloc (Below.refl _ _) _) hHeld.2.2.1),(pw_cell_below (below_alloc (Below.refl _ _) _) hHeld.2.2.2.1),(pw_cell_below (below_alloc (Below.refl _ _) _) hHeld.2.2.2.2.1),(pw_cell_below (below_alloc (Below.refl _ _) _) hHeld.2.2.2.2.2.1),(pw_cell_below (below_alloc (Below.refl _ _) _) hHeld.2.2.2.2.2.2.1),(pw_cell_below (below_alloc (Below.refl _ _) _) hHeld.2.2.2.2.2.2.2)⟩ (fun hHeld=>?_)
 clear hK K
 refine norm_ (a':=?_) ?_ ?_;rotate_left;show Act.put _ (some 27) _=_;simp only [Act.put,Y14,Y15,Y16,i64_w];rfl
 refine last_ (i:=7) (N:=some 28) (sqB 11 255) rfl rfl J0 J11 (fun K hK=>?_)
 refine Kd.R_append_step k36 (w0:=WD) B J19 (.tmp 25) (.tmp 27) 30 36 (.agg #[(.string ⟨#[]⟩),(.string ⟨#[]⟩),(.bool false),(.int .i64 0),(.string ⟨#[]⟩),(.int .i64 0),(.int .i64 0)]) 80 rfl Tryz.underlying30 info36 rfl J11 J11 _ m.1 (repF (pField e 0 (pTake 0 s).2).1 (pAt e s)) [.string (pField e 0 (pTake 0 s).2).1.f0,.string (pField e 0 (pTake 0 s).2).1.f1,.bool true,.int .i64 (pField e 0 (pTake 0 s).2).1.f3,.string (pField e 0 (pTake 0 s).2).1.f4,.int .i64 (pField e 0 (pTake 0 s).2).1.f5,.int .i64 (pAt e s)] (fun _=>True) (fun _=>False) rfl rfl (k36_mkM _ _ _ ((repF (pField e 0 (pTake 0 s).2).1 (pAt e s)))) (fun _ hk=>hk.elim) (fun _ _=>trivial) HM1.out.rF (Below.refl _ _) HS1.out J166 ?_
 intro v1 w1 hR1 _ hg1 _
 obtain ⟨A1,c1,hv1⟩:=Kd.R_slice hR1
 have hv2:v1 = .slice A1 (m.1.length + 1) c1:=by rw [hv1,List.length_append];rfl
 clear hv1
 subst hv2
 have HR1:=Y0 hR1
 have HG1:=Y0 hg1
 clear hR1 hg1
 have hf1:=blk_frozen (blk_grow HM1.out.rF HM1.out.blk J11 HG1.out) 1
 have hk1:=(blk_cell (blk_grow HM1.out.rF HM1.out.blk J11 HG1.out) 1).trans rfl
 refine hK.out _ _ ?_
 clear hK K
 refine norm_ (a':=?_) ?_ ?_;rotate_left;show Act.put _ (some 28) _=_;simp only [Act.put,Y14,Y15,Y16,i64_w];rfl
 refine pure_ (i:=8) (N:=some 29) (v:=?_) (a':=?_) (sqB 11 511) rfl rfl J0 (fun _ _ _ h=>h) (Or.inl ⟨J19,?_⟩) ?_ ?_;rotate_left;intro w';go_simp;with_reducible rfl;rotate_left;simp only [Act.put,Y14,Y15,Y16,i64_w];rfl
 refine pure_ (i:=9) (N:=some 30) (v:=?_) (a':=?_) (sqB 11 1023) rfl rfl J0 (fun _ _ _ h=>h) (Or.inl ⟨J19,?_⟩) ?_ ?_;rotate_left;intro w';go_simp;with_reducible rfl;rotate_left;simp only [Act.put,Y14,Y15,Y16,i64_w];rfl
 refine last_ (i:=10) (N:=none) (sqB 11 2047) rfl rfl J0 J11 (fun K hK=>?_)
 refine skip_ (w1:=?_) J19 rfl ?_ ?_
 rotate_left
 ·go_simp
  rfl
 refine hK.out _ _ ?_
 clear hK K
 refine done_ J0 ?_
 go_wp2_with fail
 go_end0
 refine ⟨rfl,?_,⟨_,_,_,HM1.out.appF HR1.out HG1.out⟩,?_⟩
 ·exact (HT.out.other (grown_below HM1.out.rF HG1.out HS1.out)).far (q:=⟨h,1,none⟩) HM.out.ge _
 ·exact ((HF.out.mono HL.out).trans (Fr.of_below (grown_below HM1.out.rF HG1.out HS1.out))).far (p:=⟨h,1,none⟩) HM.out.ge _
set_option maxHeartbeats 2000000 in
set_option maxRecDepth 100000 in
theorem map_s {B p g h:Nat} {W:World} {l:TL} {e:Int} {s:PS} {nm:ByteArray} {m:MAcc} {a:Int} {vF vO vR:Value} (H:TS B W p g l e s) (HM:MB B W h nm m a vF vO vR) (hl:fewM m):Calls Tryz.prog 131 #[.pointer (some ⟨p,0,none⟩),.pointer (some ⟨h,0,none⟩)] W (ItemP B W p g h l e nm (pMap m e s).1 a (pMap m e s).2):=by
 have HT:=Y0 H
 have HL:=Y0 H.lens.2.1
 have HG0:=Y0 H.lens.2.2.2.1
 have HLEN:=Y0 hl
 obtain ⟨AF,cF,rfl⟩:=Kd.R_slice HM.rF
 have HM:=Y0 HM
 have hc:=H.par
 clear H hl
 unfold pMap
 have q1:=tok_f1
 have q2:=tok_f2
 unfold pMapT
 go_enter Tryz.func131,Tryz.ntmps131
 go_wp2_with fail
 go_at_call 40
 refine (at_s HT.out).mono ?_
 rintro en_ W1 ⟨rfl,hd⟩
 have n1_:=Y0 (HT.out.drawn hd)
 have HF:=Y0 (drawn_fr hd W.heap.size g)
 clear HT hc hd
 have HT:=n1_
 have hc:=HT.out.par
 clear n1_
 have hcA:∀ o,(W1.alloc o).cell? ⟨p,0,none⟩=some (.pointer (some ⟨g,0,none⟩)):=fun o=>pw_cell_below (below_alloc (Below.refl _ W1) o) hc
 go_wp2_with fail
 clear hcA
 have n1_:=Y0 (HT.out.alloc (.cells #[.string (⟨#[]⟩:ByteArray),.string (⟨#[]⟩:ByteArray),.bool false,.int .i64 0,.string (⟨#[]⟩:ByteArray),.int .i64 0,.int .i64 (pAt e s)] 36 (0,0)))
 have n2_:=Y0 (HF.out.alloc HF.out.size (.cells #[.string (⟨#[]⟩:ByteArray),.string (⟨#[]⟩:ByteArray),.bool false,.int .i64 0,.string (⟨#[]⟩:ByteArray),.int .i64 0,.int .i64 (pAt e s)] 36 (0,0)))
 have n3_:=Y0 (blk_new W1 (.cells #[.string (⟨#[]⟩:ByteArray),.string (⟨#[]⟩:ByteArray),.bool false,.int .i64 0,.string (⟨#[]⟩:ByteArray),.int .i64 0,.int .i64 (pAt e s)] 36 (0,0)))
 have HXW:=Y0 HF.out.size
 have HBX:=Y0 HT.out.lens.2.1
 have HXN:Aside0 (W1.heap.size≠g):=⟨J165⟩
 clear HT HF hc
 generalize W1.alloc (.cells #[.string (⟨#[]⟩:ByteArray),.string (⟨#[]⟩:ByteArray),.bool false,.int .i64 0,.string (⟨#[]⟩:ByteArray),.int .i64 0,.int .i64 (pAt e s)] 36 (0,0))=V0 at *
 obtain ⟨fb,hfb⟩:∃ fb,W1.heap.size=fb:=⟨_,rfl⟩
 rw [hfb] at HXW HBX HXN n3_ ⊢
 clear hfb
 have HT:=n1_
 have HF:=n2_
 have HX:=n3_
 have hc:=HT.out.par
 clear n1_ n2_ n3_
 have hpf:p≠fb:=by have:=HT.out.lens;have:=HBX.out;omega
 have hfp:=Ne.symm hpf
 go_at_call 88
 refine (take_s 0 HT.out).mono ?_
 rintro en_ V1 ⟨rfl,h1,f1⟩
 have n3_:=Y0 ((f1.block fb (blk_lt HX.out) HXN.out).trans HX.out)
 clear HX
 have HX:=n3_
 clear n3_
 have n1_:=Y0 h1
 have n2_:=Y0 (HF.out.trans (f1.mono HF.out.size))
 clear hc HT HF
 have hc:=h1.par
 have HT:=n1_
 have HF:=n2_
 clear h1 f1 n1_ n2_
 go_wp2_with fail
 go_at_call 89
 refine (must_s ⟨#[60]⟩ HT.out).mono ?_
 rintro en_ V2 ⟨rfl,h1,f1⟩
 have n3_:=Y0 ((f1.block fb (blk_lt HX.out) HXN.out).trans HX.out)
 clear HX
 have HX:=n3_
 clear n3_
 have n1_:=Y0 h1
 have n2_:=Y0 (HF.out.trans (f1.mono HF.out.size))
 clear hc HT HF
 have hc:=h1.par
 have HT:=n1_
 have HF:=n2_
 clear h1 f1 n1_ n2_
 go_wp2_with fail
 go_at_call 88
 refine (take_s 0 HT.out).mono ?_
 rintro en_ V3 ⟨rfl,h1,f1⟩
 have n3_:=Y0 ((f1.block fb (blk_lt HX.out) HXN.out).trans HX.out)
 clear HX
 have HX:=n3_
 clear n3_
 have n1_:=Y0 h1
 have n2_:=Y0 (HF.out.trans (f1.mono HF.out.size))
 clear hc HT HF
 have hc:=h1.par
 have HT:=n1_
 have HF:=n2_
 clear h1 f1 n1_ n2_
 have y0:_=some (Value.string _):=(blk_cell HX.out 0).trans rfl
 have y1:_=some (Value.string _):=(blk_cell HX.out 1).trans rfl
 have y2:_=some (Value.bool _):=(blk_cell HX.out 2).trans rfl
 have y3:_=some (Value.int .i64 _):=(blk_cell HX.out 3).trans rfl
 have y4:_=some (Value.string _):=(blk_cell HX.out 4).trans rfl
 have y5:_=some (Value.int .i64 _):=(blk_cell HX.out 5).trans rfl
 have y6:_=some (Value.int .i64 _):=(blk_cell HX.out 6).trans rfl
 have x0:=blk_frozen HX.out 0
 have x1:=blk_frozen HX.out 1
 have x2:=blk_frozen HX.out 2
 have x3:=blk_frozen HX.out 3
 have x4:=blk_frozen HX.out 4
 have x5:=blk_frozen HX.out 5
 have x6:=blk_frozen HX.out 6
 go_wp2_with fail
 clear y0 y1 y2 y3 y4 y5 y6 x0 x1 x2 x3 x4 x5 x6
 have n1_:=Y0 (HT.out.far (q:=⟨fb,1,none⟩) HBX.out (.string (pTake 0 (pMust [60] (pTake 0 s).2)).1.f1))
 have n2_:=Y0 (HF.out.far (p:=⟨fb,1,none⟩) HXW.out (.string (pTake 0 (pMust [60] (pTake 0 s).2)).1.f1))
 have n3_:Aside0 (_=some (Obj.cells #[.string (⟨#[]⟩:ByteArray),.string (pTake 0 (pMust [60] (pTake 0 s).2)).1.f1,.bool false,.int .i64 0,.string (⟨#[]⟩:ByteArray),.int .i64 0,.int .i64 (pAt e s)] 36 (0,0))):=⟨blk_put HX.out 1 (.string (pTake 0 (pMust [60] (pTake 0 s).2)).1.f1) rfl⟩
 clear HT HF HX hc
 generalize V3.setCell ⟨fb,1,none⟩ (.string (pTake 0 (pMust [60] (pTake 0 s).2)).1.f1)=V4 at *
 have HT:=n1_
 have HF:=n2_
 have HX:=n3_
 have hc:=HT.out.par
 clear n1_ n2_ n3_
 go_at_call 89
 refine (must_s ⟨#[44]⟩ HT.out).mono ?_
 rintro en_ V5 ⟨rfl,h1,f1⟩
 have n3_:=Y0 ((f1.block fb (blk_lt HX.out) HXN.out).trans HX.out)
 clear HX
 have HX:=n3_
 clear n3_
 have n1_:=Y0 h1
 have n2_:=Y0 (HF.out.trans (f1.mono HF.out.size))
 clear hc HT HF
 have hc:=h1.par
 have HT:=n1_
 have HF:=n2_
 clear h1 f1 n1_ n2_
 go_wp2_with fail
 go_at_call 88
 refine (take_s 0 HT.out).mono ?_
 rintro en_ V6 ⟨rfl,h1,f1⟩
 have n3_:=Y0 ((f1.block fb (blk_lt HX.out) HXN.out).trans HX.out)
 clear HX
 have HX:=n3_
 clear n3_
 have n1_:=Y0 h1
 have n2_:=Y0 (HF.out.trans (f1.mono HF.out.size))
 clear hc HT HF
 have hc:=h1.par
 have HT:=n1_
 have HF:=n2_
 clear h1 f1 n1_ n2_
 have y0:_=some (Value.string _):=(blk_cell HX.out 0).trans rfl
 have y1:_=some (Value.string _):=(blk_cell HX.out 1).trans rfl
 have y2:_=some (Value.bool _):=(blk_cell HX.out 2).trans rfl
 have y3:_=some (Value.int .i64 _):=(blk_cell HX.out 3).trans rfl
 have y4:_=some (Value.string _):=(blk_cell HX.out 4).trans rfl
 have y5:_=some (Value.int .i64 _):=(blk_cell HX.out 5).trans rfl
 have y6:_=some (Value.int .i64 _):=(blk_cell HX.out 6).trans rfl
 have x0:=blk_frozen HX.out 0
 have x1:=blk_frozen HX.out 1
 have x2:=blk_frozen HX.out 2
 have x3:=blk_frozen HX.out 3
 have x4:=blk_frozen HX.out 4
 have x5:=blk_frozen HX.out 5
 have x6:=blk_frozen HX.out 6
 go_wp2_with fail
 clear y0 y1 y2 y3 y4 y5 y6 x0 x1 x2 x3 x4 x5 x6
 have n1_:=Y0 (HT.out.far (q:=⟨fb,0,none⟩) HBX.out (.string (pTake 0 (pMust [44] (pTake 0 (pMust [60] (pTake 0 s).2)).2)).1.f1))
 have n2_:=Y0 (HF.out.far (p:=⟨fb,0,none⟩) HXW.out (.string (pTake 0 (pMust [44] (pTake 0 (pMust [60] (pTake 0 s).2)).2)).1.f1))
 have n3_:Aside0 (_=some (Obj.cells #[.string (pTake 0 (pMust [44] (pTake 0 (pMust [60] (pTake 0 s).2)).2)).1.f1,.string (pTake 0 (pMust [60] (pTake 0 s).2)).1.f1,.bool false,.int .i64 0,.string (⟨#[]⟩:ByteArray),.int .i64 0,.int .i64 (pAt e s)] 36 (0,0))):=⟨blk_put HX.out 0 (.string (pTake 0 (pMust [44] (pTake 0 (pMust [60] (pTake 0 s).2)).2)).1.f1) rfl⟩
 clear HT HF HX hc
 generalize V6.setCell ⟨fb,0,none⟩ (.string (pTake 0 (pMust [44] (pTake 0 (pMust [60] (pTake 0 s).2)).2)).1.f1)=V7 at *
 have HT:=n1_
 have HF:=n2_
 have HX:=n3_
 have hc:=HT.out.par
 clear n1_ n2_ n3_
 go_at_call 89
 refine (must_s ⟨#[62]⟩ HT.out).mono ?_
 rintro en_ V8 ⟨rfl,h1,f1⟩
 have n3_:=Y0 ((f1.block fb (blk_lt HX.out) HXN.out).trans HX.out)
 clear HX
 have HX:=n3_
 clear n3_
 have n1_:=Y0 h1
 have n2_:=Y0 (HF.out.trans (f1.mono HF.out.size))
 clear hc HT HF
 have hc:=h1.par
 have HT:=n1_
 have HF:=n2_
 clear h1 f1 n1_ n2_
 go_wp2_with fail
 go_at_call 92
 refine (named_s HT.out).mono ?_
 rintro en_ VA ⟨rfl,h1,f1⟩
 have n3_:=Y0 ((f1.block fb (blk_lt HX.out) HXN.out).trans HX.out)
 clear HX
 have HX:=n3_
 clear n3_
 have n1_:=Y0 h1
 have n2_:=Y0 (HF.out.trans (f1.mono HF.out.size))
 clear hc HT HF
 have hc:=h1.par
 have HT:=n1_
 have HF:=n2_
 clear h1 f1 n1_ n2_
 have y0:_=some (Value.string _):=(blk_cell HX.out 0).trans rfl
 have y1:_=some (Value.string _):=(blk_cell HX.out 1).trans rfl
 have y2:_=some (Value.bool _):=(blk_cell HX.out 2).trans rfl
 have y3:_=some (Value.int .i64 _):=(blk_cell HX.out 3).trans rfl
 have y4:_=some (Value.string _):=(blk_cell HX.out 4).trans rfl
 have y5:_=some (Value.int .i64 _):=(blk_cell HX.out 5).trans rfl
 have y6:_=some (Value.int .i64 _):=(blk_cell HX.out 6).trans rfl
 have x0:=blk_frozen HX.out 0
 have x1:=blk_frozen HX.out 1
 have x2:=blk_frozen HX.out 2
 have x3:=blk_frozen HX.out 3
 have x4:=blk_frozen HX.out 4
 have x5:=blk_frozen HX.out 5
 have x6:=blk_frozen HX.out 6
 go_wp2_with fail
 clear y0 y1 y2 y3 y4 y5 y6 x0 x1 x2 x3 x4 x5 x6
 have n1_:=Y0 (HT.out.far (q:=⟨fb,4,none⟩) HBX.out (.string (pNamed (pMust [62] (pTake 0 (pMust [44] (pTake 0 (pMust [60] (pTake 0 s).2)).2)).2)).1.1))
 have n2_:=Y0 (HF.out.far (p:=⟨fb,4,none⟩) HXW.out (.string (pNamed (pMust [62] (pTake 0 (pMust [44] (pTake 0 (pMust [60] (pTake 0 s).2)).2)).2)).1.1))
 have n3_:Aside0 (_=some (Obj.cells #[.string (pTake 0 (pMust [44] (pTake 0 (pMust [60] (pTake 0 s).2)).2)).1.f1,.string (pTake 0 (pMust [60] (pTake 0 s).2)).1.f1,.bool false,.int .i64 0,.string (pNamed (pMust [62] (pTake 0 (pMust [44] (pTake 0 (pMust [60] (pTake 0 s).2)).2)).2)).1.1,.int .i64 0,.int .i64 (pAt e s)] 36 (0,0))):=⟨blk_put HX.out 4 (.string (pNamed (pMust [62] (pTake 0 (pMust [44] (pTake 0 (pMust [60] (pTake 0 s).2)).2)).2)).1.1) rfl⟩
 clear HT HF HX hc
 generalize VA.setCell ⟨fb,4,none⟩ (.string (pNamed (pMust [62] (pTake 0 (pMust [44] (pTake 0 (pMust [60] (pTake 0 s).2)).2)).2)).1.1)=VB at *
 have HT:=n1_
 have HF:=n2_
 have HX:=n3_
 have hc:=HT.out.par
 clear n1_ n2_ n3_
 have n1_:=Y0 (HT.out.far (q:=⟨fb,5,none⟩) HBX.out (.int .i64 (pNamed (pMust [62] (pTake 0 (pMust [44] (pTake 0 (pMust [60] (pTake 0 s).2)).2)).2)).1.2))
 have n2_:=Y0 (HF.out.far (p:=⟨fb,5,none⟩) HXW.out (.int .i64 (pNamed (pMust [62] (pTake 0 (pMust [44] (pTake 0 (pMust [60] (pTake 0 s).2)).2)).2)).1.2))
 have n3_:Aside0 (_=some (Obj.cells #[.string (pTake 0 (pMust [44] (pTake 0 (pMust [60] (pTake 0 s).2)).2)).1.f1,.string (pTake 0 (pMust [60] (pTake 0 s).2)).1.f1,.bool false,.int .i64 0,.string (pNamed (pMust [62] (pTake 0 (pMust [44] (pTake 0 (pMust [60] (pTake 0 s).2)).2)).2)).1.1,.int .i64 (pNamed (pMust [62] (pTake 0 (pMust [44] (pTake 0 (pMust [60] (pTake 0 s).2)).2)).2)).1.2,.int .i64 (pAt e s)] 36 (0,0))):=⟨blk_put HX.out 5 (.int .i64 (pNamed (pMust [62] (pTake 0 (pMust [44] (pTake 0 (pMust [60] (pTake 0 s).2)).2)).2)).1.2) rfl⟩
 clear HT HF HX hc
 generalize VB.setCell ⟨fb,5,none⟩ (.int .i64 (pNamed (pMust [62] (pTake 0 (pMust [44] (pTake 0 (pMust [60] (pTake 0 s).2)).2)).2)).1.2)=W9 at *
 have HT:=n1_
 have HF:=n2_
 have HX:=n3_
 have hc:=HT.out.par
 clear n1_ n2_ n3_
 clear hpf hfp
 have hb9:=HX.out
 have y0:W9.cell? ⟨fb,0,none⟩=some (.string (pTake 0 (pMust [44] (pTake 0 (pMust [60] (pTake 0 s).2)).2)).1.f1):=(blk_cell hb9 0).trans rfl
 have y1:W9.cell? ⟨fb,1,none⟩=some (.string (pTake 0 (pMust [60] (pTake 0 s).2)).1.f1):=(blk_cell hb9 1).trans rfl
 have y2:W9.cell? ⟨fb,2,none⟩=some (.bool false):=(blk_cell hb9 2).trans rfl
 have y3:W9.cell? ⟨fb,3,none⟩=some (.int .i64 0):=(blk_cell hb9 3).trans rfl
 have y4:W9.cell? ⟨fb,4,none⟩=some (.string (pNamed (pMust [62] (pTake 0 (pMust [44] (pTake 0 (pMust [60] (pTake 0 s).2)).2)).2)).1.1):=(blk_cell hb9 4).trans rfl
 have y5:W9.cell? ⟨fb,5,none⟩=some (.int .i64 (pNamed (pMust [62] (pTake 0 (pMust [44] (pTake 0 (pMust [60] (pTake 0 s).2)).2)).2)).1.2):=(blk_cell hb9 5).trans rfl
 have y6:W9.cell? ⟨fb,6,none⟩=some (.int .i64 (pAt e s)):=(blk_cell hb9 6).trans rfl
 clear hb9 HX
 have n1_:=Y0 HT.out.drew
 have n2_:=Y0 HF.out.drew
 clear HT HF hc
 have HT:=n1_
 have HF:=n2_
 clear n1_ n2_
 have HM1:=Y0 (HM.out.keep HF.out HG0.out)
 have HS1:=Y0 (Nat.le_trans HL.out HF.out.size)
 have hc1:W9.cell? ⟨h,1,none⟩=some (.slice AF m.1.length cF):=(blk_cell HM1.out.blk 1).trans rfl
 refine start_ (n:=11) (S:=fun w'=>w'.cell? ⟨h,1,none⟩=some (.slice AF m.1.length cF)∧w'.cell? ⟨fb,0,none⟩=some (.string (pTake 0 (pMust [44] (pTake 0 (pMust [60] (pTake 0 s).2)).2)).1.f1)∧w'.cell? ⟨fb,1,none⟩=some (.string (pTake 0 (pMust [60] (pTake 0 s).2)).1.f1)∧w'.cell? ⟨fb,2,none⟩=some (.bool false)∧w'.cell? ⟨fb,3,none⟩=some (.int .i64 0)∧w'.cell? ⟨fb,4,none⟩=some (.string (pNamed (pMust [62] (pTake 0 (pMust [44] (pTake 0 (pMust [60] (pTake 0 s).2)).2)).2)).1.1)∧w'.cell? ⟨fb,5,none⟩=some (.int .i64 (pNamed (pMust [62] (pTake 0 (pMust [44] (pTake 0 (pMust [60] (pTake 0 s).2)).2)).2)).1.2)∧w'.cell? ⟨fb,6,none⟩=some (.int .i64 (pAt e s))) (ds:=[7,10]) #[false,false,false,false,false,false,false,false,false,false,false] J0 rfl rfl ⟨hc1,y0,y1,y2,y3,y4,y5,y6⟩ (fun hHeld=>?_)
 generalize W9.drew=WD at *
 refine pure_ (i:=0) (N:=some 52) (v:=?_) (a':=?_) (sqB 11 1) rfl rfl J0 (fun _ _ _ h=>h) (Or.inl ⟨J19,?_⟩) ?_ ?_;rotate_left;intro w';go_simp;with_reducible rfl;rotate_left;simp only [Act.put,Y14,Y15,Y16,i64_w];rfl
 refine pure_ (i:=1) (N:=some 53) (v:=?_) (a':=?_) (sqB 11 3) rfl rfl J0 (fun _ _ _ h=>h) (Or.inl ⟨J19,?_⟩) ?_ ?_;rotate_left;intro w';go_simp;with_reducible rfl;rotate_left;simp only [Act.put,Y14,Y15,Y16,i64_w];rfl
 refine pure_ (i:=2) (N:=some 54) (v:=?_) (a':=?_) (sqB 11 7) rfl rfl J0 (fun _ _ _ h=>h) (Or.inl ⟨J19,?_⟩) ?_ ?_;rotate_left;intro w';go_simp;with_reducible rfl;rotate_left;simp only [Act.put,Y14,Y15,Y16,i64_w];rfl
 refine pure_ (i:=3) (N:=some 55) (v:=?_) (a':=?_) (sqB 11 15) rfl rfl J0 (fun _ _ _ h=>h) (Or.inl ⟨J19,?_⟩) ?_ ?_;rotate_left;intro w';go_simp;with_reducible rfl;rotate_left;simp only [Act.put,Y14,Y15,Y16,i64_w];rfl
 refine take_ (i:=4) (N:=some 56) (v:=?_) (a':=?_) (sqB 11 31) rfl rfl J0 (fun _ _ _ h=>h) (Or.inl ⟨J19,?_⟩) hHeld ?_ ?_;rotate_left;rintro w' ⟨s0,s1,s2,s3,s4,s5,s6,s7⟩;go_simp;with_reducible rfl;rotate_left;simp only [Act.put,Y14,Y15,Y16,i64_w];rfl
 refine take_ (i:=5) (N:=some 57) (v:=?_) (a':=?_) (sqB 11 63) rfl rfl J0 (fun _ _ _ h=>h) (Or.inl ⟨J19,?_⟩) hHeld ?_ ?_;rotate_left;rintro w' ⟨s0,s1,s2,s3,s4,s5,s6,s7⟩;go_simp;with_reducible rfl;rotate_left;simp only [Act.put,Y14,Y15,Y16,i64_w];rfl
 refine one_ (i:=6) (N:=some 58) (sqB 11 127) rfl rfl J0 J11 (fun K hK=>?_)
 refine value_ (w1:=?_) (v:=?_) J19 rfl ?_ ?_
 rotate_left 2
 ·go_simp
  constructor
  ·rfl
  ·rfl
 refine hK.out _ _ ⟨(pw_cell_below (below_alloc (Below.refl _ _) _) hHeld.1),(pw_cell_below (below_alloc (Below.refl _ _) _) hHeld.2.1),(pw_cell_below (below_alloc (Below.refl _ _) _) hHeld.2.2.1),(pw_cell_below (below_alloc (Below.refl _ _) _) hHeld.2.2.2.1),(pw_cell_below (below_alloc (Below.refl _ _) _) hHeld.2.2.2.2.1),(pw_cell_below (below_alloc (Below.refl _ _) _) hHeld.2.2.2.2.2.1),(pw_cell_below (below_alloc (Below.refl _ _) _) hHeld.2.2.2.2.2.2.1),(pw_cell_below (below_alloc (Below.refl _ _) _) hHeld.2.2.2.2.2.2.2)⟩ (fun hHeld=>?_)
 clear hK K
 refine norm_ (a':=?_) ?_ ?_;rotate_left;show Act.put _ (some 58) _=_;simp only [Act.put,Y14,Y15,Y16,i64_w];rfl
 refine last_ (i:=7) (N:=some 59) (sqB 11 255) rfl rfl J0 J11 (fun K hK=>?_)
 refine Kd.R_append_step k36 (w0:=WD) B J19 (.tmp 56) (.tmp 58) 30 36 (.agg #[(.string ⟨#[]⟩),(.string ⟨#[]⟩),(.bool false),(.int .i64 0),(.string ⟨#[]⟩),(.int .i64 0),(.int .i64 0)]) 80 rfl Tryz.underlying30 info36 rfl J11 J11 _ m.1 ⟨(pTake 0 (pMust [44] (pTake 0 (pMust [60] (pTake 0 s).2)).2)).1.f1,(pTake 0 (pMust [60] (pTake 0 s).2)).1.f1,false,0,(pNamed (pMust [62] (pTake 0 (pMust [44] (pTake 0 (pMust [60] (pTake 0 s).2)).2)).2)).1.1,(pNamed (pMust [62] (pTake 0 (pMust [44] (pTake 0 (pMust [60] (pTake 0 s).2)).2)).2)).1.2,pAt e s⟩ [.string (pTake 0 (pMust [44] (pTake 0 (pMust [60] (pTake 0 s).2)).2)).1.f1,.string (pTake 0 (pMust [60] (pTake 0 s).2)).1.f1,.bool false,.int .i64 0,.string (pNamed (pMust [62] (pTake 0 (pMust [44] (pTake 0 (pMust [60] (pTake 0 s).2)).2)).2)).1.1,.int .i64 (pNamed (pMust [62] (pTake 0 (pMust [44] (pTake 0 (pMust [60] (pTake 0 s).2)).2)).2)).1.2,.int .i64 (pAt e s)] (fun _=>True) (fun _=>False) rfl rfl (k36_mkM _ _ _ (⟨(pTake 0 (pMust [44] (pTake 0 (pMust [60] (pTake 0 s).2)).2)).1.f1,(pTake 0 (pMust [60] (pTake 0 s).2)).1.f1,false,0,(pNamed (pMust [62] (pTake 0 (pMust [44] (pTake 0 (pMust [60] (pTake 0 s).2)).2)).2)).1.1,(pNamed (pMust [62] (pTake 0 (pMust [44] (pTake 0 (pMust [60] (pTake 0 s).2)).2)).2)).1.2,pAt e s⟩)) (fun _ hk=>hk.elim) (fun _ _=>trivial) HM1.out.rF (Below.refl _ _) HS1.out J166 ?_
 intro v1 w1 hR1 _ hg1 _
 obtain ⟨A1,c1,hv1⟩:=Kd.R_slice hR1
 have hv2:v1 = .slice A1 (m.1.length + 1) c1:=by rw [hv1,List.length_append];rfl
 clear hv1
 subst hv2
 have HR1:=Y0 hR1
 have HG1:=Y0 hg1
 clear hR1 hg1
 have hf1:=blk_frozen (blk_grow HM1.out.rF HM1.out.blk J11 HG1.out) 1
 have hk1:=(blk_cell (blk_grow HM1.out.rF HM1.out.blk J11 HG1.out) 1).trans rfl
 refine hK.out _ _ ?_
 clear hK K
 refine norm_ (a':=?_) ?_ ?_;rotate_left;show Act.put _ (some 59) _=_;simp only [Act.put,Y14,Y15,Y16,i64_w];rfl
 refine pure_ (i:=8) (N:=some 60) (v:=?_) (a':=?_) (sqB 11 511) rfl rfl J0 (fun _ _ _ h=>h) (Or.inl ⟨J19,?_⟩) ?_ ?_;rotate_left;intro w';go_simp;with_reducible rfl;rotate_left;simp only [Act.put,Y14,Y15,Y16,i64_w];rfl
 refine pure_ (i:=9) (N:=some 61) (v:=?_) (a':=?_) (sqB 11 1023) rfl rfl J0 (fun _ _ _ h=>h) (Or.inl ⟨J19,?_⟩) ?_ ?_;rotate_left;intro w';go_simp;with_reducible rfl;rotate_left;simp only [Act.put,Y14,Y15,Y16,i64_w];rfl
 refine last_ (i:=10) (N:=none) (sqB 11 2047) rfl rfl J0 J11 (fun K hK=>?_)
 refine skip_ (w1:=?_) J19 rfl ?_ ?_
 rotate_left
 ·go_simp
  rfl
 refine hK.out _ _ ?_
 clear hK K
 refine done_ J0 ?_
 go_wp2_with fail
 go_end0
 refine ⟨rfl,?_,⟨_,_,_,HM1.out.appF HR1.out HG1.out⟩,?_⟩
 ·exact (HT.out.other (grown_below HM1.out.rF HG1.out HS1.out)).far (q:=⟨h,1,none⟩) HM.out.ge _
 ·exact ((HF.out.mono HL.out).trans (Fr.of_below (grown_below HM1.out.rF HG1.out HS1.out))).far (p:=⟨h,1,none⟩) HM.out.ge _
set_option maxHeartbeats 2000000 in
set_option maxRecDepth 100000 in
theorem oneof_s {B p g h:Nat} {W:World} {l:TL} {e:Int} {s:PS} {nm:ByteArray} {m:MAcc} {a:Int} {vF vO vR:Value} (H:TS B W p g l e s) (HM:MB B W h nm m a vF vO vR) (hl:fewM m):Calls Tryz.prog 129 #[.pointer (some ⟨p,0,none⟩),.pointer (some ⟨h,0,none⟩)] W (ItemP B W p g h l e nm (pOneof m e s).1 a (pOneof m e s).2):=by
 have HT:=Y0 H
 have HL0:=Y0 H.lens.2.1
 have HG0:=Y0 H.lens.2.2.2.1
 have HLEN:=Y0 hl
 obtain ⟨AF,cF,rfl⟩:=Kd.R_slice HM.rF
 obtain ⟨AO,cO,rfl⟩:=Kd.R_slice HM.rO
 have HM0:=Y0 HM
 have hc:=H.par
 have q1:=tok_f1
 clear H hl HM
 unfold pOneof
 obtain ⟨R,hR⟩:∃ R,pLoopW [125] (pOne ((m.2.1.length:Int) + 1)) m.1 e (pMust [123] (pTake 0 (pTake 0 s).2).2)=R:=⟨_,rfl⟩
 have HR:=Y0 hR
 dsimp only
 rw [hR]
 clear hR
 go_enter Tryz.func129,Tryz.ntmps129
 have HF:=Y0 (Fr.refl W.heap.size g W)
 go_wp2_with fail
 go_at_call 88
 refine (take_s 0 HT.out).mono ?_
 rintro en_ W0 ⟨rfl,h1,f1⟩
 have n1_:=Y0 h1
 have n2_:=Y0 (HF.out.trans (f1.mono HF.out.size))
 clear hc HT HF
 have hc:=h1.par
 have HT:=n1_
 have HF:=n2_
 clear h1 f1 n1_ n2_
 go_wp2_with fail
 have n1_:=Y0 (HM0.out.keep HF.out HG0.out)
 have n2_:=Y0 (HF.out.mono HL0.out)
 have HL1:=Y0 (Nat.le_trans HL0.out HF.out.size)
 clear HM0 HF
 have n3_:=Y0 HT.out.drew
 have n4_:=Y0 (n1_.out.below (Below.refl _ W0).drew)
 have n5_:=Y0 n2_.out.drew
 have hc2:W0.cell? ⟨h,2,none⟩=some (.slice AO m.2.1.length cO):=(blk_cell n1_.out.blk 2).trans rfl
 have HL:Aside0 (B≤W0.drew.heap.size):=⟨HL1.out⟩
 clear HT n1_ n2_ HL1
 have HT:=n3_
 have HM:=n4_
 have HF:=n5_
 clear n3_ n4_ n5_
 refine start_ (n:=16) (S:=fun w'=>w'.cell? ⟨h,2,none⟩=some (.slice AO m.2.1.length cO)∧w'.cell? ⟨p,0,none⟩=some (.pointer (some ⟨g,0,none⟩))) (ds:=[12,15]) #[false,false,false,false,false,false,false,false,false,false,false,false,false,false,false,false] J0 rfl rfl ⟨hc2,hc⟩ (fun hHeld=>?_)
 generalize W0.drew=WD at *
 refine pure_ (i:=0) (N:=some 9) (v:=?_) (a':=?_) (sqB 16 1) rfl rfl J0 (fun _ _ _ h=>h) (Or.inl ⟨J19,?_⟩) ?_ ?_;rotate_left;intro w';go_simp;with_reducible rfl;rotate_left;simp only [Act.put,Y14,Y15,Y16,i64_w];rfl
 refine pure_ (i:=1) (N:=some 10) (v:=?_) (a':=?_) (sqB 16 3) rfl rfl J0 (fun _ _ _ h=>h) (Or.inl ⟨J19,?_⟩) ?_ ?_;rotate_left;intro w';go_simp;with_reducible rfl;rotate_left;simp only [Act.put,Y14,Y15,Y16,i64_w];rfl
 refine pure_ (i:=2) (N:=some 11) (v:=?_) (a':=?_) (sqB 16 7) rfl rfl J0 (fun _ _ _ h=>h) (Or.inl ⟨J19,?_⟩) ?_ ?_;rotate_left;intro w';go_simp;with_reducible rfl;rotate_left;simp only [Act.put,Y14,Y15,Y16,i64_w];rfl
 refine pure_ (i:=3) (N:=some 12) (v:=?_) (a':=?_) (sqB 16 15) rfl rfl J0 (fun _ _ _ h=>h) (Or.inl ⟨J19,?_⟩) ?_ ?_;rotate_left;intro w';go_simp;with_reducible rfl;rotate_left;simp only [Act.put,Y14,Y15,Y16,i64_w];rfl
 refine pure_ (i:=5) (N:=some 14) (v:=?_) (a':=?_) (sqB 16 47) rfl rfl J0 (fun _ _ _ h=>h) (Or.inl ⟨J19,?_⟩) ?_ ?_;rotate_left;intro w';go_simp;with_reducible rfl;rotate_left;simp only [Act.put,Y14,Y15,Y16,i64_w];rfl
 refine pure_ (i:=6) (N:=some 15) (v:=?_) (a':=?_) (sqB 16 111) rfl rfl J0 (fun _ _ _ h=>h) (Or.inl ⟨J19,?_⟩) ?_ ?_;rotate_left;intro w';go_simp;with_reducible rfl;rotate_left;simp only [Act.put,Y14,Y15,Y16,i64_w];rfl
 refine pure_ (i:=7) (N:=some 16) (v:=?_) (a':=?_) (sqB 16 239) rfl rfl J0 (fun _ _ _ h=>h) (Or.inl ⟨J19,?_⟩) ?_ ?_;rotate_left;intro w';go_simp;with_reducible rfl;rotate_left;simp only [Act.put,Y14,Y15,Y16,i64_w];rfl
 refine take_ (i:=4) (N:=some 13) (v:=?_) (a':=?_) (sqB 16 255) rfl rfl J0 (fun _ _ _ h=>h) (Or.inl ⟨J19,?_⟩) hHeld ?_ ?_;rotate_left;rintro w' ⟨s0,s1⟩;go_simp;with_reducible rfl;rotate_left;simp only [Act.put,Y14,Y15,Y16,i64_w];rfl
 refine take_ (i:=8) (N:=some 17) (v:=?_) (a':=?_) (sqB 16 511) rfl rfl J0 (fun _ _ _ h=>h) (Or.inl ⟨J19,?_⟩) hHeld ?_ ?_;rotate_left;rintro w' ⟨s0,s1⟩;go_simp;with_reducible rfl;rotate_left;simp only [Act.put,Y14,Y15,Y16,i64_w];rfl
 refine one_ (i:=9) (N:=some 18) (sqB 16 1023) rfl rfl J0 J11 (fun K hK=>?_)
 refine goes_ Tryz.func88 J0 rfl #[.pointer (some ⟨g,0,none⟩),.int .i64 0] J19 rfl rfl J32 ?_
 with_reducible refine (take_s 0 HT.out).mono ?_
 rintro en_ W1 ⟨rfl,h1,f1⟩
 refine ⟨_,rfl,?_⟩
 have HT1:=Y0 h1
 have HM1:=Y0 (HM.out.keep f1 HG0.out)
 have HF1:=Y0 (HF.out.trans (f1.mono HL.out))
 have HS1:=Y0 (Nat.le_trans HL.out f1.size)
 clear h1 f1
 refine hK.out _ _ ⟨((blk_cell HM1.out.blk 2).trans rfl),HT1.out.par⟩ (fun hHeld=>?_)
 clear hK K
 refine norm_ (a':=?_) ?_ ?_;rotate_left;show Act.put _ (some 18) _=_;simp only [Act.put,Y14,Y15,Y16,i64_w];rfl
 refine pure_ (i:=10) (N:=some 19) (v:=?_) (a':=?_) (sqB 16 2047) rfl rfl J0 (fun _ _ _ h=>h) (Or.inl ⟨J19,?_⟩) ?_ ?_;rotate_left;intro w';go_simp;with_reducible rfl;rotate_left;simp only [Act.put,Y14,Y15,Y16,i64_w];rfl
 refine one_ (i:=11) (N:=some 20) (sqB 16 4095) rfl rfl J0 J11 (fun K hK=>?_)
 refine value_ (w1:=?_) (v:=?_) J19 rfl ?_ ?_
 rotate_left 2
 ·go_simp
  constructor
  ·rfl
  ·rfl
 refine hK.out _ _ ⟨(pw_cell_below (below_alloc (Below.refl _ _) _) hHeld.1),(pw_cell_below (below_alloc (Below.refl _ _) _) hHeld.2)⟩ (fun hHeld=>?_)
 clear hK K
 refine norm_ (a':=?_) ?_ ?_;rotate_left;show Act.put _ (some 20) _=_;simp only [Act.put,Y14,Y15,Y16,i64_w];rfl
 refine last_ (i:=12) (N:=some 21) (sqB 16 8191) rfl rfl J0 J11 (fun K hK=>?_)
 refine Kd.R_append_step Kd.string (w0:=W1) B J19 (.tmp 13) (.tmp 20) 31 9 (.string ⟨#[]⟩) 16 rfl Tryz.underlying31 info9 rfl J11 J11 _ m.2.1 (pTake 0 (pTake 0 s).2).1.f1 [.string (pTake 0 (pTake 0 s).2).1.f1] (fun _=>True) (fun _=>False) rfl rfl rfl (fun _ hk=>hk.elim) (fun _ _=>trivial) HM1.out.rO (Below.refl _ _) HS1.out (by have:=HLEN.out.2.1;omega) ?_
 intro v1 w1 hR1 _ hg1 _
 obtain ⟨A1,c1,hv1⟩:=Kd.R_slice hR1
 have hv2:v1 = .slice A1 (m.2.1.length + 1) c1:=by rw [hv1,List.length_append];rfl
 clear hv1
 subst hv2
 have HR1:=Y0 hR1
 have HG1:=Y0 hg1
 clear hR1 hg1
 have hf1:=blk_frozen (blk_grow HM1.out.rO HM1.out.blk J11 HG1.out) 2
 have hk1:=(blk_cell (blk_grow HM1.out.rO HM1.out.blk J11 HG1.out) 2).trans rfl
 refine hK.out _ _ ?_
 clear hK K
 refine norm_ (a':=?_) ?_ ?_;rotate_left;show Act.put _ (some 21) _=_;simp only [Act.put,Y14,Y15,Y16,i64_w];rfl
 refine pure_ (i:=13) (N:=some 22) (v:=?_) (a':=?_) (sqB 16 16383) rfl rfl J0 (fun _ _ _ h=>h) (Or.inl ⟨J19,?_⟩) ?_ ?_;rotate_left;intro w';go_simp;with_reducible rfl;rotate_left;simp only [Act.put,Y14,Y15,Y16,i64_w];rfl
 refine pure_ (i:=14) (N:=some 23) (v:=?_) (a':=?_) (sqB 16 32767) rfl rfl J0 (fun _ _ _ h=>h) (Or.inl ⟨J19,?_⟩) ?_ ?_;rotate_left;intro w';go_simp;with_reducible rfl;rotate_left;simp only [Act.put,Y14,Y15,Y16,i64_w];rfl
 refine last_ (i:=15) (N:=none) (sqB 16 65535) rfl rfl J0 J11 (fun K hK=>?_)
 refine skip_ (w1:=?_) J19 rfl ?_ ?_
 rotate_left
 ·go_simp
  rfl
 refine hK.out _ _ ?_
 clear hK K
 refine done_ J0 ?_
 have n1_:=Y0 ((HT1.out.other (grown_below HM1.out.rO HG1.out HS1.out)).far (q:=⟨h,2,none⟩) HM.out.ge (.slice A1 (m.2.1.length + 1) c1))
 have n2_:=Y0 (HM1.out.appO HR1.out HG1.out)
 have n3_:=Y0 ((HF1.out.trans (Fr.of_below (grown_below HM1.out.rO HG1.out HS1.out))).far (p:=⟨h,2,none⟩) HM.out.ge (.slice A1 (m.2.1.length + 1) c1))
 have hpar:(w1.setCell ⟨h,2,none⟩ (.slice A1 (m.2.1.length + 1) c1)).cell? ⟨p,0,none⟩=some (.pointer (some ⟨g,0,none⟩)):=n1_.out.par
 clear HT HM HF HT1 HM1 HF1 HR1 HG1 hc2 hc hf1 hk1
 go_wp2_with fail
 clear hpar
 generalize w1.setCell ⟨h,2,none⟩ (.slice A1 (m.2.1.length + 1) c1)=W2 at *
 have HT:=n1_
 have HM:=n2_
 have HF:=n3_
 have hc:=HT.out.par
 clear n1_ n2_ n3_
 go_at_call 89
 refine (must_s ⟨#[123]⟩ HT.out).mono ?_
 rintro en_ W3 ⟨rfl,h1,f1⟩
 have n1_:=Y0 h1
 have n2_:=Y0 (HM.out.keep f1 HG0.out)
 have n3_:=Y0 (HF.out.trans (f1.mono HT.out.lens.2.1))
 clear HT HM HF hc h1 f1
 have hbl:bl (⟨#[123]⟩:ByteArray)=[123]:=rfl
 rw [hbl] at n1_
 clear hbl
 obtain ⟨S0,hS0⟩:∃ S0,pMust [123] (pTake 0 (pTake 0 s).2).2=S0:=⟨_,rfl⟩
 rw [hS0] at n1_ HR
 clear hS0
 obtain ⟨O1,hO1⟩:∃ O1,m.2.1++[(pTake 0 (pTake 0 s).2).1.f1]=O1:=⟨_,rfl⟩
 rw [hO1] at n2_ ⊢
 have HO1:=Y0 hO1
 clear hO1
 obtain ⟨no,hno⟩:∃ no,m.2.1.length=no:=⟨_,rfl⟩
 have HNO:=Y0 hno
 rw [hno] at n2_ HR ⊢
 clear hno
 go_wp2
 go_loopg [29] (mu S0) (fun n _ V=>∃ (l1:List FieldS) (s1:PS) (A2:Option Addr) (c2:Nat),Aside0 (TS B V p g l e s1)∧Aside0 (MB B V h nm (l1,O1,m.2.2) a (.slice A2 l1.length c2) (.slice A1 (no + 1) c1) vR)∧Aside0 (Fr B g W V)∧Aside0 (pLoop [125] (pOne ((no:Int) + 1)) n l1 e s1=R)∧Aside0 (mu s1≤n∧l1.length + n≤1100000))
 case atStart =>
  refine ⟨m.1,S0,AF,cF,n1_,n2_,n3_,HR,⟨Nat.le_refl _,?_⟩⟩
  have h1:=HLEN.out.1
  have h2:mu S0≤1001:=by
   unfold mu
   split
   ·omega
   ·have:=n1_.out.lens.1;omega
  omega
 case round =>
  clear n1_ n2_ n3_ HR
  obtain ⟨l1,s1,A2,c2,HT,HM,HF,HR,HN⟩:=hrel
  have hc:=HT.out.par
  have hb3:=HT.out.bad
  cases hb:s1.b with
  | true =>
   rw [hb] at hb3
   have HE:Aside0 (R=(l1,s1)):=⟨J144⟩
   clear hb HR
   go_wp2
   go_end0
   rw [HE.out]
   exact ⟨rfl,HT.out,⟨_,_,_,by rw [HO1.out];exact HM.out⟩,HF.out⟩
  | false =>
   rw [hb] at hb3
   have HL:=Y0 HT.out.lens.2.1
   cases gk with
   | zero =>
    have:=mu_zero s1 J105
    rw [hb] at this
    cases this
   | succ k1 =>
    have HSG:=Y0 (sign_s (⟨#[125]⟩:ByteArray) HT.out)
    have hbl:bl (⟨#[125]⟩:ByteArray)=[125]:=rfl
    rw [hbl] at HSG
    clear hbl
    have HR0:=Y0 HR.out
    have hR2:=HR0.out
    rw [pLoop,if_neg J134] at hR2
    cases hsg:(pSign [125] s1).1 with
    | true =>
     rw [hsg,if_pos rfl] at hR2
     rw [hsg] at HSG
     have HE:=Y0 hR2
     clear hsg hR2 HR HR0 hb
     go_wp2_with fail
     go_at_call 90
     refine HSG.out.mono ?_
     rintro en_ W4 ⟨rfl,h1,f1⟩
     have n1_:=Y0 h1
     have n2_:=Y0 (HM.out.keep f1 HG0.out)
     have n3_:=Y0 (HF.out.trans (f1.mono HL.out))
     clear HT HM HF hc hb3 h1 f1
     go_wp2
     go_end0
     rw [← HE.out]
     exact ⟨rfl,n1_.out,⟨_,_,_,by rw [HO1.out];exact n2_.out⟩,n3_.out⟩
    | false =>
     have hs2:(pSign [125] s1).2=s1:=sign_no _ _ hsg
     rw [hsg,if_neg Bool.false_ne_true] at hR2
     rw [hsg,hs2] at HSG
     have HMU:=Y0 ((one_good ((no:Int) + 1) l1).mu_lt e s1 hb)
     have HE:=Y0 hR2
     clear hsg hs2 hR2 HR HR0 hb
     go_wp2_with fail
     go_at_call 90
     refine HSG.out.mono ?_
     rintro en_ W4 ⟨rfl,h1,f1⟩
     have n1_:=Y0 h1
     have n2_:=Y0 (HM.out.keep f1 HG0.out)
     have n3_:=Y0 (HF.out.trans (f1.mono HL.out))
     clear HT HM HF hc hb3 h1 f1
     go_wp2_with fail
     have HT:=Y0 n1_.out.drew
     have HM:=Y0 (n2_.out.below (Below.refl _ W4).drew)
     have HF:=Y0 n3_.out.drew
     have hc1:W4.cell? ⟨h,1,none⟩=some (.slice A2 l1.length c2):=(blk_cell n2_.out.blk 1).trans rfl
     have hc2:W4.cell? ⟨h,2,none⟩=some (.slice A1 (no + 1) c1):=(blk_cell n2_.out.blk 2).trans rfl
     clear HL
     have HL:Aside0 (B≤W4.drew.heap.size):=⟨n1_.out.lens.2.1⟩
     have HLE:Aside0 (l1.length≤1100000):=⟨J105⟩
     clear n1_ n2_ n3_
     refine start_ (n:=17) (S:=fun w'=>w'.cell? ⟨h,1,none⟩=some (.slice A2 l1.length c2)∧w'.cell? ⟨h,2,none⟩=some (.slice A1 (no + 1) c1)) (ds:=[13,16]) #[false,false,false,false,false,false,false,false,false,false,false,false,false,false,false,false,false] J0 rfl rfl ⟨hc1,hc2⟩ (fun hHeld=>?_)
     generalize W4.drew=WD at *
     refine pure_ (i:=0) (N:=some 45) (v:=?_) (a':=?_) (sqB 17 1) rfl rfl J0 (fun _ _ _ h=>h) (Or.inl ⟨J19,?_⟩) ?_ ?_;rotate_left;intro w';go_simp;with_reducible rfl;rotate_left;simp only [Act.put,Y14,Y15,Y16,i64_w];rfl
     refine pure_ (i:=1) (N:=some 46) (v:=?_) (a':=?_) (sqB 17 3) rfl rfl J0 (fun _ _ _ h=>h) (Or.inl ⟨J19,?_⟩) ?_ ?_;rotate_left;intro w';go_simp;with_reducible rfl;rotate_left;simp only [Act.put,Y14,Y15,Y16,i64_w];rfl
     refine pure_ (i:=2) (N:=some 47) (v:=?_) (a':=?_) (sqB 17 7) rfl rfl J0 (fun _ _ _ h=>h) (Or.inl ⟨J19,?_⟩) ?_ ?_;rotate_left;intro w';go_simp;with_reducible rfl;rotate_left;simp only [Act.put,Y14,Y15,Y16,i64_w];rfl
     refine pure_ (i:=3) (N:=some 48) (v:=?_) (a':=?_) (sqB 17 15) rfl rfl J0 (fun _ _ _ h=>h) (Or.inl ⟨J19,?_⟩) ?_ ?_;rotate_left;intro w';go_simp;with_reducible rfl;rotate_left;simp only [Act.put,Y14,Y15,Y16,i64_w];rfl
     refine pure_ (i:=5) (N:=some 50) (v:=?_) (a':=?_) (sqB 17 47) rfl rfl J0 (fun _ _ _ h=>h) (Or.inl ⟨J19,?_⟩) ?_ ?_;rotate_left;intro w';go_simp;with_reducible rfl;rotate_left;simp only [Act.put,Y14,Y15,Y16,i64_w];rfl
     refine pure_ (i:=6) (N:=some 51) (v:=?_) (a':=?_) (sqB 17 111) rfl rfl J0 (fun _ _ _ h=>h) (Or.inl ⟨J19,?_⟩) ?_ ?_;rotate_left;intro w';go_simp;with_reducible rfl;rotate_left;simp only [Act.put,Y14,Y15,Y16,i64_w];rfl
     refine pure_ (i:=7) (N:=some 52) (v:=?_) (a':=?_) (sqB 17 239) rfl rfl J0 (fun _ _ _ h=>h) (Or.inl ⟨J19,?_⟩) ?_ ?_;rotate_left;intro w';go_simp;with_reducible rfl;rotate_left;simp only [Act.put,Y14,Y15,Y16,i64_w];rfl
     refine pure_ (i:=8) (N:=some 53) (v:=?_) (a':=?_) (sqB 17 495) rfl rfl J0 (fun _ _ _ h=>h) (Or.inl ⟨J19,?_⟩) ?_ ?_;rotate_left;intro w';go_simp;with_reducible rfl;rotate_left;simp only [Act.put,Y14,Y15,Y16,i64_w];rfl
     refine take_ (i:=4) (N:=some 49) (v:=?_) (a':=?_) (sqB 17 511) rfl rfl J0 (fun _ _ _ h=>h) (Or.inl ⟨J19,?_⟩) hHeld ?_ ?_;rotate_left;rintro w' ⟨s0,s1⟩;go_simp;with_reducible rfl;rotate_left;simp only [Act.put,Y14,Y15,Y16,i64_w];rfl
     refine take_ (i:=9) (N:=some 54) (v:=?_) (a':=?_) (sqB 17 1023) rfl rfl J0 (fun _ _ _ h=>h) (Or.inl ⟨J19,?_⟩) hHeld ?_ ?_;rotate_left;rintro w' ⟨s0,s1⟩;go_simp;with_reducible rfl;rotate_left;simp only [Act.put,Y14,Y15,Y16,i64_w];rfl
     refine pure_ (i:=10) (N:=some 55) (v:=?_) (a':=?_) (sqB 17 2047) rfl rfl J0 (fun _ _ _ h=>h) (Or.inl ⟨J19,?_⟩) ?_ ?_;rotate_left;intro w';go_simp;with_reducible rfl;rotate_left;simp only [Act.put,Y14,Y15,Y16,i64_w];rfl
     refine one_ (i:=11) (N:=some 56) (sqB 17 4095) rfl rfl J0 J11 (fun K hK=>?_)
     refine goes_ Tryz.func153 J0 rfl #[.pointer (some ⟨p,0,none⟩),.int .i64 ((no:Int) + 1)] J19 rfl rfl J32 ?_
     with_reducible refine (field_s ((no:Int) + 1) HT.out).mono ?_
     rintro en_ W1 ⟨rfl,h1,f1⟩
     refine ⟨_,rfl,?_⟩
     have HT1:=Y0 h1
     have HM1:=Y0 (HM.out.keep f1 HG0.out)
     have HF1:=Y0 (HF.out.trans (f1.mono HL.out))
     have HS1:=Y0 (Nat.le_trans HL.out f1.size)
     clear h1 f1
     refine hK.out _ _ ⟨((blk_cell HM1.out.blk 1).trans rfl),((blk_cell HM1.out.blk 2).trans rfl)⟩ (fun hHeld=>?_)
     clear hK K
     refine norm_ (a':=?_) ?_ ?_;rotate_left;show Act.put _ (some 56) _=_;simp only [Act.put,Y14,Y15,Y16,i64_w];rfl
     refine one_ (i:=12) (N:=some 57) (sqB 17 8191) rfl rfl J0 J11 (fun K hK=>?_)
     refine value_ (w1:=?_) (v:=?_) J19 rfl ?_ ?_
     rotate_left 2
     ·go_simp
      constructor
      ·rfl
      ·rfl
     refine hK.out _ _ ⟨(pw_cell_below (below_alloc (Below.refl _ _) _) hHeld.1),(pw_cell_below (below_alloc (Below.refl _ _) _) hHeld.2)⟩ (fun hHeld=>?_)
     clear hK K
     refine norm_ (a':=?_) ?_ ?_;rotate_left;show Act.put _ (some 57) _=_;simp only [Act.put,Y14,Y15,Y16,i64_w];rfl
     refine last_ (i:=13) (N:=some 58) (sqB 17 16383) rfl rfl J0 J11 (fun K hK=>?_)
     refine Kd.R_append_step k36 (w0:=W1) B J19 (.tmp 49) (.tmp 57) 30 36 (.agg #[(.string ⟨#[]⟩),(.string ⟨#[]⟩),(.bool false),(.int .i64 0),(.string ⟨#[]⟩),(.int .i64 0),(.int .i64 0)]) 80 rfl Tryz.underlying30 info36 rfl J11 J11 _ l1 (pField e ((no:Int) + 1) s1).1 [.string (pField e ((no:Int) + 1) s1).1.f0,.string (pField e ((no:Int) + 1) s1).1.f1,.bool (pField e ((no:Int) + 1) s1).1.f2,.int .i64 (pField e ((no:Int) + 1) s1).1.f3,.string (pField e ((no:Int) + 1) s1).1.f4,.int .i64 (pField e ((no:Int) + 1) s1).1.f5,.int .i64 (pField e ((no:Int) + 1) s1).1.f6] (fun _=>True) (fun _=>False) rfl rfl (k36_mkM _ _ _ _) (fun _ hk=>hk.elim) (fun _ _=>trivial) HM1.out.rF (Below.refl _ _) HS1.out (by have:=HLE.out;omega) ?_
     intro v1 w1 hR1 _ hg1 _
     obtain ⟨A5,c5,hv1⟩:=Kd.R_slice hR1
     have hv2:v1 = .slice A5 (l1.length + 1) c5:=by rw [hv1,List.length_append];rfl
     clear hv1
     subst hv2
     have HR1:=Y0 hR1
     have HG1:=Y0 hg1
     clear hR1 hg1
     have hf1:=blk_frozen (blk_grow HM1.out.rF HM1.out.blk J11 HG1.out) 1
     have hk1:=(blk_cell (blk_grow HM1.out.rF HM1.out.blk J11 HG1.out) 1).trans rfl
     refine hK.out _ _ ?_
     clear hK K
     refine norm_ (a':=?_) ?_ ?_;rotate_left;show Act.put _ (some 58) _=_;simp only [Act.put,Y14,Y15,Y16,i64_w];rfl
     refine pure_ (i:=14) (N:=some 59) (v:=?_) (a':=?_) (sqB 17 32767) rfl rfl J0 (fun _ _ _ h=>h) (Or.inl ⟨J19,?_⟩) ?_ ?_;rotate_left;intro w';go_simp;with_reducible rfl;rotate_left;simp only [Act.put,Y14,Y15,Y16,i64_w];rfl
     refine pure_ (i:=15) (N:=some 60) (v:=?_) (a':=?_) (sqB 17 65535) rfl rfl J0 (fun _ _ _ h=>h) (Or.inl ⟨J19,?_⟩) ?_ ?_;rotate_left;intro w';go_simp;with_reducible rfl;rotate_left;simp only [Act.put,Y14,Y15,Y16,i64_w];rfl
     refine last_ (i:=16) (N:=none) (sqB 17 131071) rfl rfl J0 J11 (fun K hK=>?_)
     refine skip_ (w1:=?_) J19 rfl ?_ ?_
     rotate_left
     ·go_simp
      rfl
     refine hK.out _ _ ?_
     clear hK K
     refine done_ J0 ?_
     have n1_:=Y0 ((HT1.out.other (grown_below HM1.out.rF HG1.out HS1.out)).far (q:=⟨h,1,none⟩) HM.out.ge (.slice A5 (l1.length + 1) c5))
     have n2_:=Y0 (HM1.out.appF HR1.out HG1.out)
     have n3_:=Y0 ((HF1.out.trans (Fr.of_below (grown_below HM1.out.rF HG1.out HS1.out))).far (p:=⟨h,1,none⟩) HM.out.ge (.slice A5 (l1.length + 1) c5))
     clear HT HM HF HT1 HM1 HF1 HR1 HG1 hc1 hc2 hf1 hk1
     go_wp2_with fail
     go_roundg k1
     case measure=>omega
     case rel=>exact ⟨l1++[(pField e ((no:Int) + 1) s1).1],_,A5,c5,n1_,⟨by rw [List.length_append];exact n2_.out⟩,n3_,HE,⟨by have h1:mu (pField e ((no:Int) + 1) s1).2 < mu s1:=HMU.out;have:=HN.out;omega,J148⟩⟩
set_option maxHeartbeats 2000000 in
set_option maxRecDepth 100000 in
theorem res_s {B p g h:Nat} {W:World} {l:TL} {e:Int} {s:PS} {nm:ByteArray} {m:MAcc} {a:Int} {vF vO vR:Value} (H:TS B W p g l e s) (HM:MB B W h nm m a vF vO vR) (hl:fewM m):Calls Tryz.prog 130 #[.pointer (some ⟨p,0,none⟩),.pointer (some ⟨h,0,none⟩)] W (ItemP B W p g h l e nm (pRes m e s).1 a (pRes m e s).2):=by
 have HT:=Y0 H
 have HL0:=Y0 H.lens.2.1
 have HG0:=Y0 H.lens.2.2.2.1
 have HLEN:=Y0 hl
 obtain ⟨AR,cR,rfl⟩:=Kd.R_slice HM.rR
 have HM0:=Y0 HM
 have hc:=H.par
 have q2:=tok_f2
 clear H hl HM
 unfold pRes
 obtain ⟨R,hR⟩:∃ R,pNums ((pTake 0 s).2.r.length + 1) m.2.2 (pTake 0 s).2=R:=⟨_,rfl⟩
 have HR:=Y0 hR
 dsimp only
 rw [hR]
 clear hR
 go_enter Tryz.func130,Tryz.ntmps130
 have HF:=Y0 (Fr.refl W.heap.size g W)
 go_wp2_with fail
 go_at_call 88
 refine (take_s 0 HT.out).mono ?_
 rintro en_ W0 ⟨rfl,h1,f1⟩
 have n1_:=Y0 h1
 have n2_:=Y0 (HF.out.trans (f1.mono HF.out.size))
 clear hc HT HF
 have hc:=h1.par
 have HT:=n1_
 have HF:=n2_
 clear h1 f1 n1_ n2_
 have n1_:=HT
 have n2_:=Y0 (HM0.out.keep HF.out HG0.out)
 have n3_:=Y0 (HF.out.mono HL0.out)
 clear HT HM0 HF hc
 obtain ⟨S0,hS0⟩:∃ S0,(pTake 0 s).2=S0:=⟨_,rfl⟩
 rw [hS0] at n1_ HR
 clear hS0
 go_wp2
 go_loopg [9] (S0.r.length + 1) (fun n _ V=>∃ (l1:List Int) (s1:PS) (A2:Option Addr) (c2:Nat),Aside0 (TS B V p g l e s1)∧Aside0 (MB B V h nm (m.1,m.2.1,l1) a vF vO (.slice A2 l1.length c2))∧Aside0 (Fr B g W V)∧Aside0 (pNums n l1 s1=R)∧Aside0 (s1.r.length < n∧l1.length + n≤1100000))
 case atStart=>exact ⟨m.2.2,S0,AR,cR,n1_,n2_,n3_,HR,⟨Nat.lt_succ_self _,by have h1:=HLEN.out.2.2;have:=n1_.out.lens.1;omega⟩⟩
 case round =>
  clear n1_ n2_ n3_ HR
  obtain ⟨l1,s1,A2,c2,n1_,n2_,n3_,HR,HN⟩:=hrel
  cases gk with
  | zero=>have:=HN.out;omega
  | succ k1 =>
   have hR2:=HR.out
   rw [pNums] at hR2
   have HR2:=Y0 hR2
   have HLT:=Y0 (take_shorter s1)
   clear hR2 HR
   go_wp2_with fail
   have HT:=Y0 n1_.out.drew
   have HM:=Y0 (n2_.out.below (Below.refl _ wr).drew)
   have HF:=Y0 n3_.out.drew
   have hc:=n1_.out.par
   have hc3:wr.cell? ⟨h,3,none⟩=some (.slice A2 l1.length c2):=(blk_cell n2_.out.blk 3).trans rfl
   have HL:Aside0 (B≤wr.drew.heap.size):=⟨n1_.out.lens.2.1⟩
   have HLE:Aside0 (l1.length≤1100000):=⟨J105⟩
   clear n1_ n2_ n3_
   refine start_ (n:=16) (S:=fun w'=>w'.cell? ⟨h,3,none⟩=some (.slice A2 l1.length c2)∧w'.cell? ⟨p,0,none⟩=some (.pointer (some ⟨g,0,none⟩))) (ds:=[12,15]) #[false,false,false,false,false,false,false,false,false,false,false,false,false,false,false,false] J0 rfl rfl ⟨hc3,hc⟩ (fun hHeld=>?_)
   generalize wr.drew=WD at *
   refine pure_ (i:=0) (N:=some 9) (v:=?_) (a':=?_) (sqB 16 1) rfl rfl J0 (fun _ _ _ h=>h) (Or.inl ⟨J19,?_⟩) ?_ ?_;rotate_left;intro w';go_simp;with_reducible rfl;rotate_left;simp only [Act.put,Y14,Y15,Y16,i64_w];rfl
   refine pure_ (i:=1) (N:=some 10) (v:=?_) (a':=?_) (sqB 16 3) rfl rfl J0 (fun _ _ _ h=>h) (Or.inl ⟨J19,?_⟩) ?_ ?_;rotate_left;intro w';go_simp;with_reducible rfl;rotate_left;simp only [Act.put,Y14,Y15,Y16,i64_w];rfl
   refine pure_ (i:=2) (N:=some 11) (v:=?_) (a':=?_) (sqB 16 7) rfl rfl J0 (fun _ _ _ h=>h) (Or.inl ⟨J19,?_⟩) ?_ ?_;rotate_left;intro w';go_simp;with_reducible rfl;rotate_left;simp only [Act.put,Y14,Y15,Y16,i64_w];rfl
   refine pure_ (i:=3) (N:=some 12) (v:=?_) (a':=?_) (sqB 16 15) rfl rfl J0 (fun _ _ _ h=>h) (Or.inl ⟨J19,?_⟩) ?_ ?_;rotate_left;intro w';go_simp;with_reducible rfl;rotate_left;simp only [Act.put,Y14,Y15,Y16,i64_w];rfl
   refine pure_ (i:=5) (N:=some 14) (v:=?_) (a':=?_) (sqB 16 47) rfl rfl J0 (fun _ _ _ h=>h) (Or.inl ⟨J19,?_⟩) ?_ ?_;rotate_left;intro w';go_simp;with_reducible rfl;rotate_left;simp only [Act.put,Y14,Y15,Y16,i64_w];rfl
   refine pure_ (i:=6) (N:=some 15) (v:=?_) (a':=?_) (sqB 16 111) rfl rfl J0 (fun _ _ _ h=>h) (Or.inl ⟨J19,?_⟩) ?_ ?_;rotate_left;intro w';go_simp;with_reducible rfl;rotate_left;simp only [Act.put,Y14,Y15,Y16,i64_w];rfl
   refine pure_ (i:=7) (N:=some 16) (v:=?_) (a':=?_) (sqB 16 239) rfl rfl J0 (fun _ _ _ h=>h) (Or.inl ⟨J19,?_⟩) ?_ ?_;rotate_left;intro w';go_simp;with_reducible rfl;rotate_left;simp only [Act.put,Y14,Y15,Y16,i64_w];rfl
   refine take_ (i:=4) (N:=some 13) (v:=?_) (a':=?_) (sqB 16 255) rfl rfl J0 (fun _ _ _ h=>h) (Or.inl ⟨J19,?_⟩) hHeld ?_ ?_;rotate_left;rintro w' ⟨s0,s1⟩;go_simp;with_reducible rfl;rotate_left;simp only [Act.put,Y14,Y15,Y16,i64_w];rfl
   refine take_ (i:=8) (N:=some 17) (v:=?_) (a':=?_) (sqB 16 511) rfl rfl J0 (fun _ _ _ h=>h) (Or.inl ⟨J19,?_⟩) hHeld ?_ ?_;rotate_left;rintro w' ⟨s0,s1⟩;go_simp;with_reducible rfl;rotate_left;simp only [Act.put,Y14,Y15,Y16,i64_w];rfl
   refine one_ (i:=9) (N:=some 18) (sqB 16 1023) rfl rfl J0 J11 (fun K hK=>?_)
   refine goes_ Tryz.func88 J0 rfl #[.pointer (some ⟨g,0,none⟩),.int .i64 1] J19 rfl rfl J32 ?_
   with_reducible refine (take_s 1 HT.out).mono ?_
   rintro en_ W1 ⟨rfl,h1,f1⟩
   refine ⟨_,rfl,?_⟩
   have HT1:=Y0 h1
   have HM1:=Y0 (HM.out.keep f1 HG0.out)
   have HF1:=Y0 (HF.out.trans (f1.mono HL.out))
   have HS1:=Y0 (Nat.le_trans HL.out f1.size)
   clear h1 f1
   refine hK.out _ _ ⟨((blk_cell HM1.out.blk 3).trans rfl),HT1.out.par⟩ (fun hHeld=>?_)
   clear hK K
   refine norm_ (a':=?_) ?_ ?_;rotate_left;show Act.put _ (some 18) _=_;simp only [Act.put,Y14,Y15,Y16,i64_w];rfl
   refine pure_ (i:=10) (N:=some 19) (v:=?_) (a':=?_) (sqB 16 2047) rfl rfl J0 (fun _ _ _ h=>h) (Or.inl ⟨J19,?_⟩) ?_ ?_;rotate_left;intro w';go_simp;with_reducible rfl;rotate_left;simp only [Act.put,Y14,Y15,Y16,i64_w];rfl
   refine one_ (i:=11) (N:=some 20) (sqB 16 4095) rfl rfl J0 J11 (fun K hK=>?_)
   refine value_ (w1:=?_) (v:=?_) J19 rfl ?_ ?_
   rotate_left 2
   ·go_simp
    constructor
    ·rfl
    ·rfl
   refine hK.out _ _ ⟨(pw_cell_below (below_alloc (Below.refl _ _) _) hHeld.1),(pw_cell_below (below_alloc (Below.refl _ _) _) hHeld.2)⟩ (fun hHeld=>?_)
   clear hK K
   refine norm_ (a':=?_) ?_ ?_;rotate_left;show Act.put _ (some 20) _=_;simp only [Act.put,Y14,Y15,Y16,i64_w];rfl
   refine last_ (i:=12) (N:=some 21) (sqB 16 8191) rfl rfl J0 J11 (fun K hK=>?_)
   refine Kd.R_append_step (Kd.int .i64) (w0:=W1) B J19 (.tmp 13) (.tmp 20) 32 2 (.int .i64 0) 8 rfl Tryz.underlying32 info2 rfl J11 J11 _ l1 (pTake 1 s1).1.f2 [.int .i64 (pTake 1 s1).1.f2] (fun _=>True) (fun _=>False) rfl rfl rfl (fun _ hk=>hk.elim) (fun _ _=>trivial) HM1.out.rR (Below.refl _ _) HS1.out (by have:=HLE.out;omega) ?_
   intro v1 w1 hR1 _ hg1 _
   obtain ⟨A5,c5,hv1⟩:=Kd.R_slice hR1
   have hv2:v1 = .slice A5 (l1.length + 1) c5:=by rw [hv1,List.length_append];rfl
   clear hv1
   subst hv2
   have HR1:=Y0 hR1
   have HG1:=Y0 hg1
   clear hR1 hg1
   have hf1:=blk_frozen (blk_grow HM1.out.rR HM1.out.blk J11 HG1.out) 3
   have hk1:=(blk_cell (blk_grow HM1.out.rR HM1.out.blk J11 HG1.out) 3).trans rfl
   refine hK.out _ _ ?_
   clear hK K
   refine norm_ (a':=?_) ?_ ?_;rotate_left;show Act.put _ (some 21) _=_;simp only [Act.put,Y14,Y15,Y16,i64_w];rfl
   refine pure_ (i:=13) (N:=some 22) (v:=?_) (a':=?_) (sqB 16 16383) rfl rfl J0 (fun _ _ _ h=>h) (Or.inl ⟨J19,?_⟩) ?_ ?_;rotate_left;intro w';go_simp;with_reducible rfl;rotate_left;simp only [Act.put,Y14,Y15,Y16,i64_w];rfl
   refine pure_ (i:=14) (N:=some 23) (v:=?_) (a':=?_) (sqB 16 32767) rfl rfl J0 (fun _ _ _ h=>h) (Or.inl ⟨J19,?_⟩) ?_ ?_;rotate_left;intro w';go_simp;with_reducible rfl;rotate_left;simp only [Act.put,Y14,Y15,Y16,i64_w];rfl
   refine last_ (i:=15) (N:=none) (sqB 16 65535) rfl rfl J0 J11 (fun K hK=>?_)
   refine skip_ (w1:=?_) J19 rfl ?_ ?_
   rotate_left
   ·go_simp
    rfl
   refine hK.out _ _ ?_
   clear hK K
   refine done_ J0 ?_
   have n1_:=Y0 ((HT1.out.other (grown_below HM1.out.rR HG1.out HS1.out)).far (q:=⟨h,3,none⟩) HM.out.ge (.slice A5 (l1.length + 1) c5))
   have n2_:=Y0 (HM1.out.appR HR1.out HG1.out)
   have n3_:=Y0 ((HF1.out.trans (Fr.of_below (grown_below HM1.out.rR HG1.out HS1.out))).far (p:=⟨h,3,none⟩) HM.out.ge (.slice A5 (l1.length + 1) c5))
   clear HT HM HF HT1 HM1 HF1 HR1 HG1 hc3 hc hf1 hk1
   have hc:=n1_.out.par
   have hb3:=n1_.out.bad
   have HLX:=Y0 n1_.out.lens.2.1
   have HML:Aside0 ((l1++[(pTake 1 s1).1.f2]).length=l1.length + 1):=⟨by rw [List.length_append];rfl⟩
   obtain ⟨s2,hs2⟩:∃ s2,(pTake 1 s1).2=s2:=⟨_,rfl⟩
   rw [hs2] at n1_ hb3 HR2 HLT
   clear hs2
   obtain ⟨l2,hl2⟩:∃ l2,l1++[(pTake 1 s1).1.f2]=l2:=⟨_,rfl⟩
   rw [hl2] at n2_ HR2 HML
   clear hl2
   cases hb:s2.b with
   | true =>
    rw [hb] at hb3
    have HE:Aside0 (R=(l2,s2)):=⟨by have:=HR2.out;rw [if_pos hb] at this;exact this.symm⟩
    clear HR2 hb
    go_wp2_with fail
    generalize w1.setCell ⟨h,3,none⟩ (.slice A5 (l1.length + 1) c5)=V5 at *
    go_at_call 89
    refine (must_s (⟨#[59]⟩:ByteArray) n1_.out).mono ?_
    rintro en_ V6 ⟨rfl,h1,f1⟩
    have m2_:=Y0 (n2_.out.keep f1 HG0.out)
    have m3_:=Y0 (n3_.out.trans (f1.mono HLX.out))
    have m1_:=Y0 h1
    clear n1_ n2_ n3_ hc hb3 h1 f1
    go_wp2
    go_end0
    rw [HE.out]
    exact ⟨rfl,m1_.out,⟨_,_,_,m2_.out⟩,m3_.out⟩
   | false =>
    rw [hb] at hb3
    have hR3:=HR2.out
    rw [if_neg J134] at hR3
    have HLT2:=Y0 (HLT.out hb)
    have HSG:=Y0 (sign_s (⟨#[44]⟩:ByteArray) n1_.out)
    have hbl:bl (⟨#[44]⟩:ByteArray)=[44]:=rfl
    rw [hbl] at HSG
    clear hbl HR2
    cases hsg:(pSign [44] s2).1 with
    | true =>
     rw [hsg,if_pos rfl] at hR3
     rw [hsg] at HSG
     have HE:=Y0 hR3
     have HSL:Aside0 ((pSign [44] s2).2.r.length≤s2.r.length):=⟨sign_shorter _ _⟩
     clear hsg hR3 hb
     go_wp2_with fail
     generalize w1.setCell ⟨h,3,none⟩ (.slice A5 (l1.length + 1) c5)=V5 at *
     go_at_call 90
     refine HSG.out.mono ?_
     rintro en_ V6 ⟨rfl,h1,f1⟩
     have m2_:=Y0 (n2_.out.keep f1 HG0.out)
     have m3_:=Y0 (n3_.out.trans (f1.mono HLX.out))
     have m1_:=Y0 h1
     clear n1_ n2_ n3_ hc hb3 h1 f1 HSG
     go_wp2_with fail
     go_roundg k1
     case measure=>omega
     case rel=>exact ⟨l2,_,A5,c5,m1_,⟨by rw [HML.out];exact m2_.out⟩,m3_,HE,⟨by have:=HLT2.out;have:=HSL.out;have:=HN.out;omega,by rw [HML.out];have:=HN.out;omega⟩⟩
    | false =>
     have hs3:(pSign [44] s2).2=s2:=sign_no _ _ hsg
     rw [hsg,if_neg Bool.false_ne_true] at hR3
     rw [hsg,hs3] at HSG
     have HE:=Y0 hR3
     clear hsg hs3 hR3 hb
     go_wp2_with fail
     generalize w1.setCell ⟨h,3,none⟩ (.slice A5 (l1.length + 1) c5)=V5 at *
     go_at_call 90
     refine HSG.out.mono ?_
     rintro en_ V6 ⟨rfl,h1,f1⟩
     have m2_:=Y0 (n2_.out.keep f1 HG0.out)
     have m3_:=Y0 (n3_.out.trans (f1.mono HLX.out))
     have m1_:=Y0 h1
     clear n1_ n2_ n3_ hc hb3 h1 f1 HSG
     have hc:=m1_.out.par
     go_wp2_with fail
     go_at_call 89
     refine (must_s (⟨#[59]⟩:ByteArray) m1_.out).mono ?_
     rintro en_ V7 ⟨rfl,h1,f1⟩
     have n2_:=Y0 (m2_.out.keep f1 HG0.out)
     have n3_:=Y0 (m3_.out.trans (f1.mono m1_.out.lens.2.1))
     have n1_:=Y0 h1
     clear m1_ m2_ m3_ hc h1 f1
     go_wp2
     go_end0
     rw [← HE.out]
     exact ⟨rfl,n1_.out,⟨_,_,_,n2_.out⟩,n3_.out⟩
def itemF (s:PS):Nat:=if pIs 0 0 wRep s=true then 128 else if pIs 0 0 wOneof s=true then 129 else if pIs 0 0 wRes s=true then 130 else if isMap s=true then 131 else 132
theorem item_calls {B p g h:Nat} {W:World} {l:TL} {e:Int} {s:PS} {nm:ByteArray} {m:MAcc} {a:Int} {vF vO vR:Value} (H:TS B W p g l e s) (HM:MB B W h nm m a vF vO vR) (hl:fewM m):Calls Tryz.prog (itemF s) #[.pointer (some ⟨p,0,none⟩),.pointer (some ⟨h,0,none⟩)] W (ItemP B W p g h l e nm (pItem m e s).1 a (pItem m e s).2):=by
 rw [pItem_eq]
 unfold itemF
 split
 ·exact rep_s H HM hl
 ·split
  ·exact oneof_s H HM hl
  ·split
   ·exact res_s H HM hl
   ·split
    ·exact map_s H HM hl
    ·exact plain_s H HM hl
theorem item_enter (s:PS) (args:Array Value) (w:World):Sem.run Tryz.prog (callFunc (itemF s) args) w = .ok (.enter (itemF s) args) w:=by
 unfold itemF
 split
 ·exact run_enter Tryz.func128 J0 J0 args w
 ·split
  ·exact run_enter Tryz.func129 J0 J0 args w
  ·split
   ·exact run_enter Tryz.func130 J0 J0 args w
   ·split
    ·exact run_enter Tryz.func131 J0 J0 args w
    ·exact run_enter Tryz.func132 J0 J0 args w
def ItemFP (W:World) (p f:Nat) (en:Ending) (W':World):Prop:=en = .returned (.func (.func f) #[.pointer (some ⟨p,0,none⟩)] #[])∧Drawn0 W W'
theorem drawn_trans {a b c:World} (h:Drawn0 a b) (k:Drawn0 b c):Drawn0 a c:=by
 obtain ⟨n,rfl⟩:=h.out
 obtain ⟨m,rfl⟩:=k.out
 exact (Drawn0.refl a |>.step n).step m
theorem is0_b {B p g:Nat} {W:World} {l:TL} {e:Int} {s:PS} {k:Int} {x:ByteArray} {b:Bool} (h:TS B W p g l e s) (hb:pIs 0 k (bl x) s=b):Calls Tryz.prog 37 #[.pointer (some ⟨g,0,none⟩),.int .i64 0,.int .i64 k,.string x] W (IsPost W b):=hb ▸ is0_s k x h
theorem is1_b {B p g:Nat} {W:World} {l:TL} {e:Int} {s:PS} {k:Int} {x:ByteArray} {b:Bool} (h:TS B W p g l e s) (hb:pIs 1 k (bl x) s=b):Calls Tryz.prog 37 #[.pointer (some ⟨g,0,none⟩),.int .i64 1,.int .i64 k,.string x] W (IsPost W b):=hb ▸ is1_s k x h
set_option maxHeartbeats 2000000 in
set_option maxRecDepth 100000 in
theorem item_fn {B p g:Nat} {W:World} {l:TL} {e:Int} {s:PS} (H:TS B W p g l e s):Calls Tryz.prog 91 #[.pointer (some ⟨p,0,none⟩)] W (ItemFP W p (itemF s)):=by
 have HT:=Y0 H
 have hc:=H.par
 clear H
 have HD:=Y0 (Drawn0.refl W)
 by_cases h1:pIs 0 0 wRep s=true
 ·have HE:Aside0 (itemF s=128):=⟨by unfold itemF;rw [if_pos h1]⟩
  have H1:=Y0 (show pIs 0 0 (bl ⟨#[114,101,112,101,97,116,101,100]⟩) s=true from h1)
  rw [HE.out]
  clear h1 HE
  go_enter Tryz.func91,Tryz.ntmps91
  go_wp2_with fail
  go_at_call 37
  refine (is0_b HT.out H1.out).mono ?_
  rintro en_ V ⟨rfl,hd⟩
  have n1_:=Y0 (HT.out.drawn hd)
  have n2_:=Y0 (drawn_trans HD.out hd)
  clear HT HD hc hd
  have HT:=n1_
  have HD:=n2_
  have hc:=HT.out.par
  clear n1_ n2_
  go_wp2
  go_ret
  exact ⟨rfl,HD.out⟩
 ·have H1:=Y0 (show pIs 0 0 (bl ⟨#[114,101,112,101,97,116,101,100]⟩) s=false from Bool.eq_false_iff.2 h1)
  by_cases h2:pIs 0 0 wOneof s=true
  ·have HE:Aside0 (itemF s=129):=⟨by unfold itemF;rw [if_neg h1,if_pos h2]⟩
   have H2:=Y0 (show pIs 0 0 (bl ⟨#[111,110,101,111,102]⟩) s=true from h2)
   rw [HE.out]
   clear h1 h2 HE
   go_enter Tryz.func91,Tryz.ntmps91
   go_wp2_with fail
   go_at_call 37
   refine (is0_b HT.out H1.out).mono ?_
   rintro en_ V ⟨rfl,hd⟩
   have n1_:=Y0 (HT.out.drawn hd)
   have n2_:=Y0 (drawn_trans HD.out hd)
   clear HT HD hc hd
   have HT:=n1_
   have HD:=n2_
   have hc:=HT.out.par
   clear n1_ n2_
   go_wp2_with fail
   go_at_call 37
   refine (is0_b HT.out H2.out).mono ?_
   rintro en_ V ⟨rfl,hd⟩
   have n1_:=Y0 (HT.out.drawn hd)
   have n2_:=Y0 (drawn_trans HD.out hd)
   clear HT HD hc hd
   have HT:=n1_
   have HD:=n2_
   have hc:=HT.out.par
   clear n1_ n2_
   go_wp2
   go_ret
   exact ⟨rfl,HD.out⟩
  ·have H2:=Y0 (show pIs 0 0 (bl ⟨#[111,110,101,111,102]⟩) s=false from Bool.eq_false_iff.2 h2)
   by_cases h3:pIs 0 0 wRes s=true
   ·have HE:Aside0 (itemF s=130):=⟨by unfold itemF;rw [if_neg h1,if_neg h2,if_pos h3]⟩
    have H3:=Y0 (show pIs 0 0 (bl ⟨#[114,101,115,101,114,118,101,100]⟩) s=true from h3)
    rw [HE.out]
    clear h1 h2 h3 HE
    go_enter Tryz.func91,Tryz.ntmps91
    go_wp2_with fail
    go_at_call 37
    refine (is0_b HT.out H1.out).mono ?_
    rintro en_ V ⟨rfl,hd⟩
    have n1_:=Y0 (HT.out.drawn hd)
    have n2_:=Y0 (drawn_trans HD.out hd)
    clear HT HD hc hd
    have HT:=n1_
    have HD:=n2_
    have hc:=HT.out.par
    clear n1_ n2_
    go_wp2_with fail
    go_at_call 37
    refine (is0_b HT.out H2.out).mono ?_
    rintro en_ V ⟨rfl,hd⟩
    have n1_:=Y0 (HT.out.drawn hd)
    have n2_:=Y0 (drawn_trans HD.out hd)
    clear HT HD hc hd
    have HT:=n1_
    have HD:=n2_
    have hc:=HT.out.par
    clear n1_ n2_
    go_wp2_with fail
    go_at_call 37
    refine (is0_b HT.out H3.out).mono ?_
    rintro en_ V ⟨rfl,hd⟩
    have n1_:=Y0 (HT.out.drawn hd)
    have n2_:=Y0 (drawn_trans HD.out hd)
    clear HT HD hc hd
    have HT:=n1_
    have HD:=n2_
    have hc:=HT.out.par
    clear n1_ n2_
    go_wp2
    go_ret
    exact ⟨rfl,HD.out⟩
   ·have H3:=Y0 (show pIs 0 0 (bl ⟨#[114,101,115,101,114,118,101,100]⟩) s=false from Bool.eq_false_iff.2 h3)
    by_cases h4:pIs 0 0 wMap s=true
    ·have H4:=Y0 (show pIs 0 0 (bl ⟨#[109,97,112]⟩) s=true from h4)
     by_cases h5:pIs 1 3 [60] s=true
     ·have HE:Aside0 (itemF s=131):=⟨by unfold itemF isMap;rw [if_neg h1,if_neg h2,if_neg h3,h4,h5];rfl⟩
      have H5:=Y0 (show pIs 1 3 (bl ⟨#[60]⟩) s=true from h5)
      rw [HE.out]
      clear h1 h2 h3 h4 h5 HE
      go_enter Tryz.func91,Tryz.ntmps91
      go_wp2_with fail
      go_at_call 37
      refine (is0_b HT.out H1.out).mono ?_
      rintro en_ V ⟨rfl,hd⟩
      have n1_:=Y0 (HT.out.drawn hd)
      have n2_:=Y0 (drawn_trans HD.out hd)
      clear HT HD hc hd
      have HT:=n1_
      have HD:=n2_
      have hc:=HT.out.par
      clear n1_ n2_
      go_wp2_with fail
      go_at_call 37
      refine (is0_b HT.out H2.out).mono ?_
      rintro en_ V ⟨rfl,hd⟩
      have n1_:=Y0 (HT.out.drawn hd)
      have n2_:=Y0 (drawn_trans HD.out hd)
      clear HT HD hc hd
      have HT:=n1_
      have HD:=n2_
      have hc:=HT.out.par
      clear n1_ n2_
      go_wp2_with fail
      go_at_call 37
      refine (is0_b HT.out H3.out).mono ?_
      rintro en_ V ⟨rfl,hd⟩
      have n1_:=Y0 (HT.out.drawn hd)
      have n2_:=Y0 (drawn_trans HD.out hd)
      clear HT HD hc hd
      have HT:=n1_
      have HD:=n2_
      have hc:=HT.out.par
      clear n1_ n2_
      go_wp2_with fail
      go_at_call 37
      refine (is0_b HT.out H4.out).mono ?_
      rintro en_ V ⟨rfl,hd⟩
      have n1_:=Y0 (HT.out.drawn hd)
      have n2_:=Y0 (drawn_trans HD.out hd)
      clear HT HD hc hd
      have HT:=n1_
      have HD:=n2_
      have hc:=HT.out.par
      clear n1_ n2_
      go_wp2_with fail
      go_at_call 37
      refine (is1_b HT.out H5.out).mono ?_
      rintro en_ V ⟨rfl,hd⟩
      have n1_:=Y0 (HT.out.drawn hd)
      have n2_:=Y0 (drawn_trans HD.out hd)
      clear HT HD hc hd
      have HT:=n1_
      have HD:=n2_
      have hc:=HT.out.par
      clear n1_ n2_
      go_wp2
      go_ret
      exact ⟨rfl,HD.out⟩
     ·have HE:Aside0 (itemF s=132):=⟨by unfold itemF isMap;rw [if_neg h1,if_neg h2,if_neg h3,h4,show pIs 1 3 [60] s=false from by simpa using h5];rfl⟩
      have H5:=Y0 (show pIs 1 3 (bl ⟨#[60]⟩) s=false from Bool.eq_false_iff.2 h5)
      rw [HE.out]
      clear h1 h2 h3 h4 h5 HE
      go_enter Tryz.func91,Tryz.ntmps91
      go_wp2_with fail
      go_at_call 37
      refine (is0_b HT.out H1.out).mono ?_
      rintro en_ V ⟨rfl,hd⟩
      have n1_:=Y0 (HT.out.drawn hd)
      have n2_:=Y0 (drawn_trans HD.out hd)
      clear HT HD hc hd
      have HT:=n1_
      have HD:=n2_
      have hc:=HT.out.par
      clear n1_ n2_
      go_wp2_with fail
      go_at_call 37
      refine (is0_b HT.out H2.out).mono ?_
      rintro en_ V ⟨rfl,hd⟩
      have n1_:=Y0 (HT.out.drawn hd)
      have n2_:=Y0 (drawn_trans HD.out hd)
      clear HT HD hc hd
      have HT:=n1_
      have HD:=n2_
      have hc:=HT.out.par
      clear n1_ n2_
      go_wp2_with fail
      go_at_call 37
      refine (is0_b HT.out H3.out).mono ?_
      rintro en_ V ⟨rfl,hd⟩
      have n1_:=Y0 (HT.out.drawn hd)
      have n2_:=Y0 (drawn_trans HD.out hd)
      clear HT HD hc hd
      have HT:=n1_
      have HD:=n2_
      have hc:=HT.out.par
      clear n1_ n2_
      go_wp2_with fail
      go_at_call 37
      refine (is0_b HT.out H4.out).mono ?_
      rintro en_ V ⟨rfl,hd⟩
      have n1_:=Y0 (HT.out.drawn hd)
      have n2_:=Y0 (drawn_trans HD.out hd)
      clear HT HD hc hd
      have HT:=n1_
      have HD:=n2_
      have hc:=HT.out.par
      clear n1_ n2_
      go_wp2_with fail
      go_at_call 37
      refine (is1_b HT.out H5.out).mono ?_
      rintro en_ V ⟨rfl,hd⟩
      have n1_:=Y0 (HT.out.drawn hd)
      have n2_:=Y0 (drawn_trans HD.out hd)
      clear HT HD hc hd
      have HT:=n1_
      have HD:=n2_
      have hc:=HT.out.par
      clear n1_ n2_
      go_wp2
      go_ret
      exact ⟨rfl,HD.out⟩
    ·have H4:=Y0 (show pIs 0 0 (bl ⟨#[109,97,112]⟩) s=false from Bool.eq_false_iff.2 h4)
     have HE:Aside0 (itemF s=132):=⟨by unfold itemF isMap;rw [if_neg h1,if_neg h2,if_neg h3,show pIs 0 0 wMap s=false from by simpa using h4];rfl⟩
     rw [HE.out]
     clear h1 h2 h3 h4 HE
     go_enter Tryz.func91,Tryz.ntmps91
     go_wp2_with fail
     go_at_call 37
     refine (is0_b HT.out H1.out).mono ?_
     rintro en_ V ⟨rfl,hd⟩
     have n1_:=Y0 (HT.out.drawn hd)
     have n2_:=Y0 (drawn_trans HD.out hd)
     clear HT HD hc hd
     have HT:=n1_
     have HD:=n2_
     have hc:=HT.out.par
     clear n1_ n2_
     go_wp2_with fail
     go_at_call 37
     refine (is0_b HT.out H2.out).mono ?_
     rintro en_ V ⟨rfl,hd⟩
     have n1_:=Y0 (HT.out.drawn hd)
     have n2_:=Y0 (drawn_trans HD.out hd)
     clear HT HD hc hd
     have HT:=n1_
     have HD:=n2_
     have hc:=HT.out.par
     clear n1_ n2_
     go_wp2_with fail
     go_at_call 37
     refine (is0_b HT.out H3.out).mono ?_
     rintro en_ V ⟨rfl,hd⟩
     have n1_:=Y0 (HT.out.drawn hd)
     have n2_:=Y0 (drawn_trans HD.out hd)
     clear HT HD hc hd
     have HT:=n1_
     have HD:=n2_
     have hc:=HT.out.par
     clear n1_ n2_
     go_wp2_with fail
     go_at_call 37
     refine (is0_b HT.out H4.out).mono ?_
     rintro en_ V ⟨rfl,hd⟩
     have n1_:=Y0 (HT.out.drawn hd)
     have n2_:=Y0 (drawn_trans HD.out hd)
     clear HT HD hc hd
     have HT:=n1_
     have HD:=n2_
     have hc:=HT.out.par
     clear n1_ n2_
     go_wp2
     go_ret
     exact ⟨rfl,HD.out⟩
def szM (m:MAcc):Nat:=m.1.length + m.2.1.length + m.2.2.length
theorem mu_tail (s:PS):mu ⟨s.r.tail,s.b⟩≤mu s:=by
 unfold mu
 simp only [List.length_tail]
 split <;> omega
theorem mu_bad (r:List TokS):mu ⟨r,true⟩=0:=rfl
theorem mu_sign (x:List UInt8) (s:PS):mu (pSign x s).2≤mu s:=by
 unfold pSign
 split
 ·exact mu_tail s
 ·exact Nat.le_refl _
theorem mu_must (x:List UInt8) (s:PS):mu (pMust x s)≤mu s:=by
 unfold pMust
 split
 ·exact mu_tail s
 ·rw [mu_bad];exact Nat.zero_le _
theorem mu_take (k:Int) (s:PS):mu (pTake k s).2≤mu s:=by
 cases hb:s.b with
 | true=>rw [pTake_bad _ _ hb];exact Nat.le_refl _
 | false=>exact Nat.le_of_lt ((take_good k).mu_lt 0 s hb)
theorem mu_take_lt (k:Int) (s:PS) (hb:s.b=false):mu (pTake k s).2 < mu s:=(take_good k).mu_lt 0 s hb
theorem one_pot (k:Int) (x:List UInt8):∀ n a e s,(pLoop x (pOne k) n a e s).1.length + mu (pLoop x (pOne k) n a e s).2≤a.length + mu s:=by
 intro n
 induction n with
 | zero=>intro a e s;exact Nat.le_refl _
 | succ n ih =>
  intro a e s
  rw [pLoop]
  by_cases hb:s.b=true
  ·rw [if_pos hb];exact Nat.le_refl _
  ·rw [if_neg hb]
   by_cases hs:(pSign x s).1=true
   ·rw [if_pos hs];have:=mu_sign x s;simp only;omega
   ·rw [if_neg hs]
    have h1:=ih (pOne k a e s).1 e (pOne k a e s).2
    have h2:=(one_good k a).mu_lt e s (by simpa using hb)
    have h3:(pOne k a e s).1.length=a.length + 1:=by unfold pOne;simp
    omega
theorem nums_pot:∀ n a s,(pNums n a s).1.length + mu (pNums n a s).2≤a.length + mu s + 1∧(s.b=false→(pNums n a s).1.length + mu (pNums n a s).2≤a.length + mu s):=by
 intro n
 induction n with
 | zero=>intro a s;exact ⟨Nat.le_succ _,fun _=>Nat.le_refl _⟩
 | succ n ih =>
  intro a s
  rw [pNums]
  by_cases hb:(pTake 1 s).2.b=true
  ·rw [if_pos hb]
   have h1:mu (pTake 1 s).2=0:=by unfold mu;rw [if_pos hb]
   simp only [List.length_append,List.length_cons,List.length_nil]
   refine ⟨J7,fun h=>?_⟩
   have:0 < mu s:=by unfold mu;rw [h];exact Nat.succ_pos _
   omega
  ·rw [if_neg hb]
   have hsb:s.b=false:=by
    cases h:s.b with
    | false=>rfl
    | true=>rw [pTake_bad _ _ h] at hb;exact absurd h hb
   have h1:=mu_take_lt 1 s hsb
   by_cases hs:(pSign [44] (pTake 1 s).2).1=true
   ·rw [if_pos hs]
    have h2:(pSign [44] (pTake 1 s).2).2.b=false:=by
     unfold pSign
     split
     ·simpa using hb
     ·simpa using hb
    have h3:=(ih (a++[(pTake 1 s).1.f2]) (pSign [44] (pTake 1 s).2).2).2 h2
    have h4:=mu_sign [44] (pTake 1 s).2
    simp only [List.length_append,List.length_cons,List.length_nil] at h3
    exact ⟨J7,fun _=>by omega⟩
   ·rw [if_neg hs]
    simp only [List.length_append,List.length_cons,List.length_nil]
    exact ⟨J7,fun _=>by omega⟩
theorem item_pot (m:MAcc) (e:Int) (s:PS) (hb:s.b=false):szM (pItem m e s).1 + mu (pItem m e s).2≤szM m + mu s:=by
 have hf:∀ m':MAcc,∀ s',mu s' < mu s→szM m'=szM m + 1→szM m' + mu s'≤szM m + mu s:=fun m' s' h1 h2=>by omega
 unfold pItem
 split
 ·refine hf _ _ ((rep_good m).mu_lt e s hb) ?_
  unfold pRep szM;simp;omega
 ·split
  ·have h1:=mu_take_lt 0 s hb
   have h2:=mu_take 0 (pTake 0 s).2
   have h3:=mu_must [123] (pTake 0 (pTake 0 s).2).2
   have h4:=one_pot ((m.2.1.length:Int) + 1) [125] (mu (pMust [123] (pTake 0 (pTake 0 s).2).2)) m.1 e (pMust [123] (pTake 0 (pTake 0 s).2).2)
   show szM ((pLoopW [125] (pOne ((m.2.1.length:Int) + 1)) m.1 e (pMust [123] (pTake 0 (pTake 0 s).2).2)).1,m.2.1++[(pTake 0 (pTake 0 s).2).1.f1],m.2.2) + mu (pLoopW [125] (pOne ((m.2.1.length:Int) + 1)) m.1 e (pMust [123] (pTake 0 (pTake 0 s).2).2)).2≤_
   unfold pLoopW szM
   simp only [List.length_append,List.length_cons,List.length_nil]
   omega
  ·split
   ·have h1:=mu_take_lt 0 s hb
    have h2:=(nums_pot ((pTake 0 s).2.r.length + 1) m.2.2 (pTake 0 s).2).1
    have h3:=mu_must [59] (pNums ((pTake 0 s).2.r.length + 1) m.2.2 (pTake 0 s).2).2
    show szM (m.1,m.2.1,(pNums ((pTake 0 s).2.r.length + 1) m.2.2 (pTake 0 s).2).1) + mu (pMust [59] (pNums ((pTake 0 s).2.r.length + 1) m.2.2 (pTake 0 s).2).2)≤_
    unfold szM
    simp only
    omega
   ·split
    ·refine hf _ _ ((map_good m).mu_lt e s hb) ?_
     unfold pMap szM;simp;omega
    ·refine hf _ _ ((plain_good m).mu_lt e s hb) ?_
     unfold pPlain szM;simp;omega
structure PB (B:Nat) (W:World) (p g:Nat) (f:FileS) (vM vE:Value):Prop where
 blk:W.heap[p]?=some (.cells #[.pointer (some ⟨g,0,none⟩),vM,vE] 79 (0,0))
 rM:k34.R 34 W B (fun _=>True) vM f.1
 rE:k68.R 68 W B (fun _=>True) vE f.2
theorem PB.keep {B g p:Nat} {W W':World} {f:FileS} {vM vE:Value} (H:PB B W p g f vM vE) (hF:Fr W.heap.size g W W') (hg:g < B) (hp:p≠g):PB B W' p g f vM vE :=
 ⟨(hF.block p (blk_lt H.blk) hp).trans H.blk,R_fr H.rM hF hg,R_fr H.rE hF hg⟩
theorem PB.below {B g p:Nat} {W W':World} {f:FileS} {vM vE:Value} (H:PB B W p g f vM vE) (hb:Below W.heap.size W W'):PB B W' p g f vM vE :=
 ⟨blk_below H.blk hb,Kd.R_below H.rM hb,Kd.R_below H.rE hb⟩
theorem PB.appM {B g p:Nat} {W W':World} {f:FileS} {vM vE v:Value} {l:List MsgS} (H:PB B W p g f vM vE) (hR:k34.R 34 W' B (fun _=>True) v l) (hg:W.grownBy W' vM.ownBlock):PB B (W'.setCell ⟨p,1,none⟩ v) p g (l,f.2) v vE:=by
 have hb:=blk_grow H.rM H.blk J11 hg
 exact ⟨blk_put hb 1 _ rfl,Kd.R_set hR hb J11 1 v,Kd.R_set (R_grow H.rE H.rM J11 hg) hb J11 1 v⟩
theorem PB.appE {B g p:Nat} {W W':World} {f:FileS} {vM vE v:Value} {l:List EnumS} (H:PB B W p g f vM vE) (hR:k68.R 68 W' B (fun _=>True) v l) (hg:W.grownBy W' vE.ownBlock):PB B (W'.setCell ⟨p,2,none⟩ v) p g (f.1,l) vM v:=by
 have hb:=blk_grow H.rE H.blk J11 hg
 exact ⟨blk_put hb 2 _ rfl,Kd.R_set (R_grow H.rM H.rE J11 hg) hb J11 2 v,Kd.R_set hR hb J11 2 v⟩
def TopP (B:Nat) (W:World) (p g:Nat) (l:TL) (e:Int) (f:FileS) (s:PS) (en:Ending) (W':World):Prop :=
 en = .returned (.tuple #[])∧TS B W' p g l e s∧(∃ vM vE,PB B W' p g f vM vE)∧(∀ B0,B0≤B→B0≤p→B0≤g→Below B0 W W')
theorem MB.name {D h:Nat} {W:World} {nm:ByteArray} {m:MAcc} {a:Int} {vF vO vR:Value} (H:MB D W h nm m a vF vO vR) (n2:ByteArray):MB D (W.setCell ⟨h,0,none⟩ (.string n2)) h n2 m a vF vO vR :=
 ⟨blk_put H.blk 0 _ rfl,Kd.R_set H.rF H.blk J11 0 _,Kd.R_set H.rO H.blk J11 0 _,Kd.R_set H.rR H.blk J11 0 _,H.ge⟩
theorem MB.new (W:World) (a:Int) (D:Nat) (hD:D≤W.heap.size):MB D (W.alloc (.cells #[.string (⟨#[]⟩:ByteArray),.slice none 0 0,.slice none 0 0,.slice none 0 0,.int .i64 a] 34 (0,0))) W.heap.size ⟨#[]⟩ ([],[],[]) a (.slice none 0 0) (.slice none 0 0) (.slice none 0 0) :=
 ⟨blk_new _ _,Kd.R_nil _ _ _ _ _,Kd.R_nil _ _ _ _ _,Kd.R_nil _ _ _ _ _,hD⟩
set_option maxHeartbeats 2000000 in
set_option maxRecDepth 100000 in
theorem message_s {B p g:Nat} {W:World} {l:TL} {e:Int} {s:PS} {f:FileS} {vM vE:Value} (H:TS B W p g l e s) (HPB:PB B W p g f vM vE) (hl:f.1.length≤1000000):Calls Tryz.prog 38 #[.pointer (some ⟨p,0,none⟩)] W (TopP B W p g l e (f.1++[(pMsg e s).1],f.2) (pMsg e s).2):=by
 have HT0:=Y0 H
 have HL0:=Y0 H.lens
 have HG0:Aside0 (g < W.heap.size):=⟨by have:=H.lens;omega⟩
 have HT:=Y0 (H.lift H.lens.2.1 (Nat.le_refl _))
 have HLEN:=Y0 hl
 obtain ⟨AM,cM,rfl⟩:=Kd.R_slice HPB.rM
 have HP0:=Y0 HPB
 have hc:=H.par
 have q1:=tok_f1
 obtain ⟨r,hr⟩:∃ r,pLoopW [125] pItem ([],[],[]) e (pMust [123] (pTake 0 (pTake 0 s).2).2)=r:=⟨_,rfl⟩
 have HR:=Y0 hr
 obtain ⟨NM,hnm⟩:∃ NM,(pTake 0 (pTake 0 s).2).1.f1=NM:=⟨_,rfl⟩
 have HE:Aside0 (pMsg e s=(⟨NM,r.1.1,r.1.2.1,r.1.2.2,pAt e s⟩,r.2)):=⟨by unfold pMsg;rw [hr,hnm]⟩
 have HNM:=Y0 hnm
 rw [HE.out]
 clear H HPB hl hr hnm
 go_enter Tryz.func38,Tryz.ntmps38
 go_wp2_with fail
 go_at_call 40
 refine (at_s HT.out).mono ?_
 rintro en_ W1 ⟨rfl,hd⟩
 have n1_:=Y0 (HT.out.drawn hd)
 have HF:=Y0 (drawn_fr hd W.heap.size g)
 clear HT hc hd
 have HT:=n1_
 have hc:=HT.out.par
 clear n1_
 have hcA:∀ o,(W1.alloc o).cell? ⟨p,0,none⟩=some (.pointer (some ⟨g,0,none⟩)):=fun o=>pw_cell_below (below_alloc (Below.refl _ W1) o) hc
 go_wp2_with fail
 clear hcA
 have n1_:=Y0 (HT.out.alloc (.cells #[.string (⟨#[]⟩:ByteArray),.slice none 0 0,.slice none 0 0,.slice none 0 0,.int .i64 (pAt e s)] 34 (0,0)))
 have n2_:=Y0 (HF.out.alloc HF.out.size (.cells #[.string (⟨#[]⟩:ByteArray),.slice none 0 0,.slice none 0 0,.slice none 0 0,.int .i64 (pAt e s)] 34 (0,0)))
 have n3_:=Y0 (MB.new W1 (pAt e s) W.heap.size HF.out.size)
 have HHW:=Y0 HF.out.size
 clear HT HF hc
 generalize W1.alloc (.cells #[.string (⟨#[]⟩:ByteArray),.slice none 0 0,.slice none 0 0,.slice none 0 0,.int .i64 (pAt e s)] 34 (0,0))=V0 at *
 obtain ⟨h,hh⟩:∃ h,W1.heap.size=h:=⟨_,rfl⟩
 rw [hh] at n3_ HHW ⊢
 clear hh
 have HT:=n1_
 have HF:=n2_
 have HM:=n3_
 have hc:=HT.out.par
 clear n1_ n2_ n3_
 go_at_call 88
 refine (take_s 0 HT.out).mono ?_
 rintro en_ V1 ⟨rfl,h1,f1⟩
 have n4_:=Y0 (HM.out.keep f1 HG0.out)
 clear HM
 have HM:=n4_
 clear n4_
 have n1_:=Y0 h1
 have n2_:=Y0 (HF.out.trans (f1.mono HF.out.size))
 clear hc HT HF
 have hc:=h1.par
 have HT:=n1_
 have HF:=n2_
 clear h1 f1 n1_ n2_
 go_wp2_with fail
 go_at_call 88
 refine (take_s 0 HT.out).mono ?_
 rintro en_ V2 ⟨rfl,h1,f1⟩
 have n4_:=Y0 (HM.out.keep f1 HG0.out)
 clear HM
 have HM:=n4_
 clear n4_
 have n1_:=Y0 h1
 have n2_:=Y0 (HF.out.trans (f1.mono HF.out.size))
 clear hc HT HF
 have hc:=h1.par
 have HT:=n1_
 have HF:=n2_
 clear h1 f1 n1_ n2_
 have hph:p≠h:=by have:=HL0.out;have:=HHW.out;omega
 have hhp:=Ne.symm hph
 have z0:_=some (Value.string _):=(blk_cell HM.out.blk 0).trans rfl
 have w0:=blk_frozen HM.out.blk 0
 go_wp2_with fail
 clear z0 w0 hph hhp hc
 rw [HNM.out] at ⊢
 have n1_:=Y0 (HT.out.far (q:=⟨h,0,none⟩) HM.out.ge (.string NM))
 have n2_:=Y0 (HF.out.far (p:=⟨h,0,none⟩) HM.out.ge (.string NM))
 have n3_:=Y0 (HM.out.name NM)
 clear HT HF HM
 generalize V2.setCell ⟨h,0,none⟩ (.string NM)=V3 at *
 have HT:=n1_
 have HF:=n2_
 have HM:=n3_
 have hc:=HT.out.par
 clear n1_ n2_ n3_
 go_at_call 89
 refine (must_s (⟨#[123]⟩:ByteArray) HT.out).mono ?_
 rintro en_ V4 ⟨rfl,h1,f1⟩
 have n4_:=Y0 (HM.out.keep f1 HG0.out)
 clear HM
 have HM:=n4_
 clear n4_
 have n1_:=Y0 h1
 have n2_:=Y0 (HF.out.trans (f1.mono HF.out.size))
 clear hc HT HF
 have hc:=h1.par
 have HT:=n1_
 have HF:=n2_
 clear h1 f1 n1_ n2_
 have hbl:bl (⟨#[123]⟩:ByteArray)=[123]:=rfl
 rw [hbl] at HT
 clear hbl hc
 obtain ⟨S0,hS0⟩:∃ S0,pMust [123] (pTake 0 (pTake 0 s).2).2=S0:=⟨_,rfl⟩
 rw [hS0] at HT HR
 clear hS0
 go_upto_block 0 with (fail)
 go_cut [2] (fun v2 V=>v2 = .pointer (some ⟨h,0,none⟩)∧∃ vF vO vR:Value,Aside0 (TS W.heap.size V p g l e r.2)∧Aside0 (MB W.heap.size V h NM r.1 (pAt e s) vF vO vR)∧Aside0 (Fr W.heap.size g W V))
 case first =>
  go_wp2
  go_loopg [27] (mu S0) (fun n _ V=>∃ (m1:MAcc) (s1:PS) (vF vO vR:Value),Aside0 (TS W.heap.size V p g l e s1)∧Aside0 (MB W.heap.size V h NM m1 (pAt e s) vF vO vR)∧Aside0 (Fr W.heap.size g W V)∧Aside0 (pLoop [125] pItem n m1 e s1=r)∧Aside0 (mu s1≤n∧szM m1 + mu s1≤1001))
  case atStart =>
   refine ⟨([],[],[]),S0,_,_,_,HT,HM,HF,HR,⟨Nat.le_refl _,?_⟩⟩
   have h2:mu S0≤1001:=by
    unfold mu
    split
    ·omega
    ·have:=HT.out.lens.1;omega
   exact Nat.le_trans (Nat.le_of_eq (Nat.zero_add _)) h2
  case round =>
   clear HT HM HF HR
   obtain ⟨m1,s1,vF,vO,vR,HT,HM,HF,HR,HN⟩:=hrel
   have hc:=HT.out.par
   have hb3:=HT.out.bad
   cases hb:s1.b with
   | true =>
    rw [hb] at hb3
    have HE2:Aside0 (r=(m1,s1)):=⟨J144⟩
    clear hb HR
    go_wp2
    go_meet
    exact ⟨rfl,vF,vO,vR,by rw [HE2.out];exact HT,by rw [HE2.out];exact HM,HF⟩
   | false =>
    rw [hb] at hb3
    cases gk with
    | zero =>
     have:=mu_zero s1 J105
     rw [hb] at this
     cases this
    | succ k1 =>
     have HSG:=Y0 (sign_s (⟨#[125]⟩:ByteArray) HT.out)
     have hbl:bl (⟨#[125]⟩:ByteArray)=[125]:=rfl
     rw [hbl] at HSG
     clear hbl
     have hR2:=HR.out
     rw [pLoop,if_neg J134] at hR2
     cases hsg:(pSign [125] s1).1 with
     | true =>
      rw [hsg,if_pos rfl] at hR2
      rw [hsg] at HSG
      have HE2:=Y0 hR2
      clear hsg hR2 HR hb
      go_wp2_with fail
      go_at_call 90
      refine HSG.out.mono ?_
      rintro en_ W4 ⟨rfl,h1,f1⟩
      have n1_:=Y0 h1
      have n2_:=Y0 (HM.out.keep f1 HG0.out)
      have n3_:=Y0 (HF.out.trans (f1.mono HF.out.size))
      clear HT HM HF hc hb3 h1 f1 HSG
      have HT:=n1_
      have HM:=n2_
      have HF:=n3_
      clear n1_ n2_ n3_
      go_wp2
      go_meet
      exact ⟨rfl,vF,vO,vR,by rw [← HE2.out];exact HT,by rw [← HE2.out];exact HM,HF⟩
     | false =>
      have hs2:(pSign [125] s1).2=s1:=sign_no _ _ hsg
      rw [hsg,if_neg Bool.false_ne_true] at hR2
      rw [hsg,hs2] at HSG
      have HMU:=Y0 ((item_good m1).mu_lt e s1 hb)
      have HPOT:=Y0 (item_pot m1 e s1 hb)
      have HE2:=Y0 hR2
      have HFW:Aside0 (fewM m1):=⟨by have:=HN.out;unfold szM at this;exact ⟨J7,J7,J7⟩⟩
      clear hsg hs2 hR2 HR hb
      go_wp2_with fail
      go_at_call 90
      refine HSG.out.mono ?_
      rintro en_ W4 ⟨rfl,h1,f1⟩
      have n1_:=Y0 h1
      have n2_:=Y0 (HM.out.keep f1 HG0.out)
      have n3_:=Y0 (HF.out.trans (f1.mono HF.out.size))
      clear HT HM HF hc hb3 h1 f1 HSG
      go_wp2_with fail
      go_at_call 91
      refine (item_fn n1_.out).mono ?_
      rintro en_ W5 ⟨rfl,hd⟩
      have HT:=Y0 (n1_.out.drawn hd)
      have HM:=Y0 (n2_.out.drawn hd)
      have HF:=Y0 (n3_.out.trans (drawn_fr hd W.heap.size g))
      clear n1_ n2_ n3_ hd
      have HI:=Y0 (item_calls HT.out HM.out HFW.out)
      have hcf:=item_enter s1
      generalize itemF s1=fi at *
      clear HT HM
      go_wp2_with fail
      refine HI.out.mono ?_
      rintro en_ W6 ⟨rfl,h1,⟨vF',vO',vR',h2⟩,f1⟩
      have n1_:=Y0 h1
      have n2_:=Y0 h2
      have n3_:=Y0 (HF.out.trans f1)
      clear h1 h2 f1 HF HI hcf
      go_wp2_with fail
      go_roundg k1
      case measure=>omega
      case rel=>exact ⟨_,_,vF',vO',vR',n1_,n2_,n3_,HE2,⟨by have:=HMU.out;have:=HN.out;omega,by have:=HPOT.out;have:=HN.out;omega⟩⟩
 case rest =>
  obtain ⟨rfl,vF,vO,vR,HT,HM,HF⟩:=hcut
  go_wp2_with fail
  obtain ⟨AF,cF,rfl⟩:=Kd.R_slice HM.out.rF
  obtain ⟨AO,cO,rfl⟩:=Kd.R_slice HM.out.rO
  obtain ⟨AR,cR,rfl⟩:=Kd.R_slice HM.out.rR
  have n1_:=Y0 (HP0.out.keep HF.out (show g < B from by have:=HL0.out;omega) (by have:=HL0.out;omega))
  have y0:=(blk_cell HM.out.blk 0).trans rfl
  have y1:=(blk_cell HM.out.blk 1).trans rfl
  have y2:=(blk_cell HM.out.blk 2).trans rfl
  have y3:=(blk_cell HM.out.blk 3).trans rfl
  have y4:=(blk_cell HM.out.blk 4).trans rfl
  have hp1:=(blk_cell n1_.out.blk 1).trans rfl
  have HP:=Y0 (n1_.out.below (Below.refl _ wc).drew)
  have HTZ:=Y0 (HT0.out.back HT.out HF.out.size)
  have HS1:Aside0 (B≤wc.drew.heap.size):=⟨Nat.le_trans HL0.out.2.1 HF.out.size⟩
  have HFD:=Y0 HF.out.drew
  have HTD:=Y0 HTZ.out.drew
  have HBW:Aside0 (B≤W.heap.size):=⟨HL0.out.2.1⟩
  have HMM:Aside0 (k34.M wc.drew B (fun k=>W.heap.size≤k) (⟨NM,r.1.1,r.1.2.1,r.1.2.2,pAt e s⟩:MsgS) [.string NM,.slice AF r.1.1.length cF,.slice AO r.1.2.1.length cO,.slice AR r.1.2.2.length cR,.int .i64 (pAt e s)]):=⟨k34_mkM _ _ _ _ (Kd.R_lower (Kd.R_mono (Kd.R_bound (Kd.R_drew HM.out.rF)) (fun k hk=>hk.2.1)) HBW.out) (Kd.R_lower (Kd.R_mono (Kd.R_bound (Kd.R_drew HM.out.rO)) (fun k hk=>hk.2.1)) HBW.out) (Kd.R_lower (Kd.R_mono (Kd.R_bound (Kd.R_drew HM.out.rR)) (fun k hk=>hk.2.1)) HBW.out)⟩
  have HOK:Aside0 (∀ k,W.heap.size≤k→True∧some k≠(Value.slice AM f.1.length cM).ownBlock):=⟨fun k hk=>⟨trivial,fun he=>by have:=Kd.R_lt HP0.out.rM k he.symm;omega⟩⟩
  clear n1_ HT HF HTZ
  refine start_ (n:=13) (S:=fun w'=>w'.cell? ⟨p,1,none⟩=some (.slice AM f.1.length cM)∧w'.cell? ⟨h,0,none⟩=some (.string NM)∧w'.cell? ⟨h,1,none⟩=some (.slice AF r.1.1.length cF)∧w'.cell? ⟨h,2,none⟩=some (.slice AO r.1.2.1.length cO)∧w'.cell? ⟨h,3,none⟩=some (.slice AR r.1.2.2.length cR)∧w'.cell? ⟨h,4,none⟩=some (.int .i64 (pAt e s))) (ds:=[8,12]) #[false,false,false,false,false,false,false,false,false,false,false,false,false] J0 rfl rfl ⟨hp1,y0,y1,y2,y3,y4⟩ (fun hHeld=>?_)
  generalize wc.drew=WD at *
  refine pure_ (i:=0) (N:=some 47) (v:=?_) (a':=?_) (sqB 13 1) rfl rfl J0 (fun _ _ _ h=>h) (Or.inl ⟨J19,?_⟩) ?_ ?_;rotate_left;intro w';go_simp;with_reducible rfl;rotate_left;simp only [Act.put,Y14,Y15,Y16,i64_w];rfl
  refine pure_ (i:=1) (N:=some 48) (v:=?_) (a':=?_) (sqB 13 3) rfl rfl J0 (fun _ _ _ h=>h) (Or.inl ⟨J19,?_⟩) ?_ ?_;rotate_left;intro w';go_simp;with_reducible rfl;rotate_left;simp only [Act.put,Y14,Y15,Y16,i64_w];rfl
  refine pure_ (i:=2) (N:=some 49) (v:=?_) (a':=?_) (sqB 13 7) rfl rfl J0 (fun _ _ _ h=>h) (Or.inl ⟨J19,?_⟩) ?_ ?_;rotate_left;intro w';go_simp;with_reducible rfl;rotate_left;simp only [Act.put,Y14,Y15,Y16,i64_w];rfl
  refine pure_ (i:=3) (N:=some 50) (v:=?_) (a':=?_) (sqB 13 15) rfl rfl J0 (fun _ _ _ h=>h) (Or.inl ⟨J19,?_⟩) ?_ ?_;rotate_left;intro w';go_simp;with_reducible rfl;rotate_left;simp only [Act.put,Y14,Y15,Y16,i64_w];rfl
  refine pure_ (i:=4) (N:=some 51) (v:=?_) (a':=?_) (sqB 13 31) rfl rfl J0 (fun _ _ _ h=>h) (Or.inl ⟨J19,?_⟩) ?_ ?_;rotate_left;intro w';go_simp;with_reducible rfl;rotate_left;simp only [Act.put,Y14,Y15,Y16,i64_w];rfl
  refine take_ (i:=5) (N:=some 52) (v:=?_) (a':=?_) (sqB 13 63) rfl rfl J0 (fun _ _ _ h=>h) (Or.inl ⟨J19,?_⟩) hHeld ?_ ?_;rotate_left;rintro w' ⟨s0,s1,s2,s3,s4,s5⟩;go_simp;with_reducible rfl;rotate_left;simp only [Act.put,Y14,Y15,Y16,i64_w];rfl
  refine take_ (i:=6) (N:=some 53) (v:=?_) (a':=?_) (sqB 13 127) rfl rfl J0 (fun _ _ _ h=>h) (Or.inl ⟨J19,?_⟩) hHeld ?_ ?_;rotate_left;rintro w' ⟨s0,s1,s2,s3,s4,s5⟩;go_simp;with_reducible rfl;rotate_left;simp only [Act.put,Y14,Y15,Y16,i64_w];rfl
  refine one_ (i:=7) (N:=some 54) (sqB 13 255) rfl rfl J0 J11 (fun K hK=>?_)
  refine value_ (w1:=?_) (v:=?_) J19 rfl ?_ ?_
  rotate_left 2
  ·go_simp
   constructor
   ·rfl
   ·rfl
  refine hK.out _ _ ⟨(pw_cell_below (below_alloc (Below.refl _ _) _) hHeld.1),(pw_cell_below (below_alloc (Below.refl _ _) _) hHeld.2.1),(pw_cell_below (below_alloc (Below.refl _ _) _) hHeld.2.2.1),(pw_cell_below (below_alloc (Below.refl _ _) _) hHeld.2.2.2.1),(pw_cell_below (below_alloc (Below.refl _ _) _) hHeld.2.2.2.2.1),(pw_cell_below (below_alloc (Below.refl _ _) _) hHeld.2.2.2.2.2)⟩ (fun hHeld=>?_)
  clear hK K
  refine norm_ (a':=?_) ?_ ?_;rotate_left;show Act.put _ (some 54) _=_;simp only [Act.put,Y14,Y15,Y16,i64_w];rfl
  refine last_ (i:=8) (N:=some 55) (sqB 13 511) rfl rfl J0 J11 (fun K hK=>?_)
  refine Kd.R_append_step k34 (w0:=WD) B J19 (.tmp 52) (.tmp 54) 23 34 (.agg #[(.string ⟨#[]⟩),(.slice none 0 0),(.slice none 0 0),(.slice none 0 0),(.int .i64 0)]) 96 rfl Tryz.underlying23 info34 rfl J11 J11 _ f.1 ⟨NM,r.1.1,r.1.2.1,r.1.2.2,pAt e s⟩ [.string NM,.slice AF r.1.1.length cF,.slice AO r.1.2.1.length cO,.slice AR r.1.2.2.length cR,.int .i64 (pAt e s)] (fun _=>True) (fun k=>W.heap.size≤k) rfl rfl HMM.out HOK.out (fun _ _=>trivial) HP.out.rM (Below.refl _ _) HS1.out J138 ?_
  intro v1 w1 hR1 _ hg1 _
  obtain ⟨A1,c1,hv1⟩:=Kd.R_slice hR1
  have hv2:v1 = .slice A1 (f.1.length + 1) c1:=by rw [hv1,List.length_append];rfl
  clear hv1
  subst hv2
  have HR1:=Y0 hR1
  have HG1:=Y0 hg1
  clear hR1 hg1
  have hf1:=blk_frozen (blk_grow HP.out.rM HP.out.blk J11 HG1.out) 1
  have hk1:=(blk_cell (blk_grow HP.out.rM HP.out.blk J11 HG1.out) 1).trans rfl
  refine hK.out _ _ ?_
  clear hK K
  refine norm_ (a':=?_) ?_ ?_;rotate_left;show Act.put _ (some 55) _=_;simp only [Act.put,Y14,Y15,Y16,i64_w];rfl
  refine pure_ (i:=9) (N:=some 56) (v:=?_) (a':=?_) (sqB 13 1023) rfl rfl J0 (fun _ _ _ h=>h) (Or.inl ⟨J19,?_⟩) ?_ ?_;rotate_left;intro w';go_simp;with_reducible rfl;rotate_left;simp only [Act.put,Y14,Y15,Y16,i64_w];rfl
  refine pure_ (i:=10) (N:=some 57) (v:=?_) (a':=?_) (sqB 13 2047) rfl rfl J0 (fun _ _ _ h=>h) (Or.inl ⟨J19,?_⟩) ?_ ?_;rotate_left;intro w';go_simp;with_reducible rfl;rotate_left;simp only [Act.put,Y14,Y15,Y16,i64_w];rfl
  refine pure_ (i:=11) (N:=some 58) (v:=?_) (a':=?_) (sqB 13 4095) rfl rfl J0 (fun _ _ _ h=>h) (Or.inl ⟨J19,?_⟩) ?_ ?_;rotate_left;intro w';go_simp;with_reducible rfl;rotate_left;simp only [Act.put,Y14,Y15,Y16,i64_w];rfl
  refine last_ (i:=12) (N:=none) (sqB 13 8191) rfl rfl J0 J11 (fun K hK=>?_)
  refine skip_ (w1:=?_) J19 rfl ?_ ?_
  rotate_left
  ·go_simp
   rfl
  refine hK.out _ _ ?_
  clear hK K
  refine done_ J0 ?_
  go_wp2_with fail
  go_end0
  have hq:=HP.out.appM HR1.out HG1.out
  refine ⟨rfl,(HTD.out.other (grown_below HP.out.rM HG1.out HS1.out)).setp hq.blk rfl,⟨_,_,hq⟩,fun B0 h1 h2 h3=>?_⟩
  exact ((HFD.out.below (Below.refl B0 W) (Nat.le_trans h1 HBW.out) h3).trans ((grown_below HP.out.rM HG1.out HS1.out).mono h1)).setCell (p:=⟨p,1,none⟩) h2 _
structure EB (D:Nat) (W:World) (h:Nat) (nm:ByteArray) (vs:List ValS) (a:Int) (vV:Value):Prop where
 blk:W.heap[h]?=some (.cells #[.string nm,vV,.int .i64 a] 68 (0,0))
 rV:k92.R 92 W D (fun _=>True) vV vs
 ge:D≤h
theorem EB.keep {D g h:Nat} {W W':World} {nm:ByteArray} {vs:List ValS} {a:Int} {vV:Value} (H:EB D W h nm vs a vV) (hF:Fr W.heap.size g W W') (hg:g < D):EB D W' h nm vs a vV :=
 ⟨(hF.block h (blk_lt H.blk) (by have:=H.ge;omega)).trans H.blk,R_fr H.rV hF hg,H.ge⟩
theorem EB.below {D h:Nat} {W W':World} {nm:ByteArray} {vs:List ValS} {a:Int} {vV:Value} (H:EB D W h nm vs a vV) (hb:Below W.heap.size W W'):EB D W' h nm vs a vV:=⟨blk_below H.blk hb,Kd.R_below H.rV hb,H.ge⟩
theorem EB.drawn {D h:Nat} {W W':World} {nm:ByteArray} {vs:List ValS} {a:Int} {vV:Value} (H:EB D W h nm vs a vV) (hd:Drawn0 W W'):EB D W' h nm vs a vV:=H.below hd.below
theorem EB.name {D h:Nat} {W:World} {nm:ByteArray} {vs:List ValS} {a:Int} {vV:Value} (H:EB D W h nm vs a vV) (n2:ByteArray):EB D (W.setCell ⟨h,0,none⟩ (.string n2)) h n2 vs a vV:=⟨blk_put H.blk 0 _ rfl,Kd.R_set H.rV H.blk J11 0 _,H.ge⟩
theorem EB.new (W:World) (a:Int) (D:Nat) (hD:D≤W.heap.size):EB D (W.alloc (.cells #[.string (⟨#[]⟩:ByteArray),.slice none 0 0,.int .i64 a] 68 (0,0))) W.heap.size ⟨#[]⟩ [] a (.slice none 0 0):=⟨blk_new _ _,Kd.R_nil _ _ _ _ _,hD⟩
theorem EB.appV {D h:Nat} {W W':World} {nm:ByteArray} {vs l:List ValS} {a:Int} {vV v:Value} (H:EB D W h nm vs a vV) (hR:k92.R 92 W' D (fun _=>True) v l) (hg:W.grownBy W' vV.ownBlock):EB D (W'.setCell ⟨h,1,none⟩ v) h nm l a v:=by
 have hb:=blk_grow H.rV H.blk J11 hg
 exact ⟨blk_put hb 1 _ rfl,Kd.R_set hR hb J11 1 v,H.ge⟩
theorem R_far2 {α:Type} {d:Kd α} {t B b j:Nat} {W W':World} {v u:Value} {xs:List α} (h:d.R t W B (fun k=>k≠b) v xs) (e:W'=W.setCell ⟨b,j,none⟩ u):d.R t W' B (fun k=>k≠b) v xs:=e ▸ Kd.R_far h (p:=⟨b,j,none⟩) (fun _ hk=>hk) u
set_option maxHeartbeats 2000000 in
set_option maxRecDepth 100000 in
theorem enum_s {B p g:Nat} {W:World} {l:TL} {e:Int} {s:PS} {f:FileS} {vM vE:Value} (H:TS B W p g l e s) (HPB:PB B W p g f vM vE) (hl:f.2.length≤1000000):Calls Tryz.prog 39 #[.pointer (some ⟨p,0,none⟩)] W (TopP B W p g l e (f.1,f.2++[(pEnum e s).1]) (pEnum e s).2):=by
 have HT0:=Y0 H
 have HL0:=Y0 H.lens
 have HG0:Aside0 (g < W.heap.size):=⟨by have:=H.lens;omega⟩
 have HT:=Y0 (H.lift H.lens.2.1 (Nat.le_refl _))
 have HLEN:=Y0 hl
 obtain ⟨AE,cE,rfl⟩:=Kd.R_slice HPB.rE
 have HP0:=Y0 HPB
 have hc:=H.par
 have q1:=tok_f1
 obtain ⟨r,hr⟩:∃ r,pLoopW [125] pVal [] e (pMust [123] (pTake 0 (pTake 0 s).2).2)=r:=⟨_,rfl⟩
 have HR:=Y0 hr
 obtain ⟨NM,hnm⟩:∃ NM,(pTake 0 (pTake 0 s).2).1.f1=NM:=⟨_,rfl⟩
 have HE:Aside0 (pEnum e s=(⟨NM,r.1,pAt e s⟩,r.2)):=⟨by unfold pEnum;rw [hr,hnm]⟩
 have HNM:=Y0 hnm
 rw [HE.out]
 clear H HPB hl hr hnm
 go_enter Tryz.func39,Tryz.ntmps39
 go_wp2_with fail
 go_at_call 40
 refine (at_s HT.out).mono ?_
 rintro en_ W1 ⟨rfl,hd⟩
 have n1_:=Y0 (HT.out.drawn hd)
 have HF:=Y0 (drawn_fr hd W.heap.size g)
 clear HT hc hd
 have HT:=n1_
 have hc:=HT.out.par
 clear n1_
 have hcA:∀ o,(W1.alloc o).cell? ⟨p,0,none⟩=some (.pointer (some ⟨g,0,none⟩)):=fun o=>pw_cell_below (below_alloc (Below.refl _ W1) o) hc
 go_wp2_with fail
 clear hcA
 have n1_:=Y0 (HT.out.alloc (.cells #[.string (⟨#[]⟩:ByteArray),.slice none 0 0,.int .i64 (pAt e s)] 68 (0,0)))
 have n2_:=Y0 (HF.out.alloc HF.out.size (.cells #[.string (⟨#[]⟩:ByteArray),.slice none 0 0,.int .i64 (pAt e s)] 68 (0,0)))
 have n3_:=Y0 (EB.new W1 (pAt e s) W.heap.size HF.out.size)
 have HHW:=Y0 HF.out.size
 clear HT HF hc
 generalize W1.alloc (.cells #[.string (⟨#[]⟩:ByteArray),.slice none 0 0,.int .i64 (pAt e s)] 68 (0,0))=V0 at *
 obtain ⟨h,hh⟩:∃ h,W1.heap.size=h:=⟨_,rfl⟩
 rw [hh] at n3_ HHW ⊢
 clear hh
 have HT:=n1_
 have HF:=n2_
 have HM:=n3_
 have hc:=HT.out.par
 clear n1_ n2_ n3_
 go_at_call 88
 refine (take_s 0 HT.out).mono ?_
 rintro en_ V1 ⟨rfl,h1,f1⟩
 have n4_:=Y0 (HM.out.keep f1 HG0.out)
 clear HM
 have HM:=n4_
 clear n4_
 have n1_:=Y0 h1
 have n2_:=Y0 (HF.out.trans (f1.mono HF.out.size))
 clear hc HT HF
 have hc:=h1.par
 have HT:=n1_
 have HF:=n2_
 clear h1 f1 n1_ n2_
 go_wp2_with fail
 go_at_call 88
 refine (take_s 0 HT.out).mono ?_
 rintro en_ V2 ⟨rfl,h1,f1⟩
 have n4_:=Y0 (HM.out.keep f1 HG0.out)
 clear HM
 have HM:=n4_
 clear n4_
 have n1_:=Y0 h1
 have n2_:=Y0 (HF.out.trans (f1.mono HF.out.size))
 clear hc HT HF
 have hc:=h1.par
 have HT:=n1_
 have HF:=n2_
 clear h1 f1 n1_ n2_
 have hph:p≠h:=by have:=HL0.out;have:=HHW.out;omega
 have hhp:=Ne.symm hph
 have z0:_=some (Value.string _):=(blk_cell HM.out.blk 0).trans rfl
 have w0:=blk_frozen HM.out.blk 0
 go_wp2_with fail
 clear z0 w0 hph hhp hc
 rw [HNM.out] at ⊢
 have n1_:=Y0 (HT.out.far (q:=⟨h,0,none⟩) HM.out.ge (.string NM))
 have n2_:=Y0 (HF.out.far (p:=⟨h,0,none⟩) HM.out.ge (.string NM))
 have n3_:=Y0 (HM.out.name NM)
 clear HT HF HM
 generalize V2.setCell ⟨h,0,none⟩ (.string NM)=V3 at *
 have HT:=n1_
 have HF:=n2_
 have HM:=n3_
 have hc:=HT.out.par
 clear n1_ n2_ n3_
 go_at_call 89
 refine (must_s (⟨#[123]⟩:ByteArray) HT.out).mono ?_
 rintro en_ V4 ⟨rfl,h1,f1⟩
 have n4_:=Y0 (HM.out.keep f1 HG0.out)
 clear HM
 have HM:=n4_
 clear n4_
 have n1_:=Y0 h1
 have n2_:=Y0 (HF.out.trans (f1.mono HF.out.size))
 clear hc HT HF
 have hc:=h1.par
 have HT:=n1_
 have HF:=n2_
 clear h1 f1 n1_ n2_
 have hbl:bl (⟨#[123]⟩:ByteArray)=[123]:=rfl
 rw [hbl] at HT
 clear hbl hc
 obtain ⟨S0,hS0⟩:∃ S0,pMust [123] (pTake 0 (pTake 0 s).2).2=S0:=⟨_,rfl⟩
 rw [hS0] at HT HR
 clear hS0
 go_upto_block 0 with (fail)
 go_cut [2] (fun v2 V=>v2 = .pointer (some ⟨h,0,none⟩)∧∃ vV:Value,Aside0 (TS W.heap.size V p g l e r.2)∧Aside0 (EB W.heap.size V h NM r.1 (pAt e s) vV)∧Aside0 (Fr W.heap.size g W V))
 case first =>
  go_wp2
  go_loopg [27] (mu S0) (fun n _ V=>∃ (l1:List ValS) (s1:PS) (A2:Option Addr) (c2:Nat),Aside0 (TS W.heap.size V p g l e s1)∧Aside0 (EB W.heap.size V h NM l1 (pAt e s) (.slice A2 l1.length c2))∧Aside0 (Fr W.heap.size g W V)∧Aside0 (pLoop [125] pVal n l1 e s1=r)∧Aside0 (mu s1≤n∧l1.length + n≤1001))
  case atStart =>
   refine ⟨[],S0,_,_,HT,HM,HF,HR,⟨Nat.le_refl _,?_⟩⟩
   have h2:mu S0≤1001:=by
    unfold mu
    split
    ·omega
    ·have:=HT.out.lens.1;omega
   exact Nat.le_trans (Nat.le_of_eq (Nat.zero_add _)) h2
  case round =>
   clear HT HM HF HR
   obtain ⟨l1,s1,A2,c2,HT,HM,HF,HR,HN⟩:=hrel
   have hc:=HT.out.par
   have hb3:=HT.out.bad
   cases hb:s1.b with
   | true =>
    rw [hb] at hb3
    have HE2:Aside0 (r=(l1,s1)):=⟨J144⟩
    clear hb HR
    go_wp2
    go_meet
    exact ⟨rfl,_,by rw [HE2.out];exact HT,by rw [HE2.out];exact HM,HF⟩
   | false =>
    rw [hb] at hb3
    cases gk with
    | zero =>
     have:=mu_zero s1 J105
     rw [hb] at this
     cases this
    | succ k1 =>
     have HSG:=Y0 (sign_s (⟨#[125]⟩:ByteArray) HT.out)
     have hbl:bl (⟨#[125]⟩:ByteArray)=[125]:=rfl
     rw [hbl] at HSG
     clear hbl
     have hR2:=HR.out
     rw [pLoop,if_neg J134] at hR2
     cases hsg:(pSign [125] s1).1 with
     | true =>
      rw [hsg,if_pos rfl] at hR2
      rw [hsg] at HSG
      have HE2:=Y0 hR2
      clear hsg hR2 HR hb
      go_wp2_with fail
      go_at_call 90
      refine HSG.out.mono ?_
      rintro en_ W4 ⟨rfl,h1,f1⟩
      have n1_:=Y0 h1
      have n2_:=Y0 (HM.out.keep f1 HG0.out)
      have n3_:=Y0 (HF.out.trans (f1.mono HF.out.size))
      clear HT HM HF hc hb3 h1 f1 HSG
      go_wp2
      go_meet
      exact ⟨rfl,_,by rw [← HE2.out];exact n1_,by rw [← HE2.out];exact n2_,n3_⟩
     | false =>
      have hs2:(pSign [125] s1).2=s1:=sign_no _ _ hsg
      rw [hsg,if_neg Bool.false_ne_true] at hR2
      rw [hsg,hs2] at HSG
      have HMU:=Y0 ((val_good l1).mu_lt e s1 hb)
      have HE2:=Y0 hR2
      have HLE:Aside0 ((l1.length + 1) * 32≤140737488355328):=⟨J105⟩
      clear hsg hs2 hR2 HR hb
      go_wp2_with fail
      go_at_call 90
      refine HSG.out.mono ?_
      rintro en_ W4 ⟨rfl,h1,f1⟩
      have n1_:=Y0 h1
      have n2_:=Y0 (HM.out.keep f1 HG0.out)
      have n3_:=Y0 (HF.out.trans (f1.mono HF.out.size))
      clear HT HM HF hc hb3 h1 f1 HSG
      have hc:=n1_.out.par
      go_wp2_with fail
      go_at_call 40
      refine (at_s n1_.out).mono ?_
      rintro en_ W5 ⟨rfl,hd⟩
      have HT:=Y0 (n1_.out.drawn hd)
      have HM:=Y0 (n2_.out.drawn hd)
      have HF:=Y0 (n3_.out.trans (drawn_fr hd W.heap.size g))
      clear n1_ n2_ n3_ hd hc
      have hc:=HT.out.par
      have hcA:∀ o,(W5.alloc o).cell? ⟨p,0,none⟩=some (.pointer (some ⟨g,0,none⟩)):=fun o=>pw_cell_below (below_alloc (Below.refl _ W5) o) hc
      go_wp2_with fail
      clear hcA hc
      have n1_:=Y0 (HT.out.alloc (.cells #[.string (⟨#[]⟩:ByteArray),.int .i64 0,.int .i64 (pAt e s1)] 92 (0,0)))
      have n2_:=Y0 (HM.out.below (below_alloc (Below.refl _ W5) (.cells #[.string (⟨#[]⟩:ByteArray),.int .i64 0,.int .i64 (pAt e s1)] 92 (0,0))))
      have n3_:=Y0 (HF.out.alloc HF.out.size (.cells #[.string (⟨#[]⟩:ByteArray),.int .i64 0,.int .i64 (pAt e s1)] 92 (0,0)))
      have HX:=Y0 (blk_new W5 (.cells #[.string (⟨#[]⟩:ByteArray),.int .i64 0,.int .i64 (pAt e s1)] 92 (0,0)))
      have HVW:=Y0 HF.out.size
      have HVH:Aside0 (W5.heap.size≠h):=⟨Nat.ne_of_gt (blk_lt HM.out.blk)⟩
      have hrr:=Kd.R_alloc (Kd.R_bound HM.out.rV) (.cells #[.string (⟨#[]⟩:ByteArray),.int .i64 0,.int .i64 (pAt e s1)] 92 (0,0))
      have HRV:=Y0 (Kd.R_mono hrr (ok':=fun k=>k≠W5.heap.size) (fun k hk=>Nat.ne_of_lt hk.2.2.1))
      clear HT HM HF hrr
      generalize W5.alloc (.cells #[.string (⟨#[]⟩:ByteArray),.int .i64 0,.int .i64 (pAt e s1)] 92 (0,0))=V6 at *
      obtain ⟨vb,hvb⟩:∃ vb,W5.heap.size=vb:=⟨_,rfl⟩
      rw [hvb] at HX HVW HVH HRV ⊢
      clear hvb
      have HVG:Aside0 (vb≠g):=⟨by have:=HVW.out;have:=HG0.out;omega⟩
      go_at_call 92
      refine (named_s n1_.out).mono ?_
      rintro en_ V7 ⟨rfl,h1,f1⟩
      have HT:=Y0 h1
      have HM:=Y0 (n2_.out.keep f1 HG0.out)
      have HF:=Y0 (n3_.out.trans (f1.mono n3_.out.size))
      have hx:=(f1.block vb (blk_lt HX.out) HVG.out).trans HX.out
      have hrv:=Kd.R_bound HRV.out
      have hrv2:=Kd.R_keep hrv (f1.keep rfl) (fun k hk=>(by have:=hk.2.1;have:=HG0.out;omega))
      have HRV7:=Y0 (Kd.R_mono hrv2 (ok':=fun k=>k≠vb) (fun k hk=>hk.1))
      have x0:=blk_frozen hx 0
      have x1:=blk_frozen hx 1
      have y0:_=some (Value.string _):=(blk_cell hx 0).trans rfl
      have y1:_=some (Value.int .i64 _):=(blk_cell hx 1).trans rfl
      have HX7:=Y0 hx
      clear n1_ n2_ n3_ h1 f1 hx hrv hrv2 HX HRV
      go_upto_region 7 with (fail)
      clear x0 x1 y0 y1
      have n1_:=Y0 ((HT.out.far (q:=⟨vb,0,none⟩) HVW.out (.string (pNamed s1).1.1)).far (q:=⟨vb,1,none⟩) HVW.out (.int .i64 (pNamed s1).1.2))
      have n3_:=Y0 ((HF.out.far (p:=⟨vb,0,none⟩) HVW.out (.string (pNamed s1).1.1)).far (p:=⟨vb,1,none⟩) HVW.out (.int .i64 (pNamed s1).1.2))
      have hb9:=blk_put (cs':=#[.string (pNamed s1).1.1,.int .i64 (pNamed s1).1.2,.int .i64 (pAt e s1)]) (blk_put (cs':=#[.string (pNamed s1).1.1,.int .i64 0,.int .i64 (pAt e s1)]) HX7.out 0 (.string (pNamed s1).1.1) rfl) 1 (.int .i64 (pNamed s1).1.2) rfl
      have hm9:=blk_far (blk_far HM.out.blk (p:=⟨vb,0,none⟩) HVH.out.symm (.string (pNamed s1).1.1)) (p:=⟨vb,1,none⟩) HVH.out.symm (.int .i64 (pNamed s1).1.2)
      have hr9:=Kd.R_mono (R_far2 (R_far2 HRV7.out (j:=0) (u:=.string (pNamed s1).1.1) rfl) (j:=1) (u:=.int .i64 (pNamed s1).1.2) rfl) (ok':=fun _=>True) (fun _ _=>trivial)
      have n2_:=Y0 (EB.mk hm9 hr9 HM.out.ge)
      clear HT HM HF HX7 HRV7 hm9 hr9
      generalize (V7.setCell ⟨vb,0,none⟩ (.string (pNamed s1).1.1)).setCell ⟨vb,1,none⟩ (.int .i64 (pNamed s1).1.2)=V9 at *
      have HT:=n1_
      have HM:=n2_
      have HF:=n3_
      clear n1_ n2_ n3_
      have hk0:V9.cell? ⟨h,1,none⟩=some (.slice A2 l1.length c2):=(blk_cell HM.out.blk 1).trans rfl
      have y0:_=some (Value.string _):=(blk_cell hb9 0).trans rfl
      have y1:_=some (Value.int .i64 _):=(blk_cell hb9 1).trans rfl
      have y2:_=some (Value.int .i64 _):=(blk_cell hb9 2).trans rfl
      clear hb9
      have HS9:=Y0 HF.out.size
      go_wp2_with ((with_reducible refine gate_builtin (b:=.append) (xs:=#[.tmp 57,.tmp 59]) rfl ?_);at_builtin;refine Kd.R_append k92 (w0:=V9) W.heap.size rfl (.tmp 57) (.tmp 59) 66 92 (.agg #[(.string ⟨#[]⟩),(.int .i64 0),(.int .i64 0)]) 32 rfl Tryz.underlying66 info92 rfl J11 J11 _ l1 ⟨(pNamed s1).1.1,(pNamed s1).1.2,pAt e s1⟩ [.string (pNamed s1).1.1,.int .i64 (pNamed s1).1.2,.int .i64 (pAt e s1)] (fun _=>True) (fun _=>False) rfl rfl (k92_mkM _ _ _ _) (fun _ hk=>hk.elim) (fun _ _=>trivial) HM.out.rV (Below.refl _ _) HS9.out HLE.out ?_;intro v1 w1 hR1 _ hg1 _;obtain ⟨A5,c5,hv1⟩:=Kd.R_slice hR1;have hv2:v1 = .slice A5 (l1.length + 1) c5:=(by rw [hv1,List.length_append];rfl);clear hv1;subst hv2;have HR1:=Y0 hR1;have HG1:=Y0 hg1;clear hR1 hg1;have hf1:=blk_frozen (blk_grow HM.out.rV HM.out.blk J11 HG1.out) 1;have hk1:_=some (Value.slice _ _ _):=(blk_cell (blk_grow HM.out.rV HM.out.blk J11 HG1.out) 1).trans rfl)
      have n1_:=Y0 ((HT.out.other (grown_below HM.out.rV HG1.out HS9.out)).far (q:=⟨h,1,none⟩) HM.out.ge (.slice A5 (l1.length + 1) c5))
      have n2_:=Y0 (HM.out.appV HR1.out HG1.out)
      have n3_:=Y0 ((HF.out.trans (Fr.of_below (grown_below HM.out.rV HG1.out HS9.out))).far (p:=⟨h,1,none⟩) HM.out.ge (.slice A5 (l1.length + 1) c5))
      clear HT HM HF HR1 HG1 hk0 y0 y1 y2 hf1 hk1
      go_roundg k1
      case measure=>omega
      case rel=>exact ⟨l1++[⟨(pNamed s1).1.1,(pNamed s1).1.2,pAt e s1⟩],_,A5,c5,n1_,⟨by rw [List.length_append];exact n2_.out⟩,n3_,HE2,⟨by have h1:mu (pNamed s1).2 < mu s1:=HMU.out;have:=HN.out;omega,J148⟩⟩
 case rest =>
  obtain ⟨rfl,vV,HT,HM,HF⟩:=hcut
  go_wp2_with fail
  obtain ⟨AV,cV,rfl⟩:=Kd.R_slice HM.out.rV
  have n1_:=Y0 (HP0.out.keep HF.out (show g < B from by have:=HL0.out;omega) (by have:=HL0.out;omega))
  have y0:=(blk_cell HM.out.blk 0).trans rfl
  have y1:=(blk_cell HM.out.blk 1).trans rfl
  have y2:=(blk_cell HM.out.blk 2).trans rfl
  have hp1:=(blk_cell n1_.out.blk 2).trans rfl
  have HP:=Y0 (n1_.out.below (Below.refl _ wc).drew)
  have HTZ:=Y0 (HT0.out.back HT.out HF.out.size)
  have HS1:Aside0 (B≤wc.drew.heap.size):=⟨Nat.le_trans HL0.out.2.1 HF.out.size⟩
  have HFD:=Y0 HF.out.drew
  have HTD:=Y0 HTZ.out.drew
  have HBW:Aside0 (B≤W.heap.size):=⟨HL0.out.2.1⟩
  have HMM:Aside0 (k68.M wc.drew B (fun k=>W.heap.size≤k) (⟨NM,r.1,pAt e s⟩:EnumS) [.string NM,.slice AV r.1.length cV,.int .i64 (pAt e s)]):=⟨k68_mkM _ _ _ _ (Kd.R_lower (Kd.R_mono (Kd.R_bound (Kd.R_drew HM.out.rV)) (fun k hk=>hk.2.1)) HBW.out)⟩
  have HOK:Aside0 (∀ k,W.heap.size≤k→True∧some k≠(Value.slice AE f.2.length cE).ownBlock):=⟨fun k hk=>⟨trivial,fun he=>by have:=Kd.R_lt HP0.out.rE k he.symm;omega⟩⟩
  clear n1_ HT HF HTZ
  refine start_ (n:=13) (S:=fun w'=>w'.cell? ⟨p,2,none⟩=some (.slice AE f.2.length cE)∧w'.cell? ⟨h,0,none⟩=some (.string NM)∧w'.cell? ⟨h,1,none⟩=some (.slice AV r.1.length cV)∧w'.cell? ⟨h,2,none⟩=some (.int .i64 (pAt e s))) (ds:=[8,12]) #[false,false,false,false,false,false,false,false,false,false,false,false,false] J0 rfl rfl ⟨hp1,y0,y1,y2⟩ (fun hHeld=>?_)
  generalize wc.drew=WD at *
  refine pure_ (i:=0) (N:=some 62) (v:=?_) (a':=?_) (sqB 13 1) rfl rfl J0 (fun _ _ _ h=>h) (Or.inl ⟨J19,?_⟩) ?_ ?_;rotate_left;intro w';go_simp;with_reducible rfl;rotate_left;simp only [Act.put,Y14,Y15,Y16,i64_w];rfl
  refine pure_ (i:=1) (N:=some 63) (v:=?_) (a':=?_) (sqB 13 3) rfl rfl J0 (fun _ _ _ h=>h) (Or.inl ⟨J19,?_⟩) ?_ ?_;rotate_left;intro w';go_simp;with_reducible rfl;rotate_left;simp only [Act.put,Y14,Y15,Y16,i64_w];rfl
  refine pure_ (i:=2) (N:=some 64) (v:=?_) (a':=?_) (sqB 13 7) rfl rfl J0 (fun _ _ _ h=>h) (Or.inl ⟨J19,?_⟩) ?_ ?_;rotate_left;intro w';go_simp;with_reducible rfl;rotate_left;simp only [Act.put,Y14,Y15,Y16,i64_w];rfl
  refine pure_ (i:=3) (N:=some 65) (v:=?_) (a':=?_) (sqB 13 15) rfl rfl J0 (fun _ _ _ h=>h) (Or.inl ⟨J19,?_⟩) ?_ ?_;rotate_left;intro w';go_simp;with_reducible rfl;rotate_left;simp only [Act.put,Y14,Y15,Y16,i64_w];rfl
  refine pure_ (i:=4) (N:=some 66) (v:=?_) (a':=?_) (sqB 13 31) rfl rfl J0 (fun _ _ _ h=>h) (Or.inl ⟨J19,?_⟩) ?_ ?_;rotate_left;intro w';go_simp;with_reducible rfl;rotate_left;simp only [Act.put,Y14,Y15,Y16,i64_w];rfl
  refine take_ (i:=5) (N:=some 67) (v:=?_) (a':=?_) (sqB 13 63) rfl rfl J0 (fun _ _ _ h=>h) (Or.inl ⟨J19,?_⟩) hHeld ?_ ?_;rotate_left;rintro w' ⟨s0,s1,s2,s3⟩;go_simp;with_reducible rfl;rotate_left;simp only [Act.put,Y14,Y15,Y16,i64_w];rfl
  refine take_ (i:=6) (N:=some 68) (v:=?_) (a':=?_) (sqB 13 127) rfl rfl J0 (fun _ _ _ h=>h) (Or.inl ⟨J19,?_⟩) hHeld ?_ ?_;rotate_left;rintro w' ⟨s0,s1,s2,s3⟩;go_simp;with_reducible rfl;rotate_left;simp only [Act.put,Y14,Y15,Y16,i64_w];rfl
  refine one_ (i:=7) (N:=some 69) (sqB 13 255) rfl rfl J0 J11 (fun K hK=>?_)
  refine value_ (w1:=?_) (v:=?_) J19 rfl ?_ ?_
  rotate_left 2
  ·go_simp
   constructor
   ·rfl
   ·rfl
  refine hK.out _ _ ⟨(pw_cell_below (below_alloc (Below.refl _ _) _) hHeld.1),(pw_cell_below (below_alloc (Below.refl _ _) _) hHeld.2.1),(pw_cell_below (below_alloc (Below.refl _ _) _) hHeld.2.2.1),(pw_cell_below (below_alloc (Below.refl _ _) _) hHeld.2.2.2)⟩ (fun hHeld=>?_)
  clear hK K
  refine norm_ (a':=?_) ?_ ?_;rotate_left;show Act.put _ (some 69) _=_;simp only [Act.put,Y14,Y15,Y16,i64_w];rfl
  refine last_ (i:=8) (N:=some 70) (sqB 13 511) rfl rfl J0 J11 (fun K hK=>?_)
  refine Kd.R_append_step k68 (w0:=WD) B J19 (.tmp 67) (.tmp 69) 24 68 (.agg #[(.string ⟨#[]⟩),(.slice none 0 0),(.int .i64 0)]) 48 rfl Tryz.underlying24 info68 rfl J11 J11 _ f.2 ⟨NM,r.1,pAt e s⟩ [.string NM,.slice AV r.1.length cV,.int .i64 (pAt e s)] (fun _=>True) (fun k=>W.heap.size≤k) rfl rfl HMM.out HOK.out (fun _ _=>trivial) HP.out.rE (Below.refl _ _) HS1.out J138 ?_
  intro v1 w1 hR1 _ hg1 _
  obtain ⟨A1,c1,hv1⟩:=Kd.R_slice hR1
  have hv2:v1 = .slice A1 (f.2.length + 1) c1:=by rw [hv1,List.length_append];rfl
  clear hv1
  subst hv2
  have HR1:=Y0 hR1
  have HG1:=Y0 hg1
  clear hR1 hg1
  have hf1:=blk_frozen (blk_grow HP.out.rE HP.out.blk J11 HG1.out) 2
  have hk1:=(blk_cell (blk_grow HP.out.rE HP.out.blk J11 HG1.out) 2).trans rfl
  refine hK.out _ _ ?_
  clear hK K
  refine norm_ (a':=?_) ?_ ?_;rotate_left;show Act.put _ (some 70) _=_;simp only [Act.put,Y14,Y15,Y16,i64_w];rfl
  refine pure_ (i:=9) (N:=some 71) (v:=?_) (a':=?_) (sqB 13 1023) rfl rfl J0 (fun _ _ _ h=>h) (Or.inl ⟨J19,?_⟩) ?_ ?_;rotate_left;intro w';go_simp;with_reducible rfl;rotate_left;simp only [Act.put,Y14,Y15,Y16,i64_w];rfl
  refine pure_ (i:=10) (N:=some 72) (v:=?_) (a':=?_) (sqB 13 2047) rfl rfl J0 (fun _ _ _ h=>h) (Or.inl ⟨J19,?_⟩) ?_ ?_;rotate_left;intro w';go_simp;with_reducible rfl;rotate_left;simp only [Act.put,Y14,Y15,Y16,i64_w];rfl
  refine pure_ (i:=11) (N:=some 73) (v:=?_) (a':=?_) (sqB 13 4095) rfl rfl J0 (fun _ _ _ h=>h) (Or.inl ⟨J19,?_⟩) ?_ ?_;rotate_left;intro w';go_simp;with_reducible rfl;rotate_left;simp only [Act.put,Y14,Y15,Y16,i64_w];rfl
  refine last_ (i:=12) (N:=none) (sqB 13 8191) rfl rfl J0 J11 (fun K hK=>?_)
  refine skip_ (w1:=?_) J19 rfl ?_ ?_
  rotate_left
  ·go_simp
   rfl
  refine hK.out _ _ ?_
  clear hK K
  refine done_ J0 ?_
  go_wp2_with fail
  go_end0
  have hq:=HP.out.appE HR1.out HG1.out
  refine ⟨rfl,(HTD.out.other (grown_below HP.out.rE HG1.out HS1.out)).setp (j:=1) hq.blk rfl,⟨_,_,hq⟩,fun B0 h1 h2 h3=>?_⟩
  exact ((HFD.out.below (Below.refl B0 W) (Nat.le_trans h1 HBW.out) h3).trans ((grown_below HP.out.rE HG1.out HS1.out).mono h1)).setCell (p:=⟨p,2,none⟩) h2 _
def PParseP (w:World) (f:FileS) (at_ en:Int) (e:Ending) (w':World):Prop :=
 ∃ v0 v1:Value,e = .returned (.tuple #[.agg #[v0,v1],.int .i64 at_,.int .i64 en])∧k34.R 34 w' w.heap.size (fun _=>True) v0 f.1∧k68.R 68 w' w.heap.size (fun _=>True) v1 f.2∧Below w.heap.size w w'
theorem pparse_ret {w V:World} {tmps:Array Value} {f:FileS} {a b:Int} {v0 v1:Value} (ht:tmps.getD 2 undef = .pointer (some ⟨w.heap.size,0,none⟩)) (h3:tmps.getD 3 undef = .int .i64 a) (h4:tmps.getD 4 undef = .int .i64 b)
  (hb:V.heap[w.heap.size]?=some (.cells #[v0,v1] 26 (0,0))) (hM:k34.R 34 V w.heap.size (fun _=>True) v0 f.1) (hE:k68.R 68 V w.heap.size (fun _=>True) v1 f.2) (h0:∃ A n c,v0 = .slice A n c) (h1:∃ A n c,v1 = .slice A n c) (hB:Below w.heap.size w V) :
  bodyPost Tryz.prog Tryz.f13 (PParseP w f a b) .ret { tmps:=tmps,defers:=[] } V:=by
 obtain ⟨A,n,c,rfl⟩:=h0
 obtain ⟨A',n',c',rfl⟩:=h1
 refine bodyPost_ret (results_ctt rfl _ _ w.heap.size 26 _ (0,0) _ ht hb Tryz.underlying26 rfl J0) rfl ⟨_,_,?_,hM,hE,hB⟩
 rw [h3,h4]
set_option maxRecDepth 100000 in
set_option maxHeartbeats 2000000 in
theorem pparse_err (s:ByteArray) (w:World) (hG:GInv w) (he:(allF s).2.2≠0):Calls Tryz.prog 13 #[.string s] w (PParseP w ([],[]) (allF s).2.1 (allF s).2.2):=by
 have HA:=Y0 (fun (W:World) (h:GInv W)=>token_All.calls s (allF s).1 (allF s).2.1 (allF s).2.2 W h rfl)
 have HG:=Y0 (hG.below (below_alloc (Below.refl _ w) (.cells #[.slice none 0 0,.slice none 0 0] 26 (0,0))))
 have hn:((allF s).2.2 != 0)=true:=bne_iff_ne.2 he
 clear he hG
 generalize (allF s).1=l at *
 generalize (allF s).2.1=p at *
 generalize (allF s).2.2=e at *
 go_enter Tryz.func13,Tryz.ntmps13
 go_wp2_with fail
 go_at_call 36
 refine (HA.out _ HG.out).mono ?_
 rintro e1 W1 ⟨v0,rfl,hR,hB⟩
 have hb0:=blk_below (blk_new w (.cells #[.slice none 0 0,.slice none 0 0] 26 (0,0))) hB
 have q0:_=some (Value.slice none 0 0):=(blk_cell hb0 0).trans rfl
 have q1:_=some (Value.slice none 0 0):=(blk_cell hb0 1).trans rfl
 have f0:=blk_frozen hb0 0
 have f1:=blk_frozen hb0 1
 have HB0:=Y0 hb0
 have HB:=Y0 (below_step (below_alloc (Below.refl _ w) _) hB)
 clear hR hB hb0
 go_wp2
 have k1:=blk_put (blk_put HB0.out 0 (.slice none 0 0) rfl) 1 (.slice none 0 0) rfl
 have k2:=(HB.out.setCell (p:=⟨w.heap.size,0,none⟩) (Nat.le_refl _) (.slice none 0 0)).setCell (p:=⟨w.heap.size,1,none⟩) (Nat.le_refl _) (.slice none 0 0)
 refine pparse_ret (f:=([],[])) ?_ ?_ ?_ k1 (Kd.R_nil _ _ _ _ _) (Kd.R_nil _ _ _ _ _) ⟨_,_,_,rfl⟩ ⟨_,_,_,rfl⟩ k2
 ·rfl
 ·rfl
 ·rfl
def PLoopI (w:World) (B p g:Nat) (L:TL) (e:Int) (f:FileS) (s:PS) (V:World):Prop:=TS B V p g L e s∧(∃ vM vE,PB B V p g f vM vE)∧Below (w.heap.size + 1) (w.alloc (.cells #[.slice none 0 0,.slice none 0 0] 26 (0,0))) V
theorem PLoopI.drawn {w V V':World} {B p g:Nat} {L:TL} {e:Int} {f:FileS} {s:PS} (h:PLoopI w B p g L e f s V) (hd:Drawn0 V V'):PLoopI w B p g L e f s V':=by
 obtain ⟨h1,⟨vM,vE,h2⟩,h3⟩:=h
 refine ⟨h1.drawn hd,⟨vM,vE,h2.below hd.below⟩,h3.trans ?_⟩
 obtain ⟨m,rfl⟩:=hd.out
 exact pw_below_drewN (Below.refl _ _) m
theorem PLoopI.drewN {w V:World} {B p g:Nat} {L:TL} {e:Int} {f:FileS} {s:PS} (h:PLoopI w B p g L e f s V) (m:Nat):PLoopI w B p g L e f s (V.drewN m):=h.drawn ((Drawn0.refl V).step m)
theorem PLoopI.setb {w V:World} {B p g:Nat} {L:TL} {e:Int} {f:FileS} {s:PS} (h:PLoopI w B p g L e f s V) (hg:w.heap.size + 1≤g):PLoopI w B p g L e f ⟨s.r,true⟩ (V.setCell ⟨g,3,none⟩ (.bool true)):=by
 obtain ⟨h1,⟨vM,vE,h2⟩,h3⟩:=h
 have hl:=h1.lens
 exact ⟨h1.setb,⟨vM,vE,h2.keep ((Fr.refl _ g V).set_ 3 _) hl.2.2.2.1 hl.2.2.2.2⟩,h3.setCell (p:=⟨g,3,none⟩) hg _⟩
theorem PLoopI.whole {w V:World} {B p g:Nat} {L:TL} {e:Int} {f:FileS} {s:PS} (h:PLoopI w B p g L e f s V):Below w.heap.size w V:=(below_alloc (Below.refl _ w) _).trans (h.2.2.mono (Nat.le_succ _))
theorem trow_of_C {W:World} {A:Option Addr} {l:List TokS} (h:k149.C W A l.length l):TRow W A l:=by
 intro j t hj
 have hlt:j < l.length:=(List.getElem?_eq_some_iff.1 hj).1
 obtain ⟨ad,ha,h0,h1,h2,h3⟩:=at_T149 h (j:Int) J7 J7
 rw [rd_at l j t hj,Int.toNat_natCast] at h0 h1 h2 h3
 exact ⟨ad,ha,h0,h1,h2,h3⟩
theorem trow_below {W W':World} {A:Option Addr} {l:List TokS} (h:TRow W A l) (hb:Below W.heap.size W W'):TRow W' A l:=by
 intro j t hj
 obtain ⟨ad,ha,h0,h1,h2,h3⟩:=h j t hj
 exact ⟨ad,ha,pw_cell_below hb h0,pw_cell_below hb h1,pw_cell_below hb h2,pw_cell_below hb h3⟩
theorem top1_bad (f:FileS) (e:Int) (s:PS):(pTop1 f e s).1.1.length + (pTop1 f e s).1.2.length≤f.1.length + f.2.length + 1:=by
 unfold pTop1
 split
 ·simp;omega
 ·split
  ·simp;omega
  ·simp
theorem pTop_done (n:Nat) (f:FileS) (e:Int) (s:PS) (h:s.b=true∨s.r=[]):pTop n f e s=(f,s):=by
 cases n with
 | zero=>rfl
 | succ n =>
  rw [pTop]
  rcases h with h|h
  ·rw [if_pos h]
  ·by_cases hb:s.b=true
   ·rw [if_pos hb]
   ·rw [if_neg hb,if_pos h]
set_option maxRecDepth 100000 in
set_option maxHeartbeats 4000000 in
theorem pparse_ok (s:ByteArray) (l:List TokS) (q:Int) (w:World) (hG:GInv w) (hA:token_All.f s=some (l,q,0)) (hl:l.length≤1000) (hs:s.size≤140737488351232):Calls Tryz.prog 13 #[.string s] w
  (PParseP w (if (pAll s.size l).2.b=true then ([],[]) else (pAll s.size l).1) (if (pAll s.size l).2.b=true then pAt s.size (pAll s.size l).2 else s.size) (if (pAll s.size l).2.b=true then 4 else 0)):=by
 have HA:=Y0 (fun (W:World) (h:GInv W)=>token_All.calls s l q 0 W h hA)
 have HG:=Y0 (hG.below (below_alloc (Below.refl _ w) (.cells #[.slice none 0 0,.slice none 0 0] 26 (0,0))))
 obtain ⟨e,he⟩:∃ e:Int,(s.size:Int)=e:=⟨_,rfl⟩
 have HE:=Y0 he
 obtain ⟨R,hR⟩:∃ R,pAll s.size l=R:=⟨_,rfl⟩
 have HR:Aside0 (pTop (l.length + 1) ([],[]) e ⟨l,false⟩=R):=⟨by rw [← he];exact hR⟩
 rw [hR]
 obtain ⟨ff,hff⟩:∃ ff:FileS,(if R.2.b=true then (([],[]):FileS) else R.1)=ff:=⟨_,rfl⟩
 obtain ⟨fa,hfa⟩:∃ fa:Int,(if R.2.b=true then pAt s.size R.2 else s.size)=fa:=⟨_,rfl⟩
 obtain ⟨fe,hfe⟩:∃ fe:Int,(if R.2.b=true then 4 else 0)=fe:=⟨_,rfl⟩
 rw [hff,hfa,hfe]
 have HFF:=Y0 hff
 have HFA:=Y0 hfa
 have HFE:=Y0 hfe
 clear hG hA hR he hff hfa hfe
 go_enter Tryz.func13,Tryz.ntmps13
 go_wp2_with fail
 go_at_call 36
 refine (HA.out _ HG.out).mono ?_
 rintro e1 W1 ⟨v0,rfl,hR,hB⟩
 have HB:=Y0 hB
 have HRT:=Y0 hR
 obtain ⟨A,c,rfl⟩:=Kd.R_slice hR
 clear hR hB HA
 go_upto_block 0 with (fail)
 have hz1:(w.alloc (.cells #[.slice none 0 0,.slice none 0 0] 26 (0,0))).heap.size=w.heap.size + 1:=World.size_alloc ..
 have hz2:(W1.alloc (.cells #[.slice A l.length c,.int .i64 (s.size:Int),.int .i64 0,.bool false] 77 (0,0))).heap.size=W1.heap.size + 1:=World.size_alloc ..
 have hb1:=below_alloc (Below.refl _ W1) (.cells #[.slice A l.length c,.int .i64 (s.size:Int),.int .i64 0,.bool false] 77 (0,0))
 have hn1:=blk_new W1 (.cells #[.slice A l.length c,.int .i64 (s.size:Int),.int .i64 0,.bool false] 77 (0,0))
 generalize W1.alloc (.cells #[.slice A l.length c,.int .i64 (s.size:Int),.int .i64 0,.bool false] 77 (0,0))=W2 at *
 have hz3:(W2.alloc (.cells #[.pointer (some ⟨W1.heap.size,0,none⟩),.slice none 0 0,.slice none 0 0] 79 (0,0))).heap.size=W2.heap.size + 1:=World.size_alloc ..
 have hb2:=below_alloc (Below.refl _ W2) (.cells #[.pointer (some ⟨W1.heap.size,0,none⟩),.slice none 0 0,.slice none 0 0] 79 (0,0))
 have hn2:=blk_new W2 (.cells #[.pointer (some ⟨W1.heap.size,0,none⟩),.slice none 0 0,.slice none 0 0] 79 (0,0))
 have hn3:=blk_below hn1 hb2
 generalize W2.alloc (.cells #[.pointer (some ⟨W1.heap.size,0,none⟩),.slice none 0 0,.slice none 0 0] 79 (0,0))=V0 at *
 rw [hz2] at hn2 hz3
 obtain ⟨p,hp⟩:∃ p,W1.heap.size + 1=p:=⟨_,rfl⟩
 obtain ⟨g,hg⟩:∃ g,W1.heap.size=g:=⟨_,rfl⟩
 rw [hp] at hn2 hz3 ⊢
 rw [hg] at hn2 hn3 ⊢
 have hbW:=below_step hb1 (hb2)
 have hlw:w.heap.size + 1≤g:=by have:=HB.out.size;rw [hz1] at this;omega
 have HLW:=Y0 hlw
 have HPG:Aside0 (p=g + 1):=⟨J7⟩
 have HZ0:Aside0 (V0.heap.size=g + 2):=⟨J7⟩
 have hts:TS V0.heap.size V0 p g ⟨l,A,c⟩ e ⟨l,false⟩:=by
  refine ⟨0,rfl,?_,?_,?_,?_,?_,?_,?_,hl,Nat.zero_le _,(Kd.R_reads' HRT.out).2.1,Nat.le_refl _⟩
  ·rw [← HE.out];exact hn3
  ·exact (blk_cell hn2 0).trans rfl
  ·exact trow_below (trow_of_C (Kd.R_reads' HRT.out).2.2) hbW
  ·omega
  ·omega
  ·omega
  ·intro ad ha
   have:=Kd.R_lt HRT.out ad.block (by rw [show A=some ad from ha];rfl)
   exact ⟨J7,J7,J7⟩
 have hpb:PB V0.heap.size V0 p g ([],[]) (.slice none 0 0) (.slice none 0 0):=⟨hn2,Kd.R_nil _ _ _ _ _,Kd.R_nil _ _ _ _ _⟩
 have hbl:Below (w.heap.size + 1) (w.alloc (.cells #[.slice none 0 0,.slice none 0 0] 26 (0,0))) V0:=by
  have h1:=HB.out.mono (Nat.le_of_eq hz1.symm)
  exact h1.trans (hbW.mono J7)
 have HI:=Y0 (show PLoopI w V0.heap.size p g ⟨l,A,c⟩ e ([],[]) ⟨l,false⟩ V0 from ⟨hts,⟨_,_,hpb⟩,hbl⟩)
 clear hz1 hz2 hz3 hb1 hb2 hn1 hn2 hn3 hts hpb hbl hbW hp hg HB HRT hlw HG
 obtain ⟨B,hB⟩:∃ B,V0.heap.size=B:=⟨_,rfl⟩
 rw [hB] at HI HZ0
 clear hB
 obtain ⟨L,hL⟩:∃ L,(⟨l,A,c⟩:TL)=L:=⟨_,rfl⟩
 rw [hL] at HI
 clear hL
 go_cut [8] (fun v8 V=>v8 = .pointer (some ⟨p,0,none⟩)∧Aside0 (PLoopI w B p g L e R.1 R.2 V))
 case first =>
  go_wp2
  go_loopg [27] (l.length + 1) (fun n _ V=>∃ (f1:FileS) (s1:PS),Aside0 (PLoopI w B p g L e f1 s1 V)∧Aside0 (pTop n f1 e s1=R)∧Aside0 (mu s1≤n∧f1.1.length + f1.2.length + n≤2000))
  case atStart=>exact ⟨([],[]),⟨l,false⟩,HI,HR,⟨Nat.le_refl _,J129⟩⟩
  case round =>
   clear HI HR
   obtain ⟨f1,s1,HI,HR,HN⟩:=hrel
   have hc:=HI.out.1.par
   obtain ⟨k,hr,hk⟩:=HI.out.1
   have c0:_=some (Value.slice _ _ _):=(blk_cell hk.blk 0).trans rfl
   have c2:_=some (Value.int .i64 _):=(blk_cell hk.blk 2).trans rfl
   have c3:_=some (Value.bool _):=(blk_cell hk.blk 3).trans rfl
   have hkn:=hk.hn
   have hll:=hk.len
   have HRR:=Y0 hr
   clear hr hk
   cases hb:s1.b with
   | true =>
    rw [hb] at c3
    have HX:Aside0 (R=(f1,s1)):=⟨by rw [← HR.out];exact pTop_done _ _ _ _ (.inl hb)⟩
    clear hb HR
    go_wp2
    go_quiet (fail)
    go_wp2
    go_meet
    exact ⟨rfl,⟨by rw [HX.out];exact PLoopI.drewN HI.out _⟩⟩
   | false =>
    rw [hb] at c3
    by_cases hlt:k < L.l.length
    ·have d1:decide ((k:Int) < (L.l.length:Int))=true:=decide_eq_true J7
     have d2:decide (k < L.l.length)=true:=decide_eq_true hlt
     have hne:s1.r≠[]:=by rw [HRR.out,drop_here hlt];exact List.cons_ne_nil _ _
     cases gk with
     | zero =>
      have:=mu_zero s1 J105
      rw [hb] at this
      cases this
     | succ k1 =>
      have hR2:=HR.out
      rw [pTop,if_neg J134,if_neg hne] at hR2
      have HX:=Y0 hR2
      have HMU:=Y0 ((top1_good f1).mu_lt e s1 hb)
      have HSZ:=Y0 (top1_bad f1 e s1)
      clear hR2 HR hne hb
      go_wp2
      go_quiet (fail)
      have HI2:=Y0 (PLoopI.drewN HI.out nq)
      clear HI hc c0 c2 c3 d1 d2 hkn hll
      generalize wr.drewN nq=V1 at *
      have hc:=HI2.out.1.par
      by_cases hm:pIs 0 0 wMsg s1=true
      ·have H1:=Y0 (show pIs 0 0 (bl ⟨#[109,101,115,115,97,103,101]⟩) s1=true from hm)
       have HT1:Aside0 (pTop1 f1 e s1=((f1.1++[(pMsg e s1).1],f1.2),(pMsg e s1).2)):=⟨by unfold pTop1;rw [if_pos hm]⟩
       clear hm
       rw [HT1.out] at HX HMU HSZ
       go_wp2_with fail
       go_at_call 37
       refine (is0_b HI2.out.1 H1.out).mono ?_
       rintro en_ V2 ⟨rfl,hd⟩
       have HI3:=Y0 (PLoopI.drawn HI2.out hd)
       clear hc hd HI2
       go_wp2_with fail
       go_at_call 38
       obtain ⟨vM,vE,hpb⟩:=HI3.out.2.1
       refine (message_s HI3.out.1 hpb J105).mono ?_
       rintro en_ V3 ⟨rfl,h1,h2,h3⟩
       have HI4:=Y0 (show PLoopI w B p g L e (f1.1++[(pMsg e s1).1],f1.2) (pMsg e s1).2 V3 from ⟨h1,h2,HI3.out.2.2.trans (h3 _ (by have:=HZ0.out;have:=HLW.out;omega) (by have:=HPG.out;have:=HLW.out;omega) HLW.out)⟩)
       clear h1 h2 h3 hpb HI3
       go_wp2_with fail
       go_roundg k1
       case measure=>omega
       case rel=>exact ⟨_,_,HI4,HX,⟨J131,J130⟩⟩
      ·have H1:=Y0 (show pIs 0 0 (bl ⟨#[109,101,115,115,97,103,101]⟩) s1=false from Bool.eq_false_iff.2 hm)
       by_cases hen:pIs 0 0 wEnum s1=true
       ·have H2:=Y0 (show pIs 0 0 (bl ⟨#[101,110,117,109]⟩) s1=true from hen)
        have HT1:Aside0 (pTop1 f1 e s1=((f1.1,f1.2++[(pEnum e s1).1]),(pEnum e s1).2)):=⟨by unfold pTop1;rw [if_neg hm,if_pos hen]⟩
        clear hm hen
        rw [HT1.out] at HX HMU HSZ
        go_wp2_with fail
        go_at_call 37
        refine (is0_b HI2.out.1 H1.out).mono ?_
        rintro en_ V2 ⟨rfl,hd⟩
        have HI3:=Y0 (PLoopI.drawn HI2.out hd)
        clear hc hd HI2
        have hc:=HI3.out.1.par
        go_wp2_with fail
        go_at_call 37
        refine (is0_b HI3.out.1 H2.out).mono ?_
        rintro en_ V4 ⟨rfl,hd⟩
        have HI5:=Y0 (PLoopI.drawn HI3.out hd)
        clear hc hd HI3
        go_wp2_with fail
        go_at_call 39
        obtain ⟨vM,vE,hpb⟩:=HI5.out.2.1
        refine (enum_s HI5.out.1 hpb J105).mono ?_
        rintro en_ V3 ⟨rfl,h1,h2,h3⟩
        have HI4:=Y0 (show PLoopI w B p g L e (f1.1,f1.2++[(pEnum e s1).1]) (pEnum e s1).2 V3 from ⟨h1,h2,HI5.out.2.2.trans (h3 _ (by have:=HZ0.out;have:=HLW.out;omega) (by have:=HPG.out;have:=HLW.out;omega) HLW.out)⟩)
        clear h1 h2 h3 hpb HI5
        go_wp2_with fail
        go_roundg k1
        case measure=>omega
        case rel=>exact ⟨_,_,HI4,HX,⟨J131,J130⟩⟩
       ·have H2:=Y0 (show pIs 0 0 (bl ⟨#[101,110,117,109]⟩) s1=false from Bool.eq_false_iff.2 hen)
        have HT1:Aside0 (pTop1 f1 e s1=(f1,⟨s1.r,true⟩)):=⟨by unfold pTop1;rw [if_neg hm,if_neg hen]⟩
        clear hm hen
        rw [HT1.out] at HX HMU HSZ
        go_wp2_with fail
        go_at_call 37
        refine (is0_b HI2.out.1 H1.out).mono ?_
        rintro en_ V2 ⟨rfl,hd⟩
        have HI3:=Y0 (PLoopI.drawn HI2.out hd)
        clear hc hd HI2
        have hc:=HI3.out.1.par
        go_wp2_with fail
        go_at_call 37
        refine (is0_b HI3.out.1 H2.out).mono ?_
        rintro en_ V4 ⟨rfl,hd⟩
        have HI5:=Y0 (PLoopI.drawn HI3.out hd)
        clear hc hd HI3
        have hc:=HI5.out.1.par
        have c3:=HI5.out.1.bad
        have f3:V4.frozen? ⟨g,3,none⟩=false:=by obtain ⟨n_,_,hh⟩:=HI5.out.1;exact blk_frozen hh.blk 3
        go_wp2_with fail
        have HI4:=Y0 (PLoopI.setb HI5.out (by have:=HLW.out;omega))
        go_roundg k1
        case measure=>omega
        case rel=>exact ⟨_,_,HI4,HX,⟨J131,J130⟩⟩
    ·have d1:decide ((k:Int) < (L.l.length:Int))=false:=decide_eq_false J7
     have d2:decide (k < L.l.length)=false:=decide_eq_false hlt
     have HX:Aside0 (R=(f1,s1)):=⟨by rw [← HR.out];exact pTop_done _ _ _ _ (.inr (by rw [HRR.out,List.drop_of_length_le J7]))⟩
     clear hb HR
     go_wp2
     go_quiet (fail)
     go_wp2
     go_meet
     exact ⟨rfl,⟨by rw [HX.out];exact PLoopI.drewN HI.out _⟩⟩
 case rest =>
  obtain ⟨rfl,HI⟩:=hcut
  have hc:=HI.out.1.par
  have c3:=HI.out.1.bad
  have HRB:=Y0 ((HI.out.2.2.block w.heap.size (Nat.lt_succ_self _)).trans (blk_new w (.cells #[.slice none 0 0,.slice none 0 0] 26 (0,0))))
  cases hb:R.2.b with
  | true =>
   rw [hb] at c3
   have H1:Aside0 (([],[])=ff):=⟨by rw [← HFF.out,if_pos hb]⟩
   have H2:Aside0 (pAt e R.2=fa):=⟨by rw [← HFA.out,if_pos hb,HE.out]⟩
   have H3:Aside0 ((4:Int)=fe):=⟨by rw [← HFE.out,if_pos hb]⟩
   clear hb
   go_wp2_with fail
   go_at_call 40
   refine (at_s HI.out.1).mono ?_
   rintro en_ V2 ⟨rfl,hd⟩
   have HI3:=Y0 (PLoopI.drawn HI.out hd)
   have hb0:V2.heap[w.heap.size]?=_:=(by obtain ⟨m_,rfl⟩:=hd.out;exact HRB.out)
   have q0:_=some (Value.slice none 0 0):=(blk_cell hb0 0).trans rfl
   have q1:_=some (Value.slice none 0 0):=(blk_cell hb0 1).trans rfl
   have f0:=blk_frozen hb0 0
   have f1:=blk_frozen hb0 1
   have HB0:=Y0 hb0
   clear hd hc c3 hb0
   go_wp2
   have k1:=blk_put (blk_put HB0.out 0 (.slice none 0 0) rfl) 1 (.slice none 0 0) rfl
   have hbw:=PLoopI.whole HI3.out
   have k2:=(hbw.setCell (p:=⟨w.heap.size,0,none⟩) (Nat.le_refl _) (.slice none 0 0)).setCell (p:=⟨w.heap.size,1,none⟩) (Nat.le_refl _) (.slice none 0 0)
   rw [← H1.out,← H2.out,← H3.out]
   refine pparse_ret (f:=([],[])) ?_ ?_ ?_ k1 (Kd.R_nil _ _ _ _ _) (Kd.R_nil _ _ _ _ _) ⟨_,_,_,rfl⟩ ⟨_,_,_,rfl⟩ k2
   ·rfl
   ·rfl
   ·rfl
  | false =>
   rw [hb] at c3
   have H1:Aside0 (R.1=ff):=⟨by rw [← HFF.out,if_neg J134]⟩
   have H2:Aside0 (e=fa):=⟨by rw [← HFA.out,if_neg J134,HE.out]⟩
   have H3:Aside0 ((0:Int)=fe):=⟨by rw [← HFE.out,if_neg J134]⟩
   clear hb
   obtain ⟨vM,vE,hpb⟩:=HI.out.2.1
   obtain ⟨AM,cM,rfl⟩:=Kd.R_slice hpb.rM
   obtain ⟨AE,cE,rfl⟩:=Kd.R_slice hpb.rE
   have p1:wc.cell? ⟨p,1,none⟩=some (.slice AM R.1.1.length cM):=(blk_cell hpb.blk 1).trans rfl
   have p2:wc.cell? ⟨p,2,none⟩=some (.slice AE R.1.2.length cE):=(blk_cell hpb.blk 2).trans rfl
   have q0:wc.cell? ⟨w.heap.size,0,none⟩=some (.slice none 0 0):=(blk_cell HRB.out 0).trans rfl
   have q1:wc.cell? ⟨w.heap.size,1,none⟩=some (.slice none 0 0):=(blk_cell HRB.out 1).trans rfl
   have f0:=blk_frozen HRB.out 0
   have f1:=blk_frozen HRB.out 1
   have HPB:=Y0 hpb
   clear hpb
   go_wp2
   have k0:=blk_put (cs':=#[.slice AM R.1.1.length cM,.slice none 0 0]) HRB.out 0 (.slice AM R.1.1.length cM) rfl
   have k1:=blk_put (cs':=#[.slice AM R.1.1.length cM,.slice AE R.1.2.length cE]) k0 1 (.slice AE R.1.2.length cE) rfl
   have k2:=((PLoopI.whole HI.out).setCell (p:=⟨w.heap.size,0,none⟩) (Nat.le_refl _) (.slice AM R.1.1.length cM)).setCell (p:=⟨w.heap.size,1,none⟩) (Nat.le_refl _) (.slice AE R.1.2.length cE)
   have hwB:w.heap.size≤B:=by have:=HZ0.out;have:=HLW.out;omega
   rw [← H1.out]
   refine pparse_ret (f:=R.1) ?_ ?_ ?_ k1 (Kd.R_lower (Kd.R_set (Kd.R_set HPB.out.rM HRB.out J11 0 _) k0 J11 1 _) hwB) (Kd.R_lower (Kd.R_set (Kd.R_set HPB.out.rE HRB.out J11 0 _) k0 J11 1 _) hwB) ⟨_,_,_,rfl⟩ ⟨_,_,_,rfl⟩ k2
   ·rfl
   ·show Value.int .i64 (s.size:Int) = .int .i64 fa
    rw [← H2.out,HE.out]
   ·show Value.int .i64 0 = .int .i64 fe
    rw [← H3.out]
def proto_Parse.f (a0:ByteArray):Option (List (S34) × List (S68) × Int × Int):=some ((parseF a0).1.1,(parseF a0).1.2,(parseF a0).2.1,(parseF a0).2.2)
theorem proto_Parse.calls (a0:ByteArray) (r1:List (S34)) (r2:List (S68)) (r3 r4:Int) (w:World) (hG:GInv w) (h:proto_Parse.f a0=some (r1,r2,r3,r4)) :
  Calls Tryz.prog 13 #[.string a0] w fun e w'=>∃ v0_ v1_:Value,e = .returned (.tuple #[.agg #[v0_,v1_],.int .i64 r3,.int .i64 r4])∧Kd.R k34 34 w' w.heap.size (fun _=>True) v0_ r1∧Kd.R k68 68 w' w.heap.size (fun _=>True) v1_ r2∧Below w.heap.size w w':=by
 have hp:Calls Tryz.prog 13 #[.string a0] w (PParseP w (parseF a0).1 (parseF a0).2.1 (parseF a0).2.2):=by
  by_cases he:(allF a0).2.2=0
  ·have hsz:a0.size≤5000:=by
    by_cases hb:5000 < a0.size
    ·exact absurd he (allF_big a0 hb)
    ·omega
   have e:parseF a0=(if (pAll a0.size (allF a0).1).2.b=true then ([],[]) else (pAll a0.size (allF a0).1).1,if (pAll a0.size (allF a0).1).2.b=true then pAt a0.size (pAll a0.size (allF a0).1).2 else a0.size,if (pAll a0.size (allF a0).1).2.b=true then 4 else 0):=by
    unfold parseF
    rw [if_neg (by rw [he];decide)]
    by_cases hb:(pAll a0.size (allF a0).1).2.b=true
    ·rw [if_pos hb,if_pos hb,if_pos hb,if_pos hb]
    ·rw [if_neg hb,if_neg hb,if_neg hb,if_neg hb]
   rw [e]
   refine pparse_ok a0 (allF a0).1 (allF a0).2.1 w hG ?_ (allF_len a0) J7
   unfold token_All.f
   rw [← he]
  ·have e:parseF a0=(([],[]),(allF a0).2.1,(allF a0).2.2):=by unfold parseF;rw [if_pos he]
   rw [e]
   exact pparse_err a0 w hG he
 unfold proto_Parse.f at h
 simp only [Option.some.injEq,Prod.mk.injEq] at h
 obtain ⟨rfl,rfl,rfl,rfl⟩:=h
 exact hp
end Go.Proofs.YtddpjjhekhompaaGreatDoor.P
