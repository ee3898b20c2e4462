/- Part 5 of what the law TableMore leans on: contracts of the functions that it reaches, and plain lemmas. No condition. -/
import Derived.Maps.OwnSet
import Derived.Maps.Views
import Derived.Maps.StringElems
import Derived.StringKeys
import Derived.Maps.RangeWalk
import Derived.Outline
import Derived.Test.YtddpjjhekhompaaGreatDoorMTableMore4
namespace Go.Proofs.YtddpjjhekhompaaGreatDoor.P
open Go.RowKit Go.Proofs.YtddpjjhekhompaaGreatDoorW.PrintWords Go.Proofs.YtddpjjhekhompaaGreatDoorW.PrintLast Go.Proofs.YtddpjjhekhompaaGreatDoorW.PrintMore
attribute [local go_sem] max2_int max_two
set_option linter.unusedVariables false
set_option linter.unusedSimpArgs false
def GM {κ β:Type} (kt:TypeId) (kl:κ→Lit) (R:Value→Option (DataW Unit × List MemPlace)) (enc:β→DataW Unit) (W:World) (mb n:Nat) (f:κ→Option β):Prop :=
 ∃ D,W.ownsMap Tryz.prog kt R mb n D∧∀ x z,D.atKey (kl x) z=((f x).map enc).getD z
structure KeyK {κ:Type} (kt:TypeId) (kl:κ→Lit):Prop where
 keyed:Maps.Keyed Tryz.prog kt
 inj:∀ x y,kl x=kl y→x=y
 lit:∀ x,WideAt.IsKeyLit (kl x)
 all:∀ l,Maps.KeysOf Tryz.prog kt l→∃ x,l=kl x
section
variable {κ β:Type} {kt:TypeId} {kl:κ→Lit} {R:Value→Option (DataW Unit × List MemPlace)} {enc:β→DataW Unit} {W:World} {mb n:Nat} {f:κ→Option β}
theorem GM.made (W:World):GM kt kl R enc (W.alloc (.map #[] 0)) W.heap.size 0 (fun _=>none):=⟨.map [],World.ownsMap_made _ _ _ _,fun _ _=>rfl⟩
theorem GM.is (h:GM kt kl R enc W mb n f):∃ es c,W.heap[mb]?=some (.map es c):=by
 obtain ⟨D,⟨es,c,hb,_⟩,_⟩:=h
 exact ⟨es,c,hb⟩
theorem GM.lt (h:GM kt kl R enc W mb n f):mb < W.heap.size:=by
 obtain ⟨D,hD,_⟩:=h
 exact hD.lt
theorem GM.move {W':World} (h:GM kt kl R enc W mb n f) (hb:W'.heap[mb]?=W.heap[mb]?):GM kt kl R enc W' mb n f:=by
 obtain ⟨D,⟨es,c,h1,h2⟩,h3⟩:=h
 exact ⟨D,⟨es,c,hb.trans h1,h2⟩,h3⟩
theorem GM.below {W':World} (h:GM kt kl R enc W mb n f) (hb:Below W.heap.size W W'):GM kt kl R enc W' mb n f:=h.move (hb.block mb h.lt)
theorem GM.grown {W':World} {row:Option Nat} (h:GM kt kl R enc W mb n f) (hg:W.grownBy W' row) (hne:some mb≠row):GM kt kl R enc W' mb n f:=h.move (hg.block mb h.lt hne)
theorem GM.mono {n':Nat} {f':κ→Option β} (h:GM kt kl R enc W mb n f) (hn:n≤n') (hf:∀ x,f x=f' x):GM kt kl R enc W mb n' f':=by
 obtain ⟨D,hD,h3⟩:=h
 exact ⟨D,hD.mono hn,fun x z=>by rw [h3,hf]⟩
theorem GM.has {D:DataW Unit} (h:∀ x z,D.atKey (kl x) z=((f x).map enc).getD z) (x:κ):Maps.has D (kl x)=(f x).isSome:=by
 cases hf:f x with
 | none=>exact Maps.has_false_of_atKey fun z=>by rw [h,hf];rfl
 | some y=>exact Maps.has_true_of_atKey (y:=enc y) fun z=>by rw [h,hf];rfl
theorem GM.look {t e:TypeId} (h:GM kt kl R enc W mb n f) (K:KeyK kt kl) (ht:Tryz.prog.underlying t=some (.map kt e)) {z:Value} (hz:(zeroValue e).run Tryz.prog W = .ok z W) {zd:DataW Unit} {zp:List MemPlace} (hzd:R z=some (zd,zp)) {key:Value} {x:κ} (hkey:keyOf Tryz.prog kt key=some (kl x)) :
  ∃ v ps,(Instr.lookup t (.map (some mb)) key false).run Tryz.prog W = .ok v W∧R v=some (((f x).map enc).getD zd,ps):=by
 obtain ⟨D,hD,hf⟩:=h
 obtain ⟨v,ps,h1,h2⟩:=hD.lookup K.keyed ht hz hzd hkey
 exact ⟨v,ps,h1,by rw [h2,hf]⟩
theorem GM.look_ok {t e:TypeId} (h:GM kt kl R enc W mb n f) (K:KeyK kt kl) (ht:Tryz.prog.underlying t=some (.map kt e)) {z:Value} (hz:(zeroValue e).run Tryz.prog W = .ok z W) {zd:DataW Unit} {zp:List MemPlace} (hzd:R z=some (zd,zp)) {key:Value} {x:κ} (hkey:keyOf Tryz.prog kt key=some (kl x)) :
  ∃ v ps,(Instr.lookup t (.map (some mb)) key true).run Tryz.prog W = .ok (.tuple #[v,.bool (f x).isSome]) W∧R v=some (((f x).map enc).getD zd,ps):=by
 obtain ⟨D,hD,hf⟩:=h
 obtain ⟨v,ps,h1,h2⟩:=hD.look_ok K.keyed ht hz hzd hkey
 rw [GM.has hf] at h1
 exact ⟨v,ps,h1,by rw [h2,hf]⟩
theorem GM.put [DecidableEq κ] {t e:TypeId} (h:GM kt kl R enc W mb n f) (K:KeyK kt kl) (ht:Tryz.prog.underlying t=some (.map kt e)) (hn:n < maxLen) {key val:Value} {x:κ} {y:β} {ps:List MemPlace} (hkey:keyOf Tryz.prog kt key=some (kl x)) (hv:R val=some (enc y,ps)) :
  ∃ W',(Instr.mapUpdate t (.map (some mb)) key val).run Tryz.prog W = .ok () W'∧GM kt kl R enc W' mb (n + 1) (fun q=>if q=x then some y else f q)∧W.grownBy W' (some mb):=by
 obtain ⟨D,hD,hf⟩:=h
 obtain ⟨W',h1,h2,h3⟩:=hD.update K.keyed ht hn hkey hv
 refine ⟨W',h1,⟨_,h2,fun q z=>?_⟩,h3⟩
 by_cases e:q=x
 ·subst e
  rw [Maps.atKey_put_same hD.isMap (K.lit q)]
  simp
 ·rw [Maps.atKey_put_other (fun h=>e (K.inj _ _ h)),hf]
  simp [e]
theorem GM.del [DecidableEq κ] {t e:TypeId} (h:GM kt kl R enc W mb n f) (K:KeyK kt kl) (ht:Tryz.prog.underlying t=some (.map kt e)) {key:Value} {x:κ} (hkey:keyOf Tryz.prog kt key=some (kl x)) (ty:TypeId) :
  ∃ W',(Builtin.delete_ #[t,kt] ty #[.map (some mb),key]).run Tryz.prog W = .ok (.tuple #[]) W'∧GM kt kl R enc W' mb n (fun q=>if q=x then none else f q)∧W.grownBy W' (some mb):=by
 obtain ⟨D,hD,hf⟩:=h
 obtain ⟨W',h1,h2,h3⟩:=hD.drop K.keyed ht hkey ty
 refine ⟨W',h1,⟨_,h2,fun q z=>?_⟩,h3.grown⟩
 by_cases e:q=x
 ·subst e
  rw [Maps.atKey_del_same]
  simp
 ·rw [Maps.atKey_del_other (fun h=>e (K.inj _ _ h)),hf]
  simp [e]
theorem GM.len {t e:TypeId} (h:GM kt kl R enc W mb n f) (K:KeyK kt kl) (ht:Tryz.prog.underlying t=some (.map kt e)) (ty:TypeId) :
  ∃ N:Nat,(Builtin.len_ #[t] ty #[.map (some mb)]).run Tryz.prog W = .ok (.int .i64 N) W∧(N=0↔∀ x,f x=none)∧N≤n:=by
 obtain ⟨D,hD,hf⟩:=h
 refine ⟨Maps.size D,hD.len ht ty,?_,hD.size_le⟩
 have hh:=fun x=>GM.has hf x
 obtain ⟨es,c,hb,F,_,rfl⟩:=hD
 constructor
 ·intro h0 x
  have h1:=hh x
  cases hl:(es.toList.map (WideElems.rg Tryz.prog kt R)).foldr DataW.insert [] with
  | nil =>
   rw [hl] at h1
   cases hfx:f x with
   | none=>rfl
   | some y=>rw [hfx] at h1;cases h1
  | cons p r=>rw [hl] at h0;cases h0
 ·intro hall
  cases hl:(es.toList.map (WideElems.rg Tryz.prog kt R)).foldr DataW.insert [] with
  | nil=>rfl
  | cons p r =>
   exfalso
   have hm:p ∈ (es.toList.map (WideElems.rg Tryz.prog kt R)).foldr DataW.insert []:=by rw [hl];simp
   have hm2:=mem_sorted.1 hm
   obtain ⟨x,hx⟩:=K.all _ (Maps.fit_keys F p hm2)
   have h1:=hh x
   rw [hall x,hl,← hx] at h1
   rw [Maps.has_eq,List.any_cons,WideAt.sameKey_self (by rw [hx];exact K.lit x)] at h1
   cases h1
end
def slit (x:List UInt8):Lit:=.string x
def nlit (q:Int):Lit:=.int .i64 q
theorem tb_str:Tryz.prog.underlying 9=some .string:=by kernel_rfl
theorem tb_int:Tryz.prog.underlying 3=some (.int .i64):=by kernel_rfl
theorem tb_i64:Tryz.prog.underlying 2=some (.int .i64):=by kernel_rfl
theorem tb_bool:Tryz.prog.underlying 4=some .bool:=by kernel_rfl
theorem key_str:KeyK 9 slit:=by
 refine ⟨Maps.string_keyed tb_str,fun x y h=>?_,fun _=>trivial,fun l hl=>?_⟩
 ·injection h
 ·obtain ⟨key,hk⟩:=hl
  rw [keyOf_string tb_str] at hk
  cases key <;> simp [mapKey] at hk
  rename_i s
  exact ⟨_,hk.2.symm⟩
theorem key_i64:KeyK 2 nlit:=by
 refine ⟨Maps.int_keyed tb_i64,fun x y h=>?_,fun _=>trivial,fun l hl=>?_⟩
 ·injection h
 ·obtain ⟨key,hk⟩:=hl
  obtain ⟨x,_,h2,_⟩:=Maps.keyOf_int_inv tb_i64 hk
  exact ⟨x,h2⟩
theorem at_str {s:ByteArray} (hs:s.size≤maxLen):keyOf Tryz.prog 9 (.string s)=some (slit (bl s)):=WideMaps.keyOf_string_mk tb_str hs
theorem at_i64 {q:Int} (hq:(Lit.int .i64 q).wf=true):keyOf Tryz.prog 2 (.int .i64 q)=some (nlit q):=Maps.keyOf_int_mk tb_i64 hq
def wI64:List UInt8:=[105,110,116,54,52]
def wS64:List UInt8:=[115,105,110,116,54,52]
def wU32:List UInt8:=[117,105,110,116,51,50]
def wBool:List UInt8:=[98,111,111,108]
def wF32:List UInt8:=[102,105,120,101,100,51,50]
def wF64:List UInt8:=[115,102,105,120,101,100,54,52]
def wStr:List UInt8:=[115,116,114,105,110,103]
def wByt:List UInt8:=[98,121,116,101,115]
def typO (x:List UInt8):Option Int:=if x=wByt then some 8 else if x=wStr then some 7 else if x=wF64 then some 5 else if x=wF32 then some 4 else if x=wBool then some 3 else if x=wU32 then some 2 else if x=wS64 then some 1 else if x=wI64 then some 0 else none
def eInt (q:Int):DataW Unit:=.lit (.int .i64 q)
abbrev PMap (W:World) (mb n:Nat) (f:List UInt8→Option Int):Prop:=GM 9 slit (plainElem Tryz.prog 3) eInt W mb n f
theorem tb_mSI:Tryz.prog.underlying 114=some (.map 9 3):=by kernel_rfl
theorem tb_zInt (w:World):(zeroValue 3).run Tryz.prog w = .ok (.int .i64 0) w:=by kernel_rfl
theorem eInt_el {q:Int} (h:(Lit.int .i64 q).wf=true):plainElem Tryz.prog 3 (.int .i64 q)=some (eInt q,[]):=plainElem_int tb_int h
theorem PMap.look_ok {W:World} {mb n:Nat} {f:List UInt8→Option Int} (h:PMap W mb n f) {s:ByteArray} (hs:s.size≤maxLen) :
  (Instr.lookup 114 (.map (some mb)) (.string s) true).run Tryz.prog W = .ok (.tuple #[.int .i64 ((f (bl s)).getD 0),.bool (f (bl s)).isSome]) W:=by
 obtain ⟨v,ps,h1,h2⟩:=GM.look_ok h key_str tb_mSI (tb_zInt W) (eInt_el J11) (at_str hs)
 obtain ⟨a,rfl,h3,_⟩:=plainElem_int_inv tb_int h2
 have h4:(f (bl s)).getD 0=a:=by
  cases hf:f (bl s) with
  | none =>
   rw [hf] at h3
   simp [eInt] at h3
   exact h3.1
  | some y =>
   rw [hf] at h3
   simp [eInt] at h3
   exact h3.1
 rw [h4]
 exact h1
theorem PMap.put {W:World} {mb n:Nat} {f:List UInt8→Option Int} (h:PMap W mb n f) (hn:n < maxLen) {s:ByteArray} (hs:s.size≤maxLen) {q:Int} (hq:(Lit.int .i64 q).wf=true) :
  ∃ W',(Instr.mapUpdate 114 (.map (some mb)) (.string s) (.int .i64 q)).run Tryz.prog W = .ok () W'∧PMap W' mb (n + 1) (fun x=>if x=bl s then some q else f x)∧W.grownBy W' (some mb) :=
 GM.put h key_str tb_mSI hn (at_str hs) (eInt_el hq)
def PlainP (w:World) (e:Ending) (w':World):Prop:=e = .returned (.map (some w.heap.size))∧PMap w' w.heap.size 8 typO∧Below w.heap.size w w'
set_option maxHeartbeats 4000000 in
theorem tplain_s (w:World):Calls Tryz.prog 59 #[] w (PlainP w):=by
 have g0:PMap (w.alloc (.map #[] 0)) w.heap.size 0 (fun _=>none):=GM.made w
 have b0:=below_alloc (Below.refl w.heap.size w) (.map #[] 0)
 have z0:(w.alloc (.map #[] 0)).heap.size=w.heap.size + 1:=World.size_alloc _ _
 have hm:maxLen=140737488355328∨100 < maxLen:=.inr J11
 obtain ⟨w1,r1,g1,b1⟩:=g0.put (s:=⟨#[105,110,116,54,52]⟩) (q:=0) J11 J11 J11
 obtain ⟨w2,r2,g2,b2⟩:=g1.put (s:=⟨#[115,105,110,116,54,52]⟩) (q:=1) J11 J11 J11
 obtain ⟨w3,r3,g3,b3⟩:=g2.put (s:=⟨#[117,105,110,116,51,50]⟩) (q:=2) J11 J11 J11
 obtain ⟨w4,r4,g4,b4⟩:=g3.put (s:=⟨#[98,111,111,108]⟩) (q:=3) J11 J11 J11
 obtain ⟨w5,r5,g5,b5⟩:=g4.put (s:=⟨#[102,105,120,101,100,51,50]⟩) (q:=4) J11 J11 J11
 obtain ⟨w6,r6,g6,b6⟩:=g5.put (s:=⟨#[115,102,105,120,101,100,54,52]⟩) (q:=5) J11 J11 J11
 obtain ⟨w7,r7,g7,b7⟩:=g6.put (s:=⟨#[115,116,114,105,110,103]⟩) (q:=7) J11 J11 J11
 obtain ⟨w8,r8,g8,b8⟩:=g7.put (s:=⟨#[98,121,116,101,115]⟩) (q:=8) J11 J11 J11
 have hok:∀ k,some w.heap.size=some k→w.heap.size≤k:=fun k e=>by injection e with e;omega
 have c1:=b0.grown b1 J7 hok
 have c2:=c1.grown b2 c1.size hok
 have c3:=c2.grown b3 c2.size hok
 have c4:=c3.grown b4 c3.size hok
 have c5:=c4.grown b5 c4.size hok
 have c6:=c5.grown b6 c5.size hok
 have c7:=c6.grown b7 c6.size hok
 have c8:=c7.grown b8 c7.size hok
 have HG:=Y0 (show PMap w8 w.heap.size 8 typO from g8)
 have HB:=Y0 c8
 clear g0 g1 g2 g3 g4 g5 g6 g7 g8 b0 b1 b2 b3 b4 b5 b6 b7 b8 c1 c2 c3 c4 c5 c6 c7 c8 hok z0 hm
 have hmm:=@run_makeMap Tryz.prog
 go_enter Tryz.func59,Tryz.ntmps59
 go_wp2
 go_ret
 exact ⟨rfl,HG.out,HB.out⟩
def RB (W:World) (p:Nat) (vM vE vN sM sE:Value) (a e:Int):Prop:=W.heap[p]?=some (.cells #[vM,vE,vN,sM,sE,.int .i64 a,.int .i64 e] 108 (0,0))
def FailP (W:World) (p:Nat) (vM vE vN sM sE:Value) (a e:Int) (en:Ending) (W':World):Prop:=en = .returned (.tuple #[])∧RB W' p vM vE vN sM sE a e∧KeepBut W W' p none∧W'.heap.size=W.heap.size∧∀ B,B≤p→Below B W W'
def failE (a0 e0:Int) (b:Bool) (a e:Int):Int × Int:=if b=true∧e0=0 then (a,e) else (a0,e0)
set_option maxHeartbeats 2000000 in
set_option maxRecDepth 100000 in
theorem fail_s {W:World} {p:Nat} {vM vE vN sM sE:Value} {a0 e0:Int} (h:RB W p vM vE vN sM sE a0 e0) (b:Bool) (a e:Int) :
  Calls Tryz.prog 56 #[.pointer (some ⟨p,0,none⟩),.bool b,.int .i64 a,.int .i64 e] W (FailP W p vM vE vN sM sE (failE a0 e0 b a e).1 (failE a0 e0 b a e).2):=by
 have HR:=Y0 h
 have c5:W.cell? ⟨p,5,none⟩=some (.int .i64 a0):=(blk_cell h 5).trans rfl
 have c6:W.cell? ⟨p,6,none⟩=some (.int .i64 e0):=(blk_cell h 6).trans rfl
 have y5:=blk_frozen h 5
 have y6:=blk_frozen h 6
 obtain ⟨r,hr⟩:∃ r,r=failE a0 e0 b a e:=⟨_,rfl⟩
 rw [← hr]
 have HQ:=Y0 hr
 clear h hr
 cases b
 ·have hq:r=(a0,e0):=by rw [HQ.out];unfold failE;rw [if_neg J53]
  subst hq
  clear HQ
  go_enter Tryz.func56,Tryz.ntmps56
  go_wp2
  go_end0
  exact ⟨rfl,HR.out,KeepBut.refl _ _ _,rfl,fun B _=>Below.refl B W⟩
 ·by_cases h0:e0=0
  ·subst h0
   have hq:r=(a,e):=by rw [HQ.out];unfold failE;rw [if_pos ⟨rfl,rfl⟩]
   subst hq
   clear HQ
   go_enter Tryz.func56,Tryz.ntmps56
   go_wp2
   go_end0
   exact ⟨rfl,blk_put (cs:=#[vM,vE,vN,sM,sE,.int .i64 a,.int .i64 0]) (blk_put HR.out 5 _ rfl) 6 _ rfl,((KeepBut.refl W p none).set_ 5 _).set_ 6 _,by simp [World.setCell],fun B hB=>((Below.refl B W).setCell (p:=⟨p,5,none⟩) hB _).setCell (p:=⟨p,6,none⟩) hB _⟩
  ·have hq:r=(a0,e0):=by rw [HQ.out];unfold failE;rw [if_neg (by simp [h0])]
   subst hq
   have hd:(e0 == 0)=false:=by simpa using h0
   have hd2:decide (e0=0)=false:=decide_eq_false h0
   clear HQ
   go_enter Tryz.func56,Tryz.ntmps56
   go_wp2
   go_end0
   exact ⟨rfl,HR.out,KeepBut.refl _ _ _,rfl,fun B _=>Below.refl B W⟩
def plE (p:Int × Int):DataW Unit:=.agg [.lit (.int .i64 p.1),.lit (.int .i64 p.2)]
def plV (p:Int × Int):Value:=.agg #[.int .i64 p.1,.int .i64 p.2]
def plR:Value→Option (DataW Unit × List MemPlace)
 | .agg ⟨[.int .i64 a,.int .i64 b]⟩=>some (plE (a,b),[])
 | _=>none
theorem plR_inv {v:Value} {d:DataW Unit} {ps:List MemPlace} (h:plR v=some (d,ps)):∃ p,v=plV p∧d=plE p∧ps=[]:=by
 unfold plR at h
 split at h
 ·rename_i a b
  simp only [Option.some.injEq,Prod.mk.injEq] at h
  exact ⟨(a,b),rfl,h.1.symm,h.2.symm⟩
 ·cases h
theorem plE_inj {p q:Int × Int} (h:plE p=plE q):p=q:=by
 unfold plE at h
 simp only [DataW.agg.injEq,List.cons.injEq,DataW.lit.injEq,Lit.int.injEq,true_and,and_true] at h
 exact Prod.ext h.1 h.2
abbrev NMap (W:World) (mb n:Nat) (f:List UInt8→Option (Int × Int)):Prop:=GM 9 slit plR plE W mb n f
theorem tb_mSP:Tryz.prog.underlying 106=some (.map 9 111):=by kernel_rfl
theorem tb_zPl (w:World):(zeroValue 111).run Tryz.prog w = .ok (plV (0,0)) w:=by kernel_rfl
theorem NMap.look_ok {W:World} {mb n:Nat} {f:List UInt8→Option (Int × Int)} (h:NMap W mb n f) {s:ByteArray} (hs:s.size≤maxLen) :
  (Instr.lookup 106 (.map (some mb)) (.string s) true).run Tryz.prog W = .ok (.tuple #[plV ((f (bl s)).getD (0,0)),.bool (f (bl s)).isSome]) W:=by
 obtain ⟨v,ps,h1,h2⟩:=GM.look_ok (zd:=plE (0,0)) (zp:=[]) h key_str tb_mSP (tb_zPl W) rfl (at_str hs)
 obtain ⟨p,rfl,h3,_⟩:=plR_inv h2
 have h4:(f (bl s)).getD (0,0)=p:=by
  cases hf:f (bl s) with
  | none =>
   rw [hf] at h3
   exact plE_inj h3
  | some y =>
   rw [hf] at h3
   exact plE_inj h3
 rw [h4]
 exact h1
theorem NMap.put {W:World} {mb n:Nat} {f:List UInt8→Option (Int × Int)} (h:NMap W mb n f) (hn:n < maxLen) {s:ByteArray} (hs:s.size≤maxLen) (p:Int × Int) :
  ∃ W',(Instr.mapUpdate 106 (.map (some mb)) (.string s) (plV p)).run Tryz.prog W = .ok () W'∧NMap W' mb (n + 1) (fun x=>if x=bl s then some p else f x)∧W.grownBy W' (some mb) :=
 GM.put (y:=p) (ps:=[]) h key_str tb_mSP hn (at_str hs) rfl
def kindF (f:List UInt8→Option (Int × Int)) (nm:List UInt8):Int × Int × Bool :=
 match typO nm with
 | some k=>(k,0,true)
 | none=>(if ((f nm).getD (0,0)).1=6 then 6 else 9,((f nm).getD (0,0)).2,(f nm).isSome)
def KindP (W:World) (r:Int × Int × Bool) (e:Ending) (W':World):Prop:=e = .returned (.tuple #[.int .i64 r.1,.int .i64 r.2.1,.bool r.2.2])∧Below W.heap.size W W'
theorem eqf_int {d:Nat} {a b:Int} {w:World}:(Op.equalIn (d + 1) 3 (.int .i64 a) (.int .i64 b)).run Tryz.prog w = .ok (a == b) w:=by
 simp [Op.equalIn,tb_int]
theorem eqf_pl (a b c d:Int) (w:World):(Op.equalIn 10000 111 (.agg #[.int .i64 a,.int .i64 b]) (.agg #[.int .i64 c,.int .i64 d])).run Tryz.prog w = .ok (a == c && b == d) w:=by
 show (Op.equalIn (9998 + 1 + 1) _ _ _).run _ _=_
 have p0:∀ x y,(part 3 #[Value.int .i64 x,Value.int .i64 y] 0).run Tryz.prog w = .ok (.int .i64 x) w:=fun x y=>by kernel_rfl
 have p1:∀ x y,(part 3 #[Value.int .i64 x,Value.int .i64 y] 1).run Tryz.prog w = .ok (.int .i64 y) w:=fun x y=>by kernel_rfl
 have q0:∀ x y,(Op.equalIn 9999 3 (.int .i64 x) (.int .i64 y)).run Tryz.prog w = .ok (x == y) w:=fun x y=>eqf_int (d:=9998)
 have hr:List.range' 0 2=[0,1]:=rfl
 rw [Op.equalIn]
 simp [hr,p0,p1,q0,Result.andThen]
 by_cases h1:a=c
 ·subst h1
  by_cases h2:b=d
  ·subst h2
   simp [p0,p1,q0,Result.andThen]
  ·have h2':(b == d)=false:=by simpa using h2
   simp [p0,p1,q0,Result.andThen,h2,h2']
 ·have h1':(a == c)=false:=by simpa using h1
  simp [p0,p1,q0,Result.andThen,h1,h1']
set_option maxHeartbeats 4000000 in
set_option maxRecDepth 100000 in
theorem kind_s {W:World} {p mb n:Nat} {vM vE sM sE:Value} {a0 e0:Int} {f:List UInt8→Option (Int × Int)} (h:RB W p vM vE (.map (some mb)) sM sE a0 e0) (hN:NMap W mb n f) (nm:ByteArray) (hs:nm.size≤maxLen) :
  Calls Tryz.prog 100 #[.pointer (some ⟨p,0,none⟩),.string nm] W (KindP W (kindF f (bl nm))):=by
 have HR:=Y0 h
 have HN:=Y0 hN
 have HS:=Y0 hs
 obtain ⟨r,hr⟩:∃ r,r=kindF f (bl nm):=⟨_,rfl⟩
 rw [← hr]
 unfold kindF at hr
 obtain ⟨t,ht⟩:∃ t,t=typO (bl nm):=⟨_,rfl⟩
 rw [← ht] at hr
 have HT:=Y0 ht
 have HQ:=Y0 hr
 clear h hN hs hr ht
 cases t with
 | some k =>
  have hq:r=(k,0,true):=HQ.out
  subst hq
  clear HQ HN HR
  go_enter Tryz.func100,Tryz.ntmps100
  go_wp2_with fail
  refine (tplain_s _).mono ?_
  rintro e V1 ⟨rfl,hp,hb⟩
  have hl:=hp.look_ok (s:=nm) HS.out
  rw [← HT.out] at hl
  simp only [Option.getD_some,Option.isSome_some] at hl
  clear hp
  go_wp2
  go_ret3
  exact ⟨rfl,hb⟩
 | none =>
  obtain ⟨⟨a,b⟩,hab⟩:∃ q:Int × Int,q=(f (bl nm)).getD (0,0):=⟨_,rfl⟩
  obtain ⟨is,his⟩:∃ is,is=(f (bl nm)).isSome:=⟨_,rfl⟩
  have hq:r=(if a=6 then 6 else 9,b,is):=by rw [HQ.out,his,← hab]
  clear HQ
  have HAB:=Y0 hab
  have HIS:=Y0 his
  clear hab his
  by_cases h6:a=6
  ·rw [if_pos h6] at hq
   subst hq h6
   go_enter Tryz.func100,Tryz.ntmps100
   go_wp2_with fail
   refine (tplain_s _).mono ?_
   rintro e V1 ⟨rfl,hp,hb⟩
   have hl:=hp.look_ok (s:=nm) HS.out
   rw [← HT.out] at hl
   simp only [Option.getD_none,Option.isSome_none] at hl
   have hr1:=blk_below HR.out hb
   have hn1:=NMap.look_ok (HN.out.below hb) (s:=nm) HS.out
   rw [← HAB.out,← HIS.out] at hn1
   simp only [plV] at hn1
   have heq:=fun w=>eqf_pl 6 b 6 b w
   simp only [beq_self_eq_true,Bool.and_self] at heq
   have c2:V1.cell? ⟨p,2,none⟩=some (.map (some mb)):=(blk_cell hr1 2).trans rfl
   clear hp hr1
   go_wp2
   go_quiet (fail)
   go_wp2
   go_ret3
   exact ⟨rfl,pw_below_drewN (below_alloc hb _) _⟩
  ·rw [if_neg h6] at hq
   subst hq
   have h6b:(a == 6)=false:=by simpa using h6
   clear h6
   go_enter Tryz.func100,Tryz.ntmps100
   go_wp2_with fail
   refine (tplain_s _).mono ?_
   rintro e V1 ⟨rfl,hp,hb⟩
   have hl:=hp.look_ok (s:=nm) HS.out
   rw [← HT.out] at hl
   simp only [Option.getD_none,Option.isSome_none] at hl
   have hr1:=blk_below HR.out hb
   have hn1:=NMap.look_ok (HN.out.below hb) (s:=nm) HS.out
   rw [← HAB.out,← HIS.out] at hn1
   simp only [plV] at hn1
   have heq:=fun w=>eqf_pl a b 6 b w
   simp only [h6b,Bool.false_and] at heq
   have c2:V1.cell? ⟨p,2,none⟩=some (.map (some mb)):=(blk_cell hr1 2).trans rfl
   clear hp hr1
   go_wp2
   go_quiet (fail)
   go_wp2
   go_ret3
   exact ⟨rfl,pw_below_drewN (below_alloc hb _) _⟩
def table_in.f (a0:Int) (a1:Int) (a2:Int):Option (Bool):=if a0 ≥ a1 then (some (decide (a0≤a2))) else (some false)
set_option maxHeartbeats 8000000 in
set_option maxRecDepth 100000 in
theorem table_in.calls (a0:Int) (a1:Int) (a2:Int) (r:Bool) (w:World) (h:table_in.f a0 a1 a2=some r) :
  Calls Tryz.prog 60 #[.int .i64 a0,.int .i64 a1,.int .i64 a2] w fun e w'=>e = .returned (.bool r)∧Drawn0 w w':=by
 have H:(if a0 ≥ a1 then (some (decide (a0≤a2))) else (some false))=some r:=h
 clear h
 by_cases c4:a0 ≥ a1
 ·rw [if_pos c4] at H
  have c4b0:decide (a1≤a0)=true:=decide_eq_true c4
  clear c4
  obtain rfl:=Option.some.inj H
  go_enter Tryz.func60,Tryz.ntmps60
  go_wp2
  go_ret
  exact ⟨J12,J17⟩
 rw [if_neg c4] at H
 have c4b0:decide (a1≤a0)=false:=decide_eq_false c4
 clear c4
 obtain rfl:=Option.some.inj H
 go_enter Tryz.func60,Tryz.ntmps60
 go_wp2
 go_ret
 exact ⟨J12,J17⟩
def table_number.f (a0:Int):Option (Bool):=if a0 ≥ 1 then (if a0≤536870911 then (if a0 < 19000 then (some true) else (some (decide (a0 > 19999)))) else (some false)) else (some false)
set_option maxHeartbeats 8000000 in
set_option maxRecDepth 100000 in
theorem table_number.calls (a0:Int) (r:Bool) (w:World) (h:table_number.f a0=some r) :
  Calls Tryz.prog 98 #[.int .i64 a0] w fun e w'=>e = .returned (.bool r)∧Drawn0 w w':=by
 have H:(if a0 ≥ 1 then (if a0≤536870911 then (if a0 < 19000 then (some true) else (some (decide (a0 > 19999)))) else (some false)) else (some false))=some r:=h
 clear h
 by_cases c2:a0 ≥ 1
 rotate_left
 ·rw [if_neg c2] at H
  have c2b0:decide (1≤a0)=false:=decide_eq_false c2
  clear c2
  obtain rfl:=Option.some.inj H
  go_enter Tryz.func98,Tryz.ntmps98
  go_wp2
  go_ret
  exact ⟨J12,J17⟩
 rw [if_pos c2] at H
 have c2b0:decide (1≤a0)=true:=decide_eq_true c2
 clear c2
 by_cases c3:a0≤536870911
 rotate_left
 ·rw [if_neg c3] at H
  have c3b0:decide (a0≤536870911)=false:=decide_eq_false c3
  clear c3
  obtain rfl:=Option.some.inj H
  go_enter Tryz.func98,Tryz.ntmps98
  go_wp2
  go_ret
  exact ⟨J12,J17⟩
 rw [if_pos c3] at H
 have c3b0:decide (a0≤536870911)=true:=decide_eq_true c3
 clear c3
 by_cases c4:a0 < 19000
 ·rw [if_pos c4] at H
  have c4b0:decide (a0 < 19000)=true:=decide_eq_true c4
  clear c4
  obtain rfl:=Option.some.inj H
  go_enter Tryz.func98,Tryz.ntmps98
  go_wp2
  go_ret
  exact ⟨J12,J17⟩
 rw [if_neg c4] at H
 have c4b0:decide (a0 < 19000)=false:=decide_eq_false c4
 clear c4
 obtain rfl:=Option.some.inj H
 go_enter Tryz.func98,Tryz.ntmps98
 go_wp2
 go_ret
 exact ⟨J12,J17⟩
def table_keyed.f (a0:Int):Option (Bool):=if a0 ≥ 0 then (if a0 < 9 then (if a0=6 then (some false) else (some (a0 != 8))) else (some false)) else (some false)
set_option maxHeartbeats 8000000 in
set_option maxRecDepth 100000 in
theorem table_keyed.calls (a0:Int) (r:Bool) (w:World) (h:table_keyed.f a0=some r) :
  Calls Tryz.prog 99 #[.int .i64 a0] w fun e w'=>e = .returned (.bool r)∧Drawn0 w w':=by
 have H:(if a0 ≥ 0 then (if a0 < 9 then (if a0=6 then (some false) else (some (a0 != 8))) else (some false)) else (some false))=some r:=h
 clear h
 by_cases c2:a0 ≥ 0
 rotate_left
 ·rw [if_neg c2] at H
  have c2b0:decide (0≤a0)=false:=decide_eq_false c2
  clear c2
  obtain rfl:=Option.some.inj H
  go_enter Tryz.func99,Tryz.ntmps99
  go_wp2
  go_ret
  exact ⟨J12,J17⟩
 rw [if_pos c2] at H
 have c2b0:decide (0≤a0)=true:=decide_eq_true c2
 clear c2
 by_cases c3:a0 < 9
 rotate_left
 ·rw [if_neg c3] at H
  have c3b0:decide (a0 < 9)=false:=decide_eq_false c3
  clear c3
  obtain rfl:=Option.some.inj H
  go_enter Tryz.func99,Tryz.ntmps99
  go_wp2
  go_ret
  exact ⟨J12,J17⟩
 rw [if_pos c3] at H
 have c3b0:decide (a0 < 9)=true:=decide_eq_true c3
 clear c3
 by_cases c4:a0=6
 rotate_left
 ·rw [if_neg c4] at H
  have c4b0:(a0 == 6)=false:=beq_eq_false_iff_ne.mpr c4
  have c4b1:(a0 != 6)=true:=bne_iff_ne.mpr c4
  obtain rfl:=Option.some.inj H
  go_enter Tryz.func99,Tryz.ntmps99
  go_wp2
  go_ret
  exact ⟨J12,J17⟩
 rw [if_pos c4] at H
 have c4b0:(a0 == 6)=true:=beq_iff_eq.mpr c4
 have c4b1:(a0 != 6)=false:=bne_eq_false_iff_eq.mpr c4
 clear c4
 obtain rfl:=Option.some.inj H
 go_enter Tryz.func99,Tryz.ntmps99
 go_wp2
 go_ret
 exact ⟨J12,J17⟩
mutual
def table_field.j0:Nat→Bool→Int→ByteArray→Int→Int→Bool→Int→Int→Option (Bool)
 | 0,_,_,_,_,_,_,_,_=>none
 | k + 1,x5,x251000,x251001,x251002,x251003,x251004,x251005,x251006=>if x251004=true then (table_field.j1 k x5 true x251000 x251001 x251002 x251003 x251004 x251005 x251006) else (table_field.j1 k x5 (x251005 != (-1)) x251000 x251001 x251002 x251003 x251004 x251005 x251006)
def table_field.j1:Nat→Bool→Bool→Int→ByteArray→Int→Int→Bool→Int→Int→Option (Bool)
 | 0,_,_,_,_,_,_,_,_,_=>none
 | k + 1,x5,x6,x251000,x251001,x251002,x251003,x251004,x251005,x251006=>if x251005=(-1) then ((table_number.f x251000).bind fun t253=>(if t253=true then ((table_in.f x251002 0 9).bind fun t254=>(if t254=true then (if x5=true then ((table_in.f x251006 0 30).bind fun t255=>(if t255=true then (if x251006=0 then (some true) else (some (!x6))) else (some false))) else (some false)) else (some false))) else (some false))) else ((table_keyed.f x251005).bind fun t256=>(if t256=true then ((table_number.f x251000).bind fun t257=>(if t257=true then ((table_in.f x251002 0 9).bind fun t258=>(if t258=true then (if x5=true then (if x251004=true then (some false) else ((table_in.f x251006 0 30).bind fun t259=>(if t259=true then (if x251006=0 then (some true) else (some (!x6))) else (some false)))) else (some false)) else (some false))) else (some false))) else ((table_number.f x251000).bind fun t260=>(if t260=true then ((table_in.f x251002 0 9).bind fun t261=>(if t261=true then (if x5=true then (some false) else (some false)) else (some false))) else (some false)))))
end
def table_field.f (k:Nat) (l0_0:List (S57)) (l0_1:List (S119)) (a1_0:Int) (a1_1:ByteArray) (a1_2:Int) (a1_3:Int) (a1_4:Bool) (a1_5:Int) (a1_6:Int):Option (Bool):=if a1_2=9 then ((table_in.f a1_3 0 (wrap64 ((l0_0.length:Int) - 1))).bind fun t251=>(table_field.j0 k t251 a1_0 a1_1 a1_2 a1_3 a1_4 a1_5 a1_6)) else (if a1_2=6 then ((table_in.f a1_3 0 (wrap64 ((l0_1.length:Int) - 1))).bind fun t252=>(table_field.j0 k t252 a1_0 a1_1 a1_2 a1_3 a1_4 a1_5 a1_6)) else (table_field.j0 k (a1_3 == 0) a1_0 a1_1 a1_2 a1_3 a1_4 a1_5 a1_6))
set_option maxHeartbeats 8000000 in
set_option maxRecDepth 100000 in
theorem table_field.calls (k:Nat) (A0_0:Option Addr) (c0_0:Nat) (l0_0:List (S57)) (A0_1:Option Addr) (c0_1:Nat) (l0_1:List (S119)) (a1_0:Int) (a1_1:ByteArray) (a1_2:Int) (a1_3:Int) (a1_4:Bool) (a1_5:Int) (a1_6:Int) (r:Bool) (w:World) (hr0_0:Kd.C k57 w A0_0 l0_0.length l0_0) (hc0_0:l0_0.length≤c0_0) (hr0_1:Kd.C k119 w A0_1 l0_1.length l0_1) (hc0_1:l0_1.length≤c0_1) (h:table_field.f k l0_0 l0_1 a1_0 a1_1 a1_2 a1_3 a1_4 a1_5 a1_6=some r) :
  Calls Tryz.prog 104 #[.agg #[.slice A0_0 l0_0.length c0_0,.slice A0_1 l0_1.length c0_1],.agg #[.int .i64 a1_0,.string a1_1,.int .i64 a1_2,.int .i64 a1_3,.bool a1_4,.int .i64 a1_5,.int .i64 a1_6]] w fun e w'=>e = .returned (.bool r)∧Below w.heap.size w w':=by
 have hu46:=Tryz.underlying46
 have hu51:=Tryz.underlying51
 have HR0_0:=Y0 hr0_0
 have HC0_0:=Y0 hc0_0
 clear hr0_0 hc0_0
 have HR0_1:=Y0 hr0_1
 have HC0_1:=Y0 hc0_1
 clear hr0_1 hc0_1
 have HB:=Y0 (Below.refl w.heap.size w)
 have H:(if a1_2=9 then ((table_in.f a1_3 0 (wrap64 ((l0_0.length:Int) - 1))).bind fun t251=>(table_field.j0 k t251 a1_0 a1_1 a1_2 a1_3 a1_4 a1_5 a1_6)) else (if a1_2=6 then ((table_in.f a1_3 0 (wrap64 ((l0_1.length:Int) - 1))).bind fun t252=>(table_field.j0 k t252 a1_0 a1_1 a1_2 a1_3 a1_4 a1_5 a1_6)) else (table_field.j0 k (a1_3 == 0) a1_0 a1_1 a1_2 a1_3 a1_4 a1_5 a1_6)))=some r:=h
 clear h
 have HC3:=Y0 H
 clear H
 go_enter Tryz.func104,Tryz.ntmps104
 go_upto_block 0 with (first|((with_reducible refine gate_dst (N:=2) rfl ?_);refine box_event ?hg (N:=2) ?hd (cs:=#[.slice A0_0 l0_0.length c0_0,.slice A0_1 l0_1.length c0_1]) (t:=46) ?hr ?_;(case hd=>rfl);(case hg=>rfl);(case hr=>first|(go_simp;done)|(go_simp;rfl));intro gb249 hg w4 hbox hb;have n0_:=Y0 (below_step J4 hb);have n1_:=Y0 (hbox);have n2_:=Y0 ((by rw [hg];exact (below_size J4):w.heap.size≤gb249));have n3_:=Y0 ((by rw [hg];exact (below_size J4):w.heap.size≤gb249));clear HB;have HB:=n0_;have BK249:=n1_;have GW249:=n2_;have GE249:=n3_;clear n0_ n1_ n2_ n3_;clear hb hbox hg)|((with_reducible refine gate_dst (N:=3) rfl ?_);refine box_event ?hg (N:=3) ?hd (cs:=#[.int .i64 a1_0,.string a1_1,.int .i64 a1_2,.int .i64 a1_3,.bool a1_4,.int .i64 a1_5,.int .i64 a1_6]) (t:=51) ?hr ?_;(case hd=>rfl);(case hg=>rfl);(case hr=>first|(go_simp;done)|(go_simp;rfl));intro gb250 hg w5 hbox hb;have n0_:=Y0 (blk_below (g:=gb249) (o:=.cells #[.slice A0_0 l0_0.length c0_0,.slice A0_1 l0_1.length c0_1] 46 (0,0)) J64 hb);have n1_:=Y0 (below_step J116 hb);have n2_:=Y0 (hbox);have n3_:=Y0 ((by rw [hg];exact (below_size J116):w.heap.size≤gb250));have n4_:=Y0 ((by rw [hg];exact (below_size J116):w.heap.size≤gb250));have n5_:=Y0 ((by rw [hg];exact Nat.ne_of_lt (blk_lt (g:=gb249) (o:=.cells #[.slice A0_0 l0_0.length c0_0,.slice A0_1 l0_1.length c0_1] 46 (0,0)) J64):gb249≠gb250));have n6_:=Y0 ((by rw [hg];exact Nat.ne_of_gt (blk_lt (g:=gb249) (o:=.cells #[.slice A0_0 l0_0.length c0_0,.slice A0_1 l0_1.length c0_1] 46 (0,0)) J64):gb250≠gb249));clear BK249;clear HB;have BK249:=n0_;have HB:=n1_;have BK250:=n2_;have GW250:=n3_;have GE250:=n4_;have NB249_250:=n5_;have NB250_249:=n6_;clear n0_ n1_ n2_ n3_ n4_ n5_ n6_;clear hb hbox hg;have hnb6:=NB250_249.out;have hnc6:=NB249_250.out;have ⟨hcz7_0,hcz7_1,hcz7_2,hcz7_3,hcz7_4,hcz7_5,hcz7_6,hfz7_0,hfz7_1,hfz7_2,hfz7_3,hfz7_4,hfz7_5,hfz7_6⟩:=sq_box7 BK250.out))
 (try simp only [Act.put,Y14,Y15,Y16])
 go_cut [5] (fun v5 wc=>∃ (kq:Nat) (x5_2:Bool),v5 = .bool x5_2∧Aside0 (table_field.j0 kq x5_2 a1_0 a1_1 a1_2 a1_3 a1_4 a1_5 a1_6=some r)∧Aside0 (kq≤k)∧Aside0 (wc.heap[gb249]?=some (.cells #[(.slice A0_0 l0_0.length c0_0),(.slice A0_1 l0_1.length c0_1)] 46 (0,0)))∧Aside0 (wc.heap[gb250]?=some (.cells #[.int .i64 a1_0,.string a1_1,.int .i64 a1_2,.int .i64 a1_3,.bool a1_4,.int .i64 a1_5,.int .i64 a1_6] 51 (0,0)))∧Aside0 (Below w.heap.size w wc))
 case first =>
  have H:=HC3.out
  clear HC3
  by_cases c8:a1_2=9
  ·rw [if_pos c8] at H
   have c8b0:(a1_2 == 9)=true:=beq_iff_eq.mpr c8
   have c8b1:(a1_2 != 9)=false:=bne_eq_false_iff_eq.mpr c8
   clear c8
   (first|rw [c8b0]|(simp only [i64_w];rw [c8b0])|skip)
   replace H:=Y17.mp H
   obtain ⟨t251,A90,H⟩:=H
   try dsimp only at H
   have A9:=Y0 A90
   clear A90
   have H':=Y0 H
   clear H
   have hnb10:=NB250_249.out
   have hnc10:=NB249_250.out
   have ⟨hcz11_0,hcz11_1,hcz11_2,hcz11_3,hcz11_4,hcz11_5,hcz11_6,hfz11_0,hfz11_1,hfz11_2,hfz11_3,hfz11_4,hfz11_5,hfz11_6⟩:=sq_box7 BK250.out
   have ⟨hcz12_0,hcz12_1,hfz12_0,hfz12_1⟩:=sq_box2 BK249.out
   go_wp2_with (first|((with_reducible refine gate_callee (f:=60) rfl ?_);refine goesL_ (some 21) rfl rfl Tryz.func60 J0 rfl #[.int .i64 a1_3,.int .i64 0,.int .i64 (wrap64 ((l0_0.length:Int) - 1))] rfl J1 ?_;(with_reducible refine (table_in.calls a1_3 0 (wrap64 ((l0_0.length:Int) - 1)) t251 _ A9.out).mono ?_);rintro e w' ⟨rfl,⟨nd,rfl⟩⟩;refine ⟨_,rfl,?_⟩))
   go_meet
   case rel=>exact ⟨_,(t251),J12,H',⟨J79⟩,⟨J64⟩,⟨J89⟩,⟨J20⟩⟩
  rw [if_neg c8] at H
  have c8b0:(a1_2 == 9)=false:=beq_eq_false_iff_ne.mpr c8
  have c8b1:(a1_2 != 9)=true:=bne_iff_ne.mpr c8
  (first|rw [c8b0]|(simp only [i64_w];rw [c8b0])|skip)
  by_cases c13:a1_2=6
  rotate_left
  ·rw [if_neg c13] at H
   have c13b0:(a1_2 == 6)=false:=beq_eq_false_iff_ne.mpr c13
   have c13b1:(a1_2 != 6)=true:=bne_iff_ne.mpr c13
   have H':=Y0 H
   clear H
   go_wp2
   go_meet
   case rel=>exact ⟨_,((a1_3 == 0)),J12,H',⟨J79⟩,⟨J64⟩,⟨J89⟩,⟨J20⟩⟩
  rw [if_pos c13] at H
  have c13b0:(a1_2 == 6)=true:=beq_iff_eq.mpr c13
  have c13b1:(a1_2 != 6)=false:=bne_eq_false_iff_eq.mpr c13
  clear c13
  replace H:=Y17.mp H
  obtain ⟨t252,A140,H⟩:=H
  try dsimp only at H
  have A14:=Y0 A140
  clear A140
  have H':=Y0 H
  clear H
  have hnb15:=NB250_249.out
  have hnc15:=NB249_250.out
  have ⟨hcz16_0,hcz16_1,hcz16_2,hcz16_3,hcz16_4,hcz16_5,hcz16_6,hfz16_0,hfz16_1,hfz16_2,hfz16_3,hfz16_4,hfz16_5,hfz16_6⟩:=sq_box7 BK250.out
  have ⟨hcz17_0,hcz17_1,hfz17_0,hfz17_1⟩:=sq_box2 BK249.out
  go_wp2_with (first|((with_reducible refine gate_callee (f:=60) rfl ?_);refine goesL_ (some 30) rfl rfl Tryz.func60 J0 rfl #[.int .i64 a1_3,.int .i64 0,.int .i64 (wrap64 ((l0_1.length:Int) - 1))] rfl J1 ?_;(with_reducible refine (table_in.calls a1_3 0 (wrap64 ((l0_1.length:Int) - 1)) t252 _ A14.out).mono ?_);rintro e w' ⟨rfl,⟨nd,rfl⟩⟩;refine ⟨_,rfl,?_⟩))
  go_meet
  case rel=>exact ⟨_,(t252),J12,H',⟨J79⟩,⟨J64⟩,⟨J89⟩,⟨J20⟩⟩
 case rest =>
  clear HC3
  obtain ⟨kq,x5_2,rfl,HA,HJ2,BK249,BK250,HB⟩:=hcut
  cases kq with
  | zero=>exact absurd HA.out (by simp [table_field.j0])
  | succ kj2 =>
   have H:=HA.out
   clear HA
   simp only [table_field.j0] at H
   have HC18:=Y0 H
   clear H
   go_upto_region 7 with (fail)
   go_cut [6] (fun v6 wc=>∃ (kq:Nat) (x6_17:Bool),v6 = .bool x6_17∧Aside0 (table_field.j1 kq x5_2 x6_17 a1_0 a1_1 a1_2 a1_3 a1_4 a1_5 a1_6=some r)∧Aside0 (kq≤kj2)∧Aside0 (wc.heap[gb249]?=some (.cells #[(.slice A0_0 l0_0.length c0_0),(.slice A0_1 l0_1.length c0_1)] 46 (0,0)))∧Aside0 (wc.heap[gb250]?=some (.cells #[.int .i64 a1_0,.string a1_1,.int .i64 a1_2,.int .i64 a1_3,.bool a1_4,.int .i64 a1_5,.int .i64 a1_6] 51 (0,0)))∧Aside0 (Below w.heap.size w wc))
   case first =>
    have H:=HC18.out
    clear HC18
    by_cases c19:a1_4=true
    ·subst c19
     rw [if_pos rfl] at H
     have H':=Y0 H
     clear H
     have hnb20:=NB250_249.out
     have hnc20:=NB249_250.out
     have ⟨hcz21_0,hcz21_1,hcz21_2,hcz21_3,hcz21_4,hcz21_5,hcz21_6,hfz21_0,hfz21_1,hfz21_2,hfz21_3,hfz21_4,hfz21_5,hfz21_6⟩:=sq_box7 BK250.out
     go_wp2
     go_meet
     case rel=>exact ⟨_,(true),J12,H',⟨by have:=HJ2.out;first|omega|exact Nat.le_refl _⟩,⟨J64⟩,⟨J89⟩,⟨J20⟩⟩
    replace c19:=Bool.eq_false_iff.mpr c19
    subst c19
    rw [if_neg (show ¬ (false=true) by decide)] at H
    have H':=Y0 H
    clear H
    have hnb22:=NB250_249.out
    have hnc22:=NB249_250.out
    have ⟨hcz23_0,hcz23_1,hcz23_2,hcz23_3,hcz23_4,hcz23_5,hcz23_6,hfz23_0,hfz23_1,hfz23_2,hfz23_3,hfz23_4,hfz23_5,hfz23_6⟩:=sq_box7 BK250.out
    go_wp2
    go_meet
    case rel=>exact ⟨_,((a1_5 != (-1))),J12,H',⟨by have:=HJ2.out;first|omega|exact Nat.le_refl _⟩,⟨J64⟩,⟨J89⟩,⟨J20⟩⟩
   case rest =>
    clear HC18
    obtain ⟨kq,x6_17,rfl,HA,HJ17,BK249,BK250,HB⟩:=hcut
    cases kq with
    | zero=>exact absurd HA.out (by simp [table_field.j1])
    | succ kj17 =>
     have H:=HA.out
     clear HA
     simp only [table_field.j1] at H
     by_cases c24:a1_5=(-1)
     ·rw [if_pos c24] at H
      have c24b0:(a1_5 == (-1))=true:=beq_iff_eq.mpr c24
      have c24b1:(a1_5 != (-1))=false:=bne_eq_false_iff_eq.mpr c24
      clear c24
      replace H:=Y17.mp H
      obtain ⟨t253,A250,H⟩:=H
      try dsimp only at H
      have A25:=Y0 A250
      clear A250
      by_cases c26:t253=true
      rotate_left
      ·replace c26:=Bool.eq_false_iff.mpr c26
       subst c26
       rw [if_neg (show ¬ (false=true) by decide)] at H
       obtain rfl:=Option.some.inj H
       have hnb43:=NB250_249.out
       have hnc43:=NB249_250.out
       have ⟨hcz44_0,hcz44_1,hcz44_2,hcz44_3,hcz44_4,hcz44_5,hcz44_6,hfz44_0,hfz44_1,hfz44_2,hfz44_3,hfz44_4,hfz44_5,hfz44_6⟩:=sq_box7 BK250.out
       go_wp2_with (first|((with_reducible refine gate_callee (f:=98) rfl ?_);refine goesL_ (some 53) rfl rfl Tryz.func98 J0 rfl #[.int .i64 a1_0] rfl J1 ?_;(with_reducible refine (table_number.calls a1_0 false _ A25.out).mono ?_);rintro e w' ⟨rfl,⟨nd,rfl⟩⟩;refine ⟨_,rfl,?_⟩))
       go_ret
       exact ⟨J21,J20⟩
      subst c26
      rw [if_pos rfl] at H
      replace H:=Y17.mp H
      obtain ⟨t254,A270,H⟩:=H
      try dsimp only at H
      have A27:=Y0 A270
      clear A270
      by_cases c28:t254=true
      rotate_left
      ·replace c28:=Bool.eq_false_iff.mpr c28
       subst c28
       rw [if_neg (show ¬ (false=true) by decide)] at H
       obtain rfl:=Option.some.inj H
       have hnb41:=NB250_249.out
       have hnc41:=NB249_250.out
       have ⟨hcz42_0,hcz42_1,hcz42_2,hcz42_3,hcz42_4,hcz42_5,hcz42_6,hfz42_0,hfz42_1,hfz42_2,hfz42_3,hfz42_4,hfz42_5,hfz42_6⟩:=sq_box7 BK250.out
       go_wp2_with (first|((with_reducible refine gate_callee (f:=98) rfl ?_);refine goesL_ (some 53) rfl rfl Tryz.func98 J0 rfl #[.int .i64 a1_0] rfl J1 ?_;(with_reducible refine (table_number.calls a1_0 true _ A25.out).mono ?_);rintro e w' ⟨rfl,⟨nd,rfl⟩⟩;refine ⟨_,rfl,?_⟩)|(go_at_call 60;(with_reducible refine (table_in.calls a1_2 0 9 false _ A27.out).mono ?_);rintro e w' ⟨rfl,⟨nd,rfl⟩⟩))
       go_ret
       exact ⟨J21,J20⟩
      subst c28
      rw [if_pos rfl] at H
      by_cases c29:x5_2=true
      rotate_left
      ·replace c29:=Bool.eq_false_iff.mpr c29
       subst c29
       rw [if_neg (show ¬ (false=true) by decide)] at H
       obtain rfl:=Option.some.inj H
       have hnb39:=NB250_249.out
       have hnc39:=NB249_250.out
       have ⟨hcz40_0,hcz40_1,hcz40_2,hcz40_3,hcz40_4,hcz40_5,hcz40_6,hfz40_0,hfz40_1,hfz40_2,hfz40_3,hfz40_4,hfz40_5,hfz40_6⟩:=sq_box7 BK250.out
       go_wp2_with (first|((with_reducible refine gate_callee (f:=98) rfl ?_);refine goesL_ (some 53) rfl rfl Tryz.func98 J0 rfl #[.int .i64 a1_0] rfl J1 ?_;(with_reducible refine (table_number.calls a1_0 true _ A25.out).mono ?_);rintro e w' ⟨rfl,⟨nd,rfl⟩⟩;refine ⟨_,rfl,?_⟩)|(go_at_call 60;(with_reducible refine (table_in.calls a1_2 0 9 true _ A27.out).mono ?_);rintro e w' ⟨rfl,⟨nd,rfl⟩⟩))
       go_ret
       exact ⟨J21,J20⟩
      subst c29
      rw [if_pos rfl] at H
      replace H:=Y17.mp H
      obtain ⟨t255,A300,H⟩:=H
      try dsimp only at H
      have A30:=Y0 A300
      clear A300
      by_cases c31:t255=true
      rotate_left
      ·replace c31:=Bool.eq_false_iff.mpr c31
       subst c31
       rw [if_neg (show ¬ (false=true) by decide)] at H
       obtain rfl:=Option.some.inj H
       have hnb37:=NB250_249.out
       have hnc37:=NB249_250.out
       have ⟨hcz38_0,hcz38_1,hcz38_2,hcz38_3,hcz38_4,hcz38_5,hcz38_6,hfz38_0,hfz38_1,hfz38_2,hfz38_3,hfz38_4,hfz38_5,hfz38_6⟩:=sq_box7 BK250.out
       go_wp2_with (first|((with_reducible refine gate_callee (f:=98) rfl ?_);refine goesL_ (some 53) rfl rfl Tryz.func98 J0 rfl #[.int .i64 a1_0] rfl J1 ?_;(with_reducible refine (table_number.calls a1_0 true _ A25.out).mono ?_);rintro e w' ⟨rfl,⟨nd,rfl⟩⟩;refine ⟨_,rfl,?_⟩)|(go_at_call 60;(with_reducible refine (table_in.calls a1_2 0 9 true _ A27.out).mono ?_);rintro e w' ⟨rfl,⟨nd,rfl⟩⟩)|(go_at_call 60;(with_reducible refine (table_in.calls a1_6 0 30 false _ A30.out).mono ?_);rintro e w' ⟨rfl,⟨nd,rfl⟩⟩))
       go_ret
       exact ⟨J21,J20⟩
      subst c31
      rw [if_pos rfl] at H
      by_cases c32:a1_6=0
      rotate_left
      ·rw [if_neg c32] at H
       have c32b0:(a1_6 == 0)=false:=beq_eq_false_iff_ne.mpr c32
       have c32b1:(a1_6 != 0)=true:=bne_iff_ne.mpr c32
       obtain rfl:=Option.some.inj H
       have hnb35:=NB250_249.out
       have hnc35:=NB249_250.out
       have ⟨hcz36_0,hcz36_1,hcz36_2,hcz36_3,hcz36_4,hcz36_5,hcz36_6,hfz36_0,hfz36_1,hfz36_2,hfz36_3,hfz36_4,hfz36_5,hfz36_6⟩:=sq_box7 BK250.out
       go_wp2_with (first|((with_reducible refine gate_callee (f:=98) rfl ?_);refine goesL_ (some 53) rfl rfl Tryz.func98 J0 rfl #[.int .i64 a1_0] rfl J1 ?_;(with_reducible refine (table_number.calls a1_0 true _ A25.out).mono ?_);rintro e w' ⟨rfl,⟨nd,rfl⟩⟩;refine ⟨_,rfl,?_⟩)|(go_at_call 60;(with_reducible refine (table_in.calls a1_2 0 9 true _ A27.out).mono ?_);rintro e w' ⟨rfl,⟨nd,rfl⟩⟩)|(go_at_call 60;(with_reducible refine (table_in.calls a1_6 0 30 true _ A30.out).mono ?_);rintro e w' ⟨rfl,⟨nd,rfl⟩⟩))
       go_ret
       exact ⟨J21,J20⟩
      rw [if_pos c32] at H
      have c32b0:(a1_6 == 0)=true:=beq_iff_eq.mpr c32
      have c32b1:(a1_6 != 0)=false:=bne_eq_false_iff_eq.mpr c32
      clear c32
      obtain rfl:=Option.some.inj H
      have hnb33:=NB250_249.out
      have hnc33:=NB249_250.out
      have ⟨hcz34_0,hcz34_1,hcz34_2,hcz34_3,hcz34_4,hcz34_5,hcz34_6,hfz34_0,hfz34_1,hfz34_2,hfz34_3,hfz34_4,hfz34_5,hfz34_6⟩:=sq_box7 BK250.out
      go_wp2_with (first|((with_reducible refine gate_callee (f:=98) rfl ?_);refine goesL_ (some 53) rfl rfl Tryz.func98 J0 rfl #[.int .i64 a1_0] rfl J1 ?_;(with_reducible refine (table_number.calls a1_0 true _ A25.out).mono ?_);rintro e w' ⟨rfl,⟨nd,rfl⟩⟩;refine ⟨_,rfl,?_⟩)|(go_at_call 60;(with_reducible refine (table_in.calls a1_2 0 9 true _ A27.out).mono ?_);rintro e w' ⟨rfl,⟨nd,rfl⟩⟩)|(go_at_call 60;(with_reducible refine (table_in.calls a1_6 0 30 true _ A30.out).mono ?_);rintro e w' ⟨rfl,⟨nd,rfl⟩⟩))
      go_ret
      exact ⟨J21,J20⟩
     rw [if_neg c24] at H
     have c24b0:(a1_5 == (-1))=false:=beq_eq_false_iff_ne.mpr c24
     have c24b1:(a1_5 != (-1))=true:=bne_iff_ne.mpr c24
     replace H:=Y17.mp H
     obtain ⟨t256,A450,H⟩:=H
     try dsimp only at H
     have A45:=Y0 A450
     clear A450
     by_cases c46:t256=true
     rotate_left
     ·replace c46:=Bool.eq_false_iff.mpr c46
      subst c46
      rw [if_neg (show ¬ (false=true) by decide)] at H
      replace H:=Y17.mp H
      obtain ⟨t260,A700,H⟩:=H
      try dsimp only at H
      have A70:=Y0 A700
      clear A700
      by_cases c71:t260=true
      rotate_left
      ·replace c71:=Bool.eq_false_iff.mpr c71
       subst c71
       rw [if_neg (show ¬ (false=true) by decide)] at H
       obtain rfl:=Option.some.inj H
       have hnb81:=NB250_249.out
       have hnc81:=NB249_250.out
       have ⟨hcz82_0,hcz82_1,hcz82_2,hcz82_3,hcz82_4,hcz82_5,hcz82_6,hfz82_0,hfz82_1,hfz82_2,hfz82_3,hfz82_4,hfz82_5,hfz82_6⟩:=sq_box7 BK250.out
       go_wp2_with (first|(go_at_call 99;(with_reducible refine (table_keyed.calls a1_5 false _ A45.out).mono ?_);rintro e w' ⟨rfl,⟨nd,rfl⟩⟩)|((with_reducible refine gate_callee (f:=98) rfl ?_);refine goesL_ (some 53) rfl rfl Tryz.func98 J0 rfl #[.int .i64 a1_0] rfl J1 ?_;(with_reducible refine (table_number.calls a1_0 false _ A70.out).mono ?_);rintro e w' ⟨rfl,⟨nd,rfl⟩⟩;refine ⟨_,rfl,?_⟩))
       go_ret
       exact ⟨J21,J20⟩
      subst c71
      rw [if_pos rfl] at H
      replace H:=Y17.mp H
      obtain ⟨t261,A720,H⟩:=H
      try dsimp only at H
      have A72:=Y0 A720
      clear A720
      by_cases c73:t261=true
      rotate_left
      ·replace c73:=Bool.eq_false_iff.mpr c73
       subst c73
       rw [if_neg (show ¬ (false=true) by decide)] at H
       obtain rfl:=Option.some.inj H
       have hnb79:=NB250_249.out
       have hnc79:=NB249_250.out
       have ⟨hcz80_0,hcz80_1,hcz80_2,hcz80_3,hcz80_4,hcz80_5,hcz80_6,hfz80_0,hfz80_1,hfz80_2,hfz80_3,hfz80_4,hfz80_5,hfz80_6⟩:=sq_box7 BK250.out
       go_wp2_with (first|(go_at_call 99;(with_reducible refine (table_keyed.calls a1_5 false _ A45.out).mono ?_);rintro e w' ⟨rfl,⟨nd,rfl⟩⟩)|((with_reducible refine gate_callee (f:=98) rfl ?_);refine goesL_ (some 53) rfl rfl Tryz.func98 J0 rfl #[.int .i64 a1_0] rfl J1 ?_;(with_reducible refine (table_number.calls a1_0 true _ A70.out).mono ?_);rintro e w' ⟨rfl,⟨nd,rfl⟩⟩;refine ⟨_,rfl,?_⟩)|(go_at_call 60;(with_reducible refine (table_in.calls a1_2 0 9 false _ A72.out).mono ?_);rintro e w' ⟨rfl,⟨nd,rfl⟩⟩))
       go_ret
       exact ⟨J21,J20⟩
      subst c73
      rw [if_pos rfl] at H
      by_cases c74:x5_2=true
      ·subst c74
       rw [if_pos rfl] at H
       obtain rfl:=Option.some.inj H
       have hnb75:=NB250_249.out
       have hnc75:=NB249_250.out
       have ⟨hcz76_0,hcz76_1,hcz76_2,hcz76_3,hcz76_4,hcz76_5,hcz76_6,hfz76_0,hfz76_1,hfz76_2,hfz76_3,hfz76_4,hfz76_5,hfz76_6⟩:=sq_box7 BK250.out
       go_wp2_with (first|(go_at_call 99;(with_reducible refine (table_keyed.calls a1_5 false _ A45.out).mono ?_);rintro e w' ⟨rfl,⟨nd,rfl⟩⟩)|((with_reducible refine gate_callee (f:=98) rfl ?_);refine goesL_ (some 53) rfl rfl Tryz.func98 J0 rfl #[.int .i64 a1_0] rfl J1 ?_;(with_reducible refine (table_number.calls a1_0 true _ A70.out).mono ?_);rintro e w' ⟨rfl,⟨nd,rfl⟩⟩;refine ⟨_,rfl,?_⟩)|(go_at_call 60;(with_reducible refine (table_in.calls a1_2 0 9 true _ A72.out).mono ?_);rintro e w' ⟨rfl,⟨nd,rfl⟩⟩))
       go_ret
       exact ⟨J21,J20⟩
      replace c74:=Bool.eq_false_iff.mpr c74
      subst c74
      rw [if_neg (show ¬ (false=true) by decide)] at H
      obtain rfl:=Option.some.inj H
      have hnb77:=NB250_249.out
      have hnc77:=NB249_250.out
      have ⟨hcz78_0,hcz78_1,hcz78_2,hcz78_3,hcz78_4,hcz78_5,hcz78_6,hfz78_0,hfz78_1,hfz78_2,hfz78_3,hfz78_4,hfz78_5,hfz78_6⟩:=sq_box7 BK250.out
      go_wp2_with (first|(go_at_call 99;(with_reducible refine (table_keyed.calls a1_5 false _ A45.out).mono ?_);rintro e w' ⟨rfl,⟨nd,rfl⟩⟩)|((with_reducible refine gate_callee (f:=98) rfl ?_);refine goesL_ (some 53) rfl rfl Tryz.func98 J0 rfl #[.int .i64 a1_0] rfl J1 ?_;(with_reducible refine (table_number.calls a1_0 true _ A70.out).mono ?_);rintro e w' ⟨rfl,⟨nd,rfl⟩⟩;refine ⟨_,rfl,?_⟩)|(go_at_call 60;(with_reducible refine (table_in.calls a1_2 0 9 true _ A72.out).mono ?_);rintro e w' ⟨rfl,⟨nd,rfl⟩⟩))
      go_ret
      exact ⟨J21,J20⟩
     subst c46
     rw [if_pos rfl] at H
     replace H:=Y17.mp H
     obtain ⟨t257,A470,H⟩:=H
     try dsimp only at H
     have A47:=Y0 A470
     clear A470
     by_cases c48:t257=true
     rotate_left
     ·replace c48:=Bool.eq_false_iff.mpr c48
      subst c48
      rw [if_neg (show ¬ (false=true) by decide)] at H
      obtain rfl:=Option.some.inj H
      have hnb68:=NB250_249.out
      have hnc68:=NB249_250.out
      have ⟨hcz69_0,hcz69_1,hcz69_2,hcz69_3,hcz69_4,hcz69_5,hcz69_6,hfz69_0,hfz69_1,hfz69_2,hfz69_3,hfz69_4,hfz69_5,hfz69_6⟩:=sq_box7 BK250.out
      go_wp2_with (first|(go_at_call 99;(with_reducible refine (table_keyed.calls a1_5 true _ A45.out).mono ?_);rintro e w' ⟨rfl,⟨nd,rfl⟩⟩)|((with_reducible refine gate_callee (f:=98) rfl ?_);refine goesL_ (some 53) rfl rfl Tryz.func98 J0 rfl #[.int .i64 a1_0] rfl J1 ?_;(with_reducible refine (table_number.calls a1_0 false _ A47.out).mono ?_);rintro e w' ⟨rfl,⟨nd,rfl⟩⟩;refine ⟨_,rfl,?_⟩))
      go_ret
      exact ⟨J21,J20⟩
     subst c48
     rw [if_pos rfl] at H
     replace H:=Y17.mp H
     obtain ⟨t258,A490,H⟩:=H
     try dsimp only at H
     have A49:=Y0 A490
     clear A490
     by_cases c50:t258=true
     rotate_left
     ·replace c50:=Bool.eq_false_iff.mpr c50
      subst c50
      rw [if_neg (show ¬ (false=true) by decide)] at H
      obtain rfl:=Option.some.inj H
      have hnb66:=NB250_249.out
      have hnc66:=NB249_250.out
      have ⟨hcz67_0,hcz67_1,hcz67_2,hcz67_3,hcz67_4,hcz67_5,hcz67_6,hfz67_0,hfz67_1,hfz67_2,hfz67_3,hfz67_4,hfz67_5,hfz67_6⟩:=sq_box7 BK250.out
      go_wp2_with (first|(go_at_call 99;(with_reducible refine (table_keyed.calls a1_5 true _ A45.out).mono ?_);rintro e w' ⟨rfl,⟨nd,rfl⟩⟩)|((with_reducible refine gate_callee (f:=98) rfl ?_);refine goesL_ (some 53) rfl rfl Tryz.func98 J0 rfl #[.int .i64 a1_0] rfl J1 ?_;(with_reducible refine (table_number.calls a1_0 true _ A47.out).mono ?_);rintro e w' ⟨rfl,⟨nd,rfl⟩⟩;refine ⟨_,rfl,?_⟩)|(go_at_call 60;(with_reducible refine (table_in.calls a1_2 0 9 false _ A49.out).mono ?_);rintro e w' ⟨rfl,⟨nd,rfl⟩⟩))
      go_ret
      exact ⟨J21,J20⟩
     subst c50
     rw [if_pos rfl] at H
     by_cases c51:x5_2=true
     rotate_left
     ·replace c51:=Bool.eq_false_iff.mpr c51
      subst c51
      rw [if_neg (show ¬ (false=true) by decide)] at H
      obtain rfl:=Option.some.inj H
      have hnb64:=NB250_249.out
      have hnc64:=NB249_250.out
      have ⟨hcz65_0,hcz65_1,hcz65_2,hcz65_3,hcz65_4,hcz65_5,hcz65_6,hfz65_0,hfz65_1,hfz65_2,hfz65_3,hfz65_4,hfz65_5,hfz65_6⟩:=sq_box7 BK250.out
      go_wp2_with (first|(go_at_call 99;(with_reducible refine (table_keyed.calls a1_5 true _ A45.out).mono ?_);rintro e w' ⟨rfl,⟨nd,rfl⟩⟩)|((with_reducible refine gate_callee (f:=98) rfl ?_);refine goesL_ (some 53) rfl rfl Tryz.func98 J0 rfl #[.int .i64 a1_0] rfl J1 ?_;(with_reducible refine (table_number.calls a1_0 true _ A47.out).mono ?_);rintro e w' ⟨rfl,⟨nd,rfl⟩⟩;refine ⟨_,rfl,?_⟩)|(go_at_call 60;(with_reducible refine (table_in.calls a1_2 0 9 true _ A49.out).mono ?_);rintro e w' ⟨rfl,⟨nd,rfl⟩⟩))
      go_ret
      exact ⟨J21,J20⟩
     subst c51
     rw [if_pos rfl] at H
     by_cases c52:a1_4=true
     ·subst c52
      rw [if_pos rfl] at H
      obtain rfl:=Option.some.inj H
      have hnb53:=NB250_249.out
      have hnc53:=NB249_250.out
      have ⟨hcz54_0,hcz54_1,hcz54_2,hcz54_3,hcz54_4,hcz54_5,hcz54_6,hfz54_0,hfz54_1,hfz54_2,hfz54_3,hfz54_4,hfz54_5,hfz54_6⟩:=sq_box7 BK250.out
      go_wp2_with (first|(go_at_call 99;(with_reducible refine (table_keyed.calls a1_5 true _ A45.out).mono ?_);rintro e w' ⟨rfl,⟨nd,rfl⟩⟩)|((with_reducible refine gate_callee (f:=98) rfl ?_);refine goesL_ (some 53) rfl rfl Tryz.func98 J0 rfl #[.int .i64 a1_0] rfl J1 ?_;(with_reducible refine (table_number.calls a1_0 true _ A47.out).mono ?_);rintro e w' ⟨rfl,⟨nd,rfl⟩⟩;refine ⟨_,rfl,?_⟩)|(go_at_call 60;(with_reducible refine (table_in.calls a1_2 0 9 true _ A49.out).mono ?_);rintro e w' ⟨rfl,⟨nd,rfl⟩⟩))
      go_ret
      exact ⟨J21,J20⟩
     replace c52:=Bool.eq_false_iff.mpr c52
     subst c52
     rw [if_neg (show ¬ (false=true) by decide)] at H
     replace H:=Y17.mp H
     obtain ⟨t259,A550,H⟩:=H
     try dsimp only at H
     have A55:=Y0 A550
     clear A550
     by_cases c56:t259=true
     rotate_left
     ·replace c56:=Bool.eq_false_iff.mpr c56
      subst c56
      rw [if_neg (show ¬ (false=true) by decide)] at H
      obtain rfl:=Option.some.inj H
      have hnb62:=NB250_249.out
      have hnc62:=NB249_250.out
      have ⟨hcz63_0,hcz63_1,hcz63_2,hcz63_3,hcz63_4,hcz63_5,hcz63_6,hfz63_0,hfz63_1,hfz63_2,hfz63_3,hfz63_4,hfz63_5,hfz63_6⟩:=sq_box7 BK250.out
      go_wp2_with (first|(go_at_call 99;(with_reducible refine (table_keyed.calls a1_5 true _ A45.out).mono ?_);rintro e w' ⟨rfl,⟨nd,rfl⟩⟩)|((with_reducible refine gate_callee (f:=98) rfl ?_);refine goesL_ (some 53) rfl rfl Tryz.func98 J0 rfl #[.int .i64 a1_0] rfl J1 ?_;(with_reducible refine (table_number.calls a1_0 true _ A47.out).mono ?_);rintro e w' ⟨rfl,⟨nd,rfl⟩⟩;refine ⟨_,rfl,?_⟩)|(go_at_call 60;(with_reducible refine (table_in.calls a1_2 0 9 true _ A49.out).mono ?_);rintro e w' ⟨rfl,⟨nd,rfl⟩⟩)|(go_at_call 60;(with_reducible refine (table_in.calls a1_6 0 30 false _ A55.out).mono ?_);rintro e w' ⟨rfl,⟨nd,rfl⟩⟩))
      go_ret
      exact ⟨J21,J20⟩
     subst c56
     rw [if_pos rfl] at H
     by_cases c57:a1_6=0
     rotate_left
     ·rw [if_neg c57] at H
      have c57b0:(a1_6 == 0)=false:=beq_eq_false_iff_ne.mpr c57
      have c57b1:(a1_6 != 0)=true:=bne_iff_ne.mpr c57
      obtain rfl:=Option.some.inj H
      have hnb60:=NB250_249.out
      have hnc60:=NB249_250.out
      have ⟨hcz61_0,hcz61_1,hcz61_2,hcz61_3,hcz61_4,hcz61_5,hcz61_6,hfz61_0,hfz61_1,hfz61_2,hfz61_3,hfz61_4,hfz61_5,hfz61_6⟩:=sq_box7 BK250.out
      go_wp2_with (first|(go_at_call 99;(with_reducible refine (table_keyed.calls a1_5 true _ A45.out).mono ?_);rintro e w' ⟨rfl,⟨nd,rfl⟩⟩)|((with_reducible refine gate_callee (f:=98) rfl ?_);refine goesL_ (some 53) rfl rfl Tryz.func98 J0 rfl #[.int .i64 a1_0] rfl J1 ?_;(with_reducible refine (table_number.calls a1_0 true _ A47.out).mono ?_);rintro e w' ⟨rfl,⟨nd,rfl⟩⟩;refine ⟨_,rfl,?_⟩)|(go_at_call 60;(with_reducible refine (table_in.calls a1_2 0 9 true _ A49.out).mono ?_);rintro e w' ⟨rfl,⟨nd,rfl⟩⟩)|(go_at_call 60;(with_reducible refine (table_in.calls a1_6 0 30 true _ A55.out).mono ?_);rintro e w' ⟨rfl,⟨nd,rfl⟩⟩))
      go_ret
      exact ⟨J21,J20⟩
     rw [if_pos c57] at H
     have c57b0:(a1_6 == 0)=true:=beq_iff_eq.mpr c57
     have c57b1:(a1_6 != 0)=false:=bne_eq_false_iff_eq.mpr c57
     clear c57
     obtain rfl:=Option.some.inj H
     have hnb58:=NB250_249.out
     have hnc58:=NB249_250.out
     have ⟨hcz59_0,hcz59_1,hcz59_2,hcz59_3,hcz59_4,hcz59_5,hcz59_6,hfz59_0,hfz59_1,hfz59_2,hfz59_3,hfz59_4,hfz59_5,hfz59_6⟩:=sq_box7 BK250.out
     go_wp2_with (first|(go_at_call 99;(with_reducible refine (table_keyed.calls a1_5 true _ A45.out).mono ?_);rintro e w' ⟨rfl,⟨nd,rfl⟩⟩)|((with_reducible refine gate_callee (f:=98) rfl ?_);refine goesL_ (some 53) rfl rfl Tryz.func98 J0 rfl #[.int .i64 a1_0] rfl J1 ?_;(with_reducible refine (table_number.calls a1_0 true _ A47.out).mono ?_);rintro e w' ⟨rfl,⟨nd,rfl⟩⟩;refine ⟨_,rfl,?_⟩)|(go_at_call 60;(with_reducible refine (table_in.calls a1_2 0 9 true _ A49.out).mono ?_);rintro e w' ⟨rfl,⟨nd,rfl⟩⟩)|(go_at_call 60;(with_reducible refine (table_in.calls a1_6 0 30 true _ A55.out).mono ?_);rintro e w' ⟨rfl,⟨nd,rfl⟩⟩))
     go_ret
     exact ⟨J21,J20⟩
def SameT (w:World) (b:Bool) (e:Ending) (w':World):Prop:=e = .returned (.bool b)∧Below w.heap.size w w'
def idxW {α:Type} (p:α→Bool):List α→Int→Int
 | [],_=>-1
 | x :: r,i=>if p x=true then i else idxW p r (i + 1)
def hasName (x:S51) (nm:ByteArray):Bool:=x.f1.toList == nm.toList
def hasNo (x:S51) (no:Int):Bool:=x.f0 == no
def msgName (x:S57) (nm:ByteArray):Bool:=x.f0.toList == nm.toList
theorem find_c (x:S51) (nb:Nat) (nm:ByteArray) (b:Bool) (hb:hasName x nm=b) (W:World) (hn:W.heap[nb]?=some (.cells #[.string nm] 9 (0,0))) :
  Calls Tryz.prog 65 #[.agg #[.int .i64 x.f0,.string x.f1,.int .i64 x.f2,.int .i64 x.f3,.bool x.f4,.int .i64 x.f5,.int .i64 x.f6],.pointer (some ⟨nb,0,none⟩)] W (SameT W b):=by
 have c0:∀ o,(W.alloc o).cell? ⟨nb,0,none⟩=some (.string nm):=fun o=>(blk_cell (blk_alloc hn o) 0).trans rfl
 clear hn
 unfold hasName at hb
 subst hb
 by_cases he:x.f1=nm
 ·subst he
  have q2:(x.f1.toList == x.f1.toList)=true:=beq_self_eq_true _
  rw [q2]
  go_enter Tryz.func65,Tryz.ntmps65
  go_wp2
  go_ret
  exact ⟨rfl,below_alloc (Below.refl _ _) _⟩
 ·have q2:(x.f1.toList == nm.toList)=false:=by rw [beq_eq_false_iff_ne];exact fun e=>he (toList_inj e)
  have q3:decide (x.f1=nm)=false:=decide_eq_false he
  rw [q2]
  go_enter Tryz.func65,Tryz.ntmps65
  go_wp2
  go_ret
  exact ⟨rfl,below_alloc (Below.refl _ _) _⟩
theorem by_c (x:S51) (nb:Nat) (nm:Int) (b:Bool) (hb:hasNo x nm=b) (W:World) (hn:W.heap[nb]?=some (.cells #[.int .i64 nm] 3 (0,0))) :
  Calls Tryz.prog 66 #[.agg #[.int .i64 x.f0,.string x.f1,.int .i64 x.f2,.int .i64 x.f3,.bool x.f4,.int .i64 x.f5,.int .i64 x.f6],.pointer (some ⟨nb,0,none⟩)] W (SameT W b):=by
 have c0:∀ o,(W.alloc o).cell? ⟨nb,0,none⟩=some (.int .i64 nm):=fun o=>(blk_cell (blk_alloc hn o) 0).trans rfl
 clear hn
 unfold hasNo at hb
 subst hb
 by_cases he:x.f0=nm
 ·have q2:(x.f0 == nm)=true:=by rw [he];exact beq_self_eq_true _
  rw [q2]
  go_enter Tryz.func66,Tryz.ntmps66
  go_wp2
  go_ret
  exact ⟨rfl,below_alloc (Below.refl _ _) _⟩
 ·have q2:(x.f0 == nm)=false:=beq_eq_false_iff_ne.2 he
  rw [q2]
  go_enter Tryz.func66,Tryz.ntmps66
  go_wp2
  go_ret
  exact ⟨rfl,below_alloc (Below.refl _ _) _⟩
theorem root_c (x:S57) (A3:Option Addr) (c3:Nat) (nb:Nat) (nm:ByteArray) (b:Bool) (hb:msgName x nm=b) (W:World) (hn:W.heap[nb]?=some (.cells #[.string nm] 9 (0,0))) :
  Calls Tryz.prog 68 #[.agg #[.string x.f0,.slice A3 x.f1.length c3],.pointer (some ⟨nb,0,none⟩)] W (SameT W b):=by
 have c0:∀ o,(W.alloc o).cell? ⟨nb,0,none⟩=some (.string nm):=fun o=>(blk_cell (blk_alloc hn o) 0).trans rfl
 clear hn
 unfold msgName at hb
 subst hb
 by_cases he:x.f0=nm
 ·subst he
  have q2:(x.f0.toList == x.f0.toList)=true:=beq_self_eq_true _
  rw [q2]
  go_enter Tryz.func68,Tryz.ntmps68
  go_wp2
  go_ret
  exact ⟨rfl,below_alloc (Below.refl _ _) _⟩
 ·have q2:(x.f0.toList == nm.toList)=false:=by rw [beq_eq_false_iff_ne];exact fun e=>he (toList_inj e)
  have q3:decide (x.f0=nm)=false:=decide_eq_false he
  rw [q2]
  go_enter Tryz.func68,Tryz.ntmps68
  go_wp2
  go_ret
  exact ⟨rfl,below_alloc (Below.refl _ _) _⟩
set_option maxRecDepth 100000 in
set_option maxHeartbeats 4000000 in
theorem idx_find (l:List (S51)) (A:Option Addr) (c:Nat) (nb:Nat) (nm:ByteArray) (w:World) (hC:k51.C w A l.length l) (hc:l.length≤c) (hn:w.heap[nb]?=some (.cells #[.string nm] 9 (0,0))) :
  Calls Tryz.prog 108 #[.slice A l.length c,.func (.func 65) #[] #[.pointer (some ⟨nb,0,none⟩)]] w fun e w'=>e = .returned (.int .i64 (idxW (fun x=>hasName x nm) l 0))∧Below w.heap.size w w':=by
 have HC:=Y0 hC
 have HN:=Y0 hn
 have hm1:=Kd.C_max hC
 clear hC hn
 go_enter Tryz.func108,Tryz.ntmps108
 go_wp2
 go_loopg [8] l.length (fun n v W=>∃ i:Nat,v = .int .i64 i∧Aside0 (idxW (fun x=>hasName x nm) (l.drop i) i=idxW (fun x=>hasName x nm) l 0)∧Aside0 (Below w.heap.size w W)∧Aside0 (i + n=l.length))
 case atStart=>exact ⟨0,rfl,⟨rfl⟩,⟨Below.refl _ _⟩,⟨J7⟩⟩
 case round =>
  obtain ⟨i,rfl,HS,HB,HL⟩:=hrel
  by_cases hlt:i < l.length
  ·have hst:=HS.out
   rw [List.drop_eq_getElem_cons hlt,idxW] at hst
   have HT:=Y0 hst
   clear HS hst
   have d3:(0:Int)≤(i:Int):=by omega
   have d4:(i:Int) < (l.length:Int):=by omega
   obtain ⟨ad,had,z0,z1,z2,z3,z4,z5,z6⟩:=at_T51 HC.out i d3 d4
   obtain ⟨x,hx⟩:∃ x,x=l[i]'hlt:=⟨_,rfl⟩
   have hrd:rd_T51 l i=x:=by unfold rd_T51;rw [hx,List.getD_eq_getElem?_getD];simp [hlt]
   rw [hrd] at z0 z1 z2 z3 z4 z5 z6
   rw [Int.toNat_natCast] at z0 z1 z2 z3 z4 z5 z6
   replace z0:=(HB.out.cell (World.block_lt_of_cell? w _ z0)).trans z0
   replace z1:=(HB.out.cell (World.block_lt_of_cell? w _ z1)).trans z1
   replace z2:=(HB.out.cell (World.block_lt_of_cell? w _ z2)).trans z2
   replace z3:=(HB.out.cell (World.block_lt_of_cell? w _ z3)).trans z3
   replace z4:=(HB.out.cell (World.block_lt_of_cell? w _ z4)).trans z4
   replace z5:=(HB.out.cell (World.block_lt_of_cell? w _ z5)).trans z5
   replace z6:=(HB.out.cell (World.block_lt_of_cell? w _ z6)).trans z6
   clear hrd
   subst had
   rw [← hx] at HT
   clear hx
   obtain ⟨b,hb⟩:∃ b,hasName x nm=b:=⟨_,rfl⟩
   rw [hb] at HT
   have HBX:=Y0 hb
   have HN1:=Y0 (blk_below HN.out HB.out)
   clear hb
   cases gk with
   | zero=>have:=HL.out;omega
   | succ k1 =>
    cases b
    ·have hF:Aside0 (idxW (fun x=>hasName x nm) (l.drop (i + 1)) ((i + 1:Nat):Int)=idxW (fun x=>hasName x nm) l 0):=⟨HT.out⟩
     clear HT
     go_wp2_with (go_at_call 65;refine (find_c x nb nm _ HBX.out _ HN1.out).mono ?_;rintro e W1 ⟨rfl,hB1⟩)
     go_roundg k1
     case measure=>omega
     case rel=>exact ⟨i + 1,J112,hF,⟨below_step HB.out hB1⟩,⟨J69⟩⟩
    ·have hT:Aside0 ((i:Int)=idxW (fun x=>hasName x nm) l 0):=⟨HT.out⟩
     clear HT
     go_wp2_with (go_at_call 65;refine (find_c x nb nm _ HBX.out _ HN1.out).mono ?_;rintro e W1 ⟨rfl,hB1⟩)
     go_ret
     exact ⟨J157,below_step HB.out hB1⟩
  ·have hF:Aside0 ((-1:Int)=idxW (fun x=>hasName x nm) l 0):=⟨J119⟩
   clear HS
   go_wp2
   go_ret
   exact ⟨J122,HB.out⟩
set_option maxRecDepth 100000 in
set_option maxHeartbeats 4000000 in
theorem idx_by (l:List (S51)) (A:Option Addr) (c:Nat) (nb:Nat) (nm:Int) (w:World) (hC:k51.C w A l.length l) (hc:l.length≤c) (hn:w.heap[nb]?=some (.cells #[.int .i64 nm] 3 (0,0))) :
  Calls Tryz.prog 108 #[.slice A l.length c,.func (.func 66) #[] #[.pointer (some ⟨nb,0,none⟩)]] w fun e w'=>e = .returned (.int .i64 (idxW (fun x=>hasNo x nm) l 0))∧Below w.heap.size w w':=by
 have HC:=Y0 hC
 have HN:=Y0 hn
 have hm1:=Kd.C_max hC
 clear hC hn
 go_enter Tryz.func108,Tryz.ntmps108
 go_wp2
 go_loopg [8] l.length (fun n v W=>∃ i:Nat,v = .int .i64 i∧Aside0 (idxW (fun x=>hasNo x nm) (l.drop i) i=idxW (fun x=>hasNo x nm) l 0)∧Aside0 (Below w.heap.size w W)∧Aside0 (i + n=l.length))
 case atStart=>exact ⟨0,rfl,⟨rfl⟩,⟨Below.refl _ _⟩,⟨J7⟩⟩
 case round =>
  obtain ⟨i,rfl,HS,HB,HL⟩:=hrel
  by_cases hlt:i < l.length
  ·have hst:=HS.out
   rw [List.drop_eq_getElem_cons hlt,idxW] at hst
   have HT:=Y0 hst
   clear HS hst
   have d3:(0:Int)≤(i:Int):=by omega
   have d4:(i:Int) < (l.length:Int):=by omega
   obtain ⟨ad,had,z0,z1,z2,z3,z4,z5,z6⟩:=at_T51 HC.out i d3 d4
   obtain ⟨x,hx⟩:∃ x,x=l[i]'hlt:=⟨_,rfl⟩
   have hrd:rd_T51 l i=x:=by unfold rd_T51;rw [hx,List.getD_eq_getElem?_getD];simp [hlt]
   rw [hrd] at z0 z1 z2 z3 z4 z5 z6
   rw [Int.toNat_natCast] at z0 z1 z2 z3 z4 z5 z6
   replace z0:=(HB.out.cell (World.block_lt_of_cell? w _ z0)).trans z0
   replace z1:=(HB.out.cell (World.block_lt_of_cell? w _ z1)).trans z1
   replace z2:=(HB.out.cell (World.block_lt_of_cell? w _ z2)).trans z2
   replace z3:=(HB.out.cell (World.block_lt_of_cell? w _ z3)).trans z3
   replace z4:=(HB.out.cell (World.block_lt_of_cell? w _ z4)).trans z4
   replace z5:=(HB.out.cell (World.block_lt_of_cell? w _ z5)).trans z5
   replace z6:=(HB.out.cell (World.block_lt_of_cell? w _ z6)).trans z6
   clear hrd
   subst had
   rw [← hx] at HT
   clear hx
   obtain ⟨b,hb⟩:∃ b,hasNo x nm=b:=⟨_,rfl⟩
   rw [hb] at HT
   have HBX:=Y0 hb
   have HN1:=Y0 (blk_below HN.out HB.out)
   clear hb
   cases gk with
   | zero=>have:=HL.out;omega
   | succ k1 =>
    cases b
    ·have hF:Aside0 (idxW (fun x=>hasNo x nm) (l.drop (i + 1)) ((i + 1:Nat):Int)=idxW (fun x=>hasNo x nm) l 0):=⟨HT.out⟩
     clear HT
     go_wp2_with (go_at_call 66;refine (by_c x nb nm _ HBX.out _ HN1.out).mono ?_;rintro e W1 ⟨rfl,hB1⟩)
     go_roundg k1
     case measure=>omega
     case rel=>exact ⟨i + 1,J112,hF,⟨below_step HB.out hB1⟩,⟨J69⟩⟩
    ·have hT:Aside0 ((i:Int)=idxW (fun x=>hasNo x nm) l 0):=⟨HT.out⟩
     clear HT
     go_wp2_with (go_at_call 66;refine (by_c x nb nm _ HBX.out _ HN1.out).mono ?_;rintro e W1 ⟨rfl,hB1⟩)
     go_ret
     exact ⟨J157,below_step HB.out hB1⟩
  ·have hF:Aside0 ((-1:Int)=idxW (fun x=>hasNo x nm) l 0):=⟨J119⟩
   clear HS
   go_wp2
   go_ret
   exact ⟨J122,HB.out⟩
set_option maxRecDepth 100000 in
set_option maxHeartbeats 4000000 in
theorem idx_root (l:List (S57)) (A:Option Addr) (c:Nat) (nb:Nat) (nm:ByteArray) (w:World) (hC:k57.C w A l.length l) (hc:l.length≤c) (hn:w.heap[nb]?=some (.cells #[.string nm] 9 (0,0))) :
  Calls Tryz.prog 67 #[.slice A l.length c,.func (.func 68) #[] #[.pointer (some ⟨nb,0,none⟩)]] w fun e w'=>e = .returned (.int .i64 (idxW (fun x=>msgName x nm) l 0))∧Below w.heap.size w w':=by
 have HC:=Y0 hC
 have HN:=Y0 hn
 have hm1:=Kd.C_max hC
 clear hC hn
 go_enter Tryz.func67,Tryz.ntmps67
 go_wp2
 go_loopg [8] l.length (fun n v W=>∃ i:Nat,v = .int .i64 i∧Aside0 (idxW (fun x=>msgName x nm) (l.drop i) i=idxW (fun x=>msgName x nm) l 0)∧Aside0 (Below w.heap.size w W)∧Aside0 (i + n=l.length))
 case atStart=>exact ⟨0,rfl,⟨rfl⟩,⟨Below.refl _ _⟩,⟨J7⟩⟩
 case round =>
  obtain ⟨i,rfl,HS,HB,HL⟩:=hrel
  by_cases hlt:i < l.length
  ·have hst:=HS.out
   rw [List.drop_eq_getElem_cons hlt,idxW] at hst
   have HT:=Y0 hst
   clear HS hst
   have d3:(0:Int)≤(i:Int):=by omega
   have d4:(i:Int) < (l.length:Int):=by omega
   obtain ⟨ad,A3,c3,had,z0,z1,lc3,kc3⟩:=at_T57 HC.out i d3 d4
   obtain ⟨x,hx⟩:∃ x,x=l[i]'hlt:=⟨_,rfl⟩
   have hrd:rd_T57 l i=x:=by unfold rd_T57;rw [hx,List.getD_eq_getElem?_getD];simp [hlt]
   rw [hrd] at z0 z1 lc3 kc3
   rw [Int.toNat_natCast] at z0 z1
   replace z0:=(HB.out.cell (World.block_lt_of_cell? w _ z0)).trans z0
   replace z1:=(HB.out.cell (World.block_lt_of_cell? w _ z1)).trans z1
   clear hrd
   subst had
   rw [← hx] at HT
   clear hx
   obtain ⟨b,hb⟩:∃ b,msgName x nm=b:=⟨_,rfl⟩
   rw [hb] at HT
   have HBX:=Y0 hb
   have HN1:=Y0 (blk_below HN.out HB.out)
   clear hb
   cases gk with
   | zero=>have:=HL.out;omega
   | succ k1 =>
    cases b
    ·have hF:Aside0 (idxW (fun x=>msgName x nm) (l.drop (i + 1)) ((i + 1:Nat):Int)=idxW (fun x=>msgName x nm) l 0):=⟨HT.out⟩
     clear HT
     go_wp2_with (go_at_call 68;refine (root_c x A3 c3 nb nm _ HBX.out _ HN1.out).mono ?_;rintro e W1 ⟨rfl,hB1⟩)
     go_roundg k1
     case measure=>omega
     case rel=>exact ⟨i + 1,J112,hF,⟨below_step HB.out hB1⟩,⟨J69⟩⟩
    ·have hT:Aside0 ((i:Int)=idxW (fun x=>msgName x nm) l 0):=⟨HT.out⟩
     clear HT
     go_wp2_with (go_at_call 68;refine (root_c x A3 c3 nb nm _ HBX.out _ HN1.out).mono ?_;rintro e W1 ⟨rfl,hB1⟩)
     go_ret
     exact ⟨J157,below_step HB.out hB1⟩
  ·have hF:Aside0 ((-1:Int)=idxW (fun x=>msgName x nm) l 0):=⟨J119⟩
   clear HS
   go_wp2
   go_ret
   exact ⟨J122,HB.out⟩
def cntO {κ:Type} [DecidableEq κ] (ks:List κ) (i:Nat) (x:κ):Option Int:=if (ks.take i).count x=0 then none else some ((ks.take i).count x:Int)
def cntN {κ:Type} [DecidableEq κ] (ks:List κ) (i:Nat) (x:κ):Nat:=(ks.take i).count x
theorem cntN_le {κ:Type} [DecidableEq κ] (ks:List κ) (i:Nat) (x:κ):cntN ks i x≤i:=Nat.le_trans List.count_le_length J129
theorem cntO_get {κ:Type} [DecidableEq κ] (ks:List κ) (i:Nat) (x:κ):(cntO ks i x).getD 0=(cntN ks i x:Int):=by
 unfold cntO cntN
 by_cases h:(ks.take i).count x=0
 ·rw [if_pos h,h];rfl
 ·rw [if_neg h];rfl
def leftO {κ:Type} [DecidableEq κ] (ks:List κ) (i:Nat) (x:κ):Option Int:=if ks.count x=0 then none else if ks.count x=1∧x ∈ ks.take i then none else some (ks.count x:Int)
def uniqB {κ:Type} [DecidableEq κ] (ks:List κ):Bool:=decide (∀ x ∈ ks,ks.count x=1)
theorem wf_i64 {q:Int} (h : -9223372036854775808≤q∧q≤9223372036854775807):(Lit.int .i64 q).wf=true:=by
 simp [Lit.wf,IntKind.min,IntKind.max,IntKind.signed,IntKind.bits]
 omega
section
variable {κ:Type} [DecidableEq κ] (ks:List κ) (i:Nat) (hi:i < ks.length) (y:κ) (hy:ks[i]=y)
include hi hy
theorem cntO_step (q:Nat) (hq:q=cntN ks i y) (x:κ):(if x=y then some ((q:Int) + 1) else cntO ks i x)=cntO ks (i + 1) x:=by
 unfold cntN at hq
 unfold cntO
 rw [List.take_succ_eq_append_getElem hi,List.count_append,hy]
 by_cases h:x=y
 ·subst h
  rw [if_pos rfl,← hq]
  simp
 ·rw [if_neg h]
  have:List.count x [y]=0:=by rw [List.count_eq_zero];simpa using h
  rw [this,Nat.add_zero]
theorem left_del (h1:(leftO ks i y).getD 0=1) (x:κ):(if x=y then none else leftO ks i x)=leftO ks (i + 1) x:=by
 have hm:y ∈ ks:=by rw [← hy];exact List.getElem_mem hi
 have hp:0 < ks.count y:=List.count_pos_iff.2 hm
 have hc:ks.count y=1:=by
  unfold leftO at h1
  rw [if_neg J7] at h1
  split at h1
  ·simp at h1
  ·simp at h1;omega
 unfold leftO
 rw [List.take_succ_eq_append_getElem hi,hy]
 by_cases h:x=y
 ·subst h
  simp [hc]
 ·simp [h]
theorem left_keep (h1:(leftO ks i y).getD 0≠1) (x:κ):leftO ks i x=leftO ks (i + 1) x:=by
 have hm:y ∈ ks:=by rw [← hy];exact List.getElem_mem hi
 have hp:0 < ks.count y:=List.count_pos_iff.2 hm
 have hc:ks.count y≠1:=by
  intro hc
  have hn:y ∉ ks.take i:=by
   intro hn
   have h2:1≤(ks.take i).count y:=List.count_pos_iff.2 hn
   have h3:1≤(ks.drop i).count y:=List.count_pos_iff.2 (by rw [List.drop_eq_getElem_cons hi,hy];simp)
   have h4:=congrArg (List.count y) (List.take_append_drop i ks)
   rw [List.count_append] at h4
   omega
  unfold leftO at h1
  rw [if_neg J7,if_neg (fun h=>hn h.2),hc] at h1
  exact h1 rfl
 unfold leftO
 rw [List.take_succ_eq_append_getElem hi,hy]
 by_cases h:x=y
 ·subst h
  simp [hc]
 ·simp [h]
end
section
variable {κ:Type} [DecidableEq κ] (ks:List κ) (i:Nat) (hi:ks.length≤i)
include hi
theorem left_start (x:κ):cntO ks i x=leftO ks 0 x:=by
 unfold cntO leftO
 rw [List.take_of_length_le hi]
 by_cases h:ks.count x=0
 ·rw [if_pos h,if_pos h]
 ·rw [if_neg h,if_neg h,if_neg (fun h=>by simp at h)]
theorem left_end:((∀ x,leftO ks i x=none)→uniqB ks=true)∧(uniqB ks=true→∀ x,leftO ks i x=none):=by
 unfold leftO uniqB
 rw [List.take_of_length_le hi]
 constructor
 ·intro h
  rw [decide_eq_true_eq]
  intro x hx
  have h1:=h x
  have hp:0 < ks.count x:=List.count_pos_iff.2 hx
  rw [if_neg J7] at h1
  by_cases hc:ks.count x=1
  ·exact hc
  ·rw [if_neg (fun h=>hc h.1)] at h1;cases h1
 ·intro h x
  rw [decide_eq_true_eq] at h
  by_cases hc:ks.count x=0
  ·rw [if_pos hc]
  ·have hx:x ∈ ks:=List.count_pos_iff.1 J7
   rw [if_neg hc,if_pos ⟨h x hx,hx⟩]
end
theorem uniq_s_und:Tryz.prog.underlying 114=some (.map 9 3):=by kernel_rfl
theorem uniq_s_look {W:World} {mb n:Nat} {f:(List UInt8)→Option Int} (h:GM 9 slit (plainElem Tryz.prog 3) eInt W mb n f) {s:ByteArray} (hs:s.size≤maxLen) :
  (Instr.lookup 114 (.map (some mb)) (.string s) false).run Tryz.prog W = .ok (.int .i64 ((f (bl s)).getD 0)) W:=by
 obtain ⟨v,ps,h1,h2⟩:=GM.look h key_str uniq_s_und (tb_zInt W) (eInt_el J11) (at_str hs)
 obtain ⟨a,rfl,h3,_⟩:=plainElem_int_inv tb_int h2
 have h4:(f (bl s)).getD 0=a:=by
  cases hf:f (bl s) with
  | none=>rw [hf] at h3;simp [eInt] at h3;exact h3.1
  | some y=>rw [hf] at h3;simp [eInt] at h3;exact h3.1
 rw [h4]
 exact h1
set_option maxRecDepth 100000 in
set_option maxHeartbeats 4000000 in
theorem uniq_s (l:List ByteArray) (A:Option Addr) (c:Nat) (w:World) (hC:Kd.string.C w A l.length l) (hc:l.length≤c) (hz:∀ s ∈ l,s.size≤maxLen) :
  Calls Tryz.prog 63 #[.slice A l.length c] w (SameT w (uniqB (l.map bl))):=by
 have HC:=Y0 hC
 have hm1:=Kd.C_max hC
 have HZ:=Y0 hz
 clear hC hz
 obtain ⟨ks,hks⟩:∃ ks,ks=l.map bl:=⟨_,rfl⟩
 have hlen:ks.length=l.length:=by rw [hks];first|done|simp
 have HKS:=Y0 hks
 have HLEN:=Y0 hlen
 rw [← hks]
 clear hks hlen
 have g0:GM 9 slit (plainElem Tryz.prog 3) eInt (w.alloc (.map #[] 0)) w.heap.size 0 (cntO ks 0):=(GM.made w).mono (Nat.le_refl _) (fun x=>by simp [cntO])
 have G0:=Y0 g0
 have B0:=Y0 (below_alloc (Below.refl w.heap.size w) (.map #[] 0))
 clear g0
 have hmm:=@run_makeMap Tryz.prog
 go_enter Tryz.func63,Tryz.ntmps63
 go_wp2
 clear hmm
 go_loopg [11] l.length (fun n v W=>∃ i:Nat,v = .int .i64 i∧Aside0 (GM 9 slit (plainElem Tryz.prog 3) eInt W w.heap.size i (cntO ks i))∧Aside0 (Below w.heap.size w W)∧Aside0 (i + n=l.length))
 case atStart=>exact ⟨0,rfl,G0,B0,⟨J7⟩⟩
 case round =>
  clear G0 B0
  obtain ⟨i,rfl,HG,HB,HL⟩:=hrel
  by_cases hlt:i < l.length
  ·have d3:(0:Int)≤(i:Int):=by omega
   have d4:(i:Int) < (l.length:Int):=by omega
   obtain ⟨x,hx⟩:∃ x,x=l[i]'hlt:=⟨_,rfl⟩
   obtain ⟨ad,had,z0⟩:=Kd.at_string HC.out i d3 d4
   have hrd:rdOf ByteArray.empty l i=x:=by unfold rdOf;rw [hx,List.getD_eq_getElem?_getD];simp [hlt]
   rw [hrd] at z0
   subst had
   rw [Int.toNat_natCast] at z0
   have hxz:=HZ.out x J87
   have hki:i < ks.length:=by have:=HLEN.out;omega
   have hkx:ks[i]=bl x:=by have:=HKS.out;subst this;simp [hx]
   clear hrd hx
   replace z0:=(HB.out.cell (World.block_lt_of_cell? w _ z0)).trans z0
   have hl:=uniq_s_look HG.out hxz
   obtain ⟨q,hq⟩:∃ q:Nat,q=cntN ks i (bl x):=⟨_,rfl⟩
   have hqb:q≤i:=by rw [hq];exact cntN_le ks i _
   have hqv:(cntO ks i (bl x)).getD 0=(q:Int):=by rw [cntO_get,← hq]
   rw [hqv] at hl
   have d5:(0:Int)≤(q:Int):=by omega
   have d6:(q:Int)≤9223372036854775806:=by omega
   obtain ⟨W',hr,hg',hb'⟩:=GM.put (y:=(q:Int) + 1) HG.out key_str uniq_s_und J149 (at_str hxz) (eInt_el (wf_i64 J7))
   have hg2:=Y0 (GM.mono (n':=i + 1) (f':=cntO ks (i + 1)) hg' (Nat.le_refl _) (cntO_step ks i hki _ hkx q hq))
   have HB2:=Y0 (HB.out.grown hb' HB.out.size (fun k e=>by injection e with e;omega))
   clear hg' hb' hq hqv hkx hki HG HB hqb hxz
   cases gk with
   | zero=>have:=HL.out;omega
   | succ k1 =>
    go_wp2
    go_roundg k1
    case measure=>omega
    case rel=>exact ⟨i + 1,J112,hg2,HB2,⟨J69⟩⟩
  ·have hi:i=l.length:=by have:=HL.out;omega
   have HG1:=Y0 (GM.mono (n':=l.length) (f':=leftO ks 0) HG.out J7 (left_start ks i J138))
   clear HG HL hi
   go_wp2
   clear hlt
   go_loopg [22] l.length (fun n v W=>∃ i:Nat,v = .int .i64 i∧Aside0 (GM 9 slit (plainElem Tryz.prog 3) eInt W w.heap.size l.length (leftO ks i))∧Aside0 (Below w.heap.size w W)∧Aside0 (i + n=l.length))
   case atStart=>exact ⟨0,rfl,HG1,HB,⟨J7⟩⟩
   case round =>
    clear HG1 HB
    obtain ⟨i,rfl,HG,HB,HL⟩:=hrel
    by_cases hlt:i < l.length
    ·have d3:(0:Int)≤(i:Int):=by omega
     have d4:(i:Int) < (l.length:Int):=by omega
     obtain ⟨x,hx⟩:∃ x,x=l[i]'hlt:=⟨_,rfl⟩
     obtain ⟨ad,had,z0⟩:=Kd.at_string HC.out i d3 d4
     have hrd:rdOf ByteArray.empty l i=x:=by unfold rdOf;rw [hx,List.getD_eq_getElem?_getD];simp [hlt]
     rw [hrd] at z0
     subst had
     rw [Int.toNat_natCast] at z0
     have hxz:=HZ.out x J87
     have hki:i < ks.length:=by have:=HLEN.out;omega
     have hkx:ks[i]=bl x:=by have:=HKS.out;subst this;simp [hx]
     clear hrd hx
     replace z0:=(HB.out.cell (World.block_lt_of_cell? w _ z0)).trans z0
     have hl:=uniq_s_look HG.out hxz
     obtain ⟨q,hq⟩:∃ q:Int,q=(leftO ks i (bl x)).getD 0:=⟨_,rfl⟩
     rw [← hq] at hl
     by_cases h1:q=1
     ·have t1:(q == 1)=true:=by rw [h1];rfl
      obtain ⟨W',hr,hg',hb'⟩:=GM.del HG.out key_str uniq_s_und (at_str hxz) 0
      have hg2:=Y0 (GM.mono (n':=l.length) (f':=leftO ks (i + 1)) hg' (Nat.le_refl _) (left_del ks i hki _ hkx J155))
      have HB2:=Y0 (HB.out.grown hb' HB.out.size (fun k e=>by injection e with e;omega))
      clear hg' hb' hq hkx hki HG HB hxz h1
      cases gk with
      | zero=>have:=HL.out;omega
      | succ k1 =>
       go_wp2
       go_roundg k1
       case measure=>omega
       case rel=>exact ⟨i + 1,J112,hg2,HB2,⟨J69⟩⟩
     ·have t1:(q == 1)=false:=beq_eq_false_iff_ne.2 h1
      have hg2:=Y0 (GM.mono (n':=l.length) (f':=leftO ks (i + 1)) HG.out (Nat.le_refl _) (left_keep ks i hki _ hkx J155))
      clear hq hkx hki HG hxz h1
      cases gk with
      | zero=>have:=HL.out;omega
      | succ k1 =>
       go_wp2
       go_roundg k1
       case measure=>omega
       case rel=>exact ⟨i + 1,J112,hg2,HB,⟨J69⟩⟩
    ·obtain ⟨N,hr,hN,hNl⟩:=GM.len HG.out key_str uniq_s_und 3
     have hu:=left_end ks i (by have:=HLEN.out;have:=HL.out;omega)
     by_cases h0:N=0
     ·have t1:((N:Int) == 0)=true:=by rw [h0];rfl
      have hT:uniqB ks=true:=hu.1 (hN.1 h0)
      have HT0:=Y0 hT
      clear hu hN h0 hT HG
      go_wp2
      go_ret
      exact ⟨J162,HB.out⟩
     ·have t1:((N:Int) == 0)=false:=by rw [beq_eq_false_iff_ne];omega
      have hF:uniqB ks=false:=by
       cases hb:uniqB ks with
       | false=>rfl
       | true=>exact absurd (hN.2 (hu.2 hb)) h0
      have HT0:=Y0 hF
      clear hu hN h0 hF HG
      go_wp2
      go_ret
      exact ⟨J162,HB.out⟩
theorem uniq_i_und:Tryz.prog.underlying 204=some (.map 2 3):=by kernel_rfl
theorem uniq_i_look {W:World} {mb n:Nat} {f:Int→Option Int} (h:GM 2 nlit (plainElem Tryz.prog 3) eInt W mb n f) {s:Int} (hs:(Lit.int .i64 s).wf=true) :
  (Instr.lookup 204 (.map (some mb)) (.int .i64 s) false).run Tryz.prog W = .ok (.int .i64 ((f (s)).getD 0)) W:=by
 obtain ⟨v,ps,h1,h2⟩:=GM.look h key_i64 uniq_i_und (tb_zInt W) (eInt_el J11) (at_i64 hs)
 obtain ⟨a,rfl,h3,_⟩:=plainElem_int_inv tb_int h2
 have h4:(f (s)).getD 0=a:=by
  cases hf:f (s) with
  | none=>rw [hf] at h3;simp [eInt] at h3;exact h3.1
  | some y=>rw [hf] at h3;simp [eInt] at h3;exact h3.1
 rw [h4]
 exact h1
set_option maxRecDepth 100000 in
set_option maxHeartbeats 4000000 in
theorem uniq_i (l:List Int) (A:Option Addr) (c:Nat) (w:World) (hC:(Kd.int .i64).C w A l.length l) (hc:l.length≤c) (hz:∀ s ∈ l,(Lit.int .i64 s).wf=true) :
  Calls Tryz.prog 107 #[.slice A l.length c] w (SameT w (uniqB (l.map id))):=by
 have HC:=Y0 hC
 have hm1:=Kd.C_max hC
 have HZ:=Y0 hz
 clear hC hz
 obtain ⟨ks,hks⟩:∃ ks,ks=l.map id:=⟨_,rfl⟩
 have hlen:ks.length=l.length:=by rw [hks];first|done|simp
 have HKS:=Y0 hks
 have HLEN:=Y0 hlen
 rw [← hks]
 clear hks hlen
 have g0:GM 2 nlit (plainElem Tryz.prog 3) eInt (w.alloc (.map #[] 0)) w.heap.size 0 (cntO ks 0):=(GM.made w).mono (Nat.le_refl _) (fun x=>by simp [cntO])
 have G0:=Y0 g0
 have B0:=Y0 (below_alloc (Below.refl w.heap.size w) (.map #[] 0))
 clear g0
 have hmm:=@run_makeMap Tryz.prog
 go_enter Tryz.func107,Tryz.ntmps107
 go_wp2
 clear hmm
 go_loopg [11] l.length (fun n v W=>∃ i:Nat,v = .int .i64 i∧Aside0 (GM 2 nlit (plainElem Tryz.prog 3) eInt W w.heap.size i (cntO ks i))∧Aside0 (Below w.heap.size w W)∧Aside0 (i + n=l.length))
 case atStart=>exact ⟨0,rfl,G0,B0,⟨J7⟩⟩
 case round =>
  clear G0 B0
  obtain ⟨i,rfl,HG,HB,HL⟩:=hrel
  by_cases hlt:i < l.length
  ·have d3:(0:Int)≤(i:Int):=by omega
   have d4:(i:Int) < (l.length:Int):=by omega
   obtain ⟨x,hx⟩:∃ x,x=l[i]'hlt:=⟨_,rfl⟩
   obtain ⟨ad,had,z0⟩:=Kd.at_int HC.out i d3 d4
   have hrd:rd l i=x:=by unfold rd;rw [hx,List.getD_eq_getElem?_getD];simp [hlt]
   rw [hrd] at z0
   subst had
   rw [Int.toNat_natCast] at z0
   have hxz:=HZ.out x J87
   have hki:i < ks.length:=by have:=HLEN.out;omega
   have hkx:ks[i]=x:=by have:=HKS.out;subst this;simp [hx]
   clear hrd hx
   replace z0:=(HB.out.cell (World.block_lt_of_cell? w _ z0)).trans z0
   have hl:=uniq_i_look HG.out hxz
   obtain ⟨q,hq⟩:∃ q:Nat,q=cntN ks i (x):=⟨_,rfl⟩
   have hqb:q≤i:=by rw [hq];exact cntN_le ks i _
   have hqv:(cntO ks i (x)).getD 0=(q:Int):=by rw [cntO_get,← hq]
   rw [hqv] at hl
   have d5:(0:Int)≤(q:Int):=by omega
   have d6:(q:Int)≤9223372036854775806:=by omega
   obtain ⟨W',hr,hg',hb'⟩:=GM.put (y:=(q:Int) + 1) HG.out key_i64 uniq_i_und J149 (at_i64 hxz) (eInt_el (wf_i64 J7))
   have hg2:=Y0 (GM.mono (n':=i + 1) (f':=cntO ks (i + 1)) hg' (Nat.le_refl _) (cntO_step ks i hki _ hkx q hq))
   have HB2:=Y0 (HB.out.grown hb' HB.out.size (fun k e=>by injection e with e;omega))
   clear hg' hb' hq hqv hkx hki HG HB hqb hxz
   cases gk with
   | zero=>have:=HL.out;omega
   | succ k1 =>
    go_wp2
    go_roundg k1
    case measure=>omega
    case rel=>exact ⟨i + 1,J112,hg2,HB2,⟨J69⟩⟩
  ·have hi:i=l.length:=by have:=HL.out;omega
   have HG1:=Y0 (GM.mono (n':=l.length) (f':=leftO ks 0) HG.out J7 (left_start ks i J138))
   clear HG HL hi
   go_wp2
   clear hlt
   go_loopg [22] l.length (fun n v W=>∃ i:Nat,v = .int .i64 i∧Aside0 (GM 2 nlit (plainElem Tryz.prog 3) eInt W w.heap.size l.length (leftO ks i))∧Aside0 (Below w.heap.size w W)∧Aside0 (i + n=l.length))
   case atStart=>exact ⟨0,rfl,HG1,HB,⟨J7⟩⟩
   case round =>
    clear HG1 HB
    obtain ⟨i,rfl,HG,HB,HL⟩:=hrel
    by_cases hlt:i < l.length
    ·have d3:(0:Int)≤(i:Int):=by omega
     have d4:(i:Int) < (l.length:Int):=by omega
     obtain ⟨x,hx⟩:∃ x,x=l[i]'hlt:=⟨_,rfl⟩
     obtain ⟨ad,had,z0⟩:=Kd.at_int HC.out i d3 d4
     have hrd:rd l i=x:=by unfold rd;rw [hx,List.getD_eq_getElem?_getD];simp [hlt]
     rw [hrd] at z0
     subst had
     rw [Int.toNat_natCast] at z0
     have hxz:=HZ.out x J87
     have hki:i < ks.length:=by have:=HLEN.out;omega
     have hkx:ks[i]=x:=by have:=HKS.out;subst this;simp [hx]
     clear hrd hx
     replace z0:=(HB.out.cell (World.block_lt_of_cell? w _ z0)).trans z0
     have hl:=uniq_i_look HG.out hxz
     obtain ⟨q,hq⟩:∃ q:Int,q=(leftO ks i (x)).getD 0:=⟨_,rfl⟩
     rw [← hq] at hl
     by_cases h1:q=1
     ·have t1:(q == 1)=true:=by rw [h1];rfl
      obtain ⟨W',hr,hg',hb'⟩:=GM.del HG.out key_i64 uniq_i_und (at_i64 hxz) 0
      have hg2:=Y0 (GM.mono (n':=l.length) (f':=leftO ks (i + 1)) hg' (Nat.le_refl _) (left_del ks i hki _ hkx J155))
      have HB2:=Y0 (HB.out.grown hb' HB.out.size (fun k e=>by injection e with e;omega))
      clear hg' hb' hq hkx hki HG HB hxz h1
      cases gk with
      | zero=>have:=HL.out;omega
      | succ k1 =>
       go_wp2
       go_roundg k1
       case measure=>omega
       case rel=>exact ⟨i + 1,J112,hg2,HB2,⟨J69⟩⟩
     ·have t1:(q == 1)=false:=beq_eq_false_iff_ne.2 h1
      have hg2:=Y0 (GM.mono (n':=l.length) (f':=leftO ks (i + 1)) HG.out (Nat.le_refl _) (left_keep ks i hki _ hkx J155))
      clear hq hkx hki HG hxz h1
      cases gk with
      | zero=>have:=HL.out;omega
      | succ k1 =>
       go_wp2
       go_roundg k1
       case measure=>omega
       case rel=>exact ⟨i + 1,J112,hg2,HB,⟨J69⟩⟩
    ·obtain ⟨N,hr,hN,hNl⟩:=GM.len HG.out key_i64 uniq_i_und 3
     have hu:=left_end ks i (by have:=HLEN.out;have:=HL.out;omega)
     by_cases h0:N=0
     ·have t1:((N:Int) == 0)=true:=by rw [h0];rfl
      have hT:uniqB ks=true:=hu.1 (hN.1 h0)
      have HT0:=Y0 hT
      clear hu hN h0 hT HG
      go_wp2
      go_ret
      exact ⟨J162,HB.out⟩
     ·have t1:((N:Int) == 0)=false:=by rw [beq_eq_false_iff_ne];omega
      have hF:uniqB ks=false:=by
       cases hb:uniqB ks with
       | false=>rfl
       | true=>exact absurd (hN.2 (hu.2 hb)) h0
      have HT0:=Y0 hF
      clear hu hN h0 hF HG
      go_wp2
      go_ret
      exact ⟨J162,HB.out⟩
def table_unique_string.f (l0:List ByteArray):Option Bool:=if ∀ s ∈ l0,s.size≤maxLen then some (uniqB (l0.map bl)) else none
theorem table_unique_string.calls (A0:Option Addr) (c0:Nat) (l0:List ByteArray) (r:Bool) (w:World) (hr0:Kd.C Kd.string w A0 l0.length l0) (hc0:l0.length≤c0) (h:table_unique_string.f l0=some r) :
  Calls Tryz.prog 63 #[.slice A0 l0.length c0] w fun e w'=>e = .returned (.bool r)∧Below w.heap.size w w':=by
 unfold table_unique_string.f at h
 split at h
 ·rename_i hz
  obtain rfl:=Option.some.inj h
  exact uniq_s l0 A0 c0 w hr0 hc0 hz
 ·cases h
def table_message.l0:Nat→List ByteArray→Int→List (S51)→Int→Int→List (S57)→List (S119)→ByteArray→List (S51)→Option (Bool)
 | 0,_,_,_,_,_,_,_,_,_=>none
 | k + 1,x5,x6,x10,x11,x12,x263000,x263001,x264000,x264001=>if x12 < x11 then (if 0≤x12 then (if x12 < (x10.length:Int) then ((table_field.f k x263000 x263001 ((rd_T51 x10 x12).f0) ((rd_T51 x10 x12).f1) ((rd_T51 x10 x12).f2) ((rd_T51 x10 x12).f3) ((rd_T51 x10 x12).f4) ((rd_T51 x10 x12).f5) ((rd_T51 x10 x12).f6)).bind fun t266=>(if t266=true then (if ((rd_T51 x10 x12).f0)≤x6 then (some false) else (if x5.length < 8796093022208 then (table_message.l0 k (x5++[(rd_T51 x10 x12).f1]) ((rd_T51 x10 x12).f0) x10 x11 (wrap64 (x12 + 1)) x263000 x263001 x264000 x264001) else (none))) else (some false))) else (none)) else (none)) else (if (x264001.length:Int)≤30 then ((table_unique_string.f x5).bind fun t270=>(some t270)) else (some false))
def table_message.f (k:Nat) (l0_0:List (S57)) (l0_1:List (S119)) (a1_0:ByteArray) (l1_1:List (S51)):Option (Bool):=table_message.l0 k ([]:List ByteArray) 0 l1_1 (l1_1.length:Int) 0 l0_0 l0_1 a1_0 l1_1
set_option maxHeartbeats 8000000 in
set_option maxRecDepth 100000 in
theorem table_message.calls (k:Nat) (A0_0:Option Addr) (c0_0:Nat) (l0_0:List (S57)) (A0_1:Option Addr) (c0_1:Nat) (l0_1:List (S119)) (a1_0:ByteArray) (A1_1:Option Addr) (c1_1:Nat) (l1_1:List (S51)) (r:Bool) (w:World) (hr0_0:Kd.C k57 w A0_0 l0_0.length l0_0) (hc0_0:l0_0.length≤c0_0) (hr0_1:Kd.C k119 w A0_1 l0_1.length l0_1) (hc0_1:l0_1.length≤c0_1) (hr1_1:Kd.C k51 w A1_1 l1_1.length l1_1) (hc1_1:l1_1.length≤c1_1) (h:table_message.f k l0_0 l0_1 a1_0 l1_1=some r) :
  Calls Tryz.prog 61 #[.agg #[.slice A0_0 l0_0.length c0_0,.slice A0_1 l0_1.length c0_1],.agg #[.string a1_0,.slice A1_1 l1_1.length c1_1]] w fun e w'=>e = .returned (.bool r)∧Below w.heap.size w w':=by
 have hu46:=Tryz.underlying46
 have hu57:=Tryz.underlying57
 have hu51:=Tryz.underlying51
 have HR0_0:=Y0 hr0_0
 have HC0_0:=Y0 hc0_0
 clear hr0_0 hc0_0
 have HR0_1:=Y0 hr0_1
 have HC0_1:=Y0 hc0_1
 clear hr0_1 hc0_1
 have HR1_1:=Y0 hr1_1
 have HC1_1:=Y0 hc1_1
 clear hr1_1 hc1_1
 have HB:=Y0 (Below.refl w.heap.size w)
 have H:(table_message.l0 k ([]:List ByteArray) 0 l1_1 (l1_1.length:Int) 0 l0_0 l0_1 a1_0 l1_1)=some r:=h
 clear h
 have H':=Y0 H
 clear H
 go_enter Tryz.func61,Tryz.ntmps61
 go_wp2_with (first|((with_reducible refine gate_dst (N:=2) rfl ?_);refine box_event ?hg (N:=2) ?hd (cs:=#[.slice A0_0 l0_0.length c0_0,.slice A0_1 l0_1.length c0_1]) (t:=46) ?hr ?_;(case hd=>rfl);(case hg=>rfl);(case hr=>first|(go_simp;done)|(go_simp;rfl));intro gb262 hg w3 hbox hb;have n0_:=Y0 (below_step J4 hb);have n1_:=Y0 (hbox);have n2_:=Y0 ((by rw [hg];exact (below_size J4):w.heap.size≤gb262));have n3_:=Y0 ((by rw [hg];exact (below_size J4):w.heap.size≤gb262));clear HB;have HB:=n0_;have BK262:=n1_;have GW262:=n2_;have GE262:=n3_;clear n0_ n1_ n2_ n3_;clear hb hbox hg)|((with_reducible refine gate_dst (N:=3) rfl ?_);refine box_event ?hg (N:=3) ?hd (cs:=#[.string a1_0,.slice A1_1 l1_1.length c1_1]) (t:=57) ?hr ?_;(case hd=>rfl);(case hg=>rfl);(case hr=>first|(go_simp;done)|(go_simp;rfl));intro gb263 hg w4 hbox hb;have n0_:=Y0 (blk_below (g:=gb262) (o:=.cells #[.slice A0_0 l0_0.length c0_0,.slice A0_1 l0_1.length c0_1] 46 (0,0)) J39 hb);have n1_:=Y0 (below_step J115 hb);have n2_:=Y0 (hbox);have n3_:=Y0 ((by rw [hg];exact (below_size J115):w.heap.size≤gb263));have n4_:=Y0 ((by rw [hg];exact (below_size J115):w.heap.size≤gb263));have n5_:=Y0 ((by rw [hg];exact Nat.ne_of_lt (blk_lt (g:=gb262) (o:=.cells #[.slice A0_0 l0_0.length c0_0,.slice A0_1 l0_1.length c0_1] 46 (0,0)) J39):gb262≠gb263));have n6_:=Y0 ((by rw [hg];exact Nat.ne_of_gt (blk_lt (g:=gb262) (o:=.cells #[.slice A0_0 l0_0.length c0_0,.slice A0_1 l0_1.length c0_1] 46 (0,0)) J39):gb263≠gb262));clear BK262;clear HB;have BK262:=n0_;have HB:=n1_;have BK263:=n2_;have GW263:=n3_;have GE263:=n4_;have NB262_263:=n5_;have NB263_262:=n6_;clear n0_ n1_ n2_ n3_ n4_ n5_ n6_;clear hb hbox hg;have hnb5:=NB263_262.out;have hnc5:=NB262_263.out;have ⟨hcz6_0,hcz6_1,hfz6_0,hfz6_1⟩:=sq_box2 BK263.out))
 go_loopg [5,6,12] k (fun kq v5 v6 v12 w'=>∃ (x5_1:List ByteArray) (x6_1:Int) (x12_1:Int),v6 = .int .i64 x6_1∧v12 = .int .i64 x12_1∧Aside0 (table_message.l0 kq x5_1 x6_1 l1_1 (l1_1.length:Int) x12_1 l0_0 l0_1 a1_0 l1_1=some r)∧Aside0 (kq≤k)∧Aside0 (Kd.R Kd.string 9 w' w.heap.size (fun _=>True) v5 x5_1)∧Aside0 (w'.heap[gb262]?=some (.cells #[(.slice A0_0 l0_0.length c0_0),(.slice A0_1 l0_1.length c0_1)] 46 (0,0)))∧Aside0 (w'.heap[gb263]?=some (.cells #[.string a1_0,(.slice A1_1 l1_1.length c1_1)] 57 (0,0)))∧Aside0 (Below w.heap.size w w'))
 case atStart=>exact ⟨(([]:List ByteArray)),(0),(0),J12,J12,H',⟨Nat.le_refl _⟩,⟨J132⟩,⟨J39⟩,⟨J47⟩,⟨J35⟩⟩
 case round =>
  clear H'
  obtain ⟨x5_1,x6_1,x12_1,rfl,rfl,HA,HK1,HO_5,BK262,BK263,HB⟩:=hrel
  cases gk with
  | zero=>exact absurd HA.out (by simp [table_message.l0])
  | succ k1 =>
   have H:=HA.out
   clear HA
   simp only [table_message.l0] at H
   by_cases c7:x12_1 < (l1_1.length:Int)
   rotate_left
   ·rw [if_neg c7] at H
    have c7b0:decide (x12_1 < (l1_1.length:Int))=false:=decide_eq_false c7
    clear c7
    by_cases c38:(l1_1.length:Int)≤30
    rotate_left
    ·rw [if_neg c38] at H
     have c38b0:decide ((l1_1.length:Int)≤30)=false:=decide_eq_false c38
     have c38b1:decide (l1_1.length≤30)=false:=decide_eq_false J7
     clear c38
     obtain rfl:=Option.some.inj H
     have hnb44:=NB263_262.out
     have hnc44:=NB262_263.out
     have ⟨hcz45_0,hcz45_1,hfz45_0,hfz45_1⟩:=sq_box2 BK263.out
     go_wp2
     go_ret
     exact ⟨J21,J35⟩
    rw [if_pos c38] at H
    have c38b0:decide ((l1_1.length:Int)≤30)=true:=decide_eq_true c38
    have c38b1:decide (l1_1.length≤30)=true:=decide_eq_true J7
    clear c38
    replace H:=Y17.mp H
    obtain ⟨t270,A390,H⟩:=H
    try dsimp only at H
    have A39:=Y0 A390
    clear A390
    obtain rfl:=Option.some.inj H
    have hnb40:=NB263_262.out
    have hnc40:=NB262_263.out
    have ⟨hcz41_0,hcz41_1,hfz41_0,hfz41_1⟩:=sq_box2 BK263.out
    obtain ⟨Ao42,co42,eo42⟩:=Kd.R_slice HO_5.out
    subst eo42
    go_wp2_with (first|(go_at_call 63;(with_reducible refine (table_unique_string.calls _ _ x5_1 t270 _ ?side1 ?side2 A39.out).mono ?_);(case side1=>repeat (first|exact (Kd.R_reads' HO_5.out).2.2|(with_reducible refine Y8 ?_ _)|(with_reducible refine Kd.C_drewN ?_ _)|(with_reducible refine Kd.C_drew ?_)));(case side2=>exact (Kd.R_reads' HO_5.out).2.1);rintro e w43 ⟨rfl,hb⟩;have n0_:=Y0 (Kd.R_below J96 hb);have n1_:=Y0 (blk_below (g:=gb262) (o:=.cells #[.slice A0_0 l0_0.length c0_0,.slice A0_1 l0_1.length c0_1] 46 (0,0)) J39 hb);have n2_:=Y0 (blk_below (g:=gb263) (o:=.cells #[.string a1_0,.slice A1_1 l1_1.length c1_1] 57 (0,0)) J47 hb);have n3_:=Y0 (below_step J35 hb);clear HO_5;clear BK262;clear BK263;clear HB;have HO_5:=n0_;have BK262:=n1_;have BK263:=n2_;have HB:=n3_;clear n0_ n1_ n2_ n3_;(try clear hb);(try clear hb2);(try clear hk);(try clear hi)))
    go_ret
    exact ⟨J21,J35⟩
   rw [if_pos c7] at H
   have c7b0:decide (x12_1 < (l1_1.length:Int))=true:=decide_eq_true c7
   clear c7
   by_cases c8:0≤x12_1
   rotate_left
   ·rw [if_neg c8] at H
    exact absurd H J53
   rw [if_pos c8] at H
   have c8b0:decide (0≤x12_1)=true:=decide_eq_true c8
   clear c8
   by_cases c9:x12_1 < (l1_1.length:Int)
   rotate_left
   ·rw [if_neg c9] at H
    exact absurd H J53
   rw [if_pos c9] at H
   have c9b0:decide (x12_1 < (l1_1.length:Int))=true:=decide_eq_true c9
   clear c9
   replace H:=Y17.mp H
   obtain ⟨t266,A100,H⟩:=H
   try dsimp only at H
   have A10:=Y0 A100
   clear A100
   by_cases c11:t266=true
   rotate_left
   ·replace c11:=Bool.eq_false_iff.mpr c11
    subst c11
    rw [if_neg (show ¬ (false=true) by decide)] at H
    obtain rfl:=Option.some.inj H
    have p264:0≤(x12_1:Int):=of_decide_eq_true J3
    have q264:x12_1 < (l1_1.length:Int):=of_decide_eq_true J3
    obtain ⟨ad264,e264,hx264_0,hx264_1,hx264_2,hx264_3,hx264_4,hx264_5,hx264_6⟩:=at_T51 HR1_1.out x12_1 p264 q264
    cases e264
    replace hx264_0:=(HB.out.cell (World.block_lt_of_cell? w _ hx264_0)).trans hx264_0
    replace hx264_1:=(HB.out.cell (World.block_lt_of_cell? w _ hx264_1)).trans hx264_1
    replace hx264_2:=(HB.out.cell (World.block_lt_of_cell? w _ hx264_2)).trans hx264_2
    replace hx264_3:=(HB.out.cell (World.block_lt_of_cell? w _ hx264_3)).trans hx264_3
    replace hx264_4:=(HB.out.cell (World.block_lt_of_cell? w _ hx264_4)).trans hx264_4
    replace hx264_5:=(HB.out.cell (World.block_lt_of_cell? w _ hx264_5)).trans hx264_5
    replace hx264_6:=(HB.out.cell (World.block_lt_of_cell? w _ hx264_6)).trans hx264_6
    replace p264:=eq_true p264
    replace q264:=eq_true q264
    go_wp2_with (first|((with_reducible refine gate_dst (N:=8) rfl ?_);refine box_event ?hg (N:=8) ?hd (cs:=#[.int .i64 0,.string (⟨#[]⟩:ByteArray),.int .i64 0,.int .i64 0,.bool false,.int .i64 0,.int .i64 0]) (t:=51) ?hr ?_;(case hd=>rfl);(case hg=>rfl);(case hr=>first|(go_simp;done)|(go_simp;rfl));intro gb265 hg w31 hbox hb;have n0_:=Y0 (Kd.R_below J96 hb);have n1_:=Y0 (blk_below (g:=gb262) (o:=.cells #[.slice A0_0 l0_0.length c0_0,.slice A0_1 l0_1.length c0_1] 46 (0,0)) J39 hb);have n2_:=Y0 (blk_below (g:=gb263) (o:=.cells #[.string a1_0,.slice (some ad264) l1_1.length c1_1] 57 (0,0)) J47 hb);have n3_:=Y0 (below_step J35 hb);have n4_:=Y0 (hbox);have n5_:=Y0 ((by rw [hg];exact (below_size J35):w.heap.size≤gb265));have n6_:=Y0 ((by rw [hg];exact (below_size J35):w.heap.size≤gb265));have n7_:=Y0 ((by rw [hg];exact Nat.ne_of_lt (blk_lt (g:=gb262) (o:=.cells #[.slice A0_0 l0_0.length c0_0,.slice A0_1 l0_1.length c0_1] 46 (0,0)) J39):gb262≠gb265));have n8_:=Y0 ((by rw [hg];exact Nat.ne_of_gt (blk_lt (g:=gb262) (o:=.cells #[.slice A0_0 l0_0.length c0_0,.slice A0_1 l0_1.length c0_1] 46 (0,0)) J39):gb265≠gb262));have n9_:=Y0 ((by rw [hg];exact Nat.ne_of_lt (blk_lt (g:=gb263) (o:=.cells #[.string a1_0,.slice (some ad264) l1_1.length c1_1] 57 (0,0)) J47):gb263≠gb265));have n10_:=Y0 ((by rw [hg];exact Nat.ne_of_gt (blk_lt (g:=gb263) (o:=.cells #[.string a1_0,.slice (some ad264) l1_1.length c1_1] 57 (0,0)) J47):gb265≠gb263));clear HO_5;clear BK262;clear BK263;clear HB;have HO_5:=n0_;have BK262:=n1_;have BK263:=n2_;have HB:=n3_;have BK265:=n4_;have GW265:=n5_;have GE265:=n6_;have NB262_265:=n7_;have NB265_262:=n8_;have NB263_265:=n9_;have NB265_263:=n10_;clear n0_ n1_ n2_ n3_ n4_ n5_ n6_ n7_ n8_ n9_ n10_;clear hb hbox hg;have hnb32:=NB265_262.out;have hnc32:=NB262_265.out;have hnb33:=NB265_263.out;have hnc33:=NB263_265.out;have ⟨hcz34_0,hcz34_1,hcz34_2,hcz34_3,hcz34_4,hcz34_5,hcz34_6,hfz34_0,hfz34_1,hfz34_2,hfz34_3,hfz34_4,hfz34_5,hfz34_6⟩:=sq_box7 BK265.out;have hnb35:=NB262_263.out;have hnc35:=NB263_262.out;have ⟨hcz36_0,hcz36_1,hfz36_0,hfz36_1⟩:=sq_box2 BK262.out)|((with_reducible refine gate_callee (f:=104) rfl ?_);refine goesL_ (some 18) rfl rfl Tryz.func104 J0 rfl #[.agg #[.slice A0_0 l0_0.length c0_0,.slice A0_1 l0_1.length c0_1],.agg #[.int .i64 ((rd_T51 l1_1 x12_1).f0),.string ((rd_T51 l1_1 x12_1).f1),.int .i64 ((rd_T51 l1_1 x12_1).f2),.int .i64 ((rd_T51 l1_1 x12_1).f3),.bool ((rd_T51 l1_1 x12_1).f4),.int .i64 ((rd_T51 l1_1 x12_1).f5),.int .i64 ((rd_T51 l1_1 x12_1).f6)]] rfl J1 ?_;(with_reducible refine (table_field.calls k1 _ _ l0_0 _ _ l0_1 ((rd_T51 l1_1 x12_1).f0) ((rd_T51 l1_1 x12_1).f1) ((rd_T51 l1_1 x12_1).f2) ((rd_T51 l1_1 x12_1).f3) ((rd_T51 l1_1 x12_1).f4) ((rd_T51 l1_1 x12_1).f5) ((rd_T51 l1_1 x12_1).f6) false _ ?side1 ?side2 ?side3 ?side4 A10.out).mono ?_);(case side1=>exact Kd.C_below HR0_0.out J25);(case side2=>exact HC0_0.out);(case side3=>exact Kd.C_below HR0_1.out J25);(case side4=>exact HC0_1.out);rintro e w37 ⟨rfl,hb⟩;refine ⟨_,rfl,?_⟩;have n0_:=Y0 (Kd.R_below J31 hb);have n1_:=Y0 (blk_below (g:=gb262) (o:=.cells #[.slice A0_0 l0_0.length c0_0,.slice A0_1 l0_1.length c0_1] 46 (0,0)) J34 hb);have n2_:=Y0 (blk_below (g:=gb263) (o:=.cells #[.string a1_0,.slice (some ad264) l1_1.length c1_1] 57 (0,0)) J33 hb);have n3_:=Y0 (blk_below (g:=gb265) (o:=.cells #[.int .i64 ((rd_T51 l1_1 x12_1).f0),.string ((rd_T51 l1_1 x12_1).f1),.int .i64 ((rd_T51 l1_1 x12_1).f2),.int .i64 ((rd_T51 l1_1 x12_1).f3),.bool ((rd_T51 l1_1 x12_1).f4),.int .i64 ((rd_T51 l1_1 x12_1).f5),.int .i64 ((rd_T51 l1_1 x12_1).f6)] 51 (0,0)) J13 hb);have n4_:=Y0 (below_step J25 hb);clear HO_5;clear BK262;clear BK263;clear BK265;clear HB;have HO_5:=n0_;have BK262:=n1_;have BK263:=n2_;have BK265:=n3_;have HB:=n4_;clear n0_ n1_ n2_ n3_ n4_;(try clear hb);(try clear hb2);(try clear hk);(try clear hi)))
    go_ret
    exact ⟨J21,J25⟩
   subst c11
   rw [if_pos rfl] at H
   by_cases c12:((rd_T51 l1_1 x12_1).f0)≤x6_1
   ·rw [if_pos c12] at H
    have c12b0:decide (((rd_T51 l1_1 x12_1).f0)≤x6_1)=true:=decide_eq_true c12
    clear c12
    obtain rfl:=Option.some.inj H
    have p264:0≤(x12_1:Int):=of_decide_eq_true J3
    have q264:x12_1 < (l1_1.length:Int):=of_decide_eq_true J3
    obtain ⟨ad264,e264,hx264_0,hx264_1,hx264_2,hx264_3,hx264_4,hx264_5,hx264_6⟩:=at_T51 HR1_1.out x12_1 p264 q264
    cases e264
    replace hx264_0:=(HB.out.cell (World.block_lt_of_cell? w _ hx264_0)).trans hx264_0
    replace hx264_1:=(HB.out.cell (World.block_lt_of_cell? w _ hx264_1)).trans hx264_1
    replace hx264_2:=(HB.out.cell (World.block_lt_of_cell? w _ hx264_2)).trans hx264_2
    replace hx264_3:=(HB.out.cell (World.block_lt_of_cell? w _ hx264_3)).trans hx264_3
    replace hx264_4:=(HB.out.cell (World.block_lt_of_cell? w _ hx264_4)).trans hx264_4
    replace hx264_5:=(HB.out.cell (World.block_lt_of_cell? w _ hx264_5)).trans hx264_5
    replace hx264_6:=(HB.out.cell (World.block_lt_of_cell? w _ hx264_6)).trans hx264_6
    replace p264:=eq_true p264
    replace q264:=eq_true q264
    go_wp2_with (first|((with_reducible refine gate_dst (N:=8) rfl ?_);refine box_event ?hg (N:=8) ?hd (cs:=#[.int .i64 0,.string (⟨#[]⟩:ByteArray),.int .i64 0,.int .i64 0,.bool false,.int .i64 0,.int .i64 0]) (t:=51) ?hr ?_;(case hd=>rfl);(case hg=>rfl);(case hr=>first|(go_simp;done)|(go_simp;rfl));intro gb265 hg w13 hbox hb;have n0_:=Y0 (Kd.R_below J96 hb);have n1_:=Y0 (blk_below (g:=gb262) (o:=.cells #[.slice A0_0 l0_0.length c0_0,.slice A0_1 l0_1.length c0_1] 46 (0,0)) J39 hb);have n2_:=Y0 (blk_below (g:=gb263) (o:=.cells #[.string a1_0,.slice (some ad264) l1_1.length c1_1] 57 (0,0)) J47 hb);have n3_:=Y0 (below_step J35 hb);have n4_:=Y0 (hbox);have n5_:=Y0 ((by rw [hg];exact (below_size J35):w.heap.size≤gb265));have n6_:=Y0 ((by rw [hg];exact (below_size J35):w.heap.size≤gb265));have n7_:=Y0 ((by rw [hg];exact Nat.ne_of_lt (blk_lt (g:=gb262) (o:=.cells #[.slice A0_0 l0_0.length c0_0,.slice A0_1 l0_1.length c0_1] 46 (0,0)) J39):gb262≠gb265));have n8_:=Y0 ((by rw [hg];exact Nat.ne_of_gt (blk_lt (g:=gb262) (o:=.cells #[.slice A0_0 l0_0.length c0_0,.slice A0_1 l0_1.length c0_1] 46 (0,0)) J39):gb265≠gb262));have n9_:=Y0 ((by rw [hg];exact Nat.ne_of_lt (blk_lt (g:=gb263) (o:=.cells #[.string a1_0,.slice (some ad264) l1_1.length c1_1] 57 (0,0)) J47):gb263≠gb265));have n10_:=Y0 ((by rw [hg];exact Nat.ne_of_gt (blk_lt (g:=gb263) (o:=.cells #[.string a1_0,.slice (some ad264) l1_1.length c1_1] 57 (0,0)) J47):gb265≠gb263));clear HO_5;clear BK262;clear BK263;clear HB;have HO_5:=n0_;have BK262:=n1_;have BK263:=n2_;have HB:=n3_;have BK265:=n4_;have GW265:=n5_;have GE265:=n6_;have NB262_265:=n7_;have NB265_262:=n8_;have NB263_265:=n9_;have NB265_263:=n10_;clear n0_ n1_ n2_ n3_ n4_ n5_ n6_ n7_ n8_ n9_ n10_;clear hb hbox hg;have hnb14:=NB265_262.out;have hnc14:=NB262_265.out;have hnb15:=NB265_263.out;have hnc15:=NB263_265.out;have ⟨hcz16_0,hcz16_1,hcz16_2,hcz16_3,hcz16_4,hcz16_5,hcz16_6,hfz16_0,hfz16_1,hfz16_2,hfz16_3,hfz16_4,hfz16_5,hfz16_6⟩:=sq_box7 BK265.out;have hnb17:=NB262_263.out;have hnc17:=NB263_262.out;have ⟨hcz18_0,hcz18_1,hfz18_0,hfz18_1⟩:=sq_box2 BK262.out)|((with_reducible refine gate_callee (f:=104) rfl ?_);refine goesL_ (some 18) rfl rfl Tryz.func104 J0 rfl #[.agg #[.slice A0_0 l0_0.length c0_0,.slice A0_1 l0_1.length c0_1],.agg #[.int .i64 ((rd_T51 l1_1 x12_1).f0),.string ((rd_T51 l1_1 x12_1).f1),.int .i64 ((rd_T51 l1_1 x12_1).f2),.int .i64 ((rd_T51 l1_1 x12_1).f3),.bool ((rd_T51 l1_1 x12_1).f4),.int .i64 ((rd_T51 l1_1 x12_1).f5),.int .i64 ((rd_T51 l1_1 x12_1).f6)]] rfl J1 ?_;(with_reducible refine (table_field.calls k1 _ _ l0_0 _ _ l0_1 ((rd_T51 l1_1 x12_1).f0) ((rd_T51 l1_1 x12_1).f1) ((rd_T51 l1_1 x12_1).f2) ((rd_T51 l1_1 x12_1).f3) ((rd_T51 l1_1 x12_1).f4) ((rd_T51 l1_1 x12_1).f5) ((rd_T51 l1_1 x12_1).f6) true _ ?side1 ?side2 ?side3 ?side4 A10.out).mono ?_);(case side1=>exact Kd.C_below HR0_0.out J25);(case side2=>exact HC0_0.out);(case side3=>exact Kd.C_below HR0_1.out J25);(case side4=>exact HC0_1.out);rintro e w19 ⟨rfl,hb⟩;refine ⟨_,rfl,?_⟩;have n0_:=Y0 (Kd.R_below J31 hb);have n1_:=Y0 (blk_below (g:=gb262) (o:=.cells #[.slice A0_0 l0_0.length c0_0,.slice A0_1 l0_1.length c0_1] 46 (0,0)) J34 hb);have n2_:=Y0 (blk_below (g:=gb263) (o:=.cells #[.string a1_0,.slice (some ad264) l1_1.length c1_1] 57 (0,0)) J33 hb);have n3_:=Y0 (blk_below (g:=gb265) (o:=.cells #[.int .i64 ((rd_T51 l1_1 x12_1).f0),.string ((rd_T51 l1_1 x12_1).f1),.int .i64 ((rd_T51 l1_1 x12_1).f2),.int .i64 ((rd_T51 l1_1 x12_1).f3),.bool ((rd_T51 l1_1 x12_1).f4),.int .i64 ((rd_T51 l1_1 x12_1).f5),.int .i64 ((rd_T51 l1_1 x12_1).f6)] 51 (0,0)) J13 hb);have n4_:=Y0 (below_step J25 hb);clear HO_5;clear BK262;clear BK263;clear BK265;clear HB;have HO_5:=n0_;have BK262:=n1_;have BK263:=n2_;have BK265:=n3_;have HB:=n4_;clear n0_ n1_ n2_ n3_ n4_;(try clear hb);(try clear hb2);(try clear hk);(try clear hi);have ⟨hcz20_0,hcz20_1,hcz20_2,hcz20_3,hcz20_4,hcz20_5,hcz20_6,hfz20_0,hfz20_1,hfz20_2,hfz20_3,hfz20_4,hfz20_5,hfz20_6⟩:=sq_box7 BK265.out))
    go_ret
    exact ⟨J21,J25⟩
   rw [if_neg c12] at H
   have c12b0:decide (((rd_T51 l1_1 x12_1).f0)≤x6_1)=false:=decide_eq_false c12
   clear c12
   by_cases c21:x5_1.length < 8796093022208
   rotate_left
   ·rw [if_neg c21] at H
    exact absurd H J53
   rw [if_pos c21] at H
   have LMc21:=Y0 c21
   clear c21
   obtain ⟨y267,hy267⟩:∃ y_:List ByteArray,y_=(x5_1++[(rd_T51 l1_1 x12_1).f1]):=⟨_,rfl⟩
   replace H:(table_message.l0 k1 y267 ((rd_T51 l1_1 x12_1).f0) l1_1 (l1_1.length:Int) (wrap64 (x12_1 + 1)) l0_0 l0_1 a1_0 l1_1)=some r:=by first|(rw [hy267];with_reducible exact H)|(have H2_:=(Option.bind_some _ _).symm.trans H;rw [hy267];with_reducible exact H2_)|(have H2_:=(Option.bind_some _ _).symm.trans H;with_reducible exact H2_)|with_reducible exact H|(rw [hy267];exact H)|exact H
   have Ny267:=Y0 hy267
   clear hy267
   have H':=Y0 H
   clear H
   have p264:0≤(x12_1:Int):=of_decide_eq_true J3
   have q264:x12_1 < (l1_1.length:Int):=of_decide_eq_true J3
   obtain ⟨ad264,e264,hx264_0,hx264_1,hx264_2,hx264_3,hx264_4,hx264_5,hx264_6⟩:=at_T51 HR1_1.out x12_1 p264 q264
   cases e264
   replace hx264_0:=(HB.out.cell (World.block_lt_of_cell? w _ hx264_0)).trans hx264_0
   replace hx264_1:=(HB.out.cell (World.block_lt_of_cell? w _ hx264_1)).trans hx264_1
   replace hx264_2:=(HB.out.cell (World.block_lt_of_cell? w _ hx264_2)).trans hx264_2
   replace hx264_3:=(HB.out.cell (World.block_lt_of_cell? w _ hx264_3)).trans hx264_3
   replace hx264_4:=(HB.out.cell (World.block_lt_of_cell? w _ hx264_4)).trans hx264_4
   replace hx264_5:=(HB.out.cell (World.block_lt_of_cell? w _ hx264_5)).trans hx264_5
   replace hx264_6:=(HB.out.cell (World.block_lt_of_cell? w _ hx264_6)).trans hx264_6
   replace p264:=eq_true p264
   replace q264:=eq_true q264
   go_wp2_with (first|((with_reducible refine gate_dst (N:=8) rfl ?_);refine box_event ?hg (N:=8) ?hd (cs:=#[.int .i64 0,.string (⟨#[]⟩:ByteArray),.int .i64 0,.int .i64 0,.bool false,.int .i64 0,.int .i64 0]) (t:=51) ?hr ?_;(case hd=>rfl);(case hg=>rfl);(case hr=>first|(go_simp;done)|(go_simp;rfl));intro gb265 hg w22 hbox hb;have n0_:=Y0 (Kd.R_below J96 hb);have n1_:=Y0 (blk_below (g:=gb262) (o:=.cells #[.slice A0_0 l0_0.length c0_0,.slice A0_1 l0_1.length c0_1] 46 (0,0)) J39 hb);have n2_:=Y0 (blk_below (g:=gb263) (o:=.cells #[.string a1_0,.slice (some ad264) l1_1.length c1_1] 57 (0,0)) J47 hb);have n3_:=Y0 (below_step J35 hb);have n4_:=Y0 (hbox);have n5_:=Y0 ((by rw [hg];exact (below_size J35):w.heap.size≤gb265));have n6_:=Y0 ((by rw [hg];exact (below_size J35):w.heap.size≤gb265));have n7_:=Y0 ((by rw [hg];exact Nat.ne_of_lt (blk_lt (g:=gb262) (o:=.cells #[.slice A0_0 l0_0.length c0_0,.slice A0_1 l0_1.length c0_1] 46 (0,0)) J39):gb262≠gb265));have n8_:=Y0 ((by rw [hg];exact Nat.ne_of_gt (blk_lt (g:=gb262) (o:=.cells #[.slice A0_0 l0_0.length c0_0,.slice A0_1 l0_1.length c0_1] 46 (0,0)) J39):gb265≠gb262));have n9_:=Y0 ((by rw [hg];exact Nat.ne_of_lt (blk_lt (g:=gb263) (o:=.cells #[.string a1_0,.slice (some ad264) l1_1.length c1_1] 57 (0,0)) J47):gb263≠gb265));have n10_:=Y0 ((by rw [hg];exact Nat.ne_of_gt (blk_lt (g:=gb263) (o:=.cells #[.string a1_0,.slice (some ad264) l1_1.length c1_1] 57 (0,0)) J47):gb265≠gb263));clear HO_5;clear BK262;clear BK263;clear HB;have HO_5:=n0_;have BK262:=n1_;have BK263:=n2_;have HB:=n3_;have BK265:=n4_;have GW265:=n5_;have GE265:=n6_;have NB262_265:=n7_;have NB265_262:=n8_;have NB263_265:=n9_;have NB265_263:=n10_;clear n0_ n1_ n2_ n3_ n4_ n5_ n6_ n7_ n8_ n9_ n10_;clear hb hbox hg;have hnb23:=NB265_262.out;have hnc23:=NB262_265.out;have hnb24:=NB265_263.out;have hnc24:=NB263_265.out;have ⟨hcz25_0,hcz25_1,hcz25_2,hcz25_3,hcz25_4,hcz25_5,hcz25_6,hfz25_0,hfz25_1,hfz25_2,hfz25_3,hfz25_4,hfz25_5,hfz25_6⟩:=sq_box7 BK265.out;have hnb26:=NB262_263.out;have hnc26:=NB263_262.out;have ⟨hcz27_0,hcz27_1,hfz27_0,hfz27_1⟩:=sq_box2 BK262.out)|((with_reducible refine gate_callee (f:=104) rfl ?_);refine goesL_ (some 18) rfl rfl Tryz.func104 J0 rfl #[.agg #[.slice A0_0 l0_0.length c0_0,.slice A0_1 l0_1.length c0_1],.agg #[.int .i64 ((rd_T51 l1_1 x12_1).f0),.string ((rd_T51 l1_1 x12_1).f1),.int .i64 ((rd_T51 l1_1 x12_1).f2),.int .i64 ((rd_T51 l1_1 x12_1).f3),.bool ((rd_T51 l1_1 x12_1).f4),.int .i64 ((rd_T51 l1_1 x12_1).f5),.int .i64 ((rd_T51 l1_1 x12_1).f6)]] rfl J1 ?_;(with_reducible refine (table_field.calls k1 _ _ l0_0 _ _ l0_1 ((rd_T51 l1_1 x12_1).f0) ((rd_T51 l1_1 x12_1).f1) ((rd_T51 l1_1 x12_1).f2) ((rd_T51 l1_1 x12_1).f3) ((rd_T51 l1_1 x12_1).f4) ((rd_T51 l1_1 x12_1).f5) ((rd_T51 l1_1 x12_1).f6) true _ ?side1 ?side2 ?side3 ?side4 A10.out).mono ?_);(case side1=>exact Kd.C_below HR0_0.out J25);(case side2=>exact HC0_0.out);(case side3=>exact Kd.C_below HR0_1.out J25);(case side4=>exact HC0_1.out);rintro e w28 ⟨rfl,hb⟩;refine ⟨_,rfl,?_⟩;have n0_:=Y0 (Kd.R_below J31 hb);have n1_:=Y0 (blk_below (g:=gb262) (o:=.cells #[.slice A0_0 l0_0.length c0_0,.slice A0_1 l0_1.length c0_1] 46 (0,0)) J34 hb);have n2_:=Y0 (blk_below (g:=gb263) (o:=.cells #[.string a1_0,.slice (some ad264) l1_1.length c1_1] 57 (0,0)) J33 hb);have n3_:=Y0 (blk_below (g:=gb265) (o:=.cells #[.int .i64 ((rd_T51 l1_1 x12_1).f0),.string ((rd_T51 l1_1 x12_1).f1),.int .i64 ((rd_T51 l1_1 x12_1).f2),.int .i64 ((rd_T51 l1_1 x12_1).f3),.bool ((rd_T51 l1_1 x12_1).f4),.int .i64 ((rd_T51 l1_1 x12_1).f5),.int .i64 ((rd_T51 l1_1 x12_1).f6)] 51 (0,0)) J13 hb);have n4_:=Y0 (below_step J25 hb);clear HO_5;clear BK262;clear BK263;clear BK265;clear HB;have HO_5:=n0_;have BK262:=n1_;have BK263:=n2_;have BK265:=n3_;have HB:=n4_;clear n0_ n1_ n2_ n3_ n4_;(try clear hb);(try clear hb2);(try clear hk);(try clear hi);have ⟨hcz29_0,hcz29_1,hcz29_2,hcz29_3,hcz29_4,hcz29_5,hcz29_6,hfz29_0,hfz29_1,hfz29_2,hfz29_3,hfz29_4,hfz29_5,hfz29_6⟩:=sq_box7 BK265.out)|((with_reducible refine gate_builtin (b:=.append) (xs:=#[.tmp 28,.tmp 31]) rfl ?_);at_builtin;refine Kd.R_append Kd.string (w0:=w) w.heap.size rfl (.tmp 28) (.tmp 31) 31 9 (.string ⟨#[]⟩) 16 rfl Tryz.underlying31 info9 rfl J11 J7 u5 x5_1 ((rd_T51 l1_1 x12_1).f1) [.string ((rd_T51 l1_1 x12_1).f1)] (fun _=>True) (fun _=>False) rfl rfl ?aP (fun _ hk=>hk.elim) ?aF ?aO ?aB ?aS ?aL ?_;(case aP=>exact rfl);(case aB=>exact J25);(case aF=>exact (fun _ _=>trivial));(case aO=>exact J96);(case aS=>exact (below_size J25));(case aL=>have:=LMc21.out;omega);intro v268 w30 ho hb hg hat;rw [← Ny267.out] at ho;have n0_:=Y0 (blk_grown (g:=gb262) (o:=.cells #[.slice A0_0 l0_0.length c0_0,.slice A0_1 l0_1.length c0_1] 46 (0,0)) J39 hg (Kd.R_ne HO_5.out BK262.out J11));have n1_:=Y0 (blk_grown (g:=gb263) (o:=.cells #[.string a1_0,.slice (some ad264) l1_1.length c1_1] 57 (0,0)) J47 hg (Kd.R_ne HO_5.out BK263.out J11));have n2_:=Y0 (blk_grown (g:=gb265) (o:=.cells #[.int .i64 ((rd_T51 l1_1 x12_1).f0),.string ((rd_T51 l1_1 x12_1).f1),.int .i64 ((rd_T51 l1_1 x12_1).f2),.int .i64 ((rd_T51 l1_1 x12_1).f3),.bool ((rd_T51 l1_1 x12_1).f4),.int .i64 ((rd_T51 l1_1 x12_1).f5),.int .i64 ((rd_T51 l1_1 x12_1).f6)] 51 (0,0)) (by (with_reducible repeat first|apply Y11|apply Y13|apply Y12);exact BK265.out) hg (Kd.R_ne HO_5.out BK265.out J11));have n3_:=Y0 (hb);have n4_:=Y0 (ho);clear BK262;clear BK263;clear BK265;clear HB;clear HO_5;have BK262:=n0_;have BK263:=n1_;have BK265:=n2_;have HB:=n3_;have HO269:=n4_;clear n0_ n1_ n2_ n3_ n4_;clear ho hb hg hat))
   go_roundg k1
   case measure=>have:=HK1.out;omega
   case rel=>exact ⟨(y267),((rd_T51 l1_1 x12_1).f0),(wrap64 (x12_1 + 1)),J12,J12,H',⟨J123⟩,⟨by (with_reducible repeat (first|apply Y5|apply Y6|apply Y7));exact HO269.out⟩,⟨J39⟩,⟨J47⟩,⟨J25⟩⟩
def table_unique_int64.f (l0:List Int):Option Bool:=if ∀ s ∈ l0,(Lit.int .i64 s).wf=true then some (uniqB (l0.map id)) else none
theorem table_unique_int64.calls (A0:Option Addr) (c0:Nat) (l0:List Int) (r:Bool) (w:World) (hr0:Kd.C (Kd.int .i64) w A0 l0.length l0) (hc0:l0.length≤c0) (h:table_unique_int64.f l0=some r) :
  Calls Tryz.prog 107 #[.slice A0 l0.length c0] w fun e w'=>e = .returned (.bool r)∧Below w.heap.size w w':=by
 unfold table_unique_int64.f at h
 split at h
 ·rename_i hz
  obtain rfl:=Option.some.inj h
  exact uniq_i l0 A0 c0 w hr0 hc0 hz
 ·cases h
def table_enum_1.f (a0:Int):Option (Bool):=if a0 < (-2147483648) then (some true) else (some (decide (a0 > 2147483647)))
set_option maxHeartbeats 8000000 in
set_option maxRecDepth 100000 in
theorem table_enum_1.calls (a0:Int) (r:Bool) (w:World) (h:table_enum_1.f a0=some r) :
  Calls Tryz.prog 106 #[.int .i64 a0] w fun e w'=>e = .returned (.bool r)∧Drawn0 w w':=by
 have H:(if a0 < (-2147483648) then (some true) else (some (decide (a0 > 2147483647))))=some r:=h
 clear h
 by_cases c2:a0 < (-2147483648)
 ·rw [if_pos c2] at H
  have c2b0:decide (a0 < (-2147483648))=true:=decide_eq_true c2
  clear c2
  obtain rfl:=Option.some.inj H
  go_enter Tryz.func106,Tryz.ntmps106
  go_wp2
  go_ret
  exact ⟨J12,J17⟩
 rw [if_neg c2] at H
 have c2b0:decide (a0 < (-2147483648))=false:=decide_eq_false c2
 clear c2
 obtain rfl:=Option.some.inj H
 go_enter Tryz.func106,Tryz.ntmps106
 go_wp2
 go_ret
 exact ⟨J12,J17⟩
def wideI (n:Int):Bool:=decide (n < -2147483648) || decide (n > 2147483647)
theorem wide_f (n:Int):table_enum_1.f n=some (wideI n):=by
 unfold table_enum_1.f wideI
 by_cases h:n < -2147483648
 ·rw [decide_eq_true h];simp [h]
 ·rw [decide_eq_false h];simp [h]
set_option maxRecDepth 100000 in
set_option maxHeartbeats 4000000 in
theorem idx_wide (l:List Int) (A:Option Addr) (c:Nat) (w:World) (hC:(Kd.int .i64).C w A l.length l) (hc:l.length≤c) :
  Calls Tryz.prog 141 #[.slice A l.length c,.func (.func 106) #[] #[]] w fun e w'=>e = .returned (.int .i64 (idxW wideI l 0))∧Below w.heap.size w w':=by
 have HC:=Y0 hC
 have hm1:=Kd.C_max hC
 clear hC
 go_enter Tryz.func141,Tryz.ntmps141
 go_wp2
 go_loopg [8] l.length (fun n v W=>∃ i:Nat,v = .int .i64 i∧Aside0 (idxW wideI (l.drop i) i=idxW wideI l 0)∧Aside0 (Below w.heap.size w W)∧Aside0 (i + n=l.length))
 case atStart=>exact ⟨0,rfl,⟨rfl⟩,⟨Below.refl _ _⟩,⟨J7⟩⟩
 case round =>
  obtain ⟨i,rfl,HS,HB,HL⟩:=hrel
  by_cases hlt:i < l.length
  ·have hst:=HS.out
   rw [List.drop_eq_getElem_cons hlt,idxW] at hst
   have HT:=Y0 hst
   clear HS hst
   have d3:(0:Int)≤(i:Int):=by omega
   have d4:(i:Int) < (l.length:Int):=by omega
   obtain ⟨ad,had,z0⟩:=Kd.at_int HC.out i d3 d4
   obtain ⟨x,hx⟩:∃ x,x=l[i]'hlt:=⟨_,rfl⟩
   have hrd:rd l i=x:=by unfold rd;rw [hx,List.getD_eq_getElem?_getD];simp [hlt]
   rw [hrd] at z0
   rw [Int.toNat_natCast] at z0
   replace z0:=(HB.out.cell (World.block_lt_of_cell? w _ z0)).trans z0
   clear hrd
   subst had
   rw [← hx] at HT
   clear hx
   have HE:=Y0 (wide_f x)
   obtain ⟨b,hb⟩:∃ b,wideI x=b:=⟨_,rfl⟩
   rw [hb] at HT HE
   clear hb
   cases gk with
   | zero=>have:=HL.out;omega
   | succ k1 =>
    cases b
    ·have hF:Aside0 (idxW wideI (l.drop (i + 1)) ((i + 1:Nat):Int)=idxW wideI l 0):=⟨HT.out⟩
     clear HT
     go_wp2_with (go_at_call 106;refine (table_enum_1.calls x false _ HE.out).mono ?_;rintro e W1 ⟨rfl,hB1⟩)
     go_roundg k1
     case measure=>omega
     case rel=>exact ⟨i + 1,J112,hF,⟨below_step HB.out hB1.below⟩,⟨J69⟩⟩
    ·have hT:Aside0 ((i:Int)=idxW wideI l 0):=⟨HT.out⟩
     clear HT
     go_wp2_with (go_at_call 106;refine (table_enum_1.calls x true _ HE.out).mono ?_;rintro e W1 ⟨rfl,hB1⟩)
     go_ret
     exact ⟨J157,below_step HB.out hB1.below⟩
  ·have hF:Aside0 ((-1:Int)=idxW wideI l 0):=⟨J119⟩
   clear HS
   go_wp2
   go_ret
   exact ⟨J122,HB.out⟩
theorem idxW_any {α:Type} (p:α→Bool):∀ (l:List α) (s:Int),0≤s→(idxW p l s < 0↔l.any p=false)
 | [],_,_=>by simp [idxW]
 | x :: r,s,hs=>by
  rw [idxW,List.any_cons]
  by_cases h:p x=true
  ·rw [if_pos h,h];simp;omega
  ·rw [if_neg h,idxW_any p r (s + 1) J7];simp [h]
def slices_ContainsFunc_int64_int64.f (l0:List Int) (a1:Nat):Option Bool:=if a1=106 then some (l0.any wideI) else none
theorem slices_ContainsFunc_int64_int64.calls (A0:Option Addr) (c0:Nat) (l0:List Int) (a1:Nat) (r:Bool) (w:World) (hr0:Kd.C (Kd.int .i64) w A0 l0.length l0) (hc0:l0.length≤c0) (h:slices_ContainsFunc_int64_int64.f l0 a1=some r) :
  Calls Tryz.prog 105 #[.slice A0 l0.length c0,.func (.func a1) #[] #[]] w fun e w'=>e = .returned (.bool r)∧Below w.heap.size w w':=by
 unfold slices_ContainsFunc_int64_int64.f at h
 split at h
 ·rename_i ha
  subst ha
  obtain rfl:=Option.some.inj h
  have HW:=Y0 (idx_wide l0 A0 c0)
  have hi:=idxW_any wideI l0 0 (Int.le_refl _)
  obtain ⟨q,hq⟩:∃ q,q=idxW wideI l0 0:=⟨_,rfl⟩
  rw [← hq] at HW hi
  have HR:=Y0 hr0
  clear hq hr0 h
  by_cases hlt:q < 0
  ·rw [hi.1 hlt]
   have t1:decide (0≤q)=false:=decide_eq_false J7
   clear hi hlt
   go_enter Tryz.func105,Tryz.ntmps105
   go_wp2_with (go_at_call 141;refine (HW.out _ HR.out hc0).mono ?_;rintro e W1 ⟨rfl,hB1⟩)
   go_ret
   exact ⟨rfl,hB1⟩
  have:l0.any wideI=true:=by
   cases hb:l0.any wideI with
   | true=>rfl
   | false=>exact absurd (hi.2 hb) hlt
  rw [this]
  have t1:decide (0≤q)=true:=decide_eq_true J7
  clear hi hlt this
  go_enter Tryz.func105,Tryz.ntmps105
  go_wp2_with (go_at_call 141;refine (HW.out _ HR.out hc0).mono ?_;rintro e W1 ⟨rfl,hB1⟩)
  go_ret
  exact ⟨rfl,hB1⟩
 ·cases h
end Go.Proofs.YtddpjjhekhompaaGreatDoor.P
