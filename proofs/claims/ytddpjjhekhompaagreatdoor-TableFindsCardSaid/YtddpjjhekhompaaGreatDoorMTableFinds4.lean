/- Part 4 of what the law TableFinds leans on: contracts of the functions that it reaches, and plain lemmas; printed walks and words (by the kit's print, through wip/mp.py) and the session's own texts, one behind the other, what is not used left out (wip/prune.py). -/
import Derived.StillTailTactics
import Derived.Test.YtddpjjhekhompaaGreatDoorMTableFinds1
import Derived.Test.YtddpjjhekhompaaGreatDoorMTableFinds2
import Derived.Test.YtddpjjhekhompaaGreatDoorMTableFinds3
namespace Go.Proofs.YtddpjjhekhompaaGreatDoor.P
open Go.RowKit Go.Proofs.YtddpjjhekhompaaGreatDoorW.PrintWords Go.Proofs.YtddpjjhekhompaaGreatDoorW.PrintLast Go.Proofs.YtddpjjhekhompaaGreatDoorW.PrintMore
attribute [local go_sem] max2_int max_two
set_option linter.unusedVariables false
set_option linter.unusedSimpArgs false
structure Good {α:Type} (P:Int→PS→α × PS):Prop where
 stay:∀ e s,s.b=true→(P e s).2=s
 good:∀ e r,(P e ⟨r,false⟩).2.b=false→∃ c,c≠[]∧r=c++(P e ⟨r,false⟩).2.r∧∀ e' y,P e' ⟨c++y,false⟩=((P e ⟨r,false⟩).1,⟨y,false⟩)
 bad:∀ e r,(P e ⟨r,false⟩).2.b=true→∃ c,r=c++(P e ⟨r,false⟩).2.r∧∀ e',(P e' ⟨c,false⟩).2=⟨[],true⟩
theorem PS_eta (s:PS) (h:s.b=false):s=⟨s.r,false⟩:=by cases s;cases h;rfl
theorem PS_eta1 (s:PS) (h:s.b=true):s=⟨s.r,true⟩:=by cases s;cases h;rfl
theorem Good.nil {α:Type} {P:Int→PS→α × PS} (h:Good P) (e:Int):(P e ⟨[],false⟩).2=⟨[],true⟩:=by
 cases hb:(P e ⟨[],false⟩).2.b with
 | false =>
  obtain ⟨c,hc,he,_⟩:=h.good e [] hb
  cases c with
  | nil=>exact absurd rfl hc
  | cons=>cases he
 | true =>
  obtain ⟨c,he,h2⟩:=h.bad e [] hb
  obtain rfl:c=[]:=by
   cases c with
   | nil=>rfl
   | cons=>cases he
  exact h2 e
theorem Good.seq {α β:Type} {P:Int→PS→α × PS} {Q:α→Int→PS→β × PS} (hP:Good P) (hQ:∀ a,Good (Q a)):Good (fun e s=>Q (P e s).1 e (P e s).2):=by
 refine ⟨fun e s hs=>?_,fun e r hb=>?_,fun e r hb=>?_⟩
 ·show (Q (P e s).1 e (P e s).2).2=s
  rw [hP.stay e s hs]
  exact (hQ _).stay e s hs
 ·have h1:(P e ⟨r,false⟩).2.b=false:=by
   cases h:(P e ⟨r,false⟩).2.b with
   | false=>rfl
   | true =>
    have:=(hQ (P e ⟨r,false⟩).1).stay e _ h
    have hb':(Q (P e ⟨r,false⟩).1 e (P e ⟨r,false⟩).2).2.b=false:=hb
    rw [this,h] at hb'
    cases hb'
  obtain ⟨c,hc,hr,hy⟩:=hP.good e r h1
  have hq:(Q (P e ⟨r,false⟩).1 e ⟨(P e ⟨r,false⟩).2.r,false⟩).2.b=false:=by rw [← PS_eta _ h1];exact hb
  obtain ⟨c2,hc2,hr2,hy2⟩:=(hQ _).good e _ hq
  rw [← PS_eta _ h1] at hr2 hy2
  refine ⟨c++c2,by simp [hc],?_,fun e' y=>?_⟩
  ·rw [List.append_assoc,← hr2];exact hr
  ·show Q (P e' ⟨c++c2++y,false⟩).1 e' (P e' ⟨c++c2++y,false⟩).2=_
   rw [List.append_assoc,hy]
   exact hy2 e' y
 ·cases h1:(P e ⟨r,false⟩).2.b with
  | true =>
   obtain ⟨c,hr,hy⟩:=hP.bad e r h1
   have h2:(Q (P e ⟨r,false⟩).1 e (P e ⟨r,false⟩).2).2=(P e ⟨r,false⟩).2:=(hQ _).stay e _ h1
   refine ⟨c,?_,fun e'=>?_⟩
   ·show r=c++(Q (P e ⟨r,false⟩).1 e (P e ⟨r,false⟩).2).2.r
    rw [h2];exact hr
   ·show (Q (P e' ⟨c,false⟩).1 e' (P e' ⟨c,false⟩).2).2=_
    rw [hy]
    exact (hQ _).stay e' _ rfl
  | false =>
   obtain ⟨c,hc,hr,hy⟩:=hP.good e r h1
   have hq:(Q (P e ⟨r,false⟩).1 e ⟨(P e ⟨r,false⟩).2.r,false⟩).2.b=true:=by rw [← PS_eta _ h1];exact hb
   obtain ⟨c2,hr2,hy2⟩:=(hQ _).bad e _ hq
   rw [← PS_eta _ h1] at hr2
   refine ⟨c++c2,?_,fun e'=>?_⟩
   ·rw [List.append_assoc,← hr2];exact hr
   ·show (Q (P e' ⟨c++c2,false⟩).1 e' (P e' ⟨c++c2,false⟩).2).2=_
    rw [hy]
    exact hy2 e'
theorem pAt_cons (e e':Int) (c y z:List TokS) (b b':Bool) (h:c≠[]):pAt e ⟨c++y,b⟩=pAt e' ⟨c++z,b'⟩:=by
 cases c with
 | nil=>exact absurd rfl h
 | cons=>rfl
theorem Good.at_ {α β:Type} {P:Int→PS→α × PS} (hP:Good P) (f:Int→α→β):Good (fun e s=>(f (pAt e s) (P e s).1,(P e s).2)):=by
 refine ⟨hP.stay,fun e r hb=>?_,hP.bad⟩
 obtain ⟨c,hc,hr,hy⟩:=hP.good e r hb
 refine ⟨c,hc,hr,fun e' y=>?_⟩
 show (f (pAt e' ⟨c++y,false⟩) (P e' ⟨c++y,false⟩).1,(P e' ⟨c++y,false⟩).2)=(f (pAt e ⟨r,false⟩) (P e ⟨r,false⟩).1,_)
 have e1:pAt e' ⟨c++y,false⟩=pAt e ⟨r,false⟩:=by
  have h:=pAt_cons e' e c y (P e ⟨r,false⟩).2.r false false hc
  rw [← hr] at h
  exact h
 rw [hy,e1]
theorem Good.map {α β:Type} {P:Int→PS→α × PS} (hP:Good P) (f:α→β):Good (fun e s=>(f (P e s).1,(P e s).2)):=hP.at_ (fun _ a=>f a)
theorem take_good (k:Int):Good (fun _ s=>pTake k s):=by
 refine ⟨fun e s hs=>?_,fun e r hb=>?_,fun e r hb=>?_⟩
 ·simp only [pTake,hs,if_true]
 ·cases r with
  | nil=>cases hb
  | cons t r =>
   by_cases h:t.f0=k
   ·refine ⟨[t],by simp,?_,fun e' y=>?_⟩
    ·simp [pTake,h]
    ·simp [pTake,h]
   ·simp [pTake,h] at hb
 ·cases r with
  | nil=>exact ⟨[],rfl,fun _=>rfl⟩
  | cons t r =>
   by_cases h:t.f0=k
   ·simp [pTake,h] at hb
   ·exact ⟨[],by simp [pTake,h],fun _=>rfl⟩
theorem must_good (x:List UInt8):Good (fun _ s=>((),pMust x s)):=by
 refine ⟨fun e s hs=>?_,fun e r hb=>?_,fun e r hb=>?_⟩
 ·simp only [pMust,pIs,hs,if_true]
  rw [if_neg (by decide)]
  exact (PS_eta1 s hs).symm
 ·cases r with
  | nil=>cases hb
  | cons t r =>
   by_cases h:isT 3 x t=true
   ·refine ⟨[t],by simp,?_,fun e' y=>?_⟩
    ·simp [pMust,pIs,h]
    ·simp [pMust,pIs,h]
   ·simp [pMust,pIs,h] at hb
 ·cases r with
  | nil=>exact ⟨[],rfl,fun _=>rfl⟩
  | cons t r =>
   by_cases h:isT 3 x t=true
   ·simp [pMust,pIs,h] at hb
   ·exact ⟨[],by simp [pMust,pIs,h],fun _=>rfl⟩
theorem named_good:Good (fun _ s=>pNamed s) :=
 Good.seq (Q:=fun a _ s=>((a.f1,(pTake 1 (pMust [61] s)).1.f2),pMust [59] (pTake 1 (pMust [61] s)).2)) (take_good 0) fun a =>
  Good.seq (P:=fun _ s=>((),pMust [61] s)) (Q:=fun _ _ s=>((a.f1,(pTake 1 s).1.f2),pMust [59] (pTake 1 s).2)) (must_good [61]) fun _ =>
   Good.seq (P:=fun _ s=>pTake 1 s) (Q:=fun b _ s=>((a.f1,b.f2),pMust [59] s)) (take_good 1) fun b=>(must_good [59]).map fun _=>(a.f1,b.f2)
theorem field_good (one:Int):Good (fun e s=>pField e one s) :=
 Good.at_ (P:=fun _ s=>(((pTake 0 s).1,(pNamed (pTake 0 s).2).1),(pNamed (pTake 0 s).2).2))
  (Good.seq (P:=fun _ s=>pTake 0 s) (Q:=fun t _ s=>((t,(pNamed s).1),(pNamed s).2)) (take_good 0) fun t=>named_good.map fun n=>(t,n))
  (fun a x=>(⟨x.1.f1,⟨#[]⟩,false,one,x.2.1,x.2.2,a⟩:FieldS))
theorem Good.ite {α:Type} {p:PS→Bool} {A B:Int→PS→α × PS} (hA:Good A) (hB:Good B) (hp:∀ s,s.b=true→p s=false) (h0:p ⟨[],false⟩=false) (h1:∀ t r r',p ⟨t :: r,false⟩=p ⟨t :: r',false⟩):Good (fun e s=>if p s=true then A e s else B e s):=by
 have hc:∀ (c y z:List TokS),c≠[]→p ⟨c++y,false⟩=p ⟨c++z,false⟩:=by
  intro c y z h
  cases c with
  | nil=>exact absurd rfl h
  | cons t c=>exact h1 _ _ _
 refine ⟨fun e s hs=>?_,fun e r hb=>?_,fun e r hb=>?_⟩
 ·show (if p s=true then A e s else B e s).2=s
  rw [hp s hs,if_neg (by decide)]
  exact hB.stay e s hs
 ·show ∃ c,c≠[]∧r=c++(if p ⟨r,false⟩=true then A e ⟨r,false⟩ else B e ⟨r,false⟩).2.r∧∀ e' y,(if p ⟨c++y,false⟩=true then A e' ⟨c++y,false⟩ else B e' ⟨c++y,false⟩)=((if p ⟨r,false⟩=true then A e ⟨r,false⟩ else B e ⟨r,false⟩).1,⟨y,false⟩)
  have hb':(if p ⟨r,false⟩=true then A e ⟨r,false⟩ else B e ⟨r,false⟩).2.b=false:=hb
  by_cases h:p ⟨r,false⟩=true
  ·rw [if_pos h] at hb' ⊢
   obtain ⟨c,hn,hr,hy⟩:=hA.good e r hb'
   refine ⟨c,hn,hr,fun e' y=>?_⟩
   have:=hc c y (A e ⟨r,false⟩).2.r hn
   rw [← hr,h] at this
   rw [if_pos this]
   exact hy e' y
  ·rw [if_neg h] at hb' ⊢
   obtain ⟨c,hn,hr,hy⟩:=hB.good e r hb'
   refine ⟨c,hn,hr,fun e' y=>?_⟩
   have:=hc c y (B e ⟨r,false⟩).2.r hn
   rw [← hr] at this
   rw [if_neg (by rw [this];exact h)]
   exact hy e' y
 ·show ∃ c,r=c++(if p ⟨r,false⟩=true then A e ⟨r,false⟩ else B e ⟨r,false⟩).2.r∧∀ e',(if p ⟨c,false⟩=true then A e' ⟨c,false⟩ else B e' ⟨c,false⟩).2=⟨[],true⟩
  have hb':(if p ⟨r,false⟩=true then A e ⟨r,false⟩ else B e ⟨r,false⟩).2.b=true:=hb
  by_cases h:p ⟨r,false⟩=true
  ·rw [if_pos h] at hb' ⊢
   obtain ⟨c,hr,hy⟩:=hA.bad e r hb'
   refine ⟨c,hr,fun e'=>?_⟩
   by_cases hn:c=[]
   ·subst hn
    rw [if_neg (by rw [h0];decide)]
    exact hB.nil e'
   ·have:=hc c [] (A e ⟨r,false⟩).2.r hn
    rw [← hr,h,List.append_nil] at this
    rw [if_pos this]
    exact hy e'
  ·rw [if_neg h] at hb' ⊢
   obtain ⟨c,hr,hy⟩:=hB.bad e r hb'
   refine ⟨c,hr,fun e'=>?_⟩
   by_cases hn:c=[]
   ·subst hn
    rw [if_neg (by rw [h0];decide)]
    exact hB.nil e'
   ·have:=hc c [] (B e ⟨r,false⟩).2.r hn
    rw [← hr,List.append_nil] at this
    rw [if_neg (by rw [this];exact h)]
    exact hy e'
theorem Good.mu_lt {α:Type} {P:Int→PS→α × PS} (h:Good P) (e:Int) (s:PS) (hs:s.b=false):mu (P e s).2 < mu s:=by
 have h1:mu s=s.r.length + 1:=by unfold mu;rw [hs];rfl
 rw [h1,PS_eta s hs]
 cases hb:(P e ⟨s.r,false⟩).2.b with
 | true=>unfold mu;rw [if_pos hb];omega
 | false =>
  obtain ⟨c,hn,hr,_⟩:=h.good e s.r hb
  have h2:mu (P e ⟨s.r,false⟩).2=(P e ⟨s.r,false⟩).2.r.length + 1:=by unfold mu;rw [hb];rfl
  rw [h2]
  have h3:s.r.length=c.length + (P e ⟨s.r,false⟩).2.r.length:=by rw [← List.length_append,← hr]
  have h4:0 < c.length:=by
   cases c with
   | nil=>exact absurd rfl hn
   | cons=>simp
  simp only [h3]
  omega
theorem mu_zero (s:PS) (h:mu s=0):s.b=true:=by
 unfold mu at h
 split at h
 ·assumption
 ·omega
theorem pLoop_fuel {α:Type} (x:List UInt8) {P:α→Int→PS→α × PS} (hP:∀ a,Good (P a)):∀ f g a e s,mu s≤f→mu s≤g→pLoop x P f a e s=pLoop x P g a e s:=by
 intro f
 induction f with
 | zero =>
  intro g a e s hf hg
  have hb:=mu_zero s (by omega)
  cases g with
  | zero=>rfl
  | succ g=>rw [pLoop,pLoop,if_pos hb]
 | succ f ih =>
  intro g a e s hf hg
  cases hb:s.b with
  | true=>cases g with
   | zero=>rw [pLoop,pLoop,if_pos hb]
   | succ g=>rw [pLoop,pLoop,if_pos hb,if_pos hb]
  | false=>cases g with
   | zero =>
    have:=mu_zero s (by omega)
    rw [hb] at this
    cases this
   | succ g =>
    have hn:¬ s.b=true:=by rw [hb];decide
    rw [pLoop,pLoop,if_neg hn,if_neg hn]
    have h1:=(hP a).mu_lt e s hb
    rw [ih g _ e _ (by omega) (by omega)]
theorem pLoop_stay {α:Type} (x:List UInt8) (P:α→Int→PS→α × PS) (n:Nat) (a:α) (e:Int) (s:PS) (hs:s.b=true):pLoop x P n a e s=(a,s):=by
 cases n with
 | zero=>rfl
 | succ n=>rw [pLoop,if_pos hs]
theorem pLoopW_stay {α:Type} (x:List UInt8) (P:α→Int→PS→α × PS) (a:α) (e:Int) (s:PS) (hs:s.b=true):pLoopW x P a e s=(a,s):=by
 have:mu s=0:=by unfold mu;rw [if_pos hs]
 unfold pLoopW
 rw [this,pLoop]
theorem pLoopW_eq {α:Type} (x:List UInt8) {P:α→Int→PS→α × PS} (hP:∀ a,Good (P a)) (a:α) (e:Int) (s:PS) (hs:s.b=false):pLoopW x P a e s=if (pSign x s).1=true then (a,(pSign x s).2) else pLoopW x P (P a e s).1 e (P a e s).2:=by
 have h1:mu s=s.r.length + 1:=by unfold mu;rw [hs];rfl
 have h2:=(hP a).mu_lt e s hs
 show pLoop x P (mu s) a e s=_
 rw [h1,pLoop,if_neg (by rw [hs];decide),pLoop_fuel x hP s.r.length (mu (P a e s).2) _ e _ (by omega) (Nat.le_refl _)]
 rfl
theorem pSign_nil (x:List UInt8):pSign x ⟨[],false⟩=(false,⟨[],false⟩):=rfl
theorem pSign_cons (x:List UInt8) (t:TokS) (r:List TokS):pSign x ⟨t :: r,false⟩=if isT 3 x t=true then (true,⟨r,false⟩) else (false,⟨t :: r,false⟩):=by
 by_cases h:isT 3 x t=true <;> simp [pSign,pIs,h]
theorem loop_good {α:Type} (x:List UInt8) {P:α→Int→PS→α × PS} (hP:∀ a,Good (P a)):∀ a,Good (pLoopW x P a):=by
 have hg:∀ n e r a,r.length≤n→(pLoopW x P a e ⟨r,false⟩).2.b=false→∃ c,c≠[]∧r=c++(pLoopW x P a e ⟨r,false⟩).2.r∧∀ e' y,pLoopW x P a e' ⟨c++y,false⟩=((pLoopW x P a e ⟨r,false⟩).1,⟨y,false⟩):=by
  intro n
  induction n with
  | zero =>
   intro e r a hn hb
   obtain rfl:r=[]:=List.length_eq_zero_iff.1 (by omega)
   rw [pLoopW_eq x hP a e _ rfl,pSign_nil,if_neg (by decide),(hP a).nil e,pLoopW_stay _ _ _ _ _ rfl] at hb
   cases hb
  | succ n ih =>
   intro e r a hn hb
   cases r with
   | nil =>
    rw [pLoopW_eq x hP a e _ rfl,pSign_nil,if_neg (by decide),(hP a).nil e,pLoopW_stay _ _ _ _ _ rfl] at hb
    cases hb
   | cons t r =>
    by_cases h:isT 3 x t=true
    ·refine ⟨[t],by simp,?_,fun e' y=>?_⟩
     ·rw [pLoopW_eq x hP a e _ rfl,pSign_cons,if_pos h,if_pos rfl];rfl
     ·rw [pLoopW_eq x hP a e' _ rfl,pLoopW_eq x hP a e _ rfl,List.singleton_append,pSign_cons,pSign_cons,if_pos h,if_pos h,if_pos rfl,if_pos rfl]
    ·have e1:pLoopW x P a e ⟨t :: r,false⟩=pLoopW x P (P a e ⟨t :: r,false⟩).1 e (P a e ⟨t :: r,false⟩).2:=by rw [pLoopW_eq x hP a e _ rfl,pSign_cons,if_neg h,if_neg Bool.false_ne_true]
     rw [e1] at hb ⊢
     cases h1:(P a e ⟨t :: r,false⟩).2.b with
     | true =>
      rw [pLoopW_stay _ _ _ _ _ h1,h1] at hb
      cases hb
     | false =>
      obtain ⟨c,hc,hr,hy⟩:=(hP a).good e _ h1
      rw [PS_eta _ h1] at hb ⊢
      have hl:(P a e ⟨t :: r,false⟩).2.r.length≤n:=by
       have:(t :: r).length=c.length + (P a e ⟨t :: r,false⟩).2.r.length:=by rw [← List.length_append,← hr]
       have h4:0 < c.length:=by
        cases c with
        | nil=>exact absurd rfl hc
        | cons=>simp
       omega
      obtain ⟨c2,hc2,hr2,hy2⟩:=ih e _ _ hl hb
      obtain ⟨t',c',rfl⟩:∃ t' c',c=t' :: c':=by
       cases c with
       | nil=>exact absurd rfl hc
       | cons t' c'=>exact ⟨t',c',rfl⟩
      obtain rfl:t'=t:=by
       have:=congrArg List.head? hr
       simp at this
       exact this.symm
      refine ⟨t' :: c'++c2,by simp,?_,fun e' y=>?_⟩
      ·rw [List.append_assoc,← hr2];exact hr
      ·rw [pLoopW_eq x hP a e' _ rfl,List.append_assoc,List.cons_append,pSign_cons,if_neg h,if_neg Bool.false_ne_true,← List.cons_append,hy]
       exact hy2 e' y
 have hbd:∀ n e r a,r.length≤n→(pLoopW x P a e ⟨r,false⟩).2.b=true→∃ c,r=c++(pLoopW x P a e ⟨r,false⟩).2.r∧∀ e',(pLoopW x P a e' ⟨c,false⟩).2=⟨[],true⟩:=by
  intro n
  induction n with
  | zero =>
   intro e r a hn hb
   obtain rfl:r=[]:=List.length_eq_zero_iff.1 (by omega)
   have:∀ e',(pLoopW x P a e' ⟨[],false⟩).2=⟨[],true⟩:=fun e'=>by rw [pLoopW_eq x hP a e' _ rfl,pSign_nil,if_neg (by decide),(hP a).nil e',pLoopW_stay _ _ _ _ _ rfl]
   exact ⟨[],by rw [this e];rfl,this⟩
  | succ n ih =>
   intro e r a hn hb
   cases r with
   | nil =>
    have:∀ e',(pLoopW x P a e' ⟨[],false⟩).2=⟨[],true⟩:=fun e'=>by rw [pLoopW_eq x hP a e' _ rfl,pSign_nil,if_neg (by decide),(hP a).nil e',pLoopW_stay _ _ _ _ _ rfl]
    exact ⟨[],by rw [this e];rfl,this⟩
   | cons t r =>
    by_cases h:isT 3 x t=true
    ·rw [pLoopW_eq x hP a e _ rfl,pSign_cons,if_pos h,if_pos rfl] at hb
     cases hb
    ·have e1:pLoopW x P a e ⟨t :: r,false⟩=pLoopW x P (P a e ⟨t :: r,false⟩).1 e (P a e ⟨t :: r,false⟩).2:=by rw [pLoopW_eq x hP a e _ rfl,pSign_cons,if_neg h,if_neg Bool.false_ne_true]
     rw [e1] at hb ⊢
     cases h1:(P a e ⟨t :: r,false⟩).2.b with
     | true =>
      rw [pLoopW_stay _ _ _ _ _ h1]
      obtain ⟨c,hr,hy⟩:=(hP a).bad e _ h1
      refine ⟨c,hr,fun e'=>?_⟩
      cases c with
      | nil=>rw [pLoopW_eq x hP a e' _ rfl,pSign_nil,if_neg (by decide),(hP a).nil e',pLoopW_stay _ _ _ _ _ rfl]
      | cons t' c' =>
       obtain rfl:t'=t:=by
        have:=congrArg List.head? hr
        simp at this
        exact this.symm
       rw [pLoopW_eq x hP a e' _ rfl,pSign_cons,if_neg h,if_neg Bool.false_ne_true,hy e',pLoopW_stay _ _ _ _ _ rfl]
     | false =>
      obtain ⟨c,hc,hr,hy⟩:=(hP a).good e _ h1
      rw [PS_eta _ h1] at hb ⊢
      have hl:(P a e ⟨t :: r,false⟩).2.r.length≤n:=by
       have:(t :: r).length=c.length + (P a e ⟨t :: r,false⟩).2.r.length:=by rw [← List.length_append,← hr]
       have h4:0 < c.length:=by
        cases c with
        | nil=>exact absurd rfl hc
        | cons=>simp
       omega
      obtain ⟨c2,hr2,hy2⟩:=ih e _ _ hl hb
      obtain ⟨t',c',rfl⟩:∃ t' c',c=t' :: c':=by
       cases c with
       | nil=>exact absurd rfl hc
       | cons t' c'=>exact ⟨t',c',rfl⟩
      obtain rfl:t'=t:=by
       have:=congrArg List.head? hr
       simp at this
       exact this.symm
      refine ⟨t' :: c'++c2,?_,fun e'=>?_⟩
      ·rw [List.append_assoc,← hr2];exact hr
      ·rw [pLoopW_eq x hP a e' _ rfl,List.cons_append,pSign_cons,if_neg h,if_neg Bool.false_ne_true,← List.cons_append,hy]
       exact hy2 e'
 intro a
 exact ⟨fun e s hs=>by rw [pLoopW_stay _ _ _ _ _ hs],fun e r=>hg r.length e r a (Nat.le_refl _),fun e r=>hbd r.length e r a (Nat.le_refl _)⟩
def pNumM (a:List Int) (s:PS):List Int × PS:=((pNums (s.r.length + 1) a s).1,pMust [59] (pNums (s.r.length + 1) a s).2)
theorem pTake_bad (k:Int) (s:PS) (h:s.b=true):pTake k s=(zT,s):=by unfold pTake;rw [if_pos h]
theorem pMust_bad (x:List UInt8) (s:PS) (h:s.b=true):pMust x s=s:=(must_good x).stay 0 s h
theorem pTake_nil (k:Int):pTake k ⟨[],false⟩=(zT,⟨[],true⟩):=rfl
theorem pTake_cons (k:Int) (t:TokS) (r:List TokS):pTake k ⟨t :: r,false⟩=if t.f0=k then (t,⟨r,false⟩) else (zT,⟨t :: r,true⟩):=rfl
theorem pMust_nil (x:List UInt8):pMust x ⟨[],false⟩=⟨[],true⟩:=rfl
theorem pMust_cons (x:List UInt8) (t:TokS) (r:List TokS):pMust x ⟨t :: r,false⟩=if isT 3 x t=true then ⟨r,false⟩ else ⟨t :: r,true⟩:=by
 by_cases h:isT 3 x t=true <;> simp [pMust,pIs,h]
theorem pNums_fuel:∀ f g a s,s.r.length < f→s.r.length < g→pNums f a s=pNums g a s:=by
 intro f
 induction f with
 | zero=>intro g a s hf;omega
 | succ f ih =>
  intro g a s hf hg
  cases g with
  | zero=>omega
  | succ g =>
   rw [pNums,pNums]
   by_cases hb:(pTake 1 s).2.b=true
   ·rw [if_pos hb,if_pos hb]
   ·rw [if_neg hb,if_neg hb]
    by_cases hs:(pSign [44] (pTake 1 s).2).1=true
    ·rw [if_pos hs,if_pos hs]
     have hl:(pSign [44] (pTake 1 s).2).2.r.length < s.r.length:=by
      obtain ⟨r,b⟩:=s
      cases b with
      | true=>exact absurd rfl hb
      | false=>cases r with
       | nil=>exact absurd rfl hb
       | cons t r =>
        rw [pTake_cons] at hb hs ⊢
        by_cases h1:t.f0=1
        ·rw [if_pos h1] at hs ⊢
         cases r with
         | nil=>cases hs
         | cons u r =>
          rw [pSign_cons]
          split <;> (simp only [List.length_cons];omega)
        ·rw [if_neg h1] at hb
         exact absurd rfl hb
     exact ih g _ _ (by omega) (by omega)
    ·rw [if_neg hs,if_neg hs]
theorem pNumM_eq (a:List Int) (s:PS):pNumM a s=if (pTake 1 s).2.b=true then (a++[(pTake 1 s).1.f2],(pTake 1 s).2) else if (pSign [44] (pTake 1 s).2).1=true then pNumM (a++[(pTake 1 s).1.f2]) (pSign [44] (pTake 1 s).2).2 else (a++[(pTake 1 s).1.f2],pMust [59] (pTake 1 s).2):=by
 unfold pNumM
 rw [pNums]
 by_cases hb:(pTake 1 s).2.b=true
 ·rw [if_pos hb,if_pos hb,pMust_bad _ _ hb]
 ·rw [if_neg hb,if_neg hb]
  by_cases hs:(pSign [44] (pTake 1 s).2).1=true
  ·rw [if_pos hs,if_pos hs]
   have hl:(pSign [44] (pTake 1 s).2).2.r.length < s.r.length:=by
    obtain ⟨r,b⟩:=s
    cases b with
    | true=>exact absurd rfl hb
    | false=>cases r with
     | nil=>exact absurd rfl hb
     | cons t r =>
      rw [pTake_cons] at hb hs ⊢
      by_cases h1:t.f0=1
      ·rw [if_pos h1] at hs ⊢
       cases r with
       | nil=>cases hs
       | cons u r =>
        rw [pSign_cons]
        split <;> (simp only [List.length_cons];omega)
      ·rw [if_neg h1] at hb
       exact absurd rfl hb
   rw [pNums_fuel s.r.length _ _ _ hl (Nat.lt_succ_self _)]
  ·rw [if_neg hs,if_neg hs]
theorem pNumM_nil (a:List Int):(pNumM a ⟨[],false⟩).2=⟨[],true⟩:=rfl
theorem pNumM_no (a:List Int) (t:TokS) (r:List TokS) (h:t.f0≠1):(pNumM a ⟨t :: r,false⟩).2=⟨t :: r,true⟩:=by
 rw [pNumM_eq,pTake_cons,if_neg h,if_pos rfl]
theorem pNumM_one (a:List Int) (t:TokS) (h:t.f0=1):(pNumM a ⟨[t],false⟩).2=⟨[],true⟩:=by
 rw [pNumM_eq,pTake_cons,if_pos h,if_neg Bool.false_ne_true,pSign_nil,if_neg Bool.false_ne_true,pMust_nil]
theorem pNumM_two (a:List Int) (t u:TokS) (r:List TokS) (h:t.f0=1):pNumM a ⟨t :: u :: r,false⟩=if isT 3 [44] u=true then pNumM (a++[t.f2]) ⟨r,false⟩ else (a++[t.f2],if isT 3 [59] u=true then ⟨r,false⟩ else ⟨u :: r,true⟩):=by
 rw [pNumM_eq,pTake_cons,if_pos h,if_neg Bool.false_ne_true,pSign_cons,pMust_cons]
 by_cases h2:isT 3 [44] u=true
 ·rw [if_pos h2,if_pos h2,if_pos rfl]
 ·rw [if_neg h2,if_neg h2,if_neg Bool.false_ne_true]
theorem numM_good (a:List Int):Good (fun _ s=>pNumM a s):=by
 have hg:∀ n r a,r.length≤n→(pNumM a ⟨r,false⟩).2.b=false→∃ c,c≠[]∧r=c++(pNumM a ⟨r,false⟩).2.r∧∀ y,pNumM a ⟨c++y,false⟩=((pNumM a ⟨r,false⟩).1,⟨y,false⟩):=by
  intro n
  induction n with
  | zero =>
   intro r a hn hb
   obtain rfl:r=[]:=List.length_eq_zero_iff.1 (by omega)
   rw [pNumM_nil] at hb
   cases hb
  | succ n ih =>
   intro r a hn hb
   match r,hn,hb with
   | [],_,hb=>rw [pNumM_nil] at hb;cases hb
   | [t],_,hb =>
    by_cases h:t.f0=1
    ·rw [pNumM_one a t h] at hb;cases hb
    ·rw [pNumM_no a t _ h] at hb;cases hb
   | t :: u :: r,hn,hb =>
    by_cases h:t.f0=1
    ·rw [pNumM_two a t u r h] at hb ⊢
     by_cases h2:isT 3 [44] u=true
     ·rw [if_pos h2] at hb ⊢
      obtain ⟨c,hc,hr,hy⟩:=ih r (a++[t.f2]) (by simp at hn;omega) hb
      refine ⟨t :: u :: c,by simp,by rw [List.cons_append,List.cons_append,← hr],fun y=>?_⟩
      rw [List.cons_append,List.cons_append,pNumM_two a t u _ h,if_pos h2]
      exact hy y
     ·rw [if_neg h2] at hb ⊢
      by_cases h3:isT 3 [59] u=true
      ·refine ⟨[t,u],by simp,by rw [if_pos h3];rfl,fun y=>?_⟩
       show pNumM a ⟨t :: u :: y,false⟩=_
       rw [pNumM_two a t u _ h,if_neg h2,if_pos h3]
      ·rw [if_neg h3] at hb;cases hb
    ·rw [pNumM_no a t _ h] at hb;cases hb
 have hbd:∀ n r a,r.length≤n→(pNumM a ⟨r,false⟩).2.b=true→∃ c,r=c++(pNumM a ⟨r,false⟩).2.r∧(pNumM a ⟨c,false⟩).2=⟨[],true⟩:=by
  intro n
  induction n with
  | zero =>
   intro r a hn hb
   obtain rfl:r=[]:=List.length_eq_zero_iff.1 (by omega)
   exact ⟨[],by rw [pNumM_nil];rfl,pNumM_nil a⟩
  | succ n ih =>
   intro r a hn hb
   match r,hn,hb with
   | [],_,_=>exact ⟨[],by rw [pNumM_nil];rfl,pNumM_nil a⟩
   | [t],_,_ =>
    by_cases h:t.f0=1
    ·exact ⟨[t],by rw [pNumM_one a t h];rfl,pNumM_one a t h⟩
    ·exact ⟨[],by rw [pNumM_no a t _ h];rfl,pNumM_nil a⟩
   | t :: u :: r,hn,hb =>
    by_cases h:t.f0=1
    ·rw [pNumM_two a t u r h] at hb ⊢
     by_cases h2:isT 3 [44] u=true
     ·rw [if_pos h2] at hb ⊢
      obtain ⟨c,hr,hy⟩:=ih r (a++[t.f2]) (by simp at hn;omega) hb
      refine ⟨t :: u :: c,by rw [List.cons_append,List.cons_append,← hr],?_⟩
      rw [pNumM_two a t u _ h,if_pos h2]
      exact hy
     ·rw [if_neg h2] at hb ⊢
      by_cases h3:isT 3 [59] u=true
      ·rw [if_pos h3] at hb;cases hb
      ·exact ⟨[t],by rw [if_neg h3];rfl,pNumM_one a t h⟩
    ·exact ⟨[],by rw [pNumM_no a t _ h];rfl,pNumM_nil a⟩
 refine ⟨fun e s hs=>?_,fun e r hb=>?_,fun e r hb=>?_⟩
 ·show (pNumM a s).2=s
  rw [pNumM_eq,pTake_bad _ _ hs,if_pos hs]
 ·obtain ⟨c,h1,h2,h3⟩:=hg r.length r a (Nat.le_refl _) hb
  exact ⟨c,h1,h2,fun _=>h3⟩
 ·obtain ⟨c,h1,h2⟩:=hbd r.length r a (Nat.le_refl _) hb
  exact ⟨c,h1,fun _=>h2⟩
theorem rep_good (m:MAcc):Good (pRep m) :=
 Good.at_ (P:=fun e s=>pField e 0 (pTake 0 s).2) (Good.seq (P:=fun _ s=>pTake 0 s) (Q:=fun _ e s=>pField e 0 s) (take_good 0) fun _=>field_good 0) (fun a f=>((m.1++[repF f a],m.2.1,m.2.2):MAcc))
theorem plain_good (m:MAcc):Good (pPlain m):=Good.map (P:=fun e s=>pField e 0 s) (field_good 0) (fun f=>((m.1++[f],m.2.1,m.2.2):MAcc))
theorem mapT_good:Good (fun _ s=>pMapT s) :=
 Good.seq (P:=fun _ s=>pTake 0 s) (Q:=fun _ _ s=>(((pTake 0 (pMust [60] s)).1.f1,(pTake 0 (pMust [44] (pTake 0 (pMust [60] s)).2)).1.f1),pMust [62] (pTake 0 (pMust [44] (pTake 0 (pMust [60] s)).2)).2)) (take_good 0) fun _ =>
 Good.seq (P:=fun _ s=>((),pMust [60] s)) (Q:=fun _ _ s=>(((pTake 0 s).1.f1,(pTake 0 (pMust [44] (pTake 0 s).2)).1.f1),pMust [62] (pTake 0 (pMust [44] (pTake 0 s).2)).2)) (must_good [60]) fun _ =>
 Good.seq (P:=fun _ s=>pTake 0 s) (Q:=fun a _ s=>((a.f1,(pTake 0 (pMust [44] s)).1.f1),pMust [62] (pTake 0 (pMust [44] s)).2)) (take_good 0) fun a =>
 Good.seq (P:=fun _ s=>((),pMust [44] s)) (Q:=fun _ _ s=>((a.f1,(pTake 0 s).1.f1),pMust [62] (pTake 0 s).2)) (must_good [44]) fun _ =>
 Good.seq (P:=fun _ s=>pTake 0 s) (Q:=fun b _ s=>((a.f1,b.f1),pMust [62] s)) (take_good 0) fun b=>(must_good [62]).map fun _=>(a.f1,b.f1)
theorem map_good (m:MAcc):Good (pMap m) :=
 Good.at_ (P:=fun _ s=>(((pMapT s).1,(pNamed (pMapT s).2).1),(pNamed (pMapT s).2).2))
  (Good.seq (P:=fun _ s=>pMapT s) (Q:=fun k _ s=>((k,(pNamed s).1),(pNamed s).2)) mapT_good fun k=>named_good.map fun n=>(k,n))
  (fun a x=>((m.1++[⟨x.1.2,x.1.1,false,0,x.2.1,x.2.2,a⟩],m.2.1,m.2.2):MAcc))
theorem one_good (one:Int) (l:List FieldS):Good (pOne one l):=Good.map (P:=fun e s=>pField e one s) (field_good one) (fun f=>l++[f])
theorem oneof_good (m:MAcc):Good (pOneof m) :=
 Good.seq (P:=fun _ s=>pTake 0 s) (Q:=fun _ e s=>(((pLoopW [125] (pOne ((m.2.1.length:Int) + 1)) m.1 e (pMust [123] (pTake 0 s).2)).1,m.2.1++[(pTake 0 s).1.f1],m.2.2),(pLoopW [125] (pOne ((m.2.1.length:Int) + 1)) m.1 e (pMust [123] (pTake 0 s).2)).2)) (take_good 0) fun _ =>
 Good.seq (P:=fun _ s=>pTake 0 s) (Q:=fun n e s=>(((pLoopW [125] (pOne ((m.2.1.length:Int) + 1)) m.1 e (pMust [123] s)).1,m.2.1++[n.f1],m.2.2),(pLoopW [125] (pOne ((m.2.1.length:Int) + 1)) m.1 e (pMust [123] s)).2)) (take_good 0) fun n =>
 Good.seq (P:=fun _ s=>((),pMust [123] s)) (Q:=fun _ e s=>(((pLoopW [125] (pOne ((m.2.1.length:Int) + 1)) m.1 e s).1,m.2.1++[n.f1],m.2.2),(pLoopW [125] (pOne ((m.2.1.length:Int) + 1)) m.1 e s).2)) (must_good [123]) fun _ =>
 Good.map (P:=fun e s=>pLoopW [125] (pOne ((m.2.1.length:Int) + 1)) m.1 e s) (loop_good [125] (one_good _) m.1) (fun l=>((l,m.2.1++[n.f1],m.2.2):MAcc))
theorem res_good (m:MAcc):Good (pRes m) :=
 Good.seq (P:=fun _ s=>pTake 0 s) (Q:=fun _ _ s=>((m.1,m.2.1,(pNumM m.2.2 s).1),(pNumM m.2.2 s).2)) (take_good 0) fun _ =>
 Good.map (P:=fun _ s=>pNumM m.2.2 s) (numM_good m.2.2) (fun l=>((m.1,m.2.1,l):MAcc))
theorem pNamed_nil:(pNamed ⟨[],false⟩).2=⟨[],true⟩:=rfl
theorem plain_one (m:MAcc) (e:Int) (t:TokS) (h:t.f0=0):(pPlain m e ⟨[t],false⟩).2=⟨[],true⟩:=by
 show (pNamed (pTake 0 ⟨[t],false⟩).2).2=_
 rw [pTake_cons,if_pos h]
 exact pNamed_nil
theorem map_one (m:MAcc) (e:Int) (t:TokS) (h:t.f0=0):(pMap m e ⟨[t],false⟩).2=⟨[],true⟩:=by
 show (pNamed (pMust [62] (pTake 0 (pMust [44] (pTake 0 (pMust [60] (pTake 0 ⟨[t],false⟩).2)).2)).2)).2=_
 rw [pTake_cons,if_pos h]
 rfl
def isMap (s:PS):Bool:=pIs 0 0 wMap s && pIs 1 3 [60] s
theorem isMap_cons (t u:TokS) (r:List TokS):isMap ⟨t :: u :: r,false⟩=(isT 0 wMap t && isT 3 [60] u):=rfl
theorem isMap_one (t:TokS):isMap ⟨[t],false⟩=false:=by
 show (isT 0 wMap t && false)=false
 exact Bool.and_false _
theorem isT_kind {k:Int} {x:List UInt8} {t:TokS} (h:isT k x t=true):t.f0=k:=by
 unfold isT at h
 rw [Bool.and_eq_true] at h
 exact eq_of_beq h.1
theorem mapOr_good (m:MAcc):Good (fun e s=>if isMap s=true then pMap m e s else pPlain m e s):=by
 refine ⟨fun e s hs=>?_,fun e r hb=>?_,fun e r hb=>?_⟩
 ·show (if isMap s=true then pMap m e s else pPlain m e s).2=s
  have:isMap s=false:=by unfold isMap pIs;rw [if_pos hs];rfl
  rw [this,if_neg (by decide)]
  exact (plain_good m).stay e s hs
 ·show ∃ c,c≠[]∧r=c++(if isMap ⟨r,false⟩=true then pMap m e ⟨r,false⟩ else pPlain m e ⟨r,false⟩).2.r∧∀ e' y,(if isMap ⟨c++y,false⟩=true then pMap m e' ⟨c++y,false⟩ else pPlain m e' ⟨c++y,false⟩)=((if isMap ⟨r,false⟩=true then pMap m e ⟨r,false⟩ else pPlain m e ⟨r,false⟩).1,⟨y,false⟩)
  have hb':(if isMap ⟨r,false⟩=true then pMap m e ⟨r,false⟩ else pPlain m e ⟨r,false⟩).2.b=false:=hb
  match r,hb' with
  | [],hb' =>
   rw [if_neg (by decide),(plain_good m).nil e] at hb'
   cases hb'
  | [t],hb' =>
   rw [isMap_one,if_neg (by decide)] at hb'
   by_cases h0:t.f0=0
   ·rw [plain_one m e t h0] at hb';cases hb'
   ·have:(pPlain m e ⟨[t],false⟩).2.b=true:=by
     show (pNamed (pTake 0 ⟨[t],false⟩).2).2.b=true
     rw [pTake_cons,if_neg h0]
     rfl
    rw [this] at hb';cases hb'
  | t :: u :: r,hb' =>
   by_cases h:isMap ⟨t :: u :: r,false⟩=true
   ·rw [if_pos h] at hb' ⊢
    obtain ⟨c,hc,hr,hy⟩:=(map_good m).good e _ hb'
    rw [isMap_cons,Bool.and_eq_true] at h
    refine ⟨c,hc,hr,fun e' y=>?_⟩
    match c,hc,hr,hy with
    | [t'],_,hr,hy =>
     have:=hy e []
     injection hr with h1 h2
     subst h1
     rw [List.append_nil] at this
     have h5:=congrArg (fun z=>z.2.b) this
     simp only [map_one m e t (isT_kind h.1)] at h5
     cases h5
    | t' :: u' :: c,_,hr,hy =>
     injection hr with h1 h2
     injection h2 with h2 h3
     subst h1
     subst h2
     rw [List.cons_append,List.cons_append,isMap_cons,h.1,h.2,if_pos (by decide),← List.cons_append,← List.cons_append]
     exact hy e' y
   ·rw [if_neg h] at hb' ⊢
    obtain ⟨c,hc,hr,hy⟩:=(plain_good m).good e _ hb'
    refine ⟨c,hc,hr,fun e' y=>?_⟩
    match c,hc,hr,hy with
    | [t'],_,hr,hy =>
     have:=hy e []
     injection hr with h1 h2
     subst h1
     rw [List.append_nil] at this
     by_cases h0:t.f0=0
     ·have h5:=congrArg (fun z=>z.2.b) this
      simp only [plain_one m e t h0] at h5
      cases h5
     ·have h5:=congrArg (fun z=>z.2.b) this
      have:(pPlain m e ⟨[t],false⟩).2.b=true:=by
       show (pNamed (pTake 0 ⟨[t],false⟩).2).2.b=true
       rw [pTake_cons,if_neg h0]
       rfl
      simp only [this] at h5
      cases h5
    | t' :: u' :: c,_,hr,hy =>
     injection hr with h1 h2
     injection h2 with h2 h3
     subst h1
     subst h2
     rw [isMap_cons] at h
     rw [List.cons_append,List.cons_append,isMap_cons,if_neg h,← List.cons_append,← List.cons_append]
     exact hy e' y
 ·show ∃ c,r=c++(if isMap ⟨r,false⟩=true then pMap m e ⟨r,false⟩ else pPlain m e ⟨r,false⟩).2.r∧∀ e',(if isMap ⟨c,false⟩=true then pMap m e' ⟨c,false⟩ else pPlain m e' ⟨c,false⟩).2=⟨[],true⟩
  have hb':(if isMap ⟨r,false⟩=true then pMap m e ⟨r,false⟩ else pPlain m e ⟨r,false⟩).2.b=true:=hb
  have hnil:∀ e',(if isMap ⟨[],false⟩=true then pMap m e' ⟨[],false⟩ else pPlain m e' ⟨[],false⟩).2=⟨[],true⟩:=fun e'=>by rw [if_neg (by decide)];exact (plain_good m).nil e'
  by_cases h:isMap ⟨r,false⟩=true
  ·rw [if_pos h] at hb' ⊢
   obtain ⟨c,hr,hy⟩:=(map_good m).bad e _ hb'
   refine ⟨c,hr,fun e'=>?_⟩
   match c,hr,hy with
   | [],_,_=>exact hnil e'
   | [t'],hr,hy =>
    rw [isMap_one,if_neg (by decide)]
    have h0:t'.f0=0:=by
     rw [hr] at h
     unfold isMap at h
     rw [Bool.and_eq_true] at h
     exact isT_kind (k:=0) (x:=wMap) h.1
    exact plain_one m e' t' h0
   | t' :: u' :: c,hr,hy =>
    rw [hr,List.cons_append,List.cons_append,isMap_cons] at h
    rw [isMap_cons,if_pos h]
    exact hy e'
  ·rw [if_neg h] at hb' ⊢
   obtain ⟨c,hr,hy⟩:=(plain_good m).bad e _ hb'
   refine ⟨c,hr,fun e'=>?_⟩
   match c,hr,hy with
   | [],_,_=>exact hnil e'
   | [t'],hr,hy=>rw [isMap_one,if_neg (by decide)];exact hy e'
   | t' :: u' :: c,hr,hy =>
    rw [hr,List.cons_append,List.cons_append,isMap_cons] at h
    rw [isMap_cons,if_neg h]
    exact hy e'
theorem pIs0_bad (k:Int) (x:List UInt8) (j:Nat):∀ s:PS,s.b=true→pIs j k x s=false:=fun s h=>by unfold pIs;rw [if_pos h]
theorem pItem_eq (m:MAcc) (e:Int) (s:PS):pItem m e s=if pIs 0 0 wRep s=true then pRep m e s else if pIs 0 0 wOneof s=true then pOneof m e s else if pIs 0 0 wRes s=true then pRes m e s else if isMap s=true then pMap m e s else pPlain m e s:=by
 unfold pItem itemK
 by_cases h1:pIs 0 0 wRep s=true
 ·rw [if_pos h1,if_pos h1,if_pos rfl]
 ·rw [if_neg h1,if_neg h1]
  by_cases h2:pIs 0 0 wOneof s=true
  ·rw [if_pos h2,if_pos h2,if_neg (by decide),if_pos rfl]
  ·rw [if_neg h2,if_neg h2]
   by_cases h3:pIs 0 0 wRes s=true
   ·rw [if_pos h3,if_pos h3,if_neg (by decide),if_neg (by decide),if_pos rfl]
   ·rw [if_neg h3,if_neg h3]
    unfold isMap
    by_cases h4:(pIs 0 0 wMap s && pIs 1 3 [60] s)=true
    ·rw [if_pos h4,if_pos h4,if_neg (by decide),if_neg (by decide),if_neg (by decide),if_pos rfl]
    ·rw [if_neg h4,if_neg h4,if_neg (by decide),if_neg (by decide),if_neg (by decide),if_neg (by decide)]
theorem item_good (m:MAcc):Good (pItem m):=by
 have e:pItem m=fun e s=>if pIs 0 0 wRep s=true then pRep m e s else if pIs 0 0 wOneof s=true then pOneof m e s else if pIs 0 0 wRes s=true then pRes m e s else if isMap s=true then pMap m e s else pPlain m e s:=by
  funext e s
  exact pItem_eq m e s
 rw [e]
 exact Good.ite (rep_good m) (Good.ite (oneof_good m) (Good.ite (res_good m) (mapOr_good m) (pIs0_bad _ _ _) rfl (fun _ _ _=>rfl)) (pIs0_bad _ _ _) rfl (fun _ _ _=>rfl)) (pIs0_bad _ _ _) rfl (fun _ _ _=>rfl)
theorem msg_good:Good pMsg :=
 Good.at_ (P:=fun e s=>(((pTake 0 (pTake 0 s).2).1,(pLoopW [125] pItem ([],[],[]) e (pMust [123] (pTake 0 (pTake 0 s).2).2)).1),(pLoopW [125] pItem ([],[],[]) e (pMust [123] (pTake 0 (pTake 0 s).2).2)).2))
  (Good.seq (P:=fun _ s=>pTake 0 s) (Q:=fun _ e s=>(((pTake 0 s).1,(pLoopW [125] pItem ([],[],[]) e (pMust [123] (pTake 0 s).2)).1),(pLoopW [125] pItem ([],[],[]) e (pMust [123] (pTake 0 s).2)).2)) (take_good 0) fun _ =>
   Good.seq (P:=fun _ s=>pTake 0 s) (Q:=fun n e s=>((n,(pLoopW [125] pItem ([],[],[]) e (pMust [123] s)).1),(pLoopW [125] pItem ([],[],[]) e (pMust [123] s)).2)) (take_good 0) fun n =>
   Good.seq (P:=fun _ s=>((),pMust [123] s)) (Q:=fun _ e s=>((n,(pLoopW [125] pItem ([],[],[]) e s).1),(pLoopW [125] pItem ([],[],[]) e s).2)) (must_good [123]) fun _ =>
   Good.map (P:=fun e s=>pLoopW [125] pItem ([],[],[]) e s) (loop_good [125] item_good ([],[],[])) (fun z=>(n,z)))
  (fun a x=>(⟨x.1.f1,x.2.1,x.2.2.1,x.2.2.2,a⟩:MsgS))
theorem val_good (l:List ValS):Good (pVal l):=Good.at_ (P:=fun _ s=>pNamed s) named_good (fun a n=>l++[(⟨n.1,n.2,a⟩:ValS)])
theorem enum_good:Good pEnum :=
 Good.at_ (P:=fun e s=>(((pTake 0 (pTake 0 s).2).1,(pLoopW [125] pVal [] e (pMust [123] (pTake 0 (pTake 0 s).2).2)).1),(pLoopW [125] pVal [] e (pMust [123] (pTake 0 (pTake 0 s).2).2)).2))
  (Good.seq (P:=fun _ s=>pTake 0 s) (Q:=fun _ e s=>(((pTake 0 s).1,(pLoopW [125] pVal [] e (pMust [123] (pTake 0 s).2)).1),(pLoopW [125] pVal [] e (pMust [123] (pTake 0 s).2)).2)) (take_good 0) fun _ =>
   Good.seq (P:=fun _ s=>pTake 0 s) (Q:=fun n e s=>((n,(pLoopW [125] pVal [] e (pMust [123] s)).1),(pLoopW [125] pVal [] e (pMust [123] s)).2)) (take_good 0) fun n =>
   Good.seq (P:=fun _ s=>((),pMust [123] s)) (Q:=fun _ e s=>((n,(pLoopW [125] pVal [] e s).1),(pLoopW [125] pVal [] e s).2)) (must_good [123]) fun _ =>
   Good.map (P:=fun e s=>pLoopW [125] pVal [] e s) (loop_good [125] val_good []) (fun z=>(n,z)))
  (fun a x=>(⟨x.1.f1,x.2,a⟩:EnumS))
theorem top1_good (f:FileS):Good (pTop1 f) :=
 Good.ite (msg_good.map fun m=>((f.1++[m],f.2):FileS)) (Good.ite (enum_good.map fun m=>((f.1,f.2++[m]):FileS)) (B:=fun _ s=>(f,⟨s.r,true⟩))
  ⟨fun e s hs=>(PS_eta1 s hs).symm,fun e r hb=>(by cases hb),fun e r _=>⟨[],rfl,fun _=>rfl⟩⟩ (pIs0_bad _ _ _) rfl (fun _ _ _=>rfl)) (pIs0_bad _ _ _) rfl (fun _ _ _=>rfl)
structure Fr (B g:Nat) (w w':World):Prop where
 os:w'.os=w.os
 tape:w'.tape=w.tape
 output:w'.output=w.output
 size:w.heap.size≤w'.heap.size
 block:∀ k,k < B→k≠g→w'.heap[k]?=w.heap[k]?
theorem Fr.refl (B g:Nat) (w:World):Fr B g w w:=⟨rfl,rfl,rfl,Nat.le_refl _,fun _ _ _=>rfl⟩
theorem Fr.trans {B g:Nat} {a b c:World} (h:Fr B g a b) (k:Fr B g b c):Fr B g a c :=
 ⟨k.os.trans h.os,k.tape.trans h.tape,k.output.trans h.output,Nat.le_trans h.size k.size,fun i hi hg=>(k.block i hi hg).trans (h.block i hi hg)⟩
theorem Fr.mono {B B' g:Nat} {a b:World} (h:Fr B g a b) (hB:B'≤B):Fr B' g a b:=⟨h.os,h.tape,h.output,h.size,fun i hi=>h.block i (Nat.lt_of_lt_of_le hi hB)⟩
theorem Fr.of_below {B g:Nat} {a b:World} (h:Below B a b):Fr B g a b:=⟨h.os,h.tape,h.output,h.size,fun i hi _=>h.block i hi⟩
theorem Fr.alloc {B g:Nat} {a w:World} (h:Fr B g a w) (hB:B≤w.heap.size) (o:Obj):Fr B g a (w.alloc o):=h.trans (Fr.of_below ((Below.refl _ _).alloc hB o))
theorem Fr.set_ {B g:Nat} {a w:World} (h:Fr B g a w) (j:Nat) (u:Value):Fr B g a (w.setCell ⟨g,j,none⟩ u):=by
 have k:=(Below.refl 0 w).setCell (p:=⟨g,j,none⟩) (Nat.zero_le _) u
 exact ⟨k.os.trans h.os,k.tape.trans h.tape,k.output.trans h.output,Nat.le_trans h.size k.size,fun i hi hg=>(Below.heap_setCell w ⟨g,j,none⟩ u i hg).trans (h.block i hi hg)⟩
theorem Fr.far {B g:Nat} {a w:World} (h:Fr B g a w) {p:Addr} (hp:B≤p.block) (u:Value):Fr B g a (w.setCell p u):=h.trans (Fr.of_below ((Below.refl _ _).setCell hp u))
theorem Fr.drew {B g:Nat} {a w:World} (h:Fr B g a w):Fr B g a w.drew:=⟨h.os,h.tape,h.output,h.size,h.block⟩
theorem Fr.drewN {B g:Nat} {a w:World} (h:Fr B g a w) (n:Nat):Fr B g a (w.drewN n):=⟨h.os,h.tape,h.output,h.size,h.block⟩
theorem Fr.below {B g B0:Nat} {w0 w w':World} (h:Fr B g w w') (k:Below B0 w0 w) (h1:B0≤B) (h2:B0≤g):Below B0 w0 w' :=
 ⟨h.os.trans k.os,h.tape.trans k.tape,h.output.trans k.output,Nat.le_trans k.size h.size,fun i hi=>(h.block i (by omega) (by omega)).trans (k.block i hi)⟩
theorem Fr.cell {B g:Nat} {w w':World} (h:Fr B g w w') {p:Addr} (hp:p.block < B) (hg:p.block≠g):w'.cell? p=w.cell? p:=World.cell?_of_block (w:=w) (h.block p.block hp hg)
theorem Fr.keep {B g:Nat} {w w':World} (h:Fr B g w w') (hB:B=w.heap.size):KeepBut w w' g none:=⟨h.size,fun i hi hg _=>h.block i (hB ▸ hi) hg⟩
def TRow (w:World) (A:Option Addr) (l:List TokS):Prop:=∀ j t,l[j]?=some t→∃ ad,A=some ad∧w.cell? (ad.add (j * 4))=some (.int .i64 t.f0)∧w.cell? ⟨(ad.add (j * 4)).block,(ad.add (j * 4)).off + 1,none⟩=some (.string t.f1)∧w.cell? ⟨(ad.add (j * 4)).block,(ad.add (j * 4)).off + 2,none⟩=some (.int .i64 t.f2)∧w.cell? ⟨(ad.add (j * 4)).block,(ad.add (j * 4)).off + 3,none⟩=some (.int .i64 t.f3)
structure TK (B:Nat) (W:World) (p g:Nat) (A:Option Addr) (c:Nat) (l:List TokS) (e:Int) (n:Nat) (b:Bool):Prop where
 blk:W.heap[g]?=some (.cells #[.slice A l.length c,.int .i64 e,.int .i64 (n:Int),.bool b] 77 (0,0))
 par:W.cell? ⟨p,0,none⟩=some (.pointer (some ⟨g,0,none⟩))
 row:TRow W A l
 hp:p < B
 hg:g < B
 hpg:p≠g
 hA:∀ ad,A=some ad→ad.block < B∧ad.block≠g∧ad.block≠p
 len:l.length≤1000
 hn:n≤l.length
 cap:l.length≤c
 hB:B≤W.heap.size
theorem TK.move {B B' p g c n n':Nat} {W W':World} {A:Option Addr} {l:List TokS} {e:Int} {b b':Bool} (h:TK B W p g A c l e n b) (hF:Fr B' g W W') (hB:B≤B')
  (hb:W'.heap[g]?=some (.cells #[.slice A l.length c,.int .i64 e,.int .i64 (n':Int),.bool b'] 77 (0,0))) (hn:n'≤l.length):TK B W' p g A c l e n' b':=by
 have hc:∀ q:Addr,q.block < B→q.block≠g→W'.cell? q=W.cell? q:=fun q h1 h2=>hF.cell (Nat.lt_of_lt_of_le h1 hB) h2
 refine ⟨hb,(hc ⟨p,0,none⟩ h.hp h.hpg).trans h.par,?_,h.hp,h.hg,h.hpg,h.hA,h.len,hn,h.cap,Nat.le_trans h.hB hF.size⟩
 intro j t hj
 obtain ⟨ad,rfl,h0,h1,h2,h3⟩:=h.row j t hj
 obtain ⟨k1,k2,_⟩:=h.hA ad rfl
 have ha:∀ q:Addr,q.block=(ad.add (j * 4)).block→W'.cell? q=W.cell? q:=fun q e=>hc _ (by rw [e,add_block];exact k1) (by rw [e,add_block];exact k2)
 exact ⟨ad,rfl,(ha _ rfl).trans h0,(ha ⟨_,_,none⟩ rfl).trans h1,(ha ⟨_,_,none⟩ rfl).trans h2,(ha ⟨_,_,none⟩ rfl).trans h3⟩
theorem TK.below {B p g c n:Nat} {W W':World} {A:Option Addr} {l:List TokS} {e:Int} {b:Bool} (h:TK B W p g A c l e n b) (hb:Below W.heap.size W W'):TK B W' p g A c l e n b :=
 h.move (Fr.of_below (hb.mono h.hB)) (Nat.le_refl _) (blk_below h.blk hb) h.hn
theorem TK.other {B p g c n:Nat} {W W':World} {A:Option Addr} {l:List TokS} {e:Int} {b:Bool} (h:TK B W p g A c l e n b) (hb:Below B W W'):TK B W' p g A c l e n b :=
 h.move (Fr.of_below hb) (Nat.le_refl _) ((hb.block g h.hg).trans h.blk) h.hn
theorem TK.tok {B p g c n:Nat} {W:World} {A:Option Addr} {l:List TokS} {e:Int} {b:Bool} (h:TK B W p g A c l e n b) (j:Nat) (hj:j < l.length):∃ ad,A=some ad∧W.cell? (ad.add (j * 4))=some (.int .i64 l[j].f0)∧W.cell? ⟨(ad.add (j * 4)).block,(ad.add (j * 4)).off + 1,none⟩=some (.string l[j].f1)∧W.cell? ⟨(ad.add (j * 4)).block,(ad.add (j * 4)).off + 2,none⟩=some (.int .i64 l[j].f2)∧W.cell? ⟨(ad.add (j * 4)).block,(ad.add (j * 4)).off + 3,none⟩=some (.int .i64 l[j].f3):=h.row j _ (by simp [hj])
theorem TK.drewN {B p g c n:Nat} {W:World} {A:Option Addr} {l:List TokS} {e:Int} {b:Bool} (h:TK B W p g A c l e n b) (m:Nat):TK B (W.drewN m) p g A c l e n b:=h.other (pw_below_drewN (Below.refl _ _) m)
theorem TK.setb {B p g c n:Nat} {W:World} {A:Option Addr} {l:List TokS} {e:Int} {b:Bool} (h:TK B W p g A c l e n b) (b':Bool):TK B (W.setCell ⟨g,3,none⟩ (.bool b')) p g A c l e n b' :=
 h.move ((Fr.refl B g W).set_ 3 _) (Nat.le_refl _) (blk_put h.blk 3 _ rfl) h.hn
theorem TK.setn {B p g c n:Nat} {W:World} {A:Option Addr} {l:List TokS} {e:Int} {b:Bool} (h:TK B W p g A c l e n b) (n':Nat) (hn:n'≤l.length):TK B (W.setCell ⟨g,2,none⟩ (.int .i64 (n':Int))) p g A c l e n' b :=
 h.move ((Fr.refl B g W).set_ 2 _) (Nat.le_refl _) (blk_put h.blk 2 _ rfl) hn
theorem TK.far {B p g c n:Nat} {W:World} {A:Option Addr} {l:List TokS} {e:Int} {b:Bool} (h:TK B W p g A c l e n b) {q:Addr} (hq:B≤q.block) (u:Value):TK B (W.setCell q u) p g A c l e n b:=h.other ((Below.refl _ _).setCell hq u)
def AtPost (W:World) (r:Int) (e:Ending) (W':World):Prop:=e = .returned (.int .i64 r)∧Drawn0 W W'
theorem drop_here {l:List TokS} {n:Nat} (h:n < l.length):l.drop n=l[n] :: l.drop (n + 1):=List.drop_eq_getElem_cons h
set_option maxHeartbeats 1000000 in
theorem at_calls {B p g c n:Nat} {W:World} {A:Option Addr} {l:List TokS} {e:Int} {b:Bool} (h:TK B W p g A c l e n b) :
  Calls Tryz.prog 40 #[.pointer (some ⟨g,0,none⟩)] W (AtPost W (pAt e ⟨l.drop n,b⟩)):=by
 have c0:W.cell? ⟨g,0,none⟩=some (.slice A l.length c):=(blk_cell h.blk 0).trans rfl
 have c1:W.cell? ⟨g,1,none⟩=some (.int .i64 e):=(blk_cell h.blk 1).trans rfl
 have c2:W.cell? ⟨g,2,none⟩=some (.int .i64 (n:Int)):=(blk_cell h.blk 2).trans rfl
 have hn:=h.hn
 have hl:=h.len
 by_cases hlt:n < l.length
 ·obtain ⟨ad,rfl,t0,t1,t2,t3⟩:=h.tok n hlt
  have hr:Aside0 (pAt e ⟨l.drop n,b⟩=l[n].f3):=⟨by rw [drop_here hlt];rfl⟩
  have d1:decide ((n:Int) < (l.length:Int))=true:=decide_eq_true (by omega)
  have d2:decide (n < l.length)=true:=decide_eq_true hlt
  have d3:(0:Int)≤(n:Int):=by omega
  have d4:(n:Int) < (l.length:Int):=by omega
  rw [hr.out]
  clear h hr t0 t1 t2
  go_enter Tryz.func40,Tryz.ntmps40
  go_wp2
  go_quiet (fail)
  go_wp2
  go_quiet (fail)
  go_wp2
  go_ret
  exact ⟨rfl,by repeat (first|exact Drawn0.refl _|apply Drawn0.step)⟩
 ·have hr:Aside0 (pAt e ⟨l.drop n,b⟩=e):=⟨by rw [List.drop_of_length_le (by omega)];rfl⟩
  have d1:decide ((n:Int) < (l.length:Int))=false:=decide_eq_false (by omega)
  have d2:decide (n < l.length)=false:=decide_eq_false hlt
  rw [hr.out]
  clear h hr
  go_enter Tryz.func40,Tryz.ntmps40
  go_wp2
  go_quiet (fail)
  go_wp2
  go_ret
  exact ⟨rfl,by repeat (first|exact Drawn0.refl _|apply Drawn0.step)⟩
def TakePost (B:Nat) (W:World) (p g:Nat) (A:Option Addr) (c:Nat) (l:List TokS) (e:Int) (n:Nat) (t:TokS) (s:PS) (en:Ending) (W':World):Prop :=
 en = .returned (.agg #[.int .i64 t.f0,.string t.f1,.int .i64 t.f2,.int .i64 t.f3])∧(∃ n',s.r=l.drop n'∧n≤n'∧TK B W' p g A c l e n' s.b)∧Fr W.heap.size g W W'
theorem take_ret {V:World} {tmps:Array Value} {R:Ending→World→Prop} {gb:Nat} {t:TokS} (ht:tmps.getD 4 undef = .pointer (some ⟨gb,0,none⟩)) (hb:V.heap[gb]?=some (.cells #[.int .i64 t.f0,.string t.f1,.int .i64 t.f2,.int .i64 t.f3] 149 (0,0)))
  (h:R (.returned (.agg #[.int .i64 t.f0,.string t.f1,.int .i64 t.f2,.int .i64 t.f3])) V):bodyPost Tryz.prog Tryz.f88 R .ret { tmps:=tmps,defers:=[] } V :=
 bodyPost_ret (results_single rfl (.cell gb _ _ _ _ ht hb Tryz.underlying149 rfl (by kernel_rfl) .nil)) rfl h
theorem box_put4 {V:World} {g:Nat} {t:TypeId} {c0 c1 c2 c3:Value} (h:V.heap[g]?=some (.cells #[c0,c1,c2,c3] t (0,0))) (u0 u1 u2 u3:Value) :
  ((((V.setCell ⟨g,0,none⟩ u0).setCell ⟨g,1,none⟩ u1).setCell ⟨g,2,none⟩ u2).setCell ⟨g,3,none⟩ u3).heap[g]?=some (.cells #[u0,u1,u2,u3] t (0,0)) :=
 blk_set (blk_set (blk_set (blk_set h 0 u0) 1 u1) 2 u2) 3 u3
theorem take_fin {B p g c n n':Nat} {W V:World} {A:Option Addr} {l:List TokS} {e:Int} {s:PS} {tmps:Array Value} {gb:Nat} {c0 c1 c2 c3:Value} (t:TokS)
  (HT:TK B V p g A c l e n' s.b) (HF:Fr W.heap.size g W V) (BK:V.heap[gb]?=some (.cells #[c0,c1,c2,c3] 149 (0,0))) (GW:W.heap.size≤gb) (hB:B≤W.heap.size) (ht:tmps.getD 4 undef = .pointer (some ⟨gb,0,none⟩)) (hs:s.r=l.drop n') (hn:n≤n') :
  bodyPost Tryz.prog Tryz.f88 (TakePost B W p g A c l e n t s) .ret { tmps:=tmps,defers:=[] } ((((V.setCell ⟨gb,0,none⟩ (.int .i64 t.f0)).setCell ⟨gb,1,none⟩ (.string t.f1)).setCell ⟨gb,2,none⟩ (.int .i64 t.f2)).setCell ⟨gb,3,none⟩ (.int .i64 t.f3)):=by
 have hq:B≤gb:=Nat.le_trans hB GW
 refine take_ret ht (box_put4 BK _ _ _ _) ⟨rfl,⟨n',hs,hn,?_⟩,?_⟩
 ·exact (((HT.far (q:=⟨gb,0,none⟩) hq _).far (q:=⟨gb,1,none⟩) hq _).far (q:=⟨gb,2,none⟩) hq _).far (q:=⟨gb,3,none⟩) hq _
 ·exact (((HF.far (p:=⟨gb,0,none⟩) GW _).far (p:=⟨gb,1,none⟩) GW _).far (p:=⟨gb,2,none⟩) GW _).far (p:=⟨gb,3,none⟩) GW _
theorem take_finD {B p g c n n':Nat} {W V:World} {A:Option Addr} {l:List TokS} {e:Int} {s:PS} {tmps:Array Value} {gb:Nat} {c0 c1 c2 c3:Value} (t:TokS)
  (HT:TK B V p g A c l e n' s.b) (HF:Fr W.heap.size g W V) (BK:V.heap[gb]?=some (.cells #[c0,c1,c2,c3] 149 (0,0))) (GW:W.heap.size≤gb) (hB:B≤W.heap.size) (ht:tmps.getD 4 undef = .pointer (some ⟨gb,0,none⟩)) (hs:s.r=l.drop n') (hn:n≤n') :
  bodyPost Tryz.prog Tryz.f88 (TakePost B W p g A c l e n t s) .ret { tmps:=tmps,defers:=[] } ((((V.setCell ⟨gb,0,none⟩ (.int .i64 t.f0)).setCell ⟨gb,1,none⟩ (.string t.f1)).setCell ⟨gb,2,none⟩ (.int .i64 t.f2)).setCell ⟨gb,3,none⟩ (.int .i64 t.f3)).drew:=by
 have hq:B≤gb:=Nat.le_trans hB GW
 refine take_ret ht (blk_drew (box_put4 BK _ _ _ _)) ⟨rfl,⟨n',hs,hn,?_⟩,?_⟩
 ·exact ((((HT.far (q:=⟨gb,0,none⟩) hq _).far (q:=⟨gb,1,none⟩) hq _).far (q:=⟨gb,2,none⟩) hq _).far (q:=⟨gb,3,none⟩) hq _).drewN 1
 ·exact Fr.drew <| (((HF.far (p:=⟨gb,0,none⟩) GW _).far (p:=⟨gb,1,none⟩) GW _).far (p:=⟨gb,2,none⟩) GW _).far (p:=⟨gb,3,none⟩) GW _
set_option maxHeartbeats 4000000 in
set_option maxRecDepth 100000 in
theorem take_any {B p g c n:Nat} {W:World} {A:Option Addr} {l:List TokS} {e:Int} {b:Bool} (k:Int) (h:TK B W p g A c l e n b) :
  Calls Tryz.prog 88 #[.pointer (some ⟨g,0,none⟩),.int .i64 k] W (TakePost B W p g A c l e n (pTake k ⟨l.drop n,b⟩).1 (pTake k ⟨l.drop n,b⟩).2):=by
 have HT:=Y0 h
 have HL:=Y0 h.hB
 have hn:=h.hn
 have hl:=h.len
 clear h
 cases b with
 | true =>
  rw [pTake_bad k _ rfl]
  go_enter Tryz.func88,Tryz.ntmps88
  go_wp2_with ((with_reducible refine gate_dst (N:=4) rfl ?_);refine box_event ?hg (N:=4) ?hd (cs:=#[.int .i64 0,.string (⟨#[]⟩:ByteArray),.int .i64 0,.int .i64 0]) (t:=149) ?hr ?_;(case hd=>rfl);(case hg=>rfl);(case hr=>first|(go_simp;done)|(go_simp;rfl));intro gb hg w3 hbox hb;have n1_:=Y0 (TK.below HT.out hb);have n2_:=Y0 (Fr.of_below (g:=g) hb);have n3_:=Y0 hbox;have n4_:=Y0 (Nat.le_of_eq hg.symm);have n5_:=Y0 (show g≠gb from by have:=blk_lt HT.out.blk;omega);clear HT hbox hg;have hbK:=Y0 hb;clear hb;have HT:=n1_;have HF:=n2_;have BK:=n3_;have GW:=n4_;have NB:=n5_;clear n1_ n2_ n3_ n4_ n5_;have hne:=NB.out;have hne':=NB.out.symm;have c0:_=some (Value.slice _ _ _):=(blk_cell HT.out.blk 0).trans rfl;have c1:_=some (Value.int .i64 _):=(blk_cell HT.out.blk 1).trans rfl;have c2:_=some (Value.int .i64 _):=(blk_cell HT.out.blk 2).trans rfl;have c3:_=some (Value.bool _):=(blk_cell HT.out.blk 3).trans rfl;have f2:=blk_frozen HT.out.blk 2;have f3:=blk_frozen HT.out.blk 3;have z0:_=some (Value.int .i64 0):=(blk_cell BK.out 0).trans rfl;have z1:_=some (Value.string (⟨#[]⟩:ByteArray)):=(blk_cell BK.out 1).trans rfl;have z2:_=some (Value.int .i64 0):=(blk_cell BK.out 2).trans rfl;have z3:_=some (Value.int .i64 0):=(blk_cell BK.out 3).trans rfl;have y0:=blk_frozen BK.out 0;have y1:=blk_frozen BK.out 1;have y2:=blk_frozen BK.out 2;have y3:=blk_frozen BK.out 3)
  go_simp
  go_quiet (fail)
  go_wp2
  exact take_fin (n':=n) zT ((HT.out.drewN _).setb true) ((HF.out.drewN _).set_ 3 _) (blk_far (blk_drewN BK.out _) NB.out.symm _) GW.out HL.out rfl rfl (Nat.le_refl _)
 | false =>
  by_cases hlt:n < l.length
  ·have d1:((n:Int) == (l.length:Int))=false:=beq_eq_false_iff_ne.2 (by omega)
   have d2:(n == l.length)=false:=beq_eq_false_iff_ne.2 (by omega)
   have d3:(0:Int)≤(n:Int):=by omega
   have d4:(n:Int) < (l.length:Int):=by omega
   by_cases hk:l[n].f0=k
   ·have e1:pTake k ⟨l.drop n,false⟩=(l[n],⟨l.drop (n + 1),false⟩):=by rw [drop_here hlt,pTake_cons,if_pos hk]
    rw [e1]
    have k1:(l[n].f0 != k)=false:=by rw [bne_eq_false_iff_eq];exact hk
    clear hk e1
    obtain ⟨ad,rfl,t0,t1,t2,t3⟩:=HT.out.tok n hlt
    have HW:=Y0 t0
    clear t0 t1 t2 t3
    go_enter Tryz.func88,Tryz.ntmps88
    go_wp2_with ((((with_reducible refine gate_dst (N:=4) rfl ?_);refine box_event ?hg (N:=4) ?hd (cs:=#[.int .i64 0,.string (⟨#[]⟩:ByteArray),.int .i64 0,.int .i64 0]) (t:=149) ?hr ?_;(case hd=>rfl);(case hg=>rfl);(case hr=>first|(go_simp;done)|(go_simp;rfl));intro gb hg w3 hbox hb;have n1_:=Y0 (TK.below HT.out hb);have n2_:=Y0 (Fr.of_below (g:=g) hb);have n3_:=Y0 hbox;have n4_:=Y0 (Nat.le_of_eq hg.symm);have n5_:=Y0 (show g≠gb from by have:=blk_lt HT.out.blk;omega);clear HT hbox hg;have hbK:=Y0 hb;clear hb;have HT:=n1_;have HF:=n2_;have BK:=n3_;have GW:=n4_;have NB:=n5_;clear n1_ n2_ n3_ n4_ n5_;have hne:=NB.out;have hne':=NB.out.symm;have c0:_=some (Value.slice _ _ _):=(blk_cell HT.out.blk 0).trans rfl;have c1:_=some (Value.int .i64 _):=(blk_cell HT.out.blk 1).trans rfl;have c2:_=some (Value.int .i64 _):=(blk_cell HT.out.blk 2).trans rfl;have c3:_=some (Value.bool _):=(blk_cell HT.out.blk 3).trans rfl;have f2:=blk_frozen HT.out.blk 2;have f3:=blk_frozen HT.out.blk 3;have z0:_=some (Value.int .i64 0):=(blk_cell BK.out 0).trans rfl;have z1:_=some (Value.string (⟨#[]⟩:ByteArray)):=(blk_cell BK.out 1).trans rfl;have z2:_=some (Value.int .i64 0):=(blk_cell BK.out 2).trans rfl;have z3:_=some (Value.int .i64 0):=(blk_cell BK.out 3).trans rfl;have y0:=blk_frozen BK.out 0;have y1:=blk_frozen BK.out 1;have y2:=blk_frozen BK.out 2;have y3:=blk_frozen BK.out 3);have t0:=pw_cell_below hbK.out HW.out))
    go_simp
    go_quiet (fail)
    go_wp2
    have HT1:=(HT.out.drewN nq).setn (n + 1) (by omega)
    rw [show ((n + 1:Nat):Int)=(n:Int) + 1 from by omega] at HT1
    have HF1:=(HF.out.drewN nq).set_ 2 (.int .i64 ((n:Int) + 1))
    have BK1:=blk_far (blk_drewN BK.out nq) (p:=⟨g,2,none⟩) NB.out.symm (.int .i64 ((n:Int) + 1))
    clear t0 HT HF BK c0 c1 c2 c3 f2 f3 z0 z1 z2 z3 y0 y1 y2 y3
    generalize (w3.drewN nq).setCell ⟨g,2,none⟩ (.int .i64 ((n:Int) + 1))=V at *
    have HT:=Y0 HT1
    have HF:=Y0 HF1
    have BK:=Y0 BK1
    clear HT1 HF1 BK1
    obtain ⟨ad2,had,t0,t1,t2,t3⟩:=HT.out.tok n hlt
    cases had
    have c0:_=some (Value.slice _ _ _):=(blk_cell HT.out.blk 0).trans rfl;have c1:_=some (Value.int .i64 _):=(blk_cell HT.out.blk 1).trans rfl;have c2:_=some (Value.int .i64 _):=(blk_cell HT.out.blk 2).trans rfl;have c3:_=some (Value.bool _):=(blk_cell HT.out.blk 3).trans rfl;have f2:=blk_frozen HT.out.blk 2;have f3:=blk_frozen HT.out.blk 3
    replace c2:V.cell? ⟨g,2,none⟩=some (.int .i64 ((n:Int) + 1)):=c2.trans (by rw [show ((n + 1:Nat):Int)=(n:Int) + 1 from by omega])
    have hw1:IntKind.i64.wrap (n:Int)=n:=IntWalk.i64_in _ (by omega)
    have hw2:IntKind.i64.wrap ((n:Int) + 1 - 1)=n:=by rw [show (n:Int) + 1 - 1=n from by omega];exact hw1
    have z0:_=some (Value.int .i64 0):=(blk_cell BK.out 0).trans rfl
    have z1:_=some (Value.string (⟨#[]⟩:ByteArray)):=(blk_cell BK.out 1).trans rfl
    have z2:_=some (Value.int .i64 0):=(blk_cell BK.out 2).trans rfl
    have z3:_=some (Value.int .i64 0):=(blk_cell BK.out 3).trans rfl
    have y0:=blk_frozen BK.out 0
    have y1:=blk_frozen BK.out 1
    have y2:=blk_frozen BK.out 2
    have y3:=blk_frozen BK.out 3
    go_still_tail 11,(by kernel_rfl)
    change wpList _ _ _ _ _ V.drew
    clear hw1 hw2
    go_wp2
    exact take_finD (n':=n + 1) l[n] HT.out HF.out BK.out GW.out HL.out rfl rfl (Nat.le_succ _)
   ·have e1:pTake k ⟨l.drop n,false⟩=(zT,⟨l.drop n,true⟩):=by rw [drop_here hlt,pTake_cons,if_neg hk]
    rw [e1]
    have k1:(l[n].f0 != k)=true:=bne_iff_ne.2 hk
    clear hk e1
    obtain ⟨ad,rfl,t0,t1,t2,t3⟩:=HT.out.tok n hlt
    have HW:=Y0 t0
    clear t0 t1 t2 t3
    go_enter Tryz.func88,Tryz.ntmps88
    go_wp2_with ((((with_reducible refine gate_dst (N:=4) rfl ?_);refine box_event ?hg (N:=4) ?hd (cs:=#[.int .i64 0,.string (⟨#[]⟩:ByteArray),.int .i64 0,.int .i64 0]) (t:=149) ?hr ?_;(case hd=>rfl);(case hg=>rfl);(case hr=>first|(go_simp;done)|(go_simp;rfl));intro gb hg w3 hbox hb;have n1_:=Y0 (TK.below HT.out hb);have n2_:=Y0 (Fr.of_below (g:=g) hb);have n3_:=Y0 hbox;have n4_:=Y0 (Nat.le_of_eq hg.symm);have n5_:=Y0 (show g≠gb from by have:=blk_lt HT.out.blk;omega);clear HT hbox hg;have hbK:=Y0 hb;clear hb;have HT:=n1_;have HF:=n2_;have BK:=n3_;have GW:=n4_;have NB:=n5_;clear n1_ n2_ n3_ n4_ n5_;have hne:=NB.out;have hne':=NB.out.symm;have c0:_=some (Value.slice _ _ _):=(blk_cell HT.out.blk 0).trans rfl;have c1:_=some (Value.int .i64 _):=(blk_cell HT.out.blk 1).trans rfl;have c2:_=some (Value.int .i64 _):=(blk_cell HT.out.blk 2).trans rfl;have c3:_=some (Value.bool _):=(blk_cell HT.out.blk 3).trans rfl;have f2:=blk_frozen HT.out.blk 2;have f3:=blk_frozen HT.out.blk 3;have z0:_=some (Value.int .i64 0):=(blk_cell BK.out 0).trans rfl;have z1:_=some (Value.string (⟨#[]⟩:ByteArray)):=(blk_cell BK.out 1).trans rfl;have z2:_=some (Value.int .i64 0):=(blk_cell BK.out 2).trans rfl;have z3:_=some (Value.int .i64 0):=(blk_cell BK.out 3).trans rfl;have y0:=blk_frozen BK.out 0;have y1:=blk_frozen BK.out 1;have y2:=blk_frozen BK.out 2;have y3:=blk_frozen BK.out 3);have t0:=pw_cell_below hbK.out HW.out))
    go_simp
    go_quiet (fail)
    go_wp2
    exact take_fin (n':=n) zT ((HT.out.drewN _).setb true) ((HF.out.drewN _).set_ 3 _) (blk_far (blk_drewN BK.out _) NB.out.symm _) GW.out HL.out rfl rfl (Nat.le_refl _)
  ·have d1:((n:Int) == (l.length:Int))=true:=beq_iff_eq.2 (by omega)
   have d2:(n == l.length)=true:=beq_iff_eq.2 (by omega)
   have e1:pTake k ⟨l.drop n,false⟩=(zT,⟨l.drop n,true⟩):=by rw [List.drop_of_length_le (by omega),pTake_nil]
   rw [e1]
   clear e1
   go_enter Tryz.func88,Tryz.ntmps88
   go_wp2_with ((with_reducible refine gate_dst (N:=4) rfl ?_);refine box_event ?hg (N:=4) ?hd (cs:=#[.int .i64 0,.string (⟨#[]⟩:ByteArray),.int .i64 0,.int .i64 0]) (t:=149) ?hr ?_;(case hd=>rfl);(case hg=>rfl);(case hr=>first|(go_simp;done)|(go_simp;rfl));intro gb hg w3 hbox hb;have n1_:=Y0 (TK.below HT.out hb);have n2_:=Y0 (Fr.of_below (g:=g) hb);have n3_:=Y0 hbox;have n4_:=Y0 (Nat.le_of_eq hg.symm);have n5_:=Y0 (show g≠gb from by have:=blk_lt HT.out.blk;omega);clear HT hbox hg;have hbK:=Y0 hb;clear hb;have HT:=n1_;have HF:=n2_;have BK:=n3_;have GW:=n4_;have NB:=n5_;clear n1_ n2_ n3_ n4_ n5_;have hne:=NB.out;have hne':=NB.out.symm;have c0:_=some (Value.slice _ _ _):=(blk_cell HT.out.blk 0).trans rfl;have c1:_=some (Value.int .i64 _):=(blk_cell HT.out.blk 1).trans rfl;have c2:_=some (Value.int .i64 _):=(blk_cell HT.out.blk 2).trans rfl;have c3:_=some (Value.bool _):=(blk_cell HT.out.blk 3).trans rfl;have f2:=blk_frozen HT.out.blk 2;have f3:=blk_frozen HT.out.blk 3;have z0:_=some (Value.int .i64 0):=(blk_cell BK.out 0).trans rfl;have z1:_=some (Value.string (⟨#[]⟩:ByteArray)):=(blk_cell BK.out 1).trans rfl;have z2:_=some (Value.int .i64 0):=(blk_cell BK.out 2).trans rfl;have z3:_=some (Value.int .i64 0):=(blk_cell BK.out 3).trans rfl;have y0:=blk_frozen BK.out 0;have y1:=blk_frozen BK.out 1;have y2:=blk_frozen BK.out 2;have y3:=blk_frozen BK.out 3)
   go_simp
   go_quiet (fail)
   go_wp2
   exact take_fin (n':=n) zT ((HT.out.drewN _).setb true) ((HF.out.drewN _).set_ 3 _) (blk_far (blk_drewN BK.out _) NB.out.symm _) GW.out HL.out rfl rfl (Nat.le_refl _)
def isN (j:Nat) (k:Int) (x:List UInt8) (l:List TokS) (n:Nat) (b:Bool):Bool:=if b=true then false else match l[n + j]? with
 | some t=>isT k x t
 | none=>false
theorem isN_eq (j:Nat) (k:Int) (x:List UInt8) (l:List TokS) (n:Nat) (b:Bool):pIs j k x ⟨l.drop n,b⟩=isN j k x l n b:=by
 unfold pIs isN
 rw [List.getElem?_drop]
 try rfl
def IsPost (W:World) (r:Bool) (e:Ending) (W':World):Prop:=e = .returned (.bool r)∧Drawn0 W W'
set_option maxHeartbeats 4000000 in
set_option maxRecDepth 100000 in
theorem is_any {B p g c n:Nat} {W:World} {A:Option Addr} {l:List TokS} {e:Int} {b:Bool} (j:Nat) (k:Int) (x:ByteArray) (hj:j≤1) (h:TK B W p g A c l e n b) :
  Calls Tryz.prog 37 #[.pointer (some ⟨g,0,none⟩),.int .i64 (j:Int),.int .i64 k,.string x] W (IsPost W (pIs j k (bl x) ⟨l.drop n,b⟩)):=by
 rw [isN_eq]
 have hn:=h.hn
 have hl:=h.len
 have HT:=Y0 h
 clear h
 cases b with
 | true =>
  have c0:_=some (Value.slice _ _ _):=(blk_cell HT.out.blk 0).trans rfl;have c1:_=some (Value.int .i64 _):=(blk_cell HT.out.blk 1).trans rfl;have c2:_=some (Value.int .i64 _):=(blk_cell HT.out.blk 2).trans rfl;have c3:_=some (Value.bool _):=(blk_cell HT.out.blk 3).trans rfl;have f2:=blk_frozen HT.out.blk 2;have f3:=blk_frozen HT.out.blk 3
  clear HT
  go_enter Tryz.func37,Tryz.ntmps37
  go_wp2
  go_ret
  exact ⟨rfl,by repeat (first|exact Drawn0.refl _|apply Drawn0.step)⟩
 | false =>
  by_cases hlt:n + j < l.length
  ·obtain ⟨ad,rfl,t0,t1,t2,t3⟩:=HT.out.tok (n + j) hlt
   have hr:Aside0 (isN j k (bl x) l n false=(l[n + j].f0 == k && bl l[n + j].f1 == bl x)):=⟨by
    have:l[n + j]?=some l[n + j]:=by simp [hlt]
    unfold isN
    rw [if_neg Bool.false_ne_true,this]
    rfl⟩
   rw [hr.out]
   clear hr
   have d1:decide ((n:Int) + (j:Int) < (l.length:Int))=true:=decide_eq_true (by omega)
   have d2:decide (n + j < l.length)=true:=decide_eq_true hlt
   have d3:(0:Int)≤(n:Int) + (j:Int):=by omega
   have d4:(n:Int) + (j:Int) < (l.length:Int):=by omega
   have d5:((n:Int) + (j:Int)).toNat=n + j:=by omega
   have c0:_=some (Value.slice _ _ _):=(blk_cell HT.out.blk 0).trans rfl;have c1:_=some (Value.int .i64 _):=(blk_cell HT.out.blk 1).trans rfl;have c2:_=some (Value.int .i64 _):=(blk_cell HT.out.blk 2).trans rfl;have c3:_=some (Value.bool _):=(blk_cell HT.out.blk 3).trans rfl;have f2:=blk_frozen HT.out.blk 2;have f3:=blk_frozen HT.out.blk 3
   clear HT
   by_cases hk:l[n + j].f0=k
   ·have k1:(l[n + j].f0 == k)=true:=beq_iff_eq.2 hk
    rw [k1,Bool.true_and]
    by_cases hx:bl l[n + j].f1=bl x
    ·have x1:(l[n + j].f1.toList == x.toList)=true:=by rw [toList_bl,toList_bl];exact beq_iff_eq.2 hx
     have x2:Aside0 ((bl l[n + j].f1 == bl x)=true):=⟨beq_iff_eq.2 hx⟩
     clear hx hk
     rw [x2.out]
     go_enter Tryz.func37,Tryz.ntmps37
     go_wp2
     go_ret
     exact ⟨rfl,by repeat (first|exact Drawn0.refl _|apply Drawn0.step)⟩
    ·have x1:(l[n + j].f1.toList == x.toList)=false:=by rw [toList_bl,toList_bl];exact beq_eq_false_iff_ne.2 hx
     have x2:Aside0 ((bl l[n + j].f1 == bl x)=false):=⟨beq_eq_false_iff_ne.2 hx⟩
     clear hx hk
     rw [x2.out]
     go_enter Tryz.func37,Tryz.ntmps37
     go_wp2
     go_ret
     exact ⟨rfl,by repeat (first|exact Drawn0.refl _|apply Drawn0.step)⟩
   ·have k1:(l[n + j].f0 == k)=false:=beq_eq_false_iff_ne.2 hk
    clear hk
    rw [k1,Bool.false_and]
    go_enter Tryz.func37,Tryz.ntmps37
    go_wp2
    go_ret
    exact ⟨rfl,by repeat (first|exact Drawn0.refl _|apply Drawn0.step)⟩
  ·have hr:Aside0 (isN j k (bl x) l n false=false):=⟨by
    unfold isN
    rw [if_neg Bool.false_ne_true,List.getElem?_eq_none (by omega)]⟩
   rw [hr.out]
   clear hr
   have d1:decide ((n:Int) + (j:Int) < (l.length:Int))=false:=decide_eq_false (by omega)
   have d2:decide (n + j < l.length)=false:=decide_eq_false hlt
   have c0:_=some (Value.slice _ _ _):=(blk_cell HT.out.blk 0).trans rfl;have c1:_=some (Value.int .i64 _):=(blk_cell HT.out.blk 1).trans rfl;have c2:_=some (Value.int .i64 _):=(blk_cell HT.out.blk 2).trans rfl;have c3:_=some (Value.bool _):=(blk_cell HT.out.blk 3).trans rfl;have f2:=blk_frozen HT.out.blk 2;have f3:=blk_frozen HT.out.blk 3
   clear HT
   go_enter Tryz.func37,Tryz.ntmps37
   go_wp2
   go_ret
   exact ⟨rfl,by repeat (first|exact Drawn0.refl _|apply Drawn0.step)⟩
structure TL where
 l:List TokS
 A:Option Addr
 c:Nat
def TS (B:Nat) (W:World) (p g:Nat) (l:TL) (e:Int) (s:PS):Prop:=∃ n,s.r=l.l.drop n∧TK B W p g l.A l.c l.l e n s.b
theorem TS.par {B p g:Nat} {W:World} {l:TL} {e:Int} {s:PS} (h:TS B W p g l e s):W.cell? ⟨p,0,none⟩=some (.pointer (some ⟨g,0,none⟩)):=by
 obtain ⟨n,_,h⟩:=h
 exact h.par
theorem TS.bad {B p g:Nat} {W:World} {l:TL} {e:Int} {s:PS} (h:TS B W p g l e s):W.cell? ⟨g,3,none⟩=some (.bool s.b):=by
 obtain ⟨n,_,h⟩:=h
 exact (blk_cell h.blk 3).trans rfl
theorem TS.lens {B p g:Nat} {W:World} {l:TL} {e:Int} {s:PS} (h:TS B W p g l e s):s.r.length≤1000∧B≤W.heap.size∧p < B∧g < B∧p≠g:=by
 obtain ⟨n,h1,h⟩:=h
 refine ⟨?_,h.hB,h.hp,h.hg,h.hpg⟩
 rw [h1,List.length_drop]
 have:=h.len
 omega
theorem TS.other {B p g:Nat} {W W':World} {l:TL} {e:Int} {s:PS} (h:TS B W p g l e s) (hb:Below B W W'):TS B W' p g l e s:=by
 obtain ⟨n,h1,h⟩:=h
 exact ⟨n,h1,h.other hb⟩
theorem TS.below {B p g:Nat} {W W':World} {l:TL} {e:Int} {s:PS} (h:TS B W p g l e s) (hb:Below W.heap.size W W'):TS B W' p g l e s:=h.other (hb.mono h.lens.2.1)
theorem TS.alloc {B p g:Nat} {W:World} {l:TL} {e:Int} {s:PS} (h:TS B W p g l e s) (o:Obj):TS B (W.alloc o) p g l e s:=h.below (below_alloc (Below.refl _ _) o)
theorem TS.drewN {B p g:Nat} {W:World} {l:TL} {e:Int} {s:PS} (h:TS B W p g l e s) (m:Nat):TS B (W.drewN m) p g l e s:=h.other (pw_below_drewN (Below.refl _ _) m)
theorem TS.drew {B p g:Nat} {W:World} {l:TL} {e:Int} {s:PS} (h:TS B W p g l e s):TS B W.drew p g l e s:=h.drewN 1
theorem TS.drawn {B p g:Nat} {W W':World} {l:TL} {e:Int} {s:PS} (h:TS B W p g l e s) (hd:Drawn0 W W'):TS B W' p g l e s:=by
 obtain ⟨m,rfl⟩:=hd.out
 exact h.drewN m
theorem TS.far {B p g:Nat} {W:World} {l:TL} {e:Int} {s:PS} (h:TS B W p g l e s) {q:Addr} (hq:B≤q.block) (u:Value):TS B (W.setCell q u) p g l e s:=h.other ((Below.refl _ _).setCell hq u)
theorem TS.back {B B' p g:Nat} {W W':World} {l:TL} {e:Int} {s s':PS} (h0:TS B W p g l e s) (h:TS B' W' p g l e s') (hz:W.heap.size≤W'.heap.size):TS B W' p g l e s':=by
 obtain ⟨_,_,h0⟩:=h0
 obtain ⟨n,h1,h⟩:=h
 exact ⟨n,h1,h.blk,h.par,h.row,h0.hp,h0.hg,h0.hpg,h0.hA,h.len,h.hn,h.cap,Nat.le_trans h0.hB hz⟩
theorem TS.lift {B B' p g:Nat} {W:World} {l:TL} {e:Int} {s:PS} (h:TS B W p g l e s) (hB:B≤B') (hz:B'≤W.heap.size):TS B' W p g l e s:=by
 obtain ⟨n,h1,h⟩:=h
 exact ⟨n,h1,h.blk,h.par,h.row,Nat.lt_of_lt_of_le h.hp hB,Nat.lt_of_lt_of_le h.hg hB,h.hpg,fun ad ha=>⟨Nat.lt_of_lt_of_le (h.hA ad ha).1 hB,(h.hA ad ha).2⟩,h.len,h.hn,h.cap,hz⟩
theorem TS.setp {B p g j:Nat} {W:World} {l:TL} {e:Int} {s:PS} {cs:Array Value} {u:Value} (h:TS B W p g l e s) (hb:(W.setCell ⟨p,j + 1,none⟩ u).heap[p]?=some (.cells cs 79 (0,0))) (hc0:cs[0]?=some (.pointer (some ⟨g,0,none⟩))):TS B (W.setCell ⟨p,j + 1,none⟩ u) p g l e s:=by
 obtain ⟨n,h1,h⟩:=h
 have hc:∀ q:Addr,q.block≠p→(W.setCell ⟨p,j + 1,none⟩ u).cell? q=W.cell? q:=fun q hq=>cell_far (p:=⟨p,j + 1,none⟩) hq u
 refine ⟨n,h1,blk_far h.blk (p:=⟨p,j + 1,none⟩) (Ne.symm h.hpg) u,?_,?_,h.hp,h.hg,h.hpg,h.hA,h.len,h.hn,h.cap,?_⟩
 ·exact (blk_cell hb 0).trans hc0
 ·intro k t hk
  obtain ⟨ad,ha,h0,h2,h3,h4⟩:=h.row k t hk
  have hq:=(h.hA ad ha).2.2
  have ho:∀ q:Addr,q.block=(ad.add (k * 4)).block→(W.setCell ⟨p,j + 1,none⟩ u).cell? q=W.cell? q:=fun q e=>hc q (by rw [e,add_block];exact hq)
  exact ⟨ad,ha,(ho _ rfl).trans h0,(ho ⟨_,_,none⟩ rfl).trans h2,(ho ⟨_,_,none⟩ rfl).trans h3,(ho ⟨_,_,none⟩ rfl).trans h4⟩
 ·exact Nat.le_trans h.hB ((Below.refl 0 W).setCell (p:=⟨p,j + 1,none⟩) (Nat.zero_le _) u).size
theorem at_s {B p g:Nat} {W:World} {l:TL} {e:Int} {s:PS} (h:TS B W p g l e s):Calls Tryz.prog 40 #[.pointer (some ⟨g,0,none⟩)] W (AtPost W (pAt e s)):=by
 obtain ⟨r,b⟩:=s
 obtain ⟨n,h1,h⟩:=h
 cases h1
 exact at_calls h
def TakeP (B:Nat) (W:World) (p g:Nat) (l:TL) (e:Int) (t:TokS) (s:PS) (en:Ending) (W':World):Prop :=
 en = .returned (.agg #[.int .i64 t.f0,.string t.f1,.int .i64 t.f2,.int .i64 t.f3])∧TS B W' p g l e s∧Fr W.heap.size g W W'
theorem take_s {B p g:Nat} {W:World} {l:TL} {e:Int} {s:PS} (k:Int) (h:TS B W p g l e s):Calls Tryz.prog 88 #[.pointer (some ⟨g,0,none⟩),.int .i64 k] W (TakeP B W p g l e (pTake k s).1 (pTake k s).2):=by
 obtain ⟨r,b⟩:=s
 obtain ⟨n,h1,h⟩:=h
 cases h1
 refine (take_any k h).mono ?_
 rintro en W' ⟨h1,⟨n',h2,_,h3⟩,h4⟩
 exact ⟨h1,⟨n',h2,h3⟩,h4⟩
theorem is_s {B p g:Nat} {W:World} {l:TL} {e:Int} {s:PS} (j:Nat) (k:Int) (x:ByteArray) (hj:j≤1) (h:TS B W p g l e s):Calls Tryz.prog 37 #[.pointer (some ⟨g,0,none⟩),.int .i64 (j:Int),.int .i64 k,.string x] W (IsPost W (pIs j k (bl x) s)):=by
 obtain ⟨r,b⟩:=s
 obtain ⟨n,h1,h⟩:=h
 cases h1
 exact is_any j k x hj h
theorem is0_s {B p g:Nat} {W:World} {l:TL} {e:Int} {s:PS} (k:Int) (x:ByteArray) (h:TS B W p g l e s):Calls Tryz.prog 37 #[.pointer (some ⟨g,0,none⟩),.int .i64 0,.int .i64 k,.string x] W (IsPost W (pIs 0 k (bl x) s)):=is_s 0 k x (by decide) h
theorem is1_s {B p g:Nat} {W:World} {l:TL} {e:Int} {s:PS} (k:Int) (x:ByteArray) (h:TS B W p g l e s):Calls Tryz.prog 37 #[.pointer (some ⟨g,0,none⟩),.int .i64 1,.int .i64 k,.string x] W (IsPost W (pIs 1 k (bl x) s)):=is_s 1 k x (by decide) h
def SignP (B:Nat) (W:World) (p g:Nat) (l:TL) (e:Int) (r:Bool) (s:PS) (en:Ending) (W':World):Prop:=en = .returned (.bool r)∧TS B W' p g l e s∧Fr W.heap.size g W W'
theorem is_here {s:PS} {k:Int} {x:List UInt8} {l:List TokS} {n:Nat} (h:pIs 0 k x s=true) (hs:s.r=l.drop n) (hn:n≤l.length):s.r.tail=l.drop (n + 1)∧n + 1≤l.length:=by
 refine ⟨by rw [hs,List.tail_drop],?_⟩
 by_cases hlt:n < l.length
 ·omega
 ·have e:s.r=[]:=by rw [hs,List.drop_of_length_le (by omega)]
  unfold pIs at h
  rw [e] at h
  split at h <;> cases h
theorem drawn_fr {W W':World} (h:Drawn0 W W') (B g:Nat):Fr B g W W':=by
 obtain ⟨m,rfl⟩:=h.out
 exact (Fr.refl B g W).drewN m
set_option maxHeartbeats 1000000 in
theorem sign_s {B p g:Nat} {W:World} {l:TL} {e:Int} {s:PS} (x:ByteArray) (h:TS B W p g l e s):Calls Tryz.prog 90 #[.pointer (some ⟨g,0,none⟩),.string x] W (SignP B W p g l e (pSign (bl x) s).1 (pSign (bl x) s).2):=by
 have HI:=Y0 (is0_s 3 x h)
 obtain ⟨n,h1,h2⟩:=h
 have hn:=h2.hn
 have hl:=h2.len
 by_cases hp:pIs 0 3 (bl x) s=true
 ·have e1:pSign (bl x) s=(true,⟨s.r.tail,s.b⟩):=by unfold pSign;rw [if_pos hp]
  obtain ⟨k1,k2⟩:=is_here hp h1 hn
  rw [hp] at HI
  rw [e1]
  have HT:=Y0 h2
  have HK:=Y0 k1
  clear h1 h2 hp e1 k1
  go_enter Tryz.func90,Tryz.ntmps90
  go_wp2_with fail
  go_at_call 37
  refine HI.out.mono ?_
  rintro e1 W1 ⟨rfl,hd⟩
  have n0_:=Y0 (drawn_fr hd W.heap.size g)
  have n1_:=Y0 (show TK B W1 p g l.A l.c l.l e n s.b from (by obtain ⟨m,rfl⟩:=hd.out;exact HT.out.drewN m))
  clear HT hd HI
  have HT:=n1_
  have HF:=n0_
  clear n0_ n1_
  have c0:_=some (Value.slice _ _ _):=(blk_cell HT.out.blk 0).trans rfl;have c1:_=some (Value.int .i64 _):=(blk_cell HT.out.blk 1).trans rfl;have c2:_=some (Value.int .i64 _):=(blk_cell HT.out.blk 2).trans rfl;have c3:_=some (Value.bool _):=(blk_cell HT.out.blk 3).trans rfl;have f2:=blk_frozen HT.out.blk 2;have f3:=blk_frozen HT.out.blk 3
  go_wp2
  go_ret
  refine ⟨rfl,⟨n + 1,HK.out,?_⟩,HF.out.set_ 2 _⟩
  have h3:=HT.out.setn (n + 1) k2
  rw [show ((n + 1:Nat):Int)=(n:Int) + 1 from by omega] at h3
  exact h3
 ·have hp':pIs 0 3 (bl x) s=false:=by simpa using hp
  have e1:pSign (bl x) s=(false,s):=by unfold pSign;rw [if_neg hp]
  rw [hp'] at HI
  rw [e1]
  have HT:=Y0 (show TS B W p g l e s from ⟨n,h1,h2⟩)
  clear h1 h2 hp hp' e1
  go_enter Tryz.func90,Tryz.ntmps90
  go_wp2_with fail
  go_at_call 37
  refine HI.out.mono ?_
  rintro e1 W1 ⟨rfl,hd⟩
  have n0_:=Y0 (drawn_fr hd W.heap.size g)
  have n1_:=Y0 (HT.out.drawn hd)
  clear HT hd HI
  have HT:=n1_
  have HF:=n0_
  clear n0_ n1_
  go_wp2
  go_ret
  exact ⟨rfl,HT.out,HF.out⟩
def MustP (B:Nat) (W:World) (p g:Nat) (l:TL) (e:Int) (s:PS) (en:Ending) (W':World):Prop:=en = .returned (.tuple #[])∧TS B W' p g l e s∧Fr W.heap.size g W W'
theorem sign_no (x:List UInt8) (s:PS) (h:(pSign x s).1=false):(pSign x s).2=s:=by
 unfold pSign at h ⊢
 split
 ·rename_i hp
  rw [if_pos hp] at h
  cases h
 ·rfl
theorem take_shorter (s:PS):(pTake 1 s).2.b=false→(pTake 1 s).2.r.length < s.r.length:=by
 obtain ⟨r,b⟩:=s
 cases b with
 | true=>intro h;cases h
 | false=>cases r with
  | nil=>intro h;cases h
  | cons t r =>
   rw [pTake_cons]
   split
   ·intro _;exact Nat.lt_succ_self _
   ·intro h;cases h
theorem sign_shorter (x:List UInt8) (s:PS):(pSign x s).2.r.length≤s.r.length:=by
 unfold pSign
 split
 ·show s.r.tail.length≤_
  rw [List.length_tail]
  omega
 ·exact Nat.le_refl _
theorem must_sign (x:List UInt8) (s:PS):pMust x s=if (pSign x s).1=true then (pSign x s).2 else ⟨(pSign x s).2.r,true⟩:=by
 unfold pMust pSign
 by_cases h:pIs 0 3 x s=true
 ·rw [if_pos h,if_pos h,if_pos rfl]
 ·rw [if_neg h,if_neg h,if_neg Bool.false_ne_true]
theorem TS.setb {B p g:Nat} {W:World} {l:TL} {e:Int} {s:PS} (h:TS B W p g l e s):TS B (W.setCell ⟨g,3,none⟩ (.bool true)) p g l e ⟨s.r,true⟩:=by
 obtain ⟨n,h1,h⟩:=h
 exact ⟨n,h1,h.setb true⟩
set_option maxHeartbeats 1000000 in
theorem must_s {B p g:Nat} {W:World} {l:TL} {e:Int} {s:PS} (x:ByteArray) (h:TS B W p g l e s):Calls Tryz.prog 89 #[.pointer (some ⟨g,0,none⟩),.string x] W (MustP B W p g l e (pMust (bl x) s)):=by
 rw [must_sign]
 have HI:=Y0 (sign_s x h)
 clear h
 cases hs:(pSign (bl x) s).1 with
 | true =>
  rw [hs] at HI
  rw [if_pos rfl]
  generalize (pSign (bl x) s).2=s2 at *
  clear hs
  go_enter Tryz.func89,Tryz.ntmps89
  go_wp2_with fail
  go_at_call 90
  refine HI.out.mono ?_
  rintro e1 W1 ⟨rfl,hs,hf⟩
  have HT:=Y0 hs
  have HF:=Y0 hf
  clear hs hf HI
  go_wp2
  go_end0
  exact ⟨rfl,HT.out,HF.out⟩
 | false =>
  rw [hs] at HI
  rw [if_neg Bool.false_ne_true]
  generalize (pSign (bl x) s).2=s2 at *
  clear hs
  go_enter Tryz.func89,Tryz.ntmps89
  go_wp2_with fail
  go_at_call 90
  refine HI.out.mono ?_
  rintro e1 W1 ⟨rfl,hs,hf⟩
  have HT:=Y0 hs
  have HF:=Y0 hf
  have c3:=hs.bad
  have f3:W1.frozen? ⟨g,3,none⟩=false:=by (obtain ⟨n,_,h⟩:=hs;exact blk_frozen h.blk 3)
  clear hs hf HI
  go_wp2
  go_end0
  exact ⟨rfl,HT.out.setb,HF.out.set_ 3 _⟩
theorem tok_f1 (a:Int) (b:ByteArray) (c d:Int) (w:World):Sem.run Tryz.prog (Instr.field 149 (.agg #[.int .i64 a,.string b,.int .i64 c,.int .i64 d]) 1) w = .ok (.string b) w:=by kernel_rfl
theorem tok_f2 (a:Int) (b:ByteArray) (c d:Int) (w:World):Sem.run Tryz.prog (Instr.field 149 (.agg #[.int .i64 a,.string b,.int .i64 c,.int .i64 d]) 2) w = .ok (.int .i64 c) w:=by kernel_rfl
set_option maxHeartbeats 1000000 in
set_option maxRecDepth 100000 in
theorem named_s {B p g:Nat} {W:World} {l:TL} {e:Int} {s:PS} (h:TS B W p g l e s):Calls Tryz.prog 92 #[.pointer (some ⟨p,0,none⟩)] W
  (fun en W'=>en = .returned (.tuple #[.string (pNamed s).1.1,.int .i64 (pNamed s).1.2])∧TS B W' p g l e (pNamed s).2∧Fr W.heap.size g W W'):=by
 have hc:=h.par
 have HT:=Y0 h
 clear h
 unfold pNamed
 have q1:=tok_f1
 have q2:=tok_f2
 go_enter Tryz.func92,Tryz.ntmps92
 go_wp2_with fail
 go_at_call 88
 refine (take_s 0 HT.out).mono ?_
 rintro e1 W1 ⟨rfl,h1,f1⟩
 clear hc HT
 have hc:=h1.par
 have HT:=Y0 h1
 have HF:=Y0 f1
 clear h1 f1
 go_wp2_with fail
 go_at_call 89
 refine (must_s ⟨#[61]⟩ HT.out).mono ?_
 rintro e1 W2 ⟨rfl,h1,f1⟩
 have n1_:=Y0 (HF.out.trans (f1.mono HF.out.size))
 clear hc HT HF
 have hc:=h1.par
 have HT:=Y0 h1
 have HF:=n1_
 clear h1 f1 n1_
 go_wp2_with fail

 go_at_call 88
 refine (take_s 1 HT.out).mono ?_
 rintro e1 W3 ⟨rfl,h1,f1⟩
 have n1_:=Y0 (HF.out.trans (f1.mono HF.out.size))
 clear hc HT HF
 have hc:=h1.par
 have HT:=Y0 h1
 have HF:=n1_
 clear h1 f1 n1_
 go_wp2_with fail
 go_at_call 89
 refine (must_s ⟨#[59]⟩ HT.out).mono ?_
 rintro e1 W4 ⟨rfl,h1,f1⟩
 have n1_:=Y0 (HF.out.trans (f1.mono HF.out.size))
 clear hc HT HF
 have HT:=Y0 h1
 have HF:=n1_
 clear h1 f1 n1_
 go_wp2
 go_ret2
 exact ⟨rfl,HT.out,HF.out⟩
structure MB (B:Nat) (W:World) (h:Nat) (nm:ByteArray) (m:MAcc) (a:Int) (vF vO vR:Value):Prop where
 blk:W.heap[h]?=some (.cells #[.string nm,vF,vO,vR,.int .i64 a] 34 (0,0))
 rF:k36.R 36 W B (fun _=>True) vF m.1
 rO:Kd.string.R 9 W B (fun _=>True) vO m.2.1
 rR:(Kd.int .i64).R 2 W B (fun _=>True) vR m.2.2
 ge:B≤h
theorem R_fr {α:Type} {d:Kd α} {t B g:Nat} {W W':World} {v:Value} {xs:List α} (h:d.R t W B (fun _=>True) v xs) (hF:Fr W.heap.size g W W') (hg:g < B):d.R t W' B (fun _=>True) v xs :=
 Kd.R_mono (Kd.R_keep (Kd.R_bound h) (hF.keep rfl) (fun k hk=>by have:=hk.2.1;omega)) (fun _ _=>trivial)
theorem R_grow {α β:Type} {d:Kd α} {d':Kd β} {t t' B B':Nat} {W W':World} {v u:Value} {xs:List α} {ys:List β} {ok:Nat→Prop} (h:d.R t W B (fun _=>True) v xs) (hv:d'.R t' W B' ok u ys) (ht:∀ q,q ∈ t :: d.E→q≠t') (hg:W.grownBy W' u.ownBlock):d.R t W' B (fun _=>True) v xs :=
 Kd.R_over h hv ht hg
theorem MB.keep {B g h:Nat} {W W':World} {nm:ByteArray} {m:MAcc} {a:Int} {vF vO vR:Value} (H:MB B W h nm m a vF vO vR) (hF:Fr W.heap.size g W W') (hg:g < B):MB B W' h nm m a vF vO vR :=
 ⟨(hF.block h (blk_lt H.blk) (by have:=H.ge;omega)).trans H.blk,R_fr H.rF hF hg,R_fr H.rO hF hg,R_fr H.rR hF hg,H.ge⟩
theorem MB.below {B h:Nat} {W W':World} {nm:ByteArray} {m:MAcc} {a:Int} {vF vO vR:Value} (H:MB B W h nm m a vF vO vR) (hb:Below W.heap.size W W'):MB B W' h nm m a vF vO vR :=
 ⟨blk_below H.blk hb,Kd.R_below H.rF hb,Kd.R_below H.rO hb,Kd.R_below H.rR hb,H.ge⟩
theorem MB.drawn {B h:Nat} {W W':World} {nm:ByteArray} {m:MAcc} {a:Int} {vF vO vR:Value} (H:MB B W h nm m a vF vO vR) (hd:Drawn0 W W'):MB B W' h nm m a vF vO vR:=H.below hd.below
theorem blk_grow {α:Type} {d:Kd α} {t t' B h:Nat} {W W':World} {u:Value} {xs:List α} {cs:Array Value} {ok:Nat→Prop} (hr:d.R t W B ok u xs) (hb:W.heap[h]?=some (.cells cs t' (0,0))) (ht:t≠t') (hg:W.grownBy W' u.ownBlock):W'.heap[h]?=some (.cells cs t' (0,0)) :=
 (hg.block h (blk_lt hb) (Kd.R_ne hr hb ht)).trans hb
theorem MB.appF {B h:Nat} {W W':World} {nm:ByteArray} {m:MAcc} {a:Int} {vF vO vR v:Value} {l:List FieldS} (H:MB B W h nm m a vF vO vR) (hR:k36.R 36 W' B (fun _=>True) v l) (hg:W.grownBy W' vF.ownBlock):MB B (W'.setCell ⟨h,1,none⟩ v) h nm (l,m.2.1,m.2.2) a v vO vR:=by
 have hb:=blk_grow H.rF H.blk (by decide) hg
 exact ⟨blk_put hb 1 _ rfl,Kd.R_set hR hb (by decide) 1 v,Kd.R_set (R_grow H.rO H.rF (by decide) hg) hb (by decide) 1 v,Kd.R_set (R_grow H.rR H.rF (by decide) hg) hb (by decide) 1 v,H.ge⟩
theorem MB.appO {B h:Nat} {W W':World} {nm:ByteArray} {m:MAcc} {a:Int} {vF vO vR v:Value} {l:List ByteArray} (H:MB B W h nm m a vF vO vR) (hR:Kd.string.R 9 W' B (fun _=>True) v l) (hg:W.grownBy W' vO.ownBlock):MB B (W'.setCell ⟨h,2,none⟩ v) h nm (m.1,l,m.2.2) a vF v vR:=by
 have hb:=blk_grow H.rO H.blk (by decide) hg
 exact ⟨blk_put hb 2 _ rfl,Kd.R_set (R_grow H.rF H.rO (by decide) hg) hb (by decide) 2 v,Kd.R_set hR hb (by decide) 2 v,Kd.R_set (R_grow H.rR H.rO (by decide) hg) hb (by decide) 2 v,H.ge⟩
theorem MB.appR {B h:Nat} {W W':World} {nm:ByteArray} {m:MAcc} {a:Int} {vF vO vR v:Value} {l:List Int} (H:MB B W h nm m a vF vO vR) (hR:(Kd.int .i64).R 2 W' B (fun _=>True) v l) (hg:W.grownBy W' vR.ownBlock):MB B (W'.setCell ⟨h,3,none⟩ v) h nm (m.1,m.2.1,l) a vF vO v:=by
 have hb:=blk_grow H.rR H.blk (by decide) hg
 exact ⟨blk_put hb 3 _ rfl,Kd.R_set (R_grow H.rF H.rR (by decide) hg) hb (by decide) 3 v,Kd.R_set (R_grow H.rO H.rR (by decide) hg) hb (by decide) 3 v,Kd.R_set hR hb (by decide) 3 v,H.ge⟩
theorem grown_below {α:Type} {d:Kd α} {t B:Nat} {W W':World} {v:Value} {xs:List α} {ok:Nat→Prop} (hr:d.R t W B ok v xs) (hg:W.grownBy W' v.ownBlock) (hB:B≤W.heap.size):Below B W W' :=
 (Below.refl B W).grown hg hB (fun k hk=>Kd.R_base hr k hk)
def ItemP (B:Nat) (W:World) (p g h:Nat) (l:TL) (e:Int) (nm:ByteArray) (m:MAcc) (a:Int) (s:PS) (en:Ending) (W':World):Prop :=
 en = .returned (.tuple #[])∧TS B W' p g l e s∧(∃ vF vO vR,MB B W' h nm m a vF vO vR)∧Fr B g W W'
def fewM (m:MAcc):Prop:=m.1.length≤1000000∧m.2.1.length≤1000000∧m.2.2.length≤1000000
def FldP (B:Nat) (W:World) (p g:Nat) (l:TL) (e:Int) (f:FieldS) (s:PS) (en:Ending) (W':World):Prop :=
 en = .returned (.agg #[.string f.f0,.string f.f1,.bool f.f2,.int .i64 f.f3,.string f.f4,.int .i64 f.f5,.int .i64 f.f6])∧TS B W' p g l e s∧Fr W.heap.size g W W'
theorem box_put7 {V:World} {g:Nat} {t:TypeId} {c0 c1 c2 c3 c4 c5 c6:Value} (h:V.heap[g]?=some (.cells #[c0,c1,c2,c3,c4,c5,c6] t (0,0))) (u0 u1 u2 u3 u4 u5 u6:Value) :
  (((((((V.setCell ⟨g,0,none⟩ u0).setCell ⟨g,1,none⟩ u1).setCell ⟨g,2,none⟩ u2).setCell ⟨g,3,none⟩ u3).setCell ⟨g,4,none⟩ u4).setCell ⟨g,5,none⟩ u5).setCell ⟨g,6,none⟩ u6).heap[g]?=some (.cells #[u0,u1,u2,u3,u4,u5,u6] t (0,0)) :=
 blk_put (cs':=#[u0,u1,u2,u3,u4,u5,u6]) (blk_put (cs':=#[u0,u1,u2,u3,u4,u5,c6]) (blk_put (cs':=#[u0,u1,u2,u3,u4,c5,c6]) (blk_put (cs':=#[u0,u1,u2,u3,c4,c5,c6]) (blk_put (cs':=#[u0,u1,u2,c3,c4,c5,c6]) (blk_put (cs':=#[u0,u1,c2,c3,c4,c5,c6]) (blk_put (cs':=#[u0,c1,c2,c3,c4,c5,c6]) h 0 u0 rfl) 1 u1 rfl) 2 u2 rfl) 3 u3 rfl) 4 u4 rfl) 5 u5 rfl) 6 u6 rfl
theorem TS.far7 {B p g b:Nat} {W:World} {l:TL} {e:Int} {s:PS} (h:TS B W p g l e s) (hq:B≤b) (u0 u1 u2 u3 u4 u5 u6:Value) :
  TS B (((((((W.setCell ⟨b,0,none⟩ u0).setCell ⟨b,1,none⟩ u1).setCell ⟨b,2,none⟩ u2).setCell ⟨b,3,none⟩ u3).setCell ⟨b,4,none⟩ u4).setCell ⟨b,5,none⟩ u5).setCell ⟨b,6,none⟩ u6) p g l e s :=
 ((((((h.far (q:=⟨b,0,none⟩) hq _).far (q:=⟨b,1,none⟩) hq _).far (q:=⟨b,2,none⟩) hq _).far (q:=⟨b,3,none⟩) hq _).far (q:=⟨b,4,none⟩) hq _).far (q:=⟨b,5,none⟩) hq _).far (q:=⟨b,6,none⟩) hq _
theorem Fr.far7 {B g b:Nat} {a W:World} (h:Fr B g a W) (hq:B≤b) (u0 u1 u2 u3 u4 u5 u6:Value) :
  Fr B g a (((((((W.setCell ⟨b,0,none⟩ u0).setCell ⟨b,1,none⟩ u1).setCell ⟨b,2,none⟩ u2).setCell ⟨b,3,none⟩ u3).setCell ⟨b,4,none⟩ u4).setCell ⟨b,5,none⟩ u5).setCell ⟨b,6,none⟩ u6) :=
 ((((((h.far (p:=⟨b,0,none⟩) hq _).far (p:=⟨b,1,none⟩) hq _).far (p:=⟨b,2,none⟩) hq _).far (p:=⟨b,3,none⟩) hq _).far (p:=⟨b,4,none⟩) hq _).far (p:=⟨b,5,none⟩) hq _).far (p:=⟨b,6,none⟩) hq _
theorem fld_fin {B p g:Nat} {W V:World} {l:TL} {e:Int} {s:PS} {f:FieldS} {tmps:Array Value} {gb fb:Nat} {a4 a5 c0 c1 c2 c3 c4 c5 c6:Value}
  (HT:TS B V p g l e s) (HF:Fr W.heap.size g W V) (BK:V.heap[gb]?=some (.cells #[c0,c1,c2,c3,c4,c5,c6] 36 (0,0))) (_:V.heap[fb]?=some (.cells #[.string f.f0,.string f.f1,.bool f.f2,.int .i64 f.f3,a4,a5,.int .i64 f.f6] 36 (0,0)))
  (GW:W.heap.size≤gb) (GF:W.heap.size≤fb) (hB:B≤W.heap.size) (hne:gb≠fb) (ht:tmps.getD 4 undef = .pointer (some ⟨gb,0,none⟩)) :
  bodyPost Tryz.prog Tryz.f153 (FldP B W p g l e f s) .ret { tmps:=tmps,defers:=[] } (((((((((V.setCell ⟨fb,4,none⟩ (.string f.f4)).setCell ⟨fb,5,none⟩ (.int .i64 f.f5)).setCell ⟨gb,0,none⟩ (.string f.f0)).setCell ⟨gb,1,none⟩ (.string f.f1)).setCell ⟨gb,2,none⟩ (.bool f.f2)).setCell ⟨gb,3,none⟩ (.int .i64 f.f3)).setCell ⟨gb,4,none⟩ (.string f.f4)).setCell ⟨gb,5,none⟩ (.int .i64 f.f5)).setCell ⟨gb,6,none⟩ (.int .i64 f.f6)):=by
 refine bodyPost_ret (results_single rfl (.cell gb _ _ _ _ ht (box_put7 (blk_far (blk_far BK (p:=⟨fb,4,none⟩) hne _) (p:=⟨fb,5,none⟩) hne _) _ _ _ _ _ _ _) Tryz.underlying36 rfl (by kernel_rfl) .nil)) rfl ⟨rfl,?_,?_⟩
 ·exact TS.far7 ((HT.far (q:=⟨fb,4,none⟩) (Nat.le_trans hB GF) _).far (q:=⟨fb,5,none⟩) (Nat.le_trans hB GF) _) (Nat.le_trans hB GW) _ _ _ _ _ _ _
 ·exact Fr.far7 ((HF.far (p:=⟨fb,4,none⟩) GF _).far (p:=⟨fb,5,none⟩) GF _) GW _ _ _ _ _ _ _
set_option maxHeartbeats 2000000 in
set_option maxRecDepth 100000 in
theorem field_s {B p g:Nat} {W:World} {l:TL} {e:Int} {s:PS} (one:Int) (h:TS B W p g l e s):Calls Tryz.prog 153 #[.pointer (some ⟨p,0,none⟩),.int .i64 one] W (FldP B W p g l e (pField e one s).1 (pField e one s).2):=by
 have HT:=Y0 h
 have HL:=Y0 h.lens.2.1
 clear h
 unfold pField
 have q1:=tok_f1
 go_enter Tryz.func153,Tryz.ntmps153
 go_upto_region 1 with ((with_reducible refine gate_dst (N:=4) rfl ?_);refine box_event ?hg (N:=4) ?hd (cs:=#[.string (⟨#[]⟩:ByteArray),.string (⟨#[]⟩:ByteArray),.bool false,.int .i64 0,.string (⟨#[]⟩:ByteArray),.int .i64 0,.int .i64 0]) (t:=36) ?hr ?_;(case hd=>rfl);(case hg=>rfl);(case hr=>first|(go_simp;done)|(go_simp;rfl));intro gb hg w3 hbox hb;have n1_:=Y0 (TS.below HT.out hb);have n2_:=Y0 (Fr.of_below (g:=g) hb);have n3_:=Y0 hbox;have n4_:=Y0 (Nat.le_of_eq hg.symm);have n5_:=Y0 (show gb < w3.heap.size from blk_lt hbox);clear HT hb hbox hg;have HT:=n1_;have HF:=n2_;have BK:=n3_;have GW:=n4_;have GL:=n5_;clear n1_ n2_ n3_ n4_ n5_)
 (try simp only [Act.put,Y14,Y15,Y16])
 have hc:=HT.out.par
 have NEG:Aside0 (w3.heap.size≠g):=⟨by have:=HT.out.lens;omega⟩
 go_cut [5] (fun v5 wc=>∃ fb:Nat,v5 = .pointer (some ⟨fb,0,none⟩)∧Aside0 (wc.heap[fb]?=some (.cells #[.string (pTake 0 s).1.f1,.string ⟨#[]⟩,.bool false,.int .i64 one,.string ⟨#[]⟩,.int .i64 0,.int .i64 (pAt e s)] 36 (0,0)))∧Aside0 (TS B wc p g l e (pTake 0 s).2)∧Aside0 (Fr w3.heap.size g w3 wc)∧Aside0 (w3.heap.size≤fb))
 case first =>
  refine start_ (n:=15) (S:=fun w'=>w'.cell? ⟨p,0,none⟩=some (.pointer (some ⟨g,0,none⟩))) (ds:=[14]) #[false,false,false,false,false,false,false,false,false,false,false,false,false,false,false] (by kernel_rfl) rfl rfl (hc) (fun hHeld=>?_)
  refine pure_ (i:=0) (N:=some 6) (v:=?_) (a':=?_) (sqB 15 1) rfl rfl (by kernel_rfl) (fun _ _ _ h=>h) (Or.inl ⟨by rfl,?_⟩) ?_ ?_;rotate_left;intro w';go_simp;with_reducible rfl;rotate_left;simp only [Act.put,Y14,Y15,Y16];rfl
  refine pure_ (i:=1) (N:=some 7) (v:=?_) (a':=?_) (sqB 15 3) rfl rfl (by kernel_rfl) (fun _ _ _ h=>h) (Or.inl ⟨by rfl,?_⟩) ?_ ?_;rotate_left;intro w';go_simp;with_reducible rfl;rotate_left;simp only [Act.put,Y14,Y15,Y16];rfl
  refine pure_ (i:=2) (N:=some 8) (v:=?_) (a':=?_) (sqB 15 7) rfl rfl (by kernel_rfl) (fun _ _ _ h=>h) (Or.inl ⟨by rfl,?_⟩) ?_ ?_;rotate_left;intro w';go_simp;with_reducible rfl;rotate_left;simp only [Act.put,Y14,Y15,Y16];rfl
  refine pure_ (i:=5) (N:=some 11) (v:=?_) (a':=?_) (sqB 15 39) rfl rfl (by kernel_rfl) (fun _ _ _ h=>h) (Or.inl ⟨by rfl,?_⟩) ?_ ?_;rotate_left;intro w';go_simp;with_reducible rfl;rotate_left;simp only [Act.put,Y14,Y15,Y16];rfl
  refine pure_ (i:=6) (N:=some 12) (v:=?_) (a':=?_) (sqB 15 103) rfl rfl (by kernel_rfl) (fun _ _ _ h=>h) (Or.inl ⟨by rfl,?_⟩) ?_ ?_;rotate_left;intro w';go_simp;with_reducible rfl;rotate_left;simp only [Act.put,Y14,Y15,Y16];rfl
  refine pure_ (i:=7) (N:=some 13) (v:=?_) (a':=?_) (sqB 15 231) rfl rfl (by kernel_rfl) (fun _ _ _ h=>h) (Or.inl ⟨by rfl,?_⟩) ?_ ?_;rotate_left;intro w';go_simp;with_reducible rfl;rotate_left;simp only [Act.put,Y14,Y15,Y16];rfl
  refine pure_ (i:=8) (N:=some 14) (v:=?_) (a':=?_) (sqB 15 487) rfl rfl (by kernel_rfl) (fun _ _ _ h=>h) (Or.inl ⟨by rfl,?_⟩) ?_ ?_;rotate_left;intro w';go_simp;with_reducible rfl;rotate_left;simp only [Act.put,Y14,Y15,Y16];rfl
  refine take_ (i:=3) (N:=some 9) (v:=?_) (a':=?_) (sqB 15 495) rfl rfl (by kernel_rfl) (fun _ _ _ h=>h) (Or.inl ⟨by rfl,?_⟩) hHeld ?_ ?_;rotate_left;intro w' s0;go_simp;with_reducible rfl;rotate_left;simp only [Act.put,Y14,Y15,Y16];rfl
  refine take_ (i:=9) (N:=some 15) (v:=?_) (a':=?_) (sqB 15 1007) rfl rfl (by kernel_rfl) (fun _ _ _ h=>h) (Or.inl ⟨by rfl,?_⟩) hHeld ?_ ?_;rotate_left;intro w' s0;go_simp;with_reducible rfl;rotate_left;simp only [Act.put,Y14,Y15,Y16];rfl
  refine join_ (σ:=Nat) 1 #[true,true,true,true,true,true,true,true,true,true,true,true,true,true,false] (fun fb=>[(10,.int .i64 (pAt e s)),(16,.agg #[.int .i64 (pTake 0 s).1.f0,.string (pTake 0 s).1.f1,.int .i64 (pTake 0 s).1.f2,.int .i64 (pTake 0 s).1.f3]),(17,.string (pTake 0 s).1.f1),(18,.agg #[.string (pTake 0 s).1.f1,.string (⟨#[]⟩:ByteArray),.bool false,.int .i64 one,.string (⟨#[]⟩:ByteArray),.int .i64 0,.int .i64 (pAt e s)]),(5,.pointer (some ⟨fb,0,none⟩))]) (fun fb w'=>Aside0 (TS B w' p g l e (pTake 0 s).2)∧Aside0 (Fr w3.heap.size g w3 w')∧Aside0 (w3.heap.size≤fb)∧Aside0 (w'.heap[fb]?=some (.cells #[.string (⟨#[]⟩:ByteArray),.string (⟨#[]⟩:ByteArray),.bool false,.int .i64 0,.string (⟨#[]⟩:ByteArray),.int .i64 0,.int .i64 0] 36 (0,0)))) ?_ ?_
  rotate_left
  ·intro hCont
   refine two_ (i:=4) (j:=13) (Ni:=some 10) (Nj:=some 5) #[true,true,true,true,true,true,true,true,true,true,false,false,false,false,false] #[true,true,true,true,false,true,true,true,true,true,false,false,false,true,false] rfl rfl rfl rfl (by kernel_rfl) (by decide) (by decide) (fun K hK=>?_) (fun K hK=>?_)
   ·skip
    refine goes_ Tryz.func40 (by kernel_rfl) rfl #[.pointer (some ⟨g,0,none⟩)] (by rfl) rfl rfl (by simp only [List.map_toArray,List.map_cons,List.map_nil];rfl) ?_
    with_reducible refine (at_s (TS.drew HT.out)).mono ?_
    rintro e1 W1 ⟨rfl,hd⟩
    refine ⟨_,rfl,?_⟩
    have HT1:=Y0 (TS.drawn (HT.out.drew) hd)
    have HF1:=Y0 (((Fr.refl w3.heap.size g w3).drew).trans (drawn_fr hd w3.heap.size g))
    clear hd
    refine hK.out _ _ (HT1.out.par) (fun hHeld=>?_)
    clear hK K
    refine norm_ (a':=?_) ?_ ?_;rotate_left;show Act.put _ (some 10) _=_;simp only [Act.put,Y14,Y15,Y16];rfl
    refine two_ (i:=10) (j:=13) (Ni:=some 16) (Nj:=some 5) #[true,true,true,true,true,true,true,true,true,true,true,false,false,false,false] #[true,true,true,true,true,true,true,true,true,true,false,false,false,true,false] rfl rfl rfl rfl (by kernel_rfl) (by decide) (by decide) (fun K hK=>?_) (fun K hK=>?_)
    ·skip
     refine goes_ Tryz.func88 (by kernel_rfl) rfl #[.pointer (some ⟨g,0,none⟩),.int .i64 0] (by rfl) rfl rfl (by simp only [List.map_toArray,List.map_cons,List.map_nil];rfl) ?_
     with_reducible refine (take_s 0 HT1.out).mono ?_
     rintro e2 W2 ⟨rfl,hs,hf⟩
     refine ⟨_,rfl,?_⟩
     have HT2:=Y0 hs
     have HF2:=Y0 (Fr.trans (HF1.out) (hf.mono HF1.out.size))
     clear hs hf
     refine hK.out _ _ (HT2.out.par) (fun hHeld=>?_)
     clear hK K
     refine norm_ (a':=?_) ?_ ?_;rotate_left;show Act.put _ (some 16) _=_;simp only [Act.put,Y14,Y15,Y16];rfl
     refine pure_ (i:=11) (N:=some 17) (v:=?_) (a':=?_) (sqB 15 4095) rfl rfl (by kernel_rfl) (fun _ _ _ h=>h) (Or.inl ⟨by rfl,?_⟩) ?_ ?_;rotate_left;intro w';go_simp;with_reducible rfl;rotate_left;simp only [Act.put,Y14,Y15,Y16];rfl
     refine pure_ (i:=12) (N:=some 18) (v:=?_) (a':=?_) (sqB 15 8191) rfl rfl (by kernel_rfl) (fun _ _ _ h=>h) (Or.inl ⟨by rfl,?_⟩) ?_ ?_;rotate_left;intro w';go_simp;with_reducible rfl;rotate_left;simp only [Act.put,Y14,Y15,Y16];rfl
     refine one_ (i:=13) (N:=some 5) (sqB 15 16383) rfl rfl (by kernel_rfl) (by decide) (fun K hK=>?_)
     refine value_ (w1:=?_) (v:=?_) (by rfl) rfl ?_ ?_
     rotate_left 2
     ·go_simp
      constructor
      ·rfl
      ·rfl
     refine hK.out _ _ ((pw_cell_below (below_alloc (Below.refl _ _) _) hHeld)) (fun hHeld=>?_)
     clear hK K
     refine norm_ (a':=?_) ?_ ?_;rotate_left;show Act.put _ (some 5) _=_;simp only [Act.put,Y14,Y15,Y16];rfl
     exact norm_ (by simp only [putAll,Act.put,List.setIfInBounds_toArray,List.set_cons_zero,List.set_cons_succ]) (hCont W2.heap.size _ ⟨⟨HT2.out.alloc _⟩,⟨HF2.out.alloc HF2.out.size _⟩,⟨HF2.out.size⟩,⟨blk_new W2 _⟩⟩)
    ·skip
     refine value_ (w1:=?_) (v:=?_) (by rfl) rfl ?_ ?_
     rotate_left 2
     ·go_simp
      constructor
      ·rfl
      ·rfl
     refine hK.out _ _ ((pw_cell_below (below_alloc (Below.refl _ _) _) hHeld)) (fun hHeld=>?_)
     clear hK K
     refine norm_ (a':=?_) ?_ ?_;rotate_left;show Act.put _ (some 5) _=_;simp only [Act.put,Y14,Y15,Y16];rfl
     refine one_ (i:=10) (N:=some 16) (sqB 15 10239) rfl rfl (by kernel_rfl) (by decide) (fun K hK=>?_)
     refine goes_ Tryz.func88 (by kernel_rfl) rfl #[.pointer (some ⟨g,0,none⟩),.int .i64 0] (by rfl) rfl rfl (by simp only [List.map_toArray,List.map_cons,List.map_nil];rfl) ?_
     with_reducible refine (take_s 0 (HT1.out.alloc _)).mono ?_
     rintro e2 W2 ⟨rfl,hs,hf⟩
     refine ⟨_,rfl,?_⟩
     have HX2:=Y0 ((hf.block W1.heap.size (by rw [World.size_alloc];exact Nat.lt_succ_self _) (Nat.ne_of_gt (Nat.lt_of_lt_of_le HT1.out.lens.2.2.2.1 HT1.out.lens.2.1))).trans (blk_new W1 _))
     have HT2:=Y0 hs
     have HF2:=Y0 (Fr.trans (HF1.out.alloc HF1.out.size _) (hf.mono (Nat.le_trans HF1.out.size (by rw [World.size_alloc];exact Nat.le_succ _))))
     clear hs hf
     refine hK.out _ _ (HT2.out.par) (fun hHeld=>?_)
     clear hK K
     refine norm_ (a':=?_) ?_ ?_;rotate_left;show Act.put _ (some 16) _=_;simp only [Act.put,Y14,Y15,Y16];rfl
     refine pure_ (i:=11) (N:=some 17) (v:=?_) (a':=?_) (sqB 15 12287) rfl rfl (by kernel_rfl) (fun _ _ _ h=>h) (Or.inl ⟨by rfl,?_⟩) ?_ ?_;rotate_left;intro w';go_simp;with_reducible rfl;rotate_left;simp only [Act.put,Y14,Y15,Y16];rfl
     refine pure_ (i:=12) (N:=some 18) (v:=?_) (a':=?_) (sqB 15 16383) rfl rfl (by kernel_rfl) (fun _ _ _ h=>h) (Or.inl ⟨by rfl,?_⟩) ?_ ?_;rotate_left;intro w';go_simp;with_reducible rfl;rotate_left;simp only [Act.put,Y14,Y15,Y16];rfl
     exact norm_ (by simp only [putAll,Act.put,List.setIfInBounds_toArray,List.set_cons_zero,List.set_cons_succ]) (hCont W1.heap.size _ ⟨HT2,HF2,⟨HF1.out.size⟩,HX2⟩)
   ·skip
    refine value_ (w1:=?_) (v:=?_) (by rfl) rfl ?_ ?_
    rotate_left 2
    ·go_simp
     constructor
     ·rfl
     ·rfl
    refine hK.out _ _ ((pw_cell_below (below_alloc (Below.refl _ _) _) hHeld)) (fun hHeld=>?_)
    clear hK K
    refine norm_ (a':=?_) ?_ ?_;rotate_left;show Act.put _ (some 5) _=_;simp only [Act.put,Y14,Y15,Y16];rfl
    refine one_ (i:=4) (N:=some 10) (sqB 15 9215) rfl rfl (by kernel_rfl) (by decide) (fun K hK=>?_)
    refine goes_ Tryz.func40 (by kernel_rfl) rfl #[.pointer (some ⟨g,0,none⟩)] (by rfl) rfl rfl (by simp only [List.map_toArray,List.map_cons,List.map_nil];rfl) ?_
    with_reducible refine (at_s (HT.out.alloc _).drew).mono ?_
    rintro e1 W1 ⟨rfl,hd⟩
    refine ⟨_,rfl,?_⟩
    have HT1:=Y0 (TS.drawn ((HT.out.alloc _).drew) hd)
    have HF1:=Y0 ((((Fr.refl w3.heap.size g w3).alloc (Nat.le_refl _) _).drew).trans (drawn_fr hd w3.heap.size g))
    have HX1:=Y0 (show W1.heap[w3.heap.size]?=some (.cells #[.string (⟨#[]⟩:ByteArray),.string (⟨#[]⟩:ByteArray),.bool false,.int .i64 0,.string (⟨#[]⟩:ByteArray),.int .i64 0,.int .i64 0] 36 (0,0)) from by obtain ⟨m,rfl⟩:=hd.out;exact blk_drewN (blk_drew (blk_new _ _)) m)
    clear hd
    refine hK.out _ _ (HT1.out.par) (fun hHeld=>?_)
    clear hK K
    refine norm_ (a':=?_) ?_ ?_;rotate_left;show Act.put _ (some 10) _=_;simp only [Act.put,Y14,Y15,Y16];rfl
    refine one_ (i:=10) (N:=some 16) (sqB 15 10239) rfl rfl (by kernel_rfl) (by decide) (fun K hK=>?_)
    refine goes_ Tryz.func88 (by kernel_rfl) rfl #[.pointer (some ⟨g,0,none⟩),.int .i64 0] (by rfl) rfl rfl (by simp only [List.map_toArray,List.map_cons,List.map_nil];rfl) ?_
    with_reducible refine (take_s 0 HT1.out).mono ?_
    rintro e2 W2 ⟨rfl,hs,hf⟩
    refine ⟨_,rfl,?_⟩
    have HX2:=Y0 ((hf.block w3.heap.size (blk_lt HX1.out) NEG.out).trans HX1.out)
    have HT2:=Y0 hs
    have HF2:=Y0 (Fr.trans (HF1.out) (hf.mono HF1.out.size))
    clear hs hf
    refine hK.out _ _ (HT2.out.par) (fun hHeld=>?_)
    clear hK K
    refine norm_ (a':=?_) ?_ ?_;rotate_left;show Act.put _ (some 16) _=_;simp only [Act.put,Y14,Y15,Y16];rfl
    refine pure_ (i:=11) (N:=some 17) (v:=?_) (a':=?_) (sqB 15 12287) rfl rfl (by kernel_rfl) (fun _ _ _ h=>h) (Or.inl ⟨by rfl,?_⟩) ?_ ?_;rotate_left;intro w';go_simp;with_reducible rfl;rotate_left;simp only [Act.put,Y14,Y15,Y16];rfl
    refine pure_ (i:=12) (N:=some 18) (v:=?_) (a':=?_) (sqB 15 16383) rfl rfl (by kernel_rfl) (fun _ _ _ h=>h) (Or.inl ⟨by rfl,?_⟩) ?_ ?_;rotate_left;intro w';go_simp;with_reducible rfl;rotate_left;simp only [Act.put,Y14,Y15,Y16];rfl
    exact norm_ (by simp only [putAll,Act.put,List.setIfInBounds_toArray,List.set_cons_zero,List.set_cons_succ]) (hCont w3.heap.size _ ⟨HT2,HF2,⟨Nat.le_refl _⟩,HX2⟩)
  rintro fb w' ⟨HT2,HF2,HGE,HX2⟩
  have hHeld:=HT2.out.par
  have y0:=(blk_cell HX2.out 0).trans rfl
  have y1:=(blk_cell HX2.out 1).trans rfl
  have y2:=(blk_cell HX2.out 2).trans rfl
  have y3:=(blk_cell HX2.out 3).trans rfl
  have y4:=(blk_cell HX2.out 4).trans rfl
  have y5:=(blk_cell HX2.out 5).trans rfl
  have y6:=(blk_cell HX2.out 6).trans rfl
  have x0:=blk_frozen HX2.out 0
  have x1:=blk_frozen HX2.out 1
  have x2:=blk_frozen HX2.out 2
  have x3:=blk_frozen HX2.out 3
  have x4:=blk_frozen HX2.out 4
  have x5:=blk_frozen HX2.out 5
  have x6:=blk_frozen HX2.out 6
  refine norm_ (a':=?_) ?_ ?_
  rotate_left
  ·simp only [putAll,Act.put,List.setIfInBounds_toArray,List.set_cons_zero,List.set_cons_succ]
   rfl
  refine last_ (i:=14) (N:=none) (sqB 15 32767) rfl rfl (by kernel_rfl) (by decide) (fun K hK=>?_)
  refine skip_ (w1:=?_) (by rfl) rfl ?_ ?_
  rotate_left
  ·go_simp
   rfl
  refine hK.out _ _ ?_
  clear hK K
  refine done_ (by kernel_rfl) ?_
  go_wp2_with fail
  go_meet
  exact ⟨fb,rfl,⟨box_put7 HX2.out _ _ _ _ _ _ _⟩,⟨TS.far7 HT2.out (Nat.le_trans HT.out.lens.2.1 HGE.out) _ _ _ _ _ _ _⟩,⟨Fr.far7 HF2.out HGE.out _ _ _ _ _ _ _⟩,HGE⟩
 case rest =>
  obtain ⟨fb,rfl,HX,HT2,HF2,HGE⟩:=hcut
  have HN:=Y0 (named_s HT2.out)
  have HXN:=Y0 (show fb≠g from by have:=HT.out.lens;have:=HGE.out;omega)
  clear hc
  go_wp2_with fail
  go_at_call 92
  refine HN.out.mono ?_
  rintro e1 W4 ⟨rfl,h1,f1⟩
  have hx:=(f1.block fb (blk_lt HX.out) HXN.out).trans HX.out
  have hk:=(f1.block gb (Nat.lt_of_lt_of_le GL.out HF2.out.size) (show gb≠g from by have:=HT.out.lens;have:=GW.out;have:=HL.out;omega)).trans ((HF2.out.block gb GL.out (show gb≠g from by have:=HT.out.lens;have:=GW.out;have:=HL.out;omega)).trans BK.out)
  have HNE:=Y0 (show gb≠fb from by have:=GL.out;have:=HGE.out;omega)
  have HX4:=Y0 hx
  have HK4:=Y0 hk
  have HT4:=Y0 h1
  have HF4:=Y0 ((HF.out.trans (HF2.out.mono HF.out.size)).trans (f1.mono (Nat.le_trans HF.out.size HF2.out.size)))
  have hne:=HNE.out
  have hne':=HNE.out.symm
  have y0:_=some (Value.string _):=(blk_cell hx 0).trans rfl
  have x0:=blk_frozen hx 0
  have z0:_=some (Value.string _):=(blk_cell hk 0).trans rfl
  have w0_:=blk_frozen hk 0
  have y1:_=some (Value.string _):=(blk_cell hx 1).trans rfl
  have x1:=blk_frozen hx 1
  have z1:_=some (Value.string _):=(blk_cell hk 1).trans rfl
  have w1_:=blk_frozen hk 1
  have y2:_=some (Value.bool _):=(blk_cell hx 2).trans rfl
  have x2:=blk_frozen hx 2
  have z2:_=some (Value.bool _):=(blk_cell hk 2).trans rfl
  have w2_:=blk_frozen hk 2
  have y3:_=some (Value.int .i64 _):=(blk_cell hx 3).trans rfl
  have x3:=blk_frozen hx 3
  have z3:_=some (Value.int .i64 _):=(blk_cell hk 3).trans rfl
  have w3_:=blk_frozen hk 3
  have y4:_=some (Value.string _):=(blk_cell hx 4).trans rfl
  have x4:=blk_frozen hx 4
  have z4:_=some (Value.string _):=(blk_cell hk 4).trans rfl
  have w4_:=blk_frozen hk 4
  have y5:_=some (Value.int .i64 _):=(blk_cell hx 5).trans rfl
  have x5:=blk_frozen hx 5
  have z5:_=some (Value.int .i64 _):=(blk_cell hk 5).trans rfl
  have w5_:=blk_frozen hk 5
  have y6:_=some (Value.int .i64 _):=(blk_cell hx 6).trans rfl
  have x6:=blk_frozen hx 6
  have z6:_=some (Value.int .i64 _):=(blk_cell hk 6).trans rfl
  have w6_:=blk_frozen hk 6
  clear h1 f1 hx hk
  go_wp2
  have HG4:=Y0 (Nat.le_trans GW.out (Nat.le_of_lt (Nat.lt_of_lt_of_le GL.out HGE.out)))
  exact fld_fin HT4.out HF4.out HK4.out HX4.out GW.out HG4.out HL.out HNE.out rfl
set_option maxHeartbeats 2000000 in
set_option maxRecDepth 100000 in
theorem plain_s {B p g h:Nat} {W:World} {l:TL} {e:Int} {s:PS} {nm:ByteArray} {m:MAcc} {a:Int} {vF vO vR:Value} (H:TS B W p g l e s) (HM:MB B W h nm m a vF vO vR) (hl:fewM m):Calls Tryz.prog 132 #[.pointer (some ⟨p,0,none⟩),.pointer (some ⟨h,0,none⟩)] W (ItemP B W p g h l e nm (pPlain m e s).1 a (pPlain m e s).2):=by
 have HT:=Y0 H
 have HL:=Y0 H.lens.2.1
 have HG0:=Y0 H.lens.2.2.2.1
 have HLEN:=Y0 hl
 obtain ⟨AF,cF,rfl⟩:=Kd.R_slice HM.rF
 have hc1:W.cell? ⟨h,1,none⟩=some (.slice AF m.1.length cF):=(blk_cell HM.blk 1).trans rfl
 have HM:=Y0 HM
 clear H hl
 unfold pPlain
 go_enter Tryz.func132,Tryz.ntmps132
 refine start_ (n:=12) (S:=fun w'=>w'.cell? ⟨h,1,none⟩=some (.slice AF m.1.length cF)) (ds:=[11]) #[false,false,false,false,false,false,false,false,false,false,false,false] (by kernel_rfl) rfl rfl (hc1) (fun hHeld=>?_)
 refine pure_ (i:=0) (N:=some 4) (v:=?_) (a':=?_) (sqB 12 1) rfl rfl (by kernel_rfl) (fun _ _ _ h=>h) (Or.inl ⟨by rfl,?_⟩) ?_ ?_;rotate_left;intro w';go_simp;with_reducible rfl;rotate_left;simp only [Act.put,Y14,Y15,Y16];rfl
 refine pure_ (i:=1) (N:=some 5) (v:=?_) (a':=?_) (sqB 12 3) rfl rfl (by kernel_rfl) (fun _ _ _ h=>h) (Or.inl ⟨by rfl,?_⟩) ?_ ?_;rotate_left;intro w';go_simp;with_reducible rfl;rotate_left;simp only [Act.put,Y14,Y15,Y16];rfl
 refine pure_ (i:=2) (N:=some 6) (v:=?_) (a':=?_) (sqB 12 7) rfl rfl (by kernel_rfl) (fun _ _ _ h=>h) (Or.inl ⟨by rfl,?_⟩) ?_ ?_;rotate_left;intro w';go_simp;with_reducible rfl;rotate_left;simp only [Act.put,Y14,Y15,Y16];rfl
 refine pure_ (i:=3) (N:=some 7) (v:=?_) (a':=?_) (sqB 12 15) rfl rfl (by kernel_rfl) (fun _ _ _ h=>h) (Or.inl ⟨by rfl,?_⟩) ?_ ?_;rotate_left;intro w';go_simp;with_reducible rfl;rotate_left;simp only [Act.put,Y14,Y15,Y16];rfl
 refine pure_ (i:=5) (N:=some 9) (v:=?_) (a':=?_) (sqB 12 47) rfl rfl (by kernel_rfl) (fun _ _ _ h=>h) (Or.inl ⟨by rfl,?_⟩) ?_ ?_;rotate_left;intro w';go_simp;with_reducible rfl;rotate_left;simp only [Act.put,Y14,Y15,Y16];rfl
 refine take_ (i:=4) (N:=some 8) (v:=?_) (a':=?_) (sqB 12 63) rfl rfl (by kernel_rfl) (fun _ _ _ h=>h) (Or.inl ⟨by rfl,?_⟩) hHeld ?_ ?_;rotate_left;intro w' s0;go_simp;with_reducible rfl;rotate_left;simp only [Act.put,Y14,Y15,Y16];rfl
 refine one_ (i:=6) (N:=some 10) (sqB 12 127) rfl rfl (by kernel_rfl) (by decide) (fun K hK=>?_)
 refine goes_ Tryz.func153 (by kernel_rfl) rfl #[.pointer (some ⟨p,0,none⟩),.int .i64 0] (by rfl) rfl rfl (by simp only [List.map_toArray,List.map_cons,List.map_nil];rfl) ?_
 with_reducible refine (field_s 0 (HT.out.drew)).mono ?_
 rintro e1 W1 ⟨rfl,h1,f1⟩
 refine ⟨_,rfl,?_⟩
 have HT1:=Y0 h1
 have HM1:=Y0 ((HM.out.below (Below.refl _ W).drew).keep f1 HG0.out)
 have HF1:=Y0 (((Fr.refl B g W).drew).trans (f1.mono HL.out))
 have HS1:=Y0 (Nat.le_trans HL.out f1.size)
 clear h1 f1
 refine hK.out _ _ (((blk_cell HM1.out.blk 1).trans rfl)) (fun hHeld=>?_)
 clear hK K
 refine norm_ (a':=?_) ?_ ?_;rotate_left;show Act.put _ (some 10) _=_;simp only [Act.put,Y14,Y15,Y16];rfl
 refine one_ (i:=7) (N:=some 11) (sqB 12 255) rfl rfl (by kernel_rfl) (by decide) (fun K hK=>?_)
 refine value_ (w1:=?_) (v:=?_) (by rfl) rfl ?_ ?_
 rotate_left 2
 ·go_simp
  constructor
  ·rfl
  ·rfl
 refine hK.out _ _ ((pw_cell_below (below_alloc (Below.refl _ _) _) hHeld)) (fun hHeld=>?_)
 clear hK K
 refine norm_ (a':=?_) ?_ ?_;rotate_left;show Act.put _ (some 11) _=_;simp only [Act.put,Y14,Y15,Y16];rfl
 refine one_ (i:=8) (N:=some 12) (sqB 12 511) rfl rfl (by kernel_rfl) (by decide) (fun K hK=>?_)
 refine Kd.R_append_step k36 (w0:=W1) B (by rfl) (.tmp 8) (.tmp 11) 30 36 (.agg #[(.string ⟨#[]⟩),(.string ⟨#[]⟩),(.bool false),(.int .i64 0),(.string ⟨#[]⟩),(.int .i64 0),(.int .i64 0)]) 80 rfl Tryz.underlying30 info36 rfl (by decide) (by decide) _ m.1 (pField e 0 s).1 [.string (pField e 0 s).1.f0,.string (pField e 0 s).1.f1,.bool (pField e 0 s).1.f2,.int .i64 (pField e 0 s).1.f3,.string (pField e 0 s).1.f4,.int .i64 (pField e 0 s).1.f5,.int .i64 (pField e 0 s).1.f6] (fun _=>True) (fun _=>False) rfl rfl (k36_mkM _ _ _ _) (fun _ hk=>hk.elim) (fun _ _=>trivial) HM1.out.rF (Below.refl _ _) HS1.out (by have:=HLEN.out.1;omega) ?_
 intro v1 w1 hR1 _ hg1 _
 obtain ⟨A1,c1,hv1⟩:=Kd.R_slice hR1
 have hv2:v1 = .slice A1 (m.1.length + 1) c1:=by rw [hv1,List.length_append];rfl
 clear hv1
 subst hv2
 have HR1:=Y0 hR1
 have HG1:=Y0 hg1
 clear hR1 hg1
 have hf1:=blk_frozen (blk_grow HM1.out.rF HM1.out.blk (by decide) HG1.out) 1
 refine hK.out _ _ (((blk_cell (blk_grow HM1.out.rF HM1.out.blk (by decide) HG1.out) 1).trans rfl)) (fun hHeld=>?_)
 clear hK K
 refine norm_ (a':=?_) ?_ ?_;rotate_left;show Act.put _ (some 12) _=_;simp only [Act.put,Y14,Y15,Y16];rfl
 refine pure_ (i:=9) (N:=some 13) (v:=?_) (a':=?_) (sqB 12 1023) rfl rfl (by kernel_rfl) (fun _ _ _ h=>h) (Or.inl ⟨by rfl,?_⟩) ?_ ?_;rotate_left;intro w';go_simp;with_reducible rfl;rotate_left;simp only [Act.put,Y14,Y15,Y16];rfl
 refine pure_ (i:=10) (N:=some 14) (v:=?_) (a':=?_) (sqB 12 2047) rfl rfl (by kernel_rfl) (fun _ _ _ h=>h) (Or.inl ⟨by rfl,?_⟩) ?_ ?_;rotate_left;intro w';go_simp;with_reducible rfl;rotate_left;simp only [Act.put,Y14,Y15,Y16];rfl
 refine last_ (i:=11) (N:=none) (sqB 12 4095) rfl rfl (by kernel_rfl) (by decide) (fun K hK=>?_)
 refine skip_ (w1:=?_) (by rfl) rfl ?_ ?_
 rotate_left
 ·go_simp
  rfl
 refine hK.out _ _ ?_
 clear hK K
 refine done_ (by kernel_rfl) ?_
 go_wp2_with fail
 go_end0
 refine ⟨rfl,?_,⟨_,_,_,HM1.out.appF HR1.out HG1.out⟩,?_⟩
 ·exact (HT1.out.other (grown_below HM1.out.rF HG1.out HS1.out)).far (q:=⟨h,1,none⟩) HM.out.ge _
 ·exact (HF1.out.trans (Fr.of_below (grown_below HM1.out.rF HG1.out HS1.out))).far (p:=⟨h,1,none⟩) HM.out.ge _
set_option maxHeartbeats 2000000 in
set_option maxRecDepth 100000 in
theorem rep_s {B p g h:Nat} {W:World} {l:TL} {e:Int} {s:PS} {nm:ByteArray} {m:MAcc} {a:Int} {vF vO vR:Value} (H:TS B W p g l e s) (HM:MB B W h nm m a vF vO vR) (hl:fewM m):Calls Tryz.prog 128 #[.pointer (some ⟨p,0,none⟩),.pointer (some ⟨h,0,none⟩)] W (ItemP B W p g h l e nm (pRep m e s).1 a (pRep m e s).2):=by
 have HT:=Y0 H
 have HL:=Y0 H.lens.2.1
 have HG0:=Y0 H.lens.2.2.2.1
 have HLEN:=Y0 hl
 obtain ⟨AF,cF,rfl⟩:=Kd.R_slice HM.rF
 have HM:=Y0 HM
 have hc:=H.par
 clear H hl
 unfold pRep
 have q1:=tok_f1
 have q2:=tok_f2
 go_enter Tryz.func128,Tryz.ntmps128
 go_wp2_with fail
 go_at_call 40
 refine (at_s HT.out).mono ?_
 rintro en_ W1 ⟨rfl,hd⟩
 have n1_:=Y0 (HT.out.drawn hd)
 have HF:=Y0 (drawn_fr hd W.heap.size g)
 clear HT hc hd
 have HT:=n1_
 have hc:=HT.out.par
 clear n1_
 go_wp2_with fail
 go_at_call 88
 refine (take_s 0 HT.out).mono ?_
 rintro en_ W2 ⟨rfl,h1,f1⟩
 have n1_:=Y0 h1
 have n2_:=Y0 (HF.out.trans (f1.mono HF.out.size))
 clear hc HT HF
 have hc:=h1.par
 have HT:=n1_
 have HF:=n2_
 clear h1 f1 n1_ n2_
 go_wp2_with fail
 go_at_call 153
 refine (field_s 0 HT.out).mono ?_
 rintro en_ W3 ⟨rfl,h1,f1⟩
 have n1_:=Y0 h1
 have n2_:=Y0 (HF.out.trans (f1.mono HF.out.size))
 clear hc HT HF
 have hc:=h1.par
 have HT:=n1_
 have HF:=n2_
 clear h1 f1 n1_ n2_
 go_wp2_with fail
 have n1_:=Y0 (HT.out.alloc (.cells #[.string (pField e 0 (pTake 0 s).2).1.f0,.string (pField e 0 (pTake 0 s).2).1.f1,.bool true,.int .i64 (pField e 0 (pTake 0 s).2).1.f3,.string (pField e 0 (pTake 0 s).2).1.f4,.int .i64 (pField e 0 (pTake 0 s).2).1.f5,.int .i64 (pAt e s)] 36 (0,0)))
 have n2_:=Y0 (HF.out.alloc HF.out.size (.cells #[.string (pField e 0 (pTake 0 s).2).1.f0,.string (pField e 0 (pTake 0 s).2).1.f1,.bool true,.int .i64 (pField e 0 (pTake 0 s).2).1.f3,.string (pField e 0 (pTake 0 s).2).1.f4,.int .i64 (pField e 0 (pTake 0 s).2).1.f5,.int .i64 (pAt e s)] 36 (0,0)))
 have n3_:=Y0 (blk_new W3 (.cells #[.string (pField e 0 (pTake 0 s).2).1.f0,.string (pField e 0 (pTake 0 s).2).1.f1,.bool true,.int .i64 (pField e 0 (pTake 0 s).2).1.f3,.string (pField e 0 (pTake 0 s).2).1.f4,.int .i64 (pField e 0 (pTake 0 s).2).1.f5,.int .i64 (pAt e s)] 36 (0,0)))
 have HXW:=Y0 HF.out.size
 have HBX:=Y0 HT.out.lens.2.1
 have HXN:Aside0 (W3.heap.size≠g):=⟨by have:=HT.out.lens;omega⟩
 clear HT HF hc
 generalize W3.alloc (.cells #[.string (pField e 0 (pTake 0 s).2).1.f0,.string (pField e 0 (pTake 0 s).2).1.f1,.bool true,.int .i64 (pField e 0 (pTake 0 s).2).1.f3,.string (pField e 0 (pTake 0 s).2).1.f4,.int .i64 (pField e 0 (pTake 0 s).2).1.f5,.int .i64 (pAt e s)] 36 (0,0))=W9 at *
 obtain ⟨fb,hfb⟩:∃ fb,W3.heap.size=fb:=⟨_,rfl⟩
 rw [hfb] at HXW HBX HXN n3_ ⊢
 clear hfb
 have HT:=n1_
 have HF:=n2_
 have HX:=n3_
 have hc:=HT.out.par
 clear n1_ n2_ n3_
 have hb9:=HX.out
 have y0:W9.cell? ⟨fb,0,none⟩=some (.string (pField e 0 (pTake 0 s).2).1.f0):=(blk_cell hb9 0).trans rfl
 have y1:W9.cell? ⟨fb,1,none⟩=some (.string (pField e 0 (pTake 0 s).2).1.f1):=(blk_cell hb9 1).trans rfl
 have y2:W9.cell? ⟨fb,2,none⟩=some (.bool true):=(blk_cell hb9 2).trans rfl
 have y3:W9.cell? ⟨fb,3,none⟩=some (.int .i64 (pField e 0 (pTake 0 s).2).1.f3):=(blk_cell hb9 3).trans rfl
 have y4:W9.cell? ⟨fb,4,none⟩=some (.string (pField e 0 (pTake 0 s).2).1.f4):=(blk_cell hb9 4).trans rfl
 have y5:W9.cell? ⟨fb,5,none⟩=some (.int .i64 (pField e 0 (pTake 0 s).2).1.f5):=(blk_cell hb9 5).trans rfl
 have y6:W9.cell? ⟨fb,6,none⟩=some (.int .i64 (pAt e s)):=(blk_cell hb9 6).trans rfl
 clear hb9 HX
 have n1_:=Y0 HT.out.drew
 have n2_:=Y0 HF.out.drew
 clear HT HF hc
 have HT:=n1_
 have HF:=n2_
 clear n1_ n2_
 have HM1:=Y0 (HM.out.keep HF.out HG0.out)
 have HS1:=Y0 (Nat.le_trans HL.out HF.out.size)
 have hc1:W9.cell? ⟨h,1,none⟩=some (.slice AF m.1.length cF):=(blk_cell HM1.out.blk 1).trans rfl
 refine start_ (n:=11) (S:=fun w'=>w'.cell? ⟨h,1,none⟩=some (.slice AF m.1.length cF)∧w'.cell? ⟨fb,0,none⟩=some (.string (pField e 0 (pTake 0 s).2).1.f0)∧w'.cell? ⟨fb,1,none⟩=some (.string (pField e 0 (pTake 0 s).2).1.f1)∧w'.cell? ⟨fb,2,none⟩=some (.bool true)∧w'.cell? ⟨fb,3,none⟩=some (.int .i64 (pField e 0 (pTake 0 s).2).1.f3)∧w'.cell? ⟨fb,4,none⟩=some (.string (pField e 0 (pTake 0 s).2).1.f4)∧w'.cell? ⟨fb,5,none⟩=some (.int .i64 (pField e 0 (pTake 0 s).2).1.f5)∧w'.cell? ⟨fb,6,none⟩=some (.int .i64 (pAt e s))) (ds:=[7,10]) #[false,false,false,false,false,false,false,false,false,false,false] (by kernel_rfl) rfl rfl ⟨hc1,y0,y1,y2,y3,y4,y5,y6⟩ (fun hHeld=>?_)
 generalize W9.drew=WD at *
 refine pure_ (i:=0) (N:=some 21) (v:=?_) (a':=?_) (sqB 11 1) rfl rfl (by kernel_rfl) (fun _ _ _ h=>h) (Or.inl ⟨by rfl,?_⟩) ?_ ?_;rotate_left;intro w';go_simp;with_reducible rfl;rotate_left;simp only [Act.put,Y14,Y15,Y16];rfl
 refine pure_ (i:=1) (N:=some 22) (v:=?_) (a':=?_) (sqB 11 3) rfl rfl (by kernel_rfl) (fun _ _ _ h=>h) (Or.inl ⟨by rfl,?_⟩) ?_ ?_;rotate_left;intro w';go_simp;with_reducible rfl;rotate_left;simp only [Act.put,Y14,Y15,Y16];rfl
 refine pure_ (i:=2) (N:=some 23) (v:=?_) (a':=?_) (sqB 11 7) rfl rfl (by kernel_rfl) (fun _ _ _ h=>h) (Or.inl ⟨by rfl,?_⟩) ?_ ?_;rotate_left;intro w';go_simp;with_reducible rfl;rotate_left;simp only [Act.put,Y14,Y15,Y16];rfl
 refine pure_ (i:=3) (N:=some 24) (v:=?_) (a':=?_) (sqB 11 15) rfl rfl (by kernel_rfl) (fun _ _ _ h=>h) (Or.inl ⟨by rfl,?_⟩) ?_ ?_;rotate_left;intro w';go_simp;with_reducible rfl;rotate_left;simp only [Act.put,Y14,Y15,Y16];rfl
 refine take_ (i:=4) (N:=some 25) (v:=?_) (a':=?_) (sqB 11 31) rfl rfl (by kernel_rfl) (fun _ _ _ h=>h) (Or.inl ⟨by rfl,?_⟩) hHeld ?_ ?_;rotate_left;rintro w' ⟨s0,s1,s2,s3,s4,s5,s6,s7⟩;go_simp;with_reducible rfl;rotate_left;simp only [Act.put,Y14,Y15,Y16];rfl
 refine take_ (i:=5) (N:=some 26) (v:=?_) (a':=?_) (sqB 11 63) rfl rfl (by kernel_rfl) (fun _ _ _ h=>h) (Or.inl ⟨by rfl,?_⟩) hHeld ?_ ?_;rotate_left;rintro w' ⟨s0,s1,s2,s3,s4,s5,s6,s7⟩;go_simp;with_reducible rfl;rotate_left;simp only [Act.put,Y14,Y15,Y16];rfl
 refine one_ (i:=6) (N:=some 27) (sqB 11 127) rfl rfl (by kernel_rfl) (by decide) (fun K hK=>?_)
 refine value_ (w1:=?_) (v:=?_) (by rfl) rfl ?_ ?_
 rotate_left 2
 ·go_simp
  constructor
  ·rfl
  ·rfl
 refine hK.out _ _ ⟨(pw_cell_below (below_alloc (Below.refl _ _) _) hHeld.1),(pw_cell_below (below_alloc (Below.refl _ _) _) hHeld.2.1),(pw_cell_below (below_alloc (Below.refl _ _) _) hHeld.2.2.1),(pw_cell_below (below_alloc (Below.refl _ _) _) hHeld.2.2.2.1),(pw_cell_below (below_alloc (Below.refl _ _) _) hHeld.2.2.2.2.1),(pw_cell_below (below_alloc (Below.refl _ _) _) hHeld.2.2.2.2.2.1),(pw_cell_below (below_alloc (Below.refl _ _) _) hHeld.2.2.2.2.2.2.1),(pw_cell_below (below_alloc (Below.refl _ _) _) hHeld.2.2.2.2.2.2.2)⟩ (fun hHeld=>?_)
 clear hK K
 refine norm_ (a':=?_) ?_ ?_;rotate_left;show Act.put _ (some 27) _=_;simp only [Act.put,Y14,Y15,Y16];rfl
 refine last_ (i:=7) (N:=some 28) (sqB 11 255) rfl rfl (by kernel_rfl) (by decide) (fun K hK=>?_)
 refine Kd.R_append_step k36 (w0:=WD) B (by rfl) (.tmp 25) (.tmp 27) 30 36 (.agg #[(.string ⟨#[]⟩),(.string ⟨#[]⟩),(.bool false),(.int .i64 0),(.string ⟨#[]⟩),(.int .i64 0),(.int .i64 0)]) 80 rfl Tryz.underlying30 info36 rfl (by decide) (by decide) _ m.1 (repF (pField e 0 (pTake 0 s).2).1 (pAt e s)) [.string (pField e 0 (pTake 0 s).2).1.f0,.string (pField e 0 (pTake 0 s).2).1.f1,.bool true,.int .i64 (pField e 0 (pTake 0 s).2).1.f3,.string (pField e 0 (pTake 0 s).2).1.f4,.int .i64 (pField e 0 (pTake 0 s).2).1.f5,.int .i64 (pAt e s)] (fun _=>True) (fun _=>False) rfl rfl (k36_mkM _ _ _ ((repF (pField e 0 (pTake 0 s).2).1 (pAt e s)))) (fun _ hk=>hk.elim) (fun _ _=>trivial) HM1.out.rF (Below.refl _ _) HS1.out (by have:=HLEN.out.1;omega) ?_
 intro v1 w1 hR1 _ hg1 _
 obtain ⟨A1,c1,hv1⟩:=Kd.R_slice hR1
 have hv2:v1 = .slice A1 (m.1.length + 1) c1:=by rw [hv1,List.length_append];rfl
 clear hv1
 subst hv2
 have HR1:=Y0 hR1
 have HG1:=Y0 hg1
 clear hR1 hg1
 have hf1:=blk_frozen (blk_grow HM1.out.rF HM1.out.blk (by decide) HG1.out) 1
 have hk1:=(blk_cell (blk_grow HM1.out.rF HM1.out.blk (by decide) HG1.out) 1).trans rfl
 refine hK.out _ _ ?_
 clear hK K
 refine norm_ (a':=?_) ?_ ?_;rotate_left;show Act.put _ (some 28) _=_;simp only [Act.put,Y14,Y15,Y16];rfl
 refine pure_ (i:=8) (N:=some 29) (v:=?_) (a':=?_) (sqB 11 511) rfl rfl (by kernel_rfl) (fun _ _ _ h=>h) (Or.inl ⟨by rfl,?_⟩) ?_ ?_;rotate_left;intro w';go_simp;with_reducible rfl;rotate_left;simp only [Act.put,Y14,Y15,Y16];rfl
 refine pure_ (i:=9) (N:=some 30) (v:=?_) (a':=?_) (sqB 11 1023) rfl rfl (by kernel_rfl) (fun _ _ _ h=>h) (Or.inl ⟨by rfl,?_⟩) ?_ ?_;rotate_left;intro w';go_simp;with_reducible rfl;rotate_left;simp only [Act.put,Y14,Y15,Y16];rfl
 refine last_ (i:=10) (N:=none) (sqB 11 2047) rfl rfl (by kernel_rfl) (by decide) (fun K hK=>?_)
 refine skip_ (w1:=?_) (by rfl) rfl ?_ ?_
 rotate_left
 ·go_simp
  rfl
 refine hK.out _ _ ?_
 clear hK K
 refine done_ (by kernel_rfl) ?_
 go_wp2_with fail
 go_end0
 refine ⟨rfl,?_,⟨_,_,_,HM1.out.appF HR1.out HG1.out⟩,?_⟩
 ·exact (HT.out.other (grown_below HM1.out.rF HG1.out HS1.out)).far (q:=⟨h,1,none⟩) HM.out.ge _
 ·exact ((HF.out.mono HL.out).trans (Fr.of_below (grown_below HM1.out.rF HG1.out HS1.out))).far (p:=⟨h,1,none⟩) HM.out.ge _
set_option maxHeartbeats 2000000 in
set_option maxRecDepth 100000 in
theorem map_s {B p g h:Nat} {W:World} {l:TL} {e:Int} {s:PS} {nm:ByteArray} {m:MAcc} {a:Int} {vF vO vR:Value} (H:TS B W p g l e s) (HM:MB B W h nm m a vF vO vR) (hl:fewM m):Calls Tryz.prog 131 #[.pointer (some ⟨p,0,none⟩),.pointer (some ⟨h,0,none⟩)] W (ItemP B W p g h l e nm (pMap m e s).1 a (pMap m e s).2):=by
 have HT:=Y0 H
 have HL:=Y0 H.lens.2.1
 have HG0:=Y0 H.lens.2.2.2.1
 have HLEN:=Y0 hl
 obtain ⟨AF,cF,rfl⟩:=Kd.R_slice HM.rF
 have HM:=Y0 HM
 have hc:=H.par
 clear H hl
 unfold pMap
 have q1:=tok_f1
 have q2:=tok_f2
 unfold pMapT
 go_enter Tryz.func131,Tryz.ntmps131
 go_wp2_with fail
 go_at_call 40
 refine (at_s HT.out).mono ?_
 rintro en_ W1 ⟨rfl,hd⟩
 have n1_:=Y0 (HT.out.drawn hd)
 have HF:=Y0 (drawn_fr hd W.heap.size g)
 clear HT hc hd
 have HT:=n1_
 have hc:=HT.out.par
 clear n1_
 have hcA:∀ o,(W1.alloc o).cell? ⟨p,0,none⟩=some (.pointer (some ⟨g,0,none⟩)):=fun o=>pw_cell_below (below_alloc (Below.refl _ W1) o) hc
 go_wp2_with fail
 clear hcA
 have n1_:=Y0 (HT.out.alloc (.cells #[.string (⟨#[]⟩:ByteArray),.string (⟨#[]⟩:ByteArray),.bool false,.int .i64 0,.string (⟨#[]⟩:ByteArray),.int .i64 0,.int .i64 (pAt e s)] 36 (0,0)))
 have n2_:=Y0 (HF.out.alloc HF.out.size (.cells #[.string (⟨#[]⟩:ByteArray),.string (⟨#[]⟩:ByteArray),.bool false,.int .i64 0,.string (⟨#[]⟩:ByteArray),.int .i64 0,.int .i64 (pAt e s)] 36 (0,0)))
 have n3_:=Y0 (blk_new W1 (.cells #[.string (⟨#[]⟩:ByteArray),.string (⟨#[]⟩:ByteArray),.bool false,.int .i64 0,.string (⟨#[]⟩:ByteArray),.int .i64 0,.int .i64 (pAt e s)] 36 (0,0)))
 have HXW:=Y0 HF.out.size
 have HBX:=Y0 HT.out.lens.2.1
 have HXN:Aside0 (W1.heap.size≠g):=⟨by have:=HT.out.lens;omega⟩
 clear HT HF hc
 generalize W1.alloc (.cells #[.string (⟨#[]⟩:ByteArray),.string (⟨#[]⟩:ByteArray),.bool false,.int .i64 0,.string (⟨#[]⟩:ByteArray),.int .i64 0,.int .i64 (pAt e s)] 36 (0,0))=V0 at *
 obtain ⟨fb,hfb⟩:∃ fb,W1.heap.size=fb:=⟨_,rfl⟩
 rw [hfb] at HXW HBX HXN n3_ ⊢
 clear hfb
 have HT:=n1_
 have HF:=n2_
 have HX:=n3_
 have hc:=HT.out.par
 clear n1_ n2_ n3_
 have hpf:p≠fb:=by have:=HT.out.lens;have:=HBX.out;omega
 have hfp:=Ne.symm hpf
 go_at_call 88
 refine (take_s 0 HT.out).mono ?_
 rintro en_ V1 ⟨rfl,h1,f1⟩
 have n3_:=Y0 ((f1.block fb (blk_lt HX.out) HXN.out).trans HX.out)
 clear HX
 have HX:=n3_
 clear n3_
 have n1_:=Y0 h1
 have n2_:=Y0 (HF.out.trans (f1.mono HF.out.size))
 clear hc HT HF
 have hc:=h1.par
 have HT:=n1_
 have HF:=n2_
 clear h1 f1 n1_ n2_
 go_wp2_with fail
 go_at_call 89
 refine (must_s ⟨#[60]⟩ HT.out).mono ?_
 rintro en_ V2 ⟨rfl,h1,f1⟩
 have n3_:=Y0 ((f1.block fb (blk_lt HX.out) HXN.out).trans HX.out)
 clear HX
 have HX:=n3_
 clear n3_
 have n1_:=Y0 h1
 have n2_:=Y0 (HF.out.trans (f1.mono HF.out.size))
 clear hc HT HF
 have hc:=h1.par
 have HT:=n1_
 have HF:=n2_
 clear h1 f1 n1_ n2_
 go_wp2_with fail
 go_at_call 88
 refine (take_s 0 HT.out).mono ?_
 rintro en_ V3 ⟨rfl,h1,f1⟩
 have n3_:=Y0 ((f1.block fb (blk_lt HX.out) HXN.out).trans HX.out)
 clear HX
 have HX:=n3_
 clear n3_
 have n1_:=Y0 h1
 have n2_:=Y0 (HF.out.trans (f1.mono HF.out.size))
 clear hc HT HF
 have hc:=h1.par
 have HT:=n1_
 have HF:=n2_
 clear h1 f1 n1_ n2_
 have y0:_=some (Value.string _):=(blk_cell HX.out 0).trans rfl
 have y1:_=some (Value.string _):=(blk_cell HX.out 1).trans rfl
 have y2:_=some (Value.bool _):=(blk_cell HX.out 2).trans rfl
 have y3:_=some (Value.int .i64 _):=(blk_cell HX.out 3).trans rfl
 have y4:_=some (Value.string _):=(blk_cell HX.out 4).trans rfl
 have y5:_=some (Value.int .i64 _):=(blk_cell HX.out 5).trans rfl
 have y6:_=some (Value.int .i64 _):=(blk_cell HX.out 6).trans rfl
 have x0:=blk_frozen HX.out 0
 have x1:=blk_frozen HX.out 1
 have x2:=blk_frozen HX.out 2
 have x3:=blk_frozen HX.out 3
 have x4:=blk_frozen HX.out 4
 have x5:=blk_frozen HX.out 5
 have x6:=blk_frozen HX.out 6
 go_wp2_with fail
 clear y0 y1 y2 y3 y4 y5 y6 x0 x1 x2 x3 x4 x5 x6
 have n1_:=Y0 (HT.out.far (q:=⟨fb,1,none⟩) HBX.out (.string (pTake 0 (pMust [60] (pTake 0 s).2)).1.f1))
 have n2_:=Y0 (HF.out.far (p:=⟨fb,1,none⟩) HXW.out (.string (pTake 0 (pMust [60] (pTake 0 s).2)).1.f1))
 have n3_:Aside0 (_=some (Obj.cells #[.string (⟨#[]⟩:ByteArray),.string (pTake 0 (pMust [60] (pTake 0 s).2)).1.f1,.bool false,.int .i64 0,.string (⟨#[]⟩:ByteArray),.int .i64 0,.int .i64 (pAt e s)] 36 (0,0))):=⟨blk_put HX.out 1 (.string (pTake 0 (pMust [60] (pTake 0 s).2)).1.f1) rfl⟩
 clear HT HF HX hc
 generalize V3.setCell ⟨fb,1,none⟩ (.string (pTake 0 (pMust [60] (pTake 0 s).2)).1.f1)=V4 at *
 have HT:=n1_
 have HF:=n2_
 have HX:=n3_
 have hc:=HT.out.par
 clear n1_ n2_ n3_
 go_at_call 89
 refine (must_s ⟨#[44]⟩ HT.out).mono ?_
 rintro en_ V5 ⟨rfl,h1,f1⟩
 have n3_:=Y0 ((f1.block fb (blk_lt HX.out) HXN.out).trans HX.out)
 clear HX
 have HX:=n3_
 clear n3_
 have n1_:=Y0 h1
 have n2_:=Y0 (HF.out.trans (f1.mono HF.out.size))
 clear hc HT HF
 have hc:=h1.par
 have HT:=n1_
 have HF:=n2_
 clear h1 f1 n1_ n2_
 go_wp2_with fail
 go_at_call 88
 refine (take_s 0 HT.out).mono ?_
 rintro en_ V6 ⟨rfl,h1,f1⟩
 have n3_:=Y0 ((f1.block fb (blk_lt HX.out) HXN.out).trans HX.out)
 clear HX
 have HX:=n3_
 clear n3_
 have n1_:=Y0 h1
 have n2_:=Y0 (HF.out.trans (f1.mono HF.out.size))
 clear hc HT HF
 have hc:=h1.par
 have HT:=n1_
 have HF:=n2_
 clear h1 f1 n1_ n2_
 have y0:_=some (Value.string _):=(blk_cell HX.out 0).trans rfl
 have y1:_=some (Value.string _):=(blk_cell HX.out 1).trans rfl
 have y2:_=some (Value.bool _):=(blk_cell HX.out 2).trans rfl
 have y3:_=some (Value.int .i64 _):=(blk_cell HX.out 3).trans rfl
 have y4:_=some (Value.string _):=(blk_cell HX.out 4).trans rfl
 have y5:_=some (Value.int .i64 _):=(blk_cell HX.out 5).trans rfl
 have y6:_=some (Value.int .i64 _):=(blk_cell HX.out 6).trans rfl
 have x0:=blk_frozen HX.out 0
 have x1:=blk_frozen HX.out 1
 have x2:=blk_frozen HX.out 2
 have x3:=blk_frozen HX.out 3
 have x4:=blk_frozen HX.out 4
 have x5:=blk_frozen HX.out 5
 have x6:=blk_frozen HX.out 6
 go_wp2_with fail
 clear y0 y1 y2 y3 y4 y5 y6 x0 x1 x2 x3 x4 x5 x6
 have n1_:=Y0 (HT.out.far (q:=⟨fb,0,none⟩) HBX.out (.string (pTake 0 (pMust [44] (pTake 0 (pMust [60] (pTake 0 s).2)).2)).1.f1))
 have n2_:=Y0 (HF.out.far (p:=⟨fb,0,none⟩) HXW.out (.string (pTake 0 (pMust [44] (pTake 0 (pMust [60] (pTake 0 s).2)).2)).1.f1))
 have n3_:Aside0 (_=some (Obj.cells #[.string (pTake 0 (pMust [44] (pTake 0 (pMust [60] (pTake 0 s).2)).2)).1.f1,.string (pTake 0 (pMust [60] (pTake 0 s).2)).1.f1,.bool false,.int .i64 0,.string (⟨#[]⟩:ByteArray),.int .i64 0,.int .i64 (pAt e s)] 36 (0,0))):=⟨blk_put HX.out 0 (.string (pTake 0 (pMust [44] (pTake 0 (pMust [60] (pTake 0 s).2)).2)).1.f1) rfl⟩
 clear HT HF HX hc
 generalize V6.setCell ⟨fb,0,none⟩ (.string (pTake 0 (pMust [44] (pTake 0 (pMust [60] (pTake 0 s).2)).2)).1.f1)=V7 at *
 have HT:=n1_
 have HF:=n2_
 have HX:=n3_
 have hc:=HT.out.par
 clear n1_ n2_ n3_
 go_at_call 89
 refine (must_s ⟨#[62]⟩ HT.out).mono ?_
 rintro en_ V8 ⟨rfl,h1,f1⟩
 have n3_:=Y0 ((f1.block fb (blk_lt HX.out) HXN.out).trans HX.out)
 clear HX
 have HX:=n3_
 clear n3_
 have n1_:=Y0 h1
 have n2_:=Y0 (HF.out.trans (f1.mono HF.out.size))
 clear hc HT HF
 have hc:=h1.par
 have HT:=n1_
 have HF:=n2_
 clear h1 f1 n1_ n2_
 go_wp2_with fail
 go_at_call 92
 refine (named_s HT.out).mono ?_
 rintro en_ VA ⟨rfl,h1,f1⟩
 have n3_:=Y0 ((f1.block fb (blk_lt HX.out) HXN.out).trans HX.out)
 clear HX
 have HX:=n3_
 clear n3_
 have n1_:=Y0 h1
 have n2_:=Y0 (HF.out.trans (f1.mono HF.out.size))
 clear hc HT HF
 have hc:=h1.par
 have HT:=n1_
 have HF:=n2_
 clear h1 f1 n1_ n2_
 have y0:_=some (Value.string _):=(blk_cell HX.out 0).trans rfl
 have y1:_=some (Value.string _):=(blk_cell HX.out 1).trans rfl
 have y2:_=some (Value.bool _):=(blk_cell HX.out 2).trans rfl
 have y3:_=some (Value.int .i64 _):=(blk_cell HX.out 3).trans rfl
 have y4:_=some (Value.string _):=(blk_cell HX.out 4).trans rfl
 have y5:_=some (Value.int .i64 _):=(blk_cell HX.out 5).trans rfl
 have y6:_=some (Value.int .i64 _):=(blk_cell HX.out 6).trans rfl
 have x0:=blk_frozen HX.out 0
 have x1:=blk_frozen HX.out 1
 have x2:=blk_frozen HX.out 2
 have x3:=blk_frozen HX.out 3
 have x4:=blk_frozen HX.out 4
 have x5:=blk_frozen HX.out 5
 have x6:=blk_frozen HX.out 6
 go_wp2_with fail
 clear y0 y1 y2 y3 y4 y5 y6 x0 x1 x2 x3 x4 x5 x6
 have n1_:=Y0 (HT.out.far (q:=⟨fb,4,none⟩) HBX.out (.string (pNamed (pMust [62] (pTake 0 (pMust [44] (pTake 0 (pMust [60] (pTake 0 s).2)).2)).2)).1.1))
 have n2_:=Y0 (HF.out.far (p:=⟨fb,4,none⟩) HXW.out (.string (pNamed (pMust [62] (pTake 0 (pMust [44] (pTake 0 (pMust [60] (pTake 0 s).2)).2)).2)).1.1))
 have n3_:Aside0 (_=some (Obj.cells #[.string (pTake 0 (pMust [44] (pTake 0 (pMust [60] (pTake 0 s).2)).2)).1.f1,.string (pTake 0 (pMust [60] (pTake 0 s).2)).1.f1,.bool false,.int .i64 0,.string (pNamed (pMust [62] (pTake 0 (pMust [44] (pTake 0 (pMust [60] (pTake 0 s).2)).2)).2)).1.1,.int .i64 0,.int .i64 (pAt e s)] 36 (0,0))):=⟨blk_put HX.out 4 (.string (pNamed (pMust [62] (pTake 0 (pMust [44] (pTake 0 (pMust [60] (pTake 0 s).2)).2)).2)).1.1) rfl⟩
 clear HT HF HX hc
 generalize VA.setCell ⟨fb,4,none⟩ (.string (pNamed (pMust [62] (pTake 0 (pMust [44] (pTake 0 (pMust [60] (pTake 0 s).2)).2)).2)).1.1)=VB at *
 have HT:=n1_
 have HF:=n2_
 have HX:=n3_
 have hc:=HT.out.par
 clear n1_ n2_ n3_
 have n1_:=Y0 (HT.out.far (q:=⟨fb,5,none⟩) HBX.out (.int .i64 (pNamed (pMust [62] (pTake 0 (pMust [44] (pTake 0 (pMust [60] (pTake 0 s).2)).2)).2)).1.2))
 have n2_:=Y0 (HF.out.far (p:=⟨fb,5,none⟩) HXW.out (.int .i64 (pNamed (pMust [62] (pTake 0 (pMust [44] (pTake 0 (pMust [60] (pTake 0 s).2)).2)).2)).1.2))
 have n3_:Aside0 (_=some (Obj.cells #[.string (pTake 0 (pMust [44] (pTake 0 (pMust [60] (pTake 0 s).2)).2)).1.f1,.string (pTake 0 (pMust [60] (pTake 0 s).2)).1.f1,.bool false,.int .i64 0,.string (pNamed (pMust [62] (pTake 0 (pMust [44] (pTake 0 (pMust [60] (pTake 0 s).2)).2)).2)).1.1,.int .i64 (pNamed (pMust [62] (pTake 0 (pMust [44] (pTake 0 (pMust [60] (pTake 0 s).2)).2)).2)).1.2,.int .i64 (pAt e s)] 36 (0,0))):=⟨blk_put HX.out 5 (.int .i64 (pNamed (pMust [62] (pTake 0 (pMust [44] (pTake 0 (pMust [60] (pTake 0 s).2)).2)).2)).1.2) rfl⟩
 clear HT HF HX hc
 generalize VB.setCell ⟨fb,5,none⟩ (.int .i64 (pNamed (pMust [62] (pTake 0 (pMust [44] (pTake 0 (pMust [60] (pTake 0 s).2)).2)).2)).1.2)=W9 at *
 have HT:=n1_
 have HF:=n2_
 have HX:=n3_
 have hc:=HT.out.par
 clear n1_ n2_ n3_
 clear hpf hfp
 have hb9:=HX.out
 have y0:W9.cell? ⟨fb,0,none⟩=some (.string (pTake 0 (pMust [44] (pTake 0 (pMust [60] (pTake 0 s).2)).2)).1.f1):=(blk_cell hb9 0).trans rfl
 have y1:W9.cell? ⟨fb,1,none⟩=some (.string (pTake 0 (pMust [60] (pTake 0 s).2)).1.f1):=(blk_cell hb9 1).trans rfl
 have y2:W9.cell? ⟨fb,2,none⟩=some (.bool false):=(blk_cell hb9 2).trans rfl
 have y3:W9.cell? ⟨fb,3,none⟩=some (.int .i64 0):=(blk_cell hb9 3).trans rfl
 have y4:W9.cell? ⟨fb,4,none⟩=some (.string (pNamed (pMust [62] (pTake 0 (pMust [44] (pTake 0 (pMust [60] (pTake 0 s).2)).2)).2)).1.1):=(blk_cell hb9 4).trans rfl
 have y5:W9.cell? ⟨fb,5,none⟩=some (.int .i64 (pNamed (pMust [62] (pTake 0 (pMust [44] (pTake 0 (pMust [60] (pTake 0 s).2)).2)).2)).1.2):=(blk_cell hb9 5).trans rfl
 have y6:W9.cell? ⟨fb,6,none⟩=some (.int .i64 (pAt e s)):=(blk_cell hb9 6).trans rfl
 clear hb9 HX
 have n1_:=Y0 HT.out.drew
 have n2_:=Y0 HF.out.drew
 clear HT HF hc
 have HT:=n1_
 have HF:=n2_
 clear n1_ n2_
 have HM1:=Y0 (HM.out.keep HF.out HG0.out)
 have HS1:=Y0 (Nat.le_trans HL.out HF.out.size)
 have hc1:W9.cell? ⟨h,1,none⟩=some (.slice AF m.1.length cF):=(blk_cell HM1.out.blk 1).trans rfl
 refine start_ (n:=11) (S:=fun w'=>w'.cell? ⟨h,1,none⟩=some (.slice AF m.1.length cF)∧w'.cell? ⟨fb,0,none⟩=some (.string (pTake 0 (pMust [44] (pTake 0 (pMust [60] (pTake 0 s).2)).2)).1.f1)∧w'.cell? ⟨fb,1,none⟩=some (.string (pTake 0 (pMust [60] (pTake 0 s).2)).1.f1)∧w'.cell? ⟨fb,2,none⟩=some (.bool false)∧w'.cell? ⟨fb,3,none⟩=some (.int .i64 0)∧w'.cell? ⟨fb,4,none⟩=some (.string (pNamed (pMust [62] (pTake 0 (pMust [44] (pTake 0 (pMust [60] (pTake 0 s).2)).2)).2)).1.1)∧w'.cell? ⟨fb,5,none⟩=some (.int .i64 (pNamed (pMust [62] (pTake 0 (pMust [44] (pTake 0 (pMust [60] (pTake 0 s).2)).2)).2)).1.2)∧w'.cell? ⟨fb,6,none⟩=some (.int .i64 (pAt e s))) (ds:=[7,10]) #[false,false,false,false,false,false,false,false,false,false,false] (by kernel_rfl) rfl rfl ⟨hc1,y0,y1,y2,y3,y4,y5,y6⟩ (fun hHeld=>?_)
 generalize W9.drew=WD at *
 refine pure_ (i:=0) (N:=some 52) (v:=?_) (a':=?_) (sqB 11 1) rfl rfl (by kernel_rfl) (fun _ _ _ h=>h) (Or.inl ⟨by rfl,?_⟩) ?_ ?_;rotate_left;intro w';go_simp;with_reducible rfl;rotate_left;simp only [Act.put,Y14,Y15,Y16];rfl
 refine pure_ (i:=1) (N:=some 53) (v:=?_) (a':=?_) (sqB 11 3) rfl rfl (by kernel_rfl) (fun _ _ _ h=>h) (Or.inl ⟨by rfl,?_⟩) ?_ ?_;rotate_left;intro w';go_simp;with_reducible rfl;rotate_left;simp only [Act.put,Y14,Y15,Y16];rfl
 refine pure_ (i:=2) (N:=some 54) (v:=?_) (a':=?_) (sqB 11 7) rfl rfl (by kernel_rfl) (fun _ _ _ h=>h) (Or.inl ⟨by rfl,?_⟩) ?_ ?_;rotate_left;intro w';go_simp;with_reducible rfl;rotate_left;simp only [Act.put,Y14,Y15,Y16];rfl
 refine pure_ (i:=3) (N:=some 55) (v:=?_) (a':=?_) (sqB 11 15) rfl rfl (by kernel_rfl) (fun _ _ _ h=>h) (Or.inl ⟨by rfl,?_⟩) ?_ ?_;rotate_left;intro w';go_simp;with_reducible rfl;rotate_left;simp only [Act.put,Y14,Y15,Y16];rfl
 refine take_ (i:=4) (N:=some 56) (v:=?_) (a':=?_) (sqB 11 31) rfl rfl (by kernel_rfl) (fun _ _ _ h=>h) (Or.inl ⟨by rfl,?_⟩) hHeld ?_ ?_;rotate_left;rintro w' ⟨s0,s1,s2,s3,s4,s5,s6,s7⟩;go_simp;with_reducible rfl;rotate_left;simp only [Act.put,Y14,Y15,Y16];rfl
 refine take_ (i:=5) (N:=some 57) (v:=?_) (a':=?_) (sqB 11 63) rfl rfl (by kernel_rfl) (fun _ _ _ h=>h) (Or.inl ⟨by rfl,?_⟩) hHeld ?_ ?_;rotate_left;rintro w' ⟨s0,s1,s2,s3,s4,s5,s6,s7⟩;go_simp;with_reducible rfl;rotate_left;simp only [Act.put,Y14,Y15,Y16];rfl
 refine one_ (i:=6) (N:=some 58) (sqB 11 127) rfl rfl (by kernel_rfl) (by decide) (fun K hK=>?_)
 refine value_ (w1:=?_) (v:=?_) (by rfl) rfl ?_ ?_
 rotate_left 2
 ·go_simp
  constructor
  ·rfl
  ·rfl
 refine hK.out _ _ ⟨(pw_cell_below (below_alloc (Below.refl _ _) _) hHeld.1),(pw_cell_below (below_alloc (Below.refl _ _) _) hHeld.2.1),(pw_cell_below (below_alloc (Below.refl _ _) _) hHeld.2.2.1),(pw_cell_below (below_alloc (Below.refl _ _) _) hHeld.2.2.2.1),(pw_cell_below (below_alloc (Below.refl _ _) _) hHeld.2.2.2.2.1),(pw_cell_below (below_alloc (Below.refl _ _) _) hHeld.2.2.2.2.2.1),(pw_cell_below (below_alloc (Below.refl _ _) _) hHeld.2.2.2.2.2.2.1),(pw_cell_below (below_alloc (Below.refl _ _) _) hHeld.2.2.2.2.2.2.2)⟩ (fun hHeld=>?_)
 clear hK K
 refine norm_ (a':=?_) ?_ ?_;rotate_left;show Act.put _ (some 58) _=_;simp only [Act.put,Y14,Y15,Y16];rfl
 refine last_ (i:=7) (N:=some 59) (sqB 11 255) rfl rfl (by kernel_rfl) (by decide) (fun K hK=>?_)
 refine Kd.R_append_step k36 (w0:=WD) B (by rfl) (.tmp 56) (.tmp 58) 30 36 (.agg #[(.string ⟨#[]⟩),(.string ⟨#[]⟩),(.bool false),(.int .i64 0),(.string ⟨#[]⟩),(.int .i64 0),(.int .i64 0)]) 80 rfl Tryz.underlying30 info36 rfl (by decide) (by decide) _ m.1 ⟨(pTake 0 (pMust [44] (pTake 0 (pMust [60] (pTake 0 s).2)).2)).1.f1,(pTake 0 (pMust [60] (pTake 0 s).2)).1.f1,false,0,(pNamed (pMust [62] (pTake 0 (pMust [44] (pTake 0 (pMust [60] (pTake 0 s).2)).2)).2)).1.1,(pNamed (pMust [62] (pTake 0 (pMust [44] (pTake 0 (pMust [60] (pTake 0 s).2)).2)).2)).1.2,pAt e s⟩ [.string (pTake 0 (pMust [44] (pTake 0 (pMust [60] (pTake 0 s).2)).2)).1.f1,.string (pTake 0 (pMust [60] (pTake 0 s).2)).1.f1,.bool false,.int .i64 0,.string (pNamed (pMust [62] (pTake 0 (pMust [44] (pTake 0 (pMust [60] (pTake 0 s).2)).2)).2)).1.1,.int .i64 (pNamed (pMust [62] (pTake 0 (pMust [44] (pTake 0 (pMust [60] (pTake 0 s).2)).2)).2)).1.2,.int .i64 (pAt e s)] (fun _=>True) (fun _=>False) rfl rfl (k36_mkM _ _ _ (⟨(pTake 0 (pMust [44] (pTake 0 (pMust [60] (pTake 0 s).2)).2)).1.f1,(pTake 0 (pMust [60] (pTake 0 s).2)).1.f1,false,0,(pNamed (pMust [62] (pTake 0 (pMust [44] (pTake 0 (pMust [60] (pTake 0 s).2)).2)).2)).1.1,(pNamed (pMust [62] (pTake 0 (pMust [44] (pTake 0 (pMust [60] (pTake 0 s).2)).2)).2)).1.2,pAt e s⟩)) (fun _ hk=>hk.elim) (fun _ _=>trivial) HM1.out.rF (Below.refl _ _) HS1.out (by have:=HLEN.out.1;omega) ?_
 intro v1 w1 hR1 _ hg1 _
 obtain ⟨A1,c1,hv1⟩:=Kd.R_slice hR1
 have hv2:v1 = .slice A1 (m.1.length + 1) c1:=by rw [hv1,List.length_append];rfl
 clear hv1
 subst hv2
 have HR1:=Y0 hR1
 have HG1:=Y0 hg1
 clear hR1 hg1
 have hf1:=blk_frozen (blk_grow HM1.out.rF HM1.out.blk (by decide) HG1.out) 1
 have hk1:=(blk_cell (blk_grow HM1.out.rF HM1.out.blk (by decide) HG1.out) 1).trans rfl
 refine hK.out _ _ ?_
 clear hK K
 refine norm_ (a':=?_) ?_ ?_;rotate_left;show Act.put _ (some 59) _=_;simp only [Act.put,Y14,Y15,Y16];rfl
 refine pure_ (i:=8) (N:=some 60) (v:=?_) (a':=?_) (sqB 11 511) rfl rfl (by kernel_rfl) (fun _ _ _ h=>h) (Or.inl ⟨by rfl,?_⟩) ?_ ?_;rotate_left;intro w';go_simp;with_reducible rfl;rotate_left;simp only [Act.put,Y14,Y15,Y16];rfl
 refine pure_ (i:=9) (N:=some 61) (v:=?_) (a':=?_) (sqB 11 1023) rfl rfl (by kernel_rfl) (fun _ _ _ h=>h) (Or.inl ⟨by rfl,?_⟩) ?_ ?_;rotate_left;intro w';go_simp;with_reducible rfl;rotate_left;simp only [Act.put,Y14,Y15,Y16];rfl
 refine last_ (i:=10) (N:=none) (sqB 11 2047) rfl rfl (by kernel_rfl) (by decide) (fun K hK=>?_)
 refine skip_ (w1:=?_) (by rfl) rfl ?_ ?_
 rotate_left
 ·go_simp
  rfl
 refine hK.out _ _ ?_
 clear hK K
 refine done_ (by kernel_rfl) ?_
 go_wp2_with fail
 go_end0
 refine ⟨rfl,?_,⟨_,_,_,HM1.out.appF HR1.out HG1.out⟩,?_⟩
 ·exact (HT.out.other (grown_below HM1.out.rF HG1.out HS1.out)).far (q:=⟨h,1,none⟩) HM.out.ge _
 ·exact ((HF.out.mono HL.out).trans (Fr.of_below (grown_below HM1.out.rF HG1.out HS1.out))).far (p:=⟨h,1,none⟩) HM.out.ge _
set_option maxHeartbeats 2000000 in
set_option maxRecDepth 100000 in
theorem oneof_s {B p g h:Nat} {W:World} {l:TL} {e:Int} {s:PS} {nm:ByteArray} {m:MAcc} {a:Int} {vF vO vR:Value} (H:TS B W p g l e s) (HM:MB B W h nm m a vF vO vR) (hl:fewM m):Calls Tryz.prog 129 #[.pointer (some ⟨p,0,none⟩),.pointer (some ⟨h,0,none⟩)] W (ItemP B W p g h l e nm (pOneof m e s).1 a (pOneof m e s).2):=by
 have HT:=Y0 H
 have HL0:=Y0 H.lens.2.1
 have HG0:=Y0 H.lens.2.2.2.1
 have HLEN:=Y0 hl
 obtain ⟨AF,cF,rfl⟩:=Kd.R_slice HM.rF
 obtain ⟨AO,cO,rfl⟩:=Kd.R_slice HM.rO
 have HM0:=Y0 HM
 have hc:=H.par
 have q1:=tok_f1
 clear H hl HM
 unfold pOneof
 obtain ⟨R,hR⟩:∃ R,pLoopW [125] (pOne ((m.2.1.length:Int) + 1)) m.1 e (pMust [123] (pTake 0 (pTake 0 s).2).2)=R:=⟨_,rfl⟩
 have HR:=Y0 hR
 dsimp only
 rw [hR]
 clear hR
 go_enter Tryz.func129,Tryz.ntmps129
 have HF:=Y0 (Fr.refl W.heap.size g W)
 go_wp2_with fail
 go_at_call 88
 refine (take_s 0 HT.out).mono ?_
 rintro en_ W0 ⟨rfl,h1,f1⟩
 have n1_:=Y0 h1
 have n2_:=Y0 (HF.out.trans (f1.mono HF.out.size))
 clear hc HT HF
 have hc:=h1.par
 have HT:=n1_
 have HF:=n2_
 clear h1 f1 n1_ n2_
 go_wp2_with fail
 have n1_:=Y0 (HM0.out.keep HF.out HG0.out)
 have n2_:=Y0 (HF.out.mono HL0.out)
 have HL1:=Y0 (Nat.le_trans HL0.out HF.out.size)
 clear HM0 HF
 have n3_:=Y0 HT.out.drew
 have n4_:=Y0 (n1_.out.below (Below.refl _ W0).drew)
 have n5_:=Y0 n2_.out.drew
 have hc2:W0.cell? ⟨h,2,none⟩=some (.slice AO m.2.1.length cO):=(blk_cell n1_.out.blk 2).trans rfl
 have HL:Aside0 (B≤W0.drew.heap.size):=⟨HL1.out⟩
 clear HT n1_ n2_ HL1
 have HT:=n3_
 have HM:=n4_
 have HF:=n5_
 clear n3_ n4_ n5_
 refine start_ (n:=16) (S:=fun w'=>w'.cell? ⟨h,2,none⟩=some (.slice AO m.2.1.length cO)∧w'.cell? ⟨p,0,none⟩=some (.pointer (some ⟨g,0,none⟩))) (ds:=[12,15]) #[false,false,false,false,false,false,false,false,false,false,false,false,false,false,false,false] (by kernel_rfl) rfl rfl ⟨hc2,hc⟩ (fun hHeld=>?_)
 generalize W0.drew=WD at *
 refine pure_ (i:=0) (N:=some 9) (v:=?_) (a':=?_) (sqB 16 1) rfl rfl (by kernel_rfl) (fun _ _ _ h=>h) (Or.inl ⟨by rfl,?_⟩) ?_ ?_;rotate_left;intro w';go_simp;with_reducible rfl;rotate_left;simp only [Act.put,Y14,Y15,Y16];rfl
 refine pure_ (i:=1) (N:=some 10) (v:=?_) (a':=?_) (sqB 16 3) rfl rfl (by kernel_rfl) (fun _ _ _ h=>h) (Or.inl ⟨by rfl,?_⟩) ?_ ?_;rotate_left;intro w';go_simp;with_reducible rfl;rotate_left;simp only [Act.put,Y14,Y15,Y16];rfl
 refine pure_ (i:=2) (N:=some 11) (v:=?_) (a':=?_) (sqB 16 7) rfl rfl (by kernel_rfl) (fun _ _ _ h=>h) (Or.inl ⟨by rfl,?_⟩) ?_ ?_;rotate_left;intro w';go_simp;with_reducible rfl;rotate_left;simp only [Act.put,Y14,Y15,Y16];rfl
 refine pure_ (i:=3) (N:=some 12) (v:=?_) (a':=?_) (sqB 16 15) rfl rfl (by kernel_rfl) (fun _ _ _ h=>h) (Or.inl ⟨by rfl,?_⟩) ?_ ?_;rotate_left;intro w';go_simp;with_reducible rfl;rotate_left;simp only [Act.put,Y14,Y15,Y16];rfl
 refine pure_ (i:=5) (N:=some 14) (v:=?_) (a':=?_) (sqB 16 47) rfl rfl (by kernel_rfl) (fun _ _ _ h=>h) (Or.inl ⟨by rfl,?_⟩) ?_ ?_;rotate_left;intro w';go_simp;with_reducible rfl;rotate_left;simp only [Act.put,Y14,Y15,Y16];rfl
 refine pure_ (i:=6) (N:=some 15) (v:=?_) (a':=?_) (sqB 16 111) rfl rfl (by kernel_rfl) (fun _ _ _ h=>h) (Or.inl ⟨by rfl,?_⟩) ?_ ?_;rotate_left;intro w';go_simp;with_reducible rfl;rotate_left;simp only [Act.put,Y14,Y15,Y16];rfl
 refine pure_ (i:=7) (N:=some 16) (v:=?_) (a':=?_) (sqB 16 239) rfl rfl (by kernel_rfl) (fun _ _ _ h=>h) (Or.inl ⟨by rfl,?_⟩) ?_ ?_;rotate_left;intro w';go_simp;with_reducible rfl;rotate_left;simp only [Act.put,Y14,Y15,Y16];rfl
 refine take_ (i:=4) (N:=some 13) (v:=?_) (a':=?_) (sqB 16 255) rfl rfl (by kernel_rfl) (fun _ _ _ h=>h) (Or.inl ⟨by rfl,?_⟩) hHeld ?_ ?_;rotate_left;rintro w' ⟨s0,s1⟩;go_simp;with_reducible rfl;rotate_left;simp only [Act.put,Y14,Y15,Y16];rfl
 refine take_ (i:=8) (N:=some 17) (v:=?_) (a':=?_) (sqB 16 511) rfl rfl (by kernel_rfl) (fun _ _ _ h=>h) (Or.inl ⟨by rfl,?_⟩) hHeld ?_ ?_;rotate_left;rintro w' ⟨s0,s1⟩;go_simp;with_reducible rfl;rotate_left;simp only [Act.put,Y14,Y15,Y16];rfl
 refine one_ (i:=9) (N:=some 18) (sqB 16 1023) rfl rfl (by kernel_rfl) (by decide) (fun K hK=>?_)
 refine goes_ Tryz.func88 (by kernel_rfl) rfl #[.pointer (some ⟨g,0,none⟩),.int .i64 0] (by rfl) rfl rfl (by simp only [List.map_toArray,List.map_cons,List.map_nil];rfl) ?_
 with_reducible refine (take_s 0 HT.out).mono ?_
 rintro en_ W1 ⟨rfl,h1,f1⟩
 refine ⟨_,rfl,?_⟩
 have HT1:=Y0 h1
 have HM1:=Y0 (HM.out.keep f1 HG0.out)
 have HF1:=Y0 (HF.out.trans (f1.mono HL.out))
 have HS1:=Y0 (Nat.le_trans HL.out f1.size)
 clear h1 f1
 refine hK.out _ _ ⟨((blk_cell HM1.out.blk 2).trans rfl),HT1.out.par⟩ (fun hHeld=>?_)
 clear hK K
 refine norm_ (a':=?_) ?_ ?_;rotate_left;show Act.put _ (some 18) _=_;simp only [Act.put,Y14,Y15,Y16];rfl
 refine pure_ (i:=10) (N:=some 19) (v:=?_) (a':=?_) (sqB 16 2047) rfl rfl (by kernel_rfl) (fun _ _ _ h=>h) (Or.inl ⟨by rfl,?_⟩) ?_ ?_;rotate_left;intro w';go_simp;with_reducible rfl;rotate_left;simp only [Act.put,Y14,Y15,Y16];rfl
 refine one_ (i:=11) (N:=some 20) (sqB 16 4095) rfl rfl (by kernel_rfl) (by decide) (fun K hK=>?_)
 refine value_ (w1:=?_) (v:=?_) (by rfl) rfl ?_ ?_
 rotate_left 2
 ·go_simp
  constructor
  ·rfl
  ·rfl
 refine hK.out _ _ ⟨(pw_cell_below (below_alloc (Below.refl _ _) _) hHeld.1),(pw_cell_below (below_alloc (Below.refl _ _) _) hHeld.2)⟩ (fun hHeld=>?_)
 clear hK K
 refine norm_ (a':=?_) ?_ ?_;rotate_left;show Act.put _ (some 20) _=_;simp only [Act.put,Y14,Y15,Y16];rfl
 refine last_ (i:=12) (N:=some 21) (sqB 16 8191) rfl rfl (by kernel_rfl) (by decide) (fun K hK=>?_)
 refine Kd.R_append_step Kd.string (w0:=W1) B (by rfl) (.tmp 13) (.tmp 20) 31 9 (.string ⟨#[]⟩) 16 rfl Tryz.underlying31 info9 rfl (by decide) (by decide) _ m.2.1 (pTake 0 (pTake 0 s).2).1.f1 [.string (pTake 0 (pTake 0 s).2).1.f1] (fun _=>True) (fun _=>False) rfl rfl rfl (fun _ hk=>hk.elim) (fun _ _=>trivial) HM1.out.rO (Below.refl _ _) HS1.out (by have:=HLEN.out.2.1;omega) ?_
 intro v1 w1 hR1 _ hg1 _
 obtain ⟨A1,c1,hv1⟩:=Kd.R_slice hR1
 have hv2:v1 = .slice A1 (m.2.1.length + 1) c1:=by rw [hv1,List.length_append];rfl
 clear hv1
 subst hv2
 have HR1:=Y0 hR1
 have HG1:=Y0 hg1
 clear hR1 hg1
 have hf1:=blk_frozen (blk_grow HM1.out.rO HM1.out.blk (by decide) HG1.out) 2
 have hk1:=(blk_cell (blk_grow HM1.out.rO HM1.out.blk (by decide) HG1.out) 2).trans rfl
 refine hK.out _ _ ?_
 clear hK K
 refine norm_ (a':=?_) ?_ ?_;rotate_left;show Act.put _ (some 21) _=_;simp only [Act.put,Y14,Y15,Y16];rfl
 refine pure_ (i:=13) (N:=some 22) (v:=?_) (a':=?_) (sqB 16 16383) rfl rfl (by kernel_rfl) (fun _ _ _ h=>h) (Or.inl ⟨by rfl,?_⟩) ?_ ?_;rotate_left;intro w';go_simp;with_reducible rfl;rotate_left;simp only [Act.put,Y14,Y15,Y16];rfl
 refine pure_ (i:=14) (N:=some 23) (v:=?_) (a':=?_) (sqB 16 32767) rfl rfl (by kernel_rfl) (fun _ _ _ h=>h) (Or.inl ⟨by rfl,?_⟩) ?_ ?_;rotate_left;intro w';go_simp;with_reducible rfl;rotate_left;simp only [Act.put,Y14,Y15,Y16];rfl
 refine last_ (i:=15) (N:=none) (sqB 16 65535) rfl rfl (by kernel_rfl) (by decide) (fun K hK=>?_)
 refine skip_ (w1:=?_) (by rfl) rfl ?_ ?_
 rotate_left
 ·go_simp
  rfl
 refine hK.out _ _ ?_
 clear hK K
 refine done_ (by kernel_rfl) ?_
 have n1_:=Y0 ((HT1.out.other (grown_below HM1.out.rO HG1.out HS1.out)).far (q:=⟨h,2,none⟩) HM.out.ge (.slice A1 (m.2.1.length + 1) c1))
 have n2_:=Y0 (HM1.out.appO HR1.out HG1.out)
 have n3_:=Y0 ((HF1.out.trans (Fr.of_below (grown_below HM1.out.rO HG1.out HS1.out))).far (p:=⟨h,2,none⟩) HM.out.ge (.slice A1 (m.2.1.length + 1) c1))
 have hpar:(w1.setCell ⟨h,2,none⟩ (.slice A1 (m.2.1.length + 1) c1)).cell? ⟨p,0,none⟩=some (.pointer (some ⟨g,0,none⟩)):=n1_.out.par
 clear HT HM HF HT1 HM1 HF1 HR1 HG1 hc2 hc hf1 hk1
 go_wp2_with fail
 clear hpar
 generalize w1.setCell ⟨h,2,none⟩ (.slice A1 (m.2.1.length + 1) c1)=W2 at *
 have HT:=n1_
 have HM:=n2_
 have HF:=n3_
 have hc:=HT.out.par
 clear n1_ n2_ n3_
 go_at_call 89
 refine (must_s ⟨#[123]⟩ HT.out).mono ?_
 rintro en_ W3 ⟨rfl,h1,f1⟩
 have n1_:=Y0 h1
 have n2_:=Y0 (HM.out.keep f1 HG0.out)
 have n3_:=Y0 (HF.out.trans (f1.mono HT.out.lens.2.1))
 clear HT HM HF hc h1 f1
 have hbl:bl (⟨#[123]⟩:ByteArray)=[123]:=rfl
 rw [hbl] at n1_
 clear hbl
 obtain ⟨S0,hS0⟩:∃ S0,pMust [123] (pTake 0 (pTake 0 s).2).2=S0:=⟨_,rfl⟩
 rw [hS0] at n1_ HR
 clear hS0
 obtain ⟨O1,hO1⟩:∃ O1,m.2.1++[(pTake 0 (pTake 0 s).2).1.f1]=O1:=⟨_,rfl⟩
 rw [hO1] at n2_ ⊢
 have HO1:=Y0 hO1
 clear hO1
 obtain ⟨no,hno⟩:∃ no,m.2.1.length=no:=⟨_,rfl⟩
 have HNO:=Y0 hno
 rw [hno] at n2_ HR ⊢
 clear hno
 go_wp2
 go_loopg [29] (mu S0) (fun n _ V=>∃ (l1:List FieldS) (s1:PS) (A2:Option Addr) (c2:Nat),Aside0 (TS B V p g l e s1)∧Aside0 (MB B V h nm (l1,O1,m.2.2) a (.slice A2 l1.length c2) (.slice A1 (no + 1) c1) vR)∧Aside0 (Fr B g W V)∧Aside0 (pLoop [125] (pOne ((no:Int) + 1)) n l1 e s1=R)∧Aside0 (mu s1≤n∧l1.length + n≤1100000))
 case atStart =>
  refine ⟨m.1,S0,AF,cF,n1_,n2_,n3_,HR,⟨Nat.le_refl _,?_⟩⟩
  have h1:=HLEN.out.1
  have h2:mu S0≤1001:=by
   unfold mu
   split
   ·omega
   ·have:=n1_.out.lens.1;omega
  omega
 case round =>
  clear n1_ n2_ n3_ HR
  obtain ⟨l1,s1,A2,c2,HT,HM,HF,HR,HN⟩:=hrel
  have hc:=HT.out.par
  have hb3:=HT.out.bad
  cases hb:s1.b with
  | true =>
   rw [hb] at hb3
   have HE:Aside0 (R=(l1,s1)):=⟨by rw [← HR.out];exact pLoop_stay _ _ _ _ _ _ hb⟩
   clear hb HR
   go_wp2
   go_end0
   rw [HE.out]
   exact ⟨rfl,HT.out,⟨_,_,_,by rw [HO1.out];exact HM.out⟩,HF.out⟩
  | false =>
   rw [hb] at hb3
   have HL:=Y0 HT.out.lens.2.1
   cases gk with
   | zero =>
    have:=mu_zero s1 (by have:=HN.out;omega)
    rw [hb] at this
    cases this
   | succ k1 =>
    have HSG:=Y0 (sign_s (⟨#[125]⟩:ByteArray) HT.out)
    have hbl:bl (⟨#[125]⟩:ByteArray)=[125]:=rfl
    rw [hbl] at HSG
    clear hbl
    have HR0:=Y0 HR.out
    have hR2:=HR0.out
    rw [pLoop,if_neg (by rw [hb];decide)] at hR2
    cases hsg:(pSign [125] s1).1 with
    | true =>
     rw [hsg,if_pos rfl] at hR2
     rw [hsg] at HSG
     have HE:=Y0 hR2
     clear hsg hR2 HR HR0 hb
     go_wp2_with fail
     go_at_call 90
     refine HSG.out.mono ?_
     rintro en_ W4 ⟨rfl,h1,f1⟩
     have n1_:=Y0 h1
     have n2_:=Y0 (HM.out.keep f1 HG0.out)
     have n3_:=Y0 (HF.out.trans (f1.mono HL.out))
     clear HT HM HF hc hb3 h1 f1
     go_wp2
     go_end0
     rw [← HE.out]
     exact ⟨rfl,n1_.out,⟨_,_,_,by rw [HO1.out];exact n2_.out⟩,n3_.out⟩
    | false =>
     have hs2:(pSign [125] s1).2=s1:=sign_no _ _ hsg
     rw [hsg,if_neg Bool.false_ne_true] at hR2
     rw [hsg,hs2] at HSG
     have HMU:=Y0 ((one_good ((no:Int) + 1) l1).mu_lt e s1 hb)
     have HE:=Y0 hR2
     clear hsg hs2 hR2 HR HR0 hb
     go_wp2_with fail
     go_at_call 90
     refine HSG.out.mono ?_
     rintro en_ W4 ⟨rfl,h1,f1⟩
     have n1_:=Y0 h1
     have n2_:=Y0 (HM.out.keep f1 HG0.out)
     have n3_:=Y0 (HF.out.trans (f1.mono HL.out))
     clear HT HM HF hc hb3 h1 f1
     go_wp2_with fail
     have HT:=Y0 n1_.out.drew
     have HM:=Y0 (n2_.out.below (Below.refl _ W4).drew)
     have HF:=Y0 n3_.out.drew
     have hc1:W4.cell? ⟨h,1,none⟩=some (.slice A2 l1.length c2):=(blk_cell n2_.out.blk 1).trans rfl
     have hc2:W4.cell? ⟨h,2,none⟩=some (.slice A1 (no + 1) c1):=(blk_cell n2_.out.blk 2).trans rfl
     clear HL
     have HL:Aside0 (B≤W4.drew.heap.size):=⟨n1_.out.lens.2.1⟩
     have HLE:Aside0 (l1.length≤1100000):=⟨by have:=HN.out;omega⟩
     clear n1_ n2_ n3_
     refine start_ (n:=17) (S:=fun w'=>w'.cell? ⟨h,1,none⟩=some (.slice A2 l1.length c2)∧w'.cell? ⟨h,2,none⟩=some (.slice A1 (no + 1) c1)) (ds:=[13,16]) #[false,false,false,false,false,false,false,false,false,false,false,false,false,false,false,false,false] (by kernel_rfl) rfl rfl ⟨hc1,hc2⟩ (fun hHeld=>?_)
     generalize W4.drew=WD at *
     refine pure_ (i:=0) (N:=some 45) (v:=?_) (a':=?_) (sqB 17 1) rfl rfl (by kernel_rfl) (fun _ _ _ h=>h) (Or.inl ⟨by rfl,?_⟩) ?_ ?_;rotate_left;intro w';go_simp;with_reducible rfl;rotate_left;simp only [Act.put,Y14,Y15,Y16];rfl
     refine pure_ (i:=1) (N:=some 46) (v:=?_) (a':=?_) (sqB 17 3) rfl rfl (by kernel_rfl) (fun _ _ _ h=>h) (Or.inl ⟨by rfl,?_⟩) ?_ ?_;rotate_left;intro w';go_simp;with_reducible rfl;rotate_left;simp only [Act.put,Y14,Y15,Y16];rfl
     refine pure_ (i:=2) (N:=some 47) (v:=?_) (a':=?_) (sqB 17 7) rfl rfl (by kernel_rfl) (fun _ _ _ h=>h) (Or.inl ⟨by rfl,?_⟩) ?_ ?_;rotate_left;intro w';go_simp;with_reducible rfl;rotate_left;simp only [Act.put,Y14,Y15,Y16];rfl
     refine pure_ (i:=3) (N:=some 48) (v:=?_) (a':=?_) (sqB 17 15) rfl rfl (by kernel_rfl) (fun _ _ _ h=>h) (Or.inl ⟨by rfl,?_⟩) ?_ ?_;rotate_left;intro w';go_simp;with_reducible rfl;rotate_left;simp only [Act.put,Y14,Y15,Y16];rfl
     refine pure_ (i:=5) (N:=some 50) (v:=?_) (a':=?_) (sqB 17 47) rfl rfl (by kernel_rfl) (fun _ _ _ h=>h) (Or.inl ⟨by rfl,?_⟩) ?_ ?_;rotate_left;intro w';go_simp;with_reducible rfl;rotate_left;simp only [Act.put,Y14,Y15,Y16];rfl
     refine pure_ (i:=6) (N:=some 51) (v:=?_) (a':=?_) (sqB 17 111) rfl rfl (by kernel_rfl) (fun _ _ _ h=>h) (Or.inl ⟨by rfl,?_⟩) ?_ ?_;rotate_left;intro w';go_simp;with_reducible rfl;rotate_left;simp only [Act.put,Y14,Y15,Y16];rfl
     refine pure_ (i:=7) (N:=some 52) (v:=?_) (a':=?_) (sqB 17 239) rfl rfl (by kernel_rfl) (fun _ _ _ h=>h) (Or.inl ⟨by rfl,?_⟩) ?_ ?_;rotate_left;intro w';go_simp;with_reducible rfl;rotate_left;simp only [Act.put,Y14,Y15,Y16];rfl
     refine pure_ (i:=8) (N:=some 53) (v:=?_) (a':=?_) (sqB 17 495) rfl rfl (by kernel_rfl) (fun _ _ _ h=>h) (Or.inl ⟨by rfl,?_⟩) ?_ ?_;rotate_left;intro w';go_simp;with_reducible rfl;rotate_left;simp only [Act.put,Y14,Y15,Y16];rfl
     refine take_ (i:=4) (N:=some 49) (v:=?_) (a':=?_) (sqB 17 511) rfl rfl (by kernel_rfl) (fun _ _ _ h=>h) (Or.inl ⟨by rfl,?_⟩) hHeld ?_ ?_;rotate_left;rintro w' ⟨s0,s1⟩;go_simp;with_reducible rfl;rotate_left;simp only [Act.put,Y14,Y15,Y16];rfl
     refine take_ (i:=9) (N:=some 54) (v:=?_) (a':=?_) (sqB 17 1023) rfl rfl (by kernel_rfl) (fun _ _ _ h=>h) (Or.inl ⟨by rfl,?_⟩) hHeld ?_ ?_;rotate_left;rintro w' ⟨s0,s1⟩;go_simp;with_reducible rfl;rotate_left;simp only [Act.put,Y14,Y15,Y16];rfl
     refine pure_ (i:=10) (N:=some 55) (v:=?_) (a':=?_) (sqB 17 2047) rfl rfl (by kernel_rfl) (fun _ _ _ h=>h) (Or.inl ⟨by rfl,?_⟩) ?_ ?_;rotate_left;intro w';go_simp;with_reducible rfl;rotate_left;simp only [Act.put,Y14,Y15,Y16];rfl
     refine one_ (i:=11) (N:=some 56) (sqB 17 4095) rfl rfl (by kernel_rfl) (by decide) (fun K hK=>?_)
     refine goes_ Tryz.func153 (by kernel_rfl) rfl #[.pointer (some ⟨p,0,none⟩),.int .i64 ((no:Int) + 1)] (by rfl) rfl rfl (by simp only [List.map_toArray,List.map_cons,List.map_nil];rfl) ?_
     with_reducible refine (field_s ((no:Int) + 1) HT.out).mono ?_
     rintro en_ W1 ⟨rfl,h1,f1⟩
     refine ⟨_,rfl,?_⟩
     have HT1:=Y0 h1
     have HM1:=Y0 (HM.out.keep f1 HG0.out)
     have HF1:=Y0 (HF.out.trans (f1.mono HL.out))
     have HS1:=Y0 (Nat.le_trans HL.out f1.size)
     clear h1 f1
     refine hK.out _ _ ⟨((blk_cell HM1.out.blk 1).trans rfl),((blk_cell HM1.out.blk 2).trans rfl)⟩ (fun hHeld=>?_)
     clear hK K
     refine norm_ (a':=?_) ?_ ?_;rotate_left;show Act.put _ (some 56) _=_;simp only [Act.put,Y14,Y15,Y16];rfl
     refine one_ (i:=12) (N:=some 57) (sqB 17 8191) rfl rfl (by kernel_rfl) (by decide) (fun K hK=>?_)
     refine value_ (w1:=?_) (v:=?_) (by rfl) rfl ?_ ?_
     rotate_left 2
     ·go_simp
      constructor
      ·rfl
      ·rfl
     refine hK.out _ _ ⟨(pw_cell_below (below_alloc (Below.refl _ _) _) hHeld.1),(pw_cell_below (below_alloc (Below.refl _ _) _) hHeld.2)⟩ (fun hHeld=>?_)
     clear hK K
     refine norm_ (a':=?_) ?_ ?_;rotate_left;show Act.put _ (some 57) _=_;simp only [Act.put,Y14,Y15,Y16];rfl
     refine last_ (i:=13) (N:=some 58) (sqB 17 16383) rfl rfl (by kernel_rfl) (by decide) (fun K hK=>?_)
     refine Kd.R_append_step k36 (w0:=W1) B (by rfl) (.tmp 49) (.tmp 57) 30 36 (.agg #[(.string ⟨#[]⟩),(.string ⟨#[]⟩),(.bool false),(.int .i64 0),(.string ⟨#[]⟩),(.int .i64 0),(.int .i64 0)]) 80 rfl Tryz.underlying30 info36 rfl (by decide) (by decide) _ l1 (pField e ((no:Int) + 1) s1).1 [.string (pField e ((no:Int) + 1) s1).1.f0,.string (pField e ((no:Int) + 1) s1).1.f1,.bool (pField e ((no:Int) + 1) s1).1.f2,.int .i64 (pField e ((no:Int) + 1) s1).1.f3,.string (pField e ((no:Int) + 1) s1).1.f4,.int .i64 (pField e ((no:Int) + 1) s1).1.f5,.int .i64 (pField e ((no:Int) + 1) s1).1.f6] (fun _=>True) (fun _=>False) rfl rfl (k36_mkM _ _ _ _) (fun _ hk=>hk.elim) (fun _ _=>trivial) HM1.out.rF (Below.refl _ _) HS1.out (by have:=HLE.out;omega) ?_
     intro v1 w1 hR1 _ hg1 _
     obtain ⟨A5,c5,hv1⟩:=Kd.R_slice hR1
     have hv2:v1 = .slice A5 (l1.length + 1) c5:=by rw [hv1,List.length_append];rfl
     clear hv1
     subst hv2
     have HR1:=Y0 hR1
     have HG1:=Y0 hg1
     clear hR1 hg1
     have hf1:=blk_frozen (blk_grow HM1.out.rF HM1.out.blk (by decide) HG1.out) 1
     have hk1:=(blk_cell (blk_grow HM1.out.rF HM1.out.blk (by decide) HG1.out) 1).trans rfl
     refine hK.out _ _ ?_
     clear hK K
     refine norm_ (a':=?_) ?_ ?_;rotate_left;show Act.put _ (some 58) _=_;simp only [Act.put,Y14,Y15,Y16];rfl
     refine pure_ (i:=14) (N:=some 59) (v:=?_) (a':=?_) (sqB 17 32767) rfl rfl (by kernel_rfl) (fun _ _ _ h=>h) (Or.inl ⟨by rfl,?_⟩) ?_ ?_;rotate_left;intro w';go_simp;with_reducible rfl;rotate_left;simp only [Act.put,Y14,Y15,Y16];rfl
     refine pure_ (i:=15) (N:=some 60) (v:=?_) (a':=?_) (sqB 17 65535) rfl rfl (by kernel_rfl) (fun _ _ _ h=>h) (Or.inl ⟨by rfl,?_⟩) ?_ ?_;rotate_left;intro w';go_simp;with_reducible rfl;rotate_left;simp only [Act.put,Y14,Y15,Y16];rfl
     refine last_ (i:=16) (N:=none) (sqB 17 131071) rfl rfl (by kernel_rfl) (by decide) (fun K hK=>?_)
     refine skip_ (w1:=?_) (by rfl) rfl ?_ ?_
     rotate_left
     ·go_simp
      rfl
     refine hK.out _ _ ?_
     clear hK K
     refine done_ (by kernel_rfl) ?_
     have n1_:=Y0 ((HT1.out.other (grown_below HM1.out.rF HG1.out HS1.out)).far (q:=⟨h,1,none⟩) HM.out.ge (.slice A5 (l1.length + 1) c5))
     have n2_:=Y0 (HM1.out.appF HR1.out HG1.out)
     have n3_:=Y0 ((HF1.out.trans (Fr.of_below (grown_below HM1.out.rF HG1.out HS1.out))).far (p:=⟨h,1,none⟩) HM.out.ge (.slice A5 (l1.length + 1) c5))
     clear HT HM HF HT1 HM1 HF1 HR1 HG1 hc1 hc2 hf1 hk1
     go_wp2_with fail
     go_roundg k1
     case measure=>omega
     case rel=>exact ⟨l1++[(pField e ((no:Int) + 1) s1).1],_,A5,c5,n1_,⟨by rw [List.length_append];exact n2_.out⟩,n3_,HE,⟨by have h1:mu (pField e ((no:Int) + 1) s1).2 < mu s1:=HMU.out;have:=HN.out;omega,by rw [List.length_append];have:=HN.out;simp only [List.length_cons,List.length_nil];omega⟩⟩
set_option maxHeartbeats 2000000 in
set_option maxRecDepth 100000 in
theorem res_s {B p g h:Nat} {W:World} {l:TL} {e:Int} {s:PS} {nm:ByteArray} {m:MAcc} {a:Int} {vF vO vR:Value} (H:TS B W p g l e s) (HM:MB B W h nm m a vF vO vR) (hl:fewM m):Calls Tryz.prog 130 #[.pointer (some ⟨p,0,none⟩),.pointer (some ⟨h,0,none⟩)] W (ItemP B W p g h l e nm (pRes m e s).1 a (pRes m e s).2):=by
 have HT:=Y0 H
 have HL0:=Y0 H.lens.2.1
 have HG0:=Y0 H.lens.2.2.2.1
 have HLEN:=Y0 hl
 obtain ⟨AR,cR,rfl⟩:=Kd.R_slice HM.rR
 have HM0:=Y0 HM
 have hc:=H.par
 have q2:=tok_f2
 clear H hl HM
 unfold pRes
 obtain ⟨R,hR⟩:∃ R,pNums ((pTake 0 s).2.r.length + 1) m.2.2 (pTake 0 s).2=R:=⟨_,rfl⟩
 have HR:=Y0 hR
 dsimp only
 rw [hR]
 clear hR
 go_enter Tryz.func130,Tryz.ntmps130
 have HF:=Y0 (Fr.refl W.heap.size g W)
 go_wp2_with fail
 go_at_call 88
 refine (take_s 0 HT.out).mono ?_
 rintro en_ W0 ⟨rfl,h1,f1⟩
 have n1_:=Y0 h1
 have n2_:=Y0 (HF.out.trans (f1.mono HF.out.size))
 clear hc HT HF
 have hc:=h1.par
 have HT:=n1_
 have HF:=n2_
 clear h1 f1 n1_ n2_
 have n1_:=HT
 have n2_:=Y0 (HM0.out.keep HF.out HG0.out)
 have n3_:=Y0 (HF.out.mono HL0.out)
 clear HT HM0 HF hc
 obtain ⟨S0,hS0⟩:∃ S0,(pTake 0 s).2=S0:=⟨_,rfl⟩
 rw [hS0] at n1_ HR
 clear hS0
 go_wp2
 go_loopg [9] (S0.r.length + 1) (fun n _ V=>∃ (l1:List Int) (s1:PS) (A2:Option Addr) (c2:Nat),Aside0 (TS B V p g l e s1)∧Aside0 (MB B V h nm (m.1,m.2.1,l1) a vF vO (.slice A2 l1.length c2))∧Aside0 (Fr B g W V)∧Aside0 (pNums n l1 s1=R)∧Aside0 (s1.r.length < n∧l1.length + n≤1100000))
 case atStart=>exact ⟨m.2.2,S0,AR,cR,n1_,n2_,n3_,HR,⟨Nat.lt_succ_self _,by have h1:=HLEN.out.2.2;have:=n1_.out.lens.1;omega⟩⟩
 case round =>
  clear n1_ n2_ n3_ HR
  obtain ⟨l1,s1,A2,c2,n1_,n2_,n3_,HR,HN⟩:=hrel
  cases gk with
  | zero=>have:=HN.out;omega
  | succ k1 =>
   have hR2:=HR.out
   rw [pNums] at hR2
   have HR2:=Y0 hR2
   have HLT:=Y0 (take_shorter s1)
   clear hR2 HR
   go_wp2_with fail
   have HT:=Y0 n1_.out.drew
   have HM:=Y0 (n2_.out.below (Below.refl _ wr).drew)
   have HF:=Y0 n3_.out.drew
   have hc:=n1_.out.par
   have hc3:wr.cell? ⟨h,3,none⟩=some (.slice A2 l1.length c2):=(blk_cell n2_.out.blk 3).trans rfl
   have HL:Aside0 (B≤wr.drew.heap.size):=⟨n1_.out.lens.2.1⟩
   have HLE:Aside0 (l1.length≤1100000):=⟨by have:=HN.out;omega⟩
   clear n1_ n2_ n3_
   refine start_ (n:=16) (S:=fun w'=>w'.cell? ⟨h,3,none⟩=some (.slice A2 l1.length c2)∧w'.cell? ⟨p,0,none⟩=some (.pointer (some ⟨g,0,none⟩))) (ds:=[12,15]) #[false,false,false,false,false,false,false,false,false,false,false,false,false,false,false,false] (by kernel_rfl) rfl rfl ⟨hc3,hc⟩ (fun hHeld=>?_)
   generalize wr.drew=WD at *
   refine pure_ (i:=0) (N:=some 9) (v:=?_) (a':=?_) (sqB 16 1) rfl rfl (by kernel_rfl) (fun _ _ _ h=>h) (Or.inl ⟨by rfl,?_⟩) ?_ ?_;rotate_left;intro w';go_simp;with_reducible rfl;rotate_left;simp only [Act.put,Y14,Y15,Y16];rfl
   refine pure_ (i:=1) (N:=some 10) (v:=?_) (a':=?_) (sqB 16 3) rfl rfl (by kernel_rfl) (fun _ _ _ h=>h) (Or.inl ⟨by rfl,?_⟩) ?_ ?_;rotate_left;intro w';go_simp;with_reducible rfl;rotate_left;simp only [Act.put,Y14,Y15,Y16];rfl
   refine pure_ (i:=2) (N:=some 11) (v:=?_) (a':=?_) (sqB 16 7) rfl rfl (by kernel_rfl) (fun _ _ _ h=>h) (Or.inl ⟨by rfl,?_⟩) ?_ ?_;rotate_left;intro w';go_simp;with_reducible rfl;rotate_left;simp only [Act.put,Y14,Y15,Y16];rfl
   refine pure_ (i:=3) (N:=some 12) (v:=?_) (a':=?_) (sqB 16 15) rfl rfl (by kernel_rfl) (fun _ _ _ h=>h) (Or.inl ⟨by rfl,?_⟩) ?_ ?_;rotate_left;intro w';go_simp;with_reducible rfl;rotate_left;simp only [Act.put,Y14,Y15,Y16];rfl
   refine pure_ (i:=5) (N:=some 14) (v:=?_) (a':=?_) (sqB 16 47) rfl rfl (by kernel_rfl) (fun _ _ _ h=>h) (Or.inl ⟨by rfl,?_⟩) ?_ ?_;rotate_left;intro w';go_simp;with_reducible rfl;rotate_left;simp only [Act.put,Y14,Y15,Y16];rfl
   refine pure_ (i:=6) (N:=some 15) (v:=?_) (a':=?_) (sqB 16 111) rfl rfl (by kernel_rfl) (fun _ _ _ h=>h) (Or.inl ⟨by rfl,?_⟩) ?_ ?_;rotate_left;intro w';go_simp;with_reducible rfl;rotate_left;simp only [Act.put,Y14,Y15,Y16];rfl
   refine pure_ (i:=7) (N:=some 16) (v:=?_) (a':=?_) (sqB 16 239) rfl rfl (by kernel_rfl) (fun _ _ _ h=>h) (Or.inl ⟨by rfl,?_⟩) ?_ ?_;rotate_left;intro w';go_simp;with_reducible rfl;rotate_left;simp only [Act.put,Y14,Y15,Y16];rfl
   refine take_ (i:=4) (N:=some 13) (v:=?_) (a':=?_) (sqB 16 255) rfl rfl (by kernel_rfl) (fun _ _ _ h=>h) (Or.inl ⟨by rfl,?_⟩) hHeld ?_ ?_;rotate_left;rintro w' ⟨s0,s1⟩;go_simp;with_reducible rfl;rotate_left;simp only [Act.put,Y14,Y15,Y16];rfl
   refine take_ (i:=8) (N:=some 17) (v:=?_) (a':=?_) (sqB 16 511) rfl rfl (by kernel_rfl) (fun _ _ _ h=>h) (Or.inl ⟨by rfl,?_⟩) hHeld ?_ ?_;rotate_left;rintro w' ⟨s0,s1⟩;go_simp;with_reducible rfl;rotate_left;simp only [Act.put,Y14,Y15,Y16];rfl
   refine one_ (i:=9) (N:=some 18) (sqB 16 1023) rfl rfl (by kernel_rfl) (by decide) (fun K hK=>?_)
   refine goes_ Tryz.func88 (by kernel_rfl) rfl #[.pointer (some ⟨g,0,none⟩),.int .i64 1] (by rfl) rfl rfl (by simp only [List.map_toArray,List.map_cons,List.map_nil];rfl) ?_
   with_reducible refine (take_s 1 HT.out).mono ?_
   rintro en_ W1 ⟨rfl,h1,f1⟩
   refine ⟨_,rfl,?_⟩
   have HT1:=Y0 h1
   have HM1:=Y0 (HM.out.keep f1 HG0.out)
   have HF1:=Y0 (HF.out.trans (f1.mono HL.out))
   have HS1:=Y0 (Nat.le_trans HL.out f1.size)
   clear h1 f1
   refine hK.out _ _ ⟨((blk_cell HM1.out.blk 3).trans rfl),HT1.out.par⟩ (fun hHeld=>?_)
   clear hK K
   refine norm_ (a':=?_) ?_ ?_;rotate_left;show Act.put _ (some 18) _=_;simp only [Act.put,Y14,Y15,Y16];rfl
   refine pure_ (i:=10) (N:=some 19) (v:=?_) (a':=?_) (sqB 16 2047) rfl rfl (by kernel_rfl) (fun _ _ _ h=>h) (Or.inl ⟨by rfl,?_⟩) ?_ ?_;rotate_left;intro w';go_simp;with_reducible rfl;rotate_left;simp only [Act.put,Y14,Y15,Y16];rfl
   refine one_ (i:=11) (N:=some 20) (sqB 16 4095) rfl rfl (by kernel_rfl) (by decide) (fun K hK=>?_)
   refine value_ (w1:=?_) (v:=?_) (by rfl) rfl ?_ ?_
   rotate_left 2
   ·go_simp
    constructor
    ·rfl
    ·rfl
   refine hK.out _ _ ⟨(pw_cell_below (below_alloc (Below.refl _ _) _) hHeld.1),(pw_cell_below (below_alloc (Below.refl _ _) _) hHeld.2)⟩ (fun hHeld=>?_)
   clear hK K
   refine norm_ (a':=?_) ?_ ?_;rotate_left;show Act.put _ (some 20) _=_;simp only [Act.put,Y14,Y15,Y16];rfl
   refine last_ (i:=12) (N:=some 21) (sqB 16 8191) rfl rfl (by kernel_rfl) (by decide) (fun K hK=>?_)
   refine Kd.R_append_step (Kd.int .i64) (w0:=W1) B (by rfl) (.tmp 13) (.tmp 20) 32 2 (.int .i64 0) 8 rfl Tryz.underlying32 info2 rfl (by decide) (by decide) _ l1 (pTake 1 s1).1.f2 [.int .i64 (pTake 1 s1).1.f2] (fun _=>True) (fun _=>False) rfl rfl rfl (fun _ hk=>hk.elim) (fun _ _=>trivial) HM1.out.rR (Below.refl _ _) HS1.out (by have:=HLE.out;omega) ?_
   intro v1 w1 hR1 _ hg1 _
   obtain ⟨A5,c5,hv1⟩:=Kd.R_slice hR1
   have hv2:v1 = .slice A5 (l1.length + 1) c5:=by rw [hv1,List.length_append];rfl
   clear hv1
   subst hv2
   have HR1:=Y0 hR1
   have HG1:=Y0 hg1
   clear hR1 hg1
   have hf1:=blk_frozen (blk_grow HM1.out.rR HM1.out.blk (by decide) HG1.out) 3
   have hk1:=(blk_cell (blk_grow HM1.out.rR HM1.out.blk (by decide) HG1.out) 3).trans rfl
   refine hK.out _ _ ?_
   clear hK K
   refine norm_ (a':=?_) ?_ ?_;rotate_left;show Act.put _ (some 21) _=_;simp only [Act.put,Y14,Y15,Y16];rfl
   refine pure_ (i:=13) (N:=some 22) (v:=?_) (a':=?_) (sqB 16 16383) rfl rfl (by kernel_rfl) (fun _ _ _ h=>h) (Or.inl ⟨by rfl,?_⟩) ?_ ?_;rotate_left;intro w';go_simp;with_reducible rfl;rotate_left;simp only [Act.put,Y14,Y15,Y16];rfl
   refine pure_ (i:=14) (N:=some 23) (v:=?_) (a':=?_) (sqB 16 32767) rfl rfl (by kernel_rfl) (fun _ _ _ h=>h) (Or.inl ⟨by rfl,?_⟩) ?_ ?_;rotate_left;intro w';go_simp;with_reducible rfl;rotate_left;simp only [Act.put,Y14,Y15,Y16];rfl
   refine last_ (i:=15) (N:=none) (sqB 16 65535) rfl rfl (by kernel_rfl) (by decide) (fun K hK=>?_)
   refine skip_ (w1:=?_) (by rfl) rfl ?_ ?_
   rotate_left
   ·go_simp
    rfl
   refine hK.out _ _ ?_
   clear hK K
   refine done_ (by kernel_rfl) ?_
   have n1_:=Y0 ((HT1.out.other (grown_below HM1.out.rR HG1.out HS1.out)).far (q:=⟨h,3,none⟩) HM.out.ge (.slice A5 (l1.length + 1) c5))
   have n2_:=Y0 (HM1.out.appR HR1.out HG1.out)
   have n3_:=Y0 ((HF1.out.trans (Fr.of_below (grown_below HM1.out.rR HG1.out HS1.out))).far (p:=⟨h,3,none⟩) HM.out.ge (.slice A5 (l1.length + 1) c5))
   clear HT HM HF HT1 HM1 HF1 HR1 HG1 hc3 hc hf1 hk1
   have hc:=n1_.out.par
   have hb3:=n1_.out.bad
   have HLX:=Y0 n1_.out.lens.2.1
   have HML:Aside0 ((l1++[(pTake 1 s1).1.f2]).length=l1.length + 1):=⟨by rw [List.length_append];rfl⟩
   obtain ⟨s2,hs2⟩:∃ s2,(pTake 1 s1).2=s2:=⟨_,rfl⟩
   rw [hs2] at n1_ hb3 HR2 HLT
   clear hs2
   obtain ⟨l2,hl2⟩:∃ l2,l1++[(pTake 1 s1).1.f2]=l2:=⟨_,rfl⟩
   rw [hl2] at n2_ HR2 HML
   clear hl2
   cases hb:s2.b with
   | true =>
    rw [hb] at hb3
    have HE:Aside0 (R=(l2,s2)):=⟨by have:=HR2.out;rw [if_pos hb] at this;exact this.symm⟩
    clear HR2 hb
    go_wp2_with fail
    generalize w1.setCell ⟨h,3,none⟩ (.slice A5 (l1.length + 1) c5)=V5 at *
    go_at_call 89
    refine (must_s (⟨#[59]⟩:ByteArray) n1_.out).mono ?_
    rintro en_ V6 ⟨rfl,h1,f1⟩
    have m2_:=Y0 (n2_.out.keep f1 HG0.out)
    have m3_:=Y0 (n3_.out.trans (f1.mono HLX.out))
    have m1_:=Y0 h1
    clear n1_ n2_ n3_ hc hb3 h1 f1
    go_wp2
    go_end0
    rw [HE.out]
    exact ⟨rfl,m1_.out,⟨_,_,_,m2_.out⟩,m3_.out⟩
   | false =>
    rw [hb] at hb3
    have hR3:=HR2.out
    rw [if_neg (by rw [hb];decide)] at hR3
    have HLT2:=Y0 (HLT.out hb)
    have HSG:=Y0 (sign_s (⟨#[44]⟩:ByteArray) n1_.out)
    have hbl:bl (⟨#[44]⟩:ByteArray)=[44]:=rfl
    rw [hbl] at HSG
    clear hbl HR2
    cases hsg:(pSign [44] s2).1 with
    | true =>
     rw [hsg,if_pos rfl] at hR3
     rw [hsg] at HSG
     have HE:=Y0 hR3
     have HSL:Aside0 ((pSign [44] s2).2.r.length≤s2.r.length):=⟨sign_shorter _ _⟩
     clear hsg hR3 hb
     go_wp2_with fail
     generalize w1.setCell ⟨h,3,none⟩ (.slice A5 (l1.length + 1) c5)=V5 at *
     go_at_call 90
     refine HSG.out.mono ?_
     rintro en_ V6 ⟨rfl,h1,f1⟩
     have m2_:=Y0 (n2_.out.keep f1 HG0.out)
     have m3_:=Y0 (n3_.out.trans (f1.mono HLX.out))
     have m1_:=Y0 h1
     clear n1_ n2_ n3_ hc hb3 h1 f1 HSG
     go_wp2_with fail
     go_roundg k1
     case measure=>omega
     case rel=>exact ⟨l2,_,A5,c5,m1_,⟨by rw [HML.out];exact m2_.out⟩,m3_,HE,⟨by have:=HLT2.out;have:=HSL.out;have:=HN.out;omega,by rw [HML.out];have:=HN.out;omega⟩⟩
    | false =>
     have hs3:(pSign [44] s2).2=s2:=sign_no _ _ hsg
     rw [hsg,if_neg Bool.false_ne_true] at hR3
     rw [hsg,hs3] at HSG
     have HE:=Y0 hR3
     clear hsg hs3 hR3 hb
     go_wp2_with fail
     generalize w1.setCell ⟨h,3,none⟩ (.slice A5 (l1.length + 1) c5)=V5 at *
     go_at_call 90
     refine HSG.out.mono ?_
     rintro en_ V6 ⟨rfl,h1,f1⟩
     have m2_:=Y0 (n2_.out.keep f1 HG0.out)
     have m3_:=Y0 (n3_.out.trans (f1.mono HLX.out))
     have m1_:=Y0 h1
     clear n1_ n2_ n3_ hc hb3 h1 f1 HSG
     have hc:=m1_.out.par
     go_wp2_with fail
     go_at_call 89
     refine (must_s (⟨#[59]⟩:ByteArray) m1_.out).mono ?_
     rintro en_ V7 ⟨rfl,h1,f1⟩
     have n2_:=Y0 (m2_.out.keep f1 HG0.out)
     have n3_:=Y0 (m3_.out.trans (f1.mono m1_.out.lens.2.1))
     have n1_:=Y0 h1
     clear m1_ m2_ m3_ hc h1 f1
     go_wp2
     go_end0
     rw [← HE.out]
     exact ⟨rfl,n1_.out,⟨_,_,_,n2_.out⟩,n3_.out⟩
def itemF (s:PS):Nat:=if pIs 0 0 wRep s=true then 128 else if pIs 0 0 wOneof s=true then 129 else if pIs 0 0 wRes s=true then 130 else if isMap s=true then 131 else 132
theorem item_calls {B p g h:Nat} {W:World} {l:TL} {e:Int} {s:PS} {nm:ByteArray} {m:MAcc} {a:Int} {vF vO vR:Value} (H:TS B W p g l e s) (HM:MB B W h nm m a vF vO vR) (hl:fewM m):Calls Tryz.prog (itemF s) #[.pointer (some ⟨p,0,none⟩),.pointer (some ⟨h,0,none⟩)] W (ItemP B W p g h l e nm (pItem m e s).1 a (pItem m e s).2):=by
 rw [pItem_eq]
 unfold itemF
 split
 ·exact rep_s H HM hl
 ·split
  ·exact oneof_s H HM hl
  ·split
   ·exact res_s H HM hl
   ·split
    ·exact map_s H HM hl
    ·exact plain_s H HM hl
theorem item_enter (s:PS) (args:Array Value) (w:World):Sem.run Tryz.prog (callFunc (itemF s) args) w = .ok (.enter (itemF s) args) w:=by
 unfold itemF
 split
 ·exact run_enter Tryz.func128 (by kernel_rfl) (by kernel_rfl) args w
 ·split
  ·exact run_enter Tryz.func129 (by kernel_rfl) (by kernel_rfl) args w
  ·split
   ·exact run_enter Tryz.func130 (by kernel_rfl) (by kernel_rfl) args w
   ·split
    ·exact run_enter Tryz.func131 (by kernel_rfl) (by kernel_rfl) args w
    ·exact run_enter Tryz.func132 (by kernel_rfl) (by kernel_rfl) args w
def ItemFP (W:World) (p f:Nat) (en:Ending) (W':World):Prop:=en = .returned (.func (.func f) #[.pointer (some ⟨p,0,none⟩)] #[])∧Drawn0 W W'
theorem drawn_trans {a b c:World} (h:Drawn0 a b) (k:Drawn0 b c):Drawn0 a c:=by
 obtain ⟨n,rfl⟩:=h.out
 obtain ⟨m,rfl⟩:=k.out
 exact (Drawn0.refl a |>.step n).step m
theorem is0_b {B p g:Nat} {W:World} {l:TL} {e:Int} {s:PS} {k:Int} {x:ByteArray} {b:Bool} (h:TS B W p g l e s) (hb:pIs 0 k (bl x) s=b):Calls Tryz.prog 37 #[.pointer (some ⟨g,0,none⟩),.int .i64 0,.int .i64 k,.string x] W (IsPost W b):=hb ▸ is0_s k x h
theorem is1_b {B p g:Nat} {W:World} {l:TL} {e:Int} {s:PS} {k:Int} {x:ByteArray} {b:Bool} (h:TS B W p g l e s) (hb:pIs 1 k (bl x) s=b):Calls Tryz.prog 37 #[.pointer (some ⟨g,0,none⟩),.int .i64 1,.int .i64 k,.string x] W (IsPost W b):=hb ▸ is1_s k x h
set_option maxHeartbeats 2000000 in
set_option maxRecDepth 100000 in
theorem item_fn {B p g:Nat} {W:World} {l:TL} {e:Int} {s:PS} (H:TS B W p g l e s):Calls Tryz.prog 91 #[.pointer (some ⟨p,0,none⟩)] W (ItemFP W p (itemF s)):=by
 have HT:=Y0 H
 have hc:=H.par
 clear H
 have HD:=Y0 (Drawn0.refl W)
 by_cases h1:pIs 0 0 wRep s=true
 ·have HE:Aside0 (itemF s=128):=⟨by unfold itemF;rw [if_pos h1]⟩
  have H1:=Y0 (show pIs 0 0 (bl ⟨#[114,101,112,101,97,116,101,100]⟩) s=true from h1)
  rw [HE.out]
  clear h1 HE
  go_enter Tryz.func91,Tryz.ntmps91
  go_wp2_with fail
  go_at_call 37
  refine (is0_b HT.out H1.out).mono ?_
  rintro en_ V ⟨rfl,hd⟩
  have n1_:=Y0 (HT.out.drawn hd)
  have n2_:=Y0 (drawn_trans HD.out hd)
  clear HT HD hc hd
  have HT:=n1_
  have HD:=n2_
  have hc:=HT.out.par
  clear n1_ n2_
  go_wp2
  go_ret
  exact ⟨rfl,HD.out⟩
 ·have H1:=Y0 (show pIs 0 0 (bl ⟨#[114,101,112,101,97,116,101,100]⟩) s=false from Bool.eq_false_iff.2 h1)
  by_cases h2:pIs 0 0 wOneof s=true
  ·have HE:Aside0 (itemF s=129):=⟨by unfold itemF;rw [if_neg h1,if_pos h2]⟩
   have H2:=Y0 (show pIs 0 0 (bl ⟨#[111,110,101,111,102]⟩) s=true from h2)
   rw [HE.out]
   clear h1 h2 HE
   go_enter Tryz.func91,Tryz.ntmps91
   go_wp2_with fail
   go_at_call 37
   refine (is0_b HT.out H1.out).mono ?_
   rintro en_ V ⟨rfl,hd⟩
   have n1_:=Y0 (HT.out.drawn hd)
   have n2_:=Y0 (drawn_trans HD.out hd)
   clear HT HD hc hd
   have HT:=n1_
   have HD:=n2_
   have hc:=HT.out.par
   clear n1_ n2_
   go_wp2_with fail
   go_at_call 37
   refine (is0_b HT.out H2.out).mono ?_
   rintro en_ V ⟨rfl,hd⟩
   have n1_:=Y0 (HT.out.drawn hd)
   have n2_:=Y0 (drawn_trans HD.out hd)
   clear HT HD hc hd
   have HT:=n1_
   have HD:=n2_
   have hc:=HT.out.par
   clear n1_ n2_
   go_wp2
   go_ret
   exact ⟨rfl,HD.out⟩
  ·have H2:=Y0 (show pIs 0 0 (bl ⟨#[111,110,101,111,102]⟩) s=false from Bool.eq_false_iff.2 h2)
   by_cases h3:pIs 0 0 wRes s=true
   ·have HE:Aside0 (itemF s=130):=⟨by unfold itemF;rw [if_neg h1,if_neg h2,if_pos h3]⟩
    have H3:=Y0 (show pIs 0 0 (bl ⟨#[114,101,115,101,114,118,101,100]⟩) s=true from h3)
    rw [HE.out]
    clear h1 h2 h3 HE
    go_enter Tryz.func91,Tryz.ntmps91
    go_wp2_with fail
    go_at_call 37
    refine (is0_b HT.out H1.out).mono ?_
    rintro en_ V ⟨rfl,hd⟩
    have n1_:=Y0 (HT.out.drawn hd)
    have n2_:=Y0 (drawn_trans HD.out hd)
    clear HT HD hc hd
    have HT:=n1_
    have HD:=n2_
    have hc:=HT.out.par
    clear n1_ n2_
    go_wp2_with fail
    go_at_call 37
    refine (is0_b HT.out H2.out).mono ?_
    rintro en_ V ⟨rfl,hd⟩
    have n1_:=Y0 (HT.out.drawn hd)
    have n2_:=Y0 (drawn_trans HD.out hd)
    clear HT HD hc hd
    have HT:=n1_
    have HD:=n2_
    have hc:=HT.out.par
    clear n1_ n2_
    go_wp2_with fail
    go_at_call 37
    refine (is0_b HT.out H3.out).mono ?_
    rintro en_ V ⟨rfl,hd⟩
    have n1_:=Y0 (HT.out.drawn hd)
    have n2_:=Y0 (drawn_trans HD.out hd)
    clear HT HD hc hd
    have HT:=n1_
    have HD:=n2_
    have hc:=HT.out.par
    clear n1_ n2_
    go_wp2
    go_ret
    exact ⟨rfl,HD.out⟩
   ·have H3:=Y0 (show pIs 0 0 (bl ⟨#[114,101,115,101,114,118,101,100]⟩) s=false from Bool.eq_false_iff.2 h3)
    by_cases h4:pIs 0 0 wMap s=true
    ·have H4:=Y0 (show pIs 0 0 (bl ⟨#[109,97,112]⟩) s=true from h4)
     by_cases h5:pIs 1 3 [60] s=true
     ·have HE:Aside0 (itemF s=131):=⟨by unfold itemF isMap;rw [if_neg h1,if_neg h2,if_neg h3,h4,h5];rfl⟩
      have H5:=Y0 (show pIs 1 3 (bl ⟨#[60]⟩) s=true from h5)
      rw [HE.out]
      clear h1 h2 h3 h4 h5 HE
      go_enter Tryz.func91,Tryz.ntmps91
      go_wp2_with fail
      go_at_call 37
      refine (is0_b HT.out H1.out).mono ?_
      rintro en_ V ⟨rfl,hd⟩
      have n1_:=Y0 (HT.out.drawn hd)
      have n2_:=Y0 (drawn_trans HD.out hd)
      clear HT HD hc hd
      have HT:=n1_
      have HD:=n2_
      have hc:=HT.out.par
      clear n1_ n2_
      go_wp2_with fail
      go_at_call 37
      refine (is0_b HT.out H2.out).mono ?_
      rintro en_ V ⟨rfl,hd⟩
      have n1_:=Y0 (HT.out.drawn hd)
      have n2_:=Y0 (drawn_trans HD.out hd)
      clear HT HD hc hd
      have HT:=n1_
      have HD:=n2_
      have hc:=HT.out.par
      clear n1_ n2_
      go_wp2_with fail
      go_at_call 37
      refine (is0_b HT.out H3.out).mono ?_
      rintro en_ V ⟨rfl,hd⟩
      have n1_:=Y0 (HT.out.drawn hd)
      have n2_:=Y0 (drawn_trans HD.out hd)
      clear HT HD hc hd
      have HT:=n1_
      have HD:=n2_
      have hc:=HT.out.par
      clear n1_ n2_
      go_wp2_with fail
      go_at_call 37
      refine (is0_b HT.out H4.out).mono ?_
      rintro en_ V ⟨rfl,hd⟩
      have n1_:=Y0 (HT.out.drawn hd)
      have n2_:=Y0 (drawn_trans HD.out hd)
      clear HT HD hc hd
      have HT:=n1_
      have HD:=n2_
      have hc:=HT.out.par
      clear n1_ n2_
      go_wp2_with fail
      go_at_call 37
      refine (is1_b HT.out H5.out).mono ?_
      rintro en_ V ⟨rfl,hd⟩
      have n1_:=Y0 (HT.out.drawn hd)
      have n2_:=Y0 (drawn_trans HD.out hd)
      clear HT HD hc hd
      have HT:=n1_
      have HD:=n2_
      have hc:=HT.out.par
      clear n1_ n2_
      go_wp2
      go_ret
      exact ⟨rfl,HD.out⟩
     ·have HE:Aside0 (itemF s=132):=⟨by unfold itemF isMap;rw [if_neg h1,if_neg h2,if_neg h3,h4,show pIs 1 3 [60] s=false from by simpa using h5];rfl⟩
      have H5:=Y0 (show pIs 1 3 (bl ⟨#[60]⟩) s=false from Bool.eq_false_iff.2 h5)
      rw [HE.out]
      clear h1 h2 h3 h4 h5 HE
      go_enter Tryz.func91,Tryz.ntmps91
      go_wp2_with fail
      go_at_call 37
      refine (is0_b HT.out H1.out).mono ?_
      rintro en_ V ⟨rfl,hd⟩
      have n1_:=Y0 (HT.out.drawn hd)
      have n2_:=Y0 (drawn_trans HD.out hd)
      clear HT HD hc hd
      have HT:=n1_
      have HD:=n2_
      have hc:=HT.out.par
      clear n1_ n2_
      go_wp2_with fail
      go_at_call 37
      refine (is0_b HT.out H2.out).mono ?_
      rintro en_ V ⟨rfl,hd⟩
      have n1_:=Y0 (HT.out.drawn hd)
      have n2_:=Y0 (drawn_trans HD.out hd)
      clear HT HD hc hd
      have HT:=n1_
      have HD:=n2_
      have hc:=HT.out.par
      clear n1_ n2_
      go_wp2_with fail
      go_at_call 37
      refine (is0_b HT.out H3.out).mono ?_
      rintro en_ V ⟨rfl,hd⟩
      have n1_:=Y0 (HT.out.drawn hd)
      have n2_:=Y0 (drawn_trans HD.out hd)
      clear HT HD hc hd
      have HT:=n1_
      have HD:=n2_
      have hc:=HT.out.par
      clear n1_ n2_
      go_wp2_with fail
      go_at_call 37
      refine (is0_b HT.out H4.out).mono ?_
      rintro en_ V ⟨rfl,hd⟩
      have n1_:=Y0 (HT.out.drawn hd)
      have n2_:=Y0 (drawn_trans HD.out hd)
      clear HT HD hc hd
      have HT:=n1_
      have HD:=n2_
      have hc:=HT.out.par
      clear n1_ n2_
      go_wp2_with fail
      go_at_call 37
      refine (is1_b HT.out H5.out).mono ?_
      rintro en_ V ⟨rfl,hd⟩
      have n1_:=Y0 (HT.out.drawn hd)
      have n2_:=Y0 (drawn_trans HD.out hd)
      clear HT HD hc hd
      have HT:=n1_
      have HD:=n2_
      have hc:=HT.out.par
      clear n1_ n2_
      go_wp2
      go_ret
      exact ⟨rfl,HD.out⟩
    ·have H4:=Y0 (show pIs 0 0 (bl ⟨#[109,97,112]⟩) s=false from Bool.eq_false_iff.2 h4)
     have HE:Aside0 (itemF s=132):=⟨by unfold itemF isMap;rw [if_neg h1,if_neg h2,if_neg h3,show pIs 0 0 wMap s=false from by simpa using h4];rfl⟩
     rw [HE.out]
     clear h1 h2 h3 h4 HE
     go_enter Tryz.func91,Tryz.ntmps91
     go_wp2_with fail
     go_at_call 37
     refine (is0_b HT.out H1.out).mono ?_
     rintro en_ V ⟨rfl,hd⟩
     have n1_:=Y0 (HT.out.drawn hd)
     have n2_:=Y0 (drawn_trans HD.out hd)
     clear HT HD hc hd
     have HT:=n1_
     have HD:=n2_
     have hc:=HT.out.par
     clear n1_ n2_
     go_wp2_with fail
     go_at_call 37
     refine (is0_b HT.out H2.out).mono ?_
     rintro en_ V ⟨rfl,hd⟩
     have n1_:=Y0 (HT.out.drawn hd)
     have n2_:=Y0 (drawn_trans HD.out hd)
     clear HT HD hc hd
     have HT:=n1_
     have HD:=n2_
     have hc:=HT.out.par
     clear n1_ n2_
     go_wp2_with fail
     go_at_call 37
     refine (is0_b HT.out H3.out).mono ?_
     rintro en_ V ⟨rfl,hd⟩
     have n1_:=Y0 (HT.out.drawn hd)
     have n2_:=Y0 (drawn_trans HD.out hd)
     clear HT HD hc hd
     have HT:=n1_
     have HD:=n2_
     have hc:=HT.out.par
     clear n1_ n2_
     go_wp2_with fail
     go_at_call 37
     refine (is0_b HT.out H4.out).mono ?_
     rintro en_ V ⟨rfl,hd⟩
     have n1_:=Y0 (HT.out.drawn hd)
     have n2_:=Y0 (drawn_trans HD.out hd)
     clear HT HD hc hd
     have HT:=n1_
     have HD:=n2_
     have hc:=HT.out.par
     clear n1_ n2_
     go_wp2
     go_ret
     exact ⟨rfl,HD.out⟩
def szM (m:MAcc):Nat:=m.1.length + m.2.1.length + m.2.2.length
theorem mu_tail (s:PS):mu ⟨s.r.tail,s.b⟩≤mu s:=by
 unfold mu
 simp only [List.length_tail]
 split <;> omega
theorem mu_bad (r:List TokS):mu ⟨r,true⟩=0:=rfl
theorem mu_sign (x:List UInt8) (s:PS):mu (pSign x s).2≤mu s:=by
 unfold pSign
 split
 ·exact mu_tail s
 ·exact Nat.le_refl _
theorem mu_must (x:List UInt8) (s:PS):mu (pMust x s)≤mu s:=by
 unfold pMust
 split
 ·exact mu_tail s
 ·rw [mu_bad];exact Nat.zero_le _
theorem mu_take (k:Int) (s:PS):mu (pTake k s).2≤mu s:=by
 cases hb:s.b with
 | true=>rw [pTake_bad _ _ hb];exact Nat.le_refl _
 | false=>exact Nat.le_of_lt ((take_good k).mu_lt 0 s hb)
theorem mu_take_lt (k:Int) (s:PS) (hb:s.b=false):mu (pTake k s).2 < mu s:=(take_good k).mu_lt 0 s hb
theorem one_pot (k:Int) (x:List UInt8):∀ n a e s,(pLoop x (pOne k) n a e s).1.length + mu (pLoop x (pOne k) n a e s).2≤a.length + mu s:=by
 intro n
 induction n with
 | zero=>intro a e s;exact Nat.le_refl _
 | succ n ih =>
  intro a e s
  rw [pLoop]
  by_cases hb:s.b=true
  ·rw [if_pos hb];exact Nat.le_refl _
  ·rw [if_neg hb]
   by_cases hs:(pSign x s).1=true
   ·rw [if_pos hs];have:=mu_sign x s;simp only;omega
   ·rw [if_neg hs]
    have h1:=ih (pOne k a e s).1 e (pOne k a e s).2
    have h2:=(one_good k a).mu_lt e s (by simpa using hb)
    have h3:(pOne k a e s).1.length=a.length + 1:=by unfold pOne;simp
    omega
theorem nums_pot:∀ n a s,(pNums n a s).1.length + mu (pNums n a s).2≤a.length + mu s + 1∧(s.b=false→(pNums n a s).1.length + mu (pNums n a s).2≤a.length + mu s):=by
 intro n
 induction n with
 | zero=>intro a s;exact ⟨Nat.le_succ _,fun _=>Nat.le_refl _⟩
 | succ n ih =>
  intro a s
  rw [pNums]
  by_cases hb:(pTake 1 s).2.b=true
  ·rw [if_pos hb]
   have h1:mu (pTake 1 s).2=0:=by unfold mu;rw [if_pos hb]
   simp only [List.length_append,List.length_cons,List.length_nil]
   refine ⟨by omega,fun h=>?_⟩
   have:0 < mu s:=by unfold mu;rw [h];exact Nat.succ_pos _
   omega
  ·rw [if_neg hb]
   have hsb:s.b=false:=by
    cases h:s.b with
    | false=>rfl
    | true=>rw [pTake_bad _ _ h] at hb;exact absurd h hb
   have h1:=mu_take_lt 1 s hsb
   by_cases hs:(pSign [44] (pTake 1 s).2).1=true
   ·rw [if_pos hs]
    have h2:(pSign [44] (pTake 1 s).2).2.b=false:=by
     unfold pSign
     split
     ·simpa using hb
     ·simpa using hb
    have h3:=(ih (a++[(pTake 1 s).1.f2]) (pSign [44] (pTake 1 s).2).2).2 h2
    have h4:=mu_sign [44] (pTake 1 s).2
    simp only [List.length_append,List.length_cons,List.length_nil] at h3
    exact ⟨by omega,fun _=>by omega⟩
   ·rw [if_neg hs]
    simp only [List.length_append,List.length_cons,List.length_nil]
    exact ⟨by omega,fun _=>by omega⟩
theorem item_pot (m:MAcc) (e:Int) (s:PS) (hb:s.b=false):szM (pItem m e s).1 + mu (pItem m e s).2≤szM m + mu s:=by
 have hf:∀ m':MAcc,∀ s',mu s' < mu s→szM m'=szM m + 1→szM m' + mu s'≤szM m + mu s:=fun m' s' h1 h2=>by omega
 unfold pItem
 split
 ·refine hf _ _ ((rep_good m).mu_lt e s hb) ?_
  unfold pRep szM;simp;omega
 ·split
  ·have h1:=mu_take_lt 0 s hb
   have h2:=mu_take 0 (pTake 0 s).2
   have h3:=mu_must [123] (pTake 0 (pTake 0 s).2).2
   have h4:=one_pot ((m.2.1.length:Int) + 1) [125] (mu (pMust [123] (pTake 0 (pTake 0 s).2).2)) m.1 e (pMust [123] (pTake 0 (pTake 0 s).2).2)
   show szM ((pLoopW [125] (pOne ((m.2.1.length:Int) + 1)) m.1 e (pMust [123] (pTake 0 (pTake 0 s).2).2)).1,m.2.1++[(pTake 0 (pTake 0 s).2).1.f1],m.2.2) + mu (pLoopW [125] (pOne ((m.2.1.length:Int) + 1)) m.1 e (pMust [123] (pTake 0 (pTake 0 s).2).2)).2≤_
   unfold pLoopW szM
   simp only [List.length_append,List.length_cons,List.length_nil]
   omega
  ·split
   ·have h1:=mu_take_lt 0 s hb
    have h2:=(nums_pot ((pTake 0 s).2.r.length + 1) m.2.2 (pTake 0 s).2).1
    have h3:=mu_must [59] (pNums ((pTake 0 s).2.r.length + 1) m.2.2 (pTake 0 s).2).2
    show szM (m.1,m.2.1,(pNums ((pTake 0 s).2.r.length + 1) m.2.2 (pTake 0 s).2).1) + mu (pMust [59] (pNums ((pTake 0 s).2.r.length + 1) m.2.2 (pTake 0 s).2).2)≤_
    unfold szM
    simp only
    omega
   ·split
    ·refine hf _ _ ((map_good m).mu_lt e s hb) ?_
     unfold pMap szM;simp;omega
    ·refine hf _ _ ((plain_good m).mu_lt e s hb) ?_
     unfold pPlain szM;simp;omega
end Go.Proofs.YtddpjjhekhompaaGreatDoor.P
