/- Part 10 of what the law TableOrder leans on: contracts of the functions that it reaches, and plain lemmas. No condition. -/
import Derived.Lib.Join
import Derived.Lib.ItoaLen
import Derived.Deep.DeepWitnessRowRef
import Derived.Stop.LaidErr
import Derived.LaidLaws
import Derived.MakeChecks
import Derived.Test.YtddpjjhekhompaaGreatDoorRows
import Derived.Test.YtddpjjhekhompaaGreatDoorMTableOrder9
namespace Go.Proofs.YtddpjjhekhompaaGreatDoor.P
open Go.RowKit Go.Proofs.YtddpjjhekhompaaGreatDoorW.PrintWords Go.Proofs.YtddpjjhekhompaaGreatDoorW.PrintLast Go.Proofs.YtddpjjhekhompaaGreatDoorW.PrintMore
set_option linter.unusedVariables false
set_option linter.unusedSimpArgs false
theorem fail_zero {a e:Int} {b:Bool} {x c:Int} (hc:c≠0):(failE a e b x c).2=0↔e=0∧b=false:=by
 unfold failE
 by_cases h:b=true∧e=0
 ·rw [if_pos h]
  constructor
  ·intro h2;exact absurd h2 hc
  ·intro h2;rw [h.1] at h2;exact absurd h2.2 (by decide)
 ·rw [if_neg h]
  constructor
  ·intro h2
   refine ⟨h2,?_⟩
   cases b with
   | false=>rfl
   | true=>exact absurd ⟨rfl,h2⟩ h
  ·intro h2;exact h2.1
def enGood:Nat→List (S92)→(List UInt8→Option Bool)→(Int→Option Bool)→Prop
 | _,[],_,_=>True
 | i,v :: l,S,N=>enBad i v S N=false∧enGood (i + 1) l (setS S (bl v.f0)) (setN N v.f1)
theorem enL_zero:∀ (l:List (S92)) (i:Nat) (S:List UInt8→Option Bool) (N:Int→Option Bool) (a e:Int),(enL i l S N a e).2=0↔e=0∧enGood i l S N
 | [],i,S,N,a,e=>by simp [enL,enGood]
 | v :: l,i,S,N,a,e=>by
  rw [enL,enL_zero l,fail_zero (by decide),enGood]
  exact and_assoc
def fdFine (f:List UInt8→Option (Int × Int)) (x:S36):Prop:=(hasK x=true→(typO (bl x.f1)).isSome=true∧tmKey ((typO (bl x.f1)).getD 0)=true)∧(kindF f (bl x.f0)).2.2=true
def fdGood (f:List UInt8→Option (Int × Int)) (nO:Nat):List (S36)→(List UInt8→Option Bool)→(Int→Option Bool)→Prop
 | [],_,_=>True
 | x :: l,S,N=>(fdBad nO x S N=false∧fdFine f x)∧fdGood f nO l (setS S (bl x.f4)) (setN N x.f5)
theorem fdE_zero (f:List UInt8→Option (Int × Int)) (nO:Nat) (x:S36) (S:List UInt8→Option Bool) (N:Int→Option Bool) (a e:Int):(fdE f nO x S N a e).2=0↔e=0∧(fdBad nO x S N=false∧fdFine f x):=by
 unfold fdE fdE3
 rw [fail_zero (by decide)]
 have h2:(fdE2 x (fdE1 nO x S N a e)).2=0↔(e=0∧fdBad nO x S N=false)∧(hasK x=true→(typO (bl x.f1)).isSome=true∧tmKey ((typO (bl x.f1)).getD 0)=true):=by
  unfold fdE2
  by_cases hk:hasK x=true
  ·rw [if_pos hk,fail_zero (by decide)]
   unfold fdE1
   rw [fail_zero (by decide)]
   simp [hk]
  ·rw [if_neg hk]
   unfold fdE1
   rw [fail_zero (by decide)]
   simp [hk]
 rw [h2]
 unfold fdFine
 simp only [Bool.not_eq_false']
 constructor
 ·rintro ⟨⟨⟨h1,h2⟩,h3⟩,h4⟩;exact ⟨h1,h2,h3,h4⟩
 ·rintro ⟨h1,h2,h3,h4⟩;exact ⟨⟨⟨h1,h2⟩,h3⟩,h4⟩
theorem fdL_zero (f:List UInt8→Option (Int × Int)) (nO:Nat):∀ (l:List (S36)) (S:List UInt8→Option Bool) (N:Int→Option Bool) (a e:Int),(fdL f nO l S N a e).2=0↔e=0∧fdGood f nO l S N
 | [],S,N,a,e=>by simp [fdL,fdGood]
 | x :: l,S,N,a,e=>by
  rw [fdL,fdL_zero f nO l,fdE_zero,fdGood]
  exact and_assoc
def fdEach (f:List UInt8→Option (Int × Int)) (nO:Nat) (x:S36):Prop:=tmNum x.f5=true∧(0≤x.f3∧x.f3≤(nO:Int))∧fdTwo x=false∧fdFine f x
def fdAll (f:List UInt8→Option (Int × Int)) (nO:Nat) (l:List (S36)) (S:List UInt8→Option Bool) (N:Int→Option Bool):Prop :=
 (∀ x ∈ l,fdEach f nO x)∧(l.map (fun x=>bl x.f4)).Nodup∧(∀ x ∈ l,(S (bl x.f4)).getD false=false)∧(l.map (·.f5)).Nodup∧(∀ x ∈ l,(N x.f5).getD false=false)
theorem fdBad_no (nO:Nat) (x:S36) (S:List UInt8→Option Bool) (N:Int→Option Bool):fdBad nO x S N=false↔(S (bl x.f4)).getD false=false∧tmNum x.f5=true∧(N x.f5).getD false=false∧(0≤x.f3∧x.f3≤(nO:Int))∧fdTwo x=false:=by
 unfold fdBad
 simp only [Bool.or_eq_false_iff,Bool.not_eq_false',decide_eq_true_eq]
theorem setS_no {S:List UInt8→Option Bool} {x y:List UInt8}:(setS S x y).getD false=false↔y≠x∧(S y).getD false=false:=by
 unfold setS
 by_cases h:y=x
 ·rw [if_pos h];simp [h]
 ·rw [if_neg h];simp [h]
theorem setN_no {N:Int→Option Bool} {x y:Int}:(setN N x y).getD false=false↔y≠x∧(N y).getD false=false:=by
 unfold setN
 by_cases h:y=x
 ·rw [if_pos h];simp [h]
 ·rw [if_neg h];simp [h]
theorem fdGood_all (f:List UInt8→Option (Int × Int)) (nO:Nat):∀ (l:List (S36)) (S:List UInt8→Option Bool) (N:Int→Option Bool),fdGood f nO l S N↔fdAll f nO l S N
 | [],S,N=>by simp [fdGood,fdAll]
 | x :: l,S,N=>by
  rw [fdGood,fdGood_all f nO l,fdBad_no]
  unfold fdAll fdEach
  simp only [List.mem_cons,forall_eq_or_imp,List.map_cons,List.nodup_cons,List.mem_map,not_exists,not_and,setS_no,setN_no]
  constructor
  ·rintro ⟨⟨⟨h1,h2,h3,h4,h5⟩,h6⟩,h7,h8,h9,h10,h11⟩
   exact ⟨⟨⟨h2,h4,h5,h6⟩,h7⟩,⟨fun y hy e=>(h9 y hy).1 e,h8⟩,⟨h1,fun y hy=>(h9 y hy).2⟩,⟨fun y hy e=>(h11 y hy).1 e,h10⟩,h3,fun y hy=>(h11 y hy).2⟩
  ·rintro ⟨⟨⟨h2,h4,h5,h6⟩,h7⟩,⟨h9,h8⟩,⟨h1,h9'⟩,⟨h11,h10⟩,h3,h11'⟩
   exact ⟨⟨⟨h1,h2,h3,h4,h5⟩,h6⟩,h7,h8,fun y hy=>⟨fun e=>h9 y hy e,h9' y hy⟩,h10,fun y hy=>⟨fun e=>h11 y hy e,h11' y hy⟩⟩
def enAll (i:Nat) (l:List (S92)) (S:List UInt8→Option Bool) (N:Int→Option Bool):Prop :=
 (∀ v ∈ l,-2147483648≤v.f1∧v.f1≤2147483647)∧(l.map (fun v=>bl v.f0)).Nodup∧(∀ v ∈ l,(S (bl v.f0)).getD false=false)∧(l.map (·.f1)).Nodup∧(∀ v ∈ l,(N v.f1).getD false=false)∧(i=0→∀ v,l.head?=some v→v.f1=0)
theorem enBad_no (i:Nat) (v:S92) (S:List UInt8→Option Bool) (N:Int→Option Bool):enBad i v S N=false↔(S (bl v.f0)).getD false=false∧(N v.f1).getD false=false∧(-2147483648≤v.f1∧v.f1≤2147483647)∧(i=0→v.f1=0):=by
 unfold enBad
 simp only [Bool.or_eq_false_iff,decide_eq_false_iff_not,Bool.and_eq_false_iff,beq_eq_false_iff_ne,bne_eq_false_iff_eq,ne_eq]
 constructor
 ·rintro ⟨h1,h2,h3,h4,h5⟩
  refine ⟨h1,h2,⟨by omega,by omega⟩,fun h=>?_⟩
  rcases h5 with h5|h5
  ·exact absurd h h5
  ·exact h5
 ·rintro ⟨h1,h2,⟨h3,h4⟩,h5⟩
  refine ⟨h1,h2,by omega,by omega,?_⟩
  by_cases h:i=0
  ·exact .inr (h5 h)
  ·exact .inl h
theorem enGood_all:∀ (l:List (S92)) (i:Nat) (S:List UInt8→Option Bool) (N:Int→Option Bool),enGood i l S N↔enAll i l S N
 | [],i,S,N=>by simp [enGood,enAll]
 | v :: l,i,S,N=>by
  rw [enGood,enGood_all l,enBad_no]
  unfold enAll
  simp only [List.mem_cons,forall_eq_or_imp,List.map_cons,List.nodup_cons,List.mem_map,not_exists,not_and,setS_no,setN_no,List.head?_cons,Option.some.injEq]
  constructor
  ·rintro ⟨⟨h1,h2,h3,h4⟩,h5,h6,h7,h8,h9,_⟩
   exact ⟨⟨h3,h5⟩,⟨fun y hy e=>(h7 y hy).1 e,h6⟩,⟨h1,fun y hy=>(h7 y hy).2⟩,⟨fun y hy e=>(h9 y hy).1 e,h8⟩,⟨h2,fun y hy=>(h9 y hy).2⟩,fun h y e=>e ▸ h4 h⟩
  ·rintro ⟨⟨h3,h5⟩,⟨h7,h6⟩,⟨h1,h7'⟩,⟨h9,h8⟩,⟨h2,h9'⟩,h4⟩
   exact ⟨⟨h1,h2,h3,fun h=>h4 h v rfl⟩,h5,h6,fun y hy=>⟨fun e=>h7 y hy e,h7' y hy⟩,h8,fun y hy=>⟨fun e=>h9 y hy e,h9' y hy⟩,fun h=>by omega⟩
def addN (k:Int):Nat→List (List UInt8)→(List UInt8→Option (Int × Int))→List UInt8→Option (Int × Int)
 | _,[],f=>f
 | i,x :: l,f=>addN k (i + 1) l (fun y=>if y=x then some (k,(i:Int)) else f y)
theorem addN_no (k:Int):∀ (l:List (List UInt8)) (i:Nat) (f:List UInt8→Option (Int × Int)) (y:List UInt8),y ∉ l→addN k i l f y=f y
 | [],_,_,_,_=>rfl
 | x :: l,i,f,y,h=>by
  rw [addN,addN_no k l (i + 1) _ y (fun hy=>h (List.mem_cons_of_mem _ hy)),if_neg (fun e=>h (by rw [e];exact List.mem_cons_self ..))]
theorem addN_at (k:Int):∀ (l:List (List UInt8)) (i:Nat) (f:List UInt8→Option (Int × Int)) (j:Nat) (hj:j < l.length),l.Nodup→addN k i l f l[j]=some (k,((i + j:Nat):Int))
 | x :: l,i,f,0,_,hn=>by
  rw [List.nodup_cons] at hn
  show addN k (i + 1) l _ x=_
  rw [addN_no k l (i + 1) _ x hn.1,if_pos rfl]
  simp
 | x :: l,i,f,j + 1,hj,hn=>by
  rw [List.nodup_cons] at hn
  show addN k (i + 1) l _ (l[j]'(by simpa using hj))=_
  rw [addN_at k l (i + 1) _ j (by simpa using hj) hn.2]
  congr 3
  omega
def nmGood {α:Type} (P:α→Prop) (nm:α→List UInt8):List α→(List UInt8→Option (Int × Int))→Prop:=fun l f =>
 (∀ x ∈ l,P x∧typO (nm x)=none∧f (nm x)=none)∧(l.map nm).Nodup
def mgP (x:S34):Prop:=x.f1.length≤30∧x.f2.length≤30
def egP (x:S68):Prop:=1≤x.f1.length∧x.f1.length≤30
theorem mgE_zero (i:Nat) (x:S34) (s:NmSt):(mgE i x s).2.2=0↔s.2.2=0∧(mgP x∧typO (bl x.f0)=none∧s.1 (bl x.f0)=none):=by
 unfold mgE mgP
 simp only
 rw [fail_zero (by decide),fail_zero (by decide)]
 simp only [Bool.or_eq_false_iff,decide_eq_false_iff_not,Option.isSome_eq_false_iff,Option.isNone_iff_eq_none]
 constructor
 ·rintro ⟨⟨h1,h2,h3⟩,h4,h5⟩;exact ⟨h1,⟨by omega,by omega⟩,h2,h3⟩
 ·rintro ⟨h1,⟨h4,h5⟩,h2,h3⟩;exact ⟨⟨h1,h2,h3⟩,by omega,by omega⟩
theorem egE_zero (i:Nat) (x:S68) (s:NmSt):(egE i x s).2.2=0↔s.2.2=0∧(egP x∧typO (bl x.f0)=none∧s.1 (bl x.f0)=none):=by
 unfold egE egP
 simp only
 rw [fail_zero (by decide),fail_zero (by decide)]
 simp only [Bool.or_eq_false_iff,decide_eq_false_iff_not,Option.isSome_eq_false_iff,Option.isNone_iff_eq_none,beq_eq_false_iff_ne,ne_eq]
 constructor
 ·rintro ⟨⟨h1,h2,h3⟩,h4,h5⟩;exact ⟨h1,⟨by omega,by omega⟩,h2,h3⟩
 ·rintro ⟨h1,⟨h4,h5⟩,h2,h3⟩;exact ⟨⟨h1,h2,h3⟩,by omega,by omega⟩
theorem nameF_new {f:List UInt8→Option (Int × Int)} {nm:List UInt8} {q:Int × Int} (h:f nm=none):nameF f nm q=fun x=>if x=nm then some q else f x:=by
 unfold nameF
 rw [if_neg (by rw [h];simp)]
theorem new_none {f:List UInt8→Option (Int × Int)} {x y:List UInt8} {q:Int × Int}:(if y=x then some q else f y)=none↔y≠x∧f y=none:=by
 by_cases h:y=x
 ·rw [if_pos h];simp [h]
 ·rw [if_neg h];simp [h]
theorem mgL_zero:∀ (l:List (S34)) (i:Nat) (s:NmSt),(mgL i l s).2.2=0↔s.2.2=0∧nmGood mgP (fun x=>bl x.f0) l s.1
 | [],i,s=>by simp [mgL,nmGood]
 | x :: l,i,s=>by
  rw [mgL,mgL_zero l,mgE_zero]
  unfold nmGood
  simp only [List.mem_cons,forall_eq_or_imp,List.map_cons,List.nodup_cons,List.mem_map,not_exists,not_and]
  constructor
  ·rintro ⟨⟨h0,h1,h2,h3⟩,h4,h5⟩
   have h4':∀ y ∈ l,mgP y∧typO (bl y.f0)=none∧bl y.f0≠bl x.f0∧s.1 (bl y.f0)=none:=by
    intro y hy
    obtain ⟨a,b,c⟩:=h4 y hy
    have c':nameF s.1 (bl x.f0) (9,(i:Int)) (bl y.f0)=none:=c
    rw [nameF_new h3] at c'
    exact ⟨a,b,new_none.1 c'⟩
   exact ⟨h0,⟨⟨h1,h2,h3⟩,fun y hy=>⟨(h4' y hy).1,(h4' y hy).2.1,(h4' y hy).2.2.2⟩⟩,fun y hy e=>(h4' y hy).2.2.1 e,h5⟩
  ·rintro ⟨h0,⟨⟨h1,h2,h3⟩,h4⟩,h5,h6⟩
   refine ⟨⟨h0,h1,h2,h3⟩,fun y hy=>⟨(h4 y hy).1,(h4 y hy).2.1,?_⟩,h6⟩
   show nameF s.1 (bl x.f0) (9,(i:Int)) (bl y.f0)=none
   rw [nameF_new h3]
   exact new_none.2 ⟨h5 y hy,(h4 y hy).2.2⟩
theorem mgL_names:∀ (l:List (S34)) (i:Nat) (s:NmSt),nmGood mgP (fun x=>bl x.f0) l s.1→(mgL i l s).1=addN 9 i (l.map (fun x=>bl x.f0)) s.1
 | [],i,s,_=>rfl
 | x :: l,i,s,h=>by
  have h3:=(h.1 x (List.mem_cons_self ..)).2.2
  have hn:=h.2
  rw [List.map_cons,List.nodup_cons] at hn
  have e:(mgE i x s).1=fun y=>if y=bl x.f0 then some (9,(i:Int)) else s.1 y:=nameF_new h3
  rw [mgL,mgL_names l (i + 1),e]
  ·rfl
  ·refine ⟨fun y hy=>⟨(h.1 y (List.mem_cons_of_mem _ hy)).1,(h.1 y (List.mem_cons_of_mem _ hy)).2.1,?_⟩,hn.2⟩
   rw [e]
   exact new_none.2 ⟨fun e2=>hn.1 (List.mem_map.2 ⟨y,hy,e2⟩),(h.1 y (List.mem_cons_of_mem _ hy)).2.2⟩
theorem egL_zero:∀ (l:List (S68)) (i:Nat) (s:NmSt),(egL i l s).2.2=0↔s.2.2=0∧nmGood egP (fun x=>bl x.f0) l s.1
 | [],i,s=>by simp [egL,nmGood]
 | x :: l,i,s=>by
  rw [egL,egL_zero l,egE_zero]
  unfold nmGood
  simp only [List.mem_cons,forall_eq_or_imp,List.map_cons,List.nodup_cons,List.mem_map,not_exists,not_and]
  constructor
  ·rintro ⟨⟨h0,h1,h2,h3⟩,h4,h5⟩
   have h4':∀ y ∈ l,egP y∧typO (bl y.f0)=none∧bl y.f0≠bl x.f0∧s.1 (bl y.f0)=none:=by
    intro y hy
    obtain ⟨a,b,c⟩:=h4 y hy
    have c':nameF s.1 (bl x.f0) (6,(i:Int)) (bl y.f0)=none:=c
    rw [nameF_new h3] at c'
    exact ⟨a,b,new_none.1 c'⟩
   exact ⟨h0,⟨⟨h1,h2,h3⟩,fun y hy=>⟨(h4' y hy).1,(h4' y hy).2.1,(h4' y hy).2.2.2⟩⟩,fun y hy e=>(h4' y hy).2.2.1 e,h5⟩
  ·rintro ⟨h0,⟨⟨h1,h2,h3⟩,h4⟩,h5,h6⟩
   refine ⟨⟨h0,h1,h2,h3⟩,fun y hy=>⟨(h4 y hy).1,(h4 y hy).2.1,?_⟩,h6⟩
   show nameF s.1 (bl x.f0) (6,(i:Int)) (bl y.f0)=none
   rw [nameF_new h3]
   exact new_none.2 ⟨h5 y hy,(h4 y hy).2.2⟩
theorem egL_names:∀ (l:List (S68)) (i:Nat) (s:NmSt),nmGood egP (fun x=>bl x.f0) l s.1→(egL i l s).1=addN 6 i (l.map (fun x=>bl x.f0)) s.1
 | [],i,s,_=>rfl
 | x :: l,i,s,h=>by
  have h3:=(h.1 x (List.mem_cons_self ..)).2.2
  have hn:=h.2
  rw [List.map_cons,List.nodup_cons] at hn
  have e:(egE i x s).1=fun y=>if y=bl x.f0 then some (6,(i:Int)) else s.1 y:=nameF_new h3
  rw [egL,egL_names l (i + 1),e]
  ·rfl
  ·refine ⟨fun y hy=>⟨(h.1 y (List.mem_cons_of_mem _ hy)).1,(h.1 y (List.mem_cons_of_mem _ hy)).2.1,?_⟩,hn.2⟩
   rw [e]
   exact new_none.2 ⟨fun e2=>hn.1 (List.mem_map.2 ⟨y,hy,e2⟩),(h.1 y (List.mem_cons_of_mem _ hy)).2.2⟩
def rsNm (M:List (S34)) (E:List (S68)):List UInt8→Option (Int × Int):=addN 6 0 (E.map (fun x=>bl x.f0)) (addN 9 0 (M.map (fun x=>bl x.f0)) (fun _=>none))
def rsGood (M:List (S34)) (E:List (S68)):Prop :=
 (∀ x ∈ M,mgP x∧typO (bl x.f0)=none)∧(∀ x ∈ E,egP x∧typO (bl x.f0)=none)∧(M.map (fun x=>bl x.f0)++E.map (fun x=>bl x.f0)).Nodup ∧
 (∀ x ∈ M,fdAll (rsNm M E) x.f2.length x.f1 (onesS x.f2) (resN x.f3))∧(∀ x ∈ E,enAll 0 x.f1 (fun _=>none) (fun _=>none))
theorem mrL_zero (f:List UInt8→Option (Int × Int)):∀ (l:List (S34)) (r:Int × Int),(mrL f l r).2=0↔r.2=0∧∀ x ∈ l,fdAll f x.f2.length x.f1 (onesS x.f2) (resN x.f3)
 | [],r=>by simp [mrL]
 | x :: l,r=>by
  rw [mrL,mrL_zero f l]
  unfold msE
  rw [fdL_zero,fdGood_all]
  simp only [List.mem_cons,forall_eq_or_imp]
  exact and_assoc
theorem enuL_zero:∀ (l:List (S68)) (r:Int × Int),(enuL l r).2=0↔r.2=0∧∀ x ∈ l,enAll 0 x.f1 (fun _=>none) (fun _=>none)
 | [],r=>by simp [enuL]
 | x :: l,r=>by
  rw [enuL,enuL_zero l]
  unfold enE
  rw [enL_zero,enGood_all]
  simp only [List.mem_cons,forall_eq_or_imp]
  exact and_assoc
theorem rsN_good (M:List (S34)) (E:List (S68)):nmGood mgP (fun x=>bl x.f0) M (fun _=>none)∧nmGood egP (fun x=>bl x.f0) E (mgL 0 M (fun _=>none,0,0)).1↔(∀ x ∈ M,mgP x∧typO (bl x.f0)=none)∧(∀ x ∈ E,egP x∧typO (bl x.f0)=none)∧(M.map (fun x=>bl x.f0)++E.map (fun x=>bl x.f0)).Nodup:=by
 constructor
 ·rintro ⟨h1,h2⟩
  have e:=mgL_names M 0 (fun _=>none,0,0) h1
  refine ⟨fun x hx=>⟨(h1.1 x hx).1,(h1.1 x hx).2.1⟩,fun x hx=>⟨(h2.1 x hx).1,(h2.1 x hx).2.1⟩,List.nodup_append.2 ⟨h1.2,h2.2,fun a ha b hb hab=>?_⟩⟩
  obtain ⟨x,hx,rfl⟩:=List.mem_map.1 hb
  obtain ⟨j,hj,hj2⟩:=List.getElem_of_mem ha
  have h3:=(h2.1 x hx).2.2
  rw [e] at h3
  have h4:=addN_at 9 (M.map (fun x=>bl x.f0)) 0 (fun _=>none) j hj h1.2
  rw [hj2,hab] at h4
  have h4':addN 9 0 (M.map (fun x=>bl x.f0)) (fun _=>none) (bl x.f0)=some (9,((0 + j:Nat):Int)):=h4
  rw [show addN 9 0 (M.map (fun x=>bl x.f0)) ((fun _=>none,(0:Int),(0:Int)):NmSt).1=addN 9 0 (M.map (fun x=>bl x.f0)) (fun _=>none) from rfl] at h3
  rw [h3] at h4'
  cases h4'
 ·rintro ⟨h1,h2,h3⟩
  obtain ⟨n1,n2,n3⟩:=List.nodup_append.1 h3
  have g1:nmGood mgP (fun x=>bl x.f0) M (fun _=>none):=⟨fun x hx=>⟨(h1 x hx).1,(h1 x hx).2,rfl⟩,n1⟩
  have e:=mgL_names M 0 (fun _=>none,0,0) g1
  refine ⟨g1,fun x hx=>⟨(h2 x hx).1,(h2 x hx).2,?_⟩,n2⟩
  rw [e]
  exact addN_no 9 _ 0 _ _ (fun hm=>n3 _ hm _ (List.mem_map.2 ⟨x,hx,rfl⟩) rfl)
theorem rsN_good0 (M:List (S34)) (E:List (S68)):(rsN M E).2.2=0↔nmGood mgP (fun x=>bl x.f0) M (fun _=>none)∧nmGood egP (fun x=>bl x.f0) E (mgL 0 M (fun _=>none,0,0)).1:=by
 unfold rsN
 rw [egL_zero,mgL_zero]
 simp
theorem rsE_zero (M:List (S34)) (E:List (S68)):(rsE M E).2=0↔rsGood M E:=by
 unfold rsE
 rw [enuL_zero,mrL_zero]
 simp only
 rw [rsN_good0]
 have names:nmGood mgP (fun x=>bl x.f0) M (fun _=>none)∧nmGood egP (fun x=>bl x.f0) E (mgL 0 M (fun _=>none,0,0)).1→(rsN M E).1=rsNm M E:=by
  rintro ⟨h1,h2⟩
  unfold rsN rsNm
  rw [egL_names E 0 _ h2,mgL_names M 0 _ h1]
 unfold rsGood
 constructor
 ·rintro ⟨⟨h1,h2⟩,h3⟩
  obtain ⟨k1,k2,k3⟩:=(rsN_good M E).1 h1
  rw [names h1] at h2
  exact ⟨k1,k2,k3,h2,h3⟩
 ·rintro ⟨k1,k2,k3,h2,h3⟩
  have h1:=(rsN_good M E).2 ⟨k1,k2,k3⟩
  refine ⟨⟨h1,?_⟩,h3⟩
  rw [names h1]
  exact h2
end Go.Proofs.YtddpjjhekhompaaGreatDoor.P
namespace Go.Proofs.YtddpjjhekhompaaGreatDoor.P
end Go.Proofs.YtddpjjhekhompaaGreatDoor.P
namespace Go.Proofs.YtddpjjhekhompaaGreatDoor.P
open Go.RowKit Go.Proofs.YtddpjjhekhompaaGreatDoorW.PrintWords Go.Proofs.YtddpjjhekhompaaGreatDoorW.PrintLast Go.Proofs.YtddpjjhekhompaaGreatDoorW.PrintMore
set_option linter.unusedVariables false
set_option linter.unusedSimpArgs false
theorem allEq_self {α:Type} (g:α→α→Bool) (h:∀ x,g x x=true):∀ l:List α,allEq g l l=true
 | []=>rfl
 | x :: r=>by rw [allEq,h x,allEq_self g h r];rfl
end Go.Proofs.YtddpjjhekhompaaGreatDoor.P
namespace Go.Proofs.YtddpjjhekhompaaGreatDoor.P
end Go.Proofs.YtddpjjhekhompaaGreatDoor.P
namespace Go.Proofs.YtddpjjhekhompaaGreatDoor.P
open Go.RowKit Go.Proofs.YtddpjjhekhompaaGreatDoorW.PrintWords Go.Proofs.YtddpjjhekhompaaGreatDoorW.PrintLast Go.Proofs.YtddpjjhekhompaaGreatDoorW.PrintMore
set_option linter.unusedVariables false
set_option linter.unusedSimpArgs false
theorem fd_strict {l:List (S51)} (h:(l.map (·.f0)).Nodup):(fdSort l).Pairwise (fun a b=>a.f0 < b.f0):=by
 have h1:=fd_sorts l
 have h2:((fdSort l).map (·.f0)).Nodup:=(h1.1.map _).nodup_iff.2 h
 rw [List.Nodup,List.pairwise_map] at h2
 exact (h1.2.and h2).imp (fun h=>by omega)
theorem sch_refl (a:List (S57)) (b:List (S119)):sameSch a b a b=true:=by
 unfold sameSch
 rw [allEq_self sameMD (fun x=>by unfold sameMD;rw [if_pos rfl];exact allEq_self fdEq (fun y=>by unfold fdEq;simp) _),allEq_self sameED (fun x=>by unfold sameED;rw [if_pos rfl,allEq_self strEq (fun y=>by simp [strEq]),allEq_self intEq (fun y=>by simp [intEq])];rfl)]
 rfl
theorem all_set {α:Type} {P:α→Prop} (l:List α) (m:Nat) (hm:m < l.length) (y:α) (h:P y↔P l[m]):(∀ x ∈ l.set m y,P x)↔∀ x ∈ l,P x:=by
 rw [List.forall_mem_iff_forall_getElem,List.forall_mem_iff_forall_getElem]
 constructor
 ·intro g i hi
  have:=g i (by simpa using hi)
  rw [List.getElem_set] at this
  by_cases e:m=i
  ·subst e;rw [if_pos rfl] at this;exact h.1 this
  ·rw [if_neg e] at this;exact this
 ·intro g i hi
  rw [List.getElem_set]
  by_cases e:m=i
  ·subst e;rw [if_pos rfl];exact h.2 (g m hm)
  ·rw [if_neg e];exact g i (by simpa using hi)
theorem map_same {α β:Type} (f:α→β) (l:List α) (m:Nat) (hm:m < l.length) (y:α) (h:f y=f l[m]):(l.set m y).map f=l.map f:=by
 apply List.ext_getElem
 ·simp
 ·intro i h1 h2
  rw [List.getElem_map,List.getElem_map,List.getElem_set]
  by_cases e:m=i
  ·subst e;rw [if_pos rfl,h]
  ·rw [if_neg e]
theorem sorted_eq:∀ (l m:List (S51)),l.Perm m→l.Pairwise (fun a b=>a.f0 < b.f0)→m.Pairwise (fun a b=>a.f0 < b.f0)→l=m
 | [],m,h,_,_=>h.nil_eq
 | x :: l,[],h,_,_=>by have:=h.length_eq;simp at this
 | x :: l,y :: m,h,h1,h2=>by
  rw [List.pairwise_cons] at h1 h2
  have e:x=y:=by
   rcases List.mem_cons.1 (h.mem_iff.1 (List.mem_cons_self ..)) with e|e
   ·exact e
   ·rcases List.mem_cons.1 (h.mem_iff.2 (List.mem_cons_self ..)) with e2|e2
    ·exact e2.symm
    ·have:=h2.1 x e;have:=h1.1 y e2;omega
  subst e
  rw [sorted_eq l m (List.Perm.cons_inv h) h1.2 h2.2]
theorem sort_perm {l m:List (S51)} (h:l.Perm m) (hn:(m.map (·.f0)).Nodup):fdSort l=fdSort m:=by
 have hl:=fd_sorts l
 have hm:=fd_sorts m
 exact sorted_eq _ _ (hl.1.trans (h.trans hm.1.symm)) (fd_strict (((h.map _).nodup_iff).2 hn)) (fd_strict hn)
theorem all_perm (f:List UInt8→Option (Int × Int)) (nO:Nat) {l m:List (S36)} (h:l.Perm m) (S:List UInt8→Option Bool) (N:Int→Option Bool):fdAll f nO l S N↔fdAll f nO m S N:=by
 unfold fdAll
 simp only [h.mem_iff,(h.map _).nodup_iff]
def ReFd (x y:S34):Prop:=y.f0=x.f0∧y.f1.Perm x.f1∧y.f2=x.f2∧y.f3=x.f3
section
variable {M:List (S34)} {E:List (S68)} {m:Nat} {y:S34}
theorem re_names (hm:m < M.length) (h:ReFd M[m] y):rsNm (M.set m y) E=rsNm M E:=by
 unfold rsNm
 rw [map_same (fun x:S34=>bl x.f0) M m hm y (by show bl y.f0=bl M[m].f0;rw [h.1])]
theorem re_good (hm:m < M.length) (h:ReFd M[m] y):rsGood (M.set m y) E↔rsGood M E:=by
 unfold rsGood
 rw [re_names hm h,map_same (fun x:S34=>bl x.f0) M m hm y (by show bl y.f0=bl M[m].f0;rw [h.1]),all_set M m hm y (by unfold mgP;rw [h.1,h.2.1.length_eq,h.2.2.1]),all_set M m hm y (by rw [h.2.2.1,h.2.2.2];exact all_perm _ _ h.2.1 _ _)]
theorem re_defs (hm:m < M.length) (h:ReFd M[m] y) (hg:rsGood M E):(M.set m y).map (msDef (rsNm M E))=M.map (msDef (rsNm M E)):=by
 refine map_same _ M m hm y ?_
 have h4:=(hg.2.2.2.1 _ (List.getElem_mem hm)).2.2.2.1
 unfold msDef
 rw [h.1,sort_perm (h.2.1.map _) (by rw [List.map_map];exact h4)]
theorem re_ok (hm:m < M.length) (h:ReFd M[m] y) (hk:RsOk M E):RsOk (M.set m y) E:=by
 refine ⟨(all_set M m hm y ?_).2 hk.1,hk.2⟩
 unfold RmOk
 rw [h.1,h.2.1.length_eq,h.2.2.1,h.2.2.2]
 simp only [h.2.1.mem_iff]
end
def fileM (x:S34):Bool:=decide ((x.f1.length:Int)≤40) && (decide ((x.f2.length:Int)≤40) && decide ((x.f3.length:Int)≤40))
def fileE (x:S68):Bool:=decide ((x.f1.length:Int)≤40)
def fileB (M:List (S34)) (E:List (S68)):Bool:=decide (M.length≤30) && (decide (E.length≤30) && (M.all fileM && E.all fileE))
theorem file_l1 (M:List (S34)) (E:List (S68)) (hE:E.length≤9223372036854775807):∀ (n i k:Nat) (b:Bool),i + n=E.length→n < k→trufflelaw08_few.l1 k b (i:Int) M E=some (b && (E.drop i).all fileE):=by
 intro n
 induction n with
 | zero =>
  intro i k b hi hk
  obtain ⟨k,rfl⟩:∃ q,k=q + 1:=⟨k - 1,by omega⟩
  rw [trufflelaw08_few.l1,if_neg (by omega),List.drop_eq_nil_of_le (by omega)]
  simp
 | succ n ih =>
  intro i k b hi hk
  obtain ⟨k,rfl⟩:∃ q,k=q + 1:=⟨k - 1,by omega⟩
  have hlt:i < E.length:=by omega
  have hrd:rd_T68 E (i:Int)=E[i]:=by unfold rd_T68;rw [Int.toNat_natCast,List.getD_eq_getElem?_getD];simp [hlt]
  have hw:wrap64 ((i:Int) + 1)=((i + 1:Nat):Int):=by unfold wrap64;omega
  rw [trufflelaw08_few.l1,if_pos (by omega),hrd,hw]
  cases b with
  | false=>rw [if_neg (by decide),Bool.false_and]
  | true =>
   rw [if_pos rfl,if_pos (by omega),List.drop_eq_getElem_cons hlt,List.all_cons,Bool.true_and,ih (i + 1) k _ (by omega) (by omega)]
   rfl
theorem file_l0 (M:List (S34)) (E:List (S68)) (hM:M.length≤9223372036854775807) (hE:E.length≤9223372036854775807):∀ (n i k:Nat) (b:Bool),i + n=M.length→n + E.length + 3≤k→trufflelaw08_few.l0 k b (i:Int) M E=some (b && ((M.drop i).all fileM && E.all fileE)):=by
 have hj:∀ (k:Nat) (b:Bool),E.length + 2≤k→trufflelaw08_few.j2 k b M E=some (b && E.all fileE):=by
  intro k b hk
  obtain ⟨k,rfl⟩:∃ q,k=q + 1:=⟨k - 1,by omega⟩
  have:=file_l1 M E hE E.length 0 k b (by omega) (by omega)
  rw [trufflelaw08_few.j2]
  exact this
 intro n
 induction n with
 | zero =>
  intro i k b hi hk
  obtain ⟨k,rfl⟩:∃ q,k=q + 1:=⟨k - 1,by omega⟩
  rw [trufflelaw08_few.l0,if_neg (by omega),List.drop_eq_nil_of_le (by omega),hj k b (by omega)]
  simp
 | succ n ih =>
  intro i k b hi hk
  obtain ⟨k,rfl⟩:∃ q,k=q + 1:=⟨k - 1,by omega⟩
  have hlt:i < M.length:=by omega
  have hrd:rd_T34 M (i:Int)=M[i]:=by unfold rd_T34;rw [Int.toNat_natCast,List.getD_eq_getElem?_getD];simp [hlt]
  have hw:wrap64 ((i:Int) + 1)=((i + 1:Nat):Int):=by unfold wrap64;omega
  rw [trufflelaw08_few.l0,if_pos (by omega),hrd,hw]
  cases b with
  | false=>rw [if_neg (by decide),hj k false (by omega),Bool.false_and,Bool.false_and]
  | true =>
   rw [if_pos rfl,if_pos (by omega),List.drop_eq_getElem_cons hlt,List.all_cons,Bool.true_and,Bool.and_assoc]
   unfold fileM
   by_cases h1:((M[i].f1.length:Int))≤40
   ·rw [if_pos h1,decide_eq_true h1,Bool.true_and]
    by_cases h2:((M[i].f2.length:Int))≤40
    ·rw [if_pos h2,decide_eq_true h2,Bool.true_and,ih (i + 1) k _ (by omega) (by omega)]
     rfl
    ·rw [if_neg h2,decide_eq_false h2,Bool.false_and,Bool.false_and,ih (i + 1) k _ (by omega) (by omega),Bool.false_and]
   ·rw [if_neg h1,decide_eq_false h1,Bool.false_and,Bool.false_and,ih (i + 1) k _ (by omega) (by omega),Bool.false_and]
theorem file_f (M:List (S34)) (E:List (S68)) (hM:M.length≤9223372036854775807) (hE:E.length≤9223372036854775807) (k:Nat) (hk:M.length + E.length + 4≤k):trufflelaw08_few.f k M E=some (fileB M E):=by
 obtain ⟨k,rfl⟩:∃ q,k=q + 1:=⟨k - 1,by omega⟩
 have hl:∀ b,trufflelaw08_few.j0 (k + 1) b M E=some (b && (M.all fileM && E.all fileE)):=by
  intro b
  have:=file_l0 M E hM hE M.length 0 k b (by omega) (by omega)
  rw [trufflelaw08_few.j0]
  exact this
 unfold trufflelaw08_few.f fileB
 have e1:decide ((E.length:Int)≤30)=decide (E.length≤30):=decide_eq_decide.2 (by omega)
 by_cases h:M.length≤30
 ·rw [if_pos (by omega),hl,e1,decide_eq_true h,Bool.true_and]
 ·rw [if_neg (by omega),hl,decide_eq_false h,Bool.false_and,Bool.false_and]
theorem file_ok (M:List (S34)) (E:List (S68)) (ht:FiOk M E) (h:fileB M E=true):RsOk M E∧M.length≤30∧∀ x ∈ M,x.f1.length≤40:=by
 unfold fileB at h
 simp only [Bool.and_eq_true,decide_eq_true_eq,List.all_eq_true] at h
 have hm:∀ x ∈ M,x.f1.length≤40∧x.f2.length≤40∧x.f3.length≤40:=by
  intro x hx
  have:=h.2.2.1 x hx
  unfold fileM at this
  simp only [Bool.and_eq_true,decide_eq_true_eq] at this
  omega
 have he:∀ x ∈ E,x.f1.length≤40:=by
  intro x hx
  have:=h.2.2.2 x hx
  unfold fileE at this
  simp only [decide_eq_true_eq] at this
  omega
 refine ⟨⟨fun x hx=>?_,fun x hx=>?_⟩,h.1,fun x hx=>(hm x hx).1⟩
 ·obtain ⟨a,b,c,d,e⟩:=ht.2.1 x hx
  have:=hm x hx
  exact ⟨a,⟨by omega,by omega,by omega⟩,c,d,e⟩
 ·obtain ⟨a,b,c⟩:=ht.2.2 x hx
  have:=he x hx
  exact ⟨a,by omega,c⟩
theorem rsN_names (M:List (S34)) (E:List (S68)) (h:rsGood M E):(rsN M E).1=rsNm M E:=by
 obtain ⟨h1,h2,h3,_,_⟩:=h
 obtain ⟨n1,n2,n3⟩:=List.nodup_append.1 h3
 have g1:nmGood mgP (fun x=>bl x.f0) M (fun _=>none):=⟨fun x hx=>⟨(h1 x hx).1,(h1 x hx).2,rfl⟩,n1⟩
 have e:=mgL_names M 0 (fun _=>none,0,0) g1
 have g2:nmGood egP (fun x=>bl x.f0) E (mgL 0 M (fun _=>none,0,0)).1:=by
  refine ⟨fun x hx=>⟨(h2 x hx).1,(h2 x hx).2,?_⟩,n2⟩
  rw [e]
  exact addN_no 9 _ 0 _ _ (fun hm=>n3 _ hm _ (List.mem_map.2 ⟨x,hx,rfl⟩) rfl)
 unfold rsN rsNm
 rw [egL_names E 0 _ g2,e]
theorem rsF_good (M:List (S34)) (E:List (S68)) (h0:1≤M.length∧M.length≤20∧E.length≤20) (h:rsGood M E):rsF M E=((M.map (msDef (rsNm M E)),E.map enDef),0,0):=by
 unfold rsF
 rw [if_neg (by omega),if_pos ((rsE_zero M E).2 h),rsN_names M E h]
theorem rsF_bad (M:List (S34)) (E:List (S68)) (h:¬ ((1≤M.length∧M.length≤20∧E.length≤20)∧rsGood M E)):∃ a e:Int,e≠0∧rsF M E=(([],[]),a,e):=by
 unfold rsF
 by_cases h0:M.length=0∨20 < M.length∨20 < E.length
 ·rw [if_pos h0]
  exact ⟨0,2,by decide,rfl⟩
 ·rw [if_neg h0]
  by_cases hz:(rsE M E).2=0
  ·exact absurd ⟨by omega,(rsE_zero M E).1 hz⟩ h
  ·rw [if_neg hz]
   exact ⟨_,_,hz,rfl⟩
theorem order_j0 (M:List (S34)) (E:List (S68)) (hok:RsOk M E) (h30:M.length≤30) (h40:∀ x ∈ M,x.f1.length≤40) (m a b:Nat) (hm:m < M.length) (ha:a < M[m].f1.length) (hb:b < M[m].f1.length) (k:Nat):trufflelaw08_TableOrder.j0 (k + 1) (m:Int) (a:Int) (b:Int) true false M E=some true:=by
 have hrd:rd_T34 M (m:Int)=M[m]:=by unfold rd_T34;rw [Int.toNat_natCast,List.getD_eq_getElem?_getD];simp [hm]
 have h40':=h40 _ (List.getElem_mem hm)
 have hra:rd_T36 M[m].f1 (a:Int)=M[m].f1[a]:=by unfold rd_T36;rw [Int.toNat_natCast,List.getD_eq_getElem?_getD];simp [ha]
 have hrb:rd_T36 M[m].f1 (b:Int)=M[m].f1[b]:=by unfold rd_T36;rw [Int.toNat_natCast,List.getD_eq_getElem?_getD];simp [hb]
 have hr:table_Resolve.f M E=some ((rsF M E).1.1,(rsF M E).1.2,(rsF M E).2.1,(rsF M E).2.2):=by unfold table_Resolve.f;rw [if_pos hok]
 obtain ⟨y,hy⟩:∃ y:S34,y=⟨M[m].f0,(M[m].f1.set a M[m].f1[b]).set b M[m].f1[a],M[m].f2,M[m].f3,M[m].f4⟩:=⟨_,rfl⟩
 have hre:ReFd M[m] y:=by rw [hy];exact ⟨rfl,List.set_set_perm ha hb,rfl,rfl⟩
 have hok2:=re_ok hm hre hok
 have hr2:table_Resolve.f (M.set m y) E=some ((rsF (M.set m y) E).1.1,(rsF (M.set m y) E).1.2,(rsF (M.set m y) E).2.1,(rsF (M.set m y) E).2.2):=by unfold table_Resolve.f;rw [if_pos hok2]
 rw [trufflelaw08_TableOrder.j0,if_neg (by decide),hr,Option.bind_some]
 simp only [List.length_nil,List.nil_append,Option.bind_some,hrd,hra,hrb,Int.toNat_natCast]
 rw [if_pos (by omega),if_pos (by omega),if_pos (by omega),if_pos (by omega),if_pos (by omega),if_pos (by omega),if_pos (by omega),if_pos (by omega),if_pos (by omega)]
 have e:(⟨M[m].f0,(M[m].f1.set a (⟨M[m].f1[b].f0,M[m].f1[b].f1,M[m].f1[b].f2,M[m].f1[b].f3,M[m].f1[b].f4,M[m].f1[b].f5,M[m].f1[b].f6⟩:S36)).set b (⟨M[m].f1[a].f0,M[m].f1[a].f1,M[m].f1[a].f2,M[m].f1[a].f3,M[m].f1[a].f4,M[m].f1[a].f5,M[m].f1[a].f6⟩:S36),M[m].f2,M[m].f3,M[m].f4⟩:S34)=y:=by rw [hy]
 rw [e,hr2,Option.bind_some]
 unfold table_Same.f
 by_cases hg:(1≤M.length∧M.length≤20∧E.length≤20)∧rsGood M E
 ·have hg2:rsGood (M.set m y) E:=(re_good hm hre).2 hg.2
  rw [rsF_good M E hg.1 hg.2,rsF_good (M.set m y) E (by rw [List.length_set];exact hg.1) hg2,re_names hm hre,re_defs hm hre hg.2]
  simp [sch_refl]
 ·obtain ⟨p,q,hq,h⟩:=rsF_bad M E hg
  have hg2:¬ ((1≤(M.set m y).length∧(M.set m y).length≤20∧E.length≤20)∧rsGood (M.set m y) E):=by rw [List.length_set,re_good hm hre];exact hg
  obtain ⟨p2,q2,hq2,h2⟩:=rsF_bad (M.set m y) E hg2
  rw [h,h2]
  have b1:(q == 0)=false:=beq_eq_false_iff_ne.2 hq
  have b2:(q2 == 0)=false:=beq_eq_false_iff_ne.2 hq2
  simp [sch_refl,b1,b2]
theorem TableOrder (M:List (S34)) (E:List (S68)) (ht:FiOk M E) (a1 a2 a3:Int):∃ k,trufflelaw08_TableOrder.f k M E a1 a2 a3=some true:=by
 have hmx:maxLen≤9223372036854775807:=by decide
 refine ⟨M.length + E.length + 2000,?_⟩
 unfold trufflelaw08_TableOrder.f
 rw [awake08_true,Option.bind_some,file_f M E (Nat.le_trans ht.1.1 hmx) (Nat.le_trans ht.1.2 hmx) _ (by omega),Option.bind_some,if_pos rfl]
 obtain ⟨q,hq⟩:∃ q,M.length + E.length + 2000=q + 1:=⟨M.length + E.length + 1999,by omega⟩
 rw [hq]
 have hj:trufflelaw08_TableOrder.j0 (q + 1) a1 a2 a3 true true M E=some true:=by rw [trufflelaw08_TableOrder.j0,if_pos rfl]
 rw [hj]
 cases hfw:fileB M E with
 | false=>rw [if_neg (by decide)]
 | true =>
  rw [if_pos rfl]
  obtain ⟨hok,h30,h40⟩:=file_ok M E ht hfw
  by_cases c1:a1 < 0
  ·rw [if_pos c1]
  rw [if_neg c1]
  by_cases c2:a1 ≥ (M.length:Int)
  ·rw [if_pos c2]
  rw [if_neg c2]
  by_cases c3:a2 < 0
  ·rw [if_pos c3]
  rw [if_neg c3]
  by_cases c4:a3 < 0
  ·rw [if_pos c4]
  rw [if_neg c4,if_pos (by omega),if_pos (by omega)]
  obtain ⟨m,rfl⟩:∃ m:Nat,a1=(m:Int):=⟨a1.toNat,by omega⟩
  obtain ⟨a,rfl⟩:∃ m:Nat,a2=(m:Int):=⟨a2.toNat,by omega⟩
  obtain ⟨b,rfl⟩:∃ m:Nat,a3=(m:Int):=⟨a3.toNat,by omega⟩
  have hm:m < M.length:=by omega
  have hrd:rd_T34 M (m:Int)=M[m]:=by unfold rd_T34;rw [Int.toNat_natCast,List.getD_eq_getElem?_getD];simp [hm]
  rw [hrd]
  by_cases c5:(a:Int) ≥ (M[m].f1.length:Int)
  ·rw [if_pos c5]
  rw [if_neg c5]
  by_cases c6:(b:Int) ≥ (M[m].f1.length:Int)
  ·rw [decide_eq_true c6,hj]
  rw [decide_eq_false c6]
  exact order_j0 M E hok h30 h40 m a b hm (by omega) (by omega) q
theorem TableOrderW (M:List (S34)) (E:List (S68)) (A0:Option Addr) (c0:Nat) (A1:Option Addr) (c1:Nat) (a1 a2 a3:Int) (W:World) (hC:Kd.C k34 W A0 M.length M) (hc:M.length≤c0) (hB:Kd.C k68 W A1 E.length E) (hb:E.length≤c1) (ht:FiOk M E) (_:(Lit.int .i64 a1).wf=true) (_:(Lit.int .i64 a2).wf=true) (_:(Lit.int .i64 a3).wf=true) (hG:GInv W) :
  Calls Tryz.prog 8 #[.agg #[.slice A0 M.length c0,.slice A1 E.length c1],.int .i64 a1,.int .i64 a2,.int .i64 a3] W fun e w'=>e = .returned (.bool true)∧Below W.heap.size W w':=by
 obtain ⟨k,h⟩:=TableOrder M E ht a1 a2 a3
 exact trufflelaw08_TableOrder.calls k A0 c0 M A1 c1 E a1 a2 a3 W hG hC hc hB hb h
end Go.Proofs.YtddpjjhekhompaaGreatDoor.P
namespace Go.Proofs.YtddpjjhekhompaaGreatDoor.laidKit
open Go.RowKit
abbrev lst : List (String × DataW Unit) := [("math/bits.deBruijn32tab", Rows.laid_math_bits_deBruijn32tab), ("math/bits.deBruijn64tab", Rows.laid_math_bits_deBruijn64tab), ("internal/strconv.uint64pow10", Rows.laid_internal_strconv_uint64pow10), ("strconv.ErrRange", Rows.laid_strconv_ErrRange), ("strconv.ErrSyntax", Rows.laid_strconv_ErrSyntax)]
theorem gPow : Tryz.prog.globalNamed "internal/strconv.uint64pow10" = some 0 := by kernel_rfl
theorem gPowT:(Tryz.prog.globals[0]?).map (·.type)=some 249:=by kernel_rfl
theorem cPow:Tryz.prog.cellsOf 249=20:=by kernel_rfl
theorem cU64:Tryz.prog.cellsOf 218=1:=by kernel_rfl
theorem gRng : Tryz.prog.globalNamed "strconv.ErrRange" = some 2 := by kernel_rfl
theorem gRngT:(Tryz.prog.globals[2]?).map (·.type)=some 162:=by kernel_rfl
theorem gSyn : Tryz.prog.globalNamed "strconv.ErrSyntax" = some 1 := by kernel_rfl
theorem gSynT:(Tryz.prog.globals[1]?).map (·.type)=some 162:=by kernel_rfl
theorem cErr:Tryz.prog.cellsOf 267=1:=by kernel_rfl
theorem cStr:Tryz.prog.cellsOf 9=1:=by kernel_rfl
theorem star : "*" ++ "errors.errorString" = "*errors.errorString" := by decide
theorem rowErr (u : TypeId) (h : Tryz.prog.typeName? 3 u = some "*errors.errorString") : u = 265 :=
 typeName_ptr_named (nm := "errors.errorString") (by rw [star]; kernel_rfl) (by kernel_rfl) (by decide) u (by rw [star]; exact h)
theorem pow_is:(Rows.laid_internal_strconv_uint64pow10:DataW Unit)=Lib.tabData .u64 Lib.pow10Tab:=by rfl
theorem ginv {W:World} (h:laidMetH Tryz.prog lst W):P.GInv W:=by
 rw [Go.MakeChecks.laidMetH_plain _ _ _ (by kernel_rfl)] at h
 have h3:=h.tail.tail
 have hp : Lib.TabIs Tryz.prog W "internal/strconv.uint64pow10" .u64 Lib.pow10Tab :=
  Lib.tabIs_of_head gPow gPowT Tryz.underlying249 Tryz.underlying218 cU64 cPow (by rw [← pow_is];exact h3)
 obtain ⟨a1,s1,hv1,_,_,_⟩:=laid_sentinel h3.tail gRng gRngT Tryz.underlying162 rowErr Tryz.underlying265 Tryz.underlying267 rfl rfl Tryz.underlying9 cErr cStr
 obtain ⟨a2,s2,hv2,_,_,_⟩:=laid_sentinel h3.tail.tail gSyn gSynT Tryz.underlying162 rowErr Tryz.underlying265 Tryz.underlying267 rfl rfl Tryz.underlying9 cErr cStr
 refine ⟨⟨_,_,by have h0:=World.var?_cell gSyn hv2 0;simpa using h0⟩,⟨_,_,by have h0:=World.var?_cell gRng hv1 0;simpa using h0⟩,hp,?_⟩
 have c0:=hp.cell gPow 0 (by decide)
 exact World.block_lt_of_cell? W _ c0
abbrev synS:ByteArray:={ data:=#[105,110,118,97,108,105,100,32,115,121,110,116,97,120] }
abbrev rngS:ByteArray:={ data:=#[118,97,108,117,101,32,111,117,116,32,111,102,32,114,97,110,103,101] }
def cellsOfData:DataW Unit→Array Value
 | .agg l=>(l.map fun
   | .lit (.int k n)=>Value.int k n
   | _=>.nilIface).toArray
 | _=>#[]
noncomputable def low:Nat:=(World.holding Tryz.prog default ⟨#[],#[],[]⟩).heap.size
noncomputable def laidWorld (os:Os):World :=
 let w0:=World.holding Tryz.prog os ⟨#[.cells #[.string synS] 267,.cells #[.string rngS] 267],#[],[]⟩
 { w0 with heap:=((((w0.heap.modify 0 fun
   | .cells _ t frozen=>.cells (cellsOfData Rows.laid_internal_strconv_uint64pow10) t frozen
   | o=>o).modify 1 fun
   | .cells _ t frozen=>.cells #[.iface 265 (.pointer (some ⟨low,0,none⟩))] t frozen
   | o=>o).modify 2 fun
   | .cells _ t frozen=>.cells #[.iface 265 (.pointer (some ⟨low + 1,0,none⟩))] t frozen
   | o=>o).modify 4 fun
   | .cells _ t frozen=>.cells (cellsOfData Rows.laid_math_bits_deBruijn32tab) t frozen
   | o=>o).modify 5 fun
   | .cells _ t frozen=>.cells (cellsOfData Rows.laid_math_bits_deBruijn64tab) t frozen
   | o=>o }
theorem laid_met (os:Os) (args:Array Value):laidMet Tryz.prog lst ((laidWorld os).forCall (fun _ _=>0) ⟨#[],args,[]⟩).memory :=
 laidMet_of_run' 8 (by kernel_rfl) (by kernel_rfl)
end Go.Proofs.YtddpjjhekhompaaGreatDoor.laidKit
