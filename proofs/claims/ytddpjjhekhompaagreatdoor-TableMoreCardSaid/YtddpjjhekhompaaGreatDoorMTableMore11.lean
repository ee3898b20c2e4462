/- Part 11 of what the law TableMore leans on: contracts of the functions that it reaches, and plain lemmas. No condition. -/
import Derived.Lib.Join
import Derived.Lib.ItoaLen
import Derived.Deep.Slices
import Derived.Deep.DeepWitnessRowRef
import Derived.Stop.LaidErr
import Derived.LaidLaws
import Derived.MakeChecks
import Derived.SizedLaws
import Derived.Test.YtddpjjhekhompaaGreatDoorRows
import Derived.Test.YtddpjjhekhompaaGreatDoorMTableMore10
namespace Go.Proofs.YtddpjjhekhompaaGreatDoor.P
open Go.RowKit Go.Proofs.YtddpjjhekhompaaGreatDoorW.PrintWords Go.Proofs.YtddpjjhekhompaaGreatDoorW.PrintLast Go.Proofs.YtddpjjhekhompaaGreatDoorW.PrintMore
attribute [local go_sem] max2_int max_two
set_option linter.unusedVariables false
set_option linter.unusedSimpArgs false
theorem fail_zero {a e:Int} {b:Bool} {x c:Int} (hc:c≠0):(failE a e b x c).2=0↔e=0∧b=false:=by
 unfold failE
 by_cases h:b=true∧e=0
 ·rw [if_pos h]
  constructor
  ·intro h2;exact absurd h2 hc
  ·intro h2;rw [h.1] at h2;exact absurd h2.2 J11
 ·rw [if_neg h]
  constructor
  ·intro h2
   refine ⟨h2,?_⟩
   cases b with
   | false=>rfl
   | true=>exact absurd ⟨rfl,h2⟩ h
  ·intro h2;exact h2.1
theorem fail_no {a e:Int} {x c:Int}:failE a e false x c=(a,e):=by
 unfold failE
 rw [if_neg J53]
def enGood:Nat→List (S92)→(List UInt8→Option Bool)→(Int→Option Bool)→Prop
 | _,[],_,_=>True
 | i,v :: l,S,N=>enBad i v S N=false∧enGood (i + 1) l (setS S (bl v.f0)) (setN N v.f1)
theorem enL_zero:∀ (l:List (S92)) (i:Nat) (S:List UInt8→Option Bool) (N:Int→Option Bool) (a e:Int),(enL i l S N a e).2=0↔e=0∧enGood i l S N
 | [],i,S,N,a,e=>by simp [enL,enGood]
 | v :: l,i,S,N,a,e=>by
  rw [enL,enL_zero l,fail_zero J11,enGood]
  exact and_assoc
def fdFine (f:List UInt8→Option (Int × Int)) (x:S36):Prop:=(hasK x=true→(typO (bl x.f1)).isSome=true∧tmKey ((typO (bl x.f1)).getD 0)=true)∧(kindF f (bl x.f0)).2.2=true
def fdGood (f:List UInt8→Option (Int × Int)) (nO:Nat):List (S36)→(List UInt8→Option Bool)→(Int→Option Bool)→Prop
 | [],_,_=>True
 | x :: l,S,N=>(fdBad nO x S N=false∧fdFine f x)∧fdGood f nO l (setS S (bl x.f4)) (setN N x.f5)
theorem fdE_zero (f:List UInt8→Option (Int × Int)) (nO:Nat) (x:S36) (S:List UInt8→Option Bool) (N:Int→Option Bool) (a e:Int):(fdE f nO x S N a e).2=0↔e=0∧(fdBad nO x S N=false∧fdFine f x):=by
 unfold fdE fdE3
 rw [fail_zero J11]
 have h2:(fdE2 x (fdE1 nO x S N a e)).2=0↔(e=0∧fdBad nO x S N=false)∧(hasK x=true→(typO (bl x.f1)).isSome=true∧tmKey ((typO (bl x.f1)).getD 0)=true):=by
  unfold fdE2
  by_cases hk:hasK x=true
  ·rw [if_pos hk,fail_zero J11]
   unfold fdE1
   rw [fail_zero J11]
   simp [hk]
  ·rw [if_neg hk]
   unfold fdE1
   rw [fail_zero J11]
   simp [hk]
 rw [h2]
 unfold fdFine
 simp only [Bool.not_eq_false']
 constructor
 ·rintro ⟨⟨⟨h1,h2⟩,h3⟩,h4⟩;exact ⟨h1,h2,h3,h4⟩
 ·rintro ⟨h1,h2,h3,h4⟩;exact ⟨⟨⟨h1,h2⟩,h3⟩,h4⟩
theorem fdL_zero (f:List UInt8→Option (Int × Int)) (nO:Nat):∀ (l:List (S36)) (S:List UInt8→Option Bool) (N:Int→Option Bool) (a e:Int),(fdL f nO l S N a e).2=0↔e=0∧fdGood f nO l S N
 | [],S,N,a,e=>by simp [fdL,fdGood]
 | x :: l,S,N,a,e=>by
  rw [fdL,fdL_zero f nO l,fdE_zero,fdGood]
  exact and_assoc
def fdEach (f:List UInt8→Option (Int × Int)) (nO:Nat) (x:S36):Prop:=tmNum x.f5=true∧(0≤x.f3∧x.f3≤(nO:Int))∧fdTwo x=false∧fdFine f x
def fdAll (f:List UInt8→Option (Int × Int)) (nO:Nat) (l:List (S36)) (S:List UInt8→Option Bool) (N:Int→Option Bool):Prop :=
 (∀ x ∈ l,fdEach f nO x)∧(l.map (fun x=>bl x.f4)).Nodup∧(∀ x ∈ l,(S (bl x.f4)).getD false=false)∧(l.map (·.f5)).Nodup∧(∀ x ∈ l,(N x.f5).getD false=false)
theorem fdBad_no (nO:Nat) (x:S36) (S:List UInt8→Option Bool) (N:Int→Option Bool):fdBad nO x S N=false↔(S (bl x.f4)).getD false=false∧tmNum x.f5=true∧(N x.f5).getD false=false∧(0≤x.f3∧x.f3≤(nO:Int))∧fdTwo x=false:=by
 unfold fdBad
 simp only [Bool.or_eq_false_iff,Bool.not_eq_false',decide_eq_true_eq]
theorem setS_no {S:List UInt8→Option Bool} {x y:List UInt8}:(setS S x y).getD false=false↔y≠x∧(S y).getD false=false:=by
 unfold setS
 by_cases h:y=x
 ·rw [if_pos h];simp [h]
 ·rw [if_neg h];simp [h]
theorem setN_no {N:Int→Option Bool} {x y:Int}:(setN N x y).getD false=false↔y≠x∧(N y).getD false=false:=by
 unfold setN
 by_cases h:y=x
 ·rw [if_pos h];simp [h]
 ·rw [if_neg h];simp [h]
theorem fdGood_all (f:List UInt8→Option (Int × Int)) (nO:Nat):∀ (l:List (S36)) (S:List UInt8→Option Bool) (N:Int→Option Bool),fdGood f nO l S N↔fdAll f nO l S N
 | [],S,N=>by simp [fdGood,fdAll]
 | x :: l,S,N=>by
  rw [fdGood,fdGood_all f nO l,fdBad_no]
  unfold fdAll fdEach
  simp only [List.mem_cons,forall_eq_or_imp,List.map_cons,List.nodup_cons,List.mem_map,not_exists,not_and,setS_no,setN_no]
  constructor
  ·rintro ⟨⟨⟨h1,h2,h3,h4,h5⟩,h6⟩,h7,h8,h9,h10,h11⟩
   exact ⟨⟨⟨h2,h4,h5,h6⟩,h7⟩,⟨fun y hy e=>(h9 y hy).1 e,h8⟩,⟨h1,fun y hy=>(h9 y hy).2⟩,⟨fun y hy e=>(h11 y hy).1 e,h10⟩,h3,fun y hy=>(h11 y hy).2⟩
  ·rintro ⟨⟨⟨h2,h4,h5,h6⟩,h7⟩,⟨h9,h8⟩,⟨h1,h9'⟩,⟨h11,h10⟩,h3,h11'⟩
   exact ⟨⟨⟨h1,h2,h3,h4,h5⟩,h6⟩,h7,h8,fun y hy=>⟨fun e=>h9 y hy e,h9' y hy⟩,h10,fun y hy=>⟨fun e=>h11 y hy e,h11' y hy⟩⟩
def enAll (i:Nat) (l:List (S92)) (S:List UInt8→Option Bool) (N:Int→Option Bool):Prop :=
 (∀ v ∈ l,-2147483648≤v.f1∧v.f1≤2147483647)∧(l.map (fun v=>bl v.f0)).Nodup∧(∀ v ∈ l,(S (bl v.f0)).getD false=false)∧(l.map (·.f1)).Nodup∧(∀ v ∈ l,(N v.f1).getD false=false)∧(i=0→∀ v,l.head?=some v→v.f1=0)
theorem enBad_no (i:Nat) (v:S92) (S:List UInt8→Option Bool) (N:Int→Option Bool):enBad i v S N=false↔(S (bl v.f0)).getD false=false∧(N v.f1).getD false=false∧(-2147483648≤v.f1∧v.f1≤2147483647)∧(i=0→v.f1=0):=by
 unfold enBad
 simp only [Bool.or_eq_false_iff,decide_eq_false_iff_not,Bool.and_eq_false_iff,beq_eq_false_iff_ne,bne_eq_false_iff_eq,ne_eq]
 constructor
 ·rintro ⟨h1,h2,h3,h4,h5⟩
  refine ⟨h1,h2,⟨J7,J7⟩,fun h=>?_⟩
  rcases h5 with h5|h5
  ·exact absurd h h5
  ·exact h5
 ·rintro ⟨h1,h2,⟨h3,h4⟩,h5⟩
  refine ⟨h1,h2,J7,J7,?_⟩
  by_cases h:i=0
  ·exact .inr (h5 h)
  ·exact .inl h
theorem enGood_all:∀ (l:List (S92)) (i:Nat) (S:List UInt8→Option Bool) (N:Int→Option Bool),enGood i l S N↔enAll i l S N
 | [],i,S,N=>by simp [enGood,enAll]
 | v :: l,i,S,N=>by
  rw [enGood,enGood_all l,enBad_no]
  unfold enAll
  simp only [List.mem_cons,forall_eq_or_imp,List.map_cons,List.nodup_cons,List.mem_map,not_exists,not_and,setS_no,setN_no,List.head?_cons,Option.some.injEq]
  constructor
  ·rintro ⟨⟨h1,h2,h3,h4⟩,h5,h6,h7,h8,h9,_⟩
   exact ⟨⟨h3,h5⟩,⟨fun y hy e=>(h7 y hy).1 e,h6⟩,⟨h1,fun y hy=>(h7 y hy).2⟩,⟨fun y hy e=>(h9 y hy).1 e,h8⟩,⟨h2,fun y hy=>(h9 y hy).2⟩,fun h y e=>e ▸ h4 h⟩
  ·rintro ⟨⟨h3,h5⟩,⟨h7,h6⟩,⟨h1,h7'⟩,⟨h9,h8⟩,⟨h2,h9'⟩,h4⟩
   exact ⟨⟨h1,h2,h3,fun h=>h4 h v rfl⟩,h5,h6,fun y hy=>⟨fun e=>h7 y hy e,h7' y hy⟩,h8,fun y hy=>⟨fun e=>h9 y hy e,h9' y hy⟩,fun h=>by omega⟩
def addN (k:Int):Nat→List (List UInt8)→(List UInt8→Option (Int × Int))→List UInt8→Option (Int × Int)
 | _,[],f=>f
 | i,x :: l,f=>addN k (i + 1) l (fun y=>if y=x then some (k,(i:Int)) else f y)
theorem addN_no (k:Int):∀ (l:List (List UInt8)) (i:Nat) (f:List UInt8→Option (Int × Int)) (y:List UInt8),y ∉ l→addN k i l f y=f y
 | [],_,_,_,_=>rfl
 | x :: l,i,f,y,h=>by
  rw [addN,addN_no k l (i + 1) _ y (fun hy=>h (List.mem_cons_of_mem _ hy)),if_neg (fun e=>h (by rw [e];exact List.mem_cons_self ..))]
theorem addN_at (k:Int):∀ (l:List (List UInt8)) (i:Nat) (f:List UInt8→Option (Int × Int)) (j:Nat) (hj:j < l.length),l.Nodup→addN k i l f l[j]=some (k,((i + j:Nat):Int))
 | x :: l,i,f,0,_,hn=>by
  rw [List.nodup_cons] at hn
  show addN k (i + 1) l _ x=_
  rw [addN_no k l (i + 1) _ x hn.1,if_pos rfl]
  simp
 | x :: l,i,f,j + 1,hj,hn=>by
  rw [List.nodup_cons] at hn
  show addN k (i + 1) l _ (l[j]'(by simpa using hj))=_
  rw [addN_at k l (i + 1) _ j (by simpa using hj) hn.2]
  congr 3
  omega
def nmGood {α:Type} (P:α→Prop) (nm:α→List UInt8):List α→(List UInt8→Option (Int × Int))→Prop:=fun l f =>
 (∀ x ∈ l,P x∧typO (nm x)=none∧f (nm x)=none)∧(l.map nm).Nodup
def mgP (x:S34):Prop:=x.f1.length≤30∧x.f2.length≤30
def egP (x:S68):Prop:=1≤x.f1.length∧x.f1.length≤30
theorem mgE_zero (i:Nat) (x:S34) (s:NmSt):(mgE i x s).2.2=0↔s.2.2=0∧(mgP x∧typO (bl x.f0)=none∧s.1 (bl x.f0)=none):=by
 unfold mgE mgP
 simp only
 rw [fail_zero J11,fail_zero J11]
 simp only [Bool.or_eq_false_iff,decide_eq_false_iff_not,Option.isSome_eq_false_iff,Option.isNone_iff_eq_none]
 constructor
 ·rintro ⟨⟨h1,h2,h3⟩,h4,h5⟩;exact ⟨h1,⟨J7,J7⟩,h2,h3⟩
 ·rintro ⟨h1,⟨h4,h5⟩,h2,h3⟩;exact ⟨⟨h1,h2,h3⟩,J7,J7⟩
theorem egE_zero (i:Nat) (x:S68) (s:NmSt):(egE i x s).2.2=0↔s.2.2=0∧(egP x∧typO (bl x.f0)=none∧s.1 (bl x.f0)=none):=by
 unfold egE egP
 simp only
 rw [fail_zero J11,fail_zero J11]
 simp only [Bool.or_eq_false_iff,decide_eq_false_iff_not,Option.isSome_eq_false_iff,Option.isNone_iff_eq_none,beq_eq_false_iff_ne,ne_eq]
 constructor
 ·rintro ⟨⟨h1,h2,h3⟩,h4,h5⟩;exact ⟨h1,⟨J7,J7⟩,h2,h3⟩
 ·rintro ⟨h1,⟨h4,h5⟩,h2,h3⟩;exact ⟨⟨h1,h2,h3⟩,J7,J7⟩
theorem nameF_new {f:List UInt8→Option (Int × Int)} {nm:List UInt8} {q:Int × Int} (h:f nm=none):nameF f nm q=fun x=>if x=nm then some q else f x:=by
 unfold nameF
 rw [if_neg (by rw [h];simp)]
theorem new_none {f:List UInt8→Option (Int × Int)} {x y:List UInt8} {q:Int × Int}:(if y=x then some q else f y)=none↔y≠x∧f y=none:=by
 by_cases h:y=x
 ·rw [if_pos h];simp [h]
 ·rw [if_neg h];simp [h]
theorem mgL_zero:∀ (l:List (S34)) (i:Nat) (s:NmSt),(mgL i l s).2.2=0↔s.2.2=0∧nmGood mgP (fun x=>bl x.f0) l s.1
 | [],i,s=>by simp [mgL,nmGood]
 | x :: l,i,s=>by
  rw [mgL,mgL_zero l,mgE_zero]
  unfold nmGood
  simp only [List.mem_cons,forall_eq_or_imp,List.map_cons,List.nodup_cons,List.mem_map,not_exists,not_and]
  constructor
  ·rintro ⟨⟨h0,h1,h2,h3⟩,h4,h5⟩
   have h4':∀ y ∈ l,mgP y∧typO (bl y.f0)=none∧bl y.f0≠bl x.f0∧s.1 (bl y.f0)=none:=by
    intro y hy
    obtain ⟨a,b,c⟩:=h4 y hy
    have c':nameF s.1 (bl x.f0) (9,(i:Int)) (bl y.f0)=none:=c
    rw [nameF_new h3] at c'
    exact ⟨a,b,new_none.1 c'⟩
   exact ⟨h0,⟨⟨h1,h2,h3⟩,fun y hy=>⟨(h4' y hy).1,(h4' y hy).2.1,(h4' y hy).2.2.2⟩⟩,fun y hy e=>(h4' y hy).2.2.1 e,h5⟩
  ·rintro ⟨h0,⟨⟨h1,h2,h3⟩,h4⟩,h5,h6⟩
   refine ⟨⟨h0,h1,h2,h3⟩,fun y hy=>⟨(h4 y hy).1,(h4 y hy).2.1,?_⟩,h6⟩
   show nameF s.1 (bl x.f0) (9,(i:Int)) (bl y.f0)=none
   rw [nameF_new h3]
   exact new_none.2 ⟨h5 y hy,(h4 y hy).2.2⟩
theorem mgL_names:∀ (l:List (S34)) (i:Nat) (s:NmSt),nmGood mgP (fun x=>bl x.f0) l s.1→(mgL i l s).1=addN 9 i (l.map (fun x=>bl x.f0)) s.1
 | [],i,s,_=>rfl
 | x :: l,i,s,h=>by
  have h3:=(h.1 x (List.mem_cons_self ..)).2.2
  have hn:=h.2
  rw [List.map_cons,List.nodup_cons] at hn
  have e:(mgE i x s).1=fun y=>if y=bl x.f0 then some (9,(i:Int)) else s.1 y:=nameF_new h3
  rw [mgL,mgL_names l (i + 1),e]
  ·rfl
  ·refine ⟨fun y hy=>⟨(h.1 y (List.mem_cons_of_mem _ hy)).1,(h.1 y (List.mem_cons_of_mem _ hy)).2.1,?_⟩,hn.2⟩
   rw [e]
   exact new_none.2 ⟨fun e2=>hn.1 (List.mem_map.2 ⟨y,hy,e2⟩),(h.1 y (List.mem_cons_of_mem _ hy)).2.2⟩
theorem egL_zero:∀ (l:List (S68)) (i:Nat) (s:NmSt),(egL i l s).2.2=0↔s.2.2=0∧nmGood egP (fun x=>bl x.f0) l s.1
 | [],i,s=>by simp [egL,nmGood]
 | x :: l,i,s=>by
  rw [egL,egL_zero l,egE_zero]
  unfold nmGood
  simp only [List.mem_cons,forall_eq_or_imp,List.map_cons,List.nodup_cons,List.mem_map,not_exists,not_and]
  constructor
  ·rintro ⟨⟨h0,h1,h2,h3⟩,h4,h5⟩
   have h4':∀ y ∈ l,egP y∧typO (bl y.f0)=none∧bl y.f0≠bl x.f0∧s.1 (bl y.f0)=none:=by
    intro y hy
    obtain ⟨a,b,c⟩:=h4 y hy
    have c':nameF s.1 (bl x.f0) (6,(i:Int)) (bl y.f0)=none:=c
    rw [nameF_new h3] at c'
    exact ⟨a,b,new_none.1 c'⟩
   exact ⟨h0,⟨⟨h1,h2,h3⟩,fun y hy=>⟨(h4' y hy).1,(h4' y hy).2.1,(h4' y hy).2.2.2⟩⟩,fun y hy e=>(h4' y hy).2.2.1 e,h5⟩
  ·rintro ⟨h0,⟨⟨h1,h2,h3⟩,h4⟩,h5,h6⟩
   refine ⟨⟨h0,h1,h2,h3⟩,fun y hy=>⟨(h4 y hy).1,(h4 y hy).2.1,?_⟩,h6⟩
   show nameF s.1 (bl x.f0) (6,(i:Int)) (bl y.f0)=none
   rw [nameF_new h3]
   exact new_none.2 ⟨h5 y hy,(h4 y hy).2.2⟩
theorem egL_names:∀ (l:List (S68)) (i:Nat) (s:NmSt),nmGood egP (fun x=>bl x.f0) l s.1→(egL i l s).1=addN 6 i (l.map (fun x=>bl x.f0)) s.1
 | [],i,s,_=>rfl
 | x :: l,i,s,h=>by
  have h3:=(h.1 x (List.mem_cons_self ..)).2.2
  have hn:=h.2
  rw [List.map_cons,List.nodup_cons] at hn
  have e:(egE i x s).1=fun y=>if y=bl x.f0 then some (6,(i:Int)) else s.1 y:=nameF_new h3
  rw [egL,egL_names l (i + 1),e]
  ·rfl
  ·refine ⟨fun y hy=>⟨(h.1 y (List.mem_cons_of_mem _ hy)).1,(h.1 y (List.mem_cons_of_mem _ hy)).2.1,?_⟩,hn.2⟩
   rw [e]
   exact new_none.2 ⟨fun e2=>hn.1 (List.mem_map.2 ⟨y,hy,e2⟩),(h.1 y (List.mem_cons_of_mem _ hy)).2.2⟩
def rsNm (M:List (S34)) (E:List (S68)):List UInt8→Option (Int × Int):=addN 6 0 (E.map (fun x=>bl x.f0)) (addN 9 0 (M.map (fun x=>bl x.f0)) (fun _=>none))
def rsGood (M:List (S34)) (E:List (S68)):Prop :=
 (∀ x ∈ M,mgP x∧typO (bl x.f0)=none)∧(∀ x ∈ E,egP x∧typO (bl x.f0)=none)∧(M.map (fun x=>bl x.f0)++E.map (fun x=>bl x.f0)).Nodup ∧
 (∀ x ∈ M,fdAll (rsNm M E) x.f2.length x.f1 (onesS x.f2) (resN x.f3))∧(∀ x ∈ E,enAll 0 x.f1 (fun _=>none) (fun _=>none))
theorem mrL_zero (f:List UInt8→Option (Int × Int)):∀ (l:List (S34)) (r:Int × Int),(mrL f l r).2=0↔r.2=0∧∀ x ∈ l,fdAll f x.f2.length x.f1 (onesS x.f2) (resN x.f3)
 | [],r=>by simp [mrL]
 | x :: l,r=>by
  rw [mrL,mrL_zero f l]
  unfold msE
  rw [fdL_zero,fdGood_all]
  simp only [List.mem_cons,forall_eq_or_imp]
  exact and_assoc
theorem enuL_zero:∀ (l:List (S68)) (r:Int × Int),(enuL l r).2=0↔r.2=0∧∀ x ∈ l,enAll 0 x.f1 (fun _=>none) (fun _=>none)
 | [],r=>by simp [enuL]
 | x :: l,r=>by
  rw [enuL,enuL_zero l]
  unfold enE
  rw [enL_zero,enGood_all]
  simp only [List.mem_cons,forall_eq_or_imp]
  exact and_assoc
theorem rsN_good (M:List (S34)) (E:List (S68)):nmGood mgP (fun x=>bl x.f0) M (fun _=>none)∧nmGood egP (fun x=>bl x.f0) E (mgL 0 M (fun _=>none,0,0)).1↔(∀ x ∈ M,mgP x∧typO (bl x.f0)=none)∧(∀ x ∈ E,egP x∧typO (bl x.f0)=none)∧(M.map (fun x=>bl x.f0)++E.map (fun x=>bl x.f0)).Nodup:=by
 constructor
 ·rintro ⟨h1,h2⟩
  have e:=mgL_names M 0 (fun _=>none,0,0) h1
  refine ⟨fun x hx=>⟨(h1.1 x hx).1,(h1.1 x hx).2.1⟩,fun x hx=>⟨(h2.1 x hx).1,(h2.1 x hx).2.1⟩,List.nodup_append.2 ⟨h1.2,h2.2,fun a ha b hb hab=>?_⟩⟩
  obtain ⟨x,hx,rfl⟩:=List.mem_map.1 hb
  obtain ⟨j,hj,hj2⟩:=List.getElem_of_mem ha
  have h3:=(h2.1 x hx).2.2
  rw [e] at h3
  have h4:=addN_at 9 (M.map (fun x=>bl x.f0)) 0 (fun _=>none) j hj h1.2
  rw [hj2,hab] at h4
  have h4':addN 9 0 (M.map (fun x=>bl x.f0)) (fun _=>none) (bl x.f0)=some (9,((0 + j:Nat):Int)):=h4
  rw [show addN 9 0 (M.map (fun x=>bl x.f0)) ((fun _=>none,(0:Int),(0:Int)):NmSt).1=addN 9 0 (M.map (fun x=>bl x.f0)) (fun _=>none) from rfl] at h3
  rw [h3] at h4'
  cases h4'
 ·rintro ⟨h1,h2,h3⟩
  obtain ⟨n1,n2,n3⟩:=List.nodup_append.1 h3
  have g1:nmGood mgP (fun x=>bl x.f0) M (fun _=>none):=⟨fun x hx=>⟨(h1 x hx).1,(h1 x hx).2,rfl⟩,n1⟩
  have e:=mgL_names M 0 (fun _=>none,0,0) g1
  refine ⟨g1,fun x hx=>⟨(h2 x hx).1,(h2 x hx).2,?_⟩,n2⟩
  rw [e]
  exact addN_no 9 _ 0 _ _ (fun hm=>n3 _ hm _ (List.mem_map.2 ⟨x,hx,rfl⟩) rfl)
theorem rsN_good0 (M:List (S34)) (E:List (S68)):(rsN M E).2.2=0↔nmGood mgP (fun x=>bl x.f0) M (fun _=>none)∧nmGood egP (fun x=>bl x.f0) E (mgL 0 M (fun _=>none,0,0)).1:=by
 unfold rsN
 rw [egL_zero,mgL_zero]
 simp
theorem rsE_zero (M:List (S34)) (E:List (S68)):(rsE M E).2=0↔rsGood M E:=by
 unfold rsE
 rw [enuL_zero,mrL_zero]
 simp only
 rw [rsN_good0]
 have names:nmGood mgP (fun x=>bl x.f0) M (fun _=>none)∧nmGood egP (fun x=>bl x.f0) E (mgL 0 M (fun _=>none,0,0)).1→(rsN M E).1=rsNm M E:=by
  rintro ⟨h1,h2⟩
  unfold rsN rsNm
  rw [egL_names E 0 _ h2,mgL_names M 0 _ h1]
 unfold rsGood
 constructor
 ·rintro ⟨⟨h1,h2⟩,h3⟩
  obtain ⟨k1,k2,k3⟩:=(rsN_good M E).1 h1
  rw [names h1] at h2
  exact ⟨k1,k2,k3,h2,h3⟩
 ·rintro ⟨k1,k2,k3,h2,h3⟩
  have h1:=(rsN_good M E).2 ⟨k1,k2,k3⟩
  refine ⟨⟨h1,?_⟩,h3⟩
  rw [names h1]
  exact h2
theorem idxW_at {α:Type} (p:α→Bool):∀ (l:List α) (s:Int) (i:Nat) (hi:i < l.length),p l[i]=true→(∀ (j:Nat) (hj:j < i),p (l[j]'J7)=false)→idxW p l s=s + i
 | x :: t,s,0,_,hp,_=>by
  have hp':p x=true:=hp
  rw [idxW,if_pos hp']
  simp
 | x :: t,s,i + 1,hi,hp,hb=>by
  have h0:p x=false:=hb 0 J7
  rw [idxW,if_neg (by rw [h0];decide),idxW_at p t (s + 1) i (by simpa using hi) hp (fun j hj=>hb (j + 1) J7)]
  push_cast
  omega
theorem uniqB_nodup (l:List (List UInt8)):uniqB l=true↔l.Nodup:=by
 unfold uniqB
 rw [decide_eq_true_eq]
 constructor
 ·intro h
  rw [List.nodup_iff_count]
  intro x
  by_cases hx:x ∈ l
  ·rw [cnt_lawful _ instBEqOfDecidableEq x l,h x hx]
   exact Nat.le_refl _
  ·rw [List.count_eq_zero_of_not_mem hx]
   omega
 ·intro h x hx
  have h1:=List.nodup_iff_count.1 h x
  have h2:=Nat.le_antisymm h1 (List.count_pos_iff.2 hx)
  rw [← h2]
  exact @cnt_lawful _ instBEqOfDecidableEq _ _ _ x l
theorem pair_ne {α:Type} {R:α→α→Prop} {l:List α} (h:l.Pairwise R) {i j:Nat} (hij:i < j) (hj:j < l.length):R (l[i]'J7) l[j]:=List.pairwise_iff_getElem.1 h i j J7 hj hij
theorem may_names {l0:List (S57)} {l1:List (S119)} (h:tmMay l0 l1=true):(l0.map (fun x=>bl x.f0)).Nodup∧(∀ x ∈ l0,tmMsg l0.length l1.length x=true)∧1≤l0.length:=by
 unfold tmMay mayR at h
 simp only [Bool.and_eq_true,decide_eq_true_eq,List.all_eq_true] at h
 have h2:=(uniqB_nodup _).1 h.2.2.2
 exact ⟨(List.nodup_append.1 (List.nodup_append.1 h2).2.1).1,h.2.1,h.1.1⟩
theorem idx_rt {l0:List (S57)} {l1:List (S119)} (h:tmMay l0 l1=true) (i:Nat) (hi:i < l0.length):idxW (fun y=>msgName y l0[i].f0) l0 0=i:=by
 have hn:=(may_names h).1
 rw [idxW_at _ l0 0 i hi (by simp [msgName]) (fun j hj=>?_),Int.zero_add]
 have h2:=pair_ne (R:=fun a b=>a≠b) hn (i:=j) (j:=i) hj (by simpa using hi)
 unfold msgName
 refine beq_eq_false_iff_ne.2 (fun e=>h2 ?_)
 rw [List.getElem_map,List.getElem_map]
 rw [ByteArray.toList_eq,ByteArray.toList_eq] at e
 exact e
theorem typO_rng {y:List UInt8} {k:Int} (h:typO y=some k):0≤k∧k≤8∧k≠6:=by
 unfold typO at h
 repeat' (split at h)
 all_goals first|(injection h with h;omega)|cases h
theorem words_typ {y:List UInt8} (h:y ∈ words8):typO y≠none:=by
 unfold words8 at h
 simp only [List.mem_cons,List.not_mem_nil,or_false] at h
 rcases h with rfl|rfl|rfl|rfl|rfl|rfl|rfl|rfl <;> decide
theorem addN_inv (k:Int):∀ (l:List (List UInt8)) (i:Nat) (f:List UInt8→Option (Int × Int)) (y:List UInt8) (q:Int × Int),addN k i l f y=some q→(q.1=k∧(i:Int)≤q.2∧q.2 < ((i + l.length:Nat):Int))∨f y=some q
 | [],_,_,_,_,h=>.inr h
 | x :: l,i,f,y,q,h=>by
  rw [addN] at h
  rcases addN_inv k l (i + 1) _ y q h with ⟨h1,h2,h3⟩|h1
  ·exact .inl ⟨h1,J7,by rw [List.length_cons];omega⟩
  ·by_cases e:y=x
   ·rw [if_pos e] at h1
    injection h1 with h1
    subst h1
    exact .inl ⟨rfl,Int.le_refl _,by rw [List.length_cons];omega⟩
   ·rw [if_neg e] at h1
    exact .inr h1
theorem rsNm_inv (M:List (S34)) (E:List (S68)) (y:List UInt8) (q:Int × Int) (h:rsNm M E y=some q):(q.1=9∧0≤q.2∧q.2 < (M.length:Int))∨(q.1=6∧0≤q.2∧q.2 < (E.length:Int)):=by
 unfold rsNm at h
 rcases addN_inv 6 _ 0 _ y q h with ⟨h1,h2,h3⟩|h1
 ·rw [List.length_map] at h3
  exact .inr ⟨h1,J7,J7⟩
 ·rcases addN_inv 9 _ 0 _ y q h1 with ⟨h1,h2,h3⟩|h1
  ·rw [List.length_map] at h3
   exact .inl ⟨h1,J7,J7⟩
  ·cases h1
theorem kind_may (M:List (S34)) (E:List (S68)) (y:List UInt8) (h:(kindF (rsNm M E) y).2.2=true):(0≤(kindF (rsNm M E) y).1∧(kindF (rsNm M E) y).1≤9)∧∀ d:S51,d.f2=(kindF (rsNm M E) y).1→d.f3=(kindF (rsNm M E) y).2.1→tmRef M.length E.length d=true:=by
 unfold kindF at *
 cases ht:typO y with
 | some k =>
  have hk:=typO_rng ht
  rw [ht] at h
  refine ⟨⟨hk.1,show k≤9 by omega⟩,fun d h2 h3=>?_⟩
  have h2':d.f2=k:=h2
  have h3':d.f3=0:=h3
  unfold tmRef
  rw [if_neg J7,if_neg J7,h3']
  rfl
 | none =>
  rw [ht] at h
  have h':(rsNm M E y).isSome=true:=h
  obtain ⟨q,hq⟩:=Option.isSome_iff_exists.1 h'
  rw [hq]
  simp only [Option.getD_some]
  rcases rsNm_inv M E y q hq with ⟨h1,h2,h3⟩|⟨h1,h2,h3⟩
  ·rw [if_neg J7]
   refine ⟨⟨J7,J7⟩,fun d e2 e3=>?_⟩
   unfold tmRef
   rw [if_pos e2,e3]
   exact decide_eq_true J7
  ·rw [if_pos h1]
   refine ⟨⟨J7,J7⟩,fun d e2 e3=>?_⟩
   unfold tmRef
   rw [if_neg J7,if_pos e2,e3]
   exact decide_eq_true J7
theorem field_may (M:List (S34)) (E:List (S68)) (nO:Nat) (hO:nO≤30) (x:S36) (h:fdEach (rsNm M E) nO x):tmField M.length E.length (fdDef (rsNm M E) x)=true:=by
 obtain ⟨h1,h2,h3,h4,h5⟩:=h
 obtain ⟨k1,k2⟩:=kind_may M E (bl x.f0) h5
 unfold fdTwo at h3
 simp only [Bool.or_eq_false_iff,Bool.and_eq_false_iff,bne_eq_false_iff_eq] at h3
 unfold tmField
 have e0:(fdDef (rsNm M E) x).f0=x.f5:=rfl
 have e2:(fdDef (rsNm M E) x).f2=(kindF (rsNm M E) (bl x.f0)).1:=rfl
 have e4:(fdDef (rsNm M E) x).f4=x.f2:=rfl
 have e5:(fdDef (rsNm M E) x).f5=keyN x:=rfl
 have e6:(fdDef (rsNm M E) x).f6=x.f3:=rfl
 rw [e0,h1,e2,decide_eq_true k1,k2 _ rfl rfl,e4,e5,e6,decide_eq_true (show 0≤x.f3∧x.f3≤30 by omega)]
 simp only [Bool.true_and,Bool.and_eq_true,Bool.or_eq_true,beq_iff_eq,Bool.not_eq_true',Bool.or_eq_false_iff,bne_eq_false_iff_eq]
 unfold keyN
 by_cases hk:hasK x=true
 ·rw [if_pos hk]
  have hr:x.f2=false:=by rcases h3.1 with h|h;exact h;rw [hk] at h;cases h
  refine ⟨.inr ⟨(h4 hk).2,hr⟩,?_⟩
  rcases h3.2 with h|h
  ·exact .inl h
  ·rw [hk] at h;exact absurd h.2 J11
 ·rw [if_neg hk]
  refine ⟨.inl rfl,?_⟩
  rcases h3.2 with h|h
  ·exact .inl h
  ·exact .inr ⟨h.1,rfl⟩
theorem fields_of {nM nE:Nat}:∀ (l:List (S51)) (last:Int),(∀ x ∈ l,tmField nM nE x=true)→(∀ x ∈ l,last < x.f0)→l.Pairwise (fun a b=>a.f0 < b.f0)→tmFields nM nE last l=true
 | [],_,_,_,_=>rfl
 | x :: l,last,h1,h2,h3=>by
  rw [List.pairwise_cons] at h3
  rw [tmFields,h1 x (List.mem_cons_self ..),decide_eq_true (h2 x (List.mem_cons_self ..)),fields_of l x.f0 (fun y hy=>h1 y (List.mem_cons_of_mem _ hy)) h3.1 h3.2]
  rfl
theorem fd_strict {l:List (S51)} (h:(l.map (·.f0)).Nodup):(fdSort l).Pairwise (fun a b=>a.f0 < b.f0):=by
 have h1:=fd_sorts l
 have h2:((fdSort l).map (·.f0)).Nodup:=(h1.1.map _).nodup_iff.2 h
 rw [List.Nodup,List.pairwise_map] at h2
 exact (h1.2.and h2).imp (fun h=>by omega)
theorem msg_may (M:List (S34)) (E:List (S68)) (x:S34) (hp:mgP x) (h:fdAll (rsNm M E) x.f2.length x.f1 (onesS x.f2) (resN x.f3)):tmMsg M.length E.length (msDef (rsNm M E) x)=true:=by
 obtain ⟨h1,h2,_,h4,_⟩:=h
 unfold tmMsg msDef
 have hs:=fd_sorts (x.f1.map (fdDef (rsNm M E)))
 have hn:((x.f1.map (fdDef (rsNm M E))).map (·.f0)).Nodup:=by rw [List.map_map];exact h4
 have hst:=fd_strict hn
 have hall:∀ y ∈ fdSort (x.f1.map (fdDef (rsNm M E))),tmField M.length E.length y=true:=by
  intro y hy
  obtain ⟨z,hz,rfl⟩:=List.mem_map.1 (hs.1.mem_iff.1 hy)
  exact field_may M E x.f2.length hp.2 z (h1 z hz)
 have hlow:∀ y ∈ fdSort (x.f1.map (fdDef (rsNm M E))),0 < y.f0:=by
  intro y hy
  have:=hall y hy
  unfold tmField at this
  simp only [Bool.and_eq_true] at this
  have h0:=this.1
  unfold tmNum at h0
  have:=of_decide_eq_true h0
  omega
 show (tmFields _ _ 0 (fdSort (x.f1.map (fdDef (rsNm M E)))) && (decide ((fdSort (x.f1.map (fdDef (rsNm M E)))).length≤30) && uniqB ((fdSort (x.f1.map (fdDef (rsNm M E)))).map (fun f=>bl f.f1))))=true
 rw [fields_of _ 0 hall hlow hst,Bool.true_and,decide_eq_true (by rw [hs.1.length_eq,List.length_map];exact hp.1),Bool.true_and,uniqB_nodup]
 refine ((hs.1.map (fun f:S51=>bl f.f1)).nodup_iff).2 ?_
 rw [List.map_map]
 exact h2
theorem enum_may (x:S68) (hp:egP x) (h:enAll 0 x.f1 (fun _=>none) (fun _=>none)):tmEnum (enDef x)=true:=by
 obtain ⟨h1,h2,_,h4,_,h6⟩:=h
 have e1:(enDef x).f1=x.f1.map (·.f0):=rfl
 have e2:(enDef x).f2=x.f1.map (·.f1):=rfl
 unfold tmEnum
 rw [e1,e2,decide_eq_true (by rw [List.length_map];exact hp),decide_eq_true (by rw [List.length_map,List.length_map]),(uniqB_nodup _).2 (by rw [List.map_map];exact h2)]
 have hu:uniqB ((x.f1.map (·.f1)).map id)=true:=by
  rw [List.map_id]
  unfold uniqB
  refine decide_eq_true fun y hy=>?_
  have h7:=List.nodup_iff_count.1 h4 y
  have h8:=List.count_pos_iff.2 hy
  have h9:List.count y (x.f1.map (·.f1))=1:=by omega
  exact (@cnt_lawful _ _ _ _ _ y _).trans h9
 rw [hu]
 have h0:rd (x.f1.map (·.f1)) 0=0:=by
  obtain ⟨hl,_⟩:=hp
  cases hx:x.f1 with
  | nil=>rw [hx] at hl;simp at hl
  | cons v l =>
   have:=h6 rfl v (by rw [hx];rfl)
   unfold rd
   simp [this]
 have hw:(x.f1.map (·.f1)).any wideI=false:=by
  rw [List.any_eq_false]
  intro y hy
  obtain ⟨v,hv,rfl⟩:=List.mem_map.1 hy
  have:=h1 v hv
  unfold wideI
  rw [decide_eq_false J7,decide_eq_false J7]
  decide
 rw [decide_eq_true h0,hw]
 rfl
theorem res_may (M:List (S34)) (E:List (S68)) (h1:1≤M.length∧M.length≤20∧E.length≤20) (h:rsGood M E):tmMay (M.map (msDef (rsNm M E))) (E.map enDef)=true:=by
 obtain ⟨g1,g2,g3,g4,g5⟩:=h
 unfold tmMay mayR
 rw [List.length_map,List.length_map,decide_eq_true h1,Bool.true_and]
 have a1:(M.map (msDef (rsNm M E))).all (tmMsg M.length E.length)=true:=by
  rw [List.all_eq_true]
  intro y hy
  obtain ⟨x,hx,rfl⟩:=List.mem_map.1 hy
  exact msg_may M E x (g1 x hx).1 (g4 x hx)
 have a2:(E.map enDef).all tmEnum=true:=by
  rw [List.all_eq_true]
  intro y hy
  obtain ⟨x,hx,rfl⟩:=List.mem_map.1 hy
  exact enum_may x (g2 x hx).1 (g5 x hx)
 rw [a1,a2,Bool.true_and,Bool.true_and,uniqB_nodup,List.map_map,List.map_map]
 refine List.nodup_append.2 ⟨J11,g3,fun a ha b hb hab=>?_⟩
 subst hab
 refine words_typ ha ?_
 rcases List.mem_append.1 hb with hb|hb
 ·obtain ⟨x,hx,rfl⟩:=List.mem_map.1 hb
  exact (g1 x hx).2
 ·obtain ⟨x,hx,rfl⟩:=List.mem_map.1 hb
  exact (g2 x hx).2
end Go.Proofs.YtddpjjhekhompaaGreatDoor.P
namespace Go.Proofs.YtddpjjhekhompaaGreatDoor.P
end Go.Proofs.YtddpjjhekhompaaGreatDoor.P
namespace Go.Proofs.YtddpjjhekhompaaGreatDoor.P
open Go.RowKit Go.Proofs.YtddpjjhekhompaaGreatDoorW.PrintWords Go.Proofs.YtddpjjhekhompaaGreatDoorW.PrintLast Go.Proofs.YtddpjjhekhompaaGreatDoorW.PrintMore
attribute [local go_sem] max2_int max_two
set_option linter.unusedVariables false
set_option linter.unusedSimpArgs false
theorem allEq_self {α:Type} (g:α→α→Bool) (h:∀ x,g x x=true):∀ l:List α,allEq g l l=true
 | []=>rfl
 | x :: r=>by rw [allEq,h x,allEq_self g h r];rfl
theorem sch_refl (a:List (S57)) (b:List (S119)):sameSch a b a b=true:=by
 unfold sameSch
 rw [allEq_self sameMD (fun x=>by unfold sameMD;rw [if_pos rfl];exact allEq_self fdEq (fun y=>by unfold fdEq;simp) _),allEq_self sameED (fun x=>by unfold sameED;rw [if_pos rfl,allEq_self strEq (fun y=>by simp [strEq]),allEq_self intEq (fun y=>by simp [intEq])];rfl)]
 rfl
open Go.Deep Go.ChangeShapes Go.WideShapes in
theorem lst_of {α:Type} {l:List α}:(l.length=1→∃ a,l=[a])∧(l.length=2→∃ a b,l=[a,b])∧(l.length=3→∃ a b c,l=[a,b,c])∧(l.length=7→∃ a b c d e f g,l=[a,b,c,d,e,f,g]):=by
 refine ⟨fun h=>?_,fun h=>?_,fun h=>?_,fun h=>?_⟩
 ·match l,h with
  | [a],_=>exact ⟨a,rfl⟩
 ·match l,h with
  | [a,b],_=>exact ⟨a,b,rfl⟩
 ·match l,h with
  | [a,b,c],_=>exact ⟨a,b,c,rfl⟩
 ·match l,h with
  | [a,b,c,d,e,f,g],_=>exact ⟨a,b,c,d,e,f,g,rfl⟩
section
variable {H:Type} {enc:TypeId × Value→H} {w:World} {sp:Nat→Bool} {hd:Bool}
open Go.Deep Go.ChangeShapes Go.WideShapes in
theorem open_str1:∀ (fuel:Nat) (cs:List Value) (x:DataW H × List MemPlace),DataW.trod enc Tryz.prog w 0 sp hd fuel 9 cs=some x→∃ N:ByteArray,Kd.string.K w N cs∧N.size≤maxLen:=by
 intro fuel cs x h
 obtain ⟨a,e,_,hs⟩:=DataW.trod_string Tryz.underlying9 h
 exact ⟨a,e,hs⟩
open Go.Deep Go.ChangeShapes Go.WideShapes in
theorem open_int1:∀ (fuel:Nat) (cs:List Value) (x:DataW H × List MemPlace),DataW.trod enc Tryz.prog w 0 sp hd fuel 2 cs=some x→∃ N:Int,(Kd.int .i64).K w N cs∧(Lit.int .i64 N).wf=true:=by
 intro fuel cs x h
 obtain ⟨a,e,_,hs⟩:=DataW.trod_int Tryz.underlying2 h
 exact ⟨a,e,hs⟩
end
theorem lst_of2 {α:Type} {l:List α}:(l.length=5→∃ a b c d e,l=[a,b,c,d,e]):=by
 intro h
 match l,h with
 | [a,b,c,d,e],_=>exact ⟨a,b,c,d,e,rfl⟩
instance odFs:Inhabited (S36):=⟨⟨⟨#[]⟩,⟨#[]⟩,false,0,⟨#[]⟩,0,0⟩⟩
instance odVs:Inhabited (S92):=⟨⟨⟨#[]⟩,0,0⟩⟩
instance odMs:Inhabited (S34):=⟨⟨⟨#[]⟩,[],[],[],0⟩⟩
instance odEs:Inhabited (S68):=⟨⟨⟨#[]⟩,[],0⟩⟩
section
variable {H:Type} {enc:TypeId × Value→H} {w:World} {sp:Nat→Bool} {hd:Bool}
open Go.Deep Go.ChangeShapes Go.WideShapes in
theorem open_fs:∀ (fuel:Nat) (cs:List Value) (x:DataW H × List MemPlace),DataW.trod enc Tryz.prog w 0 sp hd fuel 36 cs=some x→∃ N:S36,k36.K w N cs∧RfOk N:=by
 intro fuel cs x h
 obtain ⟨xs,n,rfl,hx,hl,hlen,hf⟩:=DataW.trod_struct Tryz.underlying36 h
 have hcN:Tryz.prog.cellsOf 36=7:=by kernel_rfl
 have hc_int:Tryz.prog.cellsOf 3=1:=by kernel_rfl
 have hc_i64:Tryz.prog.cellsOf 2=1:=by kernel_rfl
 have hc_str:Tryz.prog.cellsOf 9=1:=by kernel_rfl
 have hc_bool:Tryz.prog.cellsOf 4=1:=by kernel_rfl
 obtain ⟨v0,v1,v2,v3,v4,v5,v6,rfl⟩:=lst_of.2.2.2 (hl.trans hcN)
 obtain ⟨y0,y1,y2,y3,y4,y5,y6,rfl⟩:=lst_of.2.2.2 hlen
 have g0:DataW.trod enc Tryz.prog w 0 sp hd n 9 [v0]=some y0:=by simpa [hc_str] using hf 0 _ rfl
 have g1:DataW.trod enc Tryz.prog w 0 sp hd n 9 [v1]=some y1:=by simpa [hc_str] using hf 1 _ rfl
 have g2:DataW.trod enc Tryz.prog w 0 sp hd n 4 [v2]=some y2:=by simpa [hc_bool] using hf 2 _ rfl
 have g3:DataW.trod enc Tryz.prog w 0 sp hd n 3 [v3]=some y3:=by simpa [hc_int] using hf 3 _ rfl
 have g4:DataW.trod enc Tryz.prog w 0 sp hd n 9 [v4]=some y4:=by simpa [hc_str] using hf 4 _ rfl
 have g5:DataW.trod enc Tryz.prog w 0 sp hd n 2 [v5]=some y5:=by simpa [hc_i64] using hf 5 _ rfl
 have g6:DataW.trod enc Tryz.prog w 0 sp hd n 3 [v6]=some y6:=by simpa [hc_int] using hf 6 _ rfl
 obtain ⟨a0,e0,_,hs0⟩:=DataW.trod_string Tryz.underlying9 g0
 obtain ⟨a1,e1,_,hs1⟩:=DataW.trod_string Tryz.underlying9 g1
 obtain ⟨a2,e2,_⟩:=DataW.trod_bool Tryz.underlying4 g2
 obtain ⟨a3,e3,_,hw3⟩:=DataW.trod_int Tryz.underlying3 g3
 obtain ⟨a4,e4,_,hs4⟩:=DataW.trod_string Tryz.underlying9 g4
 obtain ⟨a5,e5,_,hw5⟩:=DataW.trod_int Tryz.underlying2 g5
 obtain ⟨a6,e6,_,hw6⟩:=DataW.trod_int Tryz.underlying3 g6
 simp only [List.cons.injEq,and_true] at e0 e1 e2 e3 e4 e5 e6
 subst e0 e1 e2 e3 e4 e5 e6
 exact ⟨⟨a0,a1,a2,a3,a4,a5,a6⟩,k36_mk w ⟨a0,a1,a2,a3,a4,a5,a6⟩ ,hs0,hs1,hs4,hw5⟩
open Go.Deep Go.ChangeShapes Go.WideShapes in
theorem open_vs:∀ (fuel:Nat) (cs:List Value) (x:DataW H × List MemPlace),DataW.trod enc Tryz.prog w 0 sp hd fuel 92 cs=some x→∃ N:S92,k92.K w N cs∧(N.f0.size≤maxLen∧(Lit.int .i64 N.f1).wf=true):=by
 intro fuel cs x h
 obtain ⟨xs,n,rfl,hx,hl,hlen,hf⟩:=DataW.trod_struct Tryz.underlying92 h
 have hcN:Tryz.prog.cellsOf 92=3:=by kernel_rfl
 have hc_int:Tryz.prog.cellsOf 3=1:=by kernel_rfl
 have hc_i64:Tryz.prog.cellsOf 2=1:=by kernel_rfl
 have hc_str:Tryz.prog.cellsOf 9=1:=by kernel_rfl
 obtain ⟨v0,v1,v2,rfl⟩:=lst_of.2.2.1 (hl.trans hcN)
 obtain ⟨y0,y1,y2,rfl⟩:=lst_of.2.2.1 hlen
 have g0:DataW.trod enc Tryz.prog w 0 sp hd n 9 [v0]=some y0:=by simpa [hc_str] using hf 0 _ rfl
 have g1:DataW.trod enc Tryz.prog w 0 sp hd n 2 [v1]=some y1:=by simpa [hc_i64] using hf 1 _ rfl
 have g2:DataW.trod enc Tryz.prog w 0 sp hd n 3 [v2]=some y2:=by simpa [hc_int] using hf 2 _ rfl
 obtain ⟨a0,e0,_,hs0⟩:=DataW.trod_string Tryz.underlying9 g0
 obtain ⟨a1,e1,_,hw1⟩:=DataW.trod_int Tryz.underlying2 g1
 obtain ⟨a2,e2,_,hw2⟩:=DataW.trod_int Tryz.underlying3 g2
 simp only [List.cons.injEq,and_true] at e0 e1 e2
 subst e0 e1 e2
 exact ⟨⟨a0,a1,a2⟩,k92_mk w ⟨a0,a1,a2⟩ ,hs0,hw1⟩
end
def fileM (x:S34):Bool:=decide ((x.f1.length:Int)≤40) && (decide ((x.f2.length:Int)≤40) && decide ((x.f3.length:Int)≤40))
def fileE (x:S68):Bool:=decide ((x.f1.length:Int)≤40)
def fileB (M:List (S34)) (E:List (S68)):Bool:=decide (M.length≤30) && (decide (E.length≤30) && (M.all fileM && E.all fileE))
theorem file_l1 (M:List (S34)) (E:List (S68)) (hE:E.length≤9223372036854775807):∀ (n i k:Nat) (b:Bool),i + n=E.length→n < k→trufflelaw08_few.l1 k b (i:Int) M E=some (b && (E.drop i).all fileE):=by
 intro n
 induction n with
 | zero =>
  intro i k b hi hk
  obtain ⟨k,rfl⟩:∃ q,k=q + 1:=⟨k - 1,J7⟩
  rw [trufflelaw08_few.l1,if_neg J7,List.drop_eq_nil_of_le J7]
  simp
 | succ n ih =>
  intro i k b hi hk
  obtain ⟨k,rfl⟩:∃ q,k=q + 1:=⟨k - 1,J7⟩
  have hlt:i < E.length:=by omega
  have hrd:rd_T68 E (i:Int)=E[i]:=by unfold rd_T68;rw [Int.toNat_natCast,List.getD_eq_getElem?_getD];simp [hlt]
  have hw:wrap64 ((i:Int) + 1)=((i + 1:Nat):Int):=by unfold wrap64;omega
  rw [trufflelaw08_few.l1,if_pos J7,hrd,hw]
  cases b with
  | false=>rw [if_neg J11,Bool.false_and]
  | true =>
   rw [if_pos rfl,if_pos J7,List.drop_eq_getElem_cons hlt,List.all_cons,Bool.true_and,ih (i + 1) k _ J7 J7]
   rfl
theorem file_l0 (M:List (S34)) (E:List (S68)) (hM:M.length≤9223372036854775807) (hE:E.length≤9223372036854775807):∀ (n i k:Nat) (b:Bool),i + n=M.length→n + E.length + 3≤k→trufflelaw08_few.l0 k b (i:Int) M E=some (b && ((M.drop i).all fileM && E.all fileE)):=by
 have hj:∀ (k:Nat) (b:Bool),E.length + 2≤k→trufflelaw08_few.j2 k b M E=some (b && E.all fileE):=by
  intro k b hk
  obtain ⟨k,rfl⟩:∃ q,k=q + 1:=⟨k - 1,J7⟩
  have:=file_l1 M E hE E.length 0 k b J7 J7
  rw [trufflelaw08_few.j2]
  exact this
 intro n
 induction n with
 | zero =>
  intro i k b hi hk
  obtain ⟨k,rfl⟩:∃ q,k=q + 1:=⟨k - 1,J7⟩
  rw [trufflelaw08_few.l0,if_neg J7,List.drop_eq_nil_of_le J7,hj k b J7]
  simp
 | succ n ih =>
  intro i k b hi hk
  obtain ⟨k,rfl⟩:∃ q,k=q + 1:=⟨k - 1,J7⟩
  have hlt:i < M.length:=by omega
  have hrd:rd_T34 M (i:Int)=M[i]:=by unfold rd_T34;rw [Int.toNat_natCast,List.getD_eq_getElem?_getD];simp [hlt]
  have hw:wrap64 ((i:Int) + 1)=((i + 1:Nat):Int):=by unfold wrap64;omega
  rw [trufflelaw08_few.l0,if_pos J7,hrd,hw]
  cases b with
  | false=>rw [if_neg J11,hj k false J7,Bool.false_and,Bool.false_and]
  | true =>
   rw [if_pos rfl,if_pos J7,List.drop_eq_getElem_cons hlt,List.all_cons,Bool.true_and,Bool.and_assoc]
   unfold fileM
   by_cases h1:((M[i].f1.length:Int))≤40
   ·rw [if_pos h1,decide_eq_true h1,Bool.true_and]
    by_cases h2:((M[i].f2.length:Int))≤40
    ·rw [if_pos h2,decide_eq_true h2,Bool.true_and,ih (i + 1) k _ J7 J7]
     rfl
    ·rw [if_neg h2,decide_eq_false h2,Bool.false_and,Bool.false_and,ih (i + 1) k _ J7 J7,Bool.false_and]
   ·rw [if_neg h1,decide_eq_false h1,Bool.false_and,Bool.false_and,ih (i + 1) k _ J7 J7,Bool.false_and]
theorem file_f (M:List (S34)) (E:List (S68)) (hM:M.length≤9223372036854775807) (hE:E.length≤9223372036854775807) (k:Nat) (hk:M.length + E.length + 4≤k):trufflelaw08_few.f k M E=some (fileB M E):=by
 obtain ⟨k,rfl⟩:∃ q,k=q + 1:=⟨k - 1,J7⟩
 have hl:∀ b,trufflelaw08_few.j0 (k + 1) b M E=some (b && (M.all fileM && E.all fileE)):=by
  intro b
  have:=file_l0 M E hM hE M.length 0 k b J7 J7
  rw [trufflelaw08_few.j0]
  exact this
 unfold trufflelaw08_few.f fileB
 have e1:decide ((E.length:Int)≤30)=decide (E.length≤30):=decide_eq_decide.2 J7
 by_cases h:M.length≤30
 ·rw [if_pos J7,hl,e1,decide_eq_true h,Bool.true_and]
 ·rw [if_neg J7,hl,decide_eq_false h,Bool.false_and,Bool.false_and]
theorem rsN_names (M:List (S34)) (E:List (S68)) (h:rsGood M E):(rsN M E).1=rsNm M E:=by
 obtain ⟨h1,h2,h3,_,_⟩:=h
 obtain ⟨n1,n2,n3⟩:=List.nodup_append.1 h3
 have g1:nmGood mgP (fun x=>bl x.f0) M (fun _=>none):=⟨fun x hx=>⟨(h1 x hx).1,(h1 x hx).2,rfl⟩,n1⟩
 have e:=mgL_names M 0 (fun _=>none,0,0) g1
 have g2:nmGood egP (fun x=>bl x.f0) E (mgL 0 M (fun _=>none,0,0)).1:=by
  refine ⟨fun x hx=>⟨(h2 x hx).1,(h2 x hx).2,?_⟩,n2⟩
  rw [e]
  exact addN_no 9 _ 0 _ _ (fun hm=>n3 _ hm _ (List.mem_map.2 ⟨x,hx,rfl⟩) rfl)
 unfold rsN rsNm
 rw [egL_names E 0 _ g2,e]
theorem rsF_good (M:List (S34)) (E:List (S68)) (h0:1≤M.length∧M.length≤20∧E.length≤20) (h:rsGood M E):rsF M E=((M.map (msDef (rsNm M E)),E.map enDef),0,0):=by
 unfold rsF
 rw [if_neg J7,if_pos ((rsE_zero M E).2 h),rsN_names M E h]
theorem rsF_bad (M:List (S34)) (E:List (S68)) (h:¬ ((1≤M.length∧M.length≤20∧E.length≤20)∧rsGood M E)):∃ a e:Int,e≠0∧rsF M E=(([],[]),a,e):=by
 unfold rsF
 by_cases h0:M.length=0∨20 < M.length∨20 < E.length
 ·rw [if_pos h0]
  exact ⟨0,2,J11,rfl⟩
 ·rw [if_neg h0]
  by_cases hz:(rsE M E).2=0
  ·exact absurd ⟨J7,(rsE_zero M E).1 hz⟩ h
  ·rw [if_neg hz]
   exact ⟨_,_,hz,rfl⟩
theorem fail_keep {a e:Int} (h:e≠0) (b:Bool) (x c:Int):failE a e b x c=(a,e):=by
 unfold failE
 rw [if_neg (fun g=>h g.2)]
theorem fail_four {a e:Int} (h:e=0∨e=4) (b:Bool) (x:Int):(failE a e b x 4).2=0∨(failE a e b x 4).2=4:=by
 unfold failE
 split
 ·exact .inr rfl
 ·exact h
theorem fdE_keep (f:List UInt8→Option (Int × Int)) (nO:Nat) (x:S36) (S:List UInt8→Option Bool) (N:Int→Option Bool) {a e:Int} (h:e≠0):fdE f nO x S N a e=(a,e):=by
 unfold fdE fdE3 fdE2 fdE1
 rw [fail_keep h]
 by_cases hk:hasK x=true
 ·rw [if_pos hk,fail_keep h,fail_keep h]
 ·rw [if_neg hk,fail_keep h]
theorem fdL_keep (f:List UInt8→Option (Int × Int)) (nO:Nat):∀ (l:List (S36)) (S:List UInt8→Option Bool) (N:Int→Option Bool) {a e:Int},e≠0→fdL f nO l S N a e=(a,e)
 | [],_,_,_,_,_=>rfl
 | x :: l,S,N,a,e,h=>by rw [fdL,fdE_keep f nO x S N h,fdL_keep f nO l _ _ h]
theorem enL_keep:∀ (l:List (S92)) (i:Nat) (S:List UInt8→Option Bool) (N:Int→Option Bool) {a e:Int},e≠0→enL i l S N a e=(a,e)
 | [],_,_,_,_,_,_=>rfl
 | x :: l,i,S,N,a,e,h=>by rw [enL,fail_keep h,enL_keep l _ _ _ h]
theorem mrL_keep (f:List UInt8→Option (Int × Int)):∀ (l:List (S34)) (r:Int × Int),r.2≠0→mrL f l r=r
 | [],_,_=>rfl
 | x :: l,r,h=>by
  rw [mrL]
  unfold msE
  rw [fdL_keep f _ _ _ _ h,mrL_keep f l (r.1,r.2) h]
theorem enuL_keep:∀ (l:List (S68)) (r:Int × Int),r.2≠0→enuL l r=r
 | [],_,_=>rfl
 | x :: l,r,h=>by
  rw [enuL]
  unfold enE
  rw [enL_keep _ _ _ _ h,enuL_keep l (r.1,r.2) h]
theorem mgL_four:∀ (l:List (S34)) (i:Nat) (s:NmSt),(∀ x ∈ l,mgP x)→s.2.2=0∨s.2.2=4→(mgL i l s).2.2=0∨(mgL i l s).2.2=4
 | [],_,_,_,h=>h
 | x :: l,i,s,hp,h=>by
  rw [mgL]
  refine mgL_four l (i + 1) _ (fun y hy=>hp y (List.mem_cons_of_mem _ hy)) ?_
  have hx:=hp x (List.mem_cons_self ..)
  unfold mgP at hx
  unfold mgE
  simp only
  rw [show (decide (30 < x.f1.length) || decide (30 < x.f2.length))=false from by rw [decide_eq_false J7,decide_eq_false J7];rfl,fail_no]
  exact fail_four h _ _
theorem egL_four:∀ (l:List (S68)) (i:Nat) (s:NmSt),(∀ x ∈ l,egP x)→s.2.2=0∨s.2.2=4→(egL i l s).2.2=0∨(egL i l s).2.2=4
 | [],_,_,_,h=>h
 | x :: l,i,s,hp,h=>by
  rw [egL]
  refine egL_four l (i + 1) _ (fun y hy=>hp y (List.mem_cons_of_mem _ hy)) ?_
  have hx:=hp x (List.mem_cons_self ..)
  unfold egP at hx
  unfold egE
  simp only
  rw [show ((x.f1.length == 0) || decide (30 < x.f1.length))=false from by rw [decide_eq_false J7,beq_eq_false_iff_ne.2 J7];rfl,fail_no]
  exact fail_four h _ _
theorem addN_app (k:Int):∀ (l m:List (List UInt8)) (i:Nat) (f:List UInt8→Option (Int × Int)),addN k i (l++m) f=addN k (i + l.length) m (addN k i l f)
 | [],m,i,f=>by simp [addN]
 | x :: l,m,i,f=>by
  rw [List.cons_append,addN,addN_app k l m,addN,List.length_cons]
  congr 1
  omega
theorem addN_congr (k:Int) (y:List UInt8):∀ (l:List (List UInt8)) (i:Nat) (f g:List UInt8→Option (Int × Int)),f y=g y→addN k i l f y=addN k i l g y
 | [],_,_,_,h=>h
 | x :: l,i,f,g,h=>by
  rw [addN,addN]
  refine addN_congr k y l (i + 1) _ _ ?_
  show (if y=x then _ else f y)=(if y=x then _ else g y)
  rw [h]
def moreM (M:List (S34)) (nm:ByteArray):List (S34):=M++[⟨nm,[],[],[],0⟩]
section
variable {M:List (S34)} {E:List (S68)} {nm:ByteArray}
theorem more_mem {P:S34→Prop}:(∀ x ∈ moreM M nm,P x)↔(∀ x ∈ M,P x)∧P ⟨nm,[],[],[],0⟩:=by
 unfold moreM
 simp only [List.mem_append,List.mem_singleton]
 exact ⟨fun h=>⟨fun x hx=>h x (.inl hx),h _ (.inr rfl)⟩,fun h x hx=>hx.elim (h.1 x) (fun e=>e ▸ h.2)⟩
theorem more_names:(moreM M nm).map (fun x=>bl x.f0)=M.map (fun x=>bl x.f0)++[bl nm]:=by unfold moreM;simp
theorem more_nm (y:List UInt8) (hy:y≠bl nm):rsNm (moreM M nm) E y=rsNm M E y:=by
 unfold rsNm
 rw [more_names,addN_app]
 refine addN_congr 6 y _ 0 _ _ ?_
 rw [addN,addN]
 exact if_neg hy
def NewN (M:List (S34)) (E:List (S68)) (nm:ByteArray):Prop:=typO (bl nm)=none∧bl nm ∉ M.map (fun x=>bl x.f0)∧bl nm ∉ E.map (fun x=>bl x.f0)
instance decNew:Decidable (NewN M E nm):=by unfold NewN;infer_instance
theorem more_kind (hn:NewN M E nm) (y:List UInt8) (h:(kindF (rsNm M E) y).2.2=true):kindF (rsNm (moreM M nm) E) y=kindF (rsNm M E) y:=by
 unfold kindF at *
 cases ht:typO y with
 | some k=>rfl
 | none =>
  rw [ht] at h
  have h':(rsNm M E y).isSome=true:=h
  have hy:y≠bl nm:=by
   rintro rfl
   have e:rsNm M E (bl nm)=none:=by unfold rsNm;rw [addN_no 6 _ 0 _ _ hn.2.2,addN_no 9 _ 0 _ _ hn.2.1]
   rw [e] at h'
   cases h'
  rw [more_nm y hy]
theorem more_all (hn:NewN M E nm) (nO:Nat) (l:List (S36)) (S:List UInt8→Option Bool) (N:Int→Option Bool) (h:fdAll (rsNm M E) nO l S N):fdAll (rsNm (moreM M nm) E) nO l S N:=by
 refine ⟨fun x hx=>?_,h.2⟩
 obtain ⟨h1,h2,h3,h4,h5⟩:=h.1 x hx
 exact ⟨h1,h2,h3,h4,by rw [more_kind hn _ h5];exact h5⟩
theorem more_good (hn:NewN M E nm) (hg:rsGood M E):rsGood (moreM M nm) E:=by
 obtain ⟨h1,h2,h3,h4,h5⟩:=hg
 obtain ⟨n1,n2,n3⟩:=List.nodup_append.1 h3
 refine ⟨more_mem.2 ⟨h1,⟨Nat.zero_le _,Nat.zero_le _⟩,hn.1⟩,h2,?_,more_mem.2 ⟨fun x hx=>more_all hn _ _ _ _ (h4 x hx),?_⟩,h5⟩
 ·rw [more_names]
  refine List.nodup_append.2 ⟨List.nodup_append.2 ⟨n1,J53,fun a ha b hb hab=>?_⟩,n2,fun a ha b hb hab=>?_⟩
  ·rw [List.mem_singleton.1 hb] at hab
   exact hn.2.1 (hab ▸ ha)
  ·rcases List.mem_append.1 ha with ha|ha
   ·exact n3 a ha b hb hab
   ·rw [List.mem_singleton.1 ha] at hab
    exact hn.2.2 (hab ▸ hb)
 ·exact ⟨fun x hx=>absurd hx List.not_mem_nil,List.nodup_nil,fun x hx=>absurd hx List.not_mem_nil,List.nodup_nil,fun x hx=>absurd hx List.not_mem_nil⟩
theorem more_defs (hn:NewN M E nm) (hg:rsGood M E):(moreM M nm).map (msDef (rsNm (moreM M nm) E))=M.map (msDef (rsNm M E))++[msDef (rsNm (moreM M nm) E) ⟨nm,[],[],[],0⟩]:=by
 unfold moreM
 rw [List.map_append]
 congr 1
 refine List.map_congr_left fun x hx=>?_
 show msDef (rsNm (moreM M nm) E) x=_
 unfold msDef
 congr 2
 refine List.map_congr_left fun z hz=>?_
 unfold fdDef
 rw [more_kind hn _ (((hg.2.2.2.1 x hx).1 z hz).2.2.2.2)]
theorem more_bad (hg:rsGood M E) (hn:¬ NewN M E nm):(rsE (moreM M nm) E).2=4:=by
 have h4:(rsN (moreM M nm) E).2.2=0∨(rsN (moreM M nm) E).2.2=4:=by
  unfold rsN
  exact egL_four E 0 _ (fun x hx=>(hg.2.1 x hx).1) (mgL_four _ 0 _ (more_mem.2 ⟨fun x hx=>(hg.1 x hx).1,⟨Nat.zero_le _,Nat.zero_le _⟩⟩) (.inl rfl))
 have h0:(rsN (moreM M nm) E).2.2≠0:=by
  intro h
  obtain ⟨k1,k2,k3⟩:=(rsN_good _ _).1 ((rsN_good0 _ _).1 h)
  rw [more_names] at k3
  obtain ⟨n1,n2,n3⟩:=List.nodup_append.1 k3
  obtain ⟨m1,m2,m3⟩:=List.nodup_append.1 n1
  refine hn ⟨(more_mem.1 k1).2.2,fun hm=>m3 _ hm _ (List.mem_singleton.2 rfl) rfl,fun hm=>n3 _ (List.mem_append_right _ (List.mem_singleton.2 rfl)) _ hm rfl⟩
 unfold rsE
 rw [mrL_keep _ _ _ h0,enuL_keep _ _ h0]
 exact h4.resolve_left h0
end
theorem any_l1 (nm:ByteArray) (h:Int) (M:List (S34)) (E:List (S68)) (s:List (S57)) (t:List (S119)) (s2:List (S57)) (t2:List (S119)) (hE:E.length≤9223372036854775807):∀ (n i:Nat) (b:Bool) (k:Nat),i + n=E.length→n + 1 < k →
  ∃ j,trufflelaw08_TableMore.l1 k nm h b (i:Int) M E s t s2 t2=trufflelaw08_TableMore.j3 (j + 1) nm h (b || (E.drop i).any (fun x=>x.f0.toList == nm.toList)) ((b || (E.drop i).any (fun x=>x.f0.toList == nm.toList)) || (h != 0)) M E s t s2 t2:=by
 intro n
 induction n with
 | zero =>
  intro i b k hi hk
  obtain ⟨k,rfl⟩:∃ q,k=q + 2:=⟨k - 2,J7⟩
  refine ⟨k,?_⟩
  rw [trufflelaw08_TableMore.l1,if_neg J7,List.drop_eq_nil_of_le J7]
  cases b with
  | true=>rw [if_pos rfl];rfl
  | false=>rw [if_neg J11];rfl
 | succ n ih =>
  intro i b k hi hk
  obtain ⟨k,rfl⟩:∃ q,k=q + 1:=⟨k - 1,J7⟩
  have hlt:i < E.length:=by omega
  have hw:wrap64 ((i:Int) + 1)=((i + 1:Nat):Int):=by unfold wrap64;omega
  have hrd:rd_T68 E (i:Int)=E[i]:=by unfold rd_T68;rw [Int.toNat_natCast,List.getD_eq_getElem?_getD];simp [hlt]
  rw [trufflelaw08_TableMore.l1,if_pos J7,hw,List.drop_eq_getElem_cons hlt,List.any_cons]
  cases b with
  | true =>
   rw [if_pos rfl]
   obtain ⟨j,hj⟩:=ih (i + 1) true k J7 J7
   exact ⟨j,by rw [hj];simp only [Bool.true_or]⟩
  | false =>
   rw [if_neg J11,if_pos J7,hrd,Bool.false_or]
   exact ih (i + 1) _ k J7 J7
theorem any_l0 (nm:ByteArray) (h:Int) (M:List (S34)) (E:List (S68)) (s:List (S57)) (t:List (S119)) (s2:List (S57)) (t2:List (S119)) (hM:M.length≤9223372036854775807) (hE:E.length≤9223372036854775807):∀ (n i:Nat) (b:Bool) (k:Nat),i + n=M.length→n + E.length + 2 < k →
  ∃ j,trufflelaw08_TableMore.l0 k nm h b (i:Int) M E s t s2 t2=trufflelaw08_TableMore.j3 (j + 1) nm h ((b || (M.drop i).any (fun x=>x.f0.toList == nm.toList)) || E.any (fun x=>x.f0.toList == nm.toList)) (((b || (M.drop i).any (fun x=>x.f0.toList == nm.toList)) || E.any (fun x=>x.f0.toList == nm.toList)) || (h != 0)) M E s t s2 t2:=by
 intro n
 induction n with
 | zero =>
  intro i b k hi hk
  obtain ⟨k,rfl⟩:∃ q,k=q + 1:=⟨k - 1,J7⟩
  obtain ⟨j,hj⟩:=any_l1 nm h M E s t s2 t2 hE E.length 0 b k J7 J7
  refine ⟨j,?_⟩
  rw [trufflelaw08_TableMore.l0,if_neg J7,List.drop_eq_nil_of_le J7,List.any_nil,Bool.or_false]
  exact hj
 | succ n ih =>
  intro i b k hi hk
  obtain ⟨k,rfl⟩:∃ q,k=q + 1:=⟨k - 1,J7⟩
  have hlt:i < M.length:=by omega
  have hw:wrap64 ((i:Int) + 1)=((i + 1:Nat):Int):=by unfold wrap64;omega
  have hrd:rd_T34 M (i:Int)=M[i]:=by unfold rd_T34;rw [Int.toNat_natCast,List.getD_eq_getElem?_getD];simp [hlt]
  rw [trufflelaw08_TableMore.l0,if_pos J7,hw,List.drop_eq_getElem_cons hlt,List.any_cons]
  cases b with
  | true =>
   rw [if_pos rfl]
   obtain ⟨j,hj⟩:=ih (i + 1) true k J7 J7
   exact ⟨j,by rw [hj];simp only [Bool.true_or]⟩
  | false =>
   rw [if_neg J11,if_pos J7,hrd,Bool.false_or]
   exact ih (i + 1) _ k J7 J7
theorem new_b {o:Option Int} {A B:Prop} [Decidable A] [Decidable B] [Decidable (o=none∧¬A∧¬B)]:((o.isSome || decide A) || decide B)=!(decide (o=none∧¬A∧¬B)):=by
 cases o <;> by_cases ha:A <;> by_cases hb:B <;> simp [ha,hb]
theorem any_mem {α:Type} (f:α→ByteArray) (nm:ByteArray) (l:List α):l.any (fun x=>(f x).toList == nm.toList)=decide (bl nm ∈ l.map (fun x=>bl (f x))):=by
 rw [Bool.eq_iff_iff,List.any_eq_true,decide_eq_true_eq,List.mem_map]
 constructor
 ·rintro ⟨x,hx,h⟩
  have h:=beq_iff_eq.1 h
  rw [toList_bl,toList_bl] at h
  exact ⟨x,hx,h⟩
 ·rintro ⟨x,hx,h⟩
  exact ⟨x,hx,beq_iff_eq.2 (by rw [toList_bl,toList_bl];exact h)⟩
theorem TableMore (M:List (S34)) (E:List (S68)) (ht:(M.length≤maxLen∧E.length≤maxLen)∧RsOk M E) (a1:ByteArray) (hs:a1.size≤140737488351232):∃ k,trufflelaw08_TableMore.f k M E a1=some true:=by
 have hmx:maxLen=9223372036854775807:=by decide
 obtain ⟨⟨hM,hE⟩,hok⟩:=ht
 rw [hmx] at hM hE
 refine ⟨M.length + E.length + 2000,?_⟩
 have hr:table_Resolve.f M E=some ((rsF M E).1.1,(rsF M E).1.2,(rsF M E).2.1,(rsF M E).2.2):=by unfold table_Resolve.f;rw [if_pos hok]
 unfold trufflelaw08_TableMore.f
 rw [awake08_true,Option.bind_some,file_f M E hM hE _ J7,Option.bind_some,hr,Option.bind_some,if_pos rfl]
 obtain ⟨q,hq⟩:∃ q,M.length + E.length + 2000=q + 1:=⟨M.length + E.length + 1999,J7⟩
 rw [hq]
 have hj:∀ s t,trufflelaw08_TableMore.j0 (q + 1) a1 true true M E s t=some true:=by intro s t;rw [trufflelaw08_TableMore.j0,if_pos rfl]
 simp only [hj]
 cases hfw:fileB M E with
 | false=>rw [if_neg J11]
 | true =>
  rw [if_pos rfl]
  by_cases hg:(1≤M.length∧M.length≤20∧E.length≤20)∧rsGood M E
  rotate_left
  ·obtain ⟨a,e,he,h⟩:=rsF_bad M E hg
   rw [h]
   simp only [if_neg he]
  obtain ⟨h0,hg⟩:=hg
  rw [rsF_good M E h0 hg]
  simp only [if_true]
  by_cases h20:(M.length:Int) ≥ 20
  ·rw [decide_eq_true h20,hj]
  rw [decide_eq_false h20]
  have hok2:RsOk (moreM M a1) E:=⟨more_mem.2 ⟨hok.1,by rw [hmx];show a1.size≤_;omega,⟨Nat.zero_le _,Nat.zero_le _,Nat.zero_le _⟩,fun y hy=>absurd hy List.not_mem_nil,fun y hy=>absurd hy List.not_mem_nil,fun y hy=>absurd hy List.not_mem_nil⟩,hok.2⟩
  have hr2:table_Resolve.f (moreM M a1) E=some ((rsF (moreM M a1) E).1.1,(rsF (moreM M a1) E).1.2,(rsF (moreM M a1) E).2.1,(rsF (moreM M a1) E).2.2):=by unfold table_Resolve.f;rw [if_pos hok2]
  have hty:table_Type.f a1=some ((typO (bl a1)).getD 0,(typO (bl a1)).isSome):=by unfold table_Type.f;rw [if_pos J7]
  have hml:(moreM M a1).length=M.length + 1:=by unfold moreM;simp
  rw [trufflelaw08_TableMore.j0,if_neg J11,hty,Option.bind_some]
  simp only [List.length_nil,List.nil_append,Option.bind_some,List.length_cons]
  rw [if_pos J7,if_pos J7,show M++[(⟨a1,[],[],[],0⟩:S34)]=moreM M a1 from rfl,hr2,Option.bind_some]
  obtain ⟨j,hj3⟩:=any_l0 a1 (rsF (moreM M a1) E).2.2 M E (M.map (msDef (rsNm M E))) (E.map enDef) (rsF (moreM M a1) E).1.1 (rsF (moreM M a1) E).1.2 hM hE M.length 0 (typO (bl a1)).isSome q J7 J7
  refine hj3.trans ?_
  rw [List.drop_zero,any_mem (fun x:S34=>x.f0),any_mem (fun x:S68=>x.f0)]
  have hw:(((typO (bl a1)).isSome || decide (bl a1 ∈ M.map (fun x=>bl x.f0))) || decide (bl a1 ∈ E.map (fun x=>bl x.f0)))=!(decide (NewN M E a1)):=by
   exact new_b
  rw [hw,trufflelaw08_TableMore.j3]
  by_cases hn:NewN M E a1
  ·have hg2:=more_good hn hg
   have hm:=res_may (moreM M a1) E J7 hg2
   rw [rsF_good (moreM M a1) E J7 hg2,decide_eq_true hn,if_neg J53]
   have hlt:M.length < ((moreM M a1).map (msDef (rsNm (moreM M a1) E))).length:=by rw [List.length_map];omega
   have hrt:=idx_rt hm M.length hlt
   have e0:(((moreM M a1).map (msDef (rsNm (moreM M a1) E)))[M.length]).f0=a1:=by
    rw [List.getElem_map]
    show ((moreM M a1)[M.length]'J7).f0=a1
    simp [moreM]
   rw [e0] at hrt
   have hrf:table_Root.f ((moreM M a1).map (msDef (rsNm (moreM M a1) E))) (E.map enDef) a1=some ((M.length:Int),true):=by
    unfold table_Root.f
    simp only [hrt]
    rw [if_neg J7,decide_eq_true J7]
   have hw1:wrap64 ((((moreM M a1).map (msDef (rsNm (moreM M a1) E))).length:Int) - 1)=(M.length:Int):=by rw [List.length_map,hml];unfold wrap64;omega
   rw [hrf,Option.bind_some]
   simp only [hw1]
   rw [if_neg J7,if_pos J7,if_pos J7,if_pos trivial,if_pos trivial,Int.toNat_natCast,more_defs hn hg,List.take_left' J53]
   unfold table_Same.f
   rw [sch_refl]
   rfl
  ·have hb:=more_bad hg hn
   have hrs:rsF (moreM M a1) E=(([],[]),(rsE (moreM M a1) E).1,4):=by
    unfold rsF
    rw [if_neg J7,hb,if_neg J11]
   rw [hrs,decide_eq_false hn,if_pos J53,if_pos J53]
   rfl
theorem TableMoreW (M:List (S34)) (E:List (S68)) (A0:Option Addr) (c0:Nat) (A1:Option Addr) (c1:Nat) (a1:ByteArray) (W:World) (hC:Kd.C k34 W A0 M.length M) (hc:M.length≤c0) (hB:Kd.C k68 W A1 E.length E) (hb:E.length≤c1) (ht:(M.length≤maxLen∧E.length≤maxLen)∧RsOk M E) (hs:a1.size≤140737488351232) (hG:GInv W) :
  Calls Tryz.prog 10 #[.agg #[.slice A0 M.length c0,.slice A1 E.length c1],.string a1] W fun e w'=>e = .returned (.bool true)∧Below W.heap.size W w':=by
 obtain ⟨k,h⟩:=TableMore M E ht a1 hs
 exact trufflelaw08_TableMore.calls k A0 c0 M A1 c1 E a1 W hG hC hc hB hb h
end Go.Proofs.YtddpjjhekhompaaGreatDoor.P
namespace Go.Proofs.YtddpjjhekhompaaGreatDoor.laidKit
open Go.RowKit
abbrev lst : List (String × DataW Unit) := [("math/bits.deBruijn32tab", Rows.laid_math_bits_deBruijn32tab), ("math/bits.deBruijn64tab", Rows.laid_math_bits_deBruijn64tab), ("internal/strconv.uint64pow10", Rows.laid_internal_strconv_uint64pow10), ("strconv.ErrRange", Rows.laid_strconv_ErrRange), ("strconv.ErrSyntax", Rows.laid_strconv_ErrSyntax)]
theorem gPow : Tryz.prog.globalNamed "internal/strconv.uint64pow10" = some 0 := by kernel_rfl
theorem gPowT:(Tryz.prog.globals[0]?).map (·.type)=some 249:=by kernel_rfl
theorem cPow:Tryz.prog.cellsOf 249=20:=by kernel_rfl
theorem cU64:Tryz.prog.cellsOf 218=1:=by kernel_rfl
theorem gRng : Tryz.prog.globalNamed "strconv.ErrRange" = some 2 := by kernel_rfl
theorem gRngT:(Tryz.prog.globals[2]?).map (·.type)=some 162:=by kernel_rfl
theorem gSyn : Tryz.prog.globalNamed "strconv.ErrSyntax" = some 1 := by kernel_rfl
theorem gSynT:(Tryz.prog.globals[1]?).map (·.type)=some 162:=by kernel_rfl
theorem cErr:Tryz.prog.cellsOf 267=1:=by kernel_rfl
theorem cStr:Tryz.prog.cellsOf 9=1:=by kernel_rfl
theorem star : "*" ++ "errors.errorString" = "*errors.errorString" := by decide
theorem rowErr (u : TypeId) (h : Tryz.prog.typeName? 3 u = some "*errors.errorString") : u = 265 :=
 typeName_ptr_named (nm := "errors.errorString") (by rw [star]; kernel_rfl) J0 J11 u (by rw [star]; exact h)
theorem pow_is:(Rows.laid_internal_strconv_uint64pow10:DataW Unit)=Lib.tabData .u64 Lib.pow10Tab:=by rfl
theorem ginv {W:World} (h:laidMetH Tryz.prog lst W):P.GInv W:=by
 rw [Go.MakeChecks.laidMetH_plain _ _ _ J0] at h
 have h3:=h.tail.tail
 have hp : Lib.TabIs Tryz.prog W "internal/strconv.uint64pow10" .u64 Lib.pow10Tab :=
  Lib.tabIs_of_head gPow gPowT Tryz.underlying249 Tryz.underlying218 cU64 cPow (by rw [← pow_is];exact h3)
 obtain ⟨a1,s1,hv1,_,_,_⟩:=laid_sentinel h3.tail gRng gRngT Tryz.underlying162 rowErr Tryz.underlying265 Tryz.underlying267 rfl rfl Tryz.underlying9 cErr cStr
 obtain ⟨a2,s2,hv2,_,_,_⟩:=laid_sentinel h3.tail.tail gSyn gSynT Tryz.underlying162 rowErr Tryz.underlying265 Tryz.underlying267 rfl rfl Tryz.underlying9 cErr cStr
 refine ⟨⟨_,_,by have h0:=World.var?_cell gSyn hv2 0;simpa using h0⟩,⟨_,_,by have h0:=World.var?_cell gRng hv1 0;simpa using h0⟩,hp,?_⟩
 have c0:=hp.cell gPow 0 J11
 exact World.block_lt_of_cell? W _ c0
abbrev synS:ByteArray:={ data:=#[105,110,118,97,108,105,100,32,115,121,110,116,97,120] }
abbrev rngS:ByteArray:={ data:=#[118,97,108,117,101,32,111,117,116,32,111,102,32,114,97,110,103,101] }
def cellsOfData:DataW Unit→Array Value
 | .agg l=>(l.map fun
   | .lit (.int k n)=>Value.int k n
   | _=>.nilIface).toArray
 | _=>#[]
noncomputable def low:Nat:=(World.holding Tryz.prog default ⟨#[],#[],[]⟩).heap.size
noncomputable def laidWorld (os:Os):World :=
 let w0:=World.holding Tryz.prog os ⟨#[.cells #[.string synS] 267,.cells #[.string rngS] 267],#[],[]⟩
 { w0 with heap:=((((w0.heap.modify 0 fun
   | .cells _ t frozen=>.cells (cellsOfData Rows.laid_internal_strconv_uint64pow10) t frozen
   | o=>o).modify 1 fun
   | .cells _ t frozen=>.cells #[.iface 265 (.pointer (some ⟨low,0,none⟩))] t frozen
   | o=>o).modify 2 fun
   | .cells _ t frozen=>.cells #[.iface 265 (.pointer (some ⟨low + 1,0,none⟩))] t frozen
   | o=>o).modify 4 fun
   | .cells _ t frozen=>.cells (cellsOfData Rows.laid_math_bits_deBruijn32tab) t frozen
   | o=>o).modify 5 fun
   | .cells _ t frozen=>.cells (cellsOfData Rows.laid_math_bits_deBruijn64tab) t frozen
   | o=>o }
theorem laid_met (os:Os) (args:Array Value):laidMet Tryz.prog lst ((laidWorld os).forCall (fun _ _=>0) ⟨#[],args,[]⟩).memory :=
 laidMet_of_run' 8 J0 J0
end Go.Proofs.YtddpjjhekhompaaGreatDoor.laidKit
namespace Go.Proofs.YtddpjjhekhompaaGreatDoor.P
open Go.RowKit Go.Proofs.YtddpjjhekhompaaGreatDoorW.PrintWords Go.Proofs.YtddpjjhekhompaaGreatDoorW.PrintLast Go.Proofs.YtddpjjhekhompaaGreatDoorW.PrintMore
attribute [local go_sem] max2_int max_two
set_option linter.unusedVariables false
set_option linter.unusedSimpArgs false
theorem weights_all {H:Type} {P:Program} {e:TypeId} {d:DataW H} {q:Nat}:∀ {l:List (DataW H)},d ∈ l→q ∈ d.weights P e→q ∈ DataW.weightsAll P e l
 | x :: l,h,hq=>by
  rw [DataW.weightsAll]
  rcases List.mem_cons.1 h with rfl|h
  ·exact List.mem_append_left _ hq
  ·exact List.mem_append_right _ (weights_all h hq)
theorem weights_agg {H:Type} {P:Program} {t:TypeId} {fs:Array Field} (ht:P.underlying t=some (.struct fs)) (l:List (DataW H)):(DataW.agg l).weights P t=DataW.weightsEach P (fs.toList.map (·.type)) l:=by simp only [DataW.weights,ht]
open Go.Deep Go.ChangeShapes Go.WideShapes in
theorem open_rowZ {α:Type} [Inhabited α] (d:Kd α) (P:α→Prop) {e t:TypeId} (ht:Tryz.prog.underlying t=some (.slice e)) (hsz:Tryz.prog.cellsOf e=d.sz) {H:Type} {enc:TypeId × Value→H} {w:World} {sp:Nat→Bool} {hd:Bool}
  (elem:∀ (fuel:Nat) (cs:List Value) (x:DataW H × List MemPlace),DataW.trod enc Tryz.prog w 0 sp hd fuel e cs=some x→(∀ q ∈ x.1.weights Tryz.prog e,q≤reachBytes)→∃ N:α,d.K w N cs∧P N) :
  ∀ (fuel:Nat) (v:Value) (x:DataW H × List MemPlace),DataW.trod enc Tryz.prog w 0 sp hd fuel t [v]=some x→(∀ q ∈ x.1.weights Tryz.prog t,q≤reachBytes)→∃ (A:Option Addr) (c:Nat) (l:List α),v = .slice A l.length c∧d.C w A l.length l∧l.length≤c∧(l.length≤maxLen∧l.length * Tryz.prog.bytesOf e≤reachBytes)∧∀ y ∈ l,P y:=by
 intro fuel v x h hz
 rcases DataW.trod_slice ht h with ⟨h0,_⟩|⟨a,len,cap,elems,rest,m,hm,h0,hx,hb,hlc,hcm,hln,hel,_,_⟩
 ·simp only [List.cons.injEq,and_true] at h0
  subst h0
  exact ⟨none,0,[],rfl,Kd.C_nil _ _,Nat.le_refl _,⟨Nat.zero_le _,J53⟩,fun y hy=>absurd hy List.not_mem_nil⟩
 ·simp only [List.cons.injEq,and_true] at h0
  subst h0
  rw [hx] at hz
  have hw:(DataW.slice (elems.map (·.1)) (rest.map (·.1))).weights Tryz.prog t=((elems.map (·.1)).length + (rest.map (·.1)).length) * Tryz.prog.bytesOf e :: (DataW.weightsAll Tryz.prog e (elems.map (·.1))++DataW.weightsAll Tryz.prog e (rest.map (·.1))):=by simp only [DataW.weights,ht]
  have hz0:elems.length * Tryz.prog.bytesOf e≤reachBytes:=by
   refine Nat.le_trans (Nat.mul_le_mul_right _ ?_) (hz _ (by rw [hw];exact List.mem_cons_self ..))
   simp
  have each:∀ i,i < len→∃ N:α,∃ c,P N∧c.length=d.sz∧d.K w N c∧∀ j u,c[j]?=some u→w.cell? (a.add (i * d.sz + j))=some u:=by
   intro i hi
   have h1:=hel i hi
   rw [List.getElem?_eq_getElem (show i < elems.length by omega)] at h1
   obtain ⟨c,h2,h3⟩:=Option.bind_eq_some_iff.1 h1
   rw [hsz] at h2
   obtain ⟨_,h4,h5⟩:=World.cells?_some h2
   obtain ⟨N,hN,ht⟩:=elem m c _ h3 (fun q hq=>hz q (by rw [hw];exact List.mem_cons_of_mem _ (List.mem_append_left _ (weights_all (List.mem_map_of_mem (List.getElem_mem _)) hq))))
   refine ⟨N,c,ht,h4,hN,fun j u hu=>?_⟩
   have hj:j < d.sz:=by rw [← h4];exact (List.getElem?_eq_some_iff.1 hu).1
   rw [← Go.Deep.add_add,h5 j hj]
   exact hu
  obtain ⟨f,hF⟩:=choose_lt each
  have hL:((List.range len).map f).length=len:=by simp
  refine ⟨some a,cap,(List.range len).map f,by rw [hL],⟨rfl,by rw [hL];exact Nat.le_trans (Nat.le_trans hlc hcm) J11,fun _=>⟨a,rfl,fun j p hj=>?_⟩⟩,by rw [hL];exact hlc,⟨by rw [hL];exact Nat.le_trans hlc hcm,by rw [hL,← hln];exact hz0⟩,fun y hy=>?_⟩
  ·have hjl:j < len:=by have:=(List.getElem?_eq_some_iff.1 hj).1;rwa [hL] at this
   have hp:f j=p:=by simpa [hjl] using hj
   rw [← hp]
   obtain ⟨c,_,hc⟩:=hF j hjl
   exact ⟨c,hc⟩
  ·obtain ⟨j,hj,rfl⟩:=List.mem_map.1 hy
   obtain ⟨c,ht,_⟩:=hF j (List.mem_range.1 hj)
   exact ht
section
variable {H:Type} {enc:TypeId × Value→H} {w:World} {sp:Nat→Bool} {hd:Bool}
open Go.Deep Go.ChangeShapes Go.WideShapes in
theorem open_msZ:∀ (fuel:Nat) (cs:List Value) (x:DataW H × List MemPlace),DataW.trod enc Tryz.prog w 0 sp hd fuel 34 cs=some x→(∀ q ∈ x.1.weights Tryz.prog 34,q≤reachBytes)→∃ N:S34,k34.K w N cs∧RmOk N:=by
 intro fuel cs x h hz
 obtain ⟨xs,n,rfl,hx,hl,hlen,hf⟩:=DataW.trod_struct Tryz.underlying34 h
 have hcN:Tryz.prog.cellsOf 34=5:=by kernel_rfl
 have hc_int:Tryz.prog.cellsOf 3=1:=by kernel_rfl
 have hc_str:Tryz.prog.cellsOf 9=1:=by kernel_rfl
 have hc_r1:Tryz.prog.cellsOf 30=1:=by kernel_rfl
 have hc_r2:Tryz.prog.cellsOf 31=1:=by kernel_rfl
 have hc_r3:Tryz.prog.cellsOf 32=1:=by kernel_rfl
 obtain ⟨v0,v1,v2,v3,v4,rfl⟩:=lst_of2 (hl.trans hcN)
 obtain ⟨y0,y1,y2,y3,y4,rfl⟩:=lst_of2 hlen
 have g0:DataW.trod enc Tryz.prog w 0 sp hd n 9 [v0]=some y0:=by simpa [hc_str] using hf 0 _ rfl
 have g1:DataW.trod enc Tryz.prog w 0 sp hd n 30 [v1]=some y1:=by simpa [hc_r1] using hf 1 _ rfl
 have g2:DataW.trod enc Tryz.prog w 0 sp hd n 31 [v2]=some y2:=by simpa [hc_r2] using hf 2 _ rfl
 have g3:DataW.trod enc Tryz.prog w 0 sp hd n 32 [v3]=some y3:=by simpa [hc_r3] using hf 3 _ rfl
 have g4:DataW.trod enc Tryz.prog w 0 sp hd n 3 [v4]=some y4:=by simpa [hc_int] using hf 4 _ rfl
 obtain ⟨a0,e0,_,hs0⟩:=DataW.trod_string Tryz.underlying9 g0
 obtain ⟨a4,e4,_,hw4⟩:=DataW.trod_int Tryz.underlying3 g4
 simp only [List.cons.injEq,and_true] at e0 e4
 subst e0 e4
 rw [hx] at hz
 have hz':=fun (j:Nat) (t:TypeId) (d:DataW H) ht hd q (hq:q ∈ d.weights Tryz.prog t)=>hz q (by rw [weights_agg Tryz.underlying34];exact DataW.weights_mem_each (j:=j) (t:=t) (d:=d) ht hd q hq)
 obtain ⟨A1,c1,l1,rfl,hC1,hc1,⟨_,hm1⟩,hP1⟩:=open_rowZ k36 RfOk Tryz.underlying30 J0 (fun f c x h _=>open_fs f c x h) n v1 y1 g1 (hz' 1 _ _ rfl rfl)
 obtain ⟨A2,c2,l2,rfl,hC2,hc2,⟨_,hm2⟩,hP2⟩:=open_rowZ Kd.string (fun N=>N.size≤maxLen) Tryz.underlying31 J0 (fun f c x h _=>open_str1 f c x h) n v2 y2 g2 (hz' 2 _ _ rfl rfl)
 obtain ⟨A3,c3,l3,rfl,hC3,hc3,⟨_,hm3⟩,hP3⟩:=open_rowZ (Kd.int .i64) (fun N=>(Lit.int .i64 N).wf=true) Tryz.underlying32 J0 (fun f c x h _=>open_int1 f c x h) n v3 y3 g3 (hz' 3 _ _ rfl rfl)
 rw [show Tryz.prog.bytesOf 36=80 from by kernel_rfl] at hm1
 rw [show Tryz.prog.bytesOf 9=16 from by kernel_rfl] at hm2
 rw [show Tryz.prog.bytesOf 2=8 from by kernel_rfl] at hm3
 have hrb:reachBytes=140737488351232:=by decide
 exact ⟨⟨a0,l1,l2,l3,a4⟩,k34_mk w ⟨a0,l1,l2,l3,a4⟩ hc1 hC1 hc2 hC2 hc3 hC3,hs0,⟨show l1.length≤_ by omega,show l2.length≤_ by omega,show l3.length≤_ by omega⟩,hP1,hP2,hP3⟩
open Go.Deep Go.ChangeShapes Go.WideShapes in
theorem open_esZ:∀ (fuel:Nat) (cs:List Value) (x:DataW H × List MemPlace),DataW.trod enc Tryz.prog w 0 sp hd fuel 68 cs=some x→(∀ q ∈ x.1.weights Tryz.prog 68,q≤reachBytes)→∃ N:S68,k68.K w N cs∧ReOk N:=by
 intro fuel cs x h hz
 obtain ⟨xs,n,rfl,hx,hl,hlen,hf⟩:=DataW.trod_struct Tryz.underlying68 h
 have hcN:Tryz.prog.cellsOf 68=3:=by kernel_rfl
 have hc_int:Tryz.prog.cellsOf 3=1:=by kernel_rfl
 have hc_str:Tryz.prog.cellsOf 9=1:=by kernel_rfl
 have hc_r1:Tryz.prog.cellsOf 66=1:=by kernel_rfl
 obtain ⟨v0,v1,v2,rfl⟩:=lst_of.2.2.1 (hl.trans hcN)
 obtain ⟨y0,y1,y2,rfl⟩:=lst_of.2.2.1 hlen
 have g0:DataW.trod enc Tryz.prog w 0 sp hd n 9 [v0]=some y0:=by simpa [hc_str] using hf 0 _ rfl
 have g1:DataW.trod enc Tryz.prog w 0 sp hd n 66 [v1]=some y1:=by simpa [hc_r1] using hf 1 _ rfl
 have g2:DataW.trod enc Tryz.prog w 0 sp hd n 3 [v2]=some y2:=by simpa [hc_int] using hf 2 _ rfl
 obtain ⟨a0,e0,_,hs0⟩:=DataW.trod_string Tryz.underlying9 g0
 obtain ⟨a2,e2,_,hw2⟩:=DataW.trod_int Tryz.underlying3 g2
 simp only [List.cons.injEq,and_true] at e0 e2
 subst e0 e2
 rw [hx] at hz
 have hz':=fun (j:Nat) (t:TypeId) (d:DataW H) ht hd q (hq:q ∈ d.weights Tryz.prog t)=>hz q (by rw [weights_agg Tryz.underlying68];exact DataW.weights_mem_each (j:=j) (t:=t) (d:=d) ht hd q hq)
 obtain ⟨A1,c1,l1,rfl,hC1,hc1,⟨_,hm1⟩,hP1⟩:=open_rowZ k92 (fun N=>N.f0.size≤maxLen∧(Lit.int .i64 N.f1).wf=true) Tryz.underlying66 J0 (fun f c x h _=>open_vs f c x h) n v1 y1 g1 (hz' 1 _ _ rfl rfl)
 rw [show Tryz.prog.bytesOf 92=32 from by kernel_rfl] at hm1
 have hrb:reachBytes=140737488351232:=by decide
 exact ⟨⟨a0,l1,a2⟩,k68_mk w ⟨a0,l1,a2⟩ hc1 hC1,hs0,show l1.length≤_ by omega,hP1⟩
set_option maxRecDepth 100000 in
open Go.Deep Go.ChangeShapes Go.WideShapes in
theorem open_fileZ {r:Reach} {b0:Nat} {v:Value} {d:DataW H} {p:List MemPlace} (hv:Value.okWide Tryz.prog w r b0 26 v) (h:DataW.Trod enc Tryz.prog w 0 sp hd 26 v d p) (hz:∀ q ∈ d.weights Tryz.prog 26,q≤reachBytes) :
  ∃ (M:List (S34)) (E:List (S68)) (A0:Option Addr) (c0:Nat) (A1:Option Addr) (c1:Nat),v = .agg #[.slice A0 M.length c0,.slice A1 E.length c1]∧Kd.C k34 w A0 M.length M∧M.length≤c0∧Kd.C k68 w A1 E.length E∧E.length≤c1∧(M.length≤maxLen∧E.length≤maxLen)∧RsOk M E:=by
 obtain ⟨cs,rfl,hsz⟩:=okWide_struct Tryz.underlying26 hv
 obtain ⟨fuel,hfu⟩:=h
 have e3:(Value.agg cs).cells=cs:=by simp [Value.cells]
 rw [e3] at hfu
 obtain ⟨xs,n,rfl,hx,hl,hlen,hf⟩:=DataW.trod_struct Tryz.underlying26 hfu
 have hc2:Tryz.prog.cellsOf 26=2:=by kernel_rfl
 have hcl:Tryz.prog.cellsOf 23=1:=by kernel_rfl
 have hcn:Tryz.prog.cellsOf 24=1:=by kernel_rfl
 obtain ⟨v0,v1,hcs⟩:=lst_of.2.1 (hl.trans hc2)
 obtain ⟨y0,y1,rfl⟩:=lst_of.2.1 hlen
 rw [hcs] at hf
 have g0:DataW.trod enc Tryz.prog w 0 sp hd n 23 [v0]=some y0:=by simpa [hcl] using hf 0 _ rfl
 have g1:DataW.trod enc Tryz.prog w 0 sp hd n 24 [v1]=some y1:=by simpa [hcn] using hf 1 _ rfl
 injection hx with hx _
 rw [hx] at hz
 have hz':=fun (j:Nat) (t:TypeId) (d:DataW H) ht hd q (hq:q ∈ d.weights Tryz.prog t)=>hz q (by rw [weights_agg Tryz.underlying26];exact DataW.weights_mem_each (j:=j) (t:=t) (d:=d) ht hd q hq)
 obtain ⟨A0,c0,M,rfl,hC0,hc0,⟨hm0,_⟩,hP0⟩:=open_rowZ k34 RmOk Tryz.underlying23 J0 open_msZ n v0 y0 g0 (hz' 0 _ _ rfl rfl)
 obtain ⟨A1,c1,E,rfl,hC1,hc1,⟨hm1,_⟩,hP1⟩:=open_rowZ k68 ReOk Tryz.underlying24 J0 open_esZ n v1 y1 g1 (hz' 1 _ _ rfl rfl)
 have e4:cs=#[.slice A0 M.length c0,.slice A1 E.length c1]:=Array.toList_inj.1 hcs
 exact ⟨M,E,A0,c0,A1,c1,by rw [e4],hC0,hc0,hC1,hc1,⟨hm0,hm1⟩,hP0,hP1⟩
end
end Go.Proofs.YtddpjjhekhompaaGreatDoor.P
