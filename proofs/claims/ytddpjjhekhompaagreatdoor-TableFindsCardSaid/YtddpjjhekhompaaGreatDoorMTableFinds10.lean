/- Part 10 of what the law TableFinds leans on: contracts of the functions that it reaches, and plain lemmas; printed walks and words (by the kit's print, through wip/mp.py) and the session's own texts, one behind the other, what is not used left out (wip/prune.py). -/
import Derived.Deep.DeepWitnessRowRef
import Derived.Stop.LaidErr
import Derived.Lib.LaidTab
import Derived.LaidLaws
import Derived.MakeChecks
import Derived.Test.YtddpjjhekhompaaGreatDoorRows
import Derived.Test.YtddpjjhekhompaaGreatDoorMTableFinds1
import Derived.Test.YtddpjjhekhompaaGreatDoorMTableFinds2
import Derived.Test.YtddpjjhekhompaaGreatDoorMTableFinds3
import Derived.Test.YtddpjjhekhompaaGreatDoorMTableFinds4
import Derived.Test.YtddpjjhekhompaaGreatDoorMTableFinds5
import Derived.Test.YtddpjjhekhompaaGreatDoorMTableFinds6
import Derived.Test.YtddpjjhekhompaaGreatDoorMTableFinds7
import Derived.Test.YtddpjjhekhompaaGreatDoorMTableFinds8
import Derived.Test.YtddpjjhekhompaaGreatDoorMTableFinds9
namespace Go.Proofs.YtddpjjhekhompaaGreatDoor.P
open Go.RowKit Go.Proofs.YtddpjjhekhompaaGreatDoorW.PrintWords Go.Proofs.YtddpjjhekhompaaGreatDoorW.PrintLast Go.Proofs.YtddpjjhekhompaaGreatDoorW.PrintMore
attribute [local go_sem] max2_int max_two
set_option linter.unusedVariables false
set_option linter.unusedSimpArgs false
theorem idxW_at {α:Type} (p:α→Bool):∀ (l:List α) (s:Int) (i:Nat) (hi:i < l.length),p l[i]=true→(∀ (j:Nat) (hj:j < i),p (l[j]'(by omega))=false)→idxW p l s=s + i
 | x :: t,s,0,_,hp,_=>by
  have hp':p x=true:=hp
  rw [idxW,if_pos hp']
  simp
 | x :: t,s,i + 1,hi,hp,hb=>by
  have h0:p x=false:=hb 0 (by omega)
  rw [idxW,if_neg (by rw [h0];decide),idxW_at p t (s + 1) i (by simpa using hi) hp (fun j hj=>hb (j + 1) (by omega))]
  push_cast
  omega
theorem fields_low {nM nE:Nat}:∀ (l:List (S51)) (last:Int),tmFields nM nE last l=true→∀ x ∈ l,last < x.f0
 | [],_,_,x,hx=>absurd hx (by simp)
 | f :: t,last,h,x,hx=>by
  simp only [tmFields,Bool.and_eq_true,decide_eq_true_eq] at h
  rcases List.mem_cons.1 hx with rfl|hx
  ·exact h.2.1
  ·have:=fields_low t f.f0 h.2.2 x hx
   omega
theorem fields_asc {nM nE:Nat}:∀ (l:List (S51)) (last:Int),tmFields nM nE last l=true→l.Pairwise (fun a b=>a.f0 < b.f0)
 | [],_,_=>List.Pairwise.nil
 | f :: t,last,h=>by
  simp only [tmFields,Bool.and_eq_true,decide_eq_true_eq] at h
  exact List.Pairwise.cons (fun x hx=>fields_low t f.f0 h.2.2 x hx) (fields_asc t f.f0 h.2.2)
theorem uniqB_nodup (l:List (List UInt8)):uniqB l=true↔l.Nodup:=by
 unfold uniqB
 rw [decide_eq_true_eq]
 constructor
 ·intro h
  rw [List.nodup_iff_count]
  intro x
  by_cases hx:x ∈ l
  ·rw [cnt_lawful _ instBEqOfDecidableEq x l,h x hx]
   exact Nat.le_refl _
  ·rw [List.count_eq_zero_of_not_mem hx]
   omega
 ·intro h x hx
  have h1:=List.nodup_iff_count.1 h x
  have h2:=Nat.le_antisymm h1 (List.count_pos_iff.2 hx)
  rw [← h2]
  exact @cnt_lawful _ instBEqOfDecidableEq _ _ _ x l
theorem pair_ne {α:Type} {R:α→α→Prop} {l:List α} (h:l.Pairwise R) {i j:Nat} (hij:i < j) (hj:j < l.length):R (l[i]'(by omega)) l[j]:=List.pairwise_iff_getElem.1 h i j (by omega) hj hij
theorem idx_no {nM nE:Nat} {x:S57} (h:tmMsg nM nE x=true) (i:Nat) (hi:i < x.f1.length):idxW (fun y=>hasNo y x.f1[i].f0) x.f1 0=i:=by
 unfold tmMsg at h
 simp only [Bool.and_eq_true] at h
 rw [idxW_at _ x.f1 0 i hi (by simp [hasNo]) (fun j hj=>?_),Int.zero_add]
 have:=pair_ne (fields_asc x.f1 0 h.1) hj hi
 unfold hasNo
 exact beq_eq_false_iff_ne.2 (by omega)
theorem idx_nm {nM nE:Nat} {x:S57} (h:tmMsg nM nE x=true) (i:Nat) (hi:i < x.f1.length):idxW (fun y=>hasName y x.f1[i].f1) x.f1 0=i:=by
 unfold tmMsg at h
 simp only [Bool.and_eq_true] at h
 have hn:=(uniqB_nodup _).1 h.2.2
 rw [idxW_at _ x.f1 0 i hi (by simp [hasName]) (fun j hj=>?_),Int.zero_add]
 have h2:=pair_ne (R:=fun a b=>a≠b) hn (i:=j) (j:=i) hj (by simpa using hi)
 unfold hasName
 refine beq_eq_false_iff_ne.2 (fun e=>h2 ?_)
 rw [List.getElem_map,List.getElem_map]
 rw [ByteArray.toList_eq,ByteArray.toList_eq] at e
 exact e
theorem may_names {l0:List (S57)} {l1:List (S119)} (h:tmMay l0 l1=true):(l0.map (fun x=>bl x.f0)).Nodup∧(∀ x ∈ l0,tmMsg l0.length l1.length x=true)∧1≤l0.length:=by
 unfold tmMay mayR at h
 simp only [Bool.and_eq_true,decide_eq_true_eq,List.all_eq_true] at h
 have h2:=(uniqB_nodup _).1 h.2.2.2
 exact ⟨(List.nodup_append.1 (List.nodup_append.1 h2).2.1).1,h.2.1,h.1.1⟩
theorem idx_rt {l0:List (S57)} {l1:List (S119)} (h:tmMay l0 l1=true) (i:Nat) (hi:i < l0.length):idxW (fun y=>msgName y l0[i].f0) l0 0=i:=by
 have hn:=(may_names h).1
 rw [idxW_at _ l0 0 i hi (by simp [msgName]) (fun j hj=>?_),Int.zero_add]
 have h2:=pair_ne (R:=fun a b=>a≠b) hn (i:=j) (j:=i) hj (by simpa using hi)
 unfold msgName
 refine beq_eq_false_iff_ne.2 (fun e=>h2 ?_)
 rw [List.getElem_map,List.getElem_map]
 rw [ByteArray.toList_eq,ByteArray.toList_eq] at e
 exact e
def fewSM (x:S57):Bool:=decide ((x.f1.length:Int)≤60)
def fewSE (x:S119):Bool:=decide ((x.f1.length:Int)≤60) && decide ((x.f2.length:Int)≤60)
def fewSB (M:List (S57)) (E:List (S119)):Bool:=decide (M.length≤30) && (decide (E.length≤30) && (M.all fewSM && E.all fewSE))
theorem few_l1 (M:List (S57)) (E:List (S119)) (hE:E.length≤9223372036854775807):∀ (n i k:Nat) (b:Bool),i + n=E.length→n < k→truffleref08_Few.l1 k b (i:Int) M E=some (b && (E.drop i).all fewSE):=by
 intro n
 induction n with
 | zero =>
  intro i k b hi hk
  obtain ⟨k,rfl⟩:∃ q,k=q + 1:=⟨k - 1,by omega⟩
  rw [truffleref08_Few.l1,if_neg (by omega),List.drop_eq_nil_of_le (by omega)]
  simp
 | succ n ih =>
  intro i k b hi hk
  obtain ⟨k,rfl⟩:∃ q,k=q + 1:=⟨k - 1,by omega⟩
  have hlt:i < E.length:=by omega
  have hrd:rd_T119 E (i:Int)=E[i]:=by unfold rd_T119;rw [Int.toNat_natCast,List.getD_eq_getElem?_getD];simp [hlt]
  have hw:wrap64 ((i:Int) + 1)=((i + 1:Nat):Int):=by unfold wrap64;omega
  rw [truffleref08_Few.l1,if_pos (by omega),hrd,hw]
  cases b with
  | false=>rw [if_neg (by decide),Bool.false_and]
  | true =>
   rw [if_pos rfl,if_pos (by omega),List.drop_eq_getElem_cons hlt,List.all_cons,Bool.true_and]
   by_cases h1:((E[i].f1.length:Int))≤60
   ·rw [if_pos h1,ih (i + 1) k _ (by omega) (by omega)]
    unfold fewSE
    rw [decide_eq_true h1,Bool.true_and]
   ·rw [if_neg h1,ih (i + 1) k _ (by omega) (by omega)]
    unfold fewSE
    rw [decide_eq_false h1,Bool.false_and,Bool.false_and,Bool.false_and]
theorem few_l0 (M:List (S57)) (E:List (S119)) (hM:M.length≤9223372036854775807) (hE:E.length≤9223372036854775807):∀ (n i k:Nat) (b:Bool),i + n=M.length→n + E.length + 3≤k→truffleref08_Few.l0 k b (i:Int) M E=some (b && ((M.drop i).all fewSM && E.all fewSE)):=by
 have hj:∀ (k:Nat) (b:Bool),E.length + 2≤k→truffleref08_Few.j2 k b M E=some (b && E.all fewSE):=by
  intro k b hk
  obtain ⟨k,rfl⟩:∃ q,k=q + 1:=⟨k - 1,by omega⟩
  have:=few_l1 M E hE E.length 0 k b (by omega) (by omega)
  rw [truffleref08_Few.j2]
  exact this
 intro n
 induction n with
 | zero =>
  intro i k b hi hk
  obtain ⟨k,rfl⟩:∃ q,k=q + 1:=⟨k - 1,by omega⟩
  rw [truffleref08_Few.l0,if_neg (by omega),List.drop_eq_nil_of_le (by omega),hj k b (by omega)]
  simp
 | succ n ih =>
  intro i k b hi hk
  obtain ⟨k,rfl⟩:∃ q,k=q + 1:=⟨k - 1,by omega⟩
  have hlt:i < M.length:=by omega
  have hrd:rd_T57 M (i:Int)=M[i]:=by unfold rd_T57;rw [Int.toNat_natCast,List.getD_eq_getElem?_getD];simp [hlt]
  have hw:wrap64 ((i:Int) + 1)=((i + 1:Nat):Int):=by unfold wrap64;omega
  rw [truffleref08_Few.l0,if_pos (by omega),hrd,hw]
  cases b with
  | false=>rw [if_neg (by decide),hj k false (by omega),Bool.false_and,Bool.false_and]
  | true =>
   rw [if_pos rfl,if_pos (by omega),List.drop_eq_getElem_cons hlt,List.all_cons,Bool.true_and,ih (i + 1) k _ (by omega) (by omega),Bool.and_assoc]
   rfl
theorem few_f (M:List (S57)) (E:List (S119)) (hM:M.length≤9223372036854775807) (hE:E.length≤9223372036854775807) (k:Nat) (hk:M.length + E.length + 4≤k):truffleref08_Few.f k M E=some (fewSB M E):=by
 obtain ⟨k,rfl⟩:∃ q,k=q + 1:=⟨k - 1,by omega⟩
 have hl:∀ b,truffleref08_Few.j0 (k + 1) b M E=some (b && (M.all fewSM && E.all fewSE)):=by
  intro b
  have:=few_l0 M E hM hE M.length 0 k b (by omega) (by omega)
  rw [truffleref08_Few.j0]
  exact this
 unfold truffleref08_Few.f fewSB
 have e1:decide ((E.length:Int)≤30)=decide (E.length≤30):=decide_eq_decide.2 (by omega)
 by_cases h:M.length≤30
 ·rw [if_pos (by omega),hl,e1,decide_eq_true h,Bool.true_and]
 ·rw [if_neg (by omega),hl,decide_eq_false h,Bool.false_and,Bool.false_and]
theorem few_ok (M:List (S57)) (E:List (S119)) (h:fewSB M E=true):M.length≤30∧E.length≤30∧∀ x ∈ M,x.f1.length≤60:=by
 unfold fewSB at h
 simp only [Bool.and_eq_true,decide_eq_true_eq,List.all_eq_true] at h
 refine ⟨h.1,h.2.1,fun x hx=>?_⟩
 have:=h.2.2.1 x hx
 unfold fewSM at this
 simp only [decide_eq_true_eq] at this
 omega
theorem idxW_hit {α:Type} (p:α→Bool):∀ (l:List α) (s:Int),idxW p l s = -1∨∃ (i:Nat) (hi:i < l.length),idxW p l s=s + i∧p l[i]=true
 | [],s=>.inl rfl
 | x :: r,s=>by
  rw [idxW]
  by_cases h:p x=true
  ·rw [if_pos h]
   exact .inr ⟨0,by simp,by simp,h⟩
  ·rw [if_neg h]
   rcases idxW_hit p r (s + 1) with h1|⟨i,hi,h1,h2⟩
   ·exact .inl h1
   ·exact .inr ⟨i + 1,by simpa using hi,by rw [h1];push_cast;omega,by simpa using h2⟩
theorem findW_is (p:S51→Bool) (M:List (S57)) (m:Int):((findW p M m).2=true∧p (findW p M m).1=true)∨((findW p M m).2=false∧(findW p M m).1=z51):=by
 unfold findW
 split
 ·rcases idxW_hit p (rd_T57 M m).f1 0 with h|⟨i,hi,h,hp⟩
  ·rw [h,if_pos (by decide)]
   exact .inr ⟨rfl,rfl⟩
  ·rw [h,if_neg (by omega)]
   refine .inl ⟨rfl,?_⟩
   have e:rd_T51 (rd_T57 M m).f1 (0 + (i:Int))=(rd_T57 M m).f1[i]:=by unfold rd_T51;rw [Int.zero_add,Int.toNat_natCast,List.getD_eq_getElem?_getD];simp [hi]
   show p (rd_T51 (rd_T57 M m).f1 (0 + (i:Int)))=true
   rw [e]
   exact hp
 ·exact .inr ⟨rfl,rfl⟩
theorem findW_at (p:S51→Bool) (M:List (S57)) (m:Nat) (hm:m < M.length) (i:Nat) (hi:i < M[m].f1.length) (h:idxW p M[m].f1 0=i):findW p M (m:Int)=(M[m].f1[i],true):=by
 have hrd:rd_T57 M (m:Int)=M[m]:=by unfold rd_T57;rw [Int.toNat_natCast,List.getD_eq_getElem?_getD];simp [hm]
 have e:rd_T51 M[m].f1 (i:Int)=M[m].f1[i]:=by unfold rd_T51;rw [Int.toNat_natCast,List.getD_eq_getElem?_getD];simp [hi]
 unfold findW
 rw [if_pos (by omega),hrd,h,if_neg (by omega),e]
theorem finds_l0 (M:List (S57)) (E:List (S119)) (hmay:tmMay M E=true) (m:Nat) (hm:m < M.length) (hf:M[m].f1.length≤60):∀ (n i k:Nat),i + n=M[m].f1.length→n < k→trufflelaw08_TableFinds.l0 k (m:Int) (i:Int) M E=some true:=by
 have hmm:tmMsg M.length E.length M[m]=true:=(may_names hmay).2.1 _ (List.getElem_mem hm)
 have hrd:rd_T57 M (m:Int)=M[m]:=by unfold rd_T57;rw [Int.toNat_natCast,List.getD_eq_getElem?_getD];simp [hm]
 intro n
 induction n with
 | zero =>
  intro i k hi hk
  obtain ⟨k,rfl⟩:∃ q,k=q + 1:=⟨k - 1,by omega⟩
  rw [trufflelaw08_TableFinds.l0,if_pos (by omega),if_pos (by omega),hrd,if_neg (by omega)]
  have hr:table_Root.f M E M[m].f0=some ((m:Int),true):=by
   unfold table_Root.f
   simp only [idx_rt hmay m hm]
   rw [if_neg (by omega),decide_eq_true (by omega)]
  rw [hr,Option.bind_some,if_pos rfl]
  simp
 | succ n ih =>
  intro i k hi hk
  obtain ⟨k,rfl⟩:∃ q,k=q + 1:=⟨k - 1,by omega⟩
  have hlt:i < M[m].f1.length:=by omega
  have e:rd_T51 M[m].f1 (i:Int)=M[m].f1[i]:=by unfold rd_T51;rw [Int.toNat_natCast,List.getD_eq_getElem?_getD];simp [hlt]
  have hw:wrap64 ((i:Int) + 1)=((i + 1:Nat):Int):=by unfold wrap64;omega
  rw [trufflelaw08_TableFinds.l0,if_pos (by omega),if_pos (by omega),hrd,if_pos (by omega),if_pos (by omega),e,hw]
  have h1:=findW_at (fun y=>hasName y M[m].f1[i].f1) M m hm i hlt (idx_nm hmm i hlt)
  have h2:=findW_at (fun y=>hasNo y M[m].f1[i].f0) M m hm i hlt (idx_no hmm i hlt)
  unfold table_Find.f table_By.f
  rw [h1,h2]
  generalize M[m].f1[i]=x at *
  simp only [Option.bind_some,beq_self_eq_true,Bool.not_true,Bool.or_false,if_true,if_false,Bool.false_eq_true]
  exact ih (i + 1) k (by omega) (by omega)
theorem finds_j2 (M:List (S57)) (E:List (S119)) (a1:Int) (k:Nat):trufflelaw08_TableFinds.j2 (k + 1) a1 true M E=some true:=by
 rw [trufflelaw08_TableFinds.j2,if_pos rfl]
theorem finds_j1 (M:List (S57)) (E:List (S119)) (hok:ScOk M E) (hf:M.length≤30∧E.length≤30∧∀ x ∈ M,x.f1.length≤60) (a1:Int) (k:Nat) (hk:64≤k):trufflelaw08_TableFinds.j1 k a1 false M E=some true:=by
 obtain ⟨k,rfl⟩:∃ q,k=q + 2:=⟨k - 2,by omega⟩
 have htm:TmOk M E:=⟨by omega,by omega,fun x hx=>⟨(hok.2.1 x hx).1,by have:=hf.2.2 x hx;omega,(hok.2.1 x hx).2.2⟩,fun x hx=>hok.2.2 x hx⟩
 have hmy:table_May.f M E=some (tmMay M E):=by unfold table_May.f;rw [if_pos htm]
 rw [trufflelaw08_TableFinds.j1,if_neg (by decide),hmy,Option.bind_some]
 by_cases hm:tmMay M E=true
 ·rw [if_pos hm]
  by_cases h1:a1 < 0
  ·rw [if_pos h1,finds_j2]
  ·rw [if_neg h1]
   by_cases h2:a1 ≥ (M.length:Int)
   ·rw [decide_eq_true h2,finds_j2]
   ·rw [decide_eq_false h2,trufflelaw08_TableFinds.j2,if_neg (by decide)]
    obtain ⟨m,rfl⟩:∃ m:Nat,a1=m:=⟨a1.toNat,by omega⟩
    have hlt:m < M.length:=by omega
    have h60:=hf.2.2 _ (List.getElem_mem hlt)
    exact finds_l0 M E hm m hlt h60 M[m].f1.length 0 k (by omega) (by omega)
 ·rw [if_neg hm,finds_j2]
theorem TableFinds (M:List (S57)) (E:List (S119)) (hok:ScOk M E) (a1:Int) (a2:ByteArray) (a3:Int):∃ k,trufflelaw08_TableFinds.f k M E a1 a2 a3=some true:=by
 have hmx:maxLen≤9223372036854775807:=by decide
 refine ⟨M.length + E.length + 80,?_⟩
 unfold trufflelaw08_TableFinds.f
 rw [awake08_true,Option.bind_some,few_f M E (Nat.le_trans hok.1.1 hmx) (Nat.le_trans hok.1.2 hmx) _ (by omega),Option.bind_some,if_pos rfl]
 obtain ⟨q,hq⟩:∃ q,M.length + E.length + 80=q + 1:=⟨M.length + E.length + 79,by omega⟩
 rw [hq,trufflelaw08_TableFinds.j0]
 cases hfw:fewSB M E with
 | false=>rw [if_pos (by decide)]
 | true =>
  rw [if_neg (by decide)]
  have hf:=few_ok M E hfw
  have hj:=finds_j1 M E hok hf a1 q (by omega)
  have zb:(!(z51.f0 == 0) || (!(z51.f1.toList == ([]:List UInt8)) || (!(z51.f2 == 0) || (!(z51.f3 == 0) || (z51.f4 || (!(z51.f5 == 0) || (!(z51.f6 == 0))))))))=false:=by rw [toList_bl];rfl
  unfold table_Find.f table_By.f
  simp only [Option.bind_some]
  rcases findW_is (fun x=>hasName x a2) M a1 with ⟨h1,h2⟩|⟨h1,h2⟩
  ·have h2':(findW (fun x=>hasName x a2) M a1).1.f1.toList=a2.toList:=by unfold hasName at h2;exact beq_iff_eq.1 h2
   rw [if_pos h1,if_pos h2']
   rcases findW_is (fun x=>hasNo x a3) M a1 with ⟨h3,h4⟩|⟨h3,h4⟩
   ·have h4':(findW (fun x=>hasNo x a3) M a1).1.f0=a3:=by unfold hasNo at h4;exact beq_iff_eq.1 h4
    rw [if_pos h3,if_pos h4',hj]
   ·rw [if_neg (by rw [h3];decide),h4,zb,hj]
  ·rw [if_neg (by rw [h1];decide),h2,zb]
   rcases findW_is (fun x=>hasNo x a3) M a1 with ⟨h3,h4⟩|⟨h3,h4⟩
   ·have h4':(findW (fun x=>hasNo x a3) M a1).1.f0=a3:=by unfold hasNo at h4;exact beq_iff_eq.1 h4
    rw [if_pos h3,if_pos h4',if_neg (by decide),hj]
   ·rw [if_neg (by rw [h3];decide),if_neg (by decide),h4,zb,hj]
theorem TableFindsW (M:List (S57)) (E:List (S119)) (A0:Option Addr) (c0:Nat) (A1:Option Addr) (c1:Nat) (a1:Int) (a2:ByteArray) (a3:Int) (W:World) (hC:Kd.C k57 W A0 M.length M) (hc:M.length≤c0) (hB:Kd.C k119 W A1 E.length E) (hb:E.length≤c1) (ht:ScOk M E) (_:(Lit.int .i64 a1).wf=true) (_:a2.size≤140737488351232) (_:(Lit.int .i64 a3).wf=true) (hG:GInv W) :
  Calls Tryz.prog 7 #[.agg #[.slice A0 M.length c0,.slice A1 E.length c1],.int .i64 a1,.string a2,.int .i64 a3] W fun e w'=>e = .returned (.bool true)∧Below W.heap.size W w':=by
 obtain ⟨k,h⟩:=TableFinds M E ht a1 a2 a3
 exact trufflelaw08_TableFinds.calls k A0 c0 M A1 c1 E a1 a2 a3 W hG hC hc hB hb h
end Go.Proofs.YtddpjjhekhompaaGreatDoor.P
namespace Go.Proofs.YtddpjjhekhompaaGreatDoor.laidKit
open Go.RowKit
abbrev lst : List (String × DataW Unit) := [("math/bits.deBruijn32tab", Rows.laid_math_bits_deBruijn32tab), ("math/bits.deBruijn64tab", Rows.laid_math_bits_deBruijn64tab), ("internal/strconv.uint64pow10", Rows.laid_internal_strconv_uint64pow10), ("strconv.ErrRange", Rows.laid_strconv_ErrRange), ("strconv.ErrSyntax", Rows.laid_strconv_ErrSyntax)]
theorem gPow : Tryz.prog.globalNamed "internal/strconv.uint64pow10" = some 0 := by kernel_rfl
theorem gPowT:(Tryz.prog.globals[0]?).map (·.type)=some 249:=by kernel_rfl
theorem cPow:Tryz.prog.cellsOf 249=20:=by kernel_rfl
theorem cU64:Tryz.prog.cellsOf 218=1:=by kernel_rfl
theorem gRng : Tryz.prog.globalNamed "strconv.ErrRange" = some 2 := by kernel_rfl
theorem gRngT:(Tryz.prog.globals[2]?).map (·.type)=some 162:=by kernel_rfl
theorem gSyn : Tryz.prog.globalNamed "strconv.ErrSyntax" = some 1 := by kernel_rfl
theorem gSynT:(Tryz.prog.globals[1]?).map (·.type)=some 162:=by kernel_rfl
theorem cErr:Tryz.prog.cellsOf 267=1:=by kernel_rfl
theorem cStr:Tryz.prog.cellsOf 9=1:=by kernel_rfl
theorem star : "*" ++ "errors.errorString" = "*errors.errorString" := by decide
theorem rowErr (u : TypeId) (h : Tryz.prog.typeName? 3 u = some "*errors.errorString") : u = 265 :=
 typeName_ptr_named (nm := "errors.errorString") (by rw [star]; kernel_rfl) (by kernel_rfl) (by decide) u (by rw [star]; exact h)
theorem pow_is:(Rows.laid_internal_strconv_uint64pow10:DataW Unit)=Lib.tabData .u64 Lib.pow10Tab:=by rfl
theorem ginv {W:World} (h:laidMetH Tryz.prog lst W):P.GInv W:=by
 rw [Go.MakeChecks.laidMetH_plain _ _ _ (by kernel_rfl)] at h
 have h3:=h.tail.tail
 have hp : Lib.TabIs Tryz.prog W "internal/strconv.uint64pow10" .u64 Lib.pow10Tab :=
  Lib.tabIs_of_head gPow gPowT Tryz.underlying249 Tryz.underlying218 cU64 cPow (by rw [← pow_is];exact h3)
 obtain ⟨a1,s1,hv1,_,_,_⟩:=laid_sentinel h3.tail gRng gRngT Tryz.underlying162 rowErr Tryz.underlying265 Tryz.underlying267 rfl rfl Tryz.underlying9 cErr cStr
 obtain ⟨a2,s2,hv2,_,_,_⟩:=laid_sentinel h3.tail.tail gSyn gSynT Tryz.underlying162 rowErr Tryz.underlying265 Tryz.underlying267 rfl rfl Tryz.underlying9 cErr cStr
 refine ⟨⟨_,_,by have h0:=World.var?_cell gSyn hv2 0;simpa using h0⟩,⟨_,_,by have h0:=World.var?_cell gRng hv1 0;simpa using h0⟩,hp,?_⟩
 have c0:=hp.cell gPow 0 (by decide)
 exact World.block_lt_of_cell? W _ c0
abbrev synS:ByteArray:={ data:=#[105,110,118,97,108,105,100,32,115,121,110,116,97,120] }
abbrev rngS:ByteArray:={ data:=#[118,97,108,117,101,32,111,117,116,32,111,102,32,114,97,110,103,101] }
def cellsOfData:DataW Unit→Array Value
 | .agg l=>(l.map fun
   | .lit (.int k n)=>Value.int k n
   | _=>.nilIface).toArray
 | _=>#[]
noncomputable def low:Nat:=(World.holding Tryz.prog default ⟨#[],#[],[]⟩).heap.size
noncomputable def laidWorld (os:Os):World :=
 let w0:=World.holding Tryz.prog os ⟨#[.cells #[.string synS] 267,.cells #[.string rngS] 267],#[],[]⟩
 { w0 with heap:=((((w0.heap.modify 0 fun
   | .cells _ t frozen=>.cells (cellsOfData Rows.laid_internal_strconv_uint64pow10) t frozen
   | o=>o).modify 1 fun
   | .cells _ t frozen=>.cells #[.iface 265 (.pointer (some ⟨low,0,none⟩))] t frozen
   | o=>o).modify 2 fun
   | .cells _ t frozen=>.cells #[.iface 265 (.pointer (some ⟨low + 1,0,none⟩))] t frozen
   | o=>o).modify 4 fun
   | .cells _ t frozen=>.cells (cellsOfData Rows.laid_math_bits_deBruijn32tab) t frozen
   | o=>o).modify 5 fun
   | .cells _ t frozen=>.cells (cellsOfData Rows.laid_math_bits_deBruijn64tab) t frozen
   | o=>o }
theorem laid_met (os:Os) (args:Array Value):laidMet Tryz.prog lst ((laidWorld os).forCall (fun _ _=>0) ⟨#[],args,[]⟩).memory :=
 laidMet_of_run' 8 (by kernel_rfl) (by kernel_rfl)
end Go.Proofs.YtddpjjhekhompaaGreatDoor.laidKit
