/- Part 7 of what the law TableFinds leans on: contracts of the functions that it reaches, and plain lemmas; printed walks and words (by the kit's print, through wip/mp.py) and the session's own texts, one behind the other, what is not used left out (wip/prune.py). -/
import Derived.BigQuiet
import Derived.RegionTactic
import Derived.ChangeAlike
import Derived.Test.YtddpjjhekhompaaGreatDoorMTableFinds1
import Derived.Test.YtddpjjhekhompaaGreatDoorMTableFinds2
import Derived.Test.YtddpjjhekhompaaGreatDoorMTableFinds3
import Derived.Test.YtddpjjhekhompaaGreatDoorMTableFinds4
import Derived.Test.YtddpjjhekhompaaGreatDoorMTableFinds5
import Derived.Test.YtddpjjhekhompaaGreatDoorMTableFinds6
namespace Go.Proofs.YtddpjjhekhompaaGreatDoor.P
open Go.RowKit Go.Proofs.YtddpjjhekhompaaGreatDoorW.PrintWords Go.Proofs.YtddpjjhekhompaaGreatDoorW.PrintLast Go.Proofs.YtddpjjhekhompaaGreatDoorW.PrintMore
attribute [local go_sem] max2_int max_two
set_option linter.unusedVariables false
set_option linter.unusedSimpArgs false
theorem fd_lt (x y:S51):ltOf fdCmp x y=decide (x.f0 < y.f0):=by
 unfold ltOf fdCmp Lib.compareInt
 by_cases h1:x.f0 < y.f0
 ·simp [h1]
 ·by_cases h2:y.f0 < x.f0 <;> simp [h1,h2]
theorem fd_swo:Go.Sort.SWO (ltOf fdCmp) where
 irrefl x:=by rw [fd_lt];simp
 trans x y z h1 h2:=by rw [fd_lt] at *;simp at *;omega
 ntrans x y z h1 h2:=by rw [fd_lt] at *;simp at *;omega
theorem fd_sorts (l:List (S51)):(fdSort l).Perm l∧(fdSort l).Pairwise (fun a b=>a.f0≤b.f0):=by
 have h:=Go.Sort.pdq_sorts (ltOf fdCmp) fd_swo l.toArray 0 l.toArray.size (Lib.bitLen l.toArray.size) true true (Nat.zero_le _) (Nat.le_refl _) (Or.inl rfl)
 unfold fdSort
 generalize Go.Sort.pdq (ltOf fdCmp) l.toArray 0 l.toArray.size (Lib.bitLen l.toArray.size) true true=d at *
 obtain ⟨⟨hs,_,hp⟩,ho⟩:=h
 have e1:d.extract 0 l.toArray.size=d:=by rw [← hs];simp
 have e2:l.toArray.extract 0 l.toArray.size=l.toArray:=by simp
 rw [e1,e2] at hp
 refine ⟨hp,List.pairwise_iff_getElem.2 fun i j hi hj hij=>?_⟩
 have h1:=ho i j (Nat.zero_le _) hij (by simpa [← hs] using hj)
 rw [fd_lt,decide_eq_false_iff_not] at h1
 have hi2:i < d.size:=by simpa using hi
 have hj2:j < d.size:=by simpa using hj
 rw [getElem!_pos d i hi2,getElem!_pos d j hj2] at h1
 simpa using h1
theorem fd_len (l:List (S51)):(fdSort l).length=l.length:=(fd_sorts l).1.length_eq
set_option maxHeartbeats 2000000 in
set_option maxRecDepth 100000 in
theorem cmp_s (x y:S51) (W:World):Calls Tryz.prog 102 #[.agg (encF x).toArray,.agg (encF y).toArray] W fun e w'=>e = .returned (.int .i64 (fdCmp x y))∧∃ q os',w'=Go.Sort.grow (W.drewN q) os':=by
 have hcon:=fun W'=>AnyG.cmp_Compare_int Tryz.cmpInt x.f0 y.f0 W'
 change ∀ W',Calls Tryz.prog 103 _ _ _ at hcon
 unfold fdCmp
 generalize Lib.compareInt x.f0 y.f0=r at hcon ⊢
 unfold encF
 go_enter Tryz.func102,Tryz.ntmps102
 go_wp2_with (go_at_call 103;refine (hcon _).mono ?_;rintro e w' ⟨rfl,rfl⟩)
 go_ret
 exact ⟨rfl,0,_,by rw [Go.Sort.alloc_eq_grow,Go.Sort.alloc_eq_grow,Go.Sort.grow_grow];rfl⟩
theorem sort_s {W:World} {D:Nat} {v:Value} {xs:List (S51)} (h:k51.R 51 W D (fun _=>True) v xs) (hl:xs.length < 4611686018427387904) :
  Calls Tryz.prog 101 #[v,.func (.func 102) #[] #[]] W fun e W'=>e = .returned (.tuple #[])∧k51.R 51 W' D (fun _=>True) v (fdSort xs)∧W.grownBy W' v.ownBlock:=by
 rcases Nat.eq_zero_or_pos xs.length with h0|h0
 ·obtain rfl:=List.eq_nil_of_length_eq_zero h0
  have hn:fdSort []=[]:=List.eq_nil_of_length_eq_zero (by rw [fd_len];rfl)
  obtain ⟨A,c,rfl⟩:=Kd.R_slice h
  have hc:=AnyF.slices_SortFunc_none Tryz.sortFd A c (.func (.func 102) #[] #[]) W
  change Calls Tryz.prog 101 _ _ _ at hc
  refine hc.mono ?_
  rintro e W' ⟨rfl,rfl⟩
  rw [hn]
  exact ⟨rfl,h,World.grownBy.refl _ _⟩
 ·obtain ⟨g,cap,rfl,hg,hH,hs⟩:=R_sort h h0
  have eg:∀ args w,(callFunc 102 args).run Tryz.prog w = .ok (.enter 102 args) w:=enters_of Tryz.func102 (by kernel_rfl) rfl
  have hc:=AnyQ.slices_SortFunc_eq Tryz.sortFd 7 (fun w=>by kernel_rfl) (fun w=>by kernel_rfl) encF encF_len encF_one fdCmp fd_swo 102 #[] g 0 cap xs.toArray W eg (fun _ _ _ _ x y=>cmp_s x y _) hH hg (by simpa using hl)
  change Calls Tryz.prog 101 _ _ _ at hc
  have hsz:xs.toArray.size=xs.length:=by simp
  rw [hsz] at hc
  refine hc.mono ?_
  rintro e W' ⟨rfl,n,os,rfl⟩
  have h2:=hs n os (fdSort xs) (fd_len xs)
  have e3:(fdSort xs).toArray=Go.Sort.pdq (ltOf fdCmp) xs.toArray 0 xs.length (Lib.bitLen xs.length) true true:=by unfold fdSort;simp
  rw [e3] at h2
  exact ⟨rfl,h2⟩
def pickR (k:Nat):Code→Option Code
 | .region m a b=>if m=k then some (.region m a b) else none
 | .seq a b=>match pickR k a with
  | some c=>some c
  | none=>pickR k b
 | .block _ c=>pickR k c
 | .scope c=>pickR k c
 | .loop c=>pickR k c
 | .cond _ a b=>match pickR k a with
  | some c=>some c
  | none=>pickR k b
 | _=>none
noncomputable def code17:Code:=(Tryz.f57.body.bind (pickR 17)).getD .skip
set_option maxHeartbeats 8000000 in
set_option maxRecDepth 1000000 in
theorem w17_1 {w0 wc:World} {D p mb n:Nat} {vA vB:Value} {f:List UInt8→Option (Int × Int)} {M:List (S57)} {E:List (S119)} {a1 e1:Int} {vM vE:Value} {h:Nat} {x0:ByteArray} {G:List (S51)} {vG:Value} {m1 m2 k1 k2:Nat} {S:List UInt8→Option Bool} {T:Int→Option Bool} {bx:Array Value} {vb:Nat} {y0 y1:ByteArray} {y2:Bool} {y3:Int} {y4:ByteArray} {y5 y6:Int} {O:List ByteArray} {AO:Option Addr} {cO:Nat} {TT:Bool} (HE:Aside0 (MI w0 D p mb n vA vB f M E a1 e1 vM vE h x0 G vG vG m1 m2 k1 k2 S T bx wc)) (HX:Aside0 (wc.heap[vb]?=some (.cells #[.string y0,.string y1,.bool y2,.int .i64 y3,.string y4,.int .i64 y5,.int .i64 y6] 36 (0,0)))) (HB2:Aside0 (bx[2]?=some (.slice AO O.length cO))) (HL1:Aside0 (∀ U:World,SSet U m1 k1 S→(Instr.lookup 169 (.map (some m1)) (.string y4) false).run Tryz.prog U = .ok (.bool true) U)) {K0 K1 K2 K3:Act→World→Prop} {POST:Ending→World→Prop} (v1 v2 v4 v7 v8 v9 v10 v11 v14 v15 v16 v17 v18 v19 v20 v21 v22 v23 v24 v25 v26 v27 v28 v29 v30 v31 v32 v33 v34 v35 v36 v37 v38 v39 v40 v41 v42 v43 v44 v45 v46 v47 v48 v49 v50 v51 v52 v53 v54 v55 v56 v57 v58 v59 v60 v61 v62 v63 v64 v65 v66 v67 v68 v69 v70 v71 v72 v105 v106 v107 v108 v109 v110 v111 v112 v113 v114 v115 v116 v117 v118 v119 v120 v121 v122 v123 v124 v125 v126 v127 v128 v129 v130 v131 v132 v133 v134 v135 v136 v137 v138 v139 v140 v141 v142 v143 v144 v145 v146 v147 v148 v149 v150 v151 v152 v153 v154 v155 v156 v157 v158 v159 v160 v161 v162 v163 v164 v165 v166 v167 v168 v169 v170 v171 v172 v173 v174 v175 v176 v177 v178 v179 v73 v74 v75 v76 v77 v78 v79 v80 v81 v82 v83 v84 v85 v86 v87 v88 v89 v90 v91 v92 v93 v94 v95 v96 v97 v98 v99 v100 v101 v102 v103 v104:Value)
  (hK:∀ (u73 u74 u75 u76 u77 u78 u79 u80 u81 u82 u83 u84 u85 u86 u87 u88 u89 u90 u91 u92 u93 u94 u95 u96 u97 u98 u99 u100 u101 u102 u103 u104:Value) (W':World),MI w0 D p mb n vA vB f M E (failE a1 e1 true y6 4).1 (failE a1 e1 true y6 4).2 vM vE h x0 G vG vG m1 m2 k1 k2 S T bx W'→W'.heap[vb]?=some (.cells #[.string y0,.string y1,.bool y2,.int .i64 y3,.string y4,.int .i64 y5,.int .i64 y6] 36 (0,0))→K0 ⟨#[.pointer (some ⟨p,0,none⟩),v1,v2,.pointer (some ⟨D,0,none⟩),v4,.map (some m1),.map (some m2),v7,v8,v9,v10,v11,.pointer (some ⟨vb,0,none⟩),.bool TT,v14,v15,v16,v17,v18,v19,v20,v21,v22,v23,v24,v25,v26,v27,v28,v29,v30,v31,v32,v33,v34,v35,v36,v37,v38,v39,v40,v41,v42,v43,v44,v45,v46,v47,v48,v49,v50,v51,v52,v53,v54,v55,v56,v57,v58,v59,v60,v61,v62,v63,v64,v65,v66,v67,v68,v69,v70,v71,v72,u73,u74,u75,u76,u77,u78,u79,u80,u81,u82,u83,u84,u85,u86,u87,u88,u89,u90,u91,u92,u93,u94,u95,u96,u97,u98,u99,u100,u101,u102,u103,u104,v105,v106,v107,v108,v109,v110,v111,v112,v113,v114,v115,v116,v117,v118,v119,v120,v121,v122,v123,v124,v125,v126,v127,v128,v129,v130,v131,v132,v133,v134,v135,v136,v137,v138,v139,v140,v141,v142,v143,v144,v145,v146,v147,v148,v149,v150,v151,v152,v153,v154,v155,v156,v157,v158,v159,v160,v161,v162,v163,v164,v165,v166,v167,v168,v169,v170,v171,v172,v173,v174,v175,v176,v177,v178,v179],[]⟩ W') :
  Code.wp Tryz.prog code17 (Exit.then K0 (Exit.inBlock 5 (Exit.then K1 (Exit.then K2 (Exit.inBlock 4 (Exit.then K3 (bodyPost Tryz.prog Tryz.f57 POST))))))) ⟨#[.pointer (some ⟨p,0,none⟩),v1,v2,.pointer (some ⟨D,0,none⟩),v4,.map (some m1),.map (some m2),v7,v8,v9,v10,v11,.pointer (some ⟨vb,0,none⟩),.bool TT,v14,v15,v16,v17,v18,v19,v20,v21,v22,v23,v24,v25,v26,v27,v28,v29,v30,v31,v32,v33,v34,v35,v36,v37,v38,v39,v40,v41,v42,v43,v44,v45,v46,v47,v48,v49,v50,v51,v52,v53,v54,v55,v56,v57,v58,v59,v60,v61,v62,v63,v64,v65,v66,v67,v68,v69,v70,v71,v72,v73,v74,v75,v76,v77,v78,v79,v80,v81,v82,v83,v84,v85,v86,v87,v88,v89,v90,v91,v92,v93,v94,v95,v96,v97,v98,v99,v100,v101,v102,v103,v104,v105,v106,v107,v108,v109,v110,v111,v112,v113,v114,v115,v116,v117,v118,v119,v120,v121,v122,v123,v124,v125,v126,v127,v128,v129,v130,v131,v132,v133,v134,v135,v136,v137,v138,v139,v140,v141,v142,v143,v144,v145,v146,v147,v148,v149,v150,v151,v152,v153,v154,v155,v156,v157,v158,v159,v160,v161,v162,v163,v164,v165,v166,v167,v168,v169,v170,v171,v172,v173,v174,v175,v176,v177,v178,v179],[]⟩ wc:=by
 conv=>arg 2;whnf
 have HE0:=Y0 HE.out.drew
 have HX0:=Y0 (blk_drew HX.out)
 refine start_ (n:=32) (S:=fun w'=>(Instr.lookup 169 (.map (some m1)) (.string y4) false).run Tryz.prog w' = .ok (.bool true) w'∧w'.cell? ⟨vb,4,none⟩=some (.string y4)∧w'.cell? ⟨vb,5,none⟩=some (.int .i64 y5)∧w'.cell? ⟨vb,3,none⟩=some (.int .i64 y3)∧w'.cell? ⟨vb,6,none⟩=some (.int .i64 y6)) (ds:=[31]) #[false,false,false,false,false,false,false,false,false,false,false,false,false,false,false,false,false,false,false,false,false,false,false,false,false,false,false,false,false,false,false,false] (by kernel_rfl) rfl rfl ⟨(HL1.out _ HE0.out.ss),(blk_cell HX0.out 4),(blk_cell HX0.out 5),(blk_cell HX0.out 3),(blk_cell HX0.out 6)⟩ (fun hHeld=>?_)
 refine pure_ (i:=0) (N:=some 73) (v:=?_) (a':=?_) (sqB 32 1) rfl rfl (by kernel_rfl) (fun _ _ _ h=>h) (Or.inl ⟨by rfl,?_⟩) ?_ ?_;rotate_left;intro w';go_simp;with_reducible rfl;rotate_left;simp only [Act.put,Y14,Y15,Y16];rfl
 refine pure_ (i:=1) (N:=some 74) (v:=?_) (a':=?_) (sqB 32 3) rfl rfl (by kernel_rfl) (fun _ _ _ h=>h) (Or.inl ⟨by rfl,?_⟩) ?_ ?_;rotate_left;intro w';go_simp;with_reducible rfl;rotate_left;simp only [Act.put,Y14,Y15,Y16];rfl
 refine pure_ (i:=2) (N:=some 75) (v:=?_) (a':=?_) (sqB 32 7) rfl rfl (by kernel_rfl) (fun _ _ _ h=>h) (Or.inl ⟨by rfl,?_⟩) ?_ ?_;rotate_left;intro w';go_simp;with_reducible rfl;rotate_left;simp only [Act.put,Y14,Y15,Y16];rfl
 refine pure_ (i:=29) (N:=some 102) (v:=?_) (a':=?_) (sqB 32 536870919) rfl rfl (by kernel_rfl) (fun _ _ _ h=>h) (Or.inl ⟨by rfl,?_⟩) ?_ ?_;rotate_left;intro w';go_simp;with_reducible rfl;rotate_left;simp only [Act.put,Y14,Y15,Y16];rfl
 refine take_ (i:=3) (N:=some 76) (v:=?_) (a':=?_) (sqB 32 536870927) rfl rfl (by kernel_rfl) (fun _ _ _ h=>h) (Or.inl ⟨by rfl,?_⟩) hHeld ?_ ?_;rotate_left;rintro w' ⟨s0,s1,s2,s3,s4⟩;go_simp;with_reducible rfl;rotate_left;simp only [Act.put,Y14,Y15,Y16];rfl
 refine take_ (i:=4) (N:=some 77) (v:=?_) (a':=?_) (sqB 32 536870943) rfl rfl (by kernel_rfl) (fun _ _ _ h=>h) (Or.inl ⟨by rfl,?_⟩) hHeld ?_ ?_;rotate_left;rintro w' ⟨s0,s1,s2,s3,s4⟩;go_simp;with_reducible rfl;rotate_left;simp only [Act.put,Y14,Y15,Y16];rfl
 refine pure_ (i:=5) (N:=some 78) (v:=?_) (a':=?_) (sqB 32 536870975) rfl rfl (by kernel_rfl) (fun _ _ _ h=>h) (Or.inl ⟨by rfl,?_⟩) ?_ ?_;rotate_left;intro w';go_simp;with_reducible rfl;rotate_left;simp only [Act.put,Y14,Y15,Y16];rfl
 refine pure_ (i:=6) (N:=some 79) (v:=undef) (a':=?_) (sqB 32 536871039) rfl rfl (by kernel_rfl) (fun _ _ _ h=>h) (Or.inr ⟨by rfl,rfl⟩) ?_ ?_;rotate_left;simp only [Act.put,Y14,Y15,Y16];rfl
 refine pure_ (i:=7) (N:=some 80) (v:=undef) (a':=?_) (sqB 32 536871167) rfl rfl (by kernel_rfl) (fun _ _ _ h=>h) (Or.inr ⟨by rfl,rfl⟩) ?_ ?_;rotate_left;simp only [Act.put,Y14,Y15,Y16];rfl
 refine pure_ (i:=8) (N:=some 81) (v:=undef) (a':=?_) (sqB 32 536871423) rfl rfl (by kernel_rfl) (fun _ _ _ h=>h) (Or.inr ⟨by rfl,rfl⟩) ?_ ?_;rotate_left;simp only [Act.put,Y14,Y15,Y16];rfl
 refine pure_ (i:=9) (N:=some 82) (v:=undef) (a':=?_) (sqB 32 536871935) rfl rfl (by kernel_rfl) (fun _ _ _ h=>h) (Or.inr ⟨by rfl,rfl⟩) ?_ ?_;rotate_left;simp only [Act.put,Y14,Y15,Y16];rfl
 refine pure_ (i:=10) (N:=some 83) (v:=?_) (a':=?_) (sqB 32 536872959) rfl rfl (by kernel_rfl) (fun _ _ _ h=>h) (Or.inl ⟨by rfl,?_⟩) ?_ ?_;rotate_left;intro w';go_simp;with_reducible rfl;rotate_left;simp only [Act.put,Y14,Y15,Y16];rfl
 refine pure_ (i:=11) (N:=some 84) (v:=?_) (a':=?_) (sqB 32 536875007) rfl rfl (by kernel_rfl) (fun _ _ _ h=>h) (Or.inl ⟨by rfl,?_⟩) ?_ ?_;rotate_left;intro w';go_simp;with_reducible rfl;rotate_left;simp only [Act.put,Y14,Y15,Y16];rfl
 refine pure_ (i:=12) (N:=some 85) (v:=undef) (a':=?_) (sqB 32 536879103) rfl rfl (by kernel_rfl) (fun _ _ _ h=>h) (Or.inr ⟨by rfl,rfl⟩) ?_ ?_;rotate_left;simp only [Act.put,Y14,Y15,Y16];rfl
 refine pure_ (i:=13) (N:=some 86) (v:=undef) (a':=?_) (sqB 32 536887295) rfl rfl (by kernel_rfl) (fun _ _ _ h=>h) (Or.inr ⟨by rfl,rfl⟩) ?_ ?_;rotate_left;simp only [Act.put,Y14,Y15,Y16];rfl
 refine pure_ (i:=14) (N:=some 87) (v:=undef) (a':=?_) (sqB 32 536903679) rfl rfl (by kernel_rfl) (fun _ _ _ h=>h) (Or.inr ⟨by rfl,rfl⟩) ?_ ?_;rotate_left;simp only [Act.put,Y14,Y15,Y16];rfl
 refine pure_ (i:=15) (N:=some 88) (v:=undef) (a':=?_) (sqB 32 536936447) rfl rfl (by kernel_rfl) (fun _ _ _ h=>h) (Or.inr ⟨by rfl,rfl⟩) ?_ ?_;rotate_left;simp only [Act.put,Y14,Y15,Y16];rfl
 refine pure_ (i:=16) (N:=some 89) (v:=?_) (a':=?_) (sqB 32 537001983) rfl rfl (by kernel_rfl) (fun _ _ _ h=>h) (Or.inl ⟨by rfl,?_⟩) ?_ ?_;rotate_left;intro w';go_simp;with_reducible rfl;rotate_left;simp only [Act.put,Y14,Y15,Y16];rfl
 refine pure_ (i:=17) (N:=some 90) (v:=?_) (a':=?_) (sqB 32 537133055) rfl rfl (by kernel_rfl) (fun _ _ _ h=>h) (Or.inl ⟨by rfl,?_⟩) ?_ ?_;rotate_left;intro w';go_simp;with_reducible rfl;rotate_left;simp only [Act.put,Y14,Y15,Y16];rfl
 refine pure_ (i:=18) (N:=some 91) (v:=undef) (a':=?_) (sqB 32 537395199) rfl rfl (by kernel_rfl) (fun _ _ _ h=>h) (Or.inr ⟨by rfl,rfl⟩) ?_ ?_;rotate_left;simp only [Act.put,Y14,Y15,Y16];rfl
 refine pure_ (i:=19) (N:=some 92) (v:=undef) (a':=?_) (sqB 32 537919487) rfl rfl (by kernel_rfl) (fun _ _ _ h=>h) (Or.inr ⟨by rfl,rfl⟩) ?_ ?_;rotate_left;simp only [Act.put,Y14,Y15,Y16];rfl
 refine pure_ (i:=20) (N:=some 93) (v:=undef) (a':=?_) (sqB 32 538968063) rfl rfl (by kernel_rfl) (fun _ _ _ h=>h) (Or.inr ⟨by rfl,rfl⟩) ?_ ?_;rotate_left;simp only [Act.put,Y14,Y15,Y16];rfl
 refine pure_ (i:=21) (N:=some 94) (v:=undef) (a':=?_) (sqB 32 541065215) rfl rfl (by kernel_rfl) (fun _ _ _ h=>h) (Or.inr ⟨by rfl,rfl⟩) ?_ ?_;rotate_left;simp only [Act.put,Y14,Y15,Y16];rfl
 refine pure_ (i:=22) (N:=some 95) (v:=undef) (a':=?_) (sqB 32 545259519) rfl rfl (by kernel_rfl) (fun _ _ _ h=>h) (Or.inr ⟨by rfl,rfl⟩) ?_ ?_;rotate_left;simp only [Act.put,Y14,Y15,Y16];rfl
 refine pure_ (i:=23) (N:=some 96) (v:=undef) (a':=?_) (sqB 32 553648127) rfl rfl (by kernel_rfl) (fun _ _ _ h=>h) (Or.inr ⟨by rfl,rfl⟩) ?_ ?_;rotate_left;simp only [Act.put,Y14,Y15,Y16];rfl
 refine pure_ (i:=24) (N:=some 97) (v:=undef) (a':=?_) (sqB 32 570425343) rfl rfl (by kernel_rfl) (fun _ _ _ h=>h) (Or.inr ⟨by rfl,rfl⟩) ?_ ?_;rotate_left;simp only [Act.put,Y14,Y15,Y16];rfl
 refine pure_ (i:=25) (N:=some 98) (v:=?_) (a':=?_) (sqB 32 603979775) rfl rfl (by kernel_rfl) (fun _ _ _ h=>h) (Or.inl ⟨by rfl,?_⟩) ?_ ?_;rotate_left;intro w';go_simp;with_reducible rfl;rotate_left;simp only [Act.put,Y14,Y15,Y16];rfl
 refine pure_ (i:=26) (N:=some 99) (v:=?_) (a':=?_) (sqB 32 671088639) rfl rfl (by kernel_rfl) (fun _ _ _ h=>h) (Or.inl ⟨by rfl,?_⟩) ?_ ?_;rotate_left;intro w';go_simp;with_reducible rfl;rotate_left;simp only [Act.put,Y14,Y15,Y16];rfl
 refine pure_ (i:=27) (N:=some 100) (v:=undef) (a':=?_) (sqB 32 805306367) rfl rfl (by kernel_rfl) (fun _ _ _ h=>h) (Or.inr ⟨by rfl,rfl⟩) ?_ ?_;rotate_left;simp only [Act.put,Y14,Y15,Y16];rfl
 refine pure_ (i:=28) (N:=some 101) (v:=?_) (a':=?_) (sqB 32 1073741823) rfl rfl (by kernel_rfl) (fun _ _ _ h=>h) (Or.inl ⟨by rfl,?_⟩) ?_ ?_;rotate_left;intro w';go_simp;with_reducible rfl;rotate_left;simp only [Act.put,Y14,Y15,Y16];rfl
 refine take_ (i:=30) (N:=some 103) (v:=?_) (a':=?_) (sqB 32 2147483647) rfl rfl (by kernel_rfl) (fun _ _ _ h=>h) (Or.inl ⟨by rfl,?_⟩) hHeld ?_ ?_;rotate_left;rintro w' ⟨s0,s1,s2,s3,s4⟩;go_simp;with_reducible rfl;rotate_left;simp only [Act.put,Y14,Y15,Y16];rfl
 refine last_ (i:=31) (N:=some 104) (sqB 32 4294967295) rfl rfl (by kernel_rfl) (by decide) (fun K hK=>?_)
 refine goes_ Tryz.func56 (by kernel_rfl) rfl #[.pointer (some ⟨p,0,none⟩),.bool true,.int .i64 y6,.int .i64 4] (by rfl) rfl rfl (by simp only [List.map_toArray,List.map_cons,List.map_nil];rfl) ?_
 with_reducible refine (fail_s HE0.out.rs.blk true y6 4).mono ?_
 rintro e3 W3 ⟨rfl,hr3,hk3,-,hb3⟩
 refine ⟨_,rfl,?_⟩
 have n1_:=HE0.out.err hr3 hk3 hb3
 have n2_:=hk3.blk HX0.out (blk_ne HX0.out HE0.out.rs.blk (by decide)) (by simp)
 clear hr3 hk3 hb3
 refine hK.out _ _ ?_
 clear hK K
 refine norm_ (a':=?_) ?_ ?_;rotate_left;show Act.put _ (some 104) _=_;simp only [Act.put,Y14,Y15,Y16];rfl
 refine done_ (by kernel_rfl) ?_
 exact hK _ _ _ _ _ _ _ _ _ _ _ _ _ _ _ _ _ _ _ _ _ _ _ _ _ _ _ _ _ _ _ _ _ n1_ n2_
set_option maxHeartbeats 8000000 in
set_option maxRecDepth 1000000 in
theorem w17_2 {w0 wc:World} {D p mb n:Nat} {vA vB:Value} {f:List UInt8→Option (Int × Int)} {M:List (S57)} {E:List (S119)} {a1 e1:Int} {vM vE:Value} {h:Nat} {x0:ByteArray} {G:List (S51)} {vG:Value} {m1 m2 k1 k2:Nat} {S:List UInt8→Option Bool} {T:Int→Option Bool} {bx:Array Value} {vb:Nat} {y0 y1:ByteArray} {y2:Bool} {y3:Int} {y4:ByteArray} {y5 y6:Int} {O:List ByteArray} {AO:Option Addr} {cO:Nat} {TT:Bool} (HE:Aside0 (MI w0 D p mb n vA vB f M E a1 e1 vM vE h x0 G vG vG m1 m2 k1 k2 S T bx wc)) (HX:Aside0 (wc.heap[vb]?=some (.cells #[.string y0,.string y1,.bool y2,.int .i64 y3,.string y4,.int .i64 y5,.int .i64 y6] 36 (0,0)))) (HB2:Aside0 (bx[2]?=some (.slice AO O.length cO))) (HL1:Aside0 (∀ U:World,SSet U m1 k1 S→(Instr.lookup 169 (.map (some m1)) (.string y4) false).run Tryz.prog U = .ok (.bool false) U)) (HNUM:Aside0 (table_number.f y5=some false)) {K0 K1 K2 K3:Act→World→Prop} {POST:Ending→World→Prop} (v1 v2 v4 v7 v8 v9 v10 v11 v14 v15 v16 v17 v18 v19 v20 v21 v22 v23 v24 v25 v26 v27 v28 v29 v30 v31 v32 v33 v34 v35 v36 v37 v38 v39 v40 v41 v42 v43 v44 v45 v46 v47 v48 v49 v50 v51 v52 v53 v54 v55 v56 v57 v58 v59 v60 v61 v62 v63 v64 v65 v66 v67 v68 v69 v70 v71 v72 v105 v106 v107 v108 v109 v110 v111 v112 v113 v114 v115 v116 v117 v118 v119 v120 v121 v122 v123 v124 v125 v126 v127 v128 v129 v130 v131 v132 v133 v134 v135 v136 v137 v138 v139 v140 v141 v142 v143 v144 v145 v146 v147 v148 v149 v150 v151 v152 v153 v154 v155 v156 v157 v158 v159 v160 v161 v162 v163 v164 v165 v166 v167 v168 v169 v170 v171 v172 v173 v174 v175 v176 v177 v178 v179 v73 v74 v75 v76 v77 v78 v79 v80 v81 v82 v83 v84 v85 v86 v87 v88 v89 v90 v91 v92 v93 v94 v95 v96 v97 v98 v99 v100 v101 v102 v103 v104:Value)
  (hK:∀ (u73 u74 u75 u76 u77 u78 u79 u80 u81 u82 u83 u84 u85 u86 u87 u88 u89 u90 u91 u92 u93 u94 u95 u96 u97 u98 u99 u100 u101 u102 u103 u104:Value) (W':World),MI w0 D p mb n vA vB f M E (failE a1 e1 true y6 4).1 (failE a1 e1 true y6 4).2 vM vE h x0 G vG vG m1 m2 k1 k2 S T bx W'→W'.heap[vb]?=some (.cells #[.string y0,.string y1,.bool y2,.int .i64 y3,.string y4,.int .i64 y5,.int .i64 y6] 36 (0,0))→K0 ⟨#[.pointer (some ⟨p,0,none⟩),v1,v2,.pointer (some ⟨D,0,none⟩),v4,.map (some m1),.map (some m2),v7,v8,v9,v10,v11,.pointer (some ⟨vb,0,none⟩),.bool TT,v14,v15,v16,v17,v18,v19,v20,v21,v22,v23,v24,v25,v26,v27,v28,v29,v30,v31,v32,v33,v34,v35,v36,v37,v38,v39,v40,v41,v42,v43,v44,v45,v46,v47,v48,v49,v50,v51,v52,v53,v54,v55,v56,v57,v58,v59,v60,v61,v62,v63,v64,v65,v66,v67,v68,v69,v70,v71,v72,u73,u74,u75,u76,u77,u78,u79,u80,u81,u82,u83,u84,u85,u86,u87,u88,u89,u90,u91,u92,u93,u94,u95,u96,u97,u98,u99,u100,u101,u102,u103,u104,v105,v106,v107,v108,v109,v110,v111,v112,v113,v114,v115,v116,v117,v118,v119,v120,v121,v122,v123,v124,v125,v126,v127,v128,v129,v130,v131,v132,v133,v134,v135,v136,v137,v138,v139,v140,v141,v142,v143,v144,v145,v146,v147,v148,v149,v150,v151,v152,v153,v154,v155,v156,v157,v158,v159,v160,v161,v162,v163,v164,v165,v166,v167,v168,v169,v170,v171,v172,v173,v174,v175,v176,v177,v178,v179],[]⟩ W') :
  Code.wp Tryz.prog code17 (Exit.then K0 (Exit.inBlock 5 (Exit.then K1 (Exit.then K2 (Exit.inBlock 4 (Exit.then K3 (bodyPost Tryz.prog Tryz.f57 POST))))))) ⟨#[.pointer (some ⟨p,0,none⟩),v1,v2,.pointer (some ⟨D,0,none⟩),v4,.map (some m1),.map (some m2),v7,v8,v9,v10,v11,.pointer (some ⟨vb,0,none⟩),.bool TT,v14,v15,v16,v17,v18,v19,v20,v21,v22,v23,v24,v25,v26,v27,v28,v29,v30,v31,v32,v33,v34,v35,v36,v37,v38,v39,v40,v41,v42,v43,v44,v45,v46,v47,v48,v49,v50,v51,v52,v53,v54,v55,v56,v57,v58,v59,v60,v61,v62,v63,v64,v65,v66,v67,v68,v69,v70,v71,v72,v73,v74,v75,v76,v77,v78,v79,v80,v81,v82,v83,v84,v85,v86,v87,v88,v89,v90,v91,v92,v93,v94,v95,v96,v97,v98,v99,v100,v101,v102,v103,v104,v105,v106,v107,v108,v109,v110,v111,v112,v113,v114,v115,v116,v117,v118,v119,v120,v121,v122,v123,v124,v125,v126,v127,v128,v129,v130,v131,v132,v133,v134,v135,v136,v137,v138,v139,v140,v141,v142,v143,v144,v145,v146,v147,v148,v149,v150,v151,v152,v153,v154,v155,v156,v157,v158,v159,v160,v161,v162,v163,v164,v165,v166,v167,v168,v169,v170,v171,v172,v173,v174,v175,v176,v177,v178,v179],[]⟩ wc:=by
 conv=>arg 2;whnf
 have HE0:=Y0 HE.out.drew
 have HX0:=Y0 (blk_drew HX.out)
 refine start_ (n:=32) (S:=fun w'=>(Instr.lookup 169 (.map (some m1)) (.string y4) false).run Tryz.prog w' = .ok (.bool false) w'∧w'.cell? ⟨vb,4,none⟩=some (.string y4)∧w'.cell? ⟨vb,5,none⟩=some (.int .i64 y5)∧w'.cell? ⟨vb,3,none⟩=some (.int .i64 y3)∧w'.cell? ⟨vb,6,none⟩=some (.int .i64 y6)) (ds:=[31]) #[false,false,false,false,false,false,false,false,false,false,false,false,false,false,false,false,false,false,false,false,false,false,false,false,false,false,false,false,false,false,false,false] (by kernel_rfl) rfl rfl ⟨(HL1.out _ HE0.out.ss),(blk_cell HX0.out 4),(blk_cell HX0.out 5),(blk_cell HX0.out 3),(blk_cell HX0.out 6)⟩ (fun hHeld=>?_)
 refine pure_ (i:=0) (N:=some 73) (v:=?_) (a':=?_) (sqB 32 1) rfl rfl (by kernel_rfl) (fun _ _ _ h=>h) (Or.inl ⟨by rfl,?_⟩) ?_ ?_;rotate_left;intro w';go_simp;with_reducible rfl;rotate_left;simp only [Act.put,Y14,Y15,Y16];rfl
 refine pure_ (i:=1) (N:=some 74) (v:=?_) (a':=?_) (sqB 32 3) rfl rfl (by kernel_rfl) (fun _ _ _ h=>h) (Or.inl ⟨by rfl,?_⟩) ?_ ?_;rotate_left;intro w';go_simp;with_reducible rfl;rotate_left;simp only [Act.put,Y14,Y15,Y16];rfl
 refine pure_ (i:=2) (N:=some 75) (v:=?_) (a':=?_) (sqB 32 7) rfl rfl (by kernel_rfl) (fun _ _ _ h=>h) (Or.inl ⟨by rfl,?_⟩) ?_ ?_;rotate_left;intro w';go_simp;with_reducible rfl;rotate_left;simp only [Act.put,Y14,Y15,Y16];rfl
 refine pure_ (i:=29) (N:=some 102) (v:=?_) (a':=?_) (sqB 32 536870919) rfl rfl (by kernel_rfl) (fun _ _ _ h=>h) (Or.inl ⟨by rfl,?_⟩) ?_ ?_;rotate_left;intro w';go_simp;with_reducible rfl;rotate_left;simp only [Act.put,Y14,Y15,Y16];rfl
 refine take_ (i:=3) (N:=some 76) (v:=?_) (a':=?_) (sqB 32 536870927) rfl rfl (by kernel_rfl) (fun _ _ _ h=>h) (Or.inl ⟨by rfl,?_⟩) hHeld ?_ ?_;rotate_left;rintro w' ⟨s0,s1,s2,s3,s4⟩;go_simp;with_reducible rfl;rotate_left;simp only [Act.put,Y14,Y15,Y16];rfl
 refine take_ (i:=4) (N:=some 77) (v:=?_) (a':=?_) (sqB 32 536870943) rfl rfl (by kernel_rfl) (fun _ _ _ h=>h) (Or.inl ⟨by rfl,?_⟩) hHeld ?_ ?_;rotate_left;rintro w' ⟨s0,s1,s2,s3,s4⟩;go_simp;with_reducible rfl;rotate_left;simp only [Act.put,Y14,Y15,Y16];rfl
 refine pure_ (i:=5) (N:=some 78) (v:=?_) (a':=?_) (sqB 32 536870975) rfl rfl (by kernel_rfl) (fun _ _ _ h=>h) (Or.inl ⟨by rfl,?_⟩) ?_ ?_;rotate_left;intro w';go_simp;with_reducible rfl;rotate_left;simp only [Act.put,Y14,Y15,Y16];rfl
 refine pure_ (i:=6) (N:=some 79) (v:=?_) (a':=?_) (sqB 32 536871039) rfl rfl (by kernel_rfl) (fun _ _ _ h=>h) (Or.inl ⟨by rfl,?_⟩) ?_ ?_;rotate_left;intro w';go_simp;with_reducible rfl;rotate_left;simp only [Act.put,Y14,Y15,Y16];rfl
 refine take_ (i:=7) (N:=some 80) (v:=?_) (a':=?_) (sqB 32 536871167) rfl rfl (by kernel_rfl) (fun _ _ _ h=>h) (Or.inl ⟨by rfl,?_⟩) hHeld ?_ ?_;rotate_left;rintro w' ⟨s0,s1,s2,s3,s4⟩;go_simp;with_reducible rfl;rotate_left;simp only [Act.put,Y14,Y15,Y16];rfl
 refine take_ (i:=30) (N:=some 103) (v:=?_) (a':=?_) (sqB 32 1610612991) rfl rfl (by kernel_rfl) (fun _ _ _ h=>h) (Or.inl ⟨by rfl,?_⟩) hHeld ?_ ?_;rotate_left;rintro w' ⟨s0,s1,s2,s3,s4⟩;go_simp;with_reducible rfl;rotate_left;simp only [Act.put,Y14,Y15,Y16];rfl
 refine one_ (i:=8) (N:=some 81) (sqB 32 1610613247) rfl rfl (by kernel_rfl) (by decide) (fun K hK=>?_)
 refine goes_ Tryz.func98 (by kernel_rfl) rfl #[.int .i64 y5] (by rfl) rfl rfl (by simp only [List.map_toArray,List.map_cons,List.map_nil];rfl) ?_
 with_reducible refine (table_number.calls y5 false _ HNUM.out).mono ?_
 rintro e1 W1 ⟨rfl,hd⟩
 refine ⟨_,rfl,?_⟩
 have HE1:=Y0 (HE0.out.drawn hd)
 have HX1:=Y0 (blk_below HX0.out hd.below)
 clear hd
 refine hK.out _ _ ⟨(HL1.out _ HE1.out.ss),(blk_cell HX1.out 4),(blk_cell HX1.out 5),(blk_cell HX1.out 3),(blk_cell HX1.out 6)⟩ (fun hHeld=>?_)
 clear hK K
 refine norm_ (a':=?_) ?_ ?_;rotate_left;show Act.put _ (some 81) _=_;simp only [Act.put,Y14,Y15,Y16];rfl
 refine pure_ (i:=9) (N:=some 82) (v:=?_) (a':=?_) (sqB 32 1610613759) rfl rfl (by kernel_rfl) (fun _ _ _ h=>h) (Or.inl ⟨by rfl,?_⟩) ?_ ?_;rotate_left;intro w';go_simp;with_reducible rfl;rotate_left;simp only [Act.put,Y14,Y15,Y16];rfl
 refine pure_ (i:=10) (N:=some 83) (v:=?_) (a':=?_) (sqB 32 1610614783) rfl rfl (by kernel_rfl) (fun _ _ _ h=>h) (Or.inl ⟨by rfl,?_⟩) ?_ ?_;rotate_left;intro w';go_simp;with_reducible rfl;rotate_left;simp only [Act.put,Y14,Y15,Y16];rfl
 refine pure_ (i:=11) (N:=some 84) (v:=?_) (a':=?_) (sqB 32 1610616831) rfl rfl (by kernel_rfl) (fun _ _ _ h=>h) (Or.inl ⟨by rfl,?_⟩) ?_ ?_;rotate_left;intro w';go_simp;with_reducible rfl;rotate_left;simp only [Act.put,Y14,Y15,Y16];rfl
 refine pure_ (i:=12) (N:=some 85) (v:=undef) (a':=?_) (sqB 32 1610620927) rfl rfl (by kernel_rfl) (fun _ _ _ h=>h) (Or.inr ⟨by rfl,rfl⟩) ?_ ?_;rotate_left;simp only [Act.put,Y14,Y15,Y16];rfl
 refine pure_ (i:=13) (N:=some 86) (v:=undef) (a':=?_) (sqB 32 1610629119) rfl rfl (by kernel_rfl) (fun _ _ _ h=>h) (Or.inr ⟨by rfl,rfl⟩) ?_ ?_;rotate_left;simp only [Act.put,Y14,Y15,Y16];rfl
 refine pure_ (i:=14) (N:=some 87) (v:=undef) (a':=?_) (sqB 32 1610645503) rfl rfl (by kernel_rfl) (fun _ _ _ h=>h) (Or.inr ⟨by rfl,rfl⟩) ?_ ?_;rotate_left;simp only [Act.put,Y14,Y15,Y16];rfl
 refine pure_ (i:=15) (N:=some 88) (v:=undef) (a':=?_) (sqB 32 1610678271) rfl rfl (by kernel_rfl) (fun _ _ _ h=>h) (Or.inr ⟨by rfl,rfl⟩) ?_ ?_;rotate_left;simp only [Act.put,Y14,Y15,Y16];rfl
 refine pure_ (i:=16) (N:=some 89) (v:=?_) (a':=?_) (sqB 32 1610743807) rfl rfl (by kernel_rfl) (fun _ _ _ h=>h) (Or.inl ⟨by rfl,?_⟩) ?_ ?_;rotate_left;intro w';go_simp;with_reducible rfl;rotate_left;simp only [Act.put,Y14,Y15,Y16];rfl
 refine pure_ (i:=17) (N:=some 90) (v:=?_) (a':=?_) (sqB 32 1610874879) rfl rfl (by kernel_rfl) (fun _ _ _ h=>h) (Or.inl ⟨by rfl,?_⟩) ?_ ?_;rotate_left;intro w';go_simp;with_reducible rfl;rotate_left;simp only [Act.put,Y14,Y15,Y16];rfl
 refine pure_ (i:=18) (N:=some 91) (v:=undef) (a':=?_) (sqB 32 1611137023) rfl rfl (by kernel_rfl) (fun _ _ _ h=>h) (Or.inr ⟨by rfl,rfl⟩) ?_ ?_;rotate_left;simp only [Act.put,Y14,Y15,Y16];rfl
 refine pure_ (i:=19) (N:=some 92) (v:=undef) (a':=?_) (sqB 32 1611661311) rfl rfl (by kernel_rfl) (fun _ _ _ h=>h) (Or.inr ⟨by rfl,rfl⟩) ?_ ?_;rotate_left;simp only [Act.put,Y14,Y15,Y16];rfl
 refine pure_ (i:=20) (N:=some 93) (v:=undef) (a':=?_) (sqB 32 1612709887) rfl rfl (by kernel_rfl) (fun _ _ _ h=>h) (Or.inr ⟨by rfl,rfl⟩) ?_ ?_;rotate_left;simp only [Act.put,Y14,Y15,Y16];rfl
 refine pure_ (i:=21) (N:=some 94) (v:=undef) (a':=?_) (sqB 32 1614807039) rfl rfl (by kernel_rfl) (fun _ _ _ h=>h) (Or.inr ⟨by rfl,rfl⟩) ?_ ?_;rotate_left;simp only [Act.put,Y14,Y15,Y16];rfl
 refine pure_ (i:=22) (N:=some 95) (v:=undef) (a':=?_) (sqB 32 1619001343) rfl rfl (by kernel_rfl) (fun _ _ _ h=>h) (Or.inr ⟨by rfl,rfl⟩) ?_ ?_;rotate_left;simp only [Act.put,Y14,Y15,Y16];rfl
 refine pure_ (i:=23) (N:=some 96) (v:=undef) (a':=?_) (sqB 32 1627389951) rfl rfl (by kernel_rfl) (fun _ _ _ h=>h) (Or.inr ⟨by rfl,rfl⟩) ?_ ?_;rotate_left;simp only [Act.put,Y14,Y15,Y16];rfl
 refine pure_ (i:=24) (N:=some 97) (v:=undef) (a':=?_) (sqB 32 1644167167) rfl rfl (by kernel_rfl) (fun _ _ _ h=>h) (Or.inr ⟨by rfl,rfl⟩) ?_ ?_;rotate_left;simp only [Act.put,Y14,Y15,Y16];rfl
 refine pure_ (i:=25) (N:=some 98) (v:=?_) (a':=?_) (sqB 32 1677721599) rfl rfl (by kernel_rfl) (fun _ _ _ h=>h) (Or.inl ⟨by rfl,?_⟩) ?_ ?_;rotate_left;intro w';go_simp;with_reducible rfl;rotate_left;simp only [Act.put,Y14,Y15,Y16];rfl
 refine pure_ (i:=26) (N:=some 99) (v:=?_) (a':=?_) (sqB 32 1744830463) rfl rfl (by kernel_rfl) (fun _ _ _ h=>h) (Or.inl ⟨by rfl,?_⟩) ?_ ?_;rotate_left;intro w';go_simp;with_reducible rfl;rotate_left;simp only [Act.put,Y14,Y15,Y16];rfl
 refine pure_ (i:=27) (N:=some 100) (v:=undef) (a':=?_) (sqB 32 1879048191) rfl rfl (by kernel_rfl) (fun _ _ _ h=>h) (Or.inr ⟨by rfl,rfl⟩) ?_ ?_;rotate_left;simp only [Act.put,Y14,Y15,Y16];rfl
 refine pure_ (i:=28) (N:=some 101) (v:=?_) (a':=?_) (sqB 32 2147483647) rfl rfl (by kernel_rfl) (fun _ _ _ h=>h) (Or.inl ⟨by rfl,?_⟩) ?_ ?_;rotate_left;intro w';go_simp;with_reducible rfl;rotate_left;simp only [Act.put,Y14,Y15,Y16];rfl
 refine last_ (i:=31) (N:=some 104) (sqB 32 4294967295) rfl rfl (by kernel_rfl) (by decide) (fun K hK=>?_)
 refine goes_ Tryz.func56 (by kernel_rfl) rfl #[.pointer (some ⟨p,0,none⟩),.bool true,.int .i64 y6,.int .i64 4] (by rfl) rfl rfl (by simp only [List.map_toArray,List.map_cons,List.map_nil];rfl) ?_
 with_reducible refine (fail_s HE1.out.rs.blk true y6 4).mono ?_
 rintro e3 W3 ⟨rfl,hr3,hk3,-,hb3⟩
 refine ⟨_,rfl,?_⟩
 have n1_:=HE1.out.err hr3 hk3 hb3
 have n2_:=hk3.blk HX1.out (blk_ne HX1.out HE1.out.rs.blk (by decide)) (by simp)
 clear hr3 hk3 hb3
 refine hK.out _ _ ?_
 clear hK K
 refine norm_ (a':=?_) ?_ ?_;rotate_left;show Act.put _ (some 104) _=_;simp only [Act.put,Y14,Y15,Y16];rfl
 refine done_ (by kernel_rfl) ?_
 exact hK _ _ _ _ _ _ _ _ _ _ _ _ _ _ _ _ _ _ _ _ _ _ _ _ _ _ _ _ _ _ _ _ _ n1_ n2_
set_option maxHeartbeats 8000000 in
set_option maxRecDepth 1000000 in
theorem w17_3 {w0 wc:World} {D p mb n:Nat} {vA vB:Value} {f:List UInt8→Option (Int × Int)} {M:List (S57)} {E:List (S119)} {a1 e1:Int} {vM vE:Value} {h:Nat} {x0:ByteArray} {G:List (S51)} {vG:Value} {m1 m2 k1 k2:Nat} {S:List UInt8→Option Bool} {T:Int→Option Bool} {bx:Array Value} {vb:Nat} {y0 y1:ByteArray} {y2:Bool} {y3:Int} {y4:ByteArray} {y5 y6:Int} {O:List ByteArray} {AO:Option Addr} {cO:Nat} {TT:Bool} (HE:Aside0 (MI w0 D p mb n vA vB f M E a1 e1 vM vE h x0 G vG vG m1 m2 k1 k2 S T bx wc)) (HX:Aside0 (wc.heap[vb]?=some (.cells #[.string y0,.string y1,.bool y2,.int .i64 y3,.string y4,.int .i64 y5,.int .i64 y6] 36 (0,0)))) (HB2:Aside0 (bx[2]?=some (.slice AO O.length cO))) (HL1:Aside0 (∀ U:World,SSet U m1 k1 S→(Instr.lookup 169 (.map (some m1)) (.string y4) false).run Tryz.prog U = .ok (.bool false) U)) (HNUM:Aside0 (table_number.f y5=some true)) (HL2:Aside0 (∀ U:World,ISet U m2 k2 T→(Instr.lookup 170 (.map (some m2)) (.int .i64 y5) false).run Tryz.prog U = .ok (.bool true) U)) {K0 K1 K2 K3:Act→World→Prop} {POST:Ending→World→Prop} (v1 v2 v4 v7 v8 v9 v10 v11 v14 v15 v16 v17 v18 v19 v20 v21 v22 v23 v24 v25 v26 v27 v28 v29 v30 v31 v32 v33 v34 v35 v36 v37 v38 v39 v40 v41 v42 v43 v44 v45 v46 v47 v48 v49 v50 v51 v52 v53 v54 v55 v56 v57 v58 v59 v60 v61 v62 v63 v64 v65 v66 v67 v68 v69 v70 v71 v72 v105 v106 v107 v108 v109 v110 v111 v112 v113 v114 v115 v116 v117 v118 v119 v120 v121 v122 v123 v124 v125 v126 v127 v128 v129 v130 v131 v132 v133 v134 v135 v136 v137 v138 v139 v140 v141 v142 v143 v144 v145 v146 v147 v148 v149 v150 v151 v152 v153 v154 v155 v156 v157 v158 v159 v160 v161 v162 v163 v164 v165 v166 v167 v168 v169 v170 v171 v172 v173 v174 v175 v176 v177 v178 v179 v73 v74 v75 v76 v77 v78 v79 v80 v81 v82 v83 v84 v85 v86 v87 v88 v89 v90 v91 v92 v93 v94 v95 v96 v97 v98 v99 v100 v101 v102 v103 v104:Value)
  (hK:∀ (u73 u74 u75 u76 u77 u78 u79 u80 u81 u82 u83 u84 u85 u86 u87 u88 u89 u90 u91 u92 u93 u94 u95 u96 u97 u98 u99 u100 u101 u102 u103 u104:Value) (W':World),MI w0 D p mb n vA vB f M E (failE a1 e1 true y6 4).1 (failE a1 e1 true y6 4).2 vM vE h x0 G vG vG m1 m2 k1 k2 S T bx W'→W'.heap[vb]?=some (.cells #[.string y0,.string y1,.bool y2,.int .i64 y3,.string y4,.int .i64 y5,.int .i64 y6] 36 (0,0))→K0 ⟨#[.pointer (some ⟨p,0,none⟩),v1,v2,.pointer (some ⟨D,0,none⟩),v4,.map (some m1),.map (some m2),v7,v8,v9,v10,v11,.pointer (some ⟨vb,0,none⟩),.bool TT,v14,v15,v16,v17,v18,v19,v20,v21,v22,v23,v24,v25,v26,v27,v28,v29,v30,v31,v32,v33,v34,v35,v36,v37,v38,v39,v40,v41,v42,v43,v44,v45,v46,v47,v48,v49,v50,v51,v52,v53,v54,v55,v56,v57,v58,v59,v60,v61,v62,v63,v64,v65,v66,v67,v68,v69,v70,v71,v72,u73,u74,u75,u76,u77,u78,u79,u80,u81,u82,u83,u84,u85,u86,u87,u88,u89,u90,u91,u92,u93,u94,u95,u96,u97,u98,u99,u100,u101,u102,u103,u104,v105,v106,v107,v108,v109,v110,v111,v112,v113,v114,v115,v116,v117,v118,v119,v120,v121,v122,v123,v124,v125,v126,v127,v128,v129,v130,v131,v132,v133,v134,v135,v136,v137,v138,v139,v140,v141,v142,v143,v144,v145,v146,v147,v148,v149,v150,v151,v152,v153,v154,v155,v156,v157,v158,v159,v160,v161,v162,v163,v164,v165,v166,v167,v168,v169,v170,v171,v172,v173,v174,v175,v176,v177,v178,v179],[]⟩ W') :
  Code.wp Tryz.prog code17 (Exit.then K0 (Exit.inBlock 5 (Exit.then K1 (Exit.then K2 (Exit.inBlock 4 (Exit.then K3 (bodyPost Tryz.prog Tryz.f57 POST))))))) ⟨#[.pointer (some ⟨p,0,none⟩),v1,v2,.pointer (some ⟨D,0,none⟩),v4,.map (some m1),.map (some m2),v7,v8,v9,v10,v11,.pointer (some ⟨vb,0,none⟩),.bool TT,v14,v15,v16,v17,v18,v19,v20,v21,v22,v23,v24,v25,v26,v27,v28,v29,v30,v31,v32,v33,v34,v35,v36,v37,v38,v39,v40,v41,v42,v43,v44,v45,v46,v47,v48,v49,v50,v51,v52,v53,v54,v55,v56,v57,v58,v59,v60,v61,v62,v63,v64,v65,v66,v67,v68,v69,v70,v71,v72,v73,v74,v75,v76,v77,v78,v79,v80,v81,v82,v83,v84,v85,v86,v87,v88,v89,v90,v91,v92,v93,v94,v95,v96,v97,v98,v99,v100,v101,v102,v103,v104,v105,v106,v107,v108,v109,v110,v111,v112,v113,v114,v115,v116,v117,v118,v119,v120,v121,v122,v123,v124,v125,v126,v127,v128,v129,v130,v131,v132,v133,v134,v135,v136,v137,v138,v139,v140,v141,v142,v143,v144,v145,v146,v147,v148,v149,v150,v151,v152,v153,v154,v155,v156,v157,v158,v159,v160,v161,v162,v163,v164,v165,v166,v167,v168,v169,v170,v171,v172,v173,v174,v175,v176,v177,v178,v179],[]⟩ wc:=by
 conv=>arg 2;whnf
 have HE0:=Y0 HE.out.drew
 have HX0:=Y0 (blk_drew HX.out)
 refine start_ (n:=32) (S:=fun w'=>(Instr.lookup 169 (.map (some m1)) (.string y4) false).run Tryz.prog w' = .ok (.bool false) w'∧w'.cell? ⟨vb,4,none⟩=some (.string y4)∧w'.cell? ⟨vb,5,none⟩=some (.int .i64 y5)∧w'.cell? ⟨vb,3,none⟩=some (.int .i64 y3)∧w'.cell? ⟨vb,6,none⟩=some (.int .i64 y6)∧(Instr.lookup 170 (.map (some m2)) (.int .i64 y5) false).run Tryz.prog w' = .ok (.bool true) w'∧w'.cell? ⟨D,2,none⟩=some (.slice AO O.length cO)) (ds:=[31]) #[false,false,false,false,false,false,false,false,false,false,false,false,false,false,false,false,false,false,false,false,false,false,false,false,false,false,false,false,false,false,false,false] (by kernel_rfl) rfl rfl ⟨(HL1.out _ HE0.out.ss),(blk_cell HX0.out 4),(blk_cell HX0.out 5),(blk_cell HX0.out 3),(blk_cell HX0.out 6),(HL2.out _ HE0.out.is),((blk_cell HE0.out.bx 2).trans HB2.out)⟩ (fun hHeld=>?_)
 refine pure_ (i:=0) (N:=some 73) (v:=?_) (a':=?_) (sqB 32 1) rfl rfl (by kernel_rfl) (fun _ _ _ h=>h) (Or.inl ⟨by rfl,?_⟩) ?_ ?_;rotate_left;intro w';go_simp;with_reducible rfl;rotate_left;simp only [Act.put,Y14,Y15,Y16];rfl
 refine pure_ (i:=1) (N:=some 74) (v:=?_) (a':=?_) (sqB 32 3) rfl rfl (by kernel_rfl) (fun _ _ _ h=>h) (Or.inl ⟨by rfl,?_⟩) ?_ ?_;rotate_left;intro w';go_simp;with_reducible rfl;rotate_left;simp only [Act.put,Y14,Y15,Y16];rfl
 refine pure_ (i:=2) (N:=some 75) (v:=?_) (a':=?_) (sqB 32 7) rfl rfl (by kernel_rfl) (fun _ _ _ h=>h) (Or.inl ⟨by rfl,?_⟩) ?_ ?_;rotate_left;intro w';go_simp;with_reducible rfl;rotate_left;simp only [Act.put,Y14,Y15,Y16];rfl
 refine pure_ (i:=29) (N:=some 102) (v:=?_) (a':=?_) (sqB 32 536870919) rfl rfl (by kernel_rfl) (fun _ _ _ h=>h) (Or.inl ⟨by rfl,?_⟩) ?_ ?_;rotate_left;intro w';go_simp;with_reducible rfl;rotate_left;simp only [Act.put,Y14,Y15,Y16];rfl
 refine take_ (i:=3) (N:=some 76) (v:=?_) (a':=?_) (sqB 32 536870927) rfl rfl (by kernel_rfl) (fun _ _ _ h=>h) (Or.inl ⟨by rfl,?_⟩) hHeld ?_ ?_;rotate_left;rintro w' ⟨s0,s1,s2,s3,s4,s5,s6⟩;go_simp;with_reducible rfl;rotate_left;simp only [Act.put,Y14,Y15,Y16];rfl
 refine take_ (i:=4) (N:=some 77) (v:=?_) (a':=?_) (sqB 32 536870943) rfl rfl (by kernel_rfl) (fun _ _ _ h=>h) (Or.inl ⟨by rfl,?_⟩) hHeld ?_ ?_;rotate_left;rintro w' ⟨s0,s1,s2,s3,s4,s5,s6⟩;go_simp;with_reducible rfl;rotate_left;simp only [Act.put,Y14,Y15,Y16];rfl
 refine pure_ (i:=5) (N:=some 78) (v:=?_) (a':=?_) (sqB 32 536870975) rfl rfl (by kernel_rfl) (fun _ _ _ h=>h) (Or.inl ⟨by rfl,?_⟩) ?_ ?_;rotate_left;intro w';go_simp;with_reducible rfl;rotate_left;simp only [Act.put,Y14,Y15,Y16];rfl
 refine pure_ (i:=6) (N:=some 79) (v:=?_) (a':=?_) (sqB 32 536871039) rfl rfl (by kernel_rfl) (fun _ _ _ h=>h) (Or.inl ⟨by rfl,?_⟩) ?_ ?_;rotate_left;intro w';go_simp;with_reducible rfl;rotate_left;simp only [Act.put,Y14,Y15,Y16];rfl
 refine take_ (i:=7) (N:=some 80) (v:=?_) (a':=?_) (sqB 32 536871167) rfl rfl (by kernel_rfl) (fun _ _ _ h=>h) (Or.inl ⟨by rfl,?_⟩) hHeld ?_ ?_;rotate_left;rintro w' ⟨s0,s1,s2,s3,s4,s5,s6⟩;go_simp;with_reducible rfl;rotate_left;simp only [Act.put,Y14,Y15,Y16];rfl
 refine take_ (i:=30) (N:=some 103) (v:=?_) (a':=?_) (sqB 32 1610612991) rfl rfl (by kernel_rfl) (fun _ _ _ h=>h) (Or.inl ⟨by rfl,?_⟩) hHeld ?_ ?_;rotate_left;rintro w' ⟨s0,s1,s2,s3,s4,s5,s6⟩;go_simp;with_reducible rfl;rotate_left;simp only [Act.put,Y14,Y15,Y16];rfl
 refine one_ (i:=8) (N:=some 81) (sqB 32 1610613247) rfl rfl (by kernel_rfl) (by decide) (fun K hK=>?_)
 refine goes_ Tryz.func98 (by kernel_rfl) rfl #[.int .i64 y5] (by rfl) rfl rfl (by simp only [List.map_toArray,List.map_cons,List.map_nil];rfl) ?_
 with_reducible refine (table_number.calls y5 true _ HNUM.out).mono ?_
 rintro e1 W1 ⟨rfl,hd⟩
 refine ⟨_,rfl,?_⟩
 have HE1:=Y0 (HE0.out.drawn hd)
 have HX1:=Y0 (blk_below HX0.out hd.below)
 clear hd
 refine hK.out _ _ ⟨(HL1.out _ HE1.out.ss),(blk_cell HX1.out 4),(blk_cell HX1.out 5),(blk_cell HX1.out 3),(blk_cell HX1.out 6),(HL2.out _ HE1.out.is),((blk_cell HE1.out.bx 2).trans HB2.out)⟩ (fun hHeld=>?_)
 clear hK K
 refine norm_ (a':=?_) ?_ ?_;rotate_left;show Act.put _ (some 81) _=_;simp only [Act.put,Y14,Y15,Y16];rfl
 refine pure_ (i:=9) (N:=some 82) (v:=?_) (a':=?_) (sqB 32 1610613759) rfl rfl (by kernel_rfl) (fun _ _ _ h=>h) (Or.inl ⟨by rfl,?_⟩) ?_ ?_;rotate_left;intro w';go_simp;with_reducible rfl;rotate_left;simp only [Act.put,Y14,Y15,Y16];rfl
 refine pure_ (i:=10) (N:=some 83) (v:=?_) (a':=?_) (sqB 32 1610614783) rfl rfl (by kernel_rfl) (fun _ _ _ h=>h) (Or.inl ⟨by rfl,?_⟩) ?_ ?_;rotate_left;intro w';go_simp;with_reducible rfl;rotate_left;simp only [Act.put,Y14,Y15,Y16];rfl
 refine pure_ (i:=11) (N:=some 84) (v:=?_) (a':=?_) (sqB 32 1610616831) rfl rfl (by kernel_rfl) (fun _ _ _ h=>h) (Or.inl ⟨by rfl,?_⟩) ?_ ?_;rotate_left;intro w';go_simp;with_reducible rfl;rotate_left;simp only [Act.put,Y14,Y15,Y16];rfl
 refine pure_ (i:=12) (N:=some 85) (v:=?_) (a':=?_) (sqB 32 1610620927) rfl rfl (by kernel_rfl) (fun _ _ _ h=>h) (Or.inl ⟨by rfl,?_⟩) ?_ ?_;rotate_left;intro w';go_simp;with_reducible rfl;rotate_left;simp only [Act.put,Y14,Y15,Y16];rfl
 refine pure_ (i:=13) (N:=some 86) (v:=?_) (a':=?_) (sqB 32 1610629119) rfl rfl (by kernel_rfl) (fun _ _ _ h=>h) (Or.inl ⟨by rfl,?_⟩) ?_ ?_;rotate_left;intro w';go_simp;with_reducible rfl;rotate_left;simp only [Act.put,Y14,Y15,Y16];rfl
 refine take_ (i:=14) (N:=some 87) (v:=?_) (a':=?_) (sqB 32 1610645503) rfl rfl (by kernel_rfl) (fun _ _ _ h=>h) (Or.inl ⟨by rfl,?_⟩) hHeld ?_ ?_;rotate_left;rintro w' ⟨s0,s1,s2,s3,s4,s5,s6⟩;go_simp;with_reducible rfl;rotate_left;simp only [Act.put,Y14,Y15,Y16];rfl
 refine take_ (i:=15) (N:=some 88) (v:=?_) (a':=?_) (sqB 32 1610678271) rfl rfl (by kernel_rfl) (fun _ _ _ h=>h) (Or.inl ⟨by rfl,?_⟩) hHeld ?_ ?_;rotate_left;rintro w' ⟨s0,s1,s2,s3,s4,s5,s6⟩;go_simp;with_reducible rfl;rotate_left;simp only [Act.put,Y14,Y15,Y16];rfl
 refine pure_ (i:=16) (N:=some 89) (v:=?_) (a':=?_) (sqB 32 1610743807) rfl rfl (by kernel_rfl) (fun _ _ _ h=>h) (Or.inl ⟨by rfl,?_⟩) ?_ ?_;rotate_left;intro w';go_simp;with_reducible rfl;rotate_left;simp only [Act.put,Y14,Y15,Y16];rfl
 refine pure_ (i:=17) (N:=some 90) (v:=?_) (a':=?_) (sqB 32 1610874879) rfl rfl (by kernel_rfl) (fun _ _ _ h=>h) (Or.inl ⟨by rfl,?_⟩) ?_ ?_;rotate_left;intro w';go_simp;with_reducible rfl;rotate_left;simp only [Act.put,Y14,Y15,Y16];rfl
 refine pure_ (i:=18) (N:=some 91) (v:=undef) (a':=?_) (sqB 32 1611137023) rfl rfl (by kernel_rfl) (fun _ _ _ h=>h) (Or.inr ⟨by rfl,rfl⟩) ?_ ?_;rotate_left;simp only [Act.put,Y14,Y15,Y16];rfl
 refine pure_ (i:=19) (N:=some 92) (v:=undef) (a':=?_) (sqB 32 1611661311) rfl rfl (by kernel_rfl) (fun _ _ _ h=>h) (Or.inr ⟨by rfl,rfl⟩) ?_ ?_;rotate_left;simp only [Act.put,Y14,Y15,Y16];rfl
 refine pure_ (i:=20) (N:=some 93) (v:=undef) (a':=?_) (sqB 32 1612709887) rfl rfl (by kernel_rfl) (fun _ _ _ h=>h) (Or.inr ⟨by rfl,rfl⟩) ?_ ?_;rotate_left;simp only [Act.put,Y14,Y15,Y16];rfl
 refine pure_ (i:=21) (N:=some 94) (v:=undef) (a':=?_) (sqB 32 1614807039) rfl rfl (by kernel_rfl) (fun _ _ _ h=>h) (Or.inr ⟨by rfl,rfl⟩) ?_ ?_;rotate_left;simp only [Act.put,Y14,Y15,Y16];rfl
 refine pure_ (i:=22) (N:=some 95) (v:=undef) (a':=?_) (sqB 32 1619001343) rfl rfl (by kernel_rfl) (fun _ _ _ h=>h) (Or.inr ⟨by rfl,rfl⟩) ?_ ?_;rotate_left;simp only [Act.put,Y14,Y15,Y16];rfl
 refine pure_ (i:=23) (N:=some 96) (v:=undef) (a':=?_) (sqB 32 1627389951) rfl rfl (by kernel_rfl) (fun _ _ _ h=>h) (Or.inr ⟨by rfl,rfl⟩) ?_ ?_;rotate_left;simp only [Act.put,Y14,Y15,Y16];rfl
 refine pure_ (i:=24) (N:=some 97) (v:=undef) (a':=?_) (sqB 32 1644167167) rfl rfl (by kernel_rfl) (fun _ _ _ h=>h) (Or.inr ⟨by rfl,rfl⟩) ?_ ?_;rotate_left;simp only [Act.put,Y14,Y15,Y16];rfl
 refine pure_ (i:=25) (N:=some 98) (v:=?_) (a':=?_) (sqB 32 1677721599) rfl rfl (by kernel_rfl) (fun _ _ _ h=>h) (Or.inl ⟨by rfl,?_⟩) ?_ ?_;rotate_left;intro w';go_simp;with_reducible rfl;rotate_left;simp only [Act.put,Y14,Y15,Y16];rfl
 refine pure_ (i:=26) (N:=some 99) (v:=?_) (a':=?_) (sqB 32 1744830463) rfl rfl (by kernel_rfl) (fun _ _ _ h=>h) (Or.inl ⟨by rfl,?_⟩) ?_ ?_;rotate_left;intro w';go_simp;with_reducible rfl;rotate_left;simp only [Act.put,Y14,Y15,Y16];rfl
 refine pure_ (i:=27) (N:=some 100) (v:=undef) (a':=?_) (sqB 32 1879048191) rfl rfl (by kernel_rfl) (fun _ _ _ h=>h) (Or.inr ⟨by rfl,rfl⟩) ?_ ?_;rotate_left;simp only [Act.put,Y14,Y15,Y16];rfl
 refine pure_ (i:=28) (N:=some 101) (v:=?_) (a':=?_) (sqB 32 2147483647) rfl rfl (by kernel_rfl) (fun _ _ _ h=>h) (Or.inl ⟨by rfl,?_⟩) ?_ ?_;rotate_left;intro w';go_simp;with_reducible rfl;rotate_left;simp only [Act.put,Y14,Y15,Y16];rfl
 refine last_ (i:=31) (N:=some 104) (sqB 32 4294967295) rfl rfl (by kernel_rfl) (by decide) (fun K hK=>?_)
 refine goes_ Tryz.func56 (by kernel_rfl) rfl #[.pointer (some ⟨p,0,none⟩),.bool true,.int .i64 y6,.int .i64 4] (by rfl) rfl rfl (by simp only [List.map_toArray,List.map_cons,List.map_nil];rfl) ?_
 with_reducible refine (fail_s HE1.out.rs.blk true y6 4).mono ?_
 rintro e3 W3 ⟨rfl,hr3,hk3,-,hb3⟩
 refine ⟨_,rfl,?_⟩
 have n1_:=HE1.out.err hr3 hk3 hb3
 have n2_:=hk3.blk HX1.out (blk_ne HX1.out HE1.out.rs.blk (by decide)) (by simp)
 clear hr3 hk3 hb3
 refine hK.out _ _ ?_
 clear hK K
 refine norm_ (a':=?_) ?_ ?_;rotate_left;show Act.put _ (some 104) _=_;simp only [Act.put,Y14,Y15,Y16];rfl
 refine done_ (by kernel_rfl) ?_
 exact hK _ _ _ _ _ _ _ _ _ _ _ _ _ _ _ _ _ _ _ _ _ _ _ _ _ _ _ _ _ _ _ _ _ n1_ n2_
set_option maxHeartbeats 8000000 in
set_option maxRecDepth 1000000 in
theorem w17_4 {w0 wc:World} {D p mb n:Nat} {vA vB:Value} {f:List UInt8→Option (Int × Int)} {M:List (S57)} {E:List (S119)} {a1 e1:Int} {vM vE:Value} {h:Nat} {x0:ByteArray} {G:List (S51)} {vG:Value} {m1 m2 k1 k2:Nat} {S:List UInt8→Option Bool} {T:Int→Option Bool} {bx:Array Value} {vb:Nat} {y0 y1:ByteArray} {y2:Bool} {y3:Int} {y4:ByteArray} {y5 y6:Int} {O:List ByteArray} {AO:Option Addr} {cO:Nat} {TT:Bool} (HE:Aside0 (MI w0 D p mb n vA vB f M E a1 e1 vM vE h x0 G vG vG m1 m2 k1 k2 S T bx wc)) (HX:Aside0 (wc.heap[vb]?=some (.cells #[.string y0,.string y1,.bool y2,.int .i64 y3,.string y4,.int .i64 y5,.int .i64 y6] 36 (0,0)))) (HB2:Aside0 (bx[2]?=some (.slice AO O.length cO))) (HL1:Aside0 (∀ U:World,SSet U m1 k1 S→(Instr.lookup 169 (.map (some m1)) (.string y4) false).run Tryz.prog U = .ok (.bool false) U)) (HNUM:Aside0 (table_number.f y5=some true)) (HL2:Aside0 (∀ U:World,ISet U m2 k2 T→(Instr.lookup 170 (.map (some m2)) (.int .i64 y5) false).run Tryz.prog U = .ok (.bool false) U)) (HIN:Aside0 (table_in.f y3 0 O.length=some false)) {K0 K1 K2 K3:Act→World→Prop} {POST:Ending→World→Prop} (v1 v2 v4 v7 v8 v9 v10 v11 v14 v15 v16 v17 v18 v19 v20 v21 v22 v23 v24 v25 v26 v27 v28 v29 v30 v31 v32 v33 v34 v35 v36 v37 v38 v39 v40 v41 v42 v43 v44 v45 v46 v47 v48 v49 v50 v51 v52 v53 v54 v55 v56 v57 v58 v59 v60 v61 v62 v63 v64 v65 v66 v67 v68 v69 v70 v71 v72 v105 v106 v107 v108 v109 v110 v111 v112 v113 v114 v115 v116 v117 v118 v119 v120 v121 v122 v123 v124 v125 v126 v127 v128 v129 v130 v131 v132 v133 v134 v135 v136 v137 v138 v139 v140 v141 v142 v143 v144 v145 v146 v147 v148 v149 v150 v151 v152 v153 v154 v155 v156 v157 v158 v159 v160 v161 v162 v163 v164 v165 v166 v167 v168 v169 v170 v171 v172 v173 v174 v175 v176 v177 v178 v179 v73 v74 v75 v76 v77 v78 v79 v80 v81 v82 v83 v84 v85 v86 v87 v88 v89 v90 v91 v92 v93 v94 v95 v96 v97 v98 v99 v100 v101 v102 v103 v104:Value)
  (hK:∀ (u73 u74 u75 u76 u77 u78 u79 u80 u81 u82 u83 u84 u85 u86 u87 u88 u89 u90 u91 u92 u93 u94 u95 u96 u97 u98 u99 u100 u101 u102 u103 u104:Value) (W':World),MI w0 D p mb n vA vB f M E (failE a1 e1 true y6 4).1 (failE a1 e1 true y6 4).2 vM vE h x0 G vG vG m1 m2 k1 k2 S T bx W'→W'.heap[vb]?=some (.cells #[.string y0,.string y1,.bool y2,.int .i64 y3,.string y4,.int .i64 y5,.int .i64 y6] 36 (0,0))→K0 ⟨#[.pointer (some ⟨p,0,none⟩),v1,v2,.pointer (some ⟨D,0,none⟩),v4,.map (some m1),.map (some m2),v7,v8,v9,v10,v11,.pointer (some ⟨vb,0,none⟩),.bool TT,v14,v15,v16,v17,v18,v19,v20,v21,v22,v23,v24,v25,v26,v27,v28,v29,v30,v31,v32,v33,v34,v35,v36,v37,v38,v39,v40,v41,v42,v43,v44,v45,v46,v47,v48,v49,v50,v51,v52,v53,v54,v55,v56,v57,v58,v59,v60,v61,v62,v63,v64,v65,v66,v67,v68,v69,v70,v71,v72,u73,u74,u75,u76,u77,u78,u79,u80,u81,u82,u83,u84,u85,u86,u87,u88,u89,u90,u91,u92,u93,u94,u95,u96,u97,u98,u99,u100,u101,u102,u103,u104,v105,v106,v107,v108,v109,v110,v111,v112,v113,v114,v115,v116,v117,v118,v119,v120,v121,v122,v123,v124,v125,v126,v127,v128,v129,v130,v131,v132,v133,v134,v135,v136,v137,v138,v139,v140,v141,v142,v143,v144,v145,v146,v147,v148,v149,v150,v151,v152,v153,v154,v155,v156,v157,v158,v159,v160,v161,v162,v163,v164,v165,v166,v167,v168,v169,v170,v171,v172,v173,v174,v175,v176,v177,v178,v179],[]⟩ W') :
  Code.wp Tryz.prog code17 (Exit.then K0 (Exit.inBlock 5 (Exit.then K1 (Exit.then K2 (Exit.inBlock 4 (Exit.then K3 (bodyPost Tryz.prog Tryz.f57 POST))))))) ⟨#[.pointer (some ⟨p,0,none⟩),v1,v2,.pointer (some ⟨D,0,none⟩),v4,.map (some m1),.map (some m2),v7,v8,v9,v10,v11,.pointer (some ⟨vb,0,none⟩),.bool TT,v14,v15,v16,v17,v18,v19,v20,v21,v22,v23,v24,v25,v26,v27,v28,v29,v30,v31,v32,v33,v34,v35,v36,v37,v38,v39,v40,v41,v42,v43,v44,v45,v46,v47,v48,v49,v50,v51,v52,v53,v54,v55,v56,v57,v58,v59,v60,v61,v62,v63,v64,v65,v66,v67,v68,v69,v70,v71,v72,v73,v74,v75,v76,v77,v78,v79,v80,v81,v82,v83,v84,v85,v86,v87,v88,v89,v90,v91,v92,v93,v94,v95,v96,v97,v98,v99,v100,v101,v102,v103,v104,v105,v106,v107,v108,v109,v110,v111,v112,v113,v114,v115,v116,v117,v118,v119,v120,v121,v122,v123,v124,v125,v126,v127,v128,v129,v130,v131,v132,v133,v134,v135,v136,v137,v138,v139,v140,v141,v142,v143,v144,v145,v146,v147,v148,v149,v150,v151,v152,v153,v154,v155,v156,v157,v158,v159,v160,v161,v162,v163,v164,v165,v166,v167,v168,v169,v170,v171,v172,v173,v174,v175,v176,v177,v178,v179],[]⟩ wc:=by
 conv=>arg 2;whnf
 have HE0:=Y0 HE.out.drew
 have HX0:=Y0 (blk_drew HX.out)
 refine start_ (n:=32) (S:=fun w'=>(Instr.lookup 169 (.map (some m1)) (.string y4) false).run Tryz.prog w' = .ok (.bool false) w'∧w'.cell? ⟨vb,4,none⟩=some (.string y4)∧w'.cell? ⟨vb,5,none⟩=some (.int .i64 y5)∧w'.cell? ⟨vb,3,none⟩=some (.int .i64 y3)∧w'.cell? ⟨vb,6,none⟩=some (.int .i64 y6)∧(Instr.lookup 170 (.map (some m2)) (.int .i64 y5) false).run Tryz.prog w' = .ok (.bool false) w'∧w'.cell? ⟨D,2,none⟩=some (.slice AO O.length cO)) (ds:=[31]) #[false,false,false,false,false,false,false,false,false,false,false,false,false,false,false,false,false,false,false,false,false,false,false,false,false,false,false,false,false,false,false,false] (by kernel_rfl) rfl rfl ⟨(HL1.out _ HE0.out.ss),(blk_cell HX0.out 4),(blk_cell HX0.out 5),(blk_cell HX0.out 3),(blk_cell HX0.out 6),(HL2.out _ HE0.out.is),((blk_cell HE0.out.bx 2).trans HB2.out)⟩ (fun hHeld=>?_)
 refine pure_ (i:=0) (N:=some 73) (v:=?_) (a':=?_) (sqB 32 1) rfl rfl (by kernel_rfl) (fun _ _ _ h=>h) (Or.inl ⟨by rfl,?_⟩) ?_ ?_;rotate_left;intro w';go_simp;with_reducible rfl;rotate_left;simp only [Act.put,Y14,Y15,Y16];rfl
 refine pure_ (i:=1) (N:=some 74) (v:=?_) (a':=?_) (sqB 32 3) rfl rfl (by kernel_rfl) (fun _ _ _ h=>h) (Or.inl ⟨by rfl,?_⟩) ?_ ?_;rotate_left;intro w';go_simp;with_reducible rfl;rotate_left;simp only [Act.put,Y14,Y15,Y16];rfl
 refine pure_ (i:=2) (N:=some 75) (v:=?_) (a':=?_) (sqB 32 7) rfl rfl (by kernel_rfl) (fun _ _ _ h=>h) (Or.inl ⟨by rfl,?_⟩) ?_ ?_;rotate_left;intro w';go_simp;with_reducible rfl;rotate_left;simp only [Act.put,Y14,Y15,Y16];rfl
 refine pure_ (i:=29) (N:=some 102) (v:=?_) (a':=?_) (sqB 32 536870919) rfl rfl (by kernel_rfl) (fun _ _ _ h=>h) (Or.inl ⟨by rfl,?_⟩) ?_ ?_;rotate_left;intro w';go_simp;with_reducible rfl;rotate_left;simp only [Act.put,Y14,Y15,Y16];rfl
 refine take_ (i:=3) (N:=some 76) (v:=?_) (a':=?_) (sqB 32 536870927) rfl rfl (by kernel_rfl) (fun _ _ _ h=>h) (Or.inl ⟨by rfl,?_⟩) hHeld ?_ ?_;rotate_left;rintro w' ⟨s0,s1,s2,s3,s4,s5,s6⟩;go_simp;with_reducible rfl;rotate_left;simp only [Act.put,Y14,Y15,Y16];rfl
 refine take_ (i:=4) (N:=some 77) (v:=?_) (a':=?_) (sqB 32 536870943) rfl rfl (by kernel_rfl) (fun _ _ _ h=>h) (Or.inl ⟨by rfl,?_⟩) hHeld ?_ ?_;rotate_left;rintro w' ⟨s0,s1,s2,s3,s4,s5,s6⟩;go_simp;with_reducible rfl;rotate_left;simp only [Act.put,Y14,Y15,Y16];rfl
 refine pure_ (i:=5) (N:=some 78) (v:=?_) (a':=?_) (sqB 32 536870975) rfl rfl (by kernel_rfl) (fun _ _ _ h=>h) (Or.inl ⟨by rfl,?_⟩) ?_ ?_;rotate_left;intro w';go_simp;with_reducible rfl;rotate_left;simp only [Act.put,Y14,Y15,Y16];rfl
 refine pure_ (i:=6) (N:=some 79) (v:=?_) (a':=?_) (sqB 32 536871039) rfl rfl (by kernel_rfl) (fun _ _ _ h=>h) (Or.inl ⟨by rfl,?_⟩) ?_ ?_;rotate_left;intro w';go_simp;with_reducible rfl;rotate_left;simp only [Act.put,Y14,Y15,Y16];rfl
 refine take_ (i:=7) (N:=some 80) (v:=?_) (a':=?_) (sqB 32 536871167) rfl rfl (by kernel_rfl) (fun _ _ _ h=>h) (Or.inl ⟨by rfl,?_⟩) hHeld ?_ ?_;rotate_left;rintro w' ⟨s0,s1,s2,s3,s4,s5,s6⟩;go_simp;with_reducible rfl;rotate_left;simp only [Act.put,Y14,Y15,Y16];rfl
 refine take_ (i:=30) (N:=some 103) (v:=?_) (a':=?_) (sqB 32 1610612991) rfl rfl (by kernel_rfl) (fun _ _ _ h=>h) (Or.inl ⟨by rfl,?_⟩) hHeld ?_ ?_;rotate_left;rintro w' ⟨s0,s1,s2,s3,s4,s5,s6⟩;go_simp;with_reducible rfl;rotate_left;simp only [Act.put,Y14,Y15,Y16];rfl
 refine one_ (i:=8) (N:=some 81) (sqB 32 1610613247) rfl rfl (by kernel_rfl) (by decide) (fun K hK=>?_)
 refine goes_ Tryz.func98 (by kernel_rfl) rfl #[.int .i64 y5] (by rfl) rfl rfl (by simp only [List.map_toArray,List.map_cons,List.map_nil];rfl) ?_
 with_reducible refine (table_number.calls y5 true _ HNUM.out).mono ?_
 rintro e1 W1 ⟨rfl,hd⟩
 refine ⟨_,rfl,?_⟩
 have HE1:=Y0 (HE0.out.drawn hd)
 have HX1:=Y0 (blk_below HX0.out hd.below)
 clear hd
 refine hK.out _ _ ⟨(HL1.out _ HE1.out.ss),(blk_cell HX1.out 4),(blk_cell HX1.out 5),(blk_cell HX1.out 3),(blk_cell HX1.out 6),(HL2.out _ HE1.out.is),((blk_cell HE1.out.bx 2).trans HB2.out)⟩ (fun hHeld=>?_)
 clear hK K
 refine norm_ (a':=?_) ?_ ?_;rotate_left;show Act.put _ (some 81) _=_;simp only [Act.put,Y14,Y15,Y16];rfl
 refine pure_ (i:=9) (N:=some 82) (v:=?_) (a':=?_) (sqB 32 1610613759) rfl rfl (by kernel_rfl) (fun _ _ _ h=>h) (Or.inl ⟨by rfl,?_⟩) ?_ ?_;rotate_left;intro w';go_simp;with_reducible rfl;rotate_left;simp only [Act.put,Y14,Y15,Y16];rfl
 refine pure_ (i:=10) (N:=some 83) (v:=?_) (a':=?_) (sqB 32 1610614783) rfl rfl (by kernel_rfl) (fun _ _ _ h=>h) (Or.inl ⟨by rfl,?_⟩) ?_ ?_;rotate_left;intro w';go_simp;with_reducible rfl;rotate_left;simp only [Act.put,Y14,Y15,Y16];rfl
 refine pure_ (i:=11) (N:=some 84) (v:=?_) (a':=?_) (sqB 32 1610616831) rfl rfl (by kernel_rfl) (fun _ _ _ h=>h) (Or.inl ⟨by rfl,?_⟩) ?_ ?_;rotate_left;intro w';go_simp;with_reducible rfl;rotate_left;simp only [Act.put,Y14,Y15,Y16];rfl
 refine pure_ (i:=12) (N:=some 85) (v:=?_) (a':=?_) (sqB 32 1610620927) rfl rfl (by kernel_rfl) (fun _ _ _ h=>h) (Or.inl ⟨by rfl,?_⟩) ?_ ?_;rotate_left;intro w';go_simp;with_reducible rfl;rotate_left;simp only [Act.put,Y14,Y15,Y16];rfl
 refine pure_ (i:=13) (N:=some 86) (v:=?_) (a':=?_) (sqB 32 1610629119) rfl rfl (by kernel_rfl) (fun _ _ _ h=>h) (Or.inl ⟨by rfl,?_⟩) ?_ ?_;rotate_left;intro w';go_simp;with_reducible rfl;rotate_left;simp only [Act.put,Y14,Y15,Y16];rfl
 refine take_ (i:=14) (N:=some 87) (v:=?_) (a':=?_) (sqB 32 1610645503) rfl rfl (by kernel_rfl) (fun _ _ _ h=>h) (Or.inl ⟨by rfl,?_⟩) hHeld ?_ ?_;rotate_left;rintro w' ⟨s0,s1,s2,s3,s4,s5,s6⟩;go_simp;with_reducible rfl;rotate_left;simp only [Act.put,Y14,Y15,Y16];rfl
 refine take_ (i:=15) (N:=some 88) (v:=?_) (a':=?_) (sqB 32 1610678271) rfl rfl (by kernel_rfl) (fun _ _ _ h=>h) (Or.inl ⟨by rfl,?_⟩) hHeld ?_ ?_;rotate_left;rintro w' ⟨s0,s1,s2,s3,s4,s5,s6⟩;go_simp;with_reducible rfl;rotate_left;simp only [Act.put,Y14,Y15,Y16];rfl
 refine pure_ (i:=16) (N:=some 89) (v:=?_) (a':=?_) (sqB 32 1610743807) rfl rfl (by kernel_rfl) (fun _ _ _ h=>h) (Or.inl ⟨by rfl,?_⟩) ?_ ?_;rotate_left;intro w';go_simp;with_reducible rfl;rotate_left;simp only [Act.put,Y14,Y15,Y16];rfl
 refine pure_ (i:=17) (N:=some 90) (v:=?_) (a':=?_) (sqB 32 1610874879) rfl rfl (by kernel_rfl) (fun _ _ _ h=>h) (Or.inl ⟨by rfl,?_⟩) ?_ ?_;rotate_left;intro w';go_simp;with_reducible rfl;rotate_left;simp only [Act.put,Y14,Y15,Y16];rfl
 refine pure_ (i:=18) (N:=some 91) (v:=?_) (a':=?_) (sqB 32 1611137023) rfl rfl (by kernel_rfl) (fun _ _ _ h=>h) (Or.inl ⟨by rfl,?_⟩) ?_ ?_;rotate_left;intro w';go_simp;with_reducible rfl;rotate_left;simp only [Act.put,Y14,Y15,Y16];rfl
 refine pure_ (i:=20) (N:=some 93) (v:=?_) (a':=?_) (sqB 32 1612185599) rfl rfl (by kernel_rfl) (fun _ _ _ h=>h) (Or.inl ⟨by rfl,?_⟩) ?_ ?_;rotate_left;intro w';go_simp;with_reducible rfl;rotate_left;simp only [Act.put,Y14,Y15,Y16];rfl
 refine take_ (i:=19) (N:=some 92) (v:=?_) (a':=?_) (sqB 32 1612709887) rfl rfl (by kernel_rfl) (fun _ _ _ h=>h) (Or.inl ⟨by rfl,?_⟩) hHeld ?_ ?_;rotate_left;rintro w' ⟨s0,s1,s2,s3,s4,s5,s6⟩;go_simp;with_reducible rfl;rotate_left;simp only [Act.put,Y14,Y15,Y16];rfl
 refine take_ (i:=21) (N:=some 94) (v:=?_) (a':=?_) (sqB 32 1614807039) rfl rfl (by kernel_rfl) (fun _ _ _ h=>h) (Or.inl ⟨by rfl,?_⟩) hHeld ?_ ?_;rotate_left;rintro w' ⟨s0,s1,s2,s3,s4,s5,s6⟩;go_simp;with_reducible rfl;rotate_left;simp only [Act.put,Y14,Y15,Y16];rfl
 refine pure_ (i:=22) (N:=some 95) (v:=?_) (a':=?_) (sqB 32 1619001343) rfl rfl (by kernel_rfl) (fun _ _ _ h=>h) (Or.inl ⟨by rfl,?_⟩) ?_ ?_;rotate_left;intro w';go_simp;with_reducible rfl;rotate_left;simp only [Act.put,Y14,Y15,Y16];rfl
 refine one_ (i:=23) (N:=some 96) (sqB 32 1627389951) rfl rfl (by kernel_rfl) (by decide) (fun K hK=>?_)
 refine goes_ Tryz.func60 (by kernel_rfl) rfl #[.int .i64 y3,.int .i64 0,.int .i64 O.length] (by rfl) rfl rfl (by simp only [List.map_toArray,List.map_cons,List.map_nil];rfl) ?_
 with_reducible refine (table_in.calls y3 0 O.length false _ HIN.out).mono ?_
 rintro e2 W2 ⟨rfl,hd⟩
 refine ⟨_,rfl,?_⟩
 have HE2:=Y0 (HE1.out.drawn hd)
 have HX2:=Y0 (blk_below HX1.out hd.below)
 clear hd
 refine hK.out _ _ ⟨(HL1.out _ HE2.out.ss),(blk_cell HX2.out 4),(blk_cell HX2.out 5),(blk_cell HX2.out 3),(blk_cell HX2.out 6),(HL2.out _ HE2.out.is),((blk_cell HE2.out.bx 2).trans HB2.out)⟩ (fun hHeld=>?_)
 clear hK K
 refine norm_ (a':=?_) ?_ ?_;rotate_left;show Act.put _ (some 96) _=_;simp only [Act.put,Y14,Y15,Y16];rfl
 refine pure_ (i:=24) (N:=some 97) (v:=?_) (a':=?_) (sqB 32 1644167167) rfl rfl (by kernel_rfl) (fun _ _ _ h=>h) (Or.inl ⟨by rfl,?_⟩) ?_ ?_;rotate_left;intro w';go_simp;with_reducible rfl;rotate_left;simp only [Act.put,Y14,Y15,Y16];rfl
 refine pure_ (i:=25) (N:=some 98) (v:=?_) (a':=?_) (sqB 32 1677721599) rfl rfl (by kernel_rfl) (fun _ _ _ h=>h) (Or.inl ⟨by rfl,?_⟩) ?_ ?_;rotate_left;intro w';go_simp;with_reducible rfl;rotate_left;simp only [Act.put,Y14,Y15,Y16];rfl
 refine pure_ (i:=26) (N:=some 99) (v:=?_) (a':=?_) (sqB 32 1744830463) rfl rfl (by kernel_rfl) (fun _ _ _ h=>h) (Or.inl ⟨by rfl,?_⟩) ?_ ?_;rotate_left;intro w';go_simp;with_reducible rfl;rotate_left;simp only [Act.put,Y14,Y15,Y16];rfl
 refine pure_ (i:=27) (N:=some 100) (v:=undef) (a':=?_) (sqB 32 1879048191) rfl rfl (by kernel_rfl) (fun _ _ _ h=>h) (Or.inr ⟨by rfl,rfl⟩) ?_ ?_;rotate_left;simp only [Act.put,Y14,Y15,Y16];rfl
 refine pure_ (i:=28) (N:=some 101) (v:=?_) (a':=?_) (sqB 32 2147483647) rfl rfl (by kernel_rfl) (fun _ _ _ h=>h) (Or.inl ⟨by rfl,?_⟩) ?_ ?_;rotate_left;intro w';go_simp;with_reducible rfl;rotate_left;simp only [Act.put,Y14,Y15,Y16];rfl
 refine last_ (i:=31) (N:=some 104) (sqB 32 4294967295) rfl rfl (by kernel_rfl) (by decide) (fun K hK=>?_)
 refine goes_ Tryz.func56 (by kernel_rfl) rfl #[.pointer (some ⟨p,0,none⟩),.bool true,.int .i64 y6,.int .i64 4] (by rfl) rfl rfl (by simp only [List.map_toArray,List.map_cons,List.map_nil];rfl) ?_
 with_reducible refine (fail_s HE2.out.rs.blk true y6 4).mono ?_
 rintro e3 W3 ⟨rfl,hr3,hk3,-,hb3⟩
 refine ⟨_,rfl,?_⟩
 have n1_:=HE2.out.err hr3 hk3 hb3
 have n2_:=hk3.blk HX2.out (blk_ne HX2.out HE2.out.rs.blk (by decide)) (by simp)
 clear hr3 hk3 hb3
 refine hK.out _ _ ?_
 clear hK K
 refine norm_ (a':=?_) ?_ ?_;rotate_left;show Act.put _ (some 104) _=_;simp only [Act.put,Y14,Y15,Y16];rfl
 refine done_ (by kernel_rfl) ?_
 exact hK _ _ _ _ _ _ _ _ _ _ _ _ _ _ _ _ _ _ _ _ _ _ _ _ _ _ _ _ _ _ _ _ _ n1_ n2_
set_option maxHeartbeats 8000000 in
set_option maxRecDepth 1000000 in
theorem w17_5 {w0 wc:World} {D p mb n:Nat} {vA vB:Value} {f:List UInt8→Option (Int × Int)} {M:List (S57)} {E:List (S119)} {a1 e1:Int} {vM vE:Value} {h:Nat} {x0:ByteArray} {G:List (S51)} {vG:Value} {m1 m2 k1 k2:Nat} {S:List UInt8→Option Bool} {T:Int→Option Bool} {bx:Array Value} {vb:Nat} {y0 y1:ByteArray} {y2:Bool} {y3:Int} {y4:ByteArray} {y5 y6:Int} {O:List ByteArray} {AO:Option Addr} {cO:Nat} {TT:Bool} (HE:Aside0 (MI w0 D p mb n vA vB f M E a1 e1 vM vE h x0 G vG vG m1 m2 k1 k2 S T bx wc)) (HX:Aside0 (wc.heap[vb]?=some (.cells #[.string y0,.string y1,.bool y2,.int .i64 y3,.string y4,.int .i64 y5,.int .i64 y6] 36 (0,0)))) (HB2:Aside0 (bx[2]?=some (.slice AO O.length cO))) (HL1:Aside0 (∀ U:World,SSet U m1 k1 S→(Instr.lookup 169 (.map (some m1)) (.string y4) false).run Tryz.prog U = .ok (.bool false) U)) (HNUM:Aside0 (table_number.f y5=some true)) (HL2:Aside0 (∀ U:World,ISet U m2 k2 T→(Instr.lookup 170 (.map (some m2)) (.int .i64 y5) false).run Tryz.prog U = .ok (.bool false) U)) (HIN:Aside0 (table_in.f y3 0 O.length=some true)) {K0 K1 K2 K3:Act→World→Prop} {POST:Ending→World→Prop} (v1 v2 v4 v7 v8 v9 v10 v11 v14 v15 v16 v17 v18 v19 v20 v21 v22 v23 v24 v25 v26 v27 v28 v29 v30 v31 v32 v33 v34 v35 v36 v37 v38 v39 v40 v41 v42 v43 v44 v45 v46 v47 v48 v49 v50 v51 v52 v53 v54 v55 v56 v57 v58 v59 v60 v61 v62 v63 v64 v65 v66 v67 v68 v69 v70 v71 v72 v105 v106 v107 v108 v109 v110 v111 v112 v113 v114 v115 v116 v117 v118 v119 v120 v121 v122 v123 v124 v125 v126 v127 v128 v129 v130 v131 v132 v133 v134 v135 v136 v137 v138 v139 v140 v141 v142 v143 v144 v145 v146 v147 v148 v149 v150 v151 v152 v153 v154 v155 v156 v157 v158 v159 v160 v161 v162 v163 v164 v165 v166 v167 v168 v169 v170 v171 v172 v173 v174 v175 v176 v177 v178 v179 v73 v74 v75 v76 v77 v78 v79 v80 v81 v82 v83 v84 v85 v86 v87 v88 v89 v90 v91 v92 v93 v94 v95 v96 v97 v98 v99 v100 v101 v102 v103 v104:Value)
  (hK:∀ (u73 u74 u75 u76 u77 u78 u79 u80 u81 u82 u83 u84 u85 u86 u87 u88 u89 u90 u91 u92 u93 u94 u95 u96 u97 u98 u99 u100 u101 u102 u103 u104:Value) (W':World),MI w0 D p mb n vA vB f M E (failE a1 e1 TT y6 4).1 (failE a1 e1 TT y6 4).2 vM vE h x0 G vG vG m1 m2 k1 k2 S T bx W'→W'.heap[vb]?=some (.cells #[.string y0,.string y1,.bool y2,.int .i64 y3,.string y4,.int .i64 y5,.int .i64 y6] 36 (0,0))→K0 ⟨#[.pointer (some ⟨p,0,none⟩),v1,v2,.pointer (some ⟨D,0,none⟩),v4,.map (some m1),.map (some m2),v7,v8,v9,v10,v11,.pointer (some ⟨vb,0,none⟩),.bool TT,v14,v15,v16,v17,v18,v19,v20,v21,v22,v23,v24,v25,v26,v27,v28,v29,v30,v31,v32,v33,v34,v35,v36,v37,v38,v39,v40,v41,v42,v43,v44,v45,v46,v47,v48,v49,v50,v51,v52,v53,v54,v55,v56,v57,v58,v59,v60,v61,v62,v63,v64,v65,v66,v67,v68,v69,v70,v71,v72,u73,u74,u75,u76,u77,u78,u79,u80,u81,u82,u83,u84,u85,u86,u87,u88,u89,u90,u91,u92,u93,u94,u95,u96,u97,u98,u99,u100,u101,u102,u103,u104,v105,v106,v107,v108,v109,v110,v111,v112,v113,v114,v115,v116,v117,v118,v119,v120,v121,v122,v123,v124,v125,v126,v127,v128,v129,v130,v131,v132,v133,v134,v135,v136,v137,v138,v139,v140,v141,v142,v143,v144,v145,v146,v147,v148,v149,v150,v151,v152,v153,v154,v155,v156,v157,v158,v159,v160,v161,v162,v163,v164,v165,v166,v167,v168,v169,v170,v171,v172,v173,v174,v175,v176,v177,v178,v179],[]⟩ W') :
  Code.wp Tryz.prog code17 (Exit.then K0 (Exit.inBlock 5 (Exit.then K1 (Exit.then K2 (Exit.inBlock 4 (Exit.then K3 (bodyPost Tryz.prog Tryz.f57 POST))))))) ⟨#[.pointer (some ⟨p,0,none⟩),v1,v2,.pointer (some ⟨D,0,none⟩),v4,.map (some m1),.map (some m2),v7,v8,v9,v10,v11,.pointer (some ⟨vb,0,none⟩),.bool TT,v14,v15,v16,v17,v18,v19,v20,v21,v22,v23,v24,v25,v26,v27,v28,v29,v30,v31,v32,v33,v34,v35,v36,v37,v38,v39,v40,v41,v42,v43,v44,v45,v46,v47,v48,v49,v50,v51,v52,v53,v54,v55,v56,v57,v58,v59,v60,v61,v62,v63,v64,v65,v66,v67,v68,v69,v70,v71,v72,v73,v74,v75,v76,v77,v78,v79,v80,v81,v82,v83,v84,v85,v86,v87,v88,v89,v90,v91,v92,v93,v94,v95,v96,v97,v98,v99,v100,v101,v102,v103,v104,v105,v106,v107,v108,v109,v110,v111,v112,v113,v114,v115,v116,v117,v118,v119,v120,v121,v122,v123,v124,v125,v126,v127,v128,v129,v130,v131,v132,v133,v134,v135,v136,v137,v138,v139,v140,v141,v142,v143,v144,v145,v146,v147,v148,v149,v150,v151,v152,v153,v154,v155,v156,v157,v158,v159,v160,v161,v162,v163,v164,v165,v166,v167,v168,v169,v170,v171,v172,v173,v174,v175,v176,v177,v178,v179],[]⟩ wc:=by
 conv=>arg 2;whnf
 have HE0:=Y0 HE.out.drew
 have HX0:=Y0 (blk_drew HX.out)
 refine start_ (n:=32) (S:=fun w'=>(Instr.lookup 169 (.map (some m1)) (.string y4) false).run Tryz.prog w' = .ok (.bool false) w'∧w'.cell? ⟨vb,4,none⟩=some (.string y4)∧w'.cell? ⟨vb,5,none⟩=some (.int .i64 y5)∧w'.cell? ⟨vb,3,none⟩=some (.int .i64 y3)∧w'.cell? ⟨vb,6,none⟩=some (.int .i64 y6)∧(Instr.lookup 170 (.map (some m2)) (.int .i64 y5) false).run Tryz.prog w' = .ok (.bool false) w'∧w'.cell? ⟨D,2,none⟩=some (.slice AO O.length cO)) (ds:=[31]) #[false,false,false,false,false,false,false,false,false,false,false,false,false,false,false,false,false,false,false,false,false,false,false,false,false,false,false,false,false,false,false,false] (by kernel_rfl) rfl rfl ⟨(HL1.out _ HE0.out.ss),(blk_cell HX0.out 4),(blk_cell HX0.out 5),(blk_cell HX0.out 3),(blk_cell HX0.out 6),(HL2.out _ HE0.out.is),((blk_cell HE0.out.bx 2).trans HB2.out)⟩ (fun hHeld=>?_)
 refine pure_ (i:=0) (N:=some 73) (v:=?_) (a':=?_) (sqB 32 1) rfl rfl (by kernel_rfl) (fun _ _ _ h=>h) (Or.inl ⟨by rfl,?_⟩) ?_ ?_;rotate_left;intro w';go_simp;with_reducible rfl;rotate_left;simp only [Act.put,Y14,Y15,Y16];rfl
 refine pure_ (i:=1) (N:=some 74) (v:=?_) (a':=?_) (sqB 32 3) rfl rfl (by kernel_rfl) (fun _ _ _ h=>h) (Or.inl ⟨by rfl,?_⟩) ?_ ?_;rotate_left;intro w';go_simp;with_reducible rfl;rotate_left;simp only [Act.put,Y14,Y15,Y16];rfl
 refine pure_ (i:=2) (N:=some 75) (v:=?_) (a':=?_) (sqB 32 7) rfl rfl (by kernel_rfl) (fun _ _ _ h=>h) (Or.inl ⟨by rfl,?_⟩) ?_ ?_;rotate_left;intro w';go_simp;with_reducible rfl;rotate_left;simp only [Act.put,Y14,Y15,Y16];rfl
 refine pure_ (i:=29) (N:=some 102) (v:=?_) (a':=?_) (sqB 32 536870919) rfl rfl (by kernel_rfl) (fun _ _ _ h=>h) (Or.inl ⟨by rfl,?_⟩) ?_ ?_;rotate_left;intro w';go_simp;with_reducible rfl;rotate_left;simp only [Act.put,Y14,Y15,Y16];rfl
 refine take_ (i:=3) (N:=some 76) (v:=?_) (a':=?_) (sqB 32 536870927) rfl rfl (by kernel_rfl) (fun _ _ _ h=>h) (Or.inl ⟨by rfl,?_⟩) hHeld ?_ ?_;rotate_left;rintro w' ⟨s0,s1,s2,s3,s4,s5,s6⟩;go_simp;with_reducible rfl;rotate_left;simp only [Act.put,Y14,Y15,Y16];rfl
 refine take_ (i:=4) (N:=some 77) (v:=?_) (a':=?_) (sqB 32 536870943) rfl rfl (by kernel_rfl) (fun _ _ _ h=>h) (Or.inl ⟨by rfl,?_⟩) hHeld ?_ ?_;rotate_left;rintro w' ⟨s0,s1,s2,s3,s4,s5,s6⟩;go_simp;with_reducible rfl;rotate_left;simp only [Act.put,Y14,Y15,Y16];rfl
 refine pure_ (i:=5) (N:=some 78) (v:=?_) (a':=?_) (sqB 32 536870975) rfl rfl (by kernel_rfl) (fun _ _ _ h=>h) (Or.inl ⟨by rfl,?_⟩) ?_ ?_;rotate_left;intro w';go_simp;with_reducible rfl;rotate_left;simp only [Act.put,Y14,Y15,Y16];rfl
 refine pure_ (i:=6) (N:=some 79) (v:=?_) (a':=?_) (sqB 32 536871039) rfl rfl (by kernel_rfl) (fun _ _ _ h=>h) (Or.inl ⟨by rfl,?_⟩) ?_ ?_;rotate_left;intro w';go_simp;with_reducible rfl;rotate_left;simp only [Act.put,Y14,Y15,Y16];rfl
 refine take_ (i:=7) (N:=some 80) (v:=?_) (a':=?_) (sqB 32 536871167) rfl rfl (by kernel_rfl) (fun _ _ _ h=>h) (Or.inl ⟨by rfl,?_⟩) hHeld ?_ ?_;rotate_left;rintro w' ⟨s0,s1,s2,s3,s4,s5,s6⟩;go_simp;with_reducible rfl;rotate_left;simp only [Act.put,Y14,Y15,Y16];rfl
 refine take_ (i:=30) (N:=some 103) (v:=?_) (a':=?_) (sqB 32 1610612991) rfl rfl (by kernel_rfl) (fun _ _ _ h=>h) (Or.inl ⟨by rfl,?_⟩) hHeld ?_ ?_;rotate_left;rintro w' ⟨s0,s1,s2,s3,s4,s5,s6⟩;go_simp;with_reducible rfl;rotate_left;simp only [Act.put,Y14,Y15,Y16];rfl
 refine one_ (i:=8) (N:=some 81) (sqB 32 1610613247) rfl rfl (by kernel_rfl) (by decide) (fun K hK=>?_)
 refine goes_ Tryz.func98 (by kernel_rfl) rfl #[.int .i64 y5] (by rfl) rfl rfl (by simp only [List.map_toArray,List.map_cons,List.map_nil];rfl) ?_
 with_reducible refine (table_number.calls y5 true _ HNUM.out).mono ?_
 rintro e1 W1 ⟨rfl,hd⟩
 refine ⟨_,rfl,?_⟩
 have HE1:=Y0 (HE0.out.drawn hd)
 have HX1:=Y0 (blk_below HX0.out hd.below)
 clear hd
 refine hK.out _ _ ⟨(HL1.out _ HE1.out.ss),(blk_cell HX1.out 4),(blk_cell HX1.out 5),(blk_cell HX1.out 3),(blk_cell HX1.out 6),(HL2.out _ HE1.out.is),((blk_cell HE1.out.bx 2).trans HB2.out)⟩ (fun hHeld=>?_)
 clear hK K
 refine norm_ (a':=?_) ?_ ?_;rotate_left;show Act.put _ (some 81) _=_;simp only [Act.put,Y14,Y15,Y16];rfl
 refine pure_ (i:=9) (N:=some 82) (v:=?_) (a':=?_) (sqB 32 1610613759) rfl rfl (by kernel_rfl) (fun _ _ _ h=>h) (Or.inl ⟨by rfl,?_⟩) ?_ ?_;rotate_left;intro w';go_simp;with_reducible rfl;rotate_left;simp only [Act.put,Y14,Y15,Y16];rfl
 refine pure_ (i:=10) (N:=some 83) (v:=?_) (a':=?_) (sqB 32 1610614783) rfl rfl (by kernel_rfl) (fun _ _ _ h=>h) (Or.inl ⟨by rfl,?_⟩) ?_ ?_;rotate_left;intro w';go_simp;with_reducible rfl;rotate_left;simp only [Act.put,Y14,Y15,Y16];rfl
 refine pure_ (i:=11) (N:=some 84) (v:=?_) (a':=?_) (sqB 32 1610616831) rfl rfl (by kernel_rfl) (fun _ _ _ h=>h) (Or.inl ⟨by rfl,?_⟩) ?_ ?_;rotate_left;intro w';go_simp;with_reducible rfl;rotate_left;simp only [Act.put,Y14,Y15,Y16];rfl
 refine pure_ (i:=12) (N:=some 85) (v:=?_) (a':=?_) (sqB 32 1610620927) rfl rfl (by kernel_rfl) (fun _ _ _ h=>h) (Or.inl ⟨by rfl,?_⟩) ?_ ?_;rotate_left;intro w';go_simp;with_reducible rfl;rotate_left;simp only [Act.put,Y14,Y15,Y16];rfl
 refine pure_ (i:=13) (N:=some 86) (v:=?_) (a':=?_) (sqB 32 1610629119) rfl rfl (by kernel_rfl) (fun _ _ _ h=>h) (Or.inl ⟨by rfl,?_⟩) ?_ ?_;rotate_left;intro w';go_simp;with_reducible rfl;rotate_left;simp only [Act.put,Y14,Y15,Y16];rfl
 refine take_ (i:=14) (N:=some 87) (v:=?_) (a':=?_) (sqB 32 1610645503) rfl rfl (by kernel_rfl) (fun _ _ _ h=>h) (Or.inl ⟨by rfl,?_⟩) hHeld ?_ ?_;rotate_left;rintro w' ⟨s0,s1,s2,s3,s4,s5,s6⟩;go_simp;with_reducible rfl;rotate_left;simp only [Act.put,Y14,Y15,Y16];rfl
 refine take_ (i:=15) (N:=some 88) (v:=?_) (a':=?_) (sqB 32 1610678271) rfl rfl (by kernel_rfl) (fun _ _ _ h=>h) (Or.inl ⟨by rfl,?_⟩) hHeld ?_ ?_;rotate_left;rintro w' ⟨s0,s1,s2,s3,s4,s5,s6⟩;go_simp;with_reducible rfl;rotate_left;simp only [Act.put,Y14,Y15,Y16];rfl
 refine pure_ (i:=16) (N:=some 89) (v:=?_) (a':=?_) (sqB 32 1610743807) rfl rfl (by kernel_rfl) (fun _ _ _ h=>h) (Or.inl ⟨by rfl,?_⟩) ?_ ?_;rotate_left;intro w';go_simp;with_reducible rfl;rotate_left;simp only [Act.put,Y14,Y15,Y16];rfl
 refine pure_ (i:=17) (N:=some 90) (v:=?_) (a':=?_) (sqB 32 1610874879) rfl rfl (by kernel_rfl) (fun _ _ _ h=>h) (Or.inl ⟨by rfl,?_⟩) ?_ ?_;rotate_left;intro w';go_simp;with_reducible rfl;rotate_left;simp only [Act.put,Y14,Y15,Y16];rfl
 refine pure_ (i:=18) (N:=some 91) (v:=?_) (a':=?_) (sqB 32 1611137023) rfl rfl (by kernel_rfl) (fun _ _ _ h=>h) (Or.inl ⟨by rfl,?_⟩) ?_ ?_;rotate_left;intro w';go_simp;with_reducible rfl;rotate_left;simp only [Act.put,Y14,Y15,Y16];rfl
 refine pure_ (i:=20) (N:=some 93) (v:=?_) (a':=?_) (sqB 32 1612185599) rfl rfl (by kernel_rfl) (fun _ _ _ h=>h) (Or.inl ⟨by rfl,?_⟩) ?_ ?_;rotate_left;intro w';go_simp;with_reducible rfl;rotate_left;simp only [Act.put,Y14,Y15,Y16];rfl
 refine take_ (i:=19) (N:=some 92) (v:=?_) (a':=?_) (sqB 32 1612709887) rfl rfl (by kernel_rfl) (fun _ _ _ h=>h) (Or.inl ⟨by rfl,?_⟩) hHeld ?_ ?_;rotate_left;rintro w' ⟨s0,s1,s2,s3,s4,s5,s6⟩;go_simp;with_reducible rfl;rotate_left;simp only [Act.put,Y14,Y15,Y16];rfl
 refine take_ (i:=21) (N:=some 94) (v:=?_) (a':=?_) (sqB 32 1614807039) rfl rfl (by kernel_rfl) (fun _ _ _ h=>h) (Or.inl ⟨by rfl,?_⟩) hHeld ?_ ?_;rotate_left;rintro w' ⟨s0,s1,s2,s3,s4,s5,s6⟩;go_simp;with_reducible rfl;rotate_left;simp only [Act.put,Y14,Y15,Y16];rfl
 refine pure_ (i:=22) (N:=some 95) (v:=?_) (a':=?_) (sqB 32 1619001343) rfl rfl (by kernel_rfl) (fun _ _ _ h=>h) (Or.inl ⟨by rfl,?_⟩) ?_ ?_;rotate_left;intro w';go_simp;with_reducible rfl;rotate_left;simp only [Act.put,Y14,Y15,Y16];rfl
 refine one_ (i:=23) (N:=some 96) (sqB 32 1627389951) rfl rfl (by kernel_rfl) (by decide) (fun K hK=>?_)
 refine goes_ Tryz.func60 (by kernel_rfl) rfl #[.int .i64 y3,.int .i64 0,.int .i64 O.length] (by rfl) rfl rfl (by simp only [List.map_toArray,List.map_cons,List.map_nil];rfl) ?_
 with_reducible refine (table_in.calls y3 0 O.length true _ HIN.out).mono ?_
 rintro e2 W2 ⟨rfl,hd⟩
 refine ⟨_,rfl,?_⟩
 have HE2:=Y0 (HE1.out.drawn hd)
 have HX2:=Y0 (blk_below HX1.out hd.below)
 clear hd
 refine hK.out _ _ ⟨(HL1.out _ HE2.out.ss),(blk_cell HX2.out 4),(blk_cell HX2.out 5),(blk_cell HX2.out 3),(blk_cell HX2.out 6),(HL2.out _ HE2.out.is),((blk_cell HE2.out.bx 2).trans HB2.out)⟩ (fun hHeld=>?_)
 clear hK K
 refine norm_ (a':=?_) ?_ ?_;rotate_left;show Act.put _ (some 96) _=_;simp only [Act.put,Y14,Y15,Y16];rfl
 refine pure_ (i:=24) (N:=some 97) (v:=?_) (a':=?_) (sqB 32 1644167167) rfl rfl (by kernel_rfl) (fun _ _ _ h=>h) (Or.inl ⟨by rfl,?_⟩) ?_ ?_;rotate_left;intro w';go_simp;with_reducible rfl;rotate_left;simp only [Act.put,Y14,Y15,Y16];rfl
 refine pure_ (i:=25) (N:=some 98) (v:=?_) (a':=?_) (sqB 32 1677721599) rfl rfl (by kernel_rfl) (fun _ _ _ h=>h) (Or.inl ⟨by rfl,?_⟩) ?_ ?_;rotate_left;intro w';go_simp;with_reducible rfl;rotate_left;simp only [Act.put,Y14,Y15,Y16];rfl
 refine pure_ (i:=26) (N:=some 99) (v:=?_) (a':=?_) (sqB 32 1744830463) rfl rfl (by kernel_rfl) (fun _ _ _ h=>h) (Or.inl ⟨by rfl,?_⟩) ?_ ?_;rotate_left;intro w';go_simp;with_reducible rfl;rotate_left;simp only [Act.put,Y14,Y15,Y16];rfl
 refine pure_ (i:=27) (N:=some 100) (v:=?_) (a':=?_) (sqB 32 1879048191) rfl rfl (by kernel_rfl) (fun _ _ _ h=>h) (Or.inl ⟨by rfl,?_⟩) ?_ ?_;rotate_left;intro w';go_simp;with_reducible rfl;rotate_left;simp only [Act.put,Y14,Y15,Y16];rfl
 refine pure_ (i:=28) (N:=some 101) (v:=?_) (a':=?_) (sqB 32 2147483647) rfl rfl (by kernel_rfl) (fun _ _ _ h=>h) (Or.inl ⟨by rfl,?_⟩) ?_ ?_;rotate_left;intro w';go_simp;with_reducible rfl;rotate_left;simp only [Act.put,Y14,Y15,Y16];rfl
 refine last_ (i:=31) (N:=some 104) (sqB 32 4294967295) rfl rfl (by kernel_rfl) (by decide) (fun K hK=>?_)
 refine goes_ Tryz.func56 (by kernel_rfl) rfl #[.pointer (some ⟨p,0,none⟩),.bool TT,.int .i64 y6,.int .i64 4] (by rfl) rfl rfl (by simp only [List.map_toArray,List.map_cons,List.map_nil];rfl) ?_
 with_reducible refine (fail_s HE2.out.rs.blk TT y6 4).mono ?_
 rintro e3 W3 ⟨rfl,hr3,hk3,-,hb3⟩
 refine ⟨_,rfl,?_⟩
 have n1_:=HE2.out.err hr3 hk3 hb3
 have n2_:=hk3.blk HX2.out (blk_ne HX2.out HE2.out.rs.blk (by decide)) (by simp)
 clear hr3 hk3 hb3
 refine hK.out _ _ ?_
 clear hK K
 refine norm_ (a':=?_) ?_ ?_;rotate_left;show Act.put _ (some 104) _=_;simp only [Act.put,Y14,Y15,Y16];rfl
 refine done_ (by kernel_rfl) ?_
 exact hK _ _ _ _ _ _ _ _ _ _ _ _ _ _ _ _ _ _ _ _ _ _ _ _ _ _ _ _ _ _ _ _ _ n1_ n2_
def RMsgP (w0:World) (p mb n:Nat) (vA vB:Value) (f:List UInt8→Option (Int × Int)) (M:List (S57)) (E:List (S119)) (r:Int × Int) (vE:Value) (en:Ending) (W':World):Prop :=
 en = .returned (.tuple #[])∧(∃ vM',RS w0.heap.size (fun _=>True) W' p mb n vA vB f M E r.1 r.2 vM' vE)∧Below w0.heap.size w0 W'
theorem info_MD:(Tryz.prog.info? 57).map (fun i=>(i.zero,i.size,i.bytes))=some (some (.agg #[(.string ⟨#[]⟩),(.slice none 0 0)]),2,40):=by kernel_rfl
theorem info_FD:(Tryz.prog.info? 51).map (fun i=>(i.zero,i.size,i.bytes))=some (some (.agg #[(.int .i64 0),(.string ⟨#[]⟩),(.int .i64 0),(.int .i64 0),(.bool false),(.int .i64 0),(.int .i64 0)]),7,64):=by kernel_rfl
theorem ones_snoc (l:List ByteArray) (x:ByteArray):onesS (l++[x])=setS (onesS l) (bl x):=by unfold onesS;rw [List.foldl_append];rfl
theorem res_snoc (l:List Int) (x:Int):resN (l++[x])=setN (resN l) x:=by unfold resN;rw [List.foldl_append];rfl
set_option maxHeartbeats 8000000 in
set_option maxRecDepth 100000 in
theorem rmsg_s {w0 W:World} {p mb n:Nat} {vA vB vM vE:Value} {f:List UInt8→Option (Int × Int)} {M:List (S57)} {E:List (S119)} {a e:Int} (H:RS w0.heap.size (fun _=>True) W p mb n vA vB f M E a e vM vE) (hw:Below w0.heap.size w0 W) (x0:ByteArray) (F:List (S36)) (O:List ByteArray) (Q:List Int) (x4:Int) (AF AO AQ:Option Addr) (cF cO cQ:Nat) (hCF:k36.C w0 AF F.length F) (hCO:Kd.string.C w0 AO O.length O) (hCQ:(Kd.int .i64).C w0 AQ Q.length Q) (hcF:F.length≤cF) (hcO:O.length≤cO) (hcQ:Q.length≤cQ) (hM:M.length≤1000000) (hn:F.length≤1000000000000∧O.length≤1000000000000∧Q.length≤1000000000000) (hzF:∀ y ∈ F,y.f0.size≤maxLen∧y.f1.size≤maxLen∧y.f4.size≤maxLen∧(Lit.int .i64 y.f5).wf=true) (hzO:∀ y ∈ O,y.size≤maxLen) (hzQ:∀ y ∈ Q,(Lit.int .i64 y).wf=true) :
  Calls Tryz.prog 57 #[.pointer (some ⟨p,0,none⟩),.agg #[.string x0,.slice AF F.length cF,.slice AO O.length cO,.slice AQ Q.length cQ,.int .i64 x4]] W (RMsgP w0 p mb n vA vB f (M++[msDef f ⟨x0,F,O,Q,x4⟩]) E (msE f ⟨x0,F,O,Q,x4⟩ a e) vE):=by
 obtain ⟨R,hR⟩:∃ R,fdL f O.length F (onesS O) (resN Q) a e=R:=⟨_,rfl⟩
 have hE0:msE f ⟨x0,F,O,Q,x4⟩ a e=R:=hR
 rw [hE0]
 obtain ⟨GG,hGG⟩:∃ GG,fdSort (F.map (fdDef f))=GG:=⟨_,rfl⟩
 have hM0:msDef f ⟨x0,F,O,Q,x4⟩=⟨x0,GG⟩:=by rw [← hGG];rfl
 rw [hM0]
 have HRR:=Y0 hR
 have HGG:=Y0 hGG
 have HQ:=Y0 H
 have HW:=Y0 hw
 have HCF:=Y0 hCF
 have HCO:=Y0 hCO
 have HCQ:=Y0 hCQ
 have HZF:=Y0 hzF
 have HZO:=Y0 hzO
 have HZQ:=Y0 hzQ
 have HML:=Y0 hM
 have HLL:=Y0 hn
 have hmF:=Kd.C_max hCF
 have hmO:=Kd.C_max hCO
 have hmQ:=Kd.C_max hCQ
 clear H hw hCF hCO hCQ hzF hzO hzQ hM hn hE0 hR hM0 hGG
 have hmm:=@run_makeMap Tryz.prog
 go_enter Tryz.func57,Tryz.ntmps57
 go_wp2_with fail
 clear hmm
 have HE0:=Y0 (MI.start HQ.out HW.out #[.string x0,.slice AF F.length cF,.slice AO O.length cO,.slice AQ Q.length cQ,.int .i64 x4] x0)
 generalize (((W.alloc (.cells #[.string x0,.slice AF F.length cF,.slice AO O.length cO,.slice AQ Q.length cQ,.int .i64 x4] 34 (0,0))).alloc (.cells #[.string x0,.slice none 0 0] 57 (0,0))).alloc (.map #[] 0)).alloc (.map #[] 0)=W4 at *
 obtain ⟨h,hh⟩:∃ h,W.heap.size + 1=h:=⟨_,rfl⟩
 obtain ⟨m1,hm1⟩:∃ m,W.heap.size + 2=m:=⟨_,rfl⟩
 obtain ⟨m2,hm2⟩:∃ m,W.heap.size + 3=m:=⟨_,rfl⟩
 obtain ⟨D,hD⟩:∃ D,W.heap.size=D:=⟨_,rfl⟩
 rw [hh,hm1,hm2,hD] at HE0
 try rw [show W.heap.size + 1 + 1=m1 from hm1]
 try rw [show W.heap.size + 1 + 1 + 1=m2 from hm2]
 try rw [hm1]
 try rw [show m1 + 1=m2 from by omega]
 try rw [hm2]
 rw [hh]
 try rw [hD]
 clear hh hm1 hm2 hD HQ
 obtain ⟨bx,hbx⟩:∃ bx:Array Value,bx=#[.string x0,.slice AF F.length cF,.slice AO O.length cO,.slice AQ Q.length cQ,.int .i64 x4]:=⟨_,rfl⟩
 rw [← hbx] at HE0
 have HB1:Aside0 (bx[1]?=some (.slice AF F.length cF)):=⟨by rw [hbx];rfl⟩
 have HB2:Aside0 (bx[2]?=some (.slice AO O.length cO)):=⟨by rw [hbx];rfl⟩
 have HB3_:Aside0 (bx[3]?=some (.slice AQ Q.length cQ)):=⟨by rw [hbx];rfl⟩
 clear hbx
 go_loopg [28] O.length (fun n_ vi_ V=>∃ i:Nat,vi_ = .int .i64 i∧Aside0 (i + n_=O.length)∧Aside0 (MI w0 D p mb n vA vB f M E a e vM vE h x0 [] (.slice none 0 0) (.slice none 0 0) m1 m2 i 0 (onesS (O.take i)) (fun _=>none) bx V))
 case atStart=>exact ⟨0,rfl,⟨by omega⟩,HE0⟩
 case round =>
  clear HE0
  obtain ⟨i,rfl,HL,HE⟩:=hrel
  by_cases hlt:i < O.length
  ·have d3:(0:Int)≤(i:Int):=by omega
   have d4:(i:Int) < (O.length:Int):=by omega
   obtain ⟨x,hx⟩:∃ x,x=O[i]'hlt:=⟨_,rfl⟩
   obtain ⟨ad,had,z0⟩:=Kd.at_string HCO.out i d3 d4
   have hrd:rdOf ByteArray.empty O i=x:=by unfold rdOf;rw [hx,List.getD_eq_getElem?_getD];simp [hlt]
   rw [hrd] at z0
   subst had
   rw [Int.toNat_natCast] at z0
   have hxz:=HZO.out x (by rw [hx];exact List.getElem_mem hlt)
   have htake:O.take (i + 1)=O.take i++[x]:=by rw [hx];exact (List.take_succ_eq_append_getElem hlt)
   clear hrd hx
   replace z0:=(HE.out.bw.cell (World.block_lt_of_cell? w0 _ z0)).trans z0
   obtain ⟨W1,hr1,hs1,hg1⟩:=SSet.put HE.out.ss (by have:=HLL.out;unfold maxLen;omega) (s:=x) hxz true
   have HE1:=HE.out.putS (x:=bl x) hs1 hg1
   rw [← ones_snoc,← htake] at HE1
   have HE2:=Y0 HE1
   clear HE1 hs1 hg1 HE hxz htake
   cases gk with
   | zero=>have:=HL.out;omega
   | succ k1 =>
    go_wp2
    go_roundg k1
    case measure=>omega
    case rel=>exact ⟨i + 1,by go_num,⟨by have:=HL.out;omega⟩,HE2⟩
  ·have hil:i=O.length:=by have:=HL.out;omega
   subst hil
   rw [List.take_length] at HE
   have q3:_=some (Value.slice AQ Q.length cQ):=(blk_cell HE.out.bx 3).trans HB3_.out
   go_wp2_with fail
   clear q3
   go_loopg [38] Q.length (fun n_ vi_ V=>∃ i:Nat,vi_ = .int .i64 i∧Aside0 (i + n_=Q.length)∧Aside0 (MI w0 D p mb n vA vB f M E a e vM vE h x0 [] (.slice none 0 0) (.slice none 0 0) m1 m2 O.length i (onesS O) (resN (Q.take i)) bx V))
   case atStart=>exact ⟨0,rfl,⟨by omega⟩,HE⟩
   case round =>
    clear HE HL
    obtain ⟨i,rfl,HL,HE⟩:=hrel
    by_cases hlt:i < Q.length
    ·have d3:(0:Int)≤(i:Int):=by omega
     have d4:(i:Int) < (Q.length:Int):=by omega
     obtain ⟨x,hx⟩:∃ x,x=Q[i]'hlt:=⟨_,rfl⟩
     obtain ⟨ad,had,z0⟩:=Kd.at_int HCQ.out i d3 d4
     have hrd:rd Q i=x:=by unfold rd;rw [hx,List.getD_eq_getElem?_getD];simp [hlt]
     rw [hrd] at z0
     subst had
     rw [Int.toNat_natCast] at z0
     have hxz:=HZQ.out x (by rw [hx];exact List.getElem_mem hlt)
     have htake:Q.take (i + 1)=Q.take i++[x]:=by rw [hx];exact (List.take_succ_eq_append_getElem hlt)
     clear hrd hx
     replace z0:=(HE.out.bw.cell (World.block_lt_of_cell? w0 _ z0)).trans z0
     obtain ⟨W1,hr1,hs1,hg1⟩:=ISet.put HE.out.is (by have:=HLL.out;unfold maxLen;omega) (q:=x) hxz true
     have HE1:=HE.out.putN (x:=x) hs1 hg1
     rw [← res_snoc,← htake] at HE1
     have HE2:=Y0 HE1
     clear HE1 hs1 hg1 HE hxz htake
     cases gk with
     | zero=>have:=HL.out;omega
     | succ k1 =>
      go_wp2
      go_roundg k1
      case measure=>omega
      case rel=>exact ⟨i + 1,by go_num,⟨by have:=HL.out;omega⟩,HE2⟩
    ·have hil:i=Q.length:=by have:=HL.out;omega
     subst hil
     rw [List.take_length] at HE
     have q1:_=some (Value.slice AF F.length cF):=(blk_cell HE.out.bx 1).trans HB1.out
     go_wp2_with fail
     clear q1
     go_loopg [48] F.length (fun n_ vi_ V=>∃ (i:Nat) (a1 e1:Int) (S:List UInt8→Option Bool) (T:Int→Option Bool) (vG:Value),vi_ = .int .i64 i∧Aside0 (i + n_=F.length)∧Aside0 (MI w0 D p mb n vA vB f M E a1 e1 vM vE h x0 ((F.take i).map (fdDef f)) vG vG m1 m2 (O.length + i) (Q.length + i) S T bx V)∧Aside0 (fdL f O.length (F.drop i) S T a1 e1=R))
     case atStart=>exact ⟨0,a,e,_,_,_,rfl,⟨by omega⟩,HE,HRR⟩
     case round =>
      clear HE HL HRR
      obtain ⟨i,a1,e1,S,T,vG,rfl,HL,HE,HR⟩:=hrel
      by_cases hlt:i < F.length
      ·have d3:(0:Int)≤(i:Int):=by omega
       have d4:(i:Int) < (F.length:Int):=by omega
       obtain ⟨ad,had,z0,z1,z2,z3,z4,z5,z6⟩:=at_T36 HCF.out i d3 d4
       obtain ⟨x,hx⟩:∃ x,x=F[i]'hlt:=⟨_,rfl⟩
       have hrd:rd_T36 F i=x:=by unfold rd_T36;rw [hx,List.getD_eq_getElem?_getD];simp [hlt]
       rw [hrd] at z0 z1 z2 z3 z4 z5 z6
       rw [Int.toNat_natCast] at z0 z1 z2 z3 z4 z5 z6
       replace z0:=(HE.out.bw.cell (World.block_lt_of_cell? w0 _ z0)).trans z0
       replace z1:=(HE.out.bw.cell (World.block_lt_of_cell? w0 _ z1)).trans z1
       replace z2:=(HE.out.bw.cell (World.block_lt_of_cell? w0 _ z2)).trans z2
       replace z3:=(HE.out.bw.cell (World.block_lt_of_cell? w0 _ z3)).trans z3
       replace z4:=(HE.out.bw.cell (World.block_lt_of_cell? w0 _ z4)).trans z4
       replace z5:=(HE.out.bw.cell (World.block_lt_of_cell? w0 _ z5)).trans z5
       replace z6:=(HE.out.bw.cell (World.block_lt_of_cell? w0 _ z6)).trans z6
       clear hrd
       subst had
       have hmem:x ∈ F:=by rw [hx];exact List.getElem_mem hlt
       have htake:F.take (i + 1)=F.take i++[x]:=by rw [hx];exact (List.take_succ_eq_append_getElem hlt)
       have hdrop:F.drop i=x :: F.drop (i + 1):=by rw [hx];exact drop_cons hlt
       clear hx
       obtain ⟨y0,y1,y2,y3,y4,y5,y6⟩:=x
       have HY:Aside0 (y0.size≤maxLen∧y1.size≤maxLen∧y4.size≤maxLen∧(Lit.int .i64 y5).wf=true):=⟨HZF.out _ hmem⟩
       obtain ⟨X,hX⟩:∃ X:S36,X=⟨y0,y1,y2,y3,y4,y5,y6⟩:=⟨_,rfl⟩
       have HX_:=Y0 hX
       have hr2:=HR.out
       rw [hdrop,fdL,← hX] at hr2
       obtain ⟨BB,hBB⟩:∃ BB,BB=fdBad O.length X S T:=⟨_,rfl⟩
       obtain ⟨r1,hr1⟩:∃ r1,r1=failE a1 e1 BB y6 4:=⟨_,rfl⟩
       obtain ⟨r2,hr2_⟩:∃ r2,r2=fdE2 X r1:=⟨_,rfl⟩
       obtain ⟨r3,hr3_⟩:∃ r3,r3=fdE3 f X r2:=⟨_,rfl⟩
       have hr4:fdE f O.length X S T a1 e1=r3:=by rw [hr3_,hr2_,hr1,hBB];unfold fdE fdE1;rw [hX]
       rw [hr4] at hr2
       obtain ⟨S2,hS2⟩:∃ S2,setS S (bl y4)=S2:=⟨_,rfl⟩
       obtain ⟨T2,hT2⟩:∃ T2,setN T y5=T2:=⟨_,rfl⟩
       have hr5:fdL f O.length (F.drop (i + 1)) S2 T2 r3.1 r3.2=R:=by rw [← hS2,← hT2,← hr2,hX]
       have HR2:=Y0 hr5
       have HS2:=Y0 hS2
       have HT2:=Y0 hT2
       have HR1:=Y0 hr1
       have HRB:=Y0 hr2_
       have HRC:=Y0 hr3_
       have HTK:Aside0 ((F.take (i + 1)).map (fdDef f)=(F.take i).map (fdDef f)++[fdDef f X]):=⟨by rw [htake,List.map_append,hX];rfl⟩
       have HLG:Aside0 (((F.take i).map (fdDef f)).length=i):=⟨by simp;omega⟩
       generalize (F.take i).map (fdDef f)=G at *
       replace HLG:Aside0 ((G.length + 1) * 64≤140737488355328):=⟨by rw [HLG.out];have:=HLL.out;omega⟩
       have HI1:Aside0 (O.length + i < maxLen):=⟨by have:=HLL.out;unfold maxLen;omega⟩
       have HI2:Aside0 (Q.length + i < maxLen):=⟨by have:=HLL.out;unfold maxLen;omega⟩
       have hl1:=fun (U:World) (hU:SSet U m1 (O.length + i) S)=>SSet.look hU (s:=y4) HY.out.2.2.1
       have hl2:=fun (U:World) (hU:ISet U m2 (Q.length + i) T)=>ISet.look hU (q:=y5) HY.out.2.2.2
       obtain ⟨TT,hTT⟩:∃ b,fdTwo X=b:=⟨_,rfl⟩
       obtain ⟨bk,hbk⟩:∃ b,(y1.toList != [])=b:=⟨_,rfl⟩
       have hbk2:(!y1.toList.isEmpty)=bk:=by rw [← hbk];cases y1.toList <;> rfl
       obtain ⟨b3,hb3⟩:∃ b,(y3 != 0)=b:=⟨_,rfl⟩
       have HTT:Aside0 (TT=((y2 && bk) || (b3 && (y2 || bk)))):=⟨by rw [← hTT,← hbk,← hb3,hX];rfl⟩
       have HKK:Aside0 (hasK X=bk):=⟨by rw [hX];exact hbk⟩
       obtain ⟨b1,hb1⟩:∃ b,(S (bl y4)).getD false=b:=⟨_,rfl⟩
       obtain ⟨b2,hb2⟩:∃ b,(T y5).getD false=b:=⟨_,rfl⟩
       obtain ⟨bn,hbn⟩:∃ b,tmNum y5=b:=⟨_,rfl⟩
       obtain ⟨bi,hbi⟩:∃ b,decide ((0:Int)≤y3∧y3≤(O.length:Int))=b:=⟨_,rfl⟩
       have HNUM:Aside0 (table_number.f y5=some bn):=⟨by rw [tm_num,hbn]⟩
       have HIN:Aside0 (table_in.f y3 0 O.length=some bi):=⟨by rw [tm_in,hbi]⟩
       have HBB:Aside0 (BB=(b1 || (!bn || (b2 || (!bi || TT))))):=⟨by rw [hBB,← hb1,← hb2,← hbn,← hbi,← hTT,hX];rfl⟩
       rw [hb1] at hl1
       rw [hb2] at hl2
       have HL1:=Y0 hl1
       have HL2:=Y0 hl2
       have HBK:=Y0 hbk
       have HBK2:=Y0 hbk2
       have HB3:=Y0 hb3
       clear hBB hr2 hr1 hr2_ hr3_ hr4 hr5 hS2 hT2 hdrop htake hmem hl1 hl2 hb1 hb2 hbn hbi hb3 hbk hbk2 hTT HR hX
       cases gk with
       | zero=>have:=HL.out;omega
       | succ k1 =>
        go_upto_region 16 with (fail)
        have HX:=Y0 (blk_new wr (.cells #[.string y0,.string y1,.bool y2,.int .i64 y3,.string y4,.int .i64 y5,.int .i64 y6] 36 (0,0)))
        have HEb:=Y0 (HE.out.alloc (.cells #[.string y0,.string y1,.bool y2,.int .i64 y3,.string y4,.int .i64 y5,.int .i64 y6] 36 (0,0)))
        clear HE z0 z1 z2 z3 z4 z5 z6
        have HE:=HEb
        clear HEb
        generalize wr.alloc (.cells #[.string y0,.string y1,.bool y2,.int .i64 y3,.string y4,.int .i64 y5,.int .i64 y6] 36 (0,0))=V0 at *
        obtain ⟨vb,hvb⟩:∃ vb,wr.heap.size=vb:=⟨_,rfl⟩
        rw [hvb] at HX ⊢
        clear hvb
        go_cut [13] (fun v13 U=>v13 = .bool TT∧U=V0)
        case first =>
         have z1:_=some (Value.string y1):=(blk_cell HX.out 1).trans rfl
         have z2:_=some (Value.bool y2):=(blk_cell HX.out 2).trans rfl
         have z3:_=some (Value.int .i64 y3):=(blk_cell HX.out 3).trans rfl
         have hbk:=HBK.out
         have hbk2:=HBK2.out
         have hb3:=HB3.out
         clear HE HX HR2 HR1 HRB HRC HTK HL1 HL2 HBB HKK HX_ HNUM HIN HBK HBK2 HB3
         cases y2 <;> cases bk <;> cases b3 <;> (have hT:=HTT.out;clear HTT;go_wp2_with fail;go_meet;exact ⟨by rw [hT];rfl,rfl⟩)
        case rest =>
         obtain ⟨rfl,rfl⟩:=hcut
         go_upto_region 17 with (fail)
         go_cut [] (fun U=>Aside0 (MI w0 D p mb n vA vB f M E (r1).1 (r1).2 vM vE h x0 G vG vG m1 m2 (O.length + i) (Q.length + i) S T bx U)∧Aside0 (U.heap[vb]?=some (.cells #[.string y0,.string y1,.bool y2,.int .i64 y3,.string y4,.int .i64 y5,.int .i64 y6] 36 (0,0))))
         case first =>
          clear HTT HR2 HRB HRC HTK HKK HX_ HBK HBK2 HB3 HL HLG HI1 HI2
          cases b1
          ·cases bn
           ·skip
            have hB:BB=true:=HBB.out
            subst hB
            refine w17_2 HE HX HB2 HL1 HNUM _ _ _ _ _ _ _ _ _ _ _ _ _ _ _ _ _ _ _ _ _ _ _ _ _ _ _ _ _ _ _ _ _ _ _ _ _ _ _ _ _ _ _ _ _ _ _ _ _ _ _ _ _ _ _ _ _ _ _ _ _ _ _ _ _ _ _ _ _ _ _ _ _ _ _ _ _ _ _ _ _ _ _ _ _ _ _ _ _ _ _ _ _ _ _ _ _ _ _ _ _ _ _ _ _ _ _ _ _ _ _ _ _ _ _ _ _ _ _ _ _ _ _ _ _ _ _ _ _ _ _ _ _ _ _ _ _ _ _ _ _ _ _ _ _ _ _ _ _ _ _ _ _ _ _ _ _ _ _ _ _ _ _ _ _ _ _ _ _ _ _ _ _ _ ?_
            intro u73 u74 u75 u76 u77 u78 u79 u80 u81 u82 u83 u84 u85 u86 u87 u88 u89 u90 u91 u92 u93 u94 u95 u96 u97 u98 u99 u100 u101 u102 u103 u104 W3 n1_ n2_
            have k1_:=Y0 n1_
            have k2_:=Y0 n2_
            clear n1_ n2_
            dsimp only
            go_wp2_with fail
            go_meet
            exact ⟨⟨by rw [HR1.out];exact k1_.out⟩,k2_⟩
           ·cases b2
            ·cases bi
             ·skip
              have hB:BB=true:=HBB.out
              subst hB
              refine w17_4 HE HX HB2 HL1 HNUM HL2 HIN _ _ _ _ _ _ _ _ _ _ _ _ _ _ _ _ _ _ _ _ _ _ _ _ _ _ _ _ _ _ _ _ _ _ _ _ _ _ _ _ _ _ _ _ _ _ _ _ _ _ _ _ _ _ _ _ _ _ _ _ _ _ _ _ _ _ _ _ _ _ _ _ _ _ _ _ _ _ _ _ _ _ _ _ _ _ _ _ _ _ _ _ _ _ _ _ _ _ _ _ _ _ _ _ _ _ _ _ _ _ _ _ _ _ _ _ _ _ _ _ _ _ _ _ _ _ _ _ _ _ _ _ _ _ _ _ _ _ _ _ _ _ _ _ _ _ _ _ _ _ _ _ _ _ _ _ _ _ _ _ _ _ _ _ _ _ _ _ _ _ _ _ _ _ ?_
              intro u73 u74 u75 u76 u77 u78 u79 u80 u81 u82 u83 u84 u85 u86 u87 u88 u89 u90 u91 u92 u93 u94 u95 u96 u97 u98 u99 u100 u101 u102 u103 u104 W3 n1_ n2_
              have k1_:=Y0 n1_
              have k2_:=Y0 n2_
              clear n1_ n2_
              dsimp only
              go_wp2_with fail
              go_meet
              exact ⟨⟨by rw [HR1.out];exact k1_.out⟩,k2_⟩
             ·skip
              have hB:BB=TT:=HBB.out
              subst hB
              refine w17_5 HE HX HB2 HL1 HNUM HL2 HIN _ _ _ _ _ _ _ _ _ _ _ _ _ _ _ _ _ _ _ _ _ _ _ _ _ _ _ _ _ _ _ _ _ _ _ _ _ _ _ _ _ _ _ _ _ _ _ _ _ _ _ _ _ _ _ _ _ _ _ _ _ _ _ _ _ _ _ _ _ _ _ _ _ _ _ _ _ _ _ _ _ _ _ _ _ _ _ _ _ _ _ _ _ _ _ _ _ _ _ _ _ _ _ _ _ _ _ _ _ _ _ _ _ _ _ _ _ _ _ _ _ _ _ _ _ _ _ _ _ _ _ _ _ _ _ _ _ _ _ _ _ _ _ _ _ _ _ _ _ _ _ _ _ _ _ _ _ _ _ _ _ _ _ _ _ _ _ _ _ _ _ _ _ _ ?_
              intro u73 u74 u75 u76 u77 u78 u79 u80 u81 u82 u83 u84 u85 u86 u87 u88 u89 u90 u91 u92 u93 u94 u95 u96 u97 u98 u99 u100 u101 u102 u103 u104 W3 n1_ n2_
              have k1_:=Y0 n1_
              have k2_:=Y0 n2_
              clear n1_ n2_
              dsimp only
              go_wp2_with fail
              go_meet
              exact ⟨⟨by rw [HR1.out];exact k1_.out⟩,k2_⟩
            ·skip
             have hB:BB=true:=HBB.out
             subst hB
             refine w17_3 HE HX HB2 HL1 HNUM HL2 _ _ _ _ _ _ _ _ _ _ _ _ _ _ _ _ _ _ _ _ _ _ _ _ _ _ _ _ _ _ _ _ _ _ _ _ _ _ _ _ _ _ _ _ _ _ _ _ _ _ _ _ _ _ _ _ _ _ _ _ _ _ _ _ _ _ _ _ _ _ _ _ _ _ _ _ _ _ _ _ _ _ _ _ _ _ _ _ _ _ _ _ _ _ _ _ _ _ _ _ _ _ _ _ _ _ _ _ _ _ _ _ _ _ _ _ _ _ _ _ _ _ _ _ _ _ _ _ _ _ _ _ _ _ _ _ _ _ _ _ _ _ _ _ _ _ _ _ _ _ _ _ _ _ _ _ _ _ _ _ _ _ _ _ _ _ _ _ _ _ _ _ _ _ ?_
             intro u73 u74 u75 u76 u77 u78 u79 u80 u81 u82 u83 u84 u85 u86 u87 u88 u89 u90 u91 u92 u93 u94 u95 u96 u97 u98 u99 u100 u101 u102 u103 u104 W3 n1_ n2_
             have k1_:=Y0 n1_
             have k2_:=Y0 n2_
             clear n1_ n2_
             dsimp only
             go_wp2_with fail
             go_meet
             exact ⟨⟨by rw [HR1.out];exact k1_.out⟩,k2_⟩
          ·skip
           have hB:BB=true:=HBB.out
           subst hB
           refine w17_1 HE HX HB2 HL1 _ _ _ _ _ _ _ _ _ _ _ _ _ _ _ _ _ _ _ _ _ _ _ _ _ _ _ _ _ _ _ _ _ _ _ _ _ _ _ _ _ _ _ _ _ _ _ _ _ _ _ _ _ _ _ _ _ _ _ _ _ _ _ _ _ _ _ _ _ _ _ _ _ _ _ _ _ _ _ _ _ _ _ _ _ _ _ _ _ _ _ _ _ _ _ _ _ _ _ _ _ _ _ _ _ _ _ _ _ _ _ _ _ _ _ _ _ _ _ _ _ _ _ _ _ _ _ _ _ _ _ _ _ _ _ _ _ _ _ _ _ _ _ _ _ _ _ _ _ _ _ _ _ _ _ _ _ _ _ _ _ _ _ _ _ _ _ _ _ _ _ _ _ _ ?_
           intro u73 u74 u75 u76 u77 u78 u79 u80 u81 u82 u83 u84 u85 u86 u87 u88 u89 u90 u91 u92 u93 u94 u95 u96 u97 u98 u99 u100 u101 u102 u103 u104 W3 n1_ n2_
           have k1_:=Y0 n1_
           have k2_:=Y0 n2_
           clear n1_ n2_
           dsimp only
           go_wp2_with fail
           go_meet
           exact ⟨⟨by rw [HR1.out];exact k1_.out⟩,k2_⟩
         case rest =>
          clear HE HX HTT HBB HNUM HIN HL1 HL2 HR1
          obtain ⟨HE,HX⟩:=hcut
          obtain ⟨W1,hr1,hs1,hg1⟩:=SSet.put (W:=wc.drew) HE.out.drew.ss HI1.out (s:=y4) HY.out.2.2.1 true
          have HE1:=Y0 (HE.out.drew.putS (x:=bl y4) hs1 hg1)
          have HX1:=Y0 (blk_put_map (blk_drew HX.out) HE.out.drew.ss hg1)
          obtain ⟨W2,hr2,hs2,hg2⟩:=ISet.put HE1.out.is HI2.out HY.out.2.2.2 true
          have HE2:=Y0 (HE1.out.putN (x:=y5) hs2 hg2)
          have HX2:=Y0 (blk_put_map HX1.out HE1.out.is hg2)
          have z4:_=some (Value.string y4):=(blk_cell HX.out 4).trans rfl
          have z5:_=some (Value.int .i64 y5):=(blk_cell HX.out 5).trans rfl
          have q5:_=some (Value.int .i64 y5):=(blk_cell HX1.out 5).trans rfl
          clear hs1 hg1 hs2 hg2 HE HX
          rw [HS2.out,HT2.out] at HE2
          go_upto_region 18 with (fail)
          go_cut [] (fun V=>V=W2)
          case first =>
           go_region
           all_goals (first|(go_meet;exact rfl)|(go_wp2;go_meet;exact rfl))
          case rest =>
           obtain rfl:=hcut
           clear z4 z5 q5 hr1 hr2 HE1 HX1
           have HE:=HE2
           have HX:=HX2
           clear HE2 HX2
           obtain ⟨kn,hkn⟩:∃ kn,keyN X=kn:=⟨_,rfl⟩
           have HKN:Aside0 (kn=if bk=true then (typO (bl y1)).getD 0 else -1):=⟨by rw [← hkn];unfold keyN;rw [HKK.out,HX_.out]⟩
           have HRB2:Aside0 (r2=if bk=true then failE r1.1 r1.2 (!(typO (bl y1)).isSome || !tmKey ((typO (bl y1)).getD 0)) y6 5 else r1):=⟨by rw [HRB.out];unfold fdE2;rw [HKK.out,HX_.out]⟩
           obtain ⟨⟨kk,kr,ki⟩,hkd⟩:∃ q:Int × Int × Bool,kindF f (bl y0)=q:=⟨_,rfl⟩
           have HRC2:Aside0 (r3=failE r2.1 r2.2 (!ki) y6 3):=⟨by rw [HRC.out];unfold fdE3;rw [HX_.out];simp only [hkd]⟩
           have HFD:Aside0 (fdDef f X=⟨y5,y4,kk,kr,y2,kn,y3⟩):=⟨by rw [← hkn];unfold fdDef;rw [HX_.out];simp only [hkd]⟩
           have HKD:=Y0 hkd
           clear hkn hkd HKK HRB HRC HX_
           have z1:_=some (Value.string y1):=(blk_cell HX.out 1).trans rfl
           have hbk:=HBK.out
           have hbk2:=HBK2.out
           clear HBK HBK2
           go_upto_if 113 with (fail)
           clear z1 hbk hbk2
           go_cut [14] (fun v14 U=>v14 = .int .i64 kn∧Aside0 (MI w0 D p mb n vA vB f M E (r2).1 (r2).2 vM vE h x0 G vG vG m1 m2 (O.length + i + 1) (Q.length + i + 1) S2 T2 bx U)∧Aside0 (U.heap[vb]?=some (.cells #[.string y0,.string y1,.bool y2,.int .i64 y3,.string y4,.int .i64 y5,.int .i64 y6] 36 (0,0))))
           case first =>
            clear HR2 HTK HRC2 HFD HKD HL HLG HI1 HI2 HB3
            cases bk
            ·have hk1:kn = -1:=HKN.out
             subst hk1
             have hr:r2=r1:=HRB2.out
             subst hr
             go_wp2_with fail
             go_meet
             exact ⟨rfl,HE,HX⟩
            ·obtain ⟨ty,hto⟩:∃ ty,typO (bl y1)=ty:=⟨_,rfl⟩
             have HTY:=Y0 hto
             rw [hto] at HKN HRB2
             clear hto
             cases ty with
             | none =>
              have hk1:kn=0:=HKN.out
              subst hk1
              have hr:r2=failE r1.1 r1.2 true y6 5:=HRB2.out
              subst hr
              clear HKN HRB2
              go_wp2_with fail
              have HE0:=Y0 HE.out.drew
              have HX0:=Y0 (blk_drew HX.out)
              refine start_ (n:=9) (S:=fun w'=>w'.cell? ⟨vb,1,none⟩=some (.string y1)) (ds:=[]) #[false,false,false,false,false,false,false,false,false] (by kernel_rfl) rfl rfl ((blk_cell HX0.out 1)) (fun hHeld=>?_)
              refine pure_ (i:=1) (N:=some 116) (v:=?_) (a':=?_) (sqB 9 2) rfl rfl (by kernel_rfl) (fun _ _ _ h=>h) (Or.inl ⟨by rfl,?_⟩) ?_ ?_;rotate_left;intro w';go_simp;with_reducible rfl;rotate_left;simp only [Act.put,Y14,Y15,Y16];rfl
              refine take_ (i:=2) (N:=some 117) (v:=?_) (a':=?_) (sqB 9 6) rfl rfl (by kernel_rfl) (fun _ _ _ h=>h) (Or.inl ⟨by rfl,?_⟩) hHeld ?_ ?_;rotate_left;intro w' s0;go_simp;with_reducible rfl;rotate_left;simp only [Act.put,Y14,Y15,Y16];rfl
              refine one_ (i:=0) (N:=some 115) (sqB 9 7) rfl rfl (by kernel_rfl) (by decide) (fun K hK=>?_)
              refine goes_ Tryz.func59 (by kernel_rfl) rfl #[] (by rfl) rfl rfl (by first|(simp only [List.map_toArray,List.map_cons,List.map_nil];done)|rfl) ?_
              with_reducible refine (tplain_s _).mono ?_
              rintro e1 W1 ⟨rfl,hp,hb⟩
              refine ⟨_,rfl,?_⟩
              have hl0:=hp.look_ok (s:=y1) HY.out.2.1
              rw [HTY.out] at hl0
              have hl:(Instr.lookup 114 (.map (some wc.heap.size)) (.string y1) true).run Tryz.prog W1 = .ok (.tuple #[.int .i64 0,.bool false]) W1:=hl0
              have HE1:=Y0 (HE0.out.below hb)
              have HX1:=Y0 (blk_below HX0.out hb)
              clear hp hb hl0
              refine hK.out _ _ ((blk_cell HX1.out 1)) (fun hHeld=>?_)
              clear hK K
              refine norm_ (a':=?_) ?_ ?_;rotate_left;show Act.put _ (some 115) _=_;simp only [Act.put,Y14,Y15,Y16];rfl
              refine one_ (i:=3) (N:=some 118) (sqB 9 15) rfl rfl (by kernel_rfl) (by decide) (fun K hK=>?_)
              refine value_ (w1:=?_) (v:=?_) (by rfl) rfl ?_ ?_
              rotate_left 2
              ·go_simp
               constructor
               ·rfl
               ·rfl
              refine hK.out _ _ ((blk_cell HX1.out 1)) (fun hHeld=>?_)
              clear hK K
              refine norm_ (a':=?_) ?_ ?_;rotate_left;show Act.put _ (some 118) _=_;simp only [Act.put,Y14,Y15,Y16];rfl
              refine pure_ (i:=4) (N:=some 114) (v:=?_) (a':=?_) (sqB 9 31) rfl rfl (by kernel_rfl) (fun _ _ _ h=>h) (Or.inl ⟨by rfl,?_⟩) ?_ ?_;rotate_left;intro w';go_simp;with_reducible rfl;rotate_left;simp only [Act.put,Y14,Y15,Y16];rfl
              refine pure_ (i:=5) (N:=some 119) (v:=?_) (a':=?_) (sqB 9 63) rfl rfl (by kernel_rfl) (fun _ _ _ h=>h) (Or.inl ⟨by rfl,?_⟩) ?_ ?_;rotate_left;intro w';go_simp;with_reducible rfl;rotate_left;simp only [Act.put,Y14,Y15,Y16];rfl
              refine pure_ (i:=6) (N:=some 120) (v:=?_) (a':=?_) (sqB 9 127) rfl rfl (by kernel_rfl) (fun _ _ _ h=>h) (Or.inl ⟨by rfl,?_⟩) ?_ ?_;rotate_left;intro w';go_simp;with_reducible rfl;rotate_left;simp only [Act.put,Y14,Y15,Y16];rfl
              refine pure_ (i:=7) (N:=some 15) (v:=?_) (a':=?_) (sqB 9 255) rfl rfl (by kernel_rfl) (fun _ _ _ h=>h) (Or.inl ⟨by rfl,?_⟩) ?_ ?_;rotate_left;intro w';go_simp;with_reducible rfl;rotate_left;simp only [Act.put,Y14,Y15,Y16];rfl
              refine pure_ (i:=8) (N:=some 16) (v:=?_) (a':=?_) (sqB 9 511) rfl rfl (by kernel_rfl) (fun _ _ _ h=>h) (Or.inl ⟨by rfl,?_⟩) ?_ ?_;rotate_left;intro w';go_simp;with_reducible rfl;rotate_left;simp only [Act.put,Y14,Y15,Y16];rfl
              refine done_ (by kernel_rfl) ?_
              clear HE0 HX0 hl
              go_wp2_with fail
              have HE2:=Y0 HE1.out.drew
              have HX2:=Y0 (blk_drew HX1.out)
              refine start_ (n:=11) (S:=fun w'=>w'.cell? ⟨vb,6,none⟩=some (.int .i64 y6)) (ds:=[10]) #[false,false,false,false,false,false,false,false,false,false,false] (by kernel_rfl) rfl rfl ((blk_cell HX2.out 6)) (fun hHeld=>?_)
              refine pure_ (i:=0) (N:=some 121) (v:=?_) (a':=?_) (sqB 11 1) rfl rfl (by kernel_rfl) (fun _ _ _ h=>h) (Or.inl ⟨by rfl,?_⟩) ?_ ?_;rotate_left;intro w';go_simp;with_reducible rfl;rotate_left;simp only [Act.put,Y14,Y15,Y16];rfl
              refine pure_ (i:=1) (N:=some 122) (v:=?_) (a':=?_) (sqB 11 3) rfl rfl (by kernel_rfl) (fun _ _ _ h=>h) (Or.inl ⟨by rfl,?_⟩) ?_ ?_;rotate_left;intro w';go_simp;with_reducible rfl;rotate_left;simp only [Act.put,Y14,Y15,Y16];rfl
              refine pure_ (i:=2) (N:=some 123) (v:=?_) (a':=?_) (sqB 11 7) rfl rfl (by kernel_rfl) (fun _ _ _ h=>h) (Or.inl ⟨by rfl,?_⟩) ?_ ?_;rotate_left;intro w';go_simp;with_reducible rfl;rotate_left;simp only [Act.put,Y14,Y15,Y16];rfl
              refine pure_ (i:=3) (N:=some 124) (v:=?_) (a':=?_) (sqB 11 15) rfl rfl (by kernel_rfl) (fun _ _ _ h=>h) (Or.inl ⟨by rfl,?_⟩) ?_ ?_;rotate_left;intro w';go_simp;with_reducible rfl;rotate_left;simp only [Act.put,Y14,Y15,Y16];rfl
              refine pure_ (i:=4) (N:=some 125) (v:=undef) (a':=?_) (sqB 11 31) rfl rfl (by kernel_rfl) (fun _ _ _ h=>h) (Or.inr ⟨by rfl,rfl⟩) ?_ ?_;rotate_left;simp only [Act.put,Y14,Y15,Y16];rfl
              refine pure_ (i:=5) (N:=some 126) (v:=undef) (a':=?_) (sqB 11 63) rfl rfl (by kernel_rfl) (fun _ _ _ h=>h) (Or.inr ⟨by rfl,rfl⟩) ?_ ?_;rotate_left;simp only [Act.put,Y14,Y15,Y16];rfl
              refine pure_ (i:=6) (N:=some 127) (v:=undef) (a':=?_) (sqB 11 127) rfl rfl (by kernel_rfl) (fun _ _ _ h=>h) (Or.inr ⟨by rfl,rfl⟩) ?_ ?_;rotate_left;simp only [Act.put,Y14,Y15,Y16];rfl
              refine pure_ (i:=7) (N:=some 128) (v:=?_) (a':=?_) (sqB 11 255) rfl rfl (by kernel_rfl) (fun _ _ _ h=>h) (Or.inl ⟨by rfl,?_⟩) ?_ ?_;rotate_left;intro w';go_simp;with_reducible rfl;rotate_left;simp only [Act.put,Y14,Y15,Y16];rfl
              refine pure_ (i:=8) (N:=some 129) (v:=?_) (a':=?_) (sqB 11 511) rfl rfl (by kernel_rfl) (fun _ _ _ h=>h) (Or.inl ⟨by rfl,?_⟩) ?_ ?_;rotate_left;intro w';go_simp;with_reducible rfl;rotate_left;simp only [Act.put,Y14,Y15,Y16];rfl
              refine take_ (i:=9) (N:=some 130) (v:=?_) (a':=?_) (sqB 11 1023) rfl rfl (by kernel_rfl) (fun _ _ _ h=>h) (Or.inl ⟨by rfl,?_⟩) hHeld ?_ ?_;rotate_left;intro w' s0;go_simp;with_reducible rfl;rotate_left;simp only [Act.put,Y14,Y15,Y16];rfl
              refine last_ (i:=10) (N:=some 131) (sqB 11 2047) rfl rfl (by kernel_rfl) (by decide) (fun K hK=>?_)
              refine goes_ Tryz.func56 (by kernel_rfl) rfl #[.pointer (some ⟨p,0,none⟩),.bool true,.int .i64 y6,.int .i64 5] (by rfl) rfl rfl (by simp only [List.map_toArray,List.map_cons,List.map_nil];rfl) ?_
              with_reducible refine (fail_s HE2.out.rs.blk true y6 5).mono ?_
              rintro e3 W4 ⟨rfl,hr3,hk3,-,hb3⟩
              refine ⟨_,rfl,?_⟩
              have n1_:=Y0 (HE2.out.err hr3 hk3 hb3)
              have n2_:=Y0 (hk3.blk HX2.out (blk_ne HX2.out HE2.out.rs.blk (by decide)) (by simp))
              clear hr3 hk3 hb3
              refine hK.out _ _ ?_
              clear hK K
              refine norm_ (a':=?_) ?_ ?_;rotate_left;show Act.put _ (some 131) _=_;simp only [Act.put,Y14,Y15,Y16];rfl
              refine done_ (by kernel_rfl) ?_
              go_wp2_with fail
              go_meet
              exact ⟨rfl,n1_,n2_⟩
             | some k0 =>
              have hk1:kn=k0:=HKN.out
              subst hk1
              obtain ⟨kb,hkb⟩:∃ kb,tmKey kn=kb:=⟨_,rfl⟩
              have HKY:Aside0 (table_keyed.f kn=some kb):=⟨by rw [tm_key,hkb]⟩
              have HR2_:Aside0 (r2=failE r1.1 r1.2 (!kb) y6 5):=⟨by rw [HRB2.out,← hkb];rfl⟩
              clear HKN HRB2 hkb
              cases kb
              ·have hr:r2=failE r1.1 r1.2 true y6 5:=HR2_.out
               subst hr
               clear HR2_
               go_wp2_with fail
               have HE0:=Y0 HE.out.drew
               have HX0:=Y0 (blk_drew HX.out)
               refine start_ (n:=9) (S:=fun w'=>w'.cell? ⟨vb,1,none⟩=some (.string y1)) (ds:=[]) #[false,false,false,false,false,false,false,false,false] (by kernel_rfl) rfl rfl ((blk_cell HX0.out 1)) (fun hHeld=>?_)
               refine pure_ (i:=1) (N:=some 116) (v:=?_) (a':=?_) (sqB 9 2) rfl rfl (by kernel_rfl) (fun _ _ _ h=>h) (Or.inl ⟨by rfl,?_⟩) ?_ ?_;rotate_left;intro w';go_simp;with_reducible rfl;rotate_left;simp only [Act.put,Y14,Y15,Y16];rfl
               refine take_ (i:=2) (N:=some 117) (v:=?_) (a':=?_) (sqB 9 6) rfl rfl (by kernel_rfl) (fun _ _ _ h=>h) (Or.inl ⟨by rfl,?_⟩) hHeld ?_ ?_;rotate_left;intro w' s0;go_simp;with_reducible rfl;rotate_left;simp only [Act.put,Y14,Y15,Y16];rfl
               refine one_ (i:=0) (N:=some 115) (sqB 9 7) rfl rfl (by kernel_rfl) (by decide) (fun K hK=>?_)
               refine goes_ Tryz.func59 (by kernel_rfl) rfl #[] (by rfl) rfl rfl (by first|(simp only [List.map_toArray,List.map_cons,List.map_nil];done)|rfl) ?_
               with_reducible refine (tplain_s _).mono ?_
               rintro e1 W1 ⟨rfl,hp,hb⟩
               refine ⟨_,rfl,?_⟩
               have hl0:=hp.look_ok (s:=y1) HY.out.2.1
               rw [HTY.out] at hl0
               have hl:(Instr.lookup 114 (.map (some wc.heap.size)) (.string y1) true).run Tryz.prog W1 = .ok (.tuple #[.int .i64 kn,.bool true]) W1:=hl0
               have HE1:=Y0 (HE0.out.below hb)
               have HX1:=Y0 (blk_below HX0.out hb)
               clear hp hb hl0
               refine hK.out _ _ ((blk_cell HX1.out 1)) (fun hHeld=>?_)
               clear hK K
               refine norm_ (a':=?_) ?_ ?_;rotate_left;show Act.put _ (some 115) _=_;simp only [Act.put,Y14,Y15,Y16];rfl
               refine one_ (i:=3) (N:=some 118) (sqB 9 15) rfl rfl (by kernel_rfl) (by decide) (fun K hK=>?_)
               refine value_ (w1:=?_) (v:=?_) (by rfl) rfl ?_ ?_
               rotate_left 2
               ·go_simp
                constructor
                ·rfl
                ·rfl
               refine hK.out _ _ ((blk_cell HX1.out 1)) (fun hHeld=>?_)
               clear hK K
               refine norm_ (a':=?_) ?_ ?_;rotate_left;show Act.put _ (some 118) _=_;simp only [Act.put,Y14,Y15,Y16];rfl
               refine pure_ (i:=4) (N:=some 114) (v:=?_) (a':=?_) (sqB 9 31) rfl rfl (by kernel_rfl) (fun _ _ _ h=>h) (Or.inl ⟨by rfl,?_⟩) ?_ ?_;rotate_left;intro w';go_simp;with_reducible rfl;rotate_left;simp only [Act.put,Y14,Y15,Y16];rfl
               refine pure_ (i:=5) (N:=some 119) (v:=?_) (a':=?_) (sqB 9 63) rfl rfl (by kernel_rfl) (fun _ _ _ h=>h) (Or.inl ⟨by rfl,?_⟩) ?_ ?_;rotate_left;intro w';go_simp;with_reducible rfl;rotate_left;simp only [Act.put,Y14,Y15,Y16];rfl
               refine pure_ (i:=6) (N:=some 120) (v:=?_) (a':=?_) (sqB 9 127) rfl rfl (by kernel_rfl) (fun _ _ _ h=>h) (Or.inl ⟨by rfl,?_⟩) ?_ ?_;rotate_left;intro w';go_simp;with_reducible rfl;rotate_left;simp only [Act.put,Y14,Y15,Y16];rfl
               refine pure_ (i:=7) (N:=some 15) (v:=?_) (a':=?_) (sqB 9 255) rfl rfl (by kernel_rfl) (fun _ _ _ h=>h) (Or.inl ⟨by rfl,?_⟩) ?_ ?_;rotate_left;intro w';go_simp;with_reducible rfl;rotate_left;simp only [Act.put,Y14,Y15,Y16];rfl
               refine pure_ (i:=8) (N:=some 16) (v:=?_) (a':=?_) (sqB 9 511) rfl rfl (by kernel_rfl) (fun _ _ _ h=>h) (Or.inl ⟨by rfl,?_⟩) ?_ ?_;rotate_left;intro w';go_simp;with_reducible rfl;rotate_left;simp only [Act.put,Y14,Y15,Y16];rfl
               refine done_ (by kernel_rfl) ?_
               clear HE0 HX0 hl
               go_wp2_with fail
               have HE2:=Y0 HE1.out.drew
               have HX2:=Y0 (blk_drew HX1.out)
               refine start_ (n:=11) (S:=fun w'=>w'.cell? ⟨vb,6,none⟩=some (.int .i64 y6)) (ds:=[10]) #[false,false,false,false,false,false,false,false,false,false,false] (by kernel_rfl) rfl rfl ((blk_cell HX2.out 6)) (fun hHeld=>?_)
               refine pure_ (i:=0) (N:=some 121) (v:=?_) (a':=?_) (sqB 11 1) rfl rfl (by kernel_rfl) (fun _ _ _ h=>h) (Or.inl ⟨by rfl,?_⟩) ?_ ?_;rotate_left;intro w';go_simp;with_reducible rfl;rotate_left;simp only [Act.put,Y14,Y15,Y16];rfl
               refine pure_ (i:=1) (N:=some 122) (v:=?_) (a':=?_) (sqB 11 3) rfl rfl (by kernel_rfl) (fun _ _ _ h=>h) (Or.inl ⟨by rfl,?_⟩) ?_ ?_;rotate_left;intro w';go_simp;with_reducible rfl;rotate_left;simp only [Act.put,Y14,Y15,Y16];rfl
               refine pure_ (i:=2) (N:=some 123) (v:=?_) (a':=?_) (sqB 11 7) rfl rfl (by kernel_rfl) (fun _ _ _ h=>h) (Or.inl ⟨by rfl,?_⟩) ?_ ?_;rotate_left;intro w';go_simp;with_reducible rfl;rotate_left;simp only [Act.put,Y14,Y15,Y16];rfl
               refine pure_ (i:=3) (N:=some 124) (v:=?_) (a':=?_) (sqB 11 15) rfl rfl (by kernel_rfl) (fun _ _ _ h=>h) (Or.inl ⟨by rfl,?_⟩) ?_ ?_;rotate_left;intro w';go_simp;with_reducible rfl;rotate_left;simp only [Act.put,Y14,Y15,Y16];rfl
               refine pure_ (i:=4) (N:=some 125) (v:=?_) (a':=?_) (sqB 11 31) rfl rfl (by kernel_rfl) (fun _ _ _ h=>h) (Or.inl ⟨by rfl,?_⟩) ?_ ?_;rotate_left;intro w';go_simp;with_reducible rfl;rotate_left;simp only [Act.put,Y14,Y15,Y16];rfl
               refine pure_ (i:=8) (N:=some 129) (v:=?_) (a':=?_) (sqB 11 287) rfl rfl (by kernel_rfl) (fun _ _ _ h=>h) (Or.inl ⟨by rfl,?_⟩) ?_ ?_;rotate_left;intro w';go_simp;with_reducible rfl;rotate_left;simp only [Act.put,Y14,Y15,Y16];rfl
               refine take_ (i:=9) (N:=some 130) (v:=?_) (a':=?_) (sqB 11 799) rfl rfl (by kernel_rfl) (fun _ _ _ h=>h) (Or.inl ⟨by rfl,?_⟩) hHeld ?_ ?_;rotate_left;intro w' s0;go_simp;with_reducible rfl;rotate_left;simp only [Act.put,Y14,Y15,Y16];rfl
               refine one_ (i:=5) (N:=some 126) (sqB 11 831) rfl rfl (by kernel_rfl) (by decide) (fun K hK=>?_)
               refine goes_ Tryz.func99 (by kernel_rfl) rfl #[.int .i64 kn] (by rfl) rfl rfl (by simp only [List.map_toArray,List.map_cons,List.map_nil];rfl) ?_
               with_reducible refine (table_keyed.calls kn false _ HKY.out).mono ?_
               rintro e1 W3 ⟨rfl,hd⟩
               refine ⟨_,rfl,?_⟩
               have HE3:=Y0 (HE2.out.drawn hd)
               have HX3:=Y0 (blk_below HX2.out hd.below)
               clear hd
               refine hK.out _ _ ((blk_cell HX3.out 6)) (fun hHeld=>?_)
               clear hK K
               refine norm_ (a':=?_) ?_ ?_;rotate_left;show Act.put _ (some 126) _=_;simp only [Act.put,Y14,Y15,Y16];rfl
               refine pure_ (i:=6) (N:=some 127) (v:=?_) (a':=?_) (sqB 11 895) rfl rfl (by kernel_rfl) (fun _ _ _ h=>h) (Or.inl ⟨by rfl,?_⟩) ?_ ?_;rotate_left;intro w';go_simp;with_reducible rfl;rotate_left;simp only [Act.put,Y14,Y15,Y16];rfl
               refine pure_ (i:=7) (N:=some 128) (v:=?_) (a':=?_) (sqB 11 1023) rfl rfl (by kernel_rfl) (fun _ _ _ h=>h) (Or.inl ⟨by rfl,?_⟩) ?_ ?_;rotate_left;intro w';go_simp;with_reducible rfl;rotate_left;simp only [Act.put,Y14,Y15,Y16];rfl
               refine last_ (i:=10) (N:=some 131) (sqB 11 2047) rfl rfl (by kernel_rfl) (by decide) (fun K hK=>?_)
               refine goes_ Tryz.func56 (by kernel_rfl) rfl #[.pointer (some ⟨p,0,none⟩),.bool true,.int .i64 y6,.int .i64 5] (by rfl) rfl rfl (by simp only [List.map_toArray,List.map_cons,List.map_nil];rfl) ?_
               with_reducible refine (fail_s HE3.out.rs.blk true y6 5).mono ?_
               rintro e3 W4 ⟨rfl,hr3,hk3,-,hb3⟩
               refine ⟨_,rfl,?_⟩
               have n1_:=Y0 (HE3.out.err hr3 hk3 hb3)
               have n2_:=Y0 (hk3.blk HX3.out (blk_ne HX3.out HE3.out.rs.blk (by decide)) (by simp))
               clear hr3 hk3 hb3
               refine hK.out _ _ ?_
               clear hK K
               refine norm_ (a':=?_) ?_ ?_;rotate_left;show Act.put _ (some 131) _=_;simp only [Act.put,Y14,Y15,Y16];rfl
               refine done_ (by kernel_rfl) ?_
               go_wp2_with fail
               go_meet
               exact ⟨rfl,n1_,n2_⟩
              ·have hr:r2=failE r1.1 r1.2 false y6 5:=HR2_.out
               subst hr
               clear HR2_
               go_wp2_with fail
               have HE0:=Y0 HE.out.drew
               have HX0:=Y0 (blk_drew HX.out)
               refine start_ (n:=9) (S:=fun w'=>w'.cell? ⟨vb,1,none⟩=some (.string y1)) (ds:=[]) #[false,false,false,false,false,false,false,false,false] (by kernel_rfl) rfl rfl ((blk_cell HX0.out 1)) (fun hHeld=>?_)
               refine pure_ (i:=1) (N:=some 116) (v:=?_) (a':=?_) (sqB 9 2) rfl rfl (by kernel_rfl) (fun _ _ _ h=>h) (Or.inl ⟨by rfl,?_⟩) ?_ ?_;rotate_left;intro w';go_simp;with_reducible rfl;rotate_left;simp only [Act.put,Y14,Y15,Y16];rfl
               refine take_ (i:=2) (N:=some 117) (v:=?_) (a':=?_) (sqB 9 6) rfl rfl (by kernel_rfl) (fun _ _ _ h=>h) (Or.inl ⟨by rfl,?_⟩) hHeld ?_ ?_;rotate_left;intro w' s0;go_simp;with_reducible rfl;rotate_left;simp only [Act.put,Y14,Y15,Y16];rfl
               refine one_ (i:=0) (N:=some 115) (sqB 9 7) rfl rfl (by kernel_rfl) (by decide) (fun K hK=>?_)
               refine goes_ Tryz.func59 (by kernel_rfl) rfl #[] (by rfl) rfl rfl (by first|(simp only [List.map_toArray,List.map_cons,List.map_nil];done)|rfl) ?_
               with_reducible refine (tplain_s _).mono ?_
               rintro e1 W1 ⟨rfl,hp,hb⟩
               refine ⟨_,rfl,?_⟩
               have hl0:=hp.look_ok (s:=y1) HY.out.2.1
               rw [HTY.out] at hl0
               have hl:(Instr.lookup 114 (.map (some wc.heap.size)) (.string y1) true).run Tryz.prog W1 = .ok (.tuple #[.int .i64 kn,.bool true]) W1:=hl0
               have HE1:=Y0 (HE0.out.below hb)
               have HX1:=Y0 (blk_below HX0.out hb)
               clear hp hb hl0
               refine hK.out _ _ ((blk_cell HX1.out 1)) (fun hHeld=>?_)
               clear hK K
               refine norm_ (a':=?_) ?_ ?_;rotate_left;show Act.put _ (some 115) _=_;simp only [Act.put,Y14,Y15,Y16];rfl
               refine one_ (i:=3) (N:=some 118) (sqB 9 15) rfl rfl (by kernel_rfl) (by decide) (fun K hK=>?_)
               refine value_ (w1:=?_) (v:=?_) (by rfl) rfl ?_ ?_
               rotate_left 2
               ·go_simp
                constructor
                ·rfl
                ·rfl
               refine hK.out _ _ ((blk_cell HX1.out 1)) (fun hHeld=>?_)
               clear hK K
               refine norm_ (a':=?_) ?_ ?_;rotate_left;show Act.put _ (some 118) _=_;simp only [Act.put,Y14,Y15,Y16];rfl
               refine pure_ (i:=4) (N:=some 114) (v:=?_) (a':=?_) (sqB 9 31) rfl rfl (by kernel_rfl) (fun _ _ _ h=>h) (Or.inl ⟨by rfl,?_⟩) ?_ ?_;rotate_left;intro w';go_simp;with_reducible rfl;rotate_left;simp only [Act.put,Y14,Y15,Y16];rfl
               refine pure_ (i:=5) (N:=some 119) (v:=?_) (a':=?_) (sqB 9 63) rfl rfl (by kernel_rfl) (fun _ _ _ h=>h) (Or.inl ⟨by rfl,?_⟩) ?_ ?_;rotate_left;intro w';go_simp;with_reducible rfl;rotate_left;simp only [Act.put,Y14,Y15,Y16];rfl
               refine pure_ (i:=6) (N:=some 120) (v:=?_) (a':=?_) (sqB 9 127) rfl rfl (by kernel_rfl) (fun _ _ _ h=>h) (Or.inl ⟨by rfl,?_⟩) ?_ ?_;rotate_left;intro w';go_simp;with_reducible rfl;rotate_left;simp only [Act.put,Y14,Y15,Y16];rfl
               refine pure_ (i:=7) (N:=some 15) (v:=?_) (a':=?_) (sqB 9 255) rfl rfl (by kernel_rfl) (fun _ _ _ h=>h) (Or.inl ⟨by rfl,?_⟩) ?_ ?_;rotate_left;intro w';go_simp;with_reducible rfl;rotate_left;simp only [Act.put,Y14,Y15,Y16];rfl
               refine pure_ (i:=8) (N:=some 16) (v:=?_) (a':=?_) (sqB 9 511) rfl rfl (by kernel_rfl) (fun _ _ _ h=>h) (Or.inl ⟨by rfl,?_⟩) ?_ ?_;rotate_left;intro w';go_simp;with_reducible rfl;rotate_left;simp only [Act.put,Y14,Y15,Y16];rfl
               refine done_ (by kernel_rfl) ?_
               clear HE0 HX0 hl
               go_wp2_with fail
               have HE2:=Y0 HE1.out.drew
               have HX2:=Y0 (blk_drew HX1.out)
               refine start_ (n:=11) (S:=fun w'=>w'.cell? ⟨vb,6,none⟩=some (.int .i64 y6)) (ds:=[10]) #[false,false,false,false,false,false,false,false,false,false,false] (by kernel_rfl) rfl rfl ((blk_cell HX2.out 6)) (fun hHeld=>?_)
               refine pure_ (i:=0) (N:=some 121) (v:=?_) (a':=?_) (sqB 11 1) rfl rfl (by kernel_rfl) (fun _ _ _ h=>h) (Or.inl ⟨by rfl,?_⟩) ?_ ?_;rotate_left;intro w';go_simp;with_reducible rfl;rotate_left;simp only [Act.put,Y14,Y15,Y16];rfl
               refine pure_ (i:=1) (N:=some 122) (v:=?_) (a':=?_) (sqB 11 3) rfl rfl (by kernel_rfl) (fun _ _ _ h=>h) (Or.inl ⟨by rfl,?_⟩) ?_ ?_;rotate_left;intro w';go_simp;with_reducible rfl;rotate_left;simp only [Act.put,Y14,Y15,Y16];rfl
               refine pure_ (i:=2) (N:=some 123) (v:=?_) (a':=?_) (sqB 11 7) rfl rfl (by kernel_rfl) (fun _ _ _ h=>h) (Or.inl ⟨by rfl,?_⟩) ?_ ?_;rotate_left;intro w';go_simp;with_reducible rfl;rotate_left;simp only [Act.put,Y14,Y15,Y16];rfl
               refine pure_ (i:=3) (N:=some 124) (v:=?_) (a':=?_) (sqB 11 15) rfl rfl (by kernel_rfl) (fun _ _ _ h=>h) (Or.inl ⟨by rfl,?_⟩) ?_ ?_;rotate_left;intro w';go_simp;with_reducible rfl;rotate_left;simp only [Act.put,Y14,Y15,Y16];rfl
               refine pure_ (i:=4) (N:=some 125) (v:=?_) (a':=?_) (sqB 11 31) rfl rfl (by kernel_rfl) (fun _ _ _ h=>h) (Or.inl ⟨by rfl,?_⟩) ?_ ?_;rotate_left;intro w';go_simp;with_reducible rfl;rotate_left;simp only [Act.put,Y14,Y15,Y16];rfl
               refine pure_ (i:=8) (N:=some 129) (v:=?_) (a':=?_) (sqB 11 287) rfl rfl (by kernel_rfl) (fun _ _ _ h=>h) (Or.inl ⟨by rfl,?_⟩) ?_ ?_;rotate_left;intro w';go_simp;with_reducible rfl;rotate_left;simp only [Act.put,Y14,Y15,Y16];rfl
               refine take_ (i:=9) (N:=some 130) (v:=?_) (a':=?_) (sqB 11 799) rfl rfl (by kernel_rfl) (fun _ _ _ h=>h) (Or.inl ⟨by rfl,?_⟩) hHeld ?_ ?_;rotate_left;intro w' s0;go_simp;with_reducible rfl;rotate_left;simp only [Act.put,Y14,Y15,Y16];rfl
               refine one_ (i:=5) (N:=some 126) (sqB 11 831) rfl rfl (by kernel_rfl) (by decide) (fun K hK=>?_)
               refine goes_ Tryz.func99 (by kernel_rfl) rfl #[.int .i64 kn] (by rfl) rfl rfl (by simp only [List.map_toArray,List.map_cons,List.map_nil];rfl) ?_
               with_reducible refine (table_keyed.calls kn true _ HKY.out).mono ?_
               rintro e1 W3 ⟨rfl,hd⟩
               refine ⟨_,rfl,?_⟩
               have HE3:=Y0 (HE2.out.drawn hd)
               have HX3:=Y0 (blk_below HX2.out hd.below)
               clear hd
               refine hK.out _ _ ((blk_cell HX3.out 6)) (fun hHeld=>?_)
               clear hK K
               refine norm_ (a':=?_) ?_ ?_;rotate_left;show Act.put _ (some 126) _=_;simp only [Act.put,Y14,Y15,Y16];rfl
               refine pure_ (i:=6) (N:=some 127) (v:=?_) (a':=?_) (sqB 11 895) rfl rfl (by kernel_rfl) (fun _ _ _ h=>h) (Or.inl ⟨by rfl,?_⟩) ?_ ?_;rotate_left;intro w';go_simp;with_reducible rfl;rotate_left;simp only [Act.put,Y14,Y15,Y16];rfl
               refine pure_ (i:=7) (N:=some 128) (v:=?_) (a':=?_) (sqB 11 1023) rfl rfl (by kernel_rfl) (fun _ _ _ h=>h) (Or.inl ⟨by rfl,?_⟩) ?_ ?_;rotate_left;intro w';go_simp;with_reducible rfl;rotate_left;simp only [Act.put,Y14,Y15,Y16];rfl
               refine last_ (i:=10) (N:=some 131) (sqB 11 2047) rfl rfl (by kernel_rfl) (by decide) (fun K hK=>?_)
               refine goes_ Tryz.func56 (by kernel_rfl) rfl #[.pointer (some ⟨p,0,none⟩),.bool false,.int .i64 y6,.int .i64 5] (by rfl) rfl rfl (by simp only [List.map_toArray,List.map_cons,List.map_nil];rfl) ?_
               with_reducible refine (fail_s HE3.out.rs.blk false y6 5).mono ?_
               rintro e3 W4 ⟨rfl,hr3,hk3,-,hb3⟩
               refine ⟨_,rfl,?_⟩
               have n1_:=Y0 (HE3.out.err hr3 hk3 hb3)
               have n2_:=Y0 (hk3.blk HX3.out (blk_ne HX3.out HE3.out.rs.blk (by decide)) (by simp))
               clear hr3 hk3 hb3
               refine hK.out _ _ ?_
               clear hK K
               refine norm_ (a':=?_) ?_ ?_;rotate_left;show Act.put _ (some 131) _=_;simp only [Act.put,Y14,Y15,Y16];rfl
               refine done_ (by kernel_rfl) ?_
               go_wp2_with fail
               go_meet
               exact ⟨rfl,n1_,n2_⟩
           case rest =>
            clear HE HX HKN HRB2
            obtain ⟨rfl,HE,HX⟩:=hcut
            have z0:_=some (Value.string y0):=(blk_cell HX.out 0).trans rfl
            have hks:=kind_s HE.out.rs.blk HE.out.rs.nm y0 HY.out.1
            rw [HKD.out] at hks
            have HKS:=Y0 hks
            clear hks
            go_wp2_with fail
            go_at_call 100
            refine HKS.out.mono ?_
            rintro en_ W5 ⟨rfl,hb5⟩
            have n1_:=Y0 (HE.out.below hb5)
            have n2_:=Y0 (blk_below HX.out hb5)
            clear HE HX hb5 z0 HKS
            have HE:=n1_
            have HX:=n2_
            clear n1_ n2_
            have z6:_=some (Value.int .i64 y6):=(blk_cell HX.out 6).trans rfl
            go_wp2_with fail
            go_at_call 56
            refine (fail_s HE.out.rs.blk (!ki) y6 3).mono ?_
            rintro en_ W6 ⟨rfl,hr6,hk6,-,hb6⟩
            have n1_:=Y0 (HE.out.err hr6 hk6 hb6)
            have n2_:=Y0 (hk6.blk HX.out (blk_ne HX.out HE.out.rs.blk (by decide)) (by simp))
            rw [← HRC2.out] at n1_
            clear HE HX hr6 hk6 hb6 z6
            have HE:=n1_
            have HX:=n2_
            clear n1_ n2_
            have z2:_=some (Value.bool y2):=(blk_cell HX.out 2).trans rfl
            have z3:_=some (Value.int .i64 y3):=(blk_cell HX.out 3).trans rfl
            have z4:_=some (Value.string y4):=(blk_cell HX.out 4).trans rfl
            have z5:_=some (Value.int .i64 y5):=(blk_cell HX.out 5).trans rfl
            have c1:=HE.out.c1
            go_wp2_with ((with_reducible refine gate_builtin (b:=.append) (xs:=#[.tmp 148,.tmp 161]) rfl ?_);at_builtin;refine Kd.R_append k51 (w0:=W6) D rfl (.tmp 148) (.tmp 161) 55 51 (.agg #[(.int .i64 0),(.string ⟨#[]⟩),(.int .i64 0),(.int .i64 0),(.bool false),(.int .i64 0),(.int .i64 0)]) 64 rfl Tryz.underlying55 info_FD rfl (by decide) (by decide) _ G ⟨y5,y4,kk,kr,y2,kn,y3⟩ [.int .i64 y5,.string y4,.int .i64 kk,.int .i64 kr,.bool y2,.int .i64 kn,.int .i64 y3] (fun _=>True) (fun _=>False) rfl rfl (k51_mkM _ _ _ _) (fun _ hk=>hk.elim) (fun _ _=>trivial) HE.out.rF (Below.refl _ _) HE.out.dle HLG.out ?_;intro v1 w1 hR1 _ hg1 _;obtain ⟨A5,c5,hv1⟩:=Kd.R_slice hR1;have hv2:v1 = .slice A5 (G.length + 1) c5:=(by rw [hv1,List.length_append];rfl);clear hv1;subst hv2;have HG2:=Y0 (HE.out.appF hR1 hg1);clear hR1 hg1;have hf1:=blk_frozen HG2.out.blk 1;have hk1:=HG2.out.c1)
            have HE3:=Y0 (HG2.out.set1 (u:=.slice A5 (G.length + 1) c5))
            clear HE HX HG2 z2 z3 z4 z5 c1 hf1 hk1
            go_roundg k1
            case measure=>omega
            case rel=>exact ⟨i + 1,r3.1,r3.2,S2,T2,_,by go_num,⟨by have:=HL.out;omega⟩,⟨by rw [HTK.out,HFD.out];exact HE3.out⟩,HR2⟩
      ·have hil:i=F.length:=by have:=HL.out;omega
       subst hil
       rw [List.take_length] at HE
       have hr2:=HR.out
       rw [List.drop_length,fdL] at hr2
       subst hr2
       have HLG:Aside0 ((F.map (fdDef f)).length < 4611686018427387904):=⟨by rw [List.length_map];have:=HLL.out;omega⟩
       generalize F.map (fdDef f)=G0 at *
       have c1:=HE.out.c1
       go_wp2_with fail
       go_at_call 101
       refine (sort_s HE.out.rF HLG.out).mono ?_
       rintro en_ W8 ⟨rfl,hR8,hg8⟩
       rw [HGG.out] at hR8
       have n1_:=Y0 (HE.out.appF hR8 hg8)
       clear HE c1 hR8 hg8
       have HE:=n1_
       clear n1_
       generalize GG=G at *
       obtain ⟨AG,cG,rfl⟩:=Kd.R_slice HE.out.rF
       go_wp2_with fail
       have hp1:W8.cell? ⟨p,3,none⟩=some vM:=(blk_cell HE.out.rs.blk 3).trans rfl
       have y0:W8.cell? ⟨h,0,none⟩=some (.string x0):=(blk_cell HE.out.blk 0).trans rfl
       have y1:=HE.out.c1
       have HS:=Y0 ((HE.out.rs.wide (ok':=fun _=>True) (fun _ _=>trivial)).below (Below.refl _ W8).drew)
       have HB:=Y0 HE.out.bw.drew
       have HS1:Aside0 (w0.heap.size≤W8.drew.heap.size):=⟨Nat.le_trans HE.out.hd HE.out.dle⟩
       have HMM:Aside0 (k57.M W8.drew w0.heap.size (fun k=>D≤k) (⟨x0,G⟩:S57) [.string x0,.slice AG G.length cG]):=⟨k57_mkM _ _ _ _ (Kd.R_lower (Kd.R_mono (Kd.R_bound (Kd.R_drew HE.out.rF)) (fun k hk=>hk.2.1)) HE.out.hd)⟩
       have HOK:Aside0 (∀ k,D≤k→True∧some k≠vM.ownBlock):=⟨fun k hk=>⟨trivial,fun he=>by have:=HE.out.rs.rM.1 k he.symm;omega⟩⟩
       replace HML:Aside0 ((M.length + 1) * 40≤140737488355328):=⟨by have:=HML.out;omega⟩
       clear HE HR HL HCF HCO HCQ HW HZF HZO HZQ HLL
       refine start_ (n:=13) (S:=fun w'=>w'.cell? ⟨p,3,none⟩=some vM∧w'.cell? ⟨h,0,none⟩=some (.string x0)∧w'.cell? ⟨h,1,none⟩=some (.slice AG G.length cG)) (ds:=[8,12]) #[false,false,false,false,false,false,false,false,false,false,false,false,false] (by kernel_rfl) rfl rfl ⟨hp1,y0,y1⟩ (fun hHeld=>?_)
       generalize W8.drew=WD at *
       refine pure_ (i:=0) (N:=some 168) (v:=?_) (a':=?_) (sqB 13 1) rfl rfl (by kernel_rfl) (fun _ _ _ h=>h) (Or.inl ⟨by rfl,?_⟩) ?_ ?_;rotate_left;intro w';go_simp;with_reducible rfl;rotate_left;simp only [Act.put,Y14,Y15,Y16];rfl
       refine pure_ (i:=1) (N:=some 169) (v:=?_) (a':=?_) (sqB 13 3) rfl rfl (by kernel_rfl) (fun _ _ _ h=>h) (Or.inl ⟨by rfl,?_⟩) ?_ ?_;rotate_left;intro w';go_simp;with_reducible rfl;rotate_left;simp only [Act.put,Y14,Y15,Y16];rfl
       refine pure_ (i:=2) (N:=some 170) (v:=?_) (a':=?_) (sqB 13 7) rfl rfl (by kernel_rfl) (fun _ _ _ h=>h) (Or.inl ⟨by rfl,?_⟩) ?_ ?_;rotate_left;intro w';go_simp;with_reducible rfl;rotate_left;simp only [Act.put,Y14,Y15,Y16];rfl
       refine pure_ (i:=3) (N:=some 171) (v:=?_) (a':=?_) (sqB 13 15) rfl rfl (by kernel_rfl) (fun _ _ _ h=>h) (Or.inl ⟨by rfl,?_⟩) ?_ ?_;rotate_left;intro w';go_simp;with_reducible rfl;rotate_left;simp only [Act.put,Y14,Y15,Y16];rfl
       refine pure_ (i:=4) (N:=some 172) (v:=?_) (a':=?_) (sqB 13 31) rfl rfl (by kernel_rfl) (fun _ _ _ h=>h) (Or.inl ⟨by rfl,?_⟩) ?_ ?_;rotate_left;intro w';go_simp;with_reducible rfl;rotate_left;simp only [Act.put,Y14,Y15,Y16];rfl
       refine take_ (i:=5) (N:=some 173) (v:=?_) (a':=?_) (sqB 13 63) rfl rfl (by kernel_rfl) (fun _ _ _ h=>h) (Or.inl ⟨by rfl,?_⟩) hHeld ?_ ?_;rotate_left;rintro w' ⟨s0,s1,s2⟩;go_simp;with_reducible rfl;rotate_left;simp only [Act.put,Y14,Y15,Y16];rfl
       refine take_ (i:=6) (N:=some 174) (v:=?_) (a':=?_) (sqB 13 127) rfl rfl (by kernel_rfl) (fun _ _ _ h=>h) (Or.inl ⟨by rfl,?_⟩) hHeld ?_ ?_;rotate_left;rintro w' ⟨s0,s1,s2⟩;go_simp;with_reducible rfl;rotate_left;simp only [Act.put,Y14,Y15,Y16];rfl
       refine one_ (i:=7) (N:=some 175) (sqB 13 255) rfl rfl (by kernel_rfl) (by decide) (fun K hK=>?_)
       refine value_ (w1:=?_) (v:=?_) (by rfl) rfl ?_ ?_
       rotate_left 2
       ·go_simp
        constructor
        ·rfl
        ·rfl
       refine hK.out _ _ ⟨(pw_cell_below (below_alloc (Below.refl _ _) _) hHeld.1),(pw_cell_below (below_alloc (Below.refl _ _) _) hHeld.2.1),(pw_cell_below (below_alloc (Below.refl _ _) _) hHeld.2.2)⟩ (fun hHeld=>?_)
       clear hK K
       refine norm_ (a':=?_) ?_ ?_;rotate_left;show Act.put _ (some 175) _=_;simp only [Act.put,Y14,Y15,Y16];rfl
       refine last_ (i:=8) (N:=some 176) (sqB 13 511) rfl rfl (by kernel_rfl) (by decide) (fun K hK=>?_)
       refine Kd.R_append_step k57 (w0:=WD) w0.heap.size (by rfl) (.tmp 173) (.tmp 175) 43 57 (.agg #[(.string ⟨#[]⟩),(.slice none 0 0)]) 40 rfl Tryz.underlying43 info_MD rfl (by decide) (by decide) _ M ⟨x0,G⟩ [.string x0,.slice AG G.length cG] (fun _=>True) (fun k=>D≤k) rfl rfl HMM.out HOK.out (fun _ _=>trivial) HS.out.rM (Below.refl _ _) HS1.out HML.out ?_
       intro v1 w1 hR1 _ hg1 _
       obtain ⟨A5,c5,hv1⟩:=Kd.R_slice hR1
       have hw1:v1 = .slice A5 (M.length + 1) c5:=by rw [hv1,List.length_append];rfl
       clear hv1
       subst hw1
       have HR1:=Y0 hR1
       have HG1:=Y0 hg1
       clear hR1 hg1
       have hf1:=blk_frozen (blk_grow HS.out.rM HS.out.blk (by decide) HG1.out) 3
       have hk1:=(blk_cell (blk_grow HS.out.rM HS.out.blk (by decide) HG1.out) 3).trans rfl
       refine hK.out _ _ ?_
       clear hK K
       refine norm_ (a':=?_) ?_ ?_;rotate_left;show Act.put _ (some 176) _=_;simp only [Act.put,Y14,Y15,Y16];rfl
       refine pure_ (i:=9) (N:=some 177) (v:=?_) (a':=?_) (sqB 13 1023) rfl rfl (by kernel_rfl) (fun _ _ _ h=>h) (Or.inl ⟨by rfl,?_⟩) ?_ ?_;rotate_left;intro w';go_simp;with_reducible rfl;rotate_left;simp only [Act.put,Y14,Y15,Y16];rfl
       refine pure_ (i:=10) (N:=some 178) (v:=?_) (a':=?_) (sqB 13 2047) rfl rfl (by kernel_rfl) (fun _ _ _ h=>h) (Or.inl ⟨by rfl,?_⟩) ?_ ?_;rotate_left;intro w';go_simp;with_reducible rfl;rotate_left;simp only [Act.put,Y14,Y15,Y16];rfl
       refine pure_ (i:=11) (N:=some 179) (v:=?_) (a':=?_) (sqB 13 4095) rfl rfl (by kernel_rfl) (fun _ _ _ h=>h) (Or.inl ⟨by rfl,?_⟩) ?_ ?_;rotate_left;intro w';go_simp;with_reducible rfl;rotate_left;simp only [Act.put,Y14,Y15,Y16];rfl
       refine last_ (i:=12) (N:=none) (sqB 13 8191) rfl rfl (by kernel_rfl) (by decide) (fun K hK=>?_)
       refine skip_ (w1:=?_) (by rfl) rfl ?_ ?_
       rotate_left
       ·go_simp
        rfl
       refine hK.out _ _ ?_
       clear hK K
       refine done_ (by kernel_rfl) ?_
       go_wp2_with fail
       go_end0
       exact ⟨rfl,⟨_,HS.out.appM HR1.out HG1.out⟩,(HB.out.trans (grown_below HS.out.rM HG1.out HS1.out)).setCell (p:=⟨p,3,none⟩) HS.out.hp _⟩
end Go.Proofs.YtddpjjhekhompaaGreatDoor.P
