/- Part 7 of what the law TableMore leans on: contracts of the functions that it reaches, and plain lemmas. No condition. -/
import Derived.Test.YtddpjjhekhompaaGreatDoorMTableMore6
namespace Go.Proofs.YtddpjjhekhompaaGreatDoor.P
open Go.RowKit Go.Proofs.YtddpjjhekhompaaGreatDoorW.PrintWords Go.Proofs.YtddpjjhekhompaaGreatDoorW.PrintLast Go.Proofs.YtddpjjhekhompaaGreatDoorW.PrintMore
attribute [local go_sem] max2_int max_two
set_option linter.unusedVariables false
set_option linter.unusedSimpArgs false
set_option maxHeartbeats 8000000 in
set_option maxRecDepth 1000000 in
theorem w17_4 {w0 wc:World} {D p mb n:Nat} {vA vB:Value} {f:List UInt8→Option (Int × Int)} {M:List (S57)} {E:List (S119)} {a1 e1:Int} {vM vE:Value} {h:Nat} {x0:ByteArray} {G:List (S51)} {vG:Value} {m1 m2 k1 k2:Nat} {S:List UInt8→Option Bool} {T:Int→Option Bool} {bx:Array Value} {vb:Nat} {y0 y1:ByteArray} {y2:Bool} {y3:Int} {y4:ByteArray} {y5 y6:Int} {O:List ByteArray} {AO:Option Addr} {cO:Nat} {TT:Bool} (HE:Aside0 (MI w0 D p mb n vA vB f M E a1 e1 vM vE h x0 G vG vG m1 m2 k1 k2 S T bx wc)) (HX:Aside0 (wc.heap[vb]?=some (.cells #[.string y0,.string y1,.bool y2,.int .i64 y3,.string y4,.int .i64 y5,.int .i64 y6] 36 (0,0)))) (HB2:Aside0 (bx[2]?=some (.slice AO O.length cO))) (HL1:Aside0 (∀ U:World,SSet U m1 k1 S→(Instr.lookup 169 (.map (some m1)) (.string y4) false).run Tryz.prog U = .ok (.bool false) U)) (HNUM:Aside0 (table_number.f y5=some true)) (HL2:Aside0 (∀ U:World,ISet U m2 k2 T→(Instr.lookup 170 (.map (some m2)) (.int .i64 y5) false).run Tryz.prog U = .ok (.bool false) U)) (HIN:Aside0 (table_in.f y3 0 O.length=some false)) {K0 K1 K2 K3:Act→World→Prop} {POST:Ending→World→Prop} (v1 v2 v4 v7 v8 v9 v10 v11 v14 v15 v16 v17 v18 v19 v20 v21 v22 v23 v24 v25 v26 v27 v28 v29 v30 v31 v32 v33 v34 v35 v36 v37 v38 v39 v40 v41 v42 v43 v44 v45 v46 v47 v48 v49 v50 v51 v52 v53 v54 v55 v56 v57 v58 v59 v60 v61 v62 v63 v64 v65 v66 v67 v68 v69 v70 v71 v72 v105 v106 v107 v108 v109 v110 v111 v112 v113 v114 v115 v116 v117 v118 v119 v120 v121 v122 v123 v124 v125 v126 v127 v128 v129 v130 v131 v132 v133 v134 v135 v136 v137 v138 v139 v140 v141 v142 v143 v144 v145 v146 v147 v148 v149 v150 v151 v152 v153 v154 v155 v156 v157 v158 v159 v160 v161 v162 v163 v164 v165 v166 v167 v168 v169 v170 v171 v172 v173 v174 v175 v176 v177 v178 v179 v73 v74 v75 v76 v77 v78 v79 v80 v81 v82 v83 v84 v85 v86 v87 v88 v89 v90 v91 v92 v93 v94 v95 v96 v97 v98 v99 v100 v101 v102 v103 v104:Value)
  (hK:∀ (u73 u74 u75 u76 u77 u78 u79 u80 u81 u82 u83 u84 u85 u86 u87 u88 u89 u90 u91 u92 u93 u94 u95 u96 u97 u98 u99 u100 u101 u102 u103 u104:Value) (W':World),MI w0 D p mb n vA vB f M E (failE a1 e1 true y6 4).1 (failE a1 e1 true y6 4).2 vM vE h x0 G vG vG m1 m2 k1 k2 S T bx W'→W'.heap[vb]?=some (.cells #[.string y0,.string y1,.bool y2,.int .i64 y3,.string y4,.int .i64 y5,.int .i64 y6] 36 (0,0))→K0 ⟨#[.pointer (some ⟨p,0,none⟩),v1,v2,.pointer (some ⟨D,0,none⟩),v4,.map (some m1),.map (some m2),v7,v8,v9,v10,v11,.pointer (some ⟨vb,0,none⟩),.bool TT,v14,v15,v16,v17,v18,v19,v20,v21,v22,v23,v24,v25,v26,v27,v28,v29,v30,v31,v32,v33,v34,v35,v36,v37,v38,v39,v40,v41,v42,v43,v44,v45,v46,v47,v48,v49,v50,v51,v52,v53,v54,v55,v56,v57,v58,v59,v60,v61,v62,v63,v64,v65,v66,v67,v68,v69,v70,v71,v72,u73,u74,u75,u76,u77,u78,u79,u80,u81,u82,u83,u84,u85,u86,u87,u88,u89,u90,u91,u92,u93,u94,u95,u96,u97,u98,u99,u100,u101,u102,u103,u104,v105,v106,v107,v108,v109,v110,v111,v112,v113,v114,v115,v116,v117,v118,v119,v120,v121,v122,v123,v124,v125,v126,v127,v128,v129,v130,v131,v132,v133,v134,v135,v136,v137,v138,v139,v140,v141,v142,v143,v144,v145,v146,v147,v148,v149,v150,v151,v152,v153,v154,v155,v156,v157,v158,v159,v160,v161,v162,v163,v164,v165,v166,v167,v168,v169,v170,v171,v172,v173,v174,v175,v176,v177,v178,v179],[]⟩ W') :
  Code.wp Tryz.prog code17 (Exit.then K0 (Exit.inBlock 5 (Exit.then K1 (Exit.then K2 (Exit.inBlock 4 (Exit.then K3 (bodyPost Tryz.prog Tryz.f57 POST))))))) ⟨#[.pointer (some ⟨p,0,none⟩),v1,v2,.pointer (some ⟨D,0,none⟩),v4,.map (some m1),.map (some m2),v7,v8,v9,v10,v11,.pointer (some ⟨vb,0,none⟩),.bool TT,v14,v15,v16,v17,v18,v19,v20,v21,v22,v23,v24,v25,v26,v27,v28,v29,v30,v31,v32,v33,v34,v35,v36,v37,v38,v39,v40,v41,v42,v43,v44,v45,v46,v47,v48,v49,v50,v51,v52,v53,v54,v55,v56,v57,v58,v59,v60,v61,v62,v63,v64,v65,v66,v67,v68,v69,v70,v71,v72,v73,v74,v75,v76,v77,v78,v79,v80,v81,v82,v83,v84,v85,v86,v87,v88,v89,v90,v91,v92,v93,v94,v95,v96,v97,v98,v99,v100,v101,v102,v103,v104,v105,v106,v107,v108,v109,v110,v111,v112,v113,v114,v115,v116,v117,v118,v119,v120,v121,v122,v123,v124,v125,v126,v127,v128,v129,v130,v131,v132,v133,v134,v135,v136,v137,v138,v139,v140,v141,v142,v143,v144,v145,v146,v147,v148,v149,v150,v151,v152,v153,v154,v155,v156,v157,v158,v159,v160,v161,v162,v163,v164,v165,v166,v167,v168,v169,v170,v171,v172,v173,v174,v175,v176,v177,v178,v179],[]⟩ wc:=by
 conv=>arg 2;whnf
 have HE0:=Y0 HE.out.drew
 have HX0:=Y0 (blk_drew HX.out)
 refine start_ (n:=32) (S:=fun w'=>(Instr.lookup 169 (.map (some m1)) (.string y4) false).run Tryz.prog w' = .ok (.bool false) w'∧w'.cell? ⟨vb,4,none⟩=some (.string y4)∧w'.cell? ⟨vb,5,none⟩=some (.int .i64 y5)∧w'.cell? ⟨vb,3,none⟩=some (.int .i64 y3)∧w'.cell? ⟨vb,6,none⟩=some (.int .i64 y6)∧(Instr.lookup 170 (.map (some m2)) (.int .i64 y5) false).run Tryz.prog w' = .ok (.bool false) w'∧w'.cell? ⟨D,2,none⟩=some (.slice AO O.length cO)) (ds:=[31]) #[false,false,false,false,false,false,false,false,false,false,false,false,false,false,false,false,false,false,false,false,false,false,false,false,false,false,false,false,false,false,false,false] J0 rfl rfl ⟨(HL1.out _ HE0.out.ss),(blk_cell HX0.out 4),(blk_cell HX0.out 5),(blk_cell HX0.out 3),(blk_cell HX0.out 6),(HL2.out _ HE0.out.is),((blk_cell HE0.out.bx 2).trans HB2.out)⟩ (fun hHeld=>?_)
 refine pure_ (i:=0) (N:=some 73) (v:=?_) (a':=?_) (sqB 32 1) rfl rfl J0 (fun _ _ _ h=>h) (Or.inl ⟨J19,?_⟩) ?_ ?_;rotate_left;intro w';go_simp;with_reducible rfl;rotate_left;simp only [Act.put,Y14,Y15,Y16,i64_w];rfl
 refine pure_ (i:=1) (N:=some 74) (v:=?_) (a':=?_) (sqB 32 3) rfl rfl J0 (fun _ _ _ h=>h) (Or.inl ⟨J19,?_⟩) ?_ ?_;rotate_left;intro w';go_simp;with_reducible rfl;rotate_left;simp only [Act.put,Y14,Y15,Y16,i64_w];rfl
 refine pure_ (i:=2) (N:=some 75) (v:=?_) (a':=?_) (sqB 32 7) rfl rfl J0 (fun _ _ _ h=>h) (Or.inl ⟨J19,?_⟩) ?_ ?_;rotate_left;intro w';go_simp;with_reducible rfl;rotate_left;simp only [Act.put,Y14,Y15,Y16,i64_w];rfl
 refine pure_ (i:=29) (N:=some 102) (v:=?_) (a':=?_) (sqB 32 536870919) rfl rfl J0 (fun _ _ _ h=>h) (Or.inl ⟨J19,?_⟩) ?_ ?_;rotate_left;intro w';go_simp;with_reducible rfl;rotate_left;simp only [Act.put,Y14,Y15,Y16,i64_w];rfl
 refine take_ (i:=3) (N:=some 76) (v:=?_) (a':=?_) (sqB 32 536870927) rfl rfl J0 (fun _ _ _ h=>h) (Or.inl ⟨J19,?_⟩) hHeld ?_ ?_;rotate_left;rintro w' ⟨s0,s1,s2,s3,s4,s5,s6⟩;go_simp;with_reducible rfl;rotate_left;simp only [Act.put,Y14,Y15,Y16,i64_w];rfl
 refine take_ (i:=4) (N:=some 77) (v:=?_) (a':=?_) (sqB 32 536870943) rfl rfl J0 (fun _ _ _ h=>h) (Or.inl ⟨J19,?_⟩) hHeld ?_ ?_;rotate_left;rintro w' ⟨s0,s1,s2,s3,s4,s5,s6⟩;go_simp;with_reducible rfl;rotate_left;simp only [Act.put,Y14,Y15,Y16,i64_w];rfl
 refine pure_ (i:=5) (N:=some 78) (v:=?_) (a':=?_) (sqB 32 536870975) rfl rfl J0 (fun _ _ _ h=>h) (Or.inl ⟨J19,?_⟩) ?_ ?_;rotate_left;intro w';go_simp;with_reducible rfl;rotate_left;simp only [Act.put,Y14,Y15,Y16,i64_w];rfl
 refine pure_ (i:=6) (N:=some 79) (v:=?_) (a':=?_) (sqB 32 536871039) rfl rfl J0 (fun _ _ _ h=>h) (Or.inl ⟨J19,?_⟩) ?_ ?_;rotate_left;intro w';go_simp;with_reducible rfl;rotate_left;simp only [Act.put,Y14,Y15,Y16,i64_w];rfl
 refine take_ (i:=7) (N:=some 80) (v:=?_) (a':=?_) (sqB 32 536871167) rfl rfl J0 (fun _ _ _ h=>h) (Or.inl ⟨J19,?_⟩) hHeld ?_ ?_;rotate_left;rintro w' ⟨s0,s1,s2,s3,s4,s5,s6⟩;go_simp;with_reducible rfl;rotate_left;simp only [Act.put,Y14,Y15,Y16,i64_w];rfl
 refine take_ (i:=30) (N:=some 103) (v:=?_) (a':=?_) (sqB 32 1610612991) rfl rfl J0 (fun _ _ _ h=>h) (Or.inl ⟨J19,?_⟩) hHeld ?_ ?_;rotate_left;rintro w' ⟨s0,s1,s2,s3,s4,s5,s6⟩;go_simp;with_reducible rfl;rotate_left;simp only [Act.put,Y14,Y15,Y16,i64_w];rfl
 refine one_ (i:=8) (N:=some 81) (sqB 32 1610613247) rfl rfl J0 J11 (fun K hK=>?_)
 refine goes_ Tryz.func98 J0 rfl #[.int .i64 y5] J19 rfl rfl J32 ?_
 with_reducible refine (table_number.calls y5 true _ HNUM.out).mono ?_
 rintro e1 W1 ⟨rfl,hd⟩
 refine ⟨_,rfl,?_⟩
 have HE1:=Y0 (HE0.out.drawn hd)
 have HX1:=Y0 (blk_below HX0.out hd.below)
 clear hd
 refine hK.out _ _ ⟨(HL1.out _ HE1.out.ss),(blk_cell HX1.out 4),(blk_cell HX1.out 5),(blk_cell HX1.out 3),(blk_cell HX1.out 6),(HL2.out _ HE1.out.is),((blk_cell HE1.out.bx 2).trans HB2.out)⟩ (fun hHeld=>?_)
 clear hK K
 refine norm_ (a':=?_) ?_ ?_;rotate_left;show Act.put _ (some 81) _=_;simp only [Act.put,Y14,Y15,Y16,i64_w];rfl
 refine pure_ (i:=9) (N:=some 82) (v:=?_) (a':=?_) (sqB 32 1610613759) rfl rfl J0 (fun _ _ _ h=>h) (Or.inl ⟨J19,?_⟩) ?_ ?_;rotate_left;intro w';go_simp;with_reducible rfl;rotate_left;simp only [Act.put,Y14,Y15,Y16,i64_w];rfl
 refine pure_ (i:=10) (N:=some 83) (v:=?_) (a':=?_) (sqB 32 1610614783) rfl rfl J0 (fun _ _ _ h=>h) (Or.inl ⟨J19,?_⟩) ?_ ?_;rotate_left;intro w';go_simp;with_reducible rfl;rotate_left;simp only [Act.put,Y14,Y15,Y16,i64_w];rfl
 refine pure_ (i:=11) (N:=some 84) (v:=?_) (a':=?_) (sqB 32 1610616831) rfl rfl J0 (fun _ _ _ h=>h) (Or.inl ⟨J19,?_⟩) ?_ ?_;rotate_left;intro w';go_simp;with_reducible rfl;rotate_left;simp only [Act.put,Y14,Y15,Y16,i64_w];rfl
 refine pure_ (i:=12) (N:=some 85) (v:=?_) (a':=?_) (sqB 32 1610620927) rfl rfl J0 (fun _ _ _ h=>h) (Or.inl ⟨J19,?_⟩) ?_ ?_;rotate_left;intro w';go_simp;with_reducible rfl;rotate_left;simp only [Act.put,Y14,Y15,Y16,i64_w];rfl
 refine pure_ (i:=13) (N:=some 86) (v:=?_) (a':=?_) (sqB 32 1610629119) rfl rfl J0 (fun _ _ _ h=>h) (Or.inl ⟨J19,?_⟩) ?_ ?_;rotate_left;intro w';go_simp;with_reducible rfl;rotate_left;simp only [Act.put,Y14,Y15,Y16,i64_w];rfl
 refine take_ (i:=14) (N:=some 87) (v:=?_) (a':=?_) (sqB 32 1610645503) rfl rfl J0 (fun _ _ _ h=>h) (Or.inl ⟨J19,?_⟩) hHeld ?_ ?_;rotate_left;rintro w' ⟨s0,s1,s2,s3,s4,s5,s6⟩;go_simp;with_reducible rfl;rotate_left;simp only [Act.put,Y14,Y15,Y16,i64_w];rfl
 refine take_ (i:=15) (N:=some 88) (v:=?_) (a':=?_) (sqB 32 1610678271) rfl rfl J0 (fun _ _ _ h=>h) (Or.inl ⟨J19,?_⟩) hHeld ?_ ?_;rotate_left;rintro w' ⟨s0,s1,s2,s3,s4,s5,s6⟩;go_simp;with_reducible rfl;rotate_left;simp only [Act.put,Y14,Y15,Y16,i64_w];rfl
 refine pure_ (i:=16) (N:=some 89) (v:=?_) (a':=?_) (sqB 32 1610743807) rfl rfl J0 (fun _ _ _ h=>h) (Or.inl ⟨J19,?_⟩) ?_ ?_;rotate_left;intro w';go_simp;with_reducible rfl;rotate_left;simp only [Act.put,Y14,Y15,Y16,i64_w];rfl
 refine pure_ (i:=17) (N:=some 90) (v:=?_) (a':=?_) (sqB 32 1610874879) rfl rfl J0 (fun _ _ _ h=>h) (Or.inl ⟨J19,?_⟩) ?_ ?_;rotate_left;intro w';go_simp;with_reducible rfl;rotate_left;simp only [Act.put,Y14,Y15,Y16,i64_w];rfl
 refine pure_ (i:=18) (N:=some 91) (v:=?_) (a':=?_) (sqB 32 1611137023) rfl rfl J0 (fun _ _ _ h=>h) (Or.inl ⟨J19,?_⟩) ?_ ?_;rotate_left;intro w';go_simp;with_reducible rfl;rotate_left;simp only [Act.put,Y14,Y15,Y16,i64_w];rfl
 refine pure_ (i:=20) (N:=some 93) (v:=?_) (a':=?_) (sqB 32 1612185599) rfl rfl J0 (fun _ _ _ h=>h) (Or.inl ⟨J19,?_⟩) ?_ ?_;rotate_left;intro w';go_simp;with_reducible rfl;rotate_left;simp only [Act.put,Y14,Y15,Y16,i64_w];rfl
 refine take_ (i:=19) (N:=some 92) (v:=?_) (a':=?_) (sqB 32 1612709887) rfl rfl J0 (fun _ _ _ h=>h) (Or.inl ⟨J19,?_⟩) hHeld ?_ ?_;rotate_left;rintro w' ⟨s0,s1,s2,s3,s4,s5,s6⟩;go_simp;with_reducible rfl;rotate_left;simp only [Act.put,Y14,Y15,Y16,i64_w];rfl
 refine take_ (i:=21) (N:=some 94) (v:=?_) (a':=?_) (sqB 32 1614807039) rfl rfl J0 (fun _ _ _ h=>h) (Or.inl ⟨J19,?_⟩) hHeld ?_ ?_;rotate_left;rintro w' ⟨s0,s1,s2,s3,s4,s5,s6⟩;go_simp;with_reducible rfl;rotate_left;simp only [Act.put,Y14,Y15,Y16,i64_w];rfl
 refine pure_ (i:=22) (N:=some 95) (v:=?_) (a':=?_) (sqB 32 1619001343) rfl rfl J0 (fun _ _ _ h=>h) (Or.inl ⟨J19,?_⟩) ?_ ?_;rotate_left;intro w';go_simp;with_reducible rfl;rotate_left;simp only [Act.put,Y14,Y15,Y16,i64_w];rfl
 refine one_ (i:=23) (N:=some 96) (sqB 32 1627389951) rfl rfl J0 J11 (fun K hK=>?_)
 refine goes_ Tryz.func60 J0 rfl #[.int .i64 y3,.int .i64 0,.int .i64 O.length] J19 rfl rfl J32 ?_
 with_reducible refine (table_in.calls y3 0 O.length false _ HIN.out).mono ?_
 rintro e2 W2 ⟨rfl,hd⟩
 refine ⟨_,rfl,?_⟩
 have HE2:=Y0 (HE1.out.drawn hd)
 have HX2:=Y0 (blk_below HX1.out hd.below)
 clear hd
 refine hK.out _ _ ⟨(HL1.out _ HE2.out.ss),(blk_cell HX2.out 4),(blk_cell HX2.out 5),(blk_cell HX2.out 3),(blk_cell HX2.out 6),(HL2.out _ HE2.out.is),((blk_cell HE2.out.bx 2).trans HB2.out)⟩ (fun hHeld=>?_)
 clear hK K
 refine norm_ (a':=?_) ?_ ?_;rotate_left;show Act.put _ (some 96) _=_;simp only [Act.put,Y14,Y15,Y16,i64_w];rfl
 refine pure_ (i:=24) (N:=some 97) (v:=?_) (a':=?_) (sqB 32 1644167167) rfl rfl J0 (fun _ _ _ h=>h) (Or.inl ⟨J19,?_⟩) ?_ ?_;rotate_left;intro w';go_simp;with_reducible rfl;rotate_left;simp only [Act.put,Y14,Y15,Y16,i64_w];rfl
 refine pure_ (i:=25) (N:=some 98) (v:=?_) (a':=?_) (sqB 32 1677721599) rfl rfl J0 (fun _ _ _ h=>h) (Or.inl ⟨J19,?_⟩) ?_ ?_;rotate_left;intro w';go_simp;with_reducible rfl;rotate_left;simp only [Act.put,Y14,Y15,Y16,i64_w];rfl
 refine pure_ (i:=26) (N:=some 99) (v:=?_) (a':=?_) (sqB 32 1744830463) rfl rfl J0 (fun _ _ _ h=>h) (Or.inl ⟨J19,?_⟩) ?_ ?_;rotate_left;intro w';go_simp;with_reducible rfl;rotate_left;simp only [Act.put,Y14,Y15,Y16,i64_w];rfl
 refine pure_ (i:=27) (N:=some 100) (v:=undef) (a':=?_) (sqB 32 1879048191) rfl rfl J0 (fun _ _ _ h=>h) (Or.inr ⟨J19,rfl⟩) ?_ ?_;rotate_left;simp only [Act.put,Y14,Y15,Y16,i64_w];rfl
 refine pure_ (i:=28) (N:=some 101) (v:=?_) (a':=?_) (sqB 32 2147483647) rfl rfl J0 (fun _ _ _ h=>h) (Or.inl ⟨J19,?_⟩) ?_ ?_;rotate_left;intro w';go_simp;with_reducible rfl;rotate_left;simp only [Act.put,Y14,Y15,Y16,i64_w];rfl
 refine last_ (i:=31) (N:=some 104) (sqB 32 4294967295) rfl rfl J0 J11 (fun K hK=>?_)
 refine goes_ Tryz.func56 J0 rfl #[.pointer (some ⟨p,0,none⟩),.bool true,.int .i64 y6,.int .i64 4] J19 rfl rfl J32 ?_
 with_reducible refine (fail_s HE2.out.rs.blk true y6 4).mono ?_
 rintro e3 W3 ⟨rfl,hr3,hk3,-,hb3⟩
 refine ⟨_,rfl,?_⟩
 have n1_:=HE2.out.err hr3 hk3 hb3
 have n2_:=hk3.blk HX2.out (blk_ne HX2.out HE2.out.rs.blk J11) J53
 clear hr3 hk3 hb3
 refine hK.out _ _ ?_
 clear hK K
 refine norm_ (a':=?_) ?_ ?_;rotate_left;show Act.put _ (some 104) _=_;simp only [Act.put,Y14,Y15,Y16,i64_w];rfl
 refine done_ J0 ?_
 exact hK _ _ _ _ _ _ _ _ _ _ _ _ _ _ _ _ _ _ _ _ _ _ _ _ _ _ _ _ _ _ _ _ _ n1_ n2_
set_option maxHeartbeats 8000000 in
set_option maxRecDepth 1000000 in
theorem w17_5 {w0 wc:World} {D p mb n:Nat} {vA vB:Value} {f:List UInt8→Option (Int × Int)} {M:List (S57)} {E:List (S119)} {a1 e1:Int} {vM vE:Value} {h:Nat} {x0:ByteArray} {G:List (S51)} {vG:Value} {m1 m2 k1 k2:Nat} {S:List UInt8→Option Bool} {T:Int→Option Bool} {bx:Array Value} {vb:Nat} {y0 y1:ByteArray} {y2:Bool} {y3:Int} {y4:ByteArray} {y5 y6:Int} {O:List ByteArray} {AO:Option Addr} {cO:Nat} {TT:Bool} (HE:Aside0 (MI w0 D p mb n vA vB f M E a1 e1 vM vE h x0 G vG vG m1 m2 k1 k2 S T bx wc)) (HX:Aside0 (wc.heap[vb]?=some (.cells #[.string y0,.string y1,.bool y2,.int .i64 y3,.string y4,.int .i64 y5,.int .i64 y6] 36 (0,0)))) (HB2:Aside0 (bx[2]?=some (.slice AO O.length cO))) (HL1:Aside0 (∀ U:World,SSet U m1 k1 S→(Instr.lookup 169 (.map (some m1)) (.string y4) false).run Tryz.prog U = .ok (.bool false) U)) (HNUM:Aside0 (table_number.f y5=some true)) (HL2:Aside0 (∀ U:World,ISet U m2 k2 T→(Instr.lookup 170 (.map (some m2)) (.int .i64 y5) false).run Tryz.prog U = .ok (.bool false) U)) (HIN:Aside0 (table_in.f y3 0 O.length=some true)) {K0 K1 K2 K3:Act→World→Prop} {POST:Ending→World→Prop} (v1 v2 v4 v7 v8 v9 v10 v11 v14 v15 v16 v17 v18 v19 v20 v21 v22 v23 v24 v25 v26 v27 v28 v29 v30 v31 v32 v33 v34 v35 v36 v37 v38 v39 v40 v41 v42 v43 v44 v45 v46 v47 v48 v49 v50 v51 v52 v53 v54 v55 v56 v57 v58 v59 v60 v61 v62 v63 v64 v65 v66 v67 v68 v69 v70 v71 v72 v105 v106 v107 v108 v109 v110 v111 v112 v113 v114 v115 v116 v117 v118 v119 v120 v121 v122 v123 v124 v125 v126 v127 v128 v129 v130 v131 v132 v133 v134 v135 v136 v137 v138 v139 v140 v141 v142 v143 v144 v145 v146 v147 v148 v149 v150 v151 v152 v153 v154 v155 v156 v157 v158 v159 v160 v161 v162 v163 v164 v165 v166 v167 v168 v169 v170 v171 v172 v173 v174 v175 v176 v177 v178 v179 v73 v74 v75 v76 v77 v78 v79 v80 v81 v82 v83 v84 v85 v86 v87 v88 v89 v90 v91 v92 v93 v94 v95 v96 v97 v98 v99 v100 v101 v102 v103 v104:Value)
  (hK:∀ (u73 u74 u75 u76 u77 u78 u79 u80 u81 u82 u83 u84 u85 u86 u87 u88 u89 u90 u91 u92 u93 u94 u95 u96 u97 u98 u99 u100 u101 u102 u103 u104:Value) (W':World),MI w0 D p mb n vA vB f M E (failE a1 e1 TT y6 4).1 (failE a1 e1 TT y6 4).2 vM vE h x0 G vG vG m1 m2 k1 k2 S T bx W'→W'.heap[vb]?=some (.cells #[.string y0,.string y1,.bool y2,.int .i64 y3,.string y4,.int .i64 y5,.int .i64 y6] 36 (0,0))→K0 ⟨#[.pointer (some ⟨p,0,none⟩),v1,v2,.pointer (some ⟨D,0,none⟩),v4,.map (some m1),.map (some m2),v7,v8,v9,v10,v11,.pointer (some ⟨vb,0,none⟩),.bool TT,v14,v15,v16,v17,v18,v19,v20,v21,v22,v23,v24,v25,v26,v27,v28,v29,v30,v31,v32,v33,v34,v35,v36,v37,v38,v39,v40,v41,v42,v43,v44,v45,v46,v47,v48,v49,v50,v51,v52,v53,v54,v55,v56,v57,v58,v59,v60,v61,v62,v63,v64,v65,v66,v67,v68,v69,v70,v71,v72,u73,u74,u75,u76,u77,u78,u79,u80,u81,u82,u83,u84,u85,u86,u87,u88,u89,u90,u91,u92,u93,u94,u95,u96,u97,u98,u99,u100,u101,u102,u103,u104,v105,v106,v107,v108,v109,v110,v111,v112,v113,v114,v115,v116,v117,v118,v119,v120,v121,v122,v123,v124,v125,v126,v127,v128,v129,v130,v131,v132,v133,v134,v135,v136,v137,v138,v139,v140,v141,v142,v143,v144,v145,v146,v147,v148,v149,v150,v151,v152,v153,v154,v155,v156,v157,v158,v159,v160,v161,v162,v163,v164,v165,v166,v167,v168,v169,v170,v171,v172,v173,v174,v175,v176,v177,v178,v179],[]⟩ W') :
  Code.wp Tryz.prog code17 (Exit.then K0 (Exit.inBlock 5 (Exit.then K1 (Exit.then K2 (Exit.inBlock 4 (Exit.then K3 (bodyPost Tryz.prog Tryz.f57 POST))))))) ⟨#[.pointer (some ⟨p,0,none⟩),v1,v2,.pointer (some ⟨D,0,none⟩),v4,.map (some m1),.map (some m2),v7,v8,v9,v10,v11,.pointer (some ⟨vb,0,none⟩),.bool TT,v14,v15,v16,v17,v18,v19,v20,v21,v22,v23,v24,v25,v26,v27,v28,v29,v30,v31,v32,v33,v34,v35,v36,v37,v38,v39,v40,v41,v42,v43,v44,v45,v46,v47,v48,v49,v50,v51,v52,v53,v54,v55,v56,v57,v58,v59,v60,v61,v62,v63,v64,v65,v66,v67,v68,v69,v70,v71,v72,v73,v74,v75,v76,v77,v78,v79,v80,v81,v82,v83,v84,v85,v86,v87,v88,v89,v90,v91,v92,v93,v94,v95,v96,v97,v98,v99,v100,v101,v102,v103,v104,v105,v106,v107,v108,v109,v110,v111,v112,v113,v114,v115,v116,v117,v118,v119,v120,v121,v122,v123,v124,v125,v126,v127,v128,v129,v130,v131,v132,v133,v134,v135,v136,v137,v138,v139,v140,v141,v142,v143,v144,v145,v146,v147,v148,v149,v150,v151,v152,v153,v154,v155,v156,v157,v158,v159,v160,v161,v162,v163,v164,v165,v166,v167,v168,v169,v170,v171,v172,v173,v174,v175,v176,v177,v178,v179],[]⟩ wc:=by
 conv=>arg 2;whnf
 have HE0:=Y0 HE.out.drew
 have HX0:=Y0 (blk_drew HX.out)
 refine start_ (n:=32) (S:=fun w'=>(Instr.lookup 169 (.map (some m1)) (.string y4) false).run Tryz.prog w' = .ok (.bool false) w'∧w'.cell? ⟨vb,4,none⟩=some (.string y4)∧w'.cell? ⟨vb,5,none⟩=some (.int .i64 y5)∧w'.cell? ⟨vb,3,none⟩=some (.int .i64 y3)∧w'.cell? ⟨vb,6,none⟩=some (.int .i64 y6)∧(Instr.lookup 170 (.map (some m2)) (.int .i64 y5) false).run Tryz.prog w' = .ok (.bool false) w'∧w'.cell? ⟨D,2,none⟩=some (.slice AO O.length cO)) (ds:=[31]) #[false,false,false,false,false,false,false,false,false,false,false,false,false,false,false,false,false,false,false,false,false,false,false,false,false,false,false,false,false,false,false,false] J0 rfl rfl ⟨(HL1.out _ HE0.out.ss),(blk_cell HX0.out 4),(blk_cell HX0.out 5),(blk_cell HX0.out 3),(blk_cell HX0.out 6),(HL2.out _ HE0.out.is),((blk_cell HE0.out.bx 2).trans HB2.out)⟩ (fun hHeld=>?_)
 refine pure_ (i:=0) (N:=some 73) (v:=?_) (a':=?_) (sqB 32 1) rfl rfl J0 (fun _ _ _ h=>h) (Or.inl ⟨J19,?_⟩) ?_ ?_;rotate_left;intro w';go_simp;with_reducible rfl;rotate_left;simp only [Act.put,Y14,Y15,Y16,i64_w];rfl
 refine pure_ (i:=1) (N:=some 74) (v:=?_) (a':=?_) (sqB 32 3) rfl rfl J0 (fun _ _ _ h=>h) (Or.inl ⟨J19,?_⟩) ?_ ?_;rotate_left;intro w';go_simp;with_reducible rfl;rotate_left;simp only [Act.put,Y14,Y15,Y16,i64_w];rfl
 refine pure_ (i:=2) (N:=some 75) (v:=?_) (a':=?_) (sqB 32 7) rfl rfl J0 (fun _ _ _ h=>h) (Or.inl ⟨J19,?_⟩) ?_ ?_;rotate_left;intro w';go_simp;with_reducible rfl;rotate_left;simp only [Act.put,Y14,Y15,Y16,i64_w];rfl
 refine pure_ (i:=29) (N:=some 102) (v:=?_) (a':=?_) (sqB 32 536870919) rfl rfl J0 (fun _ _ _ h=>h) (Or.inl ⟨J19,?_⟩) ?_ ?_;rotate_left;intro w';go_simp;with_reducible rfl;rotate_left;simp only [Act.put,Y14,Y15,Y16,i64_w];rfl
 refine take_ (i:=3) (N:=some 76) (v:=?_) (a':=?_) (sqB 32 536870927) rfl rfl J0 (fun _ _ _ h=>h) (Or.inl ⟨J19,?_⟩) hHeld ?_ ?_;rotate_left;rintro w' ⟨s0,s1,s2,s3,s4,s5,s6⟩;go_simp;with_reducible rfl;rotate_left;simp only [Act.put,Y14,Y15,Y16,i64_w];rfl
 refine take_ (i:=4) (N:=some 77) (v:=?_) (a':=?_) (sqB 32 536870943) rfl rfl J0 (fun _ _ _ h=>h) (Or.inl ⟨J19,?_⟩) hHeld ?_ ?_;rotate_left;rintro w' ⟨s0,s1,s2,s3,s4,s5,s6⟩;go_simp;with_reducible rfl;rotate_left;simp only [Act.put,Y14,Y15,Y16,i64_w];rfl
 refine pure_ (i:=5) (N:=some 78) (v:=?_) (a':=?_) (sqB 32 536870975) rfl rfl J0 (fun _ _ _ h=>h) (Or.inl ⟨J19,?_⟩) ?_ ?_;rotate_left;intro w';go_simp;with_reducible rfl;rotate_left;simp only [Act.put,Y14,Y15,Y16,i64_w];rfl
 refine pure_ (i:=6) (N:=some 79) (v:=?_) (a':=?_) (sqB 32 536871039) rfl rfl J0 (fun _ _ _ h=>h) (Or.inl ⟨J19,?_⟩) ?_ ?_;rotate_left;intro w';go_simp;with_reducible rfl;rotate_left;simp only [Act.put,Y14,Y15,Y16,i64_w];rfl
 refine take_ (i:=7) (N:=some 80) (v:=?_) (a':=?_) (sqB 32 536871167) rfl rfl J0 (fun _ _ _ h=>h) (Or.inl ⟨J19,?_⟩) hHeld ?_ ?_;rotate_left;rintro w' ⟨s0,s1,s2,s3,s4,s5,s6⟩;go_simp;with_reducible rfl;rotate_left;simp only [Act.put,Y14,Y15,Y16,i64_w];rfl
 refine take_ (i:=30) (N:=some 103) (v:=?_) (a':=?_) (sqB 32 1610612991) rfl rfl J0 (fun _ _ _ h=>h) (Or.inl ⟨J19,?_⟩) hHeld ?_ ?_;rotate_left;rintro w' ⟨s0,s1,s2,s3,s4,s5,s6⟩;go_simp;with_reducible rfl;rotate_left;simp only [Act.put,Y14,Y15,Y16,i64_w];rfl
 refine one_ (i:=8) (N:=some 81) (sqB 32 1610613247) rfl rfl J0 J11 (fun K hK=>?_)
 refine goes_ Tryz.func98 J0 rfl #[.int .i64 y5] J19 rfl rfl J32 ?_
 with_reducible refine (table_number.calls y5 true _ HNUM.out).mono ?_
 rintro e1 W1 ⟨rfl,hd⟩
 refine ⟨_,rfl,?_⟩
 have HE1:=Y0 (HE0.out.drawn hd)
 have HX1:=Y0 (blk_below HX0.out hd.below)
 clear hd
 refine hK.out _ _ ⟨(HL1.out _ HE1.out.ss),(blk_cell HX1.out 4),(blk_cell HX1.out 5),(blk_cell HX1.out 3),(blk_cell HX1.out 6),(HL2.out _ HE1.out.is),((blk_cell HE1.out.bx 2).trans HB2.out)⟩ (fun hHeld=>?_)
 clear hK K
 refine norm_ (a':=?_) ?_ ?_;rotate_left;show Act.put _ (some 81) _=_;simp only [Act.put,Y14,Y15,Y16,i64_w];rfl
 refine pure_ (i:=9) (N:=some 82) (v:=?_) (a':=?_) (sqB 32 1610613759) rfl rfl J0 (fun _ _ _ h=>h) (Or.inl ⟨J19,?_⟩) ?_ ?_;rotate_left;intro w';go_simp;with_reducible rfl;rotate_left;simp only [Act.put,Y14,Y15,Y16,i64_w];rfl
 refine pure_ (i:=10) (N:=some 83) (v:=?_) (a':=?_) (sqB 32 1610614783) rfl rfl J0 (fun _ _ _ h=>h) (Or.inl ⟨J19,?_⟩) ?_ ?_;rotate_left;intro w';go_simp;with_reducible rfl;rotate_left;simp only [Act.put,Y14,Y15,Y16,i64_w];rfl
 refine pure_ (i:=11) (N:=some 84) (v:=?_) (a':=?_) (sqB 32 1610616831) rfl rfl J0 (fun _ _ _ h=>h) (Or.inl ⟨J19,?_⟩) ?_ ?_;rotate_left;intro w';go_simp;with_reducible rfl;rotate_left;simp only [Act.put,Y14,Y15,Y16,i64_w];rfl
 refine pure_ (i:=12) (N:=some 85) (v:=?_) (a':=?_) (sqB 32 1610620927) rfl rfl J0 (fun _ _ _ h=>h) (Or.inl ⟨J19,?_⟩) ?_ ?_;rotate_left;intro w';go_simp;with_reducible rfl;rotate_left;simp only [Act.put,Y14,Y15,Y16,i64_w];rfl
 refine pure_ (i:=13) (N:=some 86) (v:=?_) (a':=?_) (sqB 32 1610629119) rfl rfl J0 (fun _ _ _ h=>h) (Or.inl ⟨J19,?_⟩) ?_ ?_;rotate_left;intro w';go_simp;with_reducible rfl;rotate_left;simp only [Act.put,Y14,Y15,Y16,i64_w];rfl
 refine take_ (i:=14) (N:=some 87) (v:=?_) (a':=?_) (sqB 32 1610645503) rfl rfl J0 (fun _ _ _ h=>h) (Or.inl ⟨J19,?_⟩) hHeld ?_ ?_;rotate_left;rintro w' ⟨s0,s1,s2,s3,s4,s5,s6⟩;go_simp;with_reducible rfl;rotate_left;simp only [Act.put,Y14,Y15,Y16,i64_w];rfl
 refine take_ (i:=15) (N:=some 88) (v:=?_) (a':=?_) (sqB 32 1610678271) rfl rfl J0 (fun _ _ _ h=>h) (Or.inl ⟨J19,?_⟩) hHeld ?_ ?_;rotate_left;rintro w' ⟨s0,s1,s2,s3,s4,s5,s6⟩;go_simp;with_reducible rfl;rotate_left;simp only [Act.put,Y14,Y15,Y16,i64_w];rfl
 refine pure_ (i:=16) (N:=some 89) (v:=?_) (a':=?_) (sqB 32 1610743807) rfl rfl J0 (fun _ _ _ h=>h) (Or.inl ⟨J19,?_⟩) ?_ ?_;rotate_left;intro w';go_simp;with_reducible rfl;rotate_left;simp only [Act.put,Y14,Y15,Y16,i64_w];rfl
 refine pure_ (i:=17) (N:=some 90) (v:=?_) (a':=?_) (sqB 32 1610874879) rfl rfl J0 (fun _ _ _ h=>h) (Or.inl ⟨J19,?_⟩) ?_ ?_;rotate_left;intro w';go_simp;with_reducible rfl;rotate_left;simp only [Act.put,Y14,Y15,Y16,i64_w];rfl
 refine pure_ (i:=18) (N:=some 91) (v:=?_) (a':=?_) (sqB 32 1611137023) rfl rfl J0 (fun _ _ _ h=>h) (Or.inl ⟨J19,?_⟩) ?_ ?_;rotate_left;intro w';go_simp;with_reducible rfl;rotate_left;simp only [Act.put,Y14,Y15,Y16,i64_w];rfl
 refine pure_ (i:=20) (N:=some 93) (v:=?_) (a':=?_) (sqB 32 1612185599) rfl rfl J0 (fun _ _ _ h=>h) (Or.inl ⟨J19,?_⟩) ?_ ?_;rotate_left;intro w';go_simp;with_reducible rfl;rotate_left;simp only [Act.put,Y14,Y15,Y16,i64_w];rfl
 refine take_ (i:=19) (N:=some 92) (v:=?_) (a':=?_) (sqB 32 1612709887) rfl rfl J0 (fun _ _ _ h=>h) (Or.inl ⟨J19,?_⟩) hHeld ?_ ?_;rotate_left;rintro w' ⟨s0,s1,s2,s3,s4,s5,s6⟩;go_simp;with_reducible rfl;rotate_left;simp only [Act.put,Y14,Y15,Y16,i64_w];rfl
 refine take_ (i:=21) (N:=some 94) (v:=?_) (a':=?_) (sqB 32 1614807039) rfl rfl J0 (fun _ _ _ h=>h) (Or.inl ⟨J19,?_⟩) hHeld ?_ ?_;rotate_left;rintro w' ⟨s0,s1,s2,s3,s4,s5,s6⟩;go_simp;with_reducible rfl;rotate_left;simp only [Act.put,Y14,Y15,Y16,i64_w];rfl
 refine pure_ (i:=22) (N:=some 95) (v:=?_) (a':=?_) (sqB 32 1619001343) rfl rfl J0 (fun _ _ _ h=>h) (Or.inl ⟨J19,?_⟩) ?_ ?_;rotate_left;intro w';go_simp;with_reducible rfl;rotate_left;simp only [Act.put,Y14,Y15,Y16,i64_w];rfl
 refine one_ (i:=23) (N:=some 96) (sqB 32 1627389951) rfl rfl J0 J11 (fun K hK=>?_)
 refine goes_ Tryz.func60 J0 rfl #[.int .i64 y3,.int .i64 0,.int .i64 O.length] J19 rfl rfl J32 ?_
 with_reducible refine (table_in.calls y3 0 O.length true _ HIN.out).mono ?_
 rintro e2 W2 ⟨rfl,hd⟩
 refine ⟨_,rfl,?_⟩
 have HE2:=Y0 (HE1.out.drawn hd)
 have HX2:=Y0 (blk_below HX1.out hd.below)
 clear hd
 refine hK.out _ _ ⟨(HL1.out _ HE2.out.ss),(blk_cell HX2.out 4),(blk_cell HX2.out 5),(blk_cell HX2.out 3),(blk_cell HX2.out 6),(HL2.out _ HE2.out.is),((blk_cell HE2.out.bx 2).trans HB2.out)⟩ (fun hHeld=>?_)
 clear hK K
 refine norm_ (a':=?_) ?_ ?_;rotate_left;show Act.put _ (some 96) _=_;simp only [Act.put,Y14,Y15,Y16,i64_w];rfl
 refine pure_ (i:=24) (N:=some 97) (v:=?_) (a':=?_) (sqB 32 1644167167) rfl rfl J0 (fun _ _ _ h=>h) (Or.inl ⟨J19,?_⟩) ?_ ?_;rotate_left;intro w';go_simp;with_reducible rfl;rotate_left;simp only [Act.put,Y14,Y15,Y16,i64_w];rfl
 refine pure_ (i:=25) (N:=some 98) (v:=?_) (a':=?_) (sqB 32 1677721599) rfl rfl J0 (fun _ _ _ h=>h) (Or.inl ⟨J19,?_⟩) ?_ ?_;rotate_left;intro w';go_simp;with_reducible rfl;rotate_left;simp only [Act.put,Y14,Y15,Y16,i64_w];rfl
 refine pure_ (i:=26) (N:=some 99) (v:=?_) (a':=?_) (sqB 32 1744830463) rfl rfl J0 (fun _ _ _ h=>h) (Or.inl ⟨J19,?_⟩) ?_ ?_;rotate_left;intro w';go_simp;with_reducible rfl;rotate_left;simp only [Act.put,Y14,Y15,Y16,i64_w];rfl
 refine pure_ (i:=27) (N:=some 100) (v:=?_) (a':=?_) (sqB 32 1879048191) rfl rfl J0 (fun _ _ _ h=>h) (Or.inl ⟨J19,?_⟩) ?_ ?_;rotate_left;intro w';go_simp;with_reducible rfl;rotate_left;simp only [Act.put,Y14,Y15,Y16,i64_w];rfl
 refine pure_ (i:=28) (N:=some 101) (v:=?_) (a':=?_) (sqB 32 2147483647) rfl rfl J0 (fun _ _ _ h=>h) (Or.inl ⟨J19,?_⟩) ?_ ?_;rotate_left;intro w';go_simp;with_reducible rfl;rotate_left;simp only [Act.put,Y14,Y15,Y16,i64_w];rfl
 refine last_ (i:=31) (N:=some 104) (sqB 32 4294967295) rfl rfl J0 J11 (fun K hK=>?_)
 refine goes_ Tryz.func56 J0 rfl #[.pointer (some ⟨p,0,none⟩),.bool TT,.int .i64 y6,.int .i64 4] J19 rfl rfl J32 ?_
 with_reducible refine (fail_s HE2.out.rs.blk TT y6 4).mono ?_
 rintro e3 W3 ⟨rfl,hr3,hk3,-,hb3⟩
 refine ⟨_,rfl,?_⟩
 have n1_:=HE2.out.err hr3 hk3 hb3
 have n2_:=hk3.blk HX2.out (blk_ne HX2.out HE2.out.rs.blk J11) J53
 clear hr3 hk3 hb3
 refine hK.out _ _ ?_
 clear hK K
 refine norm_ (a':=?_) ?_ ?_;rotate_left;show Act.put _ (some 104) _=_;simp only [Act.put,Y14,Y15,Y16,i64_w];rfl
 refine done_ J0 ?_
 exact hK _ _ _ _ _ _ _ _ _ _ _ _ _ _ _ _ _ _ _ _ _ _ _ _ _ _ _ _ _ _ _ _ _ n1_ n2_
def RMsgP (w0:World) (p mb n:Nat) (vA vB:Value) (f:List UInt8→Option (Int × Int)) (M:List (S57)) (E:List (S119)) (r:Int × Int) (vE:Value) (en:Ending) (W':World):Prop :=
 en = .returned (.tuple #[])∧(∃ vM',RS w0.heap.size (fun _=>True) W' p mb n vA vB f M E r.1 r.2 vM' vE)∧Below w0.heap.size w0 W'
theorem info_MD:(Tryz.prog.info? 57).map (fun i=>(i.zero,i.size,i.bytes))=some (some (.agg #[(.string ⟨#[]⟩),(.slice none 0 0)]),2,40):=by kernel_rfl
theorem info_FD:(Tryz.prog.info? 51).map (fun i=>(i.zero,i.size,i.bytes))=some (some (.agg #[(.int .i64 0),(.string ⟨#[]⟩),(.int .i64 0),(.int .i64 0),(.bool false),(.int .i64 0),(.int .i64 0)]),7,64):=by kernel_rfl
theorem ones_snoc (l:List ByteArray) (x:ByteArray):onesS (l++[x])=setS (onesS l) (bl x):=by unfold onesS;rw [List.foldl_append];rfl
theorem res_snoc (l:List Int) (x:Int):resN (l++[x])=setN (resN l) x:=by unfold resN;rw [List.foldl_append];rfl
set_option maxHeartbeats 8000000 in
set_option maxRecDepth 100000 in
theorem rmsg_s {w0 W:World} {p mb n:Nat} {vA vB vM vE:Value} {f:List UInt8→Option (Int × Int)} {M:List (S57)} {E:List (S119)} {a e:Int} (H:RS w0.heap.size (fun _=>True) W p mb n vA vB f M E a e vM vE) (hw:Below w0.heap.size w0 W) (x0:ByteArray) (F:List (S36)) (O:List ByteArray) (Q:List Int) (x4:Int) (AF AO AQ:Option Addr) (cF cO cQ:Nat) (hCF:k36.C w0 AF F.length F) (hCO:Kd.string.C w0 AO O.length O) (hCQ:(Kd.int .i64).C w0 AQ Q.length Q) (hcF:F.length≤cF) (hcO:O.length≤cO) (hcQ:Q.length≤cQ) (hM:M.length≤1000000) (hn:F.length≤1759218604441∧O.length≤8796093022208∧Q.length≤17592186044416) (hzF:∀ y ∈ F,y.f0.size≤maxLen∧y.f1.size≤maxLen∧y.f4.size≤maxLen∧(Lit.int .i64 y.f5).wf=true) (hzO:∀ y ∈ O,y.size≤maxLen) (hzQ:∀ y ∈ Q,(Lit.int .i64 y).wf=true) :
  Calls Tryz.prog 57 #[.pointer (some ⟨p,0,none⟩),.agg #[.string x0,.slice AF F.length cF,.slice AO O.length cO,.slice AQ Q.length cQ,.int .i64 x4]] W (RMsgP w0 p mb n vA vB f (M++[msDef f ⟨x0,F,O,Q,x4⟩]) E (msE f ⟨x0,F,O,Q,x4⟩ a e) vE):=by
 obtain ⟨R,hR⟩:∃ R,fdL f O.length F (onesS O) (resN Q) a e=R:=⟨_,rfl⟩
 have hE0:msE f ⟨x0,F,O,Q,x4⟩ a e=R:=hR
 rw [hE0]
 obtain ⟨GG,hGG⟩:∃ GG,fdSort (F.map (fdDef f))=GG:=⟨_,rfl⟩
 have hM0:msDef f ⟨x0,F,O,Q,x4⟩=⟨x0,GG⟩:=by rw [← hGG];rfl
 rw [hM0]
 have HRR:=Y0 hR
 have HGG:=Y0 hGG
 have HQ:=Y0 H
 have HW:=Y0 hw
 have HCF:=Y0 hCF
 have HCO:=Y0 hCO
 have HCQ:=Y0 hCQ
 have HZF:=Y0 hzF
 have HZO:=Y0 hzO
 have HZQ:=Y0 hzQ
 have HML:=Y0 hM
 have HLL:=Y0 hn
 have hmF:=Kd.C_max hCF
 have hmO:=Kd.C_max hCO
 have hmQ:=Kd.C_max hCQ
 clear H hw hCF hCO hCQ hzF hzO hzQ hM hn hE0 hR hM0 hGG
 have hmm:=@run_makeMap Tryz.prog
 go_enter Tryz.func57,Tryz.ntmps57
 go_wp2_with fail
 clear hmm
 have HE0:=Y0 (MI.start HQ.out HW.out #[.string x0,.slice AF F.length cF,.slice AO O.length cO,.slice AQ Q.length cQ,.int .i64 x4] x0)
 generalize (((W.alloc (.cells #[.string x0,.slice AF F.length cF,.slice AO O.length cO,.slice AQ Q.length cQ,.int .i64 x4] 34 (0,0))).alloc (.cells #[.string x0,.slice none 0 0] 57 (0,0))).alloc (.map #[] 0)).alloc (.map #[] 0)=W4 at *
 obtain ⟨h,hh⟩:∃ h,W.heap.size + 1=h:=⟨_,rfl⟩
 obtain ⟨m1,hm1⟩:∃ m,W.heap.size + 2=m:=⟨_,rfl⟩
 obtain ⟨m2,hm2⟩:∃ m,W.heap.size + 3=m:=⟨_,rfl⟩
 obtain ⟨D,hD⟩:∃ D,W.heap.size=D:=⟨_,rfl⟩
 rw [hh,hm1,hm2,hD] at HE0
 try rw [show W.heap.size + 1 + 1=m1 from hm1]
 try rw [show W.heap.size + 1 + 1 + 1=m2 from hm2]
 try rw [hm1]
 try rw [show m1 + 1=m2 from by omega]
 try rw [hm2]
 rw [hh]
 try rw [hD]
 clear hh hm1 hm2 hD HQ
 obtain ⟨bx,hbx⟩:∃ bx:Array Value,bx=#[.string x0,.slice AF F.length cF,.slice AO O.length cO,.slice AQ Q.length cQ,.int .i64 x4]:=⟨_,rfl⟩
 rw [← hbx] at HE0
 have HB1:Aside0 (bx[1]?=some (.slice AF F.length cF)):=⟨by rw [hbx];rfl⟩
 have HB2:Aside0 (bx[2]?=some (.slice AO O.length cO)):=⟨by rw [hbx];rfl⟩
 have HB3_:Aside0 (bx[3]?=some (.slice AQ Q.length cQ)):=⟨by rw [hbx];rfl⟩
 clear hbx
 go_loopg [28] O.length (fun n_ vi_ V=>∃ i:Nat,vi_ = .int .i64 i∧Aside0 (i + n_=O.length)∧Aside0 (MI w0 D p mb n vA vB f M E a e vM vE h x0 [] (.slice none 0 0) (.slice none 0 0) m1 m2 i 0 (onesS (O.take i)) (fun _=>none) bx V))
 case atStart=>exact ⟨0,rfl,⟨J7⟩,HE0⟩
 case round =>
  clear HE0
  obtain ⟨i,rfl,HL,HE⟩:=hrel
  by_cases hlt:i < O.length
  ·have d3:(0:Int)≤(i:Int):=by omega
   have d4:(i:Int) < (O.length:Int):=by omega
   obtain ⟨x,hx⟩:∃ x,x=O[i]'hlt:=⟨_,rfl⟩
   obtain ⟨ad,had,z0⟩:=Kd.at_string HCO.out i d3 d4
   have hrd:rdOf ByteArray.empty O i=x:=by unfold rdOf;rw [hx,List.getD_eq_getElem?_getD];simp [hlt]
   rw [hrd] at z0
   subst had
   rw [Int.toNat_natCast] at z0
   have hxz:=HZO.out x J87
   have htake:O.take (i + 1)=O.take i++[x]:=by rw [hx];exact (List.take_succ_eq_append_getElem hlt)
   clear hrd hx
   replace z0:=(HE.out.bw.cell (World.block_lt_of_cell? w0 _ z0)).trans z0
   obtain ⟨W1,hr1,hs1,hg1⟩:=SSet.put HE.out.ss J127 (s:=x) hxz true
   have HE1:=HE.out.putS (x:=bl x) hs1 hg1
   rw [← ones_snoc,← htake] at HE1
   have HE2:=Y0 HE1
   clear HE1 hs1 hg1 HE hxz htake
   cases gk with
   | zero=>have:=HL.out;omega
   | succ k1 =>
    go_wp2
    go_roundg k1
    case measure=>omega
    case rel=>exact ⟨i + 1,J112,⟨J69⟩,HE2⟩
  ·have hil:i=O.length:=by have:=HL.out;omega
   subst hil
   rw [List.take_length] at HE
   have q3:_=some (Value.slice AQ Q.length cQ):=(blk_cell HE.out.bx 3).trans HB3_.out
   go_wp2_with fail
   clear q3
   go_loopg [38] Q.length (fun n_ vi_ V=>∃ i:Nat,vi_ = .int .i64 i∧Aside0 (i + n_=Q.length)∧Aside0 (MI w0 D p mb n vA vB f M E a e vM vE h x0 [] (.slice none 0 0) (.slice none 0 0) m1 m2 O.length i (onesS O) (resN (Q.take i)) bx V))
   case atStart=>exact ⟨0,rfl,⟨J7⟩,HE⟩
   case round =>
    clear HE HL
    obtain ⟨i,rfl,HL,HE⟩:=hrel
    by_cases hlt:i < Q.length
    ·have d3:(0:Int)≤(i:Int):=by omega
     have d4:(i:Int) < (Q.length:Int):=by omega
     obtain ⟨x,hx⟩:∃ x,x=Q[i]'hlt:=⟨_,rfl⟩
     obtain ⟨ad,had,z0⟩:=Kd.at_int HCQ.out i d3 d4
     have hrd:rd Q i=x:=by unfold rd;rw [hx,List.getD_eq_getElem?_getD];simp [hlt]
     rw [hrd] at z0
     subst had
     rw [Int.toNat_natCast] at z0
     have hxz:=HZQ.out x J87
     have htake:Q.take (i + 1)=Q.take i++[x]:=by rw [hx];exact (List.take_succ_eq_append_getElem hlt)
     clear hrd hx
     replace z0:=(HE.out.bw.cell (World.block_lt_of_cell? w0 _ z0)).trans z0
     obtain ⟨W1,hr1,hs1,hg1⟩:=ISet.put HE.out.is J127 (q:=x) hxz true
     have HE1:=HE.out.putN (x:=x) hs1 hg1
     rw [← res_snoc,← htake] at HE1
     have HE2:=Y0 HE1
     clear HE1 hs1 hg1 HE hxz htake
     cases gk with
     | zero=>have:=HL.out;omega
     | succ k1 =>
      go_wp2
      go_roundg k1
      case measure=>omega
      case rel=>exact ⟨i + 1,J112,⟨J69⟩,HE2⟩
    ·have hil:i=Q.length:=by have:=HL.out;omega
     subst hil
     rw [List.take_length] at HE
     have q1:_=some (Value.slice AF F.length cF):=(blk_cell HE.out.bx 1).trans HB1.out
     go_wp2_with fail
     clear q1
     go_loopg [48] F.length (fun n_ vi_ V=>∃ (i:Nat) (a1 e1:Int) (S:List UInt8→Option Bool) (T:Int→Option Bool) (vG:Value),vi_ = .int .i64 i∧Aside0 (i + n_=F.length)∧Aside0 (MI w0 D p mb n vA vB f M E a1 e1 vM vE h x0 ((F.take i).map (fdDef f)) vG vG m1 m2 (O.length + i) (Q.length + i) S T bx V)∧Aside0 (fdL f O.length (F.drop i) S T a1 e1=R))
     case atStart=>exact ⟨0,a,e,_,_,_,rfl,⟨J7⟩,HE,HRR⟩
     case round =>
      clear HE HL HRR
      obtain ⟨i,a1,e1,S,T,vG,rfl,HL,HE,HR⟩:=hrel
      by_cases hlt:i < F.length
      ·have d3:(0:Int)≤(i:Int):=by omega
       have d4:(i:Int) < (F.length:Int):=by omega
       obtain ⟨ad,had,z0,z1,z2,z3,z4,z5,z6⟩:=at_T36 HCF.out i d3 d4
       obtain ⟨x,hx⟩:∃ x,x=F[i]'hlt:=⟨_,rfl⟩
       have hrd:rd_T36 F i=x:=by unfold rd_T36;rw [hx,List.getD_eq_getElem?_getD];simp [hlt]
       rw [hrd] at z0 z1 z2 z3 z4 z5 z6
       rw [Int.toNat_natCast] at z0 z1 z2 z3 z4 z5 z6
       replace z0:=(HE.out.bw.cell (World.block_lt_of_cell? w0 _ z0)).trans z0
       replace z1:=(HE.out.bw.cell (World.block_lt_of_cell? w0 _ z1)).trans z1
       replace z2:=(HE.out.bw.cell (World.block_lt_of_cell? w0 _ z2)).trans z2
       replace z3:=(HE.out.bw.cell (World.block_lt_of_cell? w0 _ z3)).trans z3
       replace z4:=(HE.out.bw.cell (World.block_lt_of_cell? w0 _ z4)).trans z4
       replace z5:=(HE.out.bw.cell (World.block_lt_of_cell? w0 _ z5)).trans z5
       replace z6:=(HE.out.bw.cell (World.block_lt_of_cell? w0 _ z6)).trans z6
       clear hrd
       subst had
       have hmem:x ∈ F:=by rw [hx];exact List.getElem_mem hlt
       have htake:F.take (i + 1)=F.take i++[x]:=by rw [hx];exact (List.take_succ_eq_append_getElem hlt)
       have hdrop:F.drop i=x :: F.drop (i + 1):=by rw [hx];exact drop_cons hlt
       clear hx
       obtain ⟨y0,y1,y2,y3,y4,y5,y6⟩:=x
       have HY:Aside0 (y0.size≤maxLen∧y1.size≤maxLen∧y4.size≤maxLen∧(Lit.int .i64 y5).wf=true):=⟨HZF.out _ hmem⟩
       obtain ⟨X,hX⟩:∃ X:S36,X=⟨y0,y1,y2,y3,y4,y5,y6⟩:=⟨_,rfl⟩
       have HX_:=Y0 hX
       have hr2:=HR.out
       rw [hdrop,fdL,← hX] at hr2
       obtain ⟨BB,hBB⟩:∃ BB,BB=fdBad O.length X S T:=⟨_,rfl⟩
       obtain ⟨r1,hr1⟩:∃ r1,r1=failE a1 e1 BB y6 4:=⟨_,rfl⟩
       obtain ⟨r2,hr2_⟩:∃ r2,r2=fdE2 X r1:=⟨_,rfl⟩
       obtain ⟨r3,hr3_⟩:∃ r3,r3=fdE3 f X r2:=⟨_,rfl⟩
       have hr4:fdE f O.length X S T a1 e1=r3:=by rw [hr3_,hr2_,hr1,hBB];unfold fdE fdE1;rw [hX]
       rw [hr4] at hr2
       obtain ⟨S2,hS2⟩:∃ S2,setS S (bl y4)=S2:=⟨_,rfl⟩
       obtain ⟨T2,hT2⟩:∃ T2,setN T y5=T2:=⟨_,rfl⟩
       have hr5:fdL f O.length (F.drop (i + 1)) S2 T2 r3.1 r3.2=R:=by rw [← hS2,← hT2,← hr2,hX]
       have HR2:=Y0 hr5
       have HS2:=Y0 hS2
       have HT2:=Y0 hT2
       have HR1:=Y0 hr1
       have HRB:=Y0 hr2_
       have HRC:=Y0 hr3_
       have HTK:Aside0 ((F.take (i + 1)).map (fdDef f)=(F.take i).map (fdDef f)++[fdDef f X]):=⟨by rw [htake,List.map_append,hX];rfl⟩
       have HLG:Aside0 (((F.take i).map (fdDef f)).length=i):=⟨J129⟩
       generalize (F.take i).map (fdDef f)=G at *
       replace HLG:Aside0 ((G.length + 1) * 64≤140737488355328):=⟨by rw [HLG.out];have:=HLL.out;omega⟩
       have HI1:Aside0 (O.length + i < maxLen):=⟨J127⟩
       have HI2:Aside0 (Q.length + i < maxLen):=⟨J127⟩
       have hl1:=fun (U:World) (hU:SSet U m1 (O.length + i) S)=>SSet.look hU (s:=y4) HY.out.2.2.1
       have hl2:=fun (U:World) (hU:ISet U m2 (Q.length + i) T)=>ISet.look hU (q:=y5) HY.out.2.2.2
       obtain ⟨TT,hTT⟩:∃ b,fdTwo X=b:=⟨_,rfl⟩
       obtain ⟨bk,hbk⟩:∃ b,(y1.toList != [])=b:=⟨_,rfl⟩
       have hbk2:(!y1.toList.isEmpty)=bk:=by rw [← hbk];cases y1.toList <;> rfl
       obtain ⟨b3,hb3⟩:∃ b,(y3 != 0)=b:=⟨_,rfl⟩
       have HTT:Aside0 (TT=((y2 && bk) || (b3 && (y2 || bk)))):=⟨by rw [← hTT,← hbk,← hb3,hX];rfl⟩
       have HKK:Aside0 (hasK X=bk):=⟨by rw [hX];exact hbk⟩
       obtain ⟨b1,hb1⟩:∃ b,(S (bl y4)).getD false=b:=⟨_,rfl⟩
       obtain ⟨b2,hb2⟩:∃ b,(T y5).getD false=b:=⟨_,rfl⟩
       obtain ⟨bn,hbn⟩:∃ b,tmNum y5=b:=⟨_,rfl⟩
       obtain ⟨bi,hbi⟩:∃ b,decide ((0:Int)≤y3∧y3≤(O.length:Int))=b:=⟨_,rfl⟩
       have HNUM:Aside0 (table_number.f y5=some bn):=⟨by rw [tm_num,hbn]⟩
       have HIN:Aside0 (table_in.f y3 0 O.length=some bi):=⟨by rw [tm_in,hbi]⟩
       have HBB:Aside0 (BB=(b1 || (!bn || (b2 || (!bi || TT))))):=⟨by rw [hBB,← hb1,← hb2,← hbn,← hbi,← hTT,hX];rfl⟩
       rw [hb1] at hl1
       rw [hb2] at hl2
       have HL1:=Y0 hl1
       have HL2:=Y0 hl2
       have HBK:=Y0 hbk
       have HBK2:=Y0 hbk2
       have HB3:=Y0 hb3
       clear hBB hr2 hr1 hr2_ hr3_ hr4 hr5 hS2 hT2 hdrop htake hmem hl1 hl2 hb1 hb2 hbn hbi hb3 hbk hbk2 hTT HR hX
       cases gk with
       | zero=>have:=HL.out;omega
       | succ k1 =>
        go_upto_region 16 with (fail)
        have HX:=Y0 (blk_new wr (.cells #[.string y0,.string y1,.bool y2,.int .i64 y3,.string y4,.int .i64 y5,.int .i64 y6] 36 (0,0)))
        have HEb:=Y0 (HE.out.alloc (.cells #[.string y0,.string y1,.bool y2,.int .i64 y3,.string y4,.int .i64 y5,.int .i64 y6] 36 (0,0)))
        clear HE z0 z1 z2 z3 z4 z5 z6
        have HE:=HEb
        clear HEb
        generalize wr.alloc (.cells #[.string y0,.string y1,.bool y2,.int .i64 y3,.string y4,.int .i64 y5,.int .i64 y6] 36 (0,0))=V0 at *
        obtain ⟨vb,hvb⟩:∃ vb,wr.heap.size=vb:=⟨_,rfl⟩
        rw [hvb] at HX ⊢
        clear hvb
        go_cut [13] (fun v13 U=>v13 = .bool TT∧U=V0)
        case first =>
         have z1:_=some (Value.string y1):=(blk_cell HX.out 1).trans rfl
         have z2:_=some (Value.bool y2):=(blk_cell HX.out 2).trans rfl
         have z3:_=some (Value.int .i64 y3):=(blk_cell HX.out 3).trans rfl
         have hbk:=HBK.out
         have hbk2:=HBK2.out
         have hb3:=HB3.out
         clear HE HX HR2 HR1 HRB HRC HTK HL1 HL2 HBB HKK HX_ HNUM HIN HBK HBK2 HB3
         cases y2 <;> cases bk <;> cases b3 <;> (have hT:=HTT.out;clear HTT;go_wp2_with fail;go_meet;exact ⟨by rw [hT];rfl,rfl⟩)
        case rest =>
         obtain ⟨rfl,rfl⟩:=hcut
         go_upto_region 17 with (fail)
         go_cut [] (fun U=>Aside0 (MI w0 D p mb n vA vB f M E (r1).1 (r1).2 vM vE h x0 G vG vG m1 m2 (O.length + i) (Q.length + i) S T bx U)∧Aside0 (U.heap[vb]?=some (.cells #[.string y0,.string y1,.bool y2,.int .i64 y3,.string y4,.int .i64 y5,.int .i64 y6] 36 (0,0))))
         case first =>
          clear HTT HR2 HRB HRC HTK HKK HX_ HBK HBK2 HB3 HL HLG HI1 HI2
          cases b1
          ·cases bn
           ·skip
            have hB:BB=true:=HBB.out
            subst hB
            refine w17_2 HE HX HB2 HL1 HNUM _ _ _ _ _ _ _ _ _ _ _ _ _ _ _ _ _ _ _ _ _ _ _ _ _ _ _ _ _ _ _ _ _ _ _ _ _ _ _ _ _ _ _ _ _ _ _ _ _ _ _ _ _ _ _ _ _ _ _ _ _ _ _ _ _ _ _ _ _ _ _ _ _ _ _ _ _ _ _ _ _ _ _ _ _ _ _ _ _ _ _ _ _ _ _ _ _ _ _ _ _ _ _ _ _ _ _ _ _ _ _ _ _ _ _ _ _ _ _ _ _ _ _ _ _ _ _ _ _ _ _ _ _ _ _ _ _ _ _ _ _ _ _ _ _ _ _ _ _ _ _ _ _ _ _ _ _ _ _ _ _ _ _ _ _ _ _ _ _ _ _ _ _ _ ?_
            intro u73 u74 u75 u76 u77 u78 u79 u80 u81 u82 u83 u84 u85 u86 u87 u88 u89 u90 u91 u92 u93 u94 u95 u96 u97 u98 u99 u100 u101 u102 u103 u104 W3 n1_ n2_
            have k1_:=Y0 n1_
            have k2_:=Y0 n2_
            clear n1_ n2_
            dsimp only
            go_wp2_with fail
            go_meet
            exact ⟨⟨J136⟩,k2_⟩
           ·cases b2
            ·cases bi
             ·skip
              have hB:BB=true:=HBB.out
              subst hB
              refine w17_4 HE HX HB2 HL1 HNUM HL2 HIN _ _ _ _ _ _ _ _ _ _ _ _ _ _ _ _ _ _ _ _ _ _ _ _ _ _ _ _ _ _ _ _ _ _ _ _ _ _ _ _ _ _ _ _ _ _ _ _ _ _ _ _ _ _ _ _ _ _ _ _ _ _ _ _ _ _ _ _ _ _ _ _ _ _ _ _ _ _ _ _ _ _ _ _ _ _ _ _ _ _ _ _ _ _ _ _ _ _ _ _ _ _ _ _ _ _ _ _ _ _ _ _ _ _ _ _ _ _ _ _ _ _ _ _ _ _ _ _ _ _ _ _ _ _ _ _ _ _ _ _ _ _ _ _ _ _ _ _ _ _ _ _ _ _ _ _ _ _ _ _ _ _ _ _ _ _ _ _ _ _ _ _ _ _ ?_
              intro u73 u74 u75 u76 u77 u78 u79 u80 u81 u82 u83 u84 u85 u86 u87 u88 u89 u90 u91 u92 u93 u94 u95 u96 u97 u98 u99 u100 u101 u102 u103 u104 W3 n1_ n2_
              have k1_:=Y0 n1_
              have k2_:=Y0 n2_
              clear n1_ n2_
              dsimp only
              go_wp2_with fail
              go_meet
              exact ⟨⟨J136⟩,k2_⟩
             ·skip
              have hB:BB=TT:=HBB.out
              subst hB
              refine w17_5 HE HX HB2 HL1 HNUM HL2 HIN _ _ _ _ _ _ _ _ _ _ _ _ _ _ _ _ _ _ _ _ _ _ _ _ _ _ _ _ _ _ _ _ _ _ _ _ _ _ _ _ _ _ _ _ _ _ _ _ _ _ _ _ _ _ _ _ _ _ _ _ _ _ _ _ _ _ _ _ _ _ _ _ _ _ _ _ _ _ _ _ _ _ _ _ _ _ _ _ _ _ _ _ _ _ _ _ _ _ _ _ _ _ _ _ _ _ _ _ _ _ _ _ _ _ _ _ _ _ _ _ _ _ _ _ _ _ _ _ _ _ _ _ _ _ _ _ _ _ _ _ _ _ _ _ _ _ _ _ _ _ _ _ _ _ _ _ _ _ _ _ _ _ _ _ _ _ _ _ _ _ _ _ _ _ ?_
              intro u73 u74 u75 u76 u77 u78 u79 u80 u81 u82 u83 u84 u85 u86 u87 u88 u89 u90 u91 u92 u93 u94 u95 u96 u97 u98 u99 u100 u101 u102 u103 u104 W3 n1_ n2_
              have k1_:=Y0 n1_
              have k2_:=Y0 n2_
              clear n1_ n2_
              dsimp only
              go_wp2_with fail
              go_meet
              exact ⟨⟨J136⟩,k2_⟩
            ·skip
             have hB:BB=true:=HBB.out
             subst hB
             refine w17_3 HE HX HB2 HL1 HNUM HL2 _ _ _ _ _ _ _ _ _ _ _ _ _ _ _ _ _ _ _ _ _ _ _ _ _ _ _ _ _ _ _ _ _ _ _ _ _ _ _ _ _ _ _ _ _ _ _ _ _ _ _ _ _ _ _ _ _ _ _ _ _ _ _ _ _ _ _ _ _ _ _ _ _ _ _ _ _ _ _ _ _ _ _ _ _ _ _ _ _ _ _ _ _ _ _ _ _ _ _ _ _ _ _ _ _ _ _ _ _ _ _ _ _ _ _ _ _ _ _ _ _ _ _ _ _ _ _ _ _ _ _ _ _ _ _ _ _ _ _ _ _ _ _ _ _ _ _ _ _ _ _ _ _ _ _ _ _ _ _ _ _ _ _ _ _ _ _ _ _ _ _ _ _ _ ?_
             intro u73 u74 u75 u76 u77 u78 u79 u80 u81 u82 u83 u84 u85 u86 u87 u88 u89 u90 u91 u92 u93 u94 u95 u96 u97 u98 u99 u100 u101 u102 u103 u104 W3 n1_ n2_
             have k1_:=Y0 n1_
             have k2_:=Y0 n2_
             clear n1_ n2_
             dsimp only
             go_wp2_with fail
             go_meet
             exact ⟨⟨J136⟩,k2_⟩
          ·skip
           have hB:BB=true:=HBB.out
           subst hB
           refine w17_1 HE HX HB2 HL1 _ _ _ _ _ _ _ _ _ _ _ _ _ _ _ _ _ _ _ _ _ _ _ _ _ _ _ _ _ _ _ _ _ _ _ _ _ _ _ _ _ _ _ _ _ _ _ _ _ _ _ _ _ _ _ _ _ _ _ _ _ _ _ _ _ _ _ _ _ _ _ _ _ _ _ _ _ _ _ _ _ _ _ _ _ _ _ _ _ _ _ _ _ _ _ _ _ _ _ _ _ _ _ _ _ _ _ _ _ _ _ _ _ _ _ _ _ _ _ _ _ _ _ _ _ _ _ _ _ _ _ _ _ _ _ _ _ _ _ _ _ _ _ _ _ _ _ _ _ _ _ _ _ _ _ _ _ _ _ _ _ _ _ _ _ _ _ _ _ _ _ _ _ _ ?_
           intro u73 u74 u75 u76 u77 u78 u79 u80 u81 u82 u83 u84 u85 u86 u87 u88 u89 u90 u91 u92 u93 u94 u95 u96 u97 u98 u99 u100 u101 u102 u103 u104 W3 n1_ n2_
           have k1_:=Y0 n1_
           have k2_:=Y0 n2_
           clear n1_ n2_
           dsimp only
           go_wp2_with fail
           go_meet
           exact ⟨⟨J136⟩,k2_⟩
         case rest =>
          clear HE HX HTT HBB HNUM HIN HL1 HL2 HR1
          obtain ⟨HE,HX⟩:=hcut
          obtain ⟨W1,hr1,hs1,hg1⟩:=SSet.put (W:=wc.drew) HE.out.drew.ss HI1.out (s:=y4) HY.out.2.2.1 true
          have HE1:=Y0 (HE.out.drew.putS (x:=bl y4) hs1 hg1)
          have HX1:=Y0 (blk_put_map (blk_drew HX.out) HE.out.drew.ss hg1)
          obtain ⟨W2,hr2,hs2,hg2⟩:=ISet.put HE1.out.is HI2.out HY.out.2.2.2 true
          have HE2:=Y0 (HE1.out.putN (x:=y5) hs2 hg2)
          have HX2:=Y0 (blk_put_map HX1.out HE1.out.is hg2)
          have z4:_=some (Value.string y4):=(blk_cell HX.out 4).trans rfl
          have z5:_=some (Value.int .i64 y5):=(blk_cell HX.out 5).trans rfl
          have q5:_=some (Value.int .i64 y5):=(blk_cell HX1.out 5).trans rfl
          clear hs1 hg1 hs2 hg2 HE HX
          rw [HS2.out,HT2.out] at HE2
          go_upto_region 18 with (fail)
          go_cut [] (fun V=>V=W2)
          case first =>
           go_region
           all_goals (first|(go_meet;exact rfl)|(go_wp2;go_meet;exact rfl))
          case rest =>
           obtain rfl:=hcut
           clear z4 z5 q5 hr1 hr2 HE1 HX1
           have HE:=HE2
           have HX:=HX2
           clear HE2 HX2
           obtain ⟨kn,hkn⟩:∃ kn,keyN X=kn:=⟨_,rfl⟩
           have HKN:Aside0 (kn=if bk=true then (typO (bl y1)).getD 0 else -1):=⟨by rw [← hkn];unfold keyN;rw [HKK.out,HX_.out]⟩
           have HRB2:Aside0 (r2=if bk=true then failE r1.1 r1.2 (!(typO (bl y1)).isSome || !tmKey ((typO (bl y1)).getD 0)) y6 5 else r1):=⟨by rw [HRB.out];unfold fdE2;rw [HKK.out,HX_.out]⟩
           obtain ⟨⟨kk,kr,ki⟩,hkd⟩:∃ q:Int × Int × Bool,kindF f (bl y0)=q:=⟨_,rfl⟩
           have HRC2:Aside0 (r3=failE r2.1 r2.2 (!ki) y6 3):=⟨by rw [HRC.out];unfold fdE3;rw [HX_.out];simp only [hkd]⟩
           have HFD:Aside0 (fdDef f X=⟨y5,y4,kk,kr,y2,kn,y3⟩):=⟨by rw [← hkn];unfold fdDef;rw [HX_.out];simp only [hkd]⟩
           have HKD:=Y0 hkd
           clear hkn hkd HKK HRB HRC HX_
           have z1:_=some (Value.string y1):=(blk_cell HX.out 1).trans rfl
           have hbk:=HBK.out
           have hbk2:=HBK2.out
           clear HBK HBK2
           go_upto_if 113 with (fail)
           clear z1 hbk hbk2
           go_cut [14] (fun v14 U=>v14 = .int .i64 kn∧Aside0 (MI w0 D p mb n vA vB f M E (r2).1 (r2).2 vM vE h x0 G vG vG m1 m2 (O.length + i + 1) (Q.length + i + 1) S2 T2 bx U)∧Aside0 (U.heap[vb]?=some (.cells #[.string y0,.string y1,.bool y2,.int .i64 y3,.string y4,.int .i64 y5,.int .i64 y6] 36 (0,0))))
           case first =>
            clear HR2 HTK HRC2 HFD HKD HL HLG HI1 HI2 HB3
            cases bk
            ·have hk1:kn = -1:=HKN.out
             subst hk1
             have hr:r2=r1:=HRB2.out
             subst hr
             go_wp2_with fail
             go_meet
             exact ⟨rfl,HE,HX⟩
            ·obtain ⟨ty,hto⟩:∃ ty,typO (bl y1)=ty:=⟨_,rfl⟩
             have HTY:=Y0 hto
             rw [hto] at HKN HRB2
             clear hto
             cases ty with
             | none =>
              have hk1:kn=0:=HKN.out
              subst hk1
              have hr:r2=failE r1.1 r1.2 true y6 5:=HRB2.out
              subst hr
              clear HKN HRB2
              go_wp2_with fail
              have HE0:=Y0 HE.out.drew
              have HX0:=Y0 (blk_drew HX.out)
              refine start_ (n:=9) (S:=fun w'=>w'.cell? ⟨vb,1,none⟩=some (.string y1)) (ds:=[]) #[false,false,false,false,false,false,false,false,false] J0 rfl rfl ((blk_cell HX0.out 1)) (fun hHeld=>?_)
              refine pure_ (i:=1) (N:=some 116) (v:=?_) (a':=?_) (sqB 9 2) rfl rfl J0 (fun _ _ _ h=>h) (Or.inl ⟨J19,?_⟩) ?_ ?_;rotate_left;intro w';go_simp;with_reducible rfl;rotate_left;simp only [Act.put,Y14,Y15,Y16,i64_w];rfl
              refine take_ (i:=2) (N:=some 117) (v:=?_) (a':=?_) (sqB 9 6) rfl rfl J0 (fun _ _ _ h=>h) (Or.inl ⟨J19,?_⟩) hHeld ?_ ?_;rotate_left;intro w' s0;go_simp;with_reducible rfl;rotate_left;simp only [Act.put,Y14,Y15,Y16,i64_w];rfl
              refine one_ (i:=0) (N:=some 115) (sqB 9 7) rfl rfl J0 J11 (fun K hK=>?_)
              refine goes_ Tryz.func59 J0 rfl #[] J19 rfl rfl J125 ?_
              with_reducible refine (tplain_s _).mono ?_
              rintro e1 W1 ⟨rfl,hp,hb⟩
              refine ⟨_,rfl,?_⟩
              have hl0:=hp.look_ok (s:=y1) HY.out.2.1
              rw [HTY.out] at hl0
              have hl:(Instr.lookup 114 (.map (some wc.heap.size)) (.string y1) true).run Tryz.prog W1 = .ok (.tuple #[.int .i64 0,.bool false]) W1:=hl0
              have HE1:=Y0 (HE0.out.below hb)
              have HX1:=Y0 (blk_below HX0.out hb)
              clear hp hb hl0
              refine hK.out _ _ ((blk_cell HX1.out 1)) (fun hHeld=>?_)
              clear hK K
              refine norm_ (a':=?_) ?_ ?_;rotate_left;show Act.put _ (some 115) _=_;simp only [Act.put,Y14,Y15,Y16,i64_w];rfl
              refine one_ (i:=3) (N:=some 118) (sqB 9 15) rfl rfl J0 J11 (fun K hK=>?_)
              refine value_ (w1:=?_) (v:=?_) J19 rfl ?_ ?_
              rotate_left 2
              ·go_simp
               constructor
               ·rfl
               ·rfl
              refine hK.out _ _ ((blk_cell HX1.out 1)) (fun hHeld=>?_)
              clear hK K
              refine norm_ (a':=?_) ?_ ?_;rotate_left;show Act.put _ (some 118) _=_;simp only [Act.put,Y14,Y15,Y16,i64_w];rfl
              refine pure_ (i:=4) (N:=some 114) (v:=?_) (a':=?_) (sqB 9 31) rfl rfl J0 (fun _ _ _ h=>h) (Or.inl ⟨J19,?_⟩) ?_ ?_;rotate_left;intro w';go_simp;with_reducible rfl;rotate_left;simp only [Act.put,Y14,Y15,Y16,i64_w];rfl
              refine pure_ (i:=5) (N:=some 119) (v:=?_) (a':=?_) (sqB 9 63) rfl rfl J0 (fun _ _ _ h=>h) (Or.inl ⟨J19,?_⟩) ?_ ?_;rotate_left;intro w';go_simp;with_reducible rfl;rotate_left;simp only [Act.put,Y14,Y15,Y16,i64_w];rfl
              refine pure_ (i:=6) (N:=some 120) (v:=?_) (a':=?_) (sqB 9 127) rfl rfl J0 (fun _ _ _ h=>h) (Or.inl ⟨J19,?_⟩) ?_ ?_;rotate_left;intro w';go_simp;with_reducible rfl;rotate_left;simp only [Act.put,Y14,Y15,Y16,i64_w];rfl
              refine pure_ (i:=7) (N:=some 15) (v:=?_) (a':=?_) (sqB 9 255) rfl rfl J0 (fun _ _ _ h=>h) (Or.inl ⟨J19,?_⟩) ?_ ?_;rotate_left;intro w';go_simp;with_reducible rfl;rotate_left;simp only [Act.put,Y14,Y15,Y16,i64_w];rfl
              refine pure_ (i:=8) (N:=some 16) (v:=?_) (a':=?_) (sqB 9 511) rfl rfl J0 (fun _ _ _ h=>h) (Or.inl ⟨J19,?_⟩) ?_ ?_;rotate_left;intro w';go_simp;with_reducible rfl;rotate_left;simp only [Act.put,Y14,Y15,Y16,i64_w];rfl
              refine done_ J0 ?_
              clear HE0 HX0 hl
              go_wp2_with fail
              have HE2:=Y0 HE1.out.drew
              have HX2:=Y0 (blk_drew HX1.out)
              refine start_ (n:=11) (S:=fun w'=>w'.cell? ⟨vb,6,none⟩=some (.int .i64 y6)) (ds:=[10]) #[false,false,false,false,false,false,false,false,false,false,false] J0 rfl rfl ((blk_cell HX2.out 6)) (fun hHeld=>?_)
              refine pure_ (i:=0) (N:=some 121) (v:=?_) (a':=?_) (sqB 11 1) rfl rfl J0 (fun _ _ _ h=>h) (Or.inl ⟨J19,?_⟩) ?_ ?_;rotate_left;intro w';go_simp;with_reducible rfl;rotate_left;simp only [Act.put,Y14,Y15,Y16,i64_w];rfl
              refine pure_ (i:=1) (N:=some 122) (v:=?_) (a':=?_) (sqB 11 3) rfl rfl J0 (fun _ _ _ h=>h) (Or.inl ⟨J19,?_⟩) ?_ ?_;rotate_left;intro w';go_simp;with_reducible rfl;rotate_left;simp only [Act.put,Y14,Y15,Y16,i64_w];rfl
              refine pure_ (i:=2) (N:=some 123) (v:=?_) (a':=?_) (sqB 11 7) rfl rfl J0 (fun _ _ _ h=>h) (Or.inl ⟨J19,?_⟩) ?_ ?_;rotate_left;intro w';go_simp;with_reducible rfl;rotate_left;simp only [Act.put,Y14,Y15,Y16,i64_w];rfl
              refine pure_ (i:=3) (N:=some 124) (v:=?_) (a':=?_) (sqB 11 15) rfl rfl J0 (fun _ _ _ h=>h) (Or.inl ⟨J19,?_⟩) ?_ ?_;rotate_left;intro w';go_simp;with_reducible rfl;rotate_left;simp only [Act.put,Y14,Y15,Y16,i64_w];rfl
              refine pure_ (i:=4) (N:=some 125) (v:=undef) (a':=?_) (sqB 11 31) rfl rfl J0 (fun _ _ _ h=>h) (Or.inr ⟨J19,rfl⟩) ?_ ?_;rotate_left;simp only [Act.put,Y14,Y15,Y16,i64_w];rfl
              refine pure_ (i:=5) (N:=some 126) (v:=undef) (a':=?_) (sqB 11 63) rfl rfl J0 (fun _ _ _ h=>h) (Or.inr ⟨J19,rfl⟩) ?_ ?_;rotate_left;simp only [Act.put,Y14,Y15,Y16,i64_w];rfl
              refine pure_ (i:=6) (N:=some 127) (v:=undef) (a':=?_) (sqB 11 127) rfl rfl J0 (fun _ _ _ h=>h) (Or.inr ⟨J19,rfl⟩) ?_ ?_;rotate_left;simp only [Act.put,Y14,Y15,Y16,i64_w];rfl
              refine pure_ (i:=7) (N:=some 128) (v:=?_) (a':=?_) (sqB 11 255) rfl rfl J0 (fun _ _ _ h=>h) (Or.inl ⟨J19,?_⟩) ?_ ?_;rotate_left;intro w';go_simp;with_reducible rfl;rotate_left;simp only [Act.put,Y14,Y15,Y16,i64_w];rfl
              refine pure_ (i:=8) (N:=some 129) (v:=?_) (a':=?_) (sqB 11 511) rfl rfl J0 (fun _ _ _ h=>h) (Or.inl ⟨J19,?_⟩) ?_ ?_;rotate_left;intro w';go_simp;with_reducible rfl;rotate_left;simp only [Act.put,Y14,Y15,Y16,i64_w];rfl
              refine take_ (i:=9) (N:=some 130) (v:=?_) (a':=?_) (sqB 11 1023) rfl rfl J0 (fun _ _ _ h=>h) (Or.inl ⟨J19,?_⟩) hHeld ?_ ?_;rotate_left;intro w' s0;go_simp;with_reducible rfl;rotate_left;simp only [Act.put,Y14,Y15,Y16,i64_w];rfl
              refine last_ (i:=10) (N:=some 131) (sqB 11 2047) rfl rfl J0 J11 (fun K hK=>?_)
              refine goes_ Tryz.func56 J0 rfl #[.pointer (some ⟨p,0,none⟩),.bool true,.int .i64 y6,.int .i64 5] J19 rfl rfl J32 ?_
              with_reducible refine (fail_s HE2.out.rs.blk true y6 5).mono ?_
              rintro e3 W4 ⟨rfl,hr3,hk3,-,hb3⟩
              refine ⟨_,rfl,?_⟩
              have n1_:=Y0 (HE2.out.err hr3 hk3 hb3)
              have n2_:=Y0 (hk3.blk HX2.out (blk_ne HX2.out HE2.out.rs.blk J11) J53)
              clear hr3 hk3 hb3
              refine hK.out _ _ ?_
              clear hK K
              refine norm_ (a':=?_) ?_ ?_;rotate_left;show Act.put _ (some 131) _=_;simp only [Act.put,Y14,Y15,Y16,i64_w];rfl
              refine done_ J0 ?_
              go_wp2_with fail
              go_meet
              exact ⟨rfl,n1_,n2_⟩
             | some k0 =>
              have hk1:kn=k0:=HKN.out
              subst hk1
              obtain ⟨kb,hkb⟩:∃ kb,tmKey kn=kb:=⟨_,rfl⟩
              have HKY:Aside0 (table_keyed.f kn=some kb):=⟨by rw [tm_key,hkb]⟩
              have HR2_:Aside0 (r2=failE r1.1 r1.2 (!kb) y6 5):=⟨by rw [HRB2.out,← hkb];rfl⟩
              clear HKN HRB2 hkb
              cases kb
              ·have hr:r2=failE r1.1 r1.2 true y6 5:=HR2_.out
               subst hr
               clear HR2_
               go_wp2_with fail
               have HE0:=Y0 HE.out.drew
               have HX0:=Y0 (blk_drew HX.out)
               refine start_ (n:=9) (S:=fun w'=>w'.cell? ⟨vb,1,none⟩=some (.string y1)) (ds:=[]) #[false,false,false,false,false,false,false,false,false] J0 rfl rfl ((blk_cell HX0.out 1)) (fun hHeld=>?_)
               refine pure_ (i:=1) (N:=some 116) (v:=?_) (a':=?_) (sqB 9 2) rfl rfl J0 (fun _ _ _ h=>h) (Or.inl ⟨J19,?_⟩) ?_ ?_;rotate_left;intro w';go_simp;with_reducible rfl;rotate_left;simp only [Act.put,Y14,Y15,Y16,i64_w];rfl
               refine take_ (i:=2) (N:=some 117) (v:=?_) (a':=?_) (sqB 9 6) rfl rfl J0 (fun _ _ _ h=>h) (Or.inl ⟨J19,?_⟩) hHeld ?_ ?_;rotate_left;intro w' s0;go_simp;with_reducible rfl;rotate_left;simp only [Act.put,Y14,Y15,Y16,i64_w];rfl
               refine one_ (i:=0) (N:=some 115) (sqB 9 7) rfl rfl J0 J11 (fun K hK=>?_)
               refine goes_ Tryz.func59 J0 rfl #[] J19 rfl rfl J125 ?_
               with_reducible refine (tplain_s _).mono ?_
               rintro e1 W1 ⟨rfl,hp,hb⟩
               refine ⟨_,rfl,?_⟩
               have hl0:=hp.look_ok (s:=y1) HY.out.2.1
               rw [HTY.out] at hl0
               have hl:(Instr.lookup 114 (.map (some wc.heap.size)) (.string y1) true).run Tryz.prog W1 = .ok (.tuple #[.int .i64 kn,.bool true]) W1:=hl0
               have HE1:=Y0 (HE0.out.below hb)
               have HX1:=Y0 (blk_below HX0.out hb)
               clear hp hb hl0
               refine hK.out _ _ ((blk_cell HX1.out 1)) (fun hHeld=>?_)
               clear hK K
               refine norm_ (a':=?_) ?_ ?_;rotate_left;show Act.put _ (some 115) _=_;simp only [Act.put,Y14,Y15,Y16,i64_w];rfl
               refine one_ (i:=3) (N:=some 118) (sqB 9 15) rfl rfl J0 J11 (fun K hK=>?_)
               refine value_ (w1:=?_) (v:=?_) J19 rfl ?_ ?_
               rotate_left 2
               ·go_simp
                constructor
                ·rfl
                ·rfl
               refine hK.out _ _ ((blk_cell HX1.out 1)) (fun hHeld=>?_)
               clear hK K
               refine norm_ (a':=?_) ?_ ?_;rotate_left;show Act.put _ (some 118) _=_;simp only [Act.put,Y14,Y15,Y16,i64_w];rfl
               refine pure_ (i:=4) (N:=some 114) (v:=?_) (a':=?_) (sqB 9 31) rfl rfl J0 (fun _ _ _ h=>h) (Or.inl ⟨J19,?_⟩) ?_ ?_;rotate_left;intro w';go_simp;with_reducible rfl;rotate_left;simp only [Act.put,Y14,Y15,Y16,i64_w];rfl
               refine pure_ (i:=5) (N:=some 119) (v:=?_) (a':=?_) (sqB 9 63) rfl rfl J0 (fun _ _ _ h=>h) (Or.inl ⟨J19,?_⟩) ?_ ?_;rotate_left;intro w';go_simp;with_reducible rfl;rotate_left;simp only [Act.put,Y14,Y15,Y16,i64_w];rfl
               refine pure_ (i:=6) (N:=some 120) (v:=?_) (a':=?_) (sqB 9 127) rfl rfl J0 (fun _ _ _ h=>h) (Or.inl ⟨J19,?_⟩) ?_ ?_;rotate_left;intro w';go_simp;with_reducible rfl;rotate_left;simp only [Act.put,Y14,Y15,Y16,i64_w];rfl
               refine pure_ (i:=7) (N:=some 15) (v:=?_) (a':=?_) (sqB 9 255) rfl rfl J0 (fun _ _ _ h=>h) (Or.inl ⟨J19,?_⟩) ?_ ?_;rotate_left;intro w';go_simp;with_reducible rfl;rotate_left;simp only [Act.put,Y14,Y15,Y16,i64_w];rfl
               refine pure_ (i:=8) (N:=some 16) (v:=?_) (a':=?_) (sqB 9 511) rfl rfl J0 (fun _ _ _ h=>h) (Or.inl ⟨J19,?_⟩) ?_ ?_;rotate_left;intro w';go_simp;with_reducible rfl;rotate_left;simp only [Act.put,Y14,Y15,Y16,i64_w];rfl
               refine done_ J0 ?_
               clear HE0 HX0 hl
               go_wp2_with fail
               have HE2:=Y0 HE1.out.drew
               have HX2:=Y0 (blk_drew HX1.out)
               refine start_ (n:=11) (S:=fun w'=>w'.cell? ⟨vb,6,none⟩=some (.int .i64 y6)) (ds:=[10]) #[false,false,false,false,false,false,false,false,false,false,false] J0 rfl rfl ((blk_cell HX2.out 6)) (fun hHeld=>?_)
               refine pure_ (i:=0) (N:=some 121) (v:=?_) (a':=?_) (sqB 11 1) rfl rfl J0 (fun _ _ _ h=>h) (Or.inl ⟨J19,?_⟩) ?_ ?_;rotate_left;intro w';go_simp;with_reducible rfl;rotate_left;simp only [Act.put,Y14,Y15,Y16,i64_w];rfl
               refine pure_ (i:=1) (N:=some 122) (v:=?_) (a':=?_) (sqB 11 3) rfl rfl J0 (fun _ _ _ h=>h) (Or.inl ⟨J19,?_⟩) ?_ ?_;rotate_left;intro w';go_simp;with_reducible rfl;rotate_left;simp only [Act.put,Y14,Y15,Y16,i64_w];rfl
               refine pure_ (i:=2) (N:=some 123) (v:=?_) (a':=?_) (sqB 11 7) rfl rfl J0 (fun _ _ _ h=>h) (Or.inl ⟨J19,?_⟩) ?_ ?_;rotate_left;intro w';go_simp;with_reducible rfl;rotate_left;simp only [Act.put,Y14,Y15,Y16,i64_w];rfl
               refine pure_ (i:=3) (N:=some 124) (v:=?_) (a':=?_) (sqB 11 15) rfl rfl J0 (fun _ _ _ h=>h) (Or.inl ⟨J19,?_⟩) ?_ ?_;rotate_left;intro w';go_simp;with_reducible rfl;rotate_left;simp only [Act.put,Y14,Y15,Y16,i64_w];rfl
               refine pure_ (i:=4) (N:=some 125) (v:=?_) (a':=?_) (sqB 11 31) rfl rfl J0 (fun _ _ _ h=>h) (Or.inl ⟨J19,?_⟩) ?_ ?_;rotate_left;intro w';go_simp;with_reducible rfl;rotate_left;simp only [Act.put,Y14,Y15,Y16,i64_w];rfl
               refine pure_ (i:=8) (N:=some 129) (v:=?_) (a':=?_) (sqB 11 287) rfl rfl J0 (fun _ _ _ h=>h) (Or.inl ⟨J19,?_⟩) ?_ ?_;rotate_left;intro w';go_simp;with_reducible rfl;rotate_left;simp only [Act.put,Y14,Y15,Y16,i64_w];rfl
               refine take_ (i:=9) (N:=some 130) (v:=?_) (a':=?_) (sqB 11 799) rfl rfl J0 (fun _ _ _ h=>h) (Or.inl ⟨J19,?_⟩) hHeld ?_ ?_;rotate_left;intro w' s0;go_simp;with_reducible rfl;rotate_left;simp only [Act.put,Y14,Y15,Y16,i64_w];rfl
               refine one_ (i:=5) (N:=some 126) (sqB 11 831) rfl rfl J0 J11 (fun K hK=>?_)
               refine goes_ Tryz.func99 J0 rfl #[.int .i64 kn] J19 rfl rfl J32 ?_
               with_reducible refine (table_keyed.calls kn false _ HKY.out).mono ?_
               rintro e1 W3 ⟨rfl,hd⟩
               refine ⟨_,rfl,?_⟩
               have HE3:=Y0 (HE2.out.drawn hd)
               have HX3:=Y0 (blk_below HX2.out hd.below)
               clear hd
               refine hK.out _ _ ((blk_cell HX3.out 6)) (fun hHeld=>?_)
               clear hK K
               refine norm_ (a':=?_) ?_ ?_;rotate_left;show Act.put _ (some 126) _=_;simp only [Act.put,Y14,Y15,Y16,i64_w];rfl
               refine pure_ (i:=6) (N:=some 127) (v:=?_) (a':=?_) (sqB 11 895) rfl rfl J0 (fun _ _ _ h=>h) (Or.inl ⟨J19,?_⟩) ?_ ?_;rotate_left;intro w';go_simp;with_reducible rfl;rotate_left;simp only [Act.put,Y14,Y15,Y16,i64_w];rfl
               refine pure_ (i:=7) (N:=some 128) (v:=?_) (a':=?_) (sqB 11 1023) rfl rfl J0 (fun _ _ _ h=>h) (Or.inl ⟨J19,?_⟩) ?_ ?_;rotate_left;intro w';go_simp;with_reducible rfl;rotate_left;simp only [Act.put,Y14,Y15,Y16,i64_w];rfl
               refine last_ (i:=10) (N:=some 131) (sqB 11 2047) rfl rfl J0 J11 (fun K hK=>?_)
               refine goes_ Tryz.func56 J0 rfl #[.pointer (some ⟨p,0,none⟩),.bool true,.int .i64 y6,.int .i64 5] J19 rfl rfl J32 ?_
               with_reducible refine (fail_s HE3.out.rs.blk true y6 5).mono ?_
               rintro e3 W4 ⟨rfl,hr3,hk3,-,hb3⟩
               refine ⟨_,rfl,?_⟩
               have n1_:=Y0 (HE3.out.err hr3 hk3 hb3)
               have n2_:=Y0 (hk3.blk HX3.out (blk_ne HX3.out HE3.out.rs.blk J11) J53)
               clear hr3 hk3 hb3
               refine hK.out _ _ ?_
               clear hK K
               refine norm_ (a':=?_) ?_ ?_;rotate_left;show Act.put _ (some 131) _=_;simp only [Act.put,Y14,Y15,Y16,i64_w];rfl
               refine done_ J0 ?_
               go_wp2_with fail
               go_meet
               exact ⟨rfl,n1_,n2_⟩
              ·have hr:r2=failE r1.1 r1.2 false y6 5:=HR2_.out
               subst hr
               clear HR2_
               go_wp2_with fail
               have HE0:=Y0 HE.out.drew
               have HX0:=Y0 (blk_drew HX.out)
               refine start_ (n:=9) (S:=fun w'=>w'.cell? ⟨vb,1,none⟩=some (.string y1)) (ds:=[]) #[false,false,false,false,false,false,false,false,false] J0 rfl rfl ((blk_cell HX0.out 1)) (fun hHeld=>?_)
               refine pure_ (i:=1) (N:=some 116) (v:=?_) (a':=?_) (sqB 9 2) rfl rfl J0 (fun _ _ _ h=>h) (Or.inl ⟨J19,?_⟩) ?_ ?_;rotate_left;intro w';go_simp;with_reducible rfl;rotate_left;simp only [Act.put,Y14,Y15,Y16,i64_w];rfl
               refine take_ (i:=2) (N:=some 117) (v:=?_) (a':=?_) (sqB 9 6) rfl rfl J0 (fun _ _ _ h=>h) (Or.inl ⟨J19,?_⟩) hHeld ?_ ?_;rotate_left;intro w' s0;go_simp;with_reducible rfl;rotate_left;simp only [Act.put,Y14,Y15,Y16,i64_w];rfl
               refine one_ (i:=0) (N:=some 115) (sqB 9 7) rfl rfl J0 J11 (fun K hK=>?_)
               refine goes_ Tryz.func59 J0 rfl #[] J19 rfl rfl J125 ?_
               with_reducible refine (tplain_s _).mono ?_
               rintro e1 W1 ⟨rfl,hp,hb⟩
               refine ⟨_,rfl,?_⟩
               have hl0:=hp.look_ok (s:=y1) HY.out.2.1
               rw [HTY.out] at hl0
               have hl:(Instr.lookup 114 (.map (some wc.heap.size)) (.string y1) true).run Tryz.prog W1 = .ok (.tuple #[.int .i64 kn,.bool true]) W1:=hl0
               have HE1:=Y0 (HE0.out.below hb)
               have HX1:=Y0 (blk_below HX0.out hb)
               clear hp hb hl0
               refine hK.out _ _ ((blk_cell HX1.out 1)) (fun hHeld=>?_)
               clear hK K
               refine norm_ (a':=?_) ?_ ?_;rotate_left;show Act.put _ (some 115) _=_;simp only [Act.put,Y14,Y15,Y16,i64_w];rfl
               refine one_ (i:=3) (N:=some 118) (sqB 9 15) rfl rfl J0 J11 (fun K hK=>?_)
               refine value_ (w1:=?_) (v:=?_) J19 rfl ?_ ?_
               rotate_left 2
               ·go_simp
                constructor
                ·rfl
                ·rfl
               refine hK.out _ _ ((blk_cell HX1.out 1)) (fun hHeld=>?_)
               clear hK K
               refine norm_ (a':=?_) ?_ ?_;rotate_left;show Act.put _ (some 118) _=_;simp only [Act.put,Y14,Y15,Y16,i64_w];rfl
               refine pure_ (i:=4) (N:=some 114) (v:=?_) (a':=?_) (sqB 9 31) rfl rfl J0 (fun _ _ _ h=>h) (Or.inl ⟨J19,?_⟩) ?_ ?_;rotate_left;intro w';go_simp;with_reducible rfl;rotate_left;simp only [Act.put,Y14,Y15,Y16,i64_w];rfl
               refine pure_ (i:=5) (N:=some 119) (v:=?_) (a':=?_) (sqB 9 63) rfl rfl J0 (fun _ _ _ h=>h) (Or.inl ⟨J19,?_⟩) ?_ ?_;rotate_left;intro w';go_simp;with_reducible rfl;rotate_left;simp only [Act.put,Y14,Y15,Y16,i64_w];rfl
               refine pure_ (i:=6) (N:=some 120) (v:=?_) (a':=?_) (sqB 9 127) rfl rfl J0 (fun _ _ _ h=>h) (Or.inl ⟨J19,?_⟩) ?_ ?_;rotate_left;intro w';go_simp;with_reducible rfl;rotate_left;simp only [Act.put,Y14,Y15,Y16,i64_w];rfl
               refine pure_ (i:=7) (N:=some 15) (v:=?_) (a':=?_) (sqB 9 255) rfl rfl J0 (fun _ _ _ h=>h) (Or.inl ⟨J19,?_⟩) ?_ ?_;rotate_left;intro w';go_simp;with_reducible rfl;rotate_left;simp only [Act.put,Y14,Y15,Y16,i64_w];rfl
               refine pure_ (i:=8) (N:=some 16) (v:=?_) (a':=?_) (sqB 9 511) rfl rfl J0 (fun _ _ _ h=>h) (Or.inl ⟨J19,?_⟩) ?_ ?_;rotate_left;intro w';go_simp;with_reducible rfl;rotate_left;simp only [Act.put,Y14,Y15,Y16,i64_w];rfl
               refine done_ J0 ?_
               clear HE0 HX0 hl
               go_wp2_with fail
               have HE2:=Y0 HE1.out.drew
               have HX2:=Y0 (blk_drew HX1.out)
               refine start_ (n:=11) (S:=fun w'=>w'.cell? ⟨vb,6,none⟩=some (.int .i64 y6)) (ds:=[10]) #[false,false,false,false,false,false,false,false,false,false,false] J0 rfl rfl ((blk_cell HX2.out 6)) (fun hHeld=>?_)
               refine pure_ (i:=0) (N:=some 121) (v:=?_) (a':=?_) (sqB 11 1) rfl rfl J0 (fun _ _ _ h=>h) (Or.inl ⟨J19,?_⟩) ?_ ?_;rotate_left;intro w';go_simp;with_reducible rfl;rotate_left;simp only [Act.put,Y14,Y15,Y16,i64_w];rfl
               refine pure_ (i:=1) (N:=some 122) (v:=?_) (a':=?_) (sqB 11 3) rfl rfl J0 (fun _ _ _ h=>h) (Or.inl ⟨J19,?_⟩) ?_ ?_;rotate_left;intro w';go_simp;with_reducible rfl;rotate_left;simp only [Act.put,Y14,Y15,Y16,i64_w];rfl
               refine pure_ (i:=2) (N:=some 123) (v:=?_) (a':=?_) (sqB 11 7) rfl rfl J0 (fun _ _ _ h=>h) (Or.inl ⟨J19,?_⟩) ?_ ?_;rotate_left;intro w';go_simp;with_reducible rfl;rotate_left;simp only [Act.put,Y14,Y15,Y16,i64_w];rfl
               refine pure_ (i:=3) (N:=some 124) (v:=?_) (a':=?_) (sqB 11 15) rfl rfl J0 (fun _ _ _ h=>h) (Or.inl ⟨J19,?_⟩) ?_ ?_;rotate_left;intro w';go_simp;with_reducible rfl;rotate_left;simp only [Act.put,Y14,Y15,Y16,i64_w];rfl
               refine pure_ (i:=4) (N:=some 125) (v:=?_) (a':=?_) (sqB 11 31) rfl rfl J0 (fun _ _ _ h=>h) (Or.inl ⟨J19,?_⟩) ?_ ?_;rotate_left;intro w';go_simp;with_reducible rfl;rotate_left;simp only [Act.put,Y14,Y15,Y16,i64_w];rfl
               refine pure_ (i:=8) (N:=some 129) (v:=?_) (a':=?_) (sqB 11 287) rfl rfl J0 (fun _ _ _ h=>h) (Or.inl ⟨J19,?_⟩) ?_ ?_;rotate_left;intro w';go_simp;with_reducible rfl;rotate_left;simp only [Act.put,Y14,Y15,Y16,i64_w];rfl
               refine take_ (i:=9) (N:=some 130) (v:=?_) (a':=?_) (sqB 11 799) rfl rfl J0 (fun _ _ _ h=>h) (Or.inl ⟨J19,?_⟩) hHeld ?_ ?_;rotate_left;intro w' s0;go_simp;with_reducible rfl;rotate_left;simp only [Act.put,Y14,Y15,Y16,i64_w];rfl
               refine one_ (i:=5) (N:=some 126) (sqB 11 831) rfl rfl J0 J11 (fun K hK=>?_)
               refine goes_ Tryz.func99 J0 rfl #[.int .i64 kn] J19 rfl rfl J32 ?_
               with_reducible refine (table_keyed.calls kn true _ HKY.out).mono ?_
               rintro e1 W3 ⟨rfl,hd⟩
               refine ⟨_,rfl,?_⟩
               have HE3:=Y0 (HE2.out.drawn hd)
               have HX3:=Y0 (blk_below HX2.out hd.below)
               clear hd
               refine hK.out _ _ ((blk_cell HX3.out 6)) (fun hHeld=>?_)
               clear hK K
               refine norm_ (a':=?_) ?_ ?_;rotate_left;show Act.put _ (some 126) _=_;simp only [Act.put,Y14,Y15,Y16,i64_w];rfl
               refine pure_ (i:=6) (N:=some 127) (v:=?_) (a':=?_) (sqB 11 895) rfl rfl J0 (fun _ _ _ h=>h) (Or.inl ⟨J19,?_⟩) ?_ ?_;rotate_left;intro w';go_simp;with_reducible rfl;rotate_left;simp only [Act.put,Y14,Y15,Y16,i64_w];rfl
               refine pure_ (i:=7) (N:=some 128) (v:=?_) (a':=?_) (sqB 11 1023) rfl rfl J0 (fun _ _ _ h=>h) (Or.inl ⟨J19,?_⟩) ?_ ?_;rotate_left;intro w';go_simp;with_reducible rfl;rotate_left;simp only [Act.put,Y14,Y15,Y16,i64_w];rfl
               refine last_ (i:=10) (N:=some 131) (sqB 11 2047) rfl rfl J0 J11 (fun K hK=>?_)
               refine goes_ Tryz.func56 J0 rfl #[.pointer (some ⟨p,0,none⟩),.bool false,.int .i64 y6,.int .i64 5] J19 rfl rfl J32 ?_
               with_reducible refine (fail_s HE3.out.rs.blk false y6 5).mono ?_
               rintro e3 W4 ⟨rfl,hr3,hk3,-,hb3⟩
               refine ⟨_,rfl,?_⟩
               have n1_:=Y0 (HE3.out.err hr3 hk3 hb3)
               have n2_:=Y0 (hk3.blk HX3.out (blk_ne HX3.out HE3.out.rs.blk J11) J53)
               clear hr3 hk3 hb3
               refine hK.out _ _ ?_
               clear hK K
               refine norm_ (a':=?_) ?_ ?_;rotate_left;show Act.put _ (some 131) _=_;simp only [Act.put,Y14,Y15,Y16,i64_w];rfl
               refine done_ J0 ?_
               go_wp2_with fail
               go_meet
               exact ⟨rfl,n1_,n2_⟩
           case rest =>
            clear HE HX HKN HRB2
            obtain ⟨rfl,HE,HX⟩:=hcut
            have z0:_=some (Value.string y0):=(blk_cell HX.out 0).trans rfl
            have hks:=kind_s HE.out.rs.blk HE.out.rs.nm y0 HY.out.1
            rw [HKD.out] at hks
            have HKS:=Y0 hks
            clear hks
            go_wp2_with fail
            go_at_call 100
            refine HKS.out.mono ?_
            rintro en_ W5 ⟨rfl,hb5⟩
            have n1_:=Y0 (HE.out.below hb5)
            have n2_:=Y0 (blk_below HX.out hb5)
            clear HE HX hb5 z0 HKS
            have HE:=n1_
            have HX:=n2_
            clear n1_ n2_
            have z6:_=some (Value.int .i64 y6):=(blk_cell HX.out 6).trans rfl
            go_wp2_with fail
            go_at_call 56
            refine (fail_s HE.out.rs.blk (!ki) y6 3).mono ?_
            rintro en_ W6 ⟨rfl,hr6,hk6,-,hb6⟩
            have n1_:=Y0 (HE.out.err hr6 hk6 hb6)
            have n2_:=Y0 (hk6.blk HX.out (blk_ne HX.out HE.out.rs.blk J11) J53)
            rw [← HRC2.out] at n1_
            clear HE HX hr6 hk6 hb6 z6
            have HE:=n1_
            have HX:=n2_
            clear n1_ n2_
            have z2:_=some (Value.bool y2):=(blk_cell HX.out 2).trans rfl
            have z3:_=some (Value.int .i64 y3):=(blk_cell HX.out 3).trans rfl
            have z4:_=some (Value.string y4):=(blk_cell HX.out 4).trans rfl
            have z5:_=some (Value.int .i64 y5):=(blk_cell HX.out 5).trans rfl
            have c1:=HE.out.c1
            go_wp2_with ((with_reducible refine gate_builtin (b:=.append) (xs:=#[.tmp 148,.tmp 161]) rfl ?_);at_builtin;refine Kd.R_append k51 (w0:=W6) D rfl (.tmp 148) (.tmp 161) 55 51 (.agg #[(.int .i64 0),(.string ⟨#[]⟩),(.int .i64 0),(.int .i64 0),(.bool false),(.int .i64 0),(.int .i64 0)]) 64 rfl Tryz.underlying55 info_FD rfl J11 J11 _ G ⟨y5,y4,kk,kr,y2,kn,y3⟩ [.int .i64 y5,.string y4,.int .i64 kk,.int .i64 kr,.bool y2,.int .i64 kn,.int .i64 y3] (fun _=>True) (fun _=>False) rfl rfl (k51_mkM _ _ _ _) (fun _ hk=>hk.elim) (fun _ _=>trivial) HE.out.rF (Below.refl _ _) HE.out.dle HLG.out ?_;intro v1 w1 hR1 _ hg1 _;obtain ⟨A5,c5,hv1⟩:=Kd.R_slice hR1;have hv2:v1 = .slice A5 (G.length + 1) c5:=(by rw [hv1,List.length_append];rfl);clear hv1;subst hv2;have HG2:=Y0 (HE.out.appF hR1 hg1);clear hR1 hg1;have hf1:=blk_frozen HG2.out.blk 1;have hk1:=HG2.out.c1)
            have HE3:=Y0 (HG2.out.set1 (u:=.slice A5 (G.length + 1) c5))
            clear HE HX HG2 z2 z3 z4 z5 c1 hf1 hk1
            go_roundg k1
            case measure=>omega
            case rel=>exact ⟨i + 1,r3.1,r3.2,S2,T2,_,J112,⟨J69⟩,⟨by rw [HTK.out,HFD.out];exact HE3.out⟩,HR2⟩
      ·have hil:i=F.length:=by have:=HL.out;omega
       subst hil
       rw [List.take_length] at HE
       have hr2:=HR.out
       rw [List.drop_length,fdL] at hr2
       subst hr2
       have HLG:Aside0 ((F.map (fdDef f)).length < 4611686018427387904):=⟨by rw [List.length_map];have:=HLL.out;omega⟩
       generalize F.map (fdDef f)=G0 at *
       have c1:=HE.out.c1
       go_wp2_with fail
       go_at_call 101
       refine (sort_s HE.out.rF HLG.out).mono ?_
       rintro en_ W8 ⟨rfl,hR8,hg8⟩
       rw [HGG.out] at hR8
       have n1_:=Y0 (HE.out.appF hR8 hg8)
       clear HE c1 hR8 hg8
       have HE:=n1_
       clear n1_
       generalize GG=G at *
       obtain ⟨AG,cG,rfl⟩:=Kd.R_slice HE.out.rF
       go_wp2_with fail
       have hp1:W8.cell? ⟨p,3,none⟩=some vM:=(blk_cell HE.out.rs.blk 3).trans rfl
       have y0:W8.cell? ⟨h,0,none⟩=some (.string x0):=(blk_cell HE.out.blk 0).trans rfl
       have y1:=HE.out.c1
       have HS:=Y0 ((HE.out.rs.wide (ok':=fun _=>True) (fun _ _=>trivial)).below (Below.refl _ W8).drew)
       have HB:=Y0 HE.out.bw.drew
       have HS1:Aside0 (w0.heap.size≤W8.drew.heap.size):=⟨Nat.le_trans HE.out.hd HE.out.dle⟩
       have HMM:Aside0 (k57.M W8.drew w0.heap.size (fun k=>D≤k) (⟨x0,G⟩:S57) [.string x0,.slice AG G.length cG]):=⟨k57_mkM _ _ _ _ (Kd.R_lower (Kd.R_mono (Kd.R_bound (Kd.R_drew HE.out.rF)) (fun k hk=>hk.2.1)) HE.out.hd)⟩
       have HOK:Aside0 (∀ k,D≤k→True∧some k≠vM.ownBlock):=⟨fun k hk=>⟨trivial,fun he=>by have:=HE.out.rs.rM.1 k he.symm;omega⟩⟩
       replace HML:Aside0 ((M.length + 1) * 40≤140737488355328):=⟨by have:=HML.out;omega⟩
       clear HE HR HL HCF HCO HCQ HW HZF HZO HZQ HLL
       refine start_ (n:=13) (S:=fun w'=>w'.cell? ⟨p,3,none⟩=some vM∧w'.cell? ⟨h,0,none⟩=some (.string x0)∧w'.cell? ⟨h,1,none⟩=some (.slice AG G.length cG)) (ds:=[8,12]) #[false,false,false,false,false,false,false,false,false,false,false,false,false] J0 rfl rfl ⟨hp1,y0,y1⟩ (fun hHeld=>?_)
       generalize W8.drew=WD at *
       refine pure_ (i:=0) (N:=some 168) (v:=?_) (a':=?_) (sqB 13 1) rfl rfl J0 (fun _ _ _ h=>h) (Or.inl ⟨J19,?_⟩) ?_ ?_;rotate_left;intro w';go_simp;with_reducible rfl;rotate_left;simp only [Act.put,Y14,Y15,Y16,i64_w];rfl
       refine pure_ (i:=1) (N:=some 169) (v:=?_) (a':=?_) (sqB 13 3) rfl rfl J0 (fun _ _ _ h=>h) (Or.inl ⟨J19,?_⟩) ?_ ?_;rotate_left;intro w';go_simp;with_reducible rfl;rotate_left;simp only [Act.put,Y14,Y15,Y16,i64_w];rfl
       refine pure_ (i:=2) (N:=some 170) (v:=?_) (a':=?_) (sqB 13 7) rfl rfl J0 (fun _ _ _ h=>h) (Or.inl ⟨J19,?_⟩) ?_ ?_;rotate_left;intro w';go_simp;with_reducible rfl;rotate_left;simp only [Act.put,Y14,Y15,Y16,i64_w];rfl
       refine pure_ (i:=3) (N:=some 171) (v:=?_) (a':=?_) (sqB 13 15) rfl rfl J0 (fun _ _ _ h=>h) (Or.inl ⟨J19,?_⟩) ?_ ?_;rotate_left;intro w';go_simp;with_reducible rfl;rotate_left;simp only [Act.put,Y14,Y15,Y16,i64_w];rfl
       refine pure_ (i:=4) (N:=some 172) (v:=?_) (a':=?_) (sqB 13 31) rfl rfl J0 (fun _ _ _ h=>h) (Or.inl ⟨J19,?_⟩) ?_ ?_;rotate_left;intro w';go_simp;with_reducible rfl;rotate_left;simp only [Act.put,Y14,Y15,Y16,i64_w];rfl
       refine take_ (i:=5) (N:=some 173) (v:=?_) (a':=?_) (sqB 13 63) rfl rfl J0 (fun _ _ _ h=>h) (Or.inl ⟨J19,?_⟩) hHeld ?_ ?_;rotate_left;rintro w' ⟨s0,s1,s2⟩;go_simp;with_reducible rfl;rotate_left;simp only [Act.put,Y14,Y15,Y16,i64_w];rfl
       refine take_ (i:=6) (N:=some 174) (v:=?_) (a':=?_) (sqB 13 127) rfl rfl J0 (fun _ _ _ h=>h) (Or.inl ⟨J19,?_⟩) hHeld ?_ ?_;rotate_left;rintro w' ⟨s0,s1,s2⟩;go_simp;with_reducible rfl;rotate_left;simp only [Act.put,Y14,Y15,Y16,i64_w];rfl
       refine one_ (i:=7) (N:=some 175) (sqB 13 255) rfl rfl J0 J11 (fun K hK=>?_)
       refine value_ (w1:=?_) (v:=?_) J19 rfl ?_ ?_
       rotate_left 2
       ·go_simp
        constructor
        ·rfl
        ·rfl
       refine hK.out _ _ ⟨(pw_cell_below (below_alloc (Below.refl _ _) _) hHeld.1),(pw_cell_below (below_alloc (Below.refl _ _) _) hHeld.2.1),(pw_cell_below (below_alloc (Below.refl _ _) _) hHeld.2.2)⟩ (fun hHeld=>?_)
       clear hK K
       refine norm_ (a':=?_) ?_ ?_;rotate_left;show Act.put _ (some 175) _=_;simp only [Act.put,Y14,Y15,Y16,i64_w];rfl
       refine last_ (i:=8) (N:=some 176) (sqB 13 511) rfl rfl J0 J11 (fun K hK=>?_)
       refine Kd.R_append_step k57 (w0:=WD) w0.heap.size J19 (.tmp 173) (.tmp 175) 43 57 (.agg #[(.string ⟨#[]⟩),(.slice none 0 0)]) 40 rfl Tryz.underlying43 info_MD rfl J11 J11 _ M ⟨x0,G⟩ [.string x0,.slice AG G.length cG] (fun _=>True) (fun k=>D≤k) rfl rfl HMM.out HOK.out (fun _ _=>trivial) HS.out.rM (Below.refl _ _) HS1.out HML.out ?_
       intro v1 w1 hR1 _ hg1 _
       obtain ⟨A5,c5,hv1⟩:=Kd.R_slice hR1
       have hw1:v1 = .slice A5 (M.length + 1) c5:=by rw [hv1,List.length_append];rfl
       clear hv1
       subst hw1
       have HR1:=Y0 hR1
       have HG1:=Y0 hg1
       clear hR1 hg1
       have hf1:=blk_frozen (blk_grow HS.out.rM HS.out.blk J11 HG1.out) 3
       have hk1:=(blk_cell (blk_grow HS.out.rM HS.out.blk J11 HG1.out) 3).trans rfl
       refine hK.out _ _ ?_
       clear hK K
       refine norm_ (a':=?_) ?_ ?_;rotate_left;show Act.put _ (some 176) _=_;simp only [Act.put,Y14,Y15,Y16,i64_w];rfl
       refine pure_ (i:=9) (N:=some 177) (v:=?_) (a':=?_) (sqB 13 1023) rfl rfl J0 (fun _ _ _ h=>h) (Or.inl ⟨J19,?_⟩) ?_ ?_;rotate_left;intro w';go_simp;with_reducible rfl;rotate_left;simp only [Act.put,Y14,Y15,Y16,i64_w];rfl
       refine pure_ (i:=10) (N:=some 178) (v:=?_) (a':=?_) (sqB 13 2047) rfl rfl J0 (fun _ _ _ h=>h) (Or.inl ⟨J19,?_⟩) ?_ ?_;rotate_left;intro w';go_simp;with_reducible rfl;rotate_left;simp only [Act.put,Y14,Y15,Y16,i64_w];rfl
       refine pure_ (i:=11) (N:=some 179) (v:=?_) (a':=?_) (sqB 13 4095) rfl rfl J0 (fun _ _ _ h=>h) (Or.inl ⟨J19,?_⟩) ?_ ?_;rotate_left;intro w';go_simp;with_reducible rfl;rotate_left;simp only [Act.put,Y14,Y15,Y16,i64_w];rfl
       refine last_ (i:=12) (N:=none) (sqB 13 8191) rfl rfl J0 J11 (fun K hK=>?_)
       refine skip_ (w1:=?_) J19 rfl ?_ ?_
       rotate_left
       ·go_simp
        rfl
       refine hK.out _ _ ?_
       clear hK K
       refine done_ J0 ?_
       go_wp2_with fail
       go_end0
       exact ⟨rfl,⟨_,HS.out.appM HR1.out HG1.out⟩,(HB.out.trans (grown_below HS.out.rM HG1.out HS1.out)).setCell (p:=⟨p,3,none⟩) HS.out.hp _⟩
def RfOk (y:S36):Prop:=y.f0.size≤maxLen∧y.f1.size≤maxLen∧y.f4.size≤maxLen∧(Lit.int .i64 y.f5).wf=true
def RmOk (x:S34):Prop:=x.f0.size≤maxLen∧(x.f1.length≤1759218604441∧x.f2.length≤8796093022208∧x.f3.length≤17592186044416)∧(∀ y ∈ x.f1,RfOk y)∧(∀ s ∈ x.f2,s.size≤maxLen)∧∀ q ∈ x.f3,(Lit.int .i64 q).wf=true
def ReOk (x:S68):Prop:=x.f0.size≤maxLen∧x.f1.length≤4398046511104∧∀ v ∈ x.f1,v.f0.size≤maxLen∧(Lit.int .i64 v.f1).wf=true
def RsOk (M:List (S34)) (E:List (S68)):Prop:=(∀ x ∈ M,RmOk x)∧∀ x ∈ E,ReOk x
def ResP (w:World) (r:(List (S57) × List (S119)) × Int × Int) (e:Ending) (w':World):Prop :=
 ∃ v0 v1:Value,e = .returned (.tuple #[.agg #[v0,v1],.int .i64 r.2.1,.int .i64 r.2.2])∧k57.R 57 w' w.heap.size (fun _=>True) v0 r.1.1∧k119.R 119 w' w.heap.size (fun _=>True) v1 r.1.2∧Below w.heap.size w w'
theorem res_ret {w V:World} {tmps:Array Value} {r:(List (S57) × List (S119)) × Int × Int} {g:Nat} {v0 v1:Value} (ht:tmps.getD 2 undef = .pointer (some ⟨g,0,none⟩)) (h3:tmps.getD 3 undef = .int .i64 r.2.1) (h4:tmps.getD 4 undef = .int .i64 r.2.2)
  (hb:V.heap[g]?=some (.cells #[v0,v1] 46 (0,0))) (hM:k57.R 57 V w.heap.size (fun _=>True) v0 r.1.1) (hE:k119.R 119 V w.heap.size (fun _=>True) v1 r.1.2) (h0:∃ A n c,v0 = .slice A n c) (h1:∃ A n c,v1 = .slice A n c) (hB:Below w.heap.size w V) :
  bodyPost Tryz.prog Tryz.f18 (ResP w r) .ret { tmps:=tmps,defers:=[] } V:=by
 obtain ⟨A,n,c,rfl⟩:=h0
 obtain ⟨A',n',c',rfl⟩:=h1
 refine bodyPost_ret (results_ctt rfl _ _ g 46 _ (0,0) _ ht hb Tryz.underlying46 rfl J0) rfl ⟨_,_,?_,hM,hE,hB⟩
 rw [h3,h4]
theorem RS.named {B:Nat} {ok:Nat→Prop} {W W':World} {p mb n n':Nat} {vA vB:Value} {f f':List UInt8→Option (Int × Int)} {M:List (S57)} {E:List (S119)} {a e a' e':Int} {vM vE:Value} (H:RS B ok W p mb n vA vB f M E a e vM vE) (hr:RB W' p vA vB (.map (some mb)) vM vE a' e') (hn:NMap W' mb n' f') (hk:KeepBut W W' p (some mb)):RS B ok W' p mb n' vA vB f' M E a' e' vM vE :=
 ⟨hr,Kd.R_mono (Kd.R_step (Kd.R_bound (Kd.R_types H.rM H.blk J11)) (fun k h hlt=>hk.2 k hlt h.1.2 (fun e=>by obtain ⟨_,_,_,q,_,cells,hc⟩:=h;exact gm_ne H.nm hc J107))) (fun _ h=>h.1.1),Kd.R_mono (Kd.R_step (Kd.R_bound (Kd.R_types H.rE H.blk J11)) (fun k h hlt=>hk.2 k hlt h.1.2 (fun e=>by obtain ⟨_,_,_,q,_,cells,hc⟩:=h;exact gm_ne H.nm hc J107))) (fun _ h=>h.1.1),hn,H.hp,H.hm⟩
theorem far2 {W:World} {p g j:Nat} {x:Value} (h:p≠g) (u v:Value) (hc:W.cell? ⟨p,j,none⟩=some x):((W.setCell ⟨g,0,none⟩ u).setCell ⟨g,1,none⟩ v).cell? ⟨p,j,none⟩=some x:=by
 rw [World.cell?_of_block (Below.heap_setCell _ ⟨g,1,none⟩ v p h),World.cell?_of_block (Below.heap_setCell _ ⟨g,0,none⟩ u p h)]
 exact hc
set_option maxHeartbeats 8000000 in
set_option maxRecDepth 100000 in
theorem res_long (AM AE:Option Addr) (cM cE:Nat) (M:List (S34)) (E:List (S68)) (w:World) (hmM:M.length≤9223372036854775807) (hmE:E.length≤9223372036854775807) (hbad:M.length=0∨20 < M.length∨20 < E.length) :
  Calls Tryz.prog 18 #[.agg #[.slice AM M.length cM,.slice AE E.length cE]] w (ResP w (([],[]),0,2)):=by
 obtain ⟨b1,hb1⟩:∃ b,((M.length:Int) == 0)=b:=⟨_,rfl⟩
 obtain ⟨b2,hb2⟩:∃ b,decide ((20:Int) < (M.length:Int))=b:=⟨_,rfl⟩
 obtain ⟨b3,hb3⟩:∃ b,decide ((20:Int) < (E.length:Int))=b:=⟨_,rfl⟩
 have HN:Aside0 ((b1 || (b2 || b3))=true):=⟨by
  rw [← hb1,← hb2,← hb3]
  simp only [Bool.or_eq_true,beq_iff_eq,decide_eq_true_eq]
  omega⟩
 have hb4:(M.length == 0)=b1:=by rw [← hb1];cases M.length <;> rfl
 have hb5:decide (20 < M.length)=b2:=by rw [← hb2];exact decide_eq_decide.2 J7
 have hb6:decide (20 < E.length)=b3:=by rw [← hb3];exact decide_eq_decide.2 J7
 clear hbad
 go_enter Tryz.func18,Tryz.ntmps18
 cases b1
 ·cases b2
  ·cases b3
   ·cases HN.out
   ·go_wp2
    have k1:=blk_new (w.alloc (.cells #[.slice AM M.length cM,.slice AE E.length cE] 26 (0,0))) (.cells #[.slice none 0 0,.slice none 0 0] 46 (0,0))
    have k2:=below_alloc (below_alloc (Below.refl _ w) (.cells #[.slice AM M.length cM,.slice AE E.length cE] 26 (0,0))) (.cells #[.slice none 0 0,.slice none 0 0] 46 (0,0))
    have e1:(w.alloc (.cells #[.slice AM M.length cM,.slice AE E.length cE] 26 (0,0))).heap.size=w.heap.size + 1:=World.size_alloc _ _
    rw [e1] at k1
    refine res_ret (r:=(([],[]),0,2)) (g:=w.heap.size + 1) ?_ ?_ ?_ k1 (Kd.R_nil _ _ _ _ _) (Kd.R_nil _ _ _ _ _) ⟨_,_,_,rfl⟩ ⟨_,_,_,rfl⟩ k2
    ·rfl
    ·rfl
    ·rfl
  ·go_wp2
   have k1:=blk_new (w.alloc (.cells #[.slice AM M.length cM,.slice AE E.length cE] 26 (0,0))) (.cells #[.slice none 0 0,.slice none 0 0] 46 (0,0))
   have k2:=below_alloc (below_alloc (Below.refl _ w) (.cells #[.slice AM M.length cM,.slice AE E.length cE] 26 (0,0))) (.cells #[.slice none 0 0,.slice none 0 0] 46 (0,0))
   have e1:(w.alloc (.cells #[.slice AM M.length cM,.slice AE E.length cE] 26 (0,0))).heap.size=w.heap.size + 1:=World.size_alloc _ _
   rw [e1] at k1
   refine res_ret (r:=(([],[]),0,2)) (g:=w.heap.size + 1) ?_ ?_ ?_ k1 (Kd.R_nil _ _ _ _ _) (Kd.R_nil _ _ _ _ _) ⟨_,_,_,rfl⟩ ⟨_,_,_,rfl⟩ k2
   ·rfl
   ·rfl
   ·rfl
 ·go_wp2
  have k1:=blk_new (w.alloc (.cells #[.slice AM M.length cM,.slice AE E.length cE] 26 (0,0))) (.cells #[.slice none 0 0,.slice none 0 0] 46 (0,0))
  have k2:=below_alloc (below_alloc (Below.refl _ w) (.cells #[.slice AM M.length cM,.slice AE E.length cE] 26 (0,0))) (.cells #[.slice none 0 0,.slice none 0 0] 46 (0,0))
  have e1:(w.alloc (.cells #[.slice AM M.length cM,.slice AE E.length cE] 26 (0,0))).heap.size=w.heap.size + 1:=World.size_alloc _ _
  rw [e1] at k1
  refine res_ret (r:=(([],[]),0,2)) (g:=w.heap.size + 1) ?_ ?_ ?_ k1 (Kd.R_nil _ _ _ _ _) (Kd.R_nil _ _ _ _ _) ⟨_,_,_,rfl⟩ ⟨_,_,_,rfl⟩ k2
  ·rfl
  ·rfl
  ·rfl
theorem RS.start {w0:World} (o q:Nat) (vA vB:Value) (ho:o=w0.heap.size) (hq:q=w0.heap.size + 1):RS w0.heap.size (fun _=>True) ((w0.alloc (.map #[] 0)).alloc (.cells #[vA,vB,.map (some o),.slice none 0 0,.slice none 0 0,.int .i64 0,.int .i64 0] 108 (0,0))) q o 0 vA vB (fun _=>none) [] [] 0 0 (.slice none 0 0) (.slice none 0 0):=by
 subst ho hq
 have e1:(w0.alloc (.map #[] 0)).heap.size=w0.heap.size + 1:=World.size_alloc _ _
 have b1:=blk_new (w0.alloc (.map #[] 0)) (.cells #[vA,vB,.map (some w0.heap.size),.slice none 0 0,.slice none 0 0,.int .i64 0,.int .i64 0] 108 (0,0))
 rw [e1] at b1
 have s0:NMap _ _ 0 (fun _=>none):=GM.made w0
 exact ⟨b1,Kd.R_nil _ _ _ _ _,Kd.R_nil _ _ _ _ _,GM.below s0 (below_alloc (Below.refl _ _) _),Nat.le_succ _,Nat.le_refl _⟩
set_option maxHeartbeats 8000000 in
set_option maxRecDepth 100000 in
theorem rsl_ok (AM AE:Option Addr) (cM cE:Nat) (M:List (S34)) (E:List (S68)) (w:World) (hCM:k34.C w AM M.length M) (hCE:k68.C w AE E.length E) (hcM:M.length≤cM) (hcE:E.length≤cE) (hok:RsOk M E) (hg1:1≤M.length) (hg2:M.length≤20) (hg3:E.length≤20) :
  Calls Tryz.prog 18 #[.agg #[.slice AM M.length cM,.slice AE E.length cE]] w (ResP w (rsF M E)):=by
 obtain ⟨s1,hs1⟩:∃ s1,mgL 0 M (fun _=>none,0,0)=s1:=⟨_,rfl⟩
 obtain ⟨s2,hs2⟩:∃ s2,egL 0 E s1=s2:=⟨_,rfl⟩
 obtain ⟨r3,hr3⟩:∃ r3,mrL s2.1 M (s2.2.1,s2.2.2)=r3:=⟨_,rfl⟩
 obtain ⟨r4,hr4⟩:∃ r4,enuL E r3=r4:=⟨_,rfl⟩
 obtain ⟨RR,hRR⟩:∃ RR,rsF M E=RR:=⟨_,rfl⟩
 rw [hRR]
 have hrr:RR=if r4.2=0 then ((M.map (msDef s2.1),E.map enDef),0,0) else (([],[]),r4.1,r4.2):=by
  rw [← hRR]
  unfold rsF rsE rsN
  rw [if_neg J7,hs1,hs2,hr3,hr4]
 have HS1:=Y0 hs1
 have HS2:=Y0 hs2
 have HR3:=Y0 hr3
 have HR4:=Y0 hr4
 have HRR:=Y0 hrr
 have HOM:=Y0 hok.1
 have HOE:=Y0 hok.2
 have hmM:=Kd.C_max hCM
 have hmE:=Kd.C_max hCE
 have bb:Below w.heap.size w ((w.alloc (.cells #[.slice AM M.length cM,.slice AE E.length cE] 26 (0,0))).alloc (.cells #[.slice none 0 0,.slice none 0 0] 46 (0,0))):=below_alloc (below_alloc (Below.refl _ w) _) _
 have HCM:=Y0 (Kd.C_below hCM bb)
 have HCE:=Y0 (Kd.C_below hCE bb)
 have HBB:=Y0 bb
 have e1:(w.alloc (.cells #[.slice AM M.length cM,.slice AE E.length cE] 26 (0,0))).heap.size=w.heap.size + 1:=World.size_alloc _ _
 have e2:((w.alloc (.cells #[.slice AM M.length cM,.slice AE E.length cE] 26 (0,0))).alloc (.cells #[.slice none 0 0,.slice none 0 0] 46 (0,0))).heap.size=w.heap.size + 1 + 1:=by rw [World.size_alloc,e1]
 have q2:=blk_new (w.alloc (.cells #[.slice AM M.length cM,.slice AE E.length cE] 26 (0,0))) (.cells #[.slice none 0 0,.slice none 0 0] 46 (0,0))
 rw [e1] at q2
 have HX1:=Y0 (blk_alloc (blk_new w (.cells #[.slice AM M.length cM,.slice AE E.length cE] 26 (0,0))) (.cells #[.slice none 0 0,.slice none 0 0] 46 (0,0)))
 have HX2:=Y0 q2
 have HST:=Y0 (RS.start (w0:=(w.alloc (.cells #[.slice AM M.length cM,.slice AE E.length cE] 26 (0,0))).alloc (.cells #[.slice none 0 0,.slice none 0 0] 46 (0,0))) (w.heap.size + 1 + 1) (w.heap.size + 1 + 1 + 1) (.slice AM M.length cM) (.slice AE E.length cE) e2.symm (by rw [e2]))
 have HWB:=Y0 (below_alloc (below_alloc (Below.refl _ ((w.alloc (.cells #[.slice AM M.length cM,.slice AE E.length cE] 26 (0,0))).alloc (.cells #[.slice none 0 0,.slice none 0 0] 46 (0,0)))) (.map #[] 0)) (.cells #[(.slice AM M.length cM),(.slice AE E.length cE),.map (some (w.heap.size + 1 + 1)),.slice none 0 0,.slice none 0 0,.int .i64 0,.int .i64 0] 108 (0,0)))
 have HSZ:=Y0 e2
 have t1:((M.length:Int) == 0)=false:=beq_eq_false_iff_ne.2 J7
 have t2:decide ((20:Int) < (M.length:Int))=false:=decide_eq_false J7
 have t3:decide ((20:Int) < (E.length:Int))=false:=decide_eq_false J7
 have t4:(M.length == 0)=false:=beq_eq_false_iff_ne.2 J7
 have HG2:=Y0 hg2
 have HG3:=Y0 hg3
 clear hs1 hs2 hr3 hr4 hrr hRR hok hCM hCE bb e1 e2 q2 hg1 hg2 hg3
 have hmm:=@run_makeMap Tryz.prog
 go_enter Tryz.func18,Tryz.ntmps18
 go_wp2_with fail
 clear hmm t1 t2 t3 t4
 generalize hw0:(w.alloc (.cells #[.slice AM M.length cM,.slice AE E.length cE] 26 (0,0))).alloc (.cells #[.slice none 0 0,.slice none 0 0] 46 (0,0))=w0 at *
 clear hw0
 obtain ⟨p,hp_⟩:∃ p,w.heap.size + 1 + 1 + 1=p:=⟨_,rfl⟩
 obtain ⟨mb,hmb⟩:∃ m,w.heap.size + 1 + 1=m:=⟨_,rfl⟩
 obtain ⟨g1,hg1⟩:∃ g,w.heap.size + 1=g:=⟨_,rfl⟩
 obtain ⟨g0,hg0⟩:∃ g,w.heap.size=g:=⟨_,rfl⟩
 have HGE:Aside0 (w.heap.size≤w0.heap.size∧g1 < w0.heap.size∧w.heap.size≤g1):=⟨by have:=HSZ.out;omega⟩
 clear HSZ
 rw [hp_,hmb] at HST
 rw [hmb] at HWB
 rw [hg1] at HX2
 rw [hg0] at HX1
 rw [hp_,hmb,hg1]
 try rw [hg0]
 clear hp_ hmb hg1 hg0
 go_loopg [38] M.length (fun n_ vi_ V=>∃ (i:Nat) (s:NmSt),vi_ = .int .i64 i∧Aside0 (i + n_=M.length)∧Aside0 (RS w0.heap.size (fun _=>True) V p mb i (.slice AM M.length cM) (.slice AE E.length cE) s.1 [] [] s.2.1 s.2.2 (.slice none 0 0) (.slice none 0 0))∧Aside0 (Below w0.heap.size w0 V)∧Aside0 (mgL i (M.drop i) s=s1))
 case atStart=>exact ⟨0,(fun _=>none,0,0),rfl,⟨J7⟩,HST,HWB,HS1⟩
 case round =>
  clear HST HWB HS1
  obtain ⟨i,s,rfl,HL,HS,HW,HR⟩:=hrel
  by_cases hlt:i < M.length
  ·have d3:(0:Int)≤(i:Int):=by omega
   have d4:(i:Int) < (M.length:Int):=by omega
   obtain ⟨ad,A1_,c1_,A2_,c2_,A3_,c3_,had,z0,z1,z2,z3,z4,q1_,q2_,q3_,q4_,q5_,q6_⟩:=at_T34 HCM.out i d3 d4
   obtain ⟨x,hx⟩:∃ x,x=M[i]'hlt:=⟨_,rfl⟩
   have hrd:rd_T34 M i=x:=by unfold rd_T34;rw [hx,List.getD_eq_getElem?_getD];simp [hlt]
   rw [hrd] at z0 z1 z2 z3 z4
   rw [Int.toNat_natCast] at z0 z1 z2 z3 z4
   replace z0:=(HW.out.cell (World.block_lt_of_cell? w0 _ z0)).trans z0
   replace z1:=(HW.out.cell (World.block_lt_of_cell? w0 _ z1)).trans z1
   replace z2:=(HW.out.cell (World.block_lt_of_cell? w0 _ z2)).trans z2
   replace z3:=(HW.out.cell (World.block_lt_of_cell? w0 _ z3)).trans z3
   replace z4:=(HW.out.cell (World.block_lt_of_cell? w0 _ z4)).trans z4
   clear hrd q1_ q2_ q3_ q4_ q5_ q6_
   subst had
   have hok:=HOM.out x J87
   have hdrop:M.drop i=x :: M.drop (i + 1):=by rw [hx];exact drop_cons hlt
   clear hx
   obtain ⟨y0,Fl,Ol,Ql,y4⟩:=x
   have HZ:Aside0 (y0.size≤maxLen):=⟨hok.1⟩
   have hr:=HR.out
   rw [hdrop,mgL] at hr
   obtain ⟨r,hr_⟩:∃ r,r=failE s.2.1 s.2.2 ((typO (bl y0)).isSome || (s.1 (bl y0)).isSome) y4 4:=⟨_,rfl⟩
   obtain ⟨b1,hb1⟩:∃ b,decide ((30:Int) < (Fl.length:Int))=b:=⟨_,rfl⟩
   obtain ⟨b2,hb2⟩:∃ b,decide ((30:Int) < (Ol.length:Int))=b:=⟨_,rfl⟩
   have hc1:decide (30 < Fl.length)=b1:=by rw [← hb1];exact decide_eq_decide.2 J7
   have hc2:decide (30 < Ol.length)=b2:=by rw [← hb2];exact decide_eq_decide.2 J7
   have hs':mgE i ⟨y0,Fl,Ol,Ql,y4⟩ s=(nameF s.1 (bl y0) (9,(i:Int)),(failE r.1 r.2 (b1 || b2) y4 2).1,(failE r.1 r.2 (b1 || b2) y4 2).2):=by rw [hr_,← hc1,← hc2];rfl
   rw [hs'] at hr
   have HR2:=Y0 hr
   have HR_:=Y0 hr_
   have HB1:=Y0 hb1
   have HB2:=Y0 hb2
   have HC1:=Y0 hc1
   have HC2:=Y0 hc2
   clear hok hdrop hr hr_ hb1 hb2 hc1 hc2 hs' HR
   have HN:Aside0 (i < maxLen):=⟨J158⟩
   cases gk with
   | zero=>have:=HL.out;omega
   | succ k1 =>
    go_wp2_with fail
    have HX:=Y0 (blk_new wr (.cells #[.string y0,.slice A1_ Fl.length c1_,.slice A2_ Ol.length c2_,.slice A3_ Ql.length c3_,.int .i64 y4] 34 (0,0)))
    have n1_:=Y0 (HS.out.below (below_alloc (Below.refl _ wr) (.cells #[.string y0,.slice A1_ Fl.length c1_,.slice A2_ Ol.length c2_,.slice A3_ Ql.length c3_,.int .i64 y4] 34 (0,0))))
    have n3_:=Y0 (HW.out.alloc HW.out.size (.cells #[.string y0,.slice A1_ Fl.length c1_,.slice A2_ Ol.length c2_,.slice A3_ Ql.length c3_,.int .i64 y4] 34 (0,0)))
    clear HS HW z0 z1 z2 z3 z4
    have HS:=n1_
    have HW:=n3_
    clear n1_ n3_
    generalize wr.alloc (.cells #[.string y0,.slice A1_ Fl.length c1_,.slice A2_ Ol.length c2_,.slice A3_ Ql.length c3_,.int .i64 y4] 34 (0,0))=V0 at *
    obtain ⟨vb,hvb⟩:∃ vb,wr.heap.size=vb:=⟨_,rfl⟩
    rw [hvb] at HX ⊢
    clear hvb
    go_at_call 55
    refine (name_s HS.out.blk HS.out.nm HN.out y0 HZ.out (9,(i:Int)) y4).mono ?_
    rintro en_ V1 ⟨rfl,hr1,hn1,hk1,hb1⟩
    rw [← HR_.out] at hr1
    have n1_:=Y0 (HS.out.named hr1 hn1 hk1)
    have n2_:=Y0 (hk1.blk HX.out (blk_ne HX.out HS.out.blk J11) (fun e=>gm_ne HS.out.nm HX.out J107))
    have n3_:=Y0 (HW.out.trans (hb1 _ HS.out.hp HS.out.hm))
    clear HS HW HX hr1 hn1 hk1 hb1
    have HS:=n1_
    have HW:=n3_
    have HX:=n2_
    clear n1_ n2_ n3_
    have u1:=(blk_cell HX.out 1).trans rfl
    have u2:=(blk_cell HX.out 2).trans rfl
    have u4:=(blk_cell HX.out 4).trans rfl
    have hb1:=HB1.out
    have hb2:=HB2.out
    have hc1:=HC1.out
    have hc2:=HC2.out
    clear HB1 HB2 HC1 HC2
    cases b1
    ·cases b2
     ·go_wp2_with fail;go_at_call 56;refine (fail_s HS.out.blk false y4 2).mono ?_;rintro en_ V2 ⟨rfl,hr2,hk2,hsz2,hw2⟩;clear hsz2;have n1_:=Y0 (HS.out.err hr2 hk2);have n3_:=Y0 (HW.out.trans (hw2 _ HS.out.hp));clear HS HW HX hr2 hk2 hw2 u1 u2 u4 hb1 hb2 hc1 hc2;go_wp2_with fail;go_roundg k1;(case measure=>omega);(case rel=>exact ⟨i + 1,_,J112,⟨J69⟩,n1_,n3_,HR2⟩)
     ·go_wp2_with fail;go_at_call 56;refine (fail_s HS.out.blk true y4 2).mono ?_;rintro en_ V2 ⟨rfl,hr2,hk2,hsz2,hw2⟩;clear hsz2;have n1_:=Y0 (HS.out.err hr2 hk2);have n3_:=Y0 (HW.out.trans (hw2 _ HS.out.hp));clear HS HW HX hr2 hk2 hw2 u1 u2 u4 hb1 hb2 hc1 hc2;go_wp2_with fail;go_roundg k1;(case measure=>omega);(case rel=>exact ⟨i + 1,_,J112,⟨J69⟩,n1_,n3_,HR2⟩)
    ·go_wp2_with fail;go_at_call 56;refine (fail_s HS.out.blk true y4 2).mono ?_;rintro en_ V2 ⟨rfl,hr2,hk2,hsz2,hw2⟩;clear hsz2;have n1_:=Y0 (HS.out.err hr2 hk2);have n3_:=Y0 (HW.out.trans (hw2 _ HS.out.hp));clear HS HW HX hr2 hk2 hw2 u1 u2 u4 hb1 hb2 hc1 hc2;go_wp2_with fail;go_roundg k1;(case measure=>omega);(case rel=>exact ⟨i + 1,_,J112,⟨J69⟩,n1_,n3_,HR2⟩)
  ·have hil:i=M.length:=by have:=HL.out;omega
   subst hil
   have hr:=HR.out
   rw [List.drop_length,mgL] at hr
   subst hr
   have bx1:wr.cell? ⟨g0,1,none⟩=some (.slice AE E.length cE):=(HW.out.cell (blk_lt HX1.out)).trans ((blk_cell HX1.out 1).trans rfl)
   go_wp2_with fail
   clear bx1
   go_loopg [69] E.length (fun n_ vi_ V=>∃ (i:Nat) (s:NmSt),vi_ = .int .i64 i∧Aside0 (i + n_=E.length)∧Aside0 (RS w0.heap.size (fun _=>True) V p mb (M.length + i) (.slice AM M.length cM) (.slice AE E.length cE) s.1 [] [] s.2.1 s.2.2 (.slice none 0 0) (.slice none 0 0))∧Aside0 (Below w0.heap.size w0 V)∧Aside0 (egL i (E.drop i) s=s2))
   case atStart=>exact ⟨0,s,rfl,⟨J7⟩,HS,HW,HS2⟩
   case round =>
    clear HS HW HL HS2
    obtain ⟨i,s,rfl,HL,HS,HW,HR⟩:=hrel
    by_cases hlt:i < E.length
    ·have d3:(0:Int)≤(i:Int):=by omega
     have d4:(i:Int) < (E.length:Int):=by omega
     obtain ⟨ad,A1_,c1_,had,z0,z1,z2,q1_,q2_⟩:=at_T68 HCE.out i d3 d4
     obtain ⟨x,hx⟩:∃ x,x=E[i]'hlt:=⟨_,rfl⟩
     have hrd:rd_T68 E i=x:=by unfold rd_T68;rw [hx,List.getD_eq_getElem?_getD];simp [hlt]
     rw [hrd] at z0 z1 z2
     rw [Int.toNat_natCast] at z0 z1 z2
     replace z0:=(HW.out.cell (World.block_lt_of_cell? w0 _ z0)).trans z0
     replace z1:=(HW.out.cell (World.block_lt_of_cell? w0 _ z1)).trans z1
     replace z2:=(HW.out.cell (World.block_lt_of_cell? w0 _ z2)).trans z2
     clear hrd q1_ q2_
     subst had
     have hok:=HOE.out x J87
     have hdrop:E.drop i=x :: E.drop (i + 1):=by rw [hx];exact drop_cons hlt
     clear hx
     obtain ⟨y0,Vl,y2⟩:=x
     have HZ:Aside0 (y0.size≤maxLen):=⟨hok.1⟩
     have hr:=HR.out
     rw [hdrop,egL] at hr
     obtain ⟨r,hr_⟩:∃ r,r=failE s.2.1 s.2.2 ((typO (bl y0)).isSome || (s.1 (bl y0)).isSome) y2 4:=⟨_,rfl⟩
     obtain ⟨b1,hb1⟩:∃ b,((Vl.length:Int) == 0)=b:=⟨_,rfl⟩
     obtain ⟨b2,hb2⟩:∃ b,decide ((30:Int) < (Vl.length:Int))=b:=⟨_,rfl⟩
     have hc1:(Vl.length == 0)=b1:=by rw [← hb1];cases Vl.length <;> rfl
     have hc2:decide (30 < Vl.length)=b2:=by rw [← hb2];exact decide_eq_decide.2 J7
     have hs':egE i ⟨y0,Vl,y2⟩ s=(nameF s.1 (bl y0) (6,(i:Int)),(failE r.1 r.2 (b1 || b2) y2 2).1,(failE r.1 r.2 (b1 || b2) y2 2).2):=by rw [hr_,← hc1,← hc2];rfl
     rw [hs'] at hr
     have HR2:=Y0 hr
     have HR_:=Y0 hr_
     have HB1:=Y0 hb1
     have HB2:=Y0 hb2
     have HC1:=Y0 hc1
     have HC2:=Y0 hc2
     clear hok hdrop hr hr_ hb1 hb2 hc1 hc2 hs' HR
     have HN:Aside0 ((M.length + i) < maxLen):=⟨J158⟩
     cases gk with
     | zero=>have:=HL.out;omega
     | succ k1 =>
      go_wp2_with fail
      have HX:=Y0 (blk_new wr (.cells #[.string y0,.slice A1_ Vl.length c1_,.int .i64 y2] 68 (0,0)))
      have n1_:=Y0 (HS.out.below (below_alloc (Below.refl _ wr) (.cells #[.string y0,.slice A1_ Vl.length c1_,.int .i64 y2] 68 (0,0))))
      have n3_:=Y0 (HW.out.alloc HW.out.size (.cells #[.string y0,.slice A1_ Vl.length c1_,.int .i64 y2] 68 (0,0)))
      clear HS HW z0 z1 z2
      have HS:=n1_
      have HW:=n3_
      clear n1_ n3_
      generalize wr.alloc (.cells #[.string y0,.slice A1_ Vl.length c1_,.int .i64 y2] 68 (0,0))=V0 at *
      obtain ⟨vb,hvb⟩:∃ vb,wr.heap.size=vb:=⟨_,rfl⟩
      rw [hvb] at HX ⊢
      clear hvb
      go_at_call 55
      refine (name_s HS.out.blk HS.out.nm HN.out y0 HZ.out (6,(i:Int)) y2).mono ?_
      rintro en_ V1 ⟨rfl,hr1,hn1,hk1,hb1⟩
      rw [← HR_.out] at hr1
      have n1_:=Y0 (HS.out.named hr1 hn1 hk1)
      have n2_:=Y0 (hk1.blk HX.out (blk_ne HX.out HS.out.blk J11) (fun e=>gm_ne HS.out.nm HX.out J107))
      have n3_:=Y0 (HW.out.trans (hb1 _ HS.out.hp HS.out.hm))
      clear HS HW HX hr1 hn1 hk1 hb1
      have HS:=n1_
      have HW:=n3_
      have HX:=n2_
      clear n1_ n2_ n3_
      have u1:=(blk_cell HX.out 1).trans rfl
      have u4:=(blk_cell HX.out 2).trans rfl
      have hb1:=HB1.out
      have hb2:=HB2.out
      have hc1:=HC1.out
      have hc2:=HC2.out
      clear HB1 HB2 HC1 HC2
      cases b1
      ·cases b2
       ·go_wp2_with fail;go_at_call 56;refine (fail_s HS.out.blk false y2 2).mono ?_;rintro en_ V2 ⟨rfl,hr2,hk2,hsz2,hw2⟩;clear hsz2;have n1_:=Y0 (HS.out.err hr2 hk2);have n3_:=Y0 (HW.out.trans (hw2 _ HS.out.hp));clear HS HW HX hr2 hk2 hw2 u1 u4 hb1 hb2 hc1 hc2;go_wp2_with fail;go_roundg k1;(case measure=>omega);(case rel=>exact ⟨i + 1,_,J112,⟨J69⟩,n1_,n3_,HR2⟩)
       ·go_wp2_with fail;go_at_call 56;refine (fail_s HS.out.blk true y2 2).mono ?_;rintro en_ V2 ⟨rfl,hr2,hk2,hsz2,hw2⟩;clear hsz2;have n1_:=Y0 (HS.out.err hr2 hk2);have n3_:=Y0 (HW.out.trans (hw2 _ HS.out.hp));clear HS HW HX hr2 hk2 hw2 u1 u4 hb1 hb2 hc1 hc2;go_wp2_with fail;go_roundg k1;(case measure=>omega);(case rel=>exact ⟨i + 1,_,J112,⟨J69⟩,n1_,n3_,HR2⟩)
      ·go_wp2_with fail;go_at_call 56;refine (fail_s HS.out.blk true y2 2).mono ?_;rintro en_ V2 ⟨rfl,hr2,hk2,hsz2,hw2⟩;clear hsz2;have n1_:=Y0 (HS.out.err hr2 hk2);have n3_:=Y0 (HW.out.trans (hw2 _ HS.out.hp));clear HS HW HX hr2 hk2 hw2 u1 u4 hb1 hb2 hc1 hc2;go_wp2_with fail;go_roundg k1;(case measure=>omega);(case rel=>exact ⟨i + 1,_,J112,⟨J69⟩,n1_,n3_,HR2⟩)
    ·have hil:i=E.length:=by have:=HL.out;omega
     subst hil
     have hr:=HR.out
     rw [List.drop_length,egL] at hr
     subst hr
     have bx0:wr.cell? ⟨g0,0,none⟩=some (.slice AM M.length cM):=(HW.out.cell (blk_lt HX1.out)).trans ((blk_cell HX1.out 0).trans rfl)
     go_wp2_with fail
     clear bx0
     go_loopg [100] M.length (fun n_ vi_ V=>∃ (i:Nat) (r:Int × Int) (vO:Value),vi_ = .int .i64 i∧Aside0 (i + n_=M.length)∧Aside0 (RS w0.heap.size (fun _=>True) V p mb (M.length + E.length) (.slice AM M.length cM) (.slice AE E.length cE) s.1 ((M.take i).map (msDef s.1)) [] r.1 r.2 vO (.slice none 0 0))∧Aside0 (Below w0.heap.size w0 V)∧Aside0 (mrL s.1 (M.drop i) r=r3))
     case atStart=>exact ⟨0,(s.2.1,s.2.2),_,rfl,⟨J7⟩,HS,HW,HR3⟩
     case round =>
      clear HS HW HL HR3
      obtain ⟨i,r,vO,rfl,HL,HS,HW,HR⟩:=hrel
      by_cases hlt:i < M.length
      ·have d3:(0:Int)≤(i:Int):=by omega
       have d4:(i:Int) < (M.length:Int):=by omega
       obtain ⟨ad,A1_,c1_,A2_,c2_,A3_,c3_,had,z0,z1,z2,z3,z4,q1_,q2_,q3_,q4_,q5_,q6_⟩:=at_T34 HCM.out i d3 d4
       obtain ⟨x,hx⟩:∃ x,x=M[i]'hlt:=⟨_,rfl⟩
       have hrd:rd_T34 M i=x:=by unfold rd_T34;rw [hx,List.getD_eq_getElem?_getD];simp [hlt]
       rw [hrd] at z0 z1 z2 z3 z4 q1_ q2_ q3_ q4_ q5_ q6_
       rw [Int.toNat_natCast] at z0 z1 z2 z3 z4
       replace z0:=(HW.out.cell (World.block_lt_of_cell? w0 _ z0)).trans z0
       replace z1:=(HW.out.cell (World.block_lt_of_cell? w0 _ z1)).trans z1
       replace z2:=(HW.out.cell (World.block_lt_of_cell? w0 _ z2)).trans z2
       replace z3:=(HW.out.cell (World.block_lt_of_cell? w0 _ z3)).trans z3
       replace z4:=(HW.out.cell (World.block_lt_of_cell? w0 _ z4)).trans z4
       clear hrd
       subst had
       have hok:=HOM.out x J87
       have hdrop:M.drop i=x :: M.drop (i + 1):=by rw [hx];exact drop_cons hlt
       have htake:M.take (i + 1)=M.take i++[x]:=by rw [hx];exact (List.take_succ_eq_append_getElem hlt)
       clear hx
       obtain ⟨y0,Fl,Ol,Ql,y4⟩:=x
       have hr:=HR.out
       rw [hdrop,mrL] at hr
       have HR2:=Y0 hr
       have HOK:=Y0 hok
       have HTK:=Y0 htake
       have Hq1_:=Y0 q1_
       have Hq2_:=Y0 q2_
       have Hq3_:=Y0 q3_
       have Hq4_:=Y0 q4_
       have Hq5_:=Y0 q5_
       have Hq6_:=Y0 q6_
       clear hok hdrop hr htake HR q1_ q2_ q3_ q4_ q5_ q6_
       cases gk with
       | zero=>have:=HL.out;omega
       | succ k1 =>
        go_wp2_with fail
        have n1_:=Y0 (HS.out.below (below_alloc (Below.refl _ wr) (.cells #[.string y0,.slice A1_ Fl.length c1_,.slice A2_ Ol.length c2_,.slice A3_ Ql.length c3_,.int .i64 y4] 34 (0,0))))
        have n3_:=Y0 (HW.out.alloc HW.out.size (.cells #[.string y0,.slice A1_ Fl.length c1_,.slice A2_ Ol.length c2_,.slice A3_ Ql.length c3_,.int .i64 y4] 34 (0,0)))
        clear HS HW z0 z1 z2 z3 z4
        have HS:=n1_
        have HW:=n3_
        clear n1_ n3_
        generalize wr.alloc (.cells #[.string y0,.slice A1_ Fl.length c1_,.slice A2_ Ol.length c2_,.slice A3_ Ql.length c3_,.int .i64 y4] 34 (0,0))=V0 at *
        go_at_call 57
        refine (rmsg_s HS.out HW.out y0 Fl Ol Ql y4 A1_ A2_ A3_ c1_ c2_ c3_ Hq2_.out Hq4_.out Hq6_.out Hq1_.out Hq3_.out Hq5_.out (by rw [List.length_map,List.length_take];have:=HG2.out;omega) HOK.out.2.1 HOK.out.2.2.1 HOK.out.2.2.2.1 HOK.out.2.2.2.2).mono ?_
        rintro en_ V1 ⟨rfl,⟨vO',hS'⟩,hW'⟩
        have n1_:=Y0 hS'
        have n3_:=Y0 hW'
        clear HS HW hS' hW'
        go_wp2_with fail
        go_roundg k1
        case measure=>omega
        case rel=>exact ⟨i + 1,_,vO',J112,⟨J69⟩,⟨by rw [HTK.out,List.map_append];exact n1_.out⟩,n3_,HR2⟩
      ·have hil:i=M.length:=by have:=HL.out;omega
       subst hil
       rw [List.take_length] at HS
       have hr:=HR.out
       rw [List.drop_length,mrL] at hr
       subst hr
       obtain ⟨vM,hvM⟩:∃ vM,vM=vO:=⟨_,rfl⟩
       subst hvM
       have bx1:wr.cell? ⟨g0,1,none⟩=some (.slice AE E.length cE):=(HW.out.cell (blk_lt HX1.out)).trans ((blk_cell HX1.out 1).trans rfl)
       go_wp2_with fail
       clear bx1
       go_loopg [111] E.length (fun n_ vi_ V=>∃ (i:Nat) (r:Int × Int) (vO:Value),vi_ = .int .i64 i∧Aside0 (i + n_=E.length)∧Aside0 (RS w0.heap.size (fun _=>True) V p mb (M.length + E.length) (.slice AM M.length cM) (.slice AE E.length cE) s.1 (M.map (msDef s.1)) ((E.take i).map enDef) r.1 r.2 vM vO)∧Aside0 (Below w0.heap.size w0 V)∧Aside0 (enuL (E.drop i) r=r4))
       case atStart=>exact ⟨0,r,_,rfl,⟨J7⟩,HS,HW,HR4⟩
       case round =>
        clear HS HW HL HR4
        obtain ⟨i,r,vO,rfl,HL,HS,HW,HR⟩:=hrel
        by_cases hlt:i < E.length
        ·have d3:(0:Int)≤(i:Int):=by omega
         have d4:(i:Int) < (E.length:Int):=by omega
         obtain ⟨ad,A1_,c1_,had,z0,z1,z2,q1_,q2_⟩:=at_T68 HCE.out i d3 d4
         obtain ⟨x,hx⟩:∃ x,x=E[i]'hlt:=⟨_,rfl⟩
         have hrd:rd_T68 E i=x:=by unfold rd_T68;rw [hx,List.getD_eq_getElem?_getD];simp [hlt]
         rw [hrd] at z0 z1 z2 q1_ q2_
         rw [Int.toNat_natCast] at z0 z1 z2
         replace z0:=(HW.out.cell (World.block_lt_of_cell? w0 _ z0)).trans z0
         replace z1:=(HW.out.cell (World.block_lt_of_cell? w0 _ z1)).trans z1
         replace z2:=(HW.out.cell (World.block_lt_of_cell? w0 _ z2)).trans z2
         clear hrd
         subst had
         have hok:=HOE.out x J87
         have hdrop:E.drop i=x :: E.drop (i + 1):=by rw [hx];exact drop_cons hlt
         have htake:E.take (i + 1)=E.take i++[x]:=by rw [hx];exact (List.take_succ_eq_append_getElem hlt)
         clear hx
         obtain ⟨y0,Vl,y2⟩:=x
         have hr:=HR.out
         rw [hdrop,enuL] at hr
         have HR2:=Y0 hr
         have HOK:=Y0 hok
         have HTK:=Y0 htake
         have Hq1_:=Y0 q1_
         have Hq2_:=Y0 q2_
         clear hok hdrop hr htake HR q1_ q2_
         cases gk with
         | zero=>have:=HL.out;omega
         | succ k1 =>
          go_wp2_with fail
          have n1_:=Y0 (HS.out.below (below_alloc (Below.refl _ wr) (.cells #[.string y0,.slice A1_ Vl.length c1_,.int .i64 y2] 68 (0,0))))
          have n3_:=Y0 (HW.out.alloc HW.out.size (.cells #[.string y0,.slice A1_ Vl.length c1_,.int .i64 y2] 68 (0,0)))
          clear HS HW z0 z1 z2
          have HS:=n1_
          have HW:=n3_
          clear n1_ n3_
          generalize wr.alloc (.cells #[.string y0,.slice A1_ Vl.length c1_,.int .i64 y2] 68 (0,0))=V0 at *
          go_at_call 58
          refine (renum_s HS.out HW.out y0 Vl y2 A1_ c1_ Hq2_.out Hq1_.out (by rw [List.length_map,List.length_take];have:=HG3.out;omega) HOK.out.2.1 HOK.out.2.2).mono ?_
          rintro en_ V1 ⟨rfl,⟨vO',hS'⟩,hW'⟩
          have n1_:=Y0 hS'
          have n3_:=Y0 hW'
          clear HS HW hS' hW'
          go_wp2_with fail
          go_roundg k1
          case measure=>omega
          case rel=>exact ⟨i + 1,_,vO',J112,⟨J69⟩,⟨by rw [HTK.out,List.map_append];exact n1_.out⟩,n3_,HR2⟩
        ·have hil:i=E.length:=by have:=HL.out;omega
         subst hil
         rw [List.take_length] at HS
         have hr:=HR.out
         rw [List.drop_length,enuL] at hr
         subst hr
         have HPG:Aside0 (p≠g1):=⟨by have:=HS.out.hp;have:=HGE.out.2.1;omega⟩
         have hx2:=(HW.out.block g1 HGE.out.2.1).trans HX2.out
         have HX:=Y0 hx2
         have c5:wr.cell? ⟨p,5,none⟩=some (.int .i64 r.1):=(blk_cell HS.out.blk 5).trans rfl
         have c6:wr.cell? ⟨p,6,none⟩=some (.int .i64 r.2):=(blk_cell HS.out.blk 6).trans rfl
         have HWW:=Y0 (HBB.out.trans (HW.out.mono HGE.out.1))
         clear hx2
         obtain ⟨ra,re⟩:=r
         obtain ⟨b,hb⟩:∃ b,(re != 0)=b:=⟨_,rfl⟩
         have HRQ:Aside0 (RR=if b=true then (([],[]),ra,re) else ((M.map (msDef s.1),E.map enDef),0,0)):=⟨by
          rw [HRR.out,← hb]
          by_cases h0:re=0
          ·rw [if_pos h0,if_neg (by simp [h0])]
          ·rw [if_neg h0,if_pos (by simp [h0])]⟩
         clear HRR HX1 HX2 HCM HCE HOM HOE HR
         cases b
         ·have hq:RR=((M.map (msDef s.1),E.map enDef),0,0):=HRQ.out
          subst hq
          clear c5
          obtain ⟨A3,c3,hv3⟩:=Kd.R_slice HS.out.rM
          obtain ⟨A4,c4,hv4⟩:=Kd.R_slice HS.out.rE
          subst hv3 hv4
          have d3:wr.cell? ⟨p,3,none⟩=some (.slice A3 (M.map (msDef s.1)).length c3):=(blk_cell HS.out.blk 3).trans rfl
          have d4:wr.cell? ⟨p,4,none⟩=some (.slice A4 (E.map enDef).length c4):=(blk_cell HS.out.blk 4).trans rfl
          have x0:wr.cell? ⟨g1,0,none⟩=some (.slice none 0 0):=(blk_cell HX.out 0).trans rfl
          have x1:wr.cell? ⟨g1,1,none⟩=some (.slice none 0 0):=(blk_cell HX.out 1).trans rfl
          have f0:=blk_frozen HX.out 0
          have f1:=blk_frozen HX.out 1
          have hM:=HS.out.rM
          have hE:=HS.out.rE
          have hb1:=blk_put (cs':=#[.slice A3 M.length c3,.slice none 0 0]) HX.out 0 (.slice A3 M.length c3) rfl
          have hb2:=blk_put (cs':=#[.slice A3 M.length c3,.slice A4 E.length c4]) hb1 1 (.slice A4 E.length c4) rfl
          rw [List.length_map] at hM hE
          have hM2:=Kd.R_lower (Kd.R_set (Kd.R_set hM HX.out J11 0 (.slice A3 M.length c3)) hb1 J11 1 (.slice A4 E.length c4)) HGE.out.1
          have hE2:=Kd.R_lower (Kd.R_set (Kd.R_set hE HX.out J11 0 (.slice A3 M.length c3)) hb1 J11 1 (.slice A4 E.length c4)) HGE.out.1
          have HM2:=Y0 hM2
          have HE2:=Y0 hE2
          have HB2:=Y0 hb2
          clear hM hE hb1 hb2 hM2 hE2
          go_wp2
          refine res_ret (r:=((M.map (msDef s.1),E.map enDef),0,0)) (g:=g1) ?_ ?_ ?_ HB2.out HM2.out HE2.out ⟨_,_,_,rfl⟩ ⟨_,_,_,rfl⟩ ((HWW.out.setCell (p:=⟨g1,0,none⟩) HGE.out.2.2 _).setCell (p:=⟨g1,1,none⟩) HGE.out.2.2 _)
          ·rfl
          ·rfl
          ·rfl
         ·have hq:RR=(([],[]),ra,re):=HRQ.out
          subst hq
          have f0:=blk_frozen HX.out 0
          have f1:=blk_frozen HX.out 1
          have x0:wr.cell? ⟨g1,0,none⟩=some (.slice none 0 0):=(blk_cell HX.out 0).trans rfl
          have x1:wr.cell? ⟨g1,1,none⟩=some (.slice none 0 0):=(blk_cell HX.out 1).trans rfl
          go_wp2_with fail
          refine start_ (n:=12) (S:=fun w'=>w'.cell? ⟨p,5,none⟩=some (.int .i64 ra)∧w'.cell? ⟨p,6,none⟩=some (.int .i64 re)) (ds:=[]) #[false,false,false,false,false,false,false,false,false,false,false,false] J0 rfl rfl ⟨c5,c6⟩ (fun hHeld=>?_)
          refine pure_ (i:=0) (N:=some 124) (v:=?_) (a':=?_) (sqB 12 1) rfl rfl J0 (fun _ _ _ h=>h) (Or.inl ⟨J19,?_⟩) ?_ ?_;rotate_left;intro w';go_simp;with_reducible rfl;rotate_left;simp only [Act.put,Y14,Y15,Y16,i64_w];rfl
          refine pure_ (i:=1) (N:=some 125) (v:=?_) (a':=?_) (sqB 12 3) rfl rfl J0 (fun _ _ _ h=>h) (Or.inl ⟨J19,?_⟩) ?_ ?_;rotate_left;intro w';go_simp;with_reducible rfl;rotate_left;simp only [Act.put,Y14,Y15,Y16,i64_w];rfl
          refine pure_ (i:=2) (N:=some 126) (v:=?_) (a':=?_) (sqB 12 7) rfl rfl J0 (fun _ _ _ h=>h) (Or.inl ⟨J19,?_⟩) ?_ ?_;rotate_left;intro w';go_simp;with_reducible rfl;rotate_left;simp only [Act.put,Y14,Y15,Y16,i64_w];rfl
          refine pure_ (i:=3) (N:=some 127) (v:=?_) (a':=?_) (sqB 12 15) rfl rfl J0 (fun _ _ _ h=>h) (Or.inl ⟨J19,?_⟩) ?_ ?_;rotate_left;intro w';go_simp;with_reducible rfl;rotate_left;simp only [Act.put,Y14,Y15,Y16,i64_w];rfl
          refine pure_ (i:=5) (N:=some 129) (v:=?_) (a':=?_) (sqB 12 47) rfl rfl J0 (fun _ _ _ h=>h) (Or.inl ⟨J19,?_⟩) ?_ ?_;rotate_left;intro w';go_simp;with_reducible rfl;rotate_left;simp only [Act.put,Y14,Y15,Y16,i64_w];rfl
          refine pure_ (i:=6) (N:=some 130) (v:=?_) (a':=?_) (sqB 12 111) rfl rfl J0 (fun _ _ _ h=>h) (Or.inl ⟨J19,?_⟩) ?_ ?_;rotate_left;intro w';go_simp;with_reducible rfl;rotate_left;simp only [Act.put,Y14,Y15,Y16,i64_w];rfl
          refine pure_ (i:=7) (N:=some 131) (v:=?_) (a':=?_) (sqB 12 239) rfl rfl J0 (fun _ _ _ h=>h) (Or.inl ⟨J19,?_⟩) ?_ ?_;rotate_left;intro w';go_simp;with_reducible rfl;rotate_left;simp only [Act.put,Y14,Y15,Y16,i64_w];rfl
          refine take_ (i:=4) (N:=some 128) (v:=?_) (a':=?_) (sqB 12 255) rfl rfl J0 (fun _ _ _ h=>h) (Or.inl ⟨J19,?_⟩) hHeld ?_ ?_;rotate_left;rintro w' ⟨s0,s1⟩;go_simp;with_reducible rfl;rotate_left;simp only [Act.put,Y14,Y15,Y16,i64_w];rfl
          refine take_ (i:=8) (N:=some 132) (v:=?_) (a':=?_) (sqB 12 511) rfl rfl J0 (fun _ _ _ h=>h) (Or.inl ⟨J19,?_⟩) hHeld ?_ ?_;rotate_left;rintro w' ⟨s0,s1⟩;go_simp;with_reducible rfl;rotate_left;simp only [Act.put,Y14,Y15,Y16,i64_w];rfl
          refine one_ (i:=9) (N:=none) (sqB 12 1023) rfl rfl J0 J11 (fun K hK=>?_)
          refine skip_ (w1:=?_) J19 rfl ?_ ?_
          rotate_left
          ·go_simp
           rfl
          refine hK.out _ _ ⟨(far2 HPG.out _ _ hHeld.1),(far2 HPG.out _ _ hHeld.2)⟩ (fun hHeld=>?_)
          clear hK K
          refine pure_ (i:=10) (N:=some 3) (v:=?_) (a':=?_) (sqB 12 2047) rfl rfl J0 (fun _ _ _ h=>h) (Or.inl ⟨J19,?_⟩) ?_ ?_;rotate_left;intro w';go_simp;with_reducible rfl;rotate_left;simp only [Act.put,Y14,Y15,Y16,i64_w];rfl
          refine pure_ (i:=11) (N:=some 4) (v:=?_) (a':=?_) (sqB 12 4095) rfl rfl J0 (fun _ _ _ h=>h) (Or.inl ⟨J19,?_⟩) ?_ ?_;rotate_left;intro w';go_simp;with_reducible rfl;rotate_left;simp only [Act.put,Y14,Y15,Y16,i64_w];rfl
          refine done_ J0 ?_
          go_wp2
          refine res_ret (r:=(([],[]),ra,re)) (g:=g1) ?_ ?_ ?_ (blk_put (cs':=#[.slice none 0 0,.slice none 0 0]) (blk_put (cs':=#[.slice none 0 0,.slice none 0 0]) HX.out 0 (.slice none 0 0) rfl) 1 (.slice none 0 0) rfl) (Kd.R_nil _ _ _ _ _) (Kd.R_nil _ _ _ _ _) ⟨_,_,_,rfl⟩ ⟨_,_,_,rfl⟩ (((HWW.out.setCell (p:=⟨g1,0,none⟩) HGE.out.2.2 _).setCell (p:=⟨g1,1,none⟩) HGE.out.2.2 _).drew)
          ·rfl
          ·rfl
          ·rfl
instance decRf (y:S36):Decidable (RfOk y):=by unfold RfOk;infer_instance
instance decRm (x:S34):Decidable (RmOk x):=by unfold RmOk;infer_instance
instance decRe (x:S68):Decidable (ReOk x):=by unfold ReOk;infer_instance
instance decRs (M:List (S34)) (E:List (S68)):Decidable (RsOk M E):=by unfold RsOk;infer_instance
def table_Resolve.f (l0_0:List (S34)) (l0_1:List (S68)):Option (List (S57) × List (S119) × Int × Int) :=
 if RsOk l0_0 l0_1 then some ((rsF l0_0 l0_1).1.1,(rsF l0_0 l0_1).1.2,(rsF l0_0 l0_1).2.1,(rsF l0_0 l0_1).2.2) else none
theorem table_Resolve.calls (A0_0:Option Addr) (c0_0:Nat) (l0_0:List (S34)) (A0_1:Option Addr) (c0_1:Nat) (l0_1:List (S68)) (r1:List (S57)) (r2:List (S119)) (r3 r4:Int) (w:World) (hr0_0:Kd.C k34 w A0_0 l0_0.length l0_0) (hc0_0:l0_0.length≤c0_0) (hr0_1:Kd.C k68 w A0_1 l0_1.length l0_1) (hc0_1:l0_1.length≤c0_1) (h:table_Resolve.f l0_0 l0_1=some (r1,r2,r3,r4)) :
  Calls Tryz.prog 18 #[.agg #[.slice A0_0 l0_0.length c0_0,.slice A0_1 l0_1.length c0_1]] w fun e w'=>∃ v0_ v1_:Value,e = .returned (.tuple #[.agg #[v0_,v1_],.int .i64 r3,.int .i64 r4])∧Kd.R k57 57 w' w.heap.size (fun _=>True) v0_ r1∧Kd.R k119 119 w' w.heap.size (fun _=>True) v1_ r2∧Below w.heap.size w w':=by
 unfold table_Resolve.f at h
 split at h
 ·rename_i ho
  simp only [Option.some.injEq,Prod.mk.injEq] at h
  obtain ⟨rfl,rfl,rfl,rfl⟩:=h
  by_cases hb:l0_0.length=0∨20 < l0_0.length∨20 < l0_1.length
  ·have e:rsF l0_0 l0_1=(([],[]),0,2):=by unfold rsF;rw [if_pos hb]
   rw [e]
   exact res_long A0_0 A0_1 c0_0 c0_1 l0_0 l0_1 w (Kd.C_max hr0_0) (Kd.C_max hr0_1) hb
  ·exact rsl_ok A0_0 A0_1 c0_0 c0_1 l0_0 l0_1 w hr0_0 hr0_1 hc0_0 hc0_1 ho J7 J7 J7
 ·cases h
def table_Read.f (a0:ByteArray):Option ((List (S57)) × (List (S119)) × Int × Int):=(proto_Parse.f a0).bind fun bt278=>(if bt278.2.2.2=0 then ((table_Resolve.f bt278.1 bt278.2.1).bind fun bt287=>(some (bt287.1,bt287.2.1,bt287.2.2.1,bt287.2.2.2))) else (some (([]:List (S57)),([]:List (S119)),bt278.2.2.1,bt278.2.2.2)))
set_option maxHeartbeats 8000000 in
set_option maxRecDepth 100000 in
theorem table_Read.calls (a0:ByteArray) (r1:List (S57)) (r2:List (S119)) (r3:Int) (r4:Int) (w:World) (hG:GInv w) (h:table_Read.f a0=some (r1,r2,r3,r4)) :
  Calls Tryz.prog 27 #[.string a0] w fun e w'=>∃ v0_ v1_:Value,e = .returned (.tuple #[.agg #[v0_,v1_],.int .i64 r3,.int .i64 r4])∧Kd.R k57 57 w' w.heap.size (fun _=>True) v0_ r1∧Kd.R k119 119 w' w.heap.size (fun _=>True) v1_ r2∧Below w.heap.size w w':=by
 have hu46:=Tryz.underlying46
 have hu26:=Tryz.underlying26
 have HB:=Y0 (Below.refl w.heap.size w)
 have H:((proto_Parse.f a0).bind fun bt278=>(if bt278.2.2.2=0 then ((table_Resolve.f bt278.1 bt278.2.1).bind fun bt287=>(some (bt287.1,bt287.2.1,bt287.2.2.1,bt287.2.2.2))) else (some (([]:List (S57)),([]:List (S119)),bt278.2.2.1,bt278.2.2.2))))=some (r1,r2,r3,r4):=h
 clear h
 replace H:=Y17.mp H
 obtain ⟨⟨t278,t281,t284,t285⟩,A20,H⟩:=H
 replace H:(if t285=0 then ((table_Resolve.f t278 t281).bind fun bt287=>(some (bt287.1,bt287.2.1,bt287.2.2.1,bt287.2.2.2))) else (some (([]:List (S57)),([]:List (S119)),t284,t285)))=some (r1,r2,r3,r4):=H
 have A2:=Y0 A20
 clear A20
 by_cases c3:t285=0
 rotate_left
 ·rw [if_neg c3] at H
  have c3b0:(t285 == 0)=false:=beq_eq_false_iff_ne.mpr c3
  have c3b1:(t285 != 0)=true:=bne_iff_ne.mpr c3
  simp only [Option.some.injEq,Prod.mk.injEq] at H
  obtain ⟨rfl,rfl,rfl,rfl⟩:=H
  go_enter Tryz.func27,Tryz.ntmps27
  go_wp2_with (first|((with_reducible refine gate_dst (N:=2) rfl ?_);refine box_event ?hg (N:=2) ?hd (cs:=#[.slice none 0 0,.slice none 0 0]) (t:=46) ?hr ?_;(case hd=>rfl);(case hg=>rfl);(case hr=>first|(go_simp;done)|(go_simp;rfl));intro gb277 hg w16 hbox hb;have n0_:=Y0 (below_step J4 hb);have n1_:=Y0 (hbox);have n2_:=Y0 ((by rw [hg];exact (below_size J4):w.heap.size≤gb277));have n3_:=Y0 ((by rw [hg];exact (below_size J4):w.heap.size≤gb277));clear HB;have HB:=n0_;have BK277:=n1_;have GW277:=n2_;have GE277:=n3_;clear n0_ n1_ n2_ n3_;clear hb hbox hg)|((with_reducible refine gate_callee (f:=13) rfl ?_);refine goesL_ (some 10) rfl rfl Tryz.func13 J0 rfl #[.string a0] rfl J1 ?_;(with_reducible refine (proto_Parse.calls a0 t278 t281 t284 t285 _ ?side1 A2.out).mono ?_);(case side1=>exact hG.below J38);rintro e w17 ⟨v279,v282,rfl,ho0,ho1,hb⟩;refine ⟨_,rfl,?_⟩;have n0_:=Y0 (Kd.R_lower ho0 (below_size J38));have n1_:=Y0 (Kd.R_lower ho1 (below_size J38));have n2_:=Y0 (blk_below (g:=gb277) (o:=.cells #[.slice none 0 0,.slice none 0 0] 46 (0,0)) J63 hb);have n3_:=Y0 (below_step J38 hb);clear BK277;clear HB;have HO280:=n0_;have HO283:=n1_;have BK277:=n2_;have HB:=n3_;clear n0_ n1_ n2_ n3_;(try clear hb);(try clear hb2);(try clear hk);(try clear hi);(try clear ho0);(try clear ho1))|((with_reducible refine gate_dst (N:=5) rfl ?_);refine box_event ?hg (N:=5) ?hd (cs:=#[.slice none 0 0,.slice none 0 0]) (t:=26) ?hr ?_;(case hd=>rfl);(case hg=>rfl);(case hr=>first|(go_simp;done)|(go_simp;rfl));intro gb286 hg w18 hbox hb;have n0_:=Y0 (Kd.R_below J151 hb);have n1_:=Y0 (Kd.R_below J150 hb);have n2_:=Y0 (blk_below (g:=gb277) (o:=.cells #[.slice none 0 0,.slice none 0 0] 46 (0,0)) J63 hb);have n3_:=Y0 (below_step J38 hb);have n4_:=Y0 (hbox);have n5_:=Y0 ((by rw [hg];exact (below_size J38):w.heap.size≤gb286));have n6_:=Y0 ((by rw [hg];exact (below_size J38):w.heap.size≤gb286));have n7_:=Y0 ((by rw [hg];exact Nat.ne_of_lt (blk_lt (g:=gb277) (o:=.cells #[.slice none 0 0,.slice none 0 0] 46 (0,0)) J63):gb277≠gb286));have n8_:=Y0 ((by rw [hg];exact Nat.ne_of_gt (blk_lt (g:=gb277) (o:=.cells #[.slice none 0 0,.slice none 0 0] 46 (0,0)) J63):gb286≠gb277));clear HO280;clear HO283;clear BK277;clear HB;have HO280:=n0_;have HO283:=n1_;have BK277:=n2_;have HB:=n3_;have BK286:=n4_;have GW286:=n5_;have GE286:=n6_;have NB277_286:=n7_;have NB286_277:=n8_;clear n0_ n1_ n2_ n3_ n4_ n5_ n6_ n7_ n8_;clear hb hbox hg;obtain ⟨Ao19,co19,eo19⟩:=Kd.R_slice HO280.out;subst eo19;have hnb20:=NB286_277.out;have hnc20:=NB277_286.out;have ⟨hcz21_0,hcz21_1,hfz21_0,hfz21_1⟩:=sq_box2 BK286.out;obtain ⟨Ao22,co22,eo22⟩:=Kd.R_slice HO283.out;subst eo22;have ⟨hcz23_0,hcz23_1,hfz23_0,hfz23_1⟩:=sq_box2 BK277.out))
  refine bodyPost_ret (results_ctt rfl _ _ gb277 46 #[.slice none 0 0,.slice none 0 0] (0,0) _ rfl (by (with_reducible repeat first|apply Y11|apply Y13|apply Y12);refine blk_put (cs:=#[.slice none 0 0,.slice none 0 0]) ?_ 1 _ rfl;(with_reducible repeat first|apply Y11|apply Y13|apply Y12);refine blk_put (cs:=#[.slice none 0 0,.slice none 0 0]) ?_ 0 _ rfl;(with_reducible repeat first|apply Y11|apply Y13|apply Y12);refine blk_far ?_ NB277_286.out _;(with_reducible repeat first|apply Y11|apply Y13|apply Y12);refine blk_far ?_ NB277_286.out _;(with_reducible repeat first|apply Y11|apply Y13|apply Y12);exact BK277.out) Tryz.underlying46 rfl J0) rfl ?_
  exact ⟨_,_,J21,J133,J133,J73⟩
 rw [if_pos c3] at H
 have c3b0:(t285 == 0)=true:=beq_iff_eq.mpr c3
 have c3b1:(t285 != 0)=false:=bne_eq_false_iff_eq.mpr c3
 clear c3
 replace H:=Y17.mp H
 obtain ⟨⟨t287,t290,t293,t294⟩,A40,H⟩:=H
 replace H:(some (t287,t290,t293,t294))=some (r1,r2,r3,r4):=H
 have A4:=Y0 A40
 clear A40
 simp only [Option.some.injEq,Prod.mk.injEq] at H
 obtain ⟨rfl,rfl,rfl,rfl⟩:=H
 go_enter Tryz.func27,Tryz.ntmps27
 go_wp2_with (first|((with_reducible refine gate_dst (N:=2) rfl ?_);refine box_event ?hg (N:=2) ?hd (cs:=#[.slice none 0 0,.slice none 0 0]) (t:=46) ?hr ?_;(case hd=>rfl);(case hg=>rfl);(case hr=>first|(go_simp;done)|(go_simp;rfl));intro gb277 hg w5 hbox hb;have n0_:=Y0 (below_step J4 hb);have n1_:=Y0 (hbox);have n2_:=Y0 ((by rw [hg];exact (below_size J4):w.heap.size≤gb277));have n3_:=Y0 ((by rw [hg];exact (below_size J4):w.heap.size≤gb277));clear HB;have HB:=n0_;have BK277:=n1_;have GW277:=n2_;have GE277:=n3_;clear n0_ n1_ n2_ n3_;clear hb hbox hg)|((with_reducible refine gate_callee (f:=13) rfl ?_);refine goesL_ (some 10) rfl rfl Tryz.func13 J0 rfl #[.string a0] rfl J1 ?_;(with_reducible refine (proto_Parse.calls a0 t278 t281 t284 t285 _ ?side1 A2.out).mono ?_);(case side1=>exact hG.below J38);rintro e w6 ⟨v279,v282,rfl,ho0,ho1,hb⟩;refine ⟨_,rfl,?_⟩;have n0_:=Y0 (Kd.R_lower ho0 (below_size J38));have n1_:=Y0 (Kd.R_lower ho1 (below_size J38));have n2_:=Y0 (blk_below (g:=gb277) (o:=.cells #[.slice none 0 0,.slice none 0 0] 46 (0,0)) J63 hb);have n3_:=Y0 (below_step J38 hb);clear BK277;clear HB;have HO280:=n0_;have HO283:=n1_;have BK277:=n2_;have HB:=n3_;clear n0_ n1_ n2_ n3_;(try clear hb);(try clear hb2);(try clear hk);(try clear hi);(try clear ho0);(try clear ho1))|((with_reducible refine gate_dst (N:=5) rfl ?_);refine box_event ?hg (N:=5) ?hd (cs:=#[.slice none 0 0,.slice none 0 0]) (t:=26) ?hr ?_;(case hd=>rfl);(case hg=>rfl);(case hr=>first|(go_simp;done)|(go_simp;rfl));intro gb286 hg w7 hbox hb;have n0_:=Y0 (Kd.R_below J151 hb);have n1_:=Y0 (Kd.R_below J150 hb);have n2_:=Y0 (blk_below (g:=gb277) (o:=.cells #[.slice none 0 0,.slice none 0 0] 46 (0,0)) J63 hb);have n3_:=Y0 (below_step J38 hb);have n4_:=Y0 (hbox);have n5_:=Y0 ((by rw [hg];exact (below_size J38):w.heap.size≤gb286));have n6_:=Y0 ((by rw [hg];exact (below_size J38):w.heap.size≤gb286));have n7_:=Y0 ((by rw [hg];exact Nat.ne_of_lt (blk_lt (g:=gb277) (o:=.cells #[.slice none 0 0,.slice none 0 0] 46 (0,0)) J63):gb277≠gb286));have n8_:=Y0 ((by rw [hg];exact Nat.ne_of_gt (blk_lt (g:=gb277) (o:=.cells #[.slice none 0 0,.slice none 0 0] 46 (0,0)) J63):gb286≠gb277));clear HO280;clear HO283;clear BK277;clear HB;have HO280:=n0_;have HO283:=n1_;have BK277:=n2_;have HB:=n3_;have BK286:=n4_;have GW286:=n5_;have GE286:=n6_;have NB277_286:=n7_;have NB286_277:=n8_;clear n0_ n1_ n2_ n3_ n4_ n5_ n6_ n7_ n8_;clear hb hbox hg;obtain ⟨Ao8,co8,eo8⟩:=Kd.R_slice HO280.out;subst eo8;have hnb9:=NB286_277.out;have hnc9:=NB277_286.out;have ⟨hcz10_0,hcz10_1,hfz10_0,hfz10_1⟩:=sq_box2 BK286.out;obtain ⟨Ao11,co11,eo11⟩:=Kd.R_slice HO283.out;subst eo11)|((with_reducible refine gate_callee (f:=18) rfl ?_);refine goesL_ (some 20) rfl rfl Tryz.func18 J0 rfl #[.agg #[.slice Ao8 t278.length co8,.slice Ao11 t281.length co11]] rfl J1 ?_;(with_reducible refine (table_Resolve.calls _ _ t278 _ _ t281 t287 t290 t293 t294 _ ?side1 ?side2 ?side3 ?side4 A4.out).mono ?_);(case side1=>refine (Kd.R_reads' (e:=34) (base:=w.heap.size) (ok:=fun k_=>True) (n:=t278.length) (c:=co8) ?_).2.2;exact J95);(case side2=>exact (Kd.R_reads' HO280.out).2.1);(case side3=>refine (Kd.R_reads' (e:=68) (base:=w.heap.size) (ok:=fun k_=>True) (n:=t281.length) (c:=co11) ?_).2.2;exact J94);(case side4=>exact (Kd.R_reads' HO283.out).2.1);rintro e w12 ⟨v288,v291,rfl,ho0,ho1,hb⟩;refine ⟨_,rfl,?_⟩;have n0_:=Y0 (Kd.R_below J95 hb);have n1_:=Y0 (Kd.R_below J94 hb);have n2_:=Y0 (Kd.R_lower ho0 (below_size J73));have n3_:=Y0 (Kd.R_lower ho1 (below_size J73));have n4_:=Y0 (blk_below (g:=gb277) (o:=.cells #[.slice none 0 0,.slice none 0 0] 46 (0,0)) (by (with_reducible repeat first|apply Y11|apply Y13|apply Y12);refine blk_far ?_ NB277_286.out _;(with_reducible repeat first|apply Y11|apply Y13|apply Y12);refine blk_far ?_ NB277_286.out _;(with_reducible repeat first|apply Y11|apply Y13|apply Y12);exact BK277.out) hb);have n5_:=Y0 (blk_below (g:=gb286) (o:=.cells #[.slice Ao8 t278.length co8,.slice Ao11 t281.length co11] 26 (0,0)) (by (with_reducible repeat first|apply Y11|apply Y13|apply Y12);refine blk_put (cs:=#[.slice Ao8 t278.length co8,.slice none 0 0]) ?_ 1 _ rfl;(with_reducible repeat first|apply Y11|apply Y13|apply Y12);refine blk_put (cs:=#[.slice none 0 0,.slice none 0 0]) ?_ 0 _ rfl;(with_reducible repeat first|apply Y11|apply Y13|apply Y12);exact BK286.out) hb);have n6_:=Y0 (below_step J73 hb);clear HO280;clear HO283;clear BK277;clear BK286;clear HB;have HO280:=n0_;have HO283:=n1_;have HO289:=n2_;have HO292:=n3_;have BK277:=n4_;have BK286:=n5_;have HB:=n6_;clear n0_ n1_ n2_ n3_ n4_ n5_ n6_;(try clear hb);(try clear hb2);(try clear hk);(try clear hi);(try clear ho0);(try clear ho1);obtain ⟨Ao13,co13,eo13⟩:=Kd.R_slice HO289.out;subst eo13;have ⟨hcz14_0,hcz14_1,hfz14_0,hfz14_1⟩:=sq_box2 BK277.out;obtain ⟨Ao15,co15,eo15⟩:=Kd.R_slice HO292.out;subst eo15))
 refine bodyPost_ret (results_ctt rfl _ _ gb277 46 #[.slice Ao13 t287.length co13,.slice Ao15 t290.length co15] (0,0) _ rfl (by (with_reducible repeat first|apply Y11|apply Y13|apply Y12);refine blk_put (cs:=#[.slice Ao13 t287.length co13,.slice none 0 0]) ?_ 1 _ rfl;(with_reducible repeat first|apply Y11|apply Y13|apply Y12);refine blk_put (cs:=#[.slice none 0 0,.slice none 0 0]) ?_ 0 _ rfl;(with_reducible repeat first|apply Y11|apply Y13|apply Y12);exact BK277.out) Tryz.underlying46 rfl J0) rfl ?_
 exact ⟨_,_,J21,by (with_reducible repeat (first|apply Y5|apply Y6|apply Y7));exact Kd.R_mono (Kd.R_far (p:=⟨gb277,1,none⟩) (Kd.R_far (p:=⟨gb277,0,none⟩) (Kd.R_types HO289.out BK277.out J11) (fun _ hk=>hk.2) (.slice Ao13 t287.length co13)) (fun _ hk=>hk.2) (.slice Ao15 t290.length co15)) (fun _ hk=>trivial),by (with_reducible repeat (first|apply Y5|apply Y6|apply Y7));exact Kd.R_mono (Kd.R_far (p:=⟨gb277,1,none⟩) (Kd.R_far (p:=⟨gb277,0,none⟩) (Kd.R_types HO292.out BK277.out J11) (fun _ hk=>hk.2) (.slice Ao13 t287.length co13)) (fun _ hk=>hk.2) (.slice Ao15 t290.length co15)) (fun _ hk=>trivial),J73⟩
end Go.Proofs.YtddpjjhekhompaaGreatDoor.P
