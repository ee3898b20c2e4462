/- Part 2 of what the law TableMore leans on: contracts of the functions that it reaches, and plain lemmas. No condition. -/
import Derived.Lib.LaidTab
import Derived.WalkSmall
import Derived.Shelf.Strconv.Itoa4
import Derived.Shelf.Strings.Builder1
import Derived.Shelf.Strings.Builder2
import Derived.Shelf.Strings.OnBuilder
import Derived.Shelf.Small.Bits
import Derived.Shelf.Small.Strs
import Derived.Shelf.Strconv.Itoa0
import Derived.Shelf.Strconv.Itoa1
import Derived.Shelf.LaysM
import Derived.Shelf.Strconv.Itoa2
import Derived.Shelf.Strconv.Itoa3
import Derived.Shelf.Strconv.ParseIntEmpty
import Derived.Shelf.Strconv.Clone
import Derived.Shelf.Strconv.SyntaxError
import Derived.Shelf.LaysC
import Derived.Shelf.Strconv.ToError
import Derived.Shelf.Strconv.Lower
import Derived.Shelf.Strconv.ParseUint10
import Derived.Shelf.Strconv.ParseUint10Empty
import Derived.Shelf.Strconv.ParseUint10Any
import Derived.Shelf.Strconv.ParseInt10
import Derived.Shelf.Strconv.RangeError
import Derived.Shelf.Strconv.ToErrorRange
import Derived.Shelf.Strconv.ParseUintEmpty
import Derived.Shelf.Strconv.ParseUint10b64
import Derived.Shelf.Strconv.ParseUint10b32
import Derived.Shelf.Strconv.ParseUint10b16
import Derived.Shelf.Strconv.ParseUint10b8
import Derived.Shelf.Strconv.ParseUint10At
import Derived.Shelf.Strconv.ParseInt10At64
import Derived.Shelf.Strconv.ParseInt10At32
import Derived.Shelf.Strconv.ParseInt10At16
import Derived.Shelf.Strconv.ParseInt10At8
import Derived.Shelf.Strconv.ParseInt10All
import Derived.Shelf.Strconv.ParseIntPublic10
import Derived.Shelf.Strconv.ErrVarParseInt
import Derived.Shelf.Strings.Search1
import Derived.Shelf.Strings.Search2
import Derived.Shelf.Strings.Cut
import Derived.Shelf.Strings.Shaped
import Derived.Shelf.Bits.Mul64
import Derived.Test.YtddpjjhekhompaaGreatDoorProg
import Derived.Test.YtddpjjhekhompaaGreatDoorMTableMore1
namespace Go.Proofs
theorem J0 {p:Prop} (h:p:=by kernel_rfl):p:=h
theorem J1 {p:Prop} (h:p:=by (try simp only [List.map_toArray,List.map_cons,List.map_nil]);first|done|rfl|(simp only [List.length_drop,List.length_take];rfl)):p:=h
theorem J2 {p:Prop} (h:p:=by repeat (with_reducible first|exact HK.out|apply KeepBut.set_|apply keep_drewN|apply keep_drew|apply keep_alloc)):p:=h
theorem J3 {p:Prop} (h:p:=by first|(with_reducible assumption)|assumption):p:=h
theorem J4 {p:Prop} (h:p:=by repeat (with_reducible first|exact HB.out|apply Y3|apply Y1|apply Y2)):p:=h
theorem J5 {p:Prop} (h:p:=by (with_reducible repeat first|apply Y11|apply Y13|apply Y12);exact BK870.out):p:=h
theorem J6 {p:Prop} (h:p:=by repeat (with_reducible first|exact HB.out|apply Y3|apply Y1|apply Y2|refine Y4 ?_ GE870.out|refine Y4 ?_ GE881.out)):p:=h
theorem J7 {p:Prop} (h:p:=by omega):p:=h
theorem J8 {p:Prop} (h:p:=by repeat (with_reducible first|exact HB.out|apply Y3|apply Y1|apply Y2|refine Y4 ?_ GE870.out|refine Y4 ?_ GE881.out|refine Y4 ?_ GE893.out)):p:=h
theorem J9 {p:Prop} (h:p:=by (with_reducible repeat first|apply Y11|apply Y13|apply Y12);exact BK881.out):p:=h
theorem J10 {p:Prop} (h:p:=by repeat (with_reducible first|exact HI0.out|apply IsS145.alloc|apply IsS145.drewN|apply IsS145.drew|apply IsS145.set_0|apply IsS145.set_1)):p:=h
theorem J11 {p:Prop} (h:p:=by decide):p:=h
theorem J12 {p:Prop} (h:p:=by first|rfl|(simp;done)|(simp [*];done)):p:=h
theorem J13 {p:Prop} (h:p:=by (with_reducible repeat first|apply Y11|apply Y13|apply Y12);refine blk_put (cs:=#[.int .i64 ((rd_T51 l1_1 x12_1).f0),.string ((rd_T51 l1_1 x12_1).f1),.int .i64 ((rd_T51 l1_1 x12_1).f2),.int .i64 ((rd_T51 l1_1 x12_1).f3),.bool ((rd_T51 l1_1 x12_1).f4),.int .i64 ((rd_T51 l1_1 x12_1).f5),.int .i64 0]) ?_ 6 _ rfl;(with_reducible repeat first|apply Y11|apply Y13|apply Y12);refine blk_put (cs:=#[.int .i64 ((rd_T51 l1_1 x12_1).f0),.string ((rd_T51 l1_1 x12_1).f1),.int .i64 ((rd_T51 l1_1 x12_1).f2),.int .i64 ((rd_T51 l1_1 x12_1).f3),.bool ((rd_T51 l1_1 x12_1).f4),.int .i64 0,.int .i64 0]) ?_ 5 _ rfl;(with_reducible repeat first|apply Y11|apply Y13|apply Y12);refine blk_put (cs:=#[.int .i64 ((rd_T51 l1_1 x12_1).f0),.string ((rd_T51 l1_1 x12_1).f1),.int .i64 ((rd_T51 l1_1 x12_1).f2),.int .i64 ((rd_T51 l1_1 x12_1).f3),.bool false,.int .i64 0,.int .i64 0]) ?_ 4 _ rfl;(with_reducible repeat first|apply Y11|apply Y13|apply Y12);refine blk_put (cs:=#[.int .i64 ((rd_T51 l1_1 x12_1).f0),.string ((rd_T51 l1_1 x12_1).f1),.int .i64 ((rd_T51 l1_1 x12_1).f2),.int .i64 0,.bool false,.int .i64 0,.int .i64 0]) ?_ 3 _ rfl;(with_reducible repeat first|apply Y11|apply Y13|apply Y12);refine blk_put (cs:=#[.int .i64 ((rd_T51 l1_1 x12_1).f0),.string ((rd_T51 l1_1 x12_1).f1),.int .i64 0,.int .i64 0,.bool false,.int .i64 0,.int .i64 0]) ?_ 2 _ rfl;(with_reducible repeat first|apply Y11|apply Y13|apply Y12);refine blk_put (cs:=#[.int .i64 ((rd_T51 l1_1 x12_1).f0),.string (⟨#[]⟩:ByteArray),.int .i64 0,.int .i64 0,.bool false,.int .i64 0,.int .i64 0]) ?_ 1 _ rfl;(with_reducible repeat first|apply Y11|apply Y13|apply Y12);refine blk_put (cs:=#[.int .i64 0,.string (⟨#[]⟩:ByteArray),.int .i64 0,.int .i64 0,.bool false,.int .i64 0,.int .i64 0]) ?_ 0 _ rfl;(with_reducible repeat first|apply Y11|apply Y13|apply Y12);exact BK265.out):p:=h
theorem J14 {p:Prop} (h:p:=by repeat (with_reducible first|exact HK.out|apply KeepBut.set_|apply keep_drewN|apply keep_drew|apply keep_alloc|refine keep_far ?_ GW115.out _)):p:=h
theorem J15 {p:Prop} (h:p:=by (with_reducible repeat (first|apply Y5|apply Y6|apply Y7));exact HO_882001.out):p:=h
theorem J16 {p:Prop} (h:p:=by (with_reducible repeat (first|apply Y5|apply Y6|apply Y7));exact HO_882000.out):p:=h
theorem J17 {p:Prop} (h:p:=by repeat (first|exact Drawn0.refl _|apply Drawn0.step)):p:=h
theorem J18 {p:Prop} (h:p:=by first|(simp only [putAll,Act.put,List.setIfInBounds_toArray,List.set_cons_zero,List.set_cons_succ];done)|(simp only [putAll,Act.put,List.setIfInBounds_toArray,List.set_cons_zero,List.set_cons_succ];rfl)):p:=h
theorem J19 {p:Prop} (h:p:=by rfl):p:=h
theorem J20 {p:Prop} (h:p:=by repeat (with_reducible first|exact HB.out|apply Y3|apply Y1|apply Y2|refine Y4 ?_ GE249.out|refine Y4 ?_ GE250.out)):p:=h
theorem J21 {p:Prop} (h:p:=by first|rfl|(simp [] <;> rfl)|(simp [*] <;> rfl)):p:=h
theorem J22 {p:Prop} (h:p:=by repeat (with_reducible first|exact HI0.out|apply IsS145.alloc|apply IsS145.drewN|apply IsS145.drew|apply IsS145.set_0|apply IsS145.set_1|refine IsS145.far ?_ NB0_115.out _)):p:=h
theorem J23 {p:Prop} (h:p:=by repeat (with_reducible first|exact HB.out|apply Y3|apply Y1|apply Y2|refine Y4 ?_ GE271.out)):p:=h
theorem J24 {p:Prop} (h:p:=by (with_reducible repeat first|apply Y11|apply Y13|apply Y12);exact BK893.out):p:=h
theorem J25 {p:Prop} (h:p:=by repeat (with_reducible first|exact HB.out|apply Y3|apply Y1|apply Y2|refine Y4 ?_ GE262.out|refine Y4 ?_ GE263.out|refine Y4 ?_ GE265.out)):p:=h
theorem J26 {p:Prop} (h:p:=by repeat (with_reducible first|exact HB.out|apply Y3|apply Y1|apply Y2|refine Y4 ?_ GE870.out|refine Y4 ?_ GE881.out|refine Y4 ?_ GE893.out|refine Y4 ?_ GE902.out)):p:=h
theorem J27 {p:Prop} (h:p:=by repeat (with_reducible first|exact HB.out|apply Y3|apply Y1|apply Y2|refine Y4 ?_ (IsS145.ge HI0.out))):p:=h
theorem J28 {p:Prop} (h:p:=by repeat (with_reducible first|exact HB.out|apply Y3|apply Y1|apply Y2|refine Y4 ?_ (IsS145.ge HI0.out)|refine Y4 ?_ GE115.out)):p:=h
theorem J29 {p:Prop} (h:p:=by first|decide|(simp only [msX_E,msY_E];decide)):p:=h
theorem J30 {p:Prop} (h:p:=by (with_reducible repeat first|apply Y11|apply Y13|apply Y12);refine blk_far ?_ NB115_0.out _;(with_reducible repeat first|apply Y11|apply Y13|apply Y12);exact BK115.out):p:=h
theorem J31 {p:Prop} (h:p:=by (with_reducible repeat (first|apply Y5|apply Y6|apply Y7));exact (Kd.R_mono (Kd.R_far (p:=⟨gb265,6,none⟩) (Kd.R_far (p:=⟨gb265,5,none⟩) (Kd.R_far (p:=⟨gb265,4,none⟩) (Kd.R_far (p:=⟨gb265,3,none⟩) (Kd.R_far (p:=⟨gb265,2,none⟩) (Kd.R_far (p:=⟨gb265,1,none⟩) (Kd.R_far (p:=⟨gb265,0,none⟩) (Kd.R_types HO_5.out BK265.out (by decide)) (fun _ hk=>hk.2) (.int .i64 ((rd_T51 l1_1 x12_1).f0))) (fun _ hk=>hk.2) (.string ((rd_T51 l1_1 x12_1).f1))) (fun _ hk=>hk.2) (.int .i64 ((rd_T51 l1_1 x12_1).f2))) (fun _ hk=>hk.2) (.int .i64 ((rd_T51 l1_1 x12_1).f3))) (fun _ hk=>hk.2) (.bool ((rd_T51 l1_1 x12_1).f4))) (fun _ hk=>hk.2) (.int .i64 ((rd_T51 l1_1 x12_1).f5))) (fun _ hk=>hk.2) (.int .i64 ((rd_T51 l1_1 x12_1).f6))) (fun _ h_=>h_.1))):p:=h
theorem J32 {p:Prop} (h:p:=by simp only [List.map_toArray,List.map_cons,List.map_nil];rfl):p:=h
theorem J33 {p:Prop} (h:p:=by (with_reducible repeat first|apply Y11|apply Y13|apply Y12);refine blk_far ?_ NB263_265.out _;(with_reducible repeat first|apply Y11|apply Y13|apply Y12);refine blk_far ?_ NB263_265.out _;(with_reducible repeat first|apply Y11|apply Y13|apply Y12);refine blk_far ?_ NB263_265.out _;(with_reducible repeat first|apply Y11|apply Y13|apply Y12);refine blk_far ?_ NB263_265.out _;(with_reducible repeat first|apply Y11|apply Y13|apply Y12);refine blk_far ?_ NB263_265.out _;(with_reducible repeat first|apply Y11|apply Y13|apply Y12);refine blk_far ?_ NB263_265.out _;(with_reducible repeat first|apply Y11|apply Y13|apply Y12);refine blk_far ?_ NB263_265.out _;(with_reducible repeat first|apply Y11|apply Y13|apply Y12);exact BK263.out):p:=h
theorem J34 {p:Prop} (h:p:=by (with_reducible repeat first|apply Y11|apply Y13|apply Y12);refine blk_far ?_ NB262_265.out _;(with_reducible repeat first|apply Y11|apply Y13|apply Y12);refine blk_far ?_ NB262_265.out _;(with_reducible repeat first|apply Y11|apply Y13|apply Y12);refine blk_far ?_ NB262_265.out _;(with_reducible repeat first|apply Y11|apply Y13|apply Y12);refine blk_far ?_ NB262_265.out _;(with_reducible repeat first|apply Y11|apply Y13|apply Y12);refine blk_far ?_ NB262_265.out _;(with_reducible repeat first|apply Y11|apply Y13|apply Y12);refine blk_far ?_ NB262_265.out _;(with_reducible repeat first|apply Y11|apply Y13|apply Y12);refine blk_far ?_ NB262_265.out _;(with_reducible repeat first|apply Y11|apply Y13|apply Y12);exact BK262.out):p:=h
theorem J35 {p:Prop} (h:p:=by repeat (with_reducible first|exact HB.out|apply Y3|apply Y1|apply Y2|refine Y4 ?_ GE262.out|refine Y4 ?_ GE263.out)):p:=h
theorem J36 {p:Prop} (h:p:=by (with_reducible repeat first|apply Y11|apply Y13|apply Y12);refine blk_put (cs:=#[.int .i64 1,.string t1,.int .i64 v,.int .i64 0]) ?_ 3 _ rfl;(with_reducible repeat first|apply Y11|apply Y13|apply Y12);refine blk_put (cs:=#[.int .i64 1,.string t1,.int .i64 0,.int .i64 0]) ?_ 2 _ rfl;(with_reducible repeat first|apply Y11|apply Y13|apply Y12);refine blk_put (cs:=#[.int .i64 1,.string (⟨#[]⟩:ByteArray),.int .i64 0,.int .i64 0]) ?_ 1 _ rfl;(with_reducible repeat first|apply Y11|apply Y13|apply Y12);refine blk_put (cs:=#[.int .i64 0,.string (⟨#[]⟩:ByteArray),.int .i64 0,.int .i64 0]) ?_ 0 _ rfl;(with_reducible repeat first|apply Y11|apply Y13|apply Y12);exact BK.out):p:=h
theorem J37 {p:Prop} (h:p:=by (with_reducible repeat (first|apply Y5|apply Y6|apply Y7));exact HO886.out):p:=h
theorem J38 {p:Prop} (h:p:=by repeat (with_reducible first|exact HB.out|apply Y3|apply Y1|apply Y2|refine Y4 ?_ GE277.out)):p:=h
theorem J39 {p:Prop} (h:p:=by (with_reducible repeat first|apply Y11|apply Y13|apply Y12);exact BK262.out):p:=h
theorem J40 {p:Prop} (h:p:=by (with_reducible repeat (first|apply Y5|apply Y6|apply Y7));exact (Kd.R_mono (Kd.R_far (p:=⟨g,1,none⟩) (IsS145.apart HI0.out HO_4.out (by decide)) (fun _ hk=>hk.2) (.int .i64 (wrap64 (x1001_1 + 1)))) (fun _ h_=>h_.1))):p:=h
theorem J41 {p:Prop} (h:p:=by (with_reducible repeat (first|apply Y5|apply Y6|apply Y7));exact HO889.out):p:=h
theorem J42 {p:Prop} (h:p:=by repeat (with_reducible first|exact HB.out|apply Y3|apply Y1|apply Y2|refine Y4 ?_ GE324.out)):p:=h
theorem J43 {p:Prop} (h:p:=by (with_reducible repeat (first|apply Y5|apply Y6|apply Y7));exact Kd.R_mono (Kd.R_far (p:=⟨gb881,1,none⟩) (Kd.R_far (p:=⟨gb881,0,none⟩) (Kd.R_types HO878.out BK881.out (by first|decide|(simp only [msX_E,msY_E];decide))) (fun _ hk=>hk.2) (.slice Ao14 t873.length co14)) (fun _ hk=>hk.2) (.slice Ao17 t876.length co17)) (fun _ hk=>trivial)):p:=h
theorem J44 {p:Prop} (h:p:=by (with_reducible repeat (first|apply Y5|apply Y6|apply Y7));exact Kd.R_mono (Kd.R_far (p:=⟨gb881,1,none⟩) (Kd.R_far (p:=⟨gb881,0,none⟩) (Kd.R_types HO875.out BK881.out (by first|decide|(simp only [msX_E,msY_E];decide))) (fun _ hk=>hk.2) (.slice Ao14 t873.length co14)) (fun _ hk=>hk.2) (.slice Ao17 t876.length co17)) (fun _ hk=>trivial)):p:=h
theorem J45 {p:Prop} (h:p:=by (with_reducible repeat first|apply Y11|apply Y13|apply Y12);refine blk_put (cs:=#[.slice Ao14 t873.length co14,.slice none 0 0]) ?_ 1 _ rfl;(with_reducible repeat first|apply Y11|apply Y13|apply Y12);refine blk_put (cs:=#[.slice none 0 0,.slice none 0 0]) ?_ 0 _ rfl;(with_reducible repeat first|apply Y11|apply Y13|apply Y12);exact BK881.out):p:=h
theorem J46 {p:Prop} (h:p:=by (with_reducible repeat first|apply Y11|apply Y13|apply Y12);exact BK271.out):p:=h
theorem J47 {p:Prop} (h:p:=by (with_reducible repeat first|apply Y11|apply Y13|apply Y12);exact BK263.out):p:=h
theorem J48 {p:Prop} (h:p:=by (with_reducible repeat first|apply Y11|apply Y13|apply Y12);refine blk_put (cs:=#[.int .i64 0,.string (⟨#[]⟩:ByteArray),.int .i64 0,.int .i64 x116003_1]) ?_ 3 _ rfl;(with_reducible repeat first|apply Y11|apply Y13|apply Y12);refine blk_put (cs:=#[.int .i64 0,.string (⟨#[]⟩:ByteArray),.int .i64 x116002_1,.int .i64 x116003_1]) ?_ 2 _ rfl;(with_reducible repeat first|apply Y11|apply Y13|apply Y12);refine blk_put (cs:=#[.int .i64 0,.string x116001_1,.int .i64 x116002_1,.int .i64 x116003_1]) ?_ 1 _ rfl;(with_reducible repeat first|apply Y11|apply Y13|apply Y12);refine blk_put (cs:=#[.int .i64 x116000_1,.string x116001_1,.int .i64 x116002_1,.int .i64 x116003_1]) ?_ 0 _ rfl;(with_reducible repeat first|apply Y11|apply Y13|apply Y12);refine blk_far ?_ NB115_0.out _;(with_reducible repeat first|apply Y11|apply Y13|apply Y12);exact BK115.out):p:=h
theorem J49 {p:Prop} (h:p:=by (with_reducible repeat first|apply Y11|apply Y13|apply Y12);refine blk_far ?_ NB870_881.out _;(with_reducible repeat first|apply Y11|apply Y13|apply Y12);refine blk_far ?_ NB870_881.out _;(with_reducible repeat first|apply Y11|apply Y13|apply Y12);exact BK870.out):p:=h
theorem J50 {p:Prop} (h:p:=by (with_reducible repeat first|apply Y11|apply Y13|apply Y12);refine blk_put (cs:=#[.int .i64 0,.string (⟨#[]⟩:ByteArray),.int .i64 0,.int .i64 x116003_1]) ?_ 3 _ rfl;(with_reducible repeat first|apply Y11|apply Y13|apply Y12);refine blk_put (cs:=#[.int .i64 0,.string (⟨#[]⟩:ByteArray),.int .i64 x116002_1,.int .i64 x116003_1]) ?_ 2 _ rfl;(with_reducible repeat first|apply Y11|apply Y13|apply Y12);refine blk_put (cs:=#[.int .i64 0,.string x116001_1,.int .i64 x116002_1,.int .i64 x116003_1]) ?_ 1 _ rfl;(with_reducible repeat first|apply Y11|apply Y13|apply Y12);refine blk_put (cs:=#[.int .i64 x116000_1,.string x116001_1,.int .i64 x116002_1,.int .i64 x116003_1]) ?_ 0 _ rfl;(with_reducible repeat first|apply Y11|apply Y13|apply Y12);exact BK115.out):p:=h
theorem J51 {p:Prop} (h:p:=by repeat (with_reducible first|exact HB.out|apply Y3|apply Y1|apply Y2|refine Y4 ?_ GE870.out)):p:=h
theorem J52 {p:Prop} (h:p:=by repeat (with_reducible first|exact HB.out|apply Y3|apply Y1|apply Y2|refine Y4 ?_ GE427.out)):p:=h
theorem J53 {p:Prop} (h:p:=by simp):p:=h
theorem J54 {p:Prop} (h:p:=by (with_reducible repeat first|apply Y11|apply Y13|apply Y12);exact BK324.out):p:=h
theorem J55 {p:Prop} (h:p:=by have:(0:Int) < (t109.size:Int):=of_decide_eq_true (by first|(with_reducible assumption)|assumption);omega):p:=h
theorem J56 {p:Prop} (h:p:=by (with_reducible repeat (first|apply Y5|apply Y6|apply Y7));exact (Kd.R_mono (Kd.R_far (p:=⟨gb312,6,none⟩) (Kd.R_far (p:=⟨gb312,5,none⟩) (Kd.R_far (p:=⟨gb312,4,none⟩) (Kd.R_far (p:=⟨gb312,3,none⟩) (Kd.R_far (p:=⟨gb312,2,none⟩) (Kd.R_far (p:=⟨gb312,1,none⟩) (Kd.R_far (p:=⟨gb312,0,none⟩) (Kd.R_mono HO297.out (fun k_ hk=>(⟨hk,hk.2⟩:_∧k_≠gb312))) (fun _ hk=>hk.2) (.int .i64 t304)) (fun _ hk=>hk.2) (.string t305)) (fun _ hk=>hk.2) (.int .i64 t306)) (fun _ hk=>hk.2) (.int .i64 t307)) (fun _ hk=>hk.2) (.bool t308)) (fun _ hk=>hk.2) (.int .i64 t309)) (fun _ hk=>hk.2) (.int .i64 t310)) (fun _ h_=>h_.1))):p:=h
theorem J57 {p:Prop} (h:p:=by (with_reducible repeat first|apply Y11|apply Y13|apply Y12);exact BK427.out):p:=h
theorem J58 {p:Prop} (h:p:=by (with_reducible repeat (first|apply Y5|apply Y6|apply Y7));exact (Kd.R_mono (Kd.R_far (p:=⟨gb312,6,none⟩) (Kd.R_far (p:=⟨gb312,5,none⟩) (Kd.R_far (p:=⟨gb312,4,none⟩) (Kd.R_far (p:=⟨gb312,3,none⟩) (Kd.R_far (p:=⟨gb312,2,none⟩) (Kd.R_far (p:=⟨gb312,1,none⟩) (Kd.R_far (p:=⟨gb312,0,none⟩) (Kd.R_types HO300.out BK312.out (by decide)) (fun _ hk=>hk.2) (.int .i64 t304)) (fun _ hk=>hk.2) (.string t305)) (fun _ hk=>hk.2) (.int .i64 t306)) (fun _ hk=>hk.2) (.int .i64 t307)) (fun _ hk=>hk.2) (.bool t308)) (fun _ hk=>hk.2) (.int .i64 t309)) (fun _ hk=>hk.2) (.int .i64 t310)) (fun _ h_=>h_.1))):p:=h
theorem J59 {p:Prop} (h:p:=by (with_reducible repeat (first|apply Y5|apply Y6|apply Y7));exact HO_903001.out):p:=h
theorem J60 {p:Prop} (h:p:=by (with_reducible repeat (first|apply Y5|apply Y6|apply Y7));exact HO_903000.out):p:=h
theorem J61 {p:Prop} (h:p:=by (with_reducible repeat (first|apply Y5|apply Y6|apply Y7));exact HO_894000.out):p:=h
theorem J62 {p:Prop} (h:p:=by (with_reducible repeat first|apply Y11|apply Y13|apply Y12);exact BK902.out):p:=h
theorem J63 {p:Prop} (h:p:=by (with_reducible repeat first|apply Y11|apply Y13|apply Y12);exact BK277.out):p:=h
theorem J64 {p:Prop} (h:p:=by (with_reducible repeat first|apply Y11|apply Y13|apply Y12);exact BK249.out):p:=h
theorem J65 {p:Prop} (h:p:=by have:(2:Int) < (t109.size:Int):=of_decide_eq_true (by first|(with_reducible assumption)|assumption);omega):p:=h
theorem J66 {p:Prop} (h:p:=by (with_reducible repeat (first|apply Y5|apply Y6|apply Y7));exact Kd.R_mono HO889.out (fun _ hk=>hk.2)):p:=h
theorem J67 {p:Prop} (h:p:=by rw [hg];exact (keep_size (w:=w) (g:=g) (row:=none) (by repeat (with_reducible first|exact HK.out|apply KeepBut.set_|apply keep_drewN|apply keep_drew|apply keep_alloc)))):p:=h
theorem J68 {p:Prop} (h:p:=by repeat (with_reducible first|exact HI0.out|apply IsS145.alloc|apply IsS145.drewN|apply IsS145.drew|apply IsS145.set_0|apply IsS145.set_1|refine IsS145.far ?_ NB.out _)):p:=h
theorem J69 {p:Prop} (h:p:=by have:=HL.out;omega):p:=h
theorem J70 {p:Prop} (h:p:=by repeat (first|(with_reducible first|exact HI.out|apply IsS145.alloc|apply IsS145.drewN|apply IsS145.drew|apply IsS145.set_0|apply IsS145.set_1)|exact HI.out)):p:=h
theorem J71 {p:Prop} (h:p:=by repeat (with_reducible first|exact HB.out|apply Y3|apply Y1|apply Y2|refine Y4 ?_ GE424.out)):p:=h
theorem J72 {p:Prop} (h:p:=by repeat (with_reducible first|exact HB.out|apply Y3|apply Y1|apply Y2|refine Y4 ?_ GE427.out|refine Y4 ?_ GE428.out)):p:=h
theorem J73 {p:Prop} (h:p:=by repeat (with_reducible first|exact HB.out|apply Y3|apply Y1|apply Y2|refine Y4 ?_ GE277.out|refine Y4 ?_ GE286.out)):p:=h
theorem J74 {p:Prop} (h:p:=by simp only [putAll,Act.put,List.setIfInBounds_toArray,List.set_cons_zero,List.set_cons_succ]):p:=h
theorem J75 {p:Prop} (h:p:=by (with_reducible repeat first|apply Y11|apply Y13|apply Y12);exact BK303.out):p:=h
theorem J76 {p:Prop} (h:p:=by (with_reducible repeat (first|apply Y5|apply Y6|apply Y7));exact Kd.R_mono (Kd.R_far (p:=⟨g,1,none⟩) (IsS145.apart HI0.out HO_4.out (by decide)) (fun _ hk=>hk.2) (.int .i64 (wrap64 (x1001_1 + 1)))) (fun _ hk=>trivial)):p:=h
theorem J77 {p:Prop} (h:p:=by rw [hg];exact Nat.ne_of_lt (IsS145.lt (show IsS145 w0 _ g s0_0 s0_1 from (by repeat (with_reducible first|exact HI0.out|apply IsS145.alloc|apply IsS145.drewN|apply IsS145.drew|apply IsS145.set_0|apply IsS145.set_1))))):p:=h
theorem J78 {p:Prop} (h:p:=by repeat (with_reducible first|exact HK.out|apply KeepBut.set_|apply keep_drewN|apply keep_drew|apply keep_alloc|refine keep_far ?_ GW.out _)):p:=h
theorem J79 {p:Prop} (h:p:=by first|omega|exact Nat.le_refl _):p:=h
theorem J80 {p:Prop} (h:p:=by (with_reducible repeat first|apply Y11|apply Y13|apply Y12);exact BK424.out):p:=h
theorem J81 {p:Prop} (h:p:=by rw [← add_field _ _ 1 (by omega)];exact hc 1 _ rfl):p:=h
theorem J82 {p:Prop} (h:p:=by repeat (with_reducible first|exact HB.out|apply Y3|apply Y1|apply Y2|refine Y4 ?_ GE303.out|refine Y4 ?_ GE312.out)):p:=h
theorem J83 {p:Prop} (h:p:=by (with_reducible repeat (first|apply Y5|apply Y6|apply Y7));exact (Kd.R_mono (Kd.R_far (p:=⟨gb893,1,none⟩) (Kd.R_far (p:=⟨gb893,0,none⟩) (Kd.R_types HO_882001.out BK893.out (by first|decide|(simp only [msX_E,msY_E];decide))) (fun _ hk=>hk.2) (.slice Ao38 y890.length co38)) (fun _ hk=>hk.2) (.slice A0_1 l0_1.length c0_1)) (fun _ h_=>h_.1))):p:=h
theorem J84 {p:Prop} (h:p:=by (with_reducible repeat (first|apply Y5|apply Y6|apply Y7));exact (Kd.R_mono (Kd.R_far (p:=⟨gb893,1,none⟩) (Kd.R_far (p:=⟨gb893,0,none⟩) (Kd.R_types HO_882000.out BK893.out (by first|decide|(simp only [msX_E,msY_E];decide))) (fun _ hk=>hk.2) (.slice Ao38 y890.length co38)) (fun _ hk=>hk.2) (.slice A0_1 l0_1.length c0_1)) (fun _ h_=>h_.1))):p:=h
theorem J85 {p:Prop} (h:p:=by (with_reducible repeat (first|apply Y5|apply Y6|apply Y7));exact (Kd.R_mono (Kd.R_far (p:=⟨gb893,1,none⟩) (Kd.R_far (p:=⟨gb893,0,none⟩) (Kd.R_types HO892.out BK893.out (by first|decide|(simp only [msX_E,msY_E];decide))) (fun _ hk=>hk.2) (.slice Ao38 y890.length co38)) (fun _ hk=>hk.2) (.slice A0_1 l0_1.length c0_1)) (fun _ h_=>h_.1))):p:=h
theorem J86 {p:Prop} (h:p:=by repeat (with_reducible first|exact HB.out|apply Y3|apply Y1|apply Y2|refine Y4 ?_ (Nat.le_trans HL.out GW.out))):p:=h
theorem J87 {p:Prop} (h:p:=by rw [hx];exact List.getElem_mem hlt):p:=h
theorem J88 {p:Prop} (h:p:=by rw [← add_field _ _ 2 (by omega)];exact hc 2 _ rfl):p:=h
theorem J89 {p:Prop} (h:p:=by (with_reducible repeat first|apply Y11|apply Y13|apply Y12);exact BK250.out):p:=h
theorem J90 {p:Prop} (h:p:=by (with_reducible repeat first|apply Y11|apply Y13|apply Y12);exact BK115.out):p:=h
theorem J91 {p:Prop} (h:p:=by (with_reducible repeat (first|apply Y5|apply Y6|apply Y7));exact HO892.out):p:=h
theorem J92 {p:Prop} (h:p:=by (with_reducible repeat (first|apply Y5|apply Y6|apply Y7));exact (Kd.R_mono (Kd.R_far (p:=⟨gb303,1,none⟩) (Kd.R_far (p:=⟨gb303,0,none⟩) (Kd.R_types HO300.out BK303.out (by decide)) (fun _ hk=>hk.2) (.slice Ao16 t295.length co16)) (fun _ hk=>hk.2) (.slice Ao18 t298.length co18)) (fun _ h_=>h_.1))):p:=h
theorem J93 {p:Prop} (h:p:=by (with_reducible repeat (first|apply Y5|apply Y6|apply Y7));exact (Kd.R_mono (Kd.R_far (p:=⟨gb303,1,none⟩) (Kd.R_far (p:=⟨gb303,0,none⟩) (Kd.R_types HO297.out BK303.out (by decide)) (fun _ hk=>hk.2) (.slice Ao16 t295.length co16)) (fun _ hk=>hk.2) (.slice Ao18 t298.length co18)) (fun _ h_=>h_.1))):p:=h
theorem J94 {p:Prop} (h:p:=by (with_reducible repeat (first|apply Y5|apply Y6|apply Y7));exact (Kd.R_mono (Kd.R_far (p:=⟨gb286,1,none⟩) (Kd.R_far (p:=⟨gb286,0,none⟩) (Kd.R_types HO283.out BK286.out (by decide)) (fun _ hk=>hk.2) (.slice Ao8 t278.length co8)) (fun _ hk=>hk.2) (.slice Ao11 t281.length co11)) (fun _ h_=>h_.1))):p:=h
theorem J95 {p:Prop} (h:p:=by (with_reducible repeat (first|apply Y5|apply Y6|apply Y7));exact (Kd.R_mono (Kd.R_far (p:=⟨gb286,1,none⟩) (Kd.R_far (p:=⟨gb286,0,none⟩) (Kd.R_types HO280.out BK286.out (by decide)) (fun _ hk=>hk.2) (.slice Ao8 t278.length co8)) (fun _ hk=>hk.2) (.slice Ao11 t281.length co11)) (fun _ h_=>h_.1))):p:=h
theorem J96 {p:Prop} (h:p:=by (with_reducible repeat (first|apply Y5|apply Y6|apply Y7));exact HO_5.out):p:=h
theorem J97 {p:Prop} (h:p:=by repeat (with_reducible first|exact HB.out|apply Y3|apply Y1|apply Y2|refine Y4 ?_ GE303.out)):p:=h
theorem J98 {p:Prop} (h:p:=by repeat (with_reducible first|exact HB.out|apply Y3|apply Y1|apply Y2|refine Y4 ?_ GE303.out|refine Y4 ?_ GE312.out|refine Y4 ?_ GE321.out)):p:=h
theorem J99 {p:Prop} (h:p:=by repeat (first|(with_reducible first|exact HB.out|apply Y3|apply Y1|apply Y2)|exact HB.out)):p:=h
theorem J100 {p:Prop} (h:p:=by repeat (first|(with_reducible first|exact HK.out|apply KeepBut.set_|apply keep_drewN|apply keep_drew|apply keep_alloc)|exact HK.out)):p:=h
theorem J101 {p:Prop} (h:p:=by (with_reducible repeat (first|apply Y5|apply Y6|apply Y7));exact (Kd.R_mono (Kd.R_far (p:=⟨gb902,0,none⟩) (Kd.R_types HO_903001.out BK902.out (by first|decide|(simp only [msX_E,msY_E];decide))) (fun _ hk=>hk.2) (.slice Ao46 y907.length co46)) (fun _ h_=>h_.1))):p:=h
theorem J102 {p:Prop} (h:p:=by (with_reducible repeat (first|apply Y5|apply Y6|apply Y7));exact (Kd.R_mono (Kd.R_far (p:=⟨gb902,0,none⟩) (Kd.R_types HO_882001.out BK902.out (by first|decide|(simp only [msX_E,msY_E];decide))) (fun _ hk=>hk.2) (.slice Ao46 y907.length co46)) (fun _ h_=>h_.1))):p:=h
theorem J103 {p:Prop} (h:p:=by (with_reducible repeat (first|apply Y5|apply Y6|apply Y7));exact (Kd.R_mono (Kd.R_far (p:=⟨gb902,0,none⟩) (Kd.R_types HO_882000.out BK902.out (by first|decide|(simp only [msX_E,msY_E];decide))) (fun _ hk=>hk.2) (.slice Ao46 y907.length co46)) (fun _ h_=>h_.1))):p:=h
theorem J104 {p:Prop} (h:p:=by (with_reducible repeat (first|apply Y5|apply Y6|apply Y7));exact (Kd.R_mono (Kd.R_far (p:=⟨gb902,0,none⟩) (Kd.R_types HO909.out BK902.out (by first|decide|(simp only [msX_E,msY_E];decide))) (fun _ hk=>hk.2) (.slice Ao46 y907.length co46)) (fun _ h_=>h_.1))):p:=h
theorem J105 {p:Prop} (h:p:=by have:=HN.out;omega):p:=h
theorem J106 {p:Prop} (h:p:=by repeat (first|(with_reducible first|exact HB.out|apply Y3|apply Y1|apply Y2|refine Y4 ?_ (IsS145.ge HI.out))|exact HB.out)):p:=h
theorem J107 {p:Prop} (h:p:=by injection e with e;exact e.symm):p:=h
theorem J108 {p:Prop} (h:p:=by (with_reducible repeat first|apply Y11|apply Y13|apply Y12);exact BK312.out):p:=h
theorem J109 {p:Prop} (h:p:=by (with_reducible repeat (first|apply Y5|apply Y6|apply Y7));exact HO300.out):p:=h
theorem J110 {p:Prop} (h:p:=by (with_reducible repeat (first|apply Y5|apply Y6|apply Y7));exact HO297.out):p:=h
theorem J111 {p:Prop} (h:p:=by repeat (first|(with_reducible first|exact HB.out|apply Y3|apply Y1|apply Y2|refine Y4 ?_ GW.out)|exact HB.out)):p:=h
theorem J112 {p:Prop} (h:p:=by go_num):p:=h
theorem J113 {p:Prop} (h:p:=by simp [Value.ownBlock]):p:=h
theorem J114 {p:Prop} (h:p:=by first|rfl|(rw [hv_];done)|(simp [hv_];done)|(simp [← hv_];done)|(simp [] <;> rfl)|(simp [*] <;> rfl)):p:=h
theorem J115 {p:Prop} (h:p:=by repeat (with_reducible first|exact HB.out|apply Y3|apply Y1|apply Y2|refine Y4 ?_ GE262.out)):p:=h
theorem J116 {p:Prop} (h:p:=by repeat (with_reducible first|exact HB.out|apply Y3|apply Y1|apply Y2|refine Y4 ?_ GE249.out)):p:=h
theorem J117 {p:Prop} (h:p:=by rw [bl_length];omega):p:=h
theorem J118 {p:Prop} (h:p:=by go_simp;rfl):p:=h
theorem J119 {p:Prop} (h:p:=by rw [← HS.out,List.drop_of_length_le (by omega)];rfl):p:=h
theorem J120 {p:Prop} (h:p:=by rw [← add_field _ _ 3 (by omega)];exact hc 3 _ rfl):p:=h
theorem J121 {p:Prop} (h:p:=by (try simp only [List.map_toArray,List.map_cons,List.map_nil]);first|done|rfl):p:=h
theorem J122 {p:Prop} (h:p:=by rw [← hF.out];rfl):p:=h
theorem J123 {p:Prop} (h:p:=by have:=HK1.out;omega):p:=h
theorem J124 {p:Prop} (h:p:=by (with_reducible repeat (first|apply Y5|apply Y6|apply Y7));exact HO_4.out):p:=h
theorem J125 {p:Prop} (h:p:=by first|(simp only [List.map_toArray,List.map_cons,List.map_nil];done)|rfl):p:=h
theorem J126 {p:Prop} (h:p:=by repeat (with_reducible first|exact HK.out|apply KeepBut.set_|apply keep_drewN|apply keep_drew|apply keep_alloc|refine keep_far ?_ GW105.out _)):p:=h
theorem J127 {p:Prop} (h:p:=by have:=HLL.out;unfold maxLen;omega):p:=h
theorem J128 {p:Prop} (h:p:=by have:=HJ1.out;first|omega|exact Nat.le_refl _):p:=h
theorem J129 {p:Prop} (h:p:=by simp;omega):p:=h
theorem J130 {p:Prop} (h:p:=by have h1:=HSZ.out;have h2:=HN.out;(try dsimp only at h1 ⊢);omega):p:=h
theorem J131 {p:Prop} (h:p:=by have h1:=HMU.out;have h2:=HN.out;(try dsimp only at h1 ⊢);omega):p:=h
theorem J132 {p:Prop} (h:p:=by first|exact Kd.R_nil _ _ _ _ _|exact Kd.N_nil _ _ _ _ _|exact Kd.V_nil _ _ _ _ _|exact Kd.Q_nil _ _ _ _ _|exact Kd.S_nil _ _ _ _ _):p:=h
theorem J133 {p:Prop} (h:p:=by first|exact Kd.R_nil _ _ _ _ _|exact Kd.N_nil _ _ _ _ _|exact Kd.V_nil _ _ _ _ _|exact Kd.Q_nil _ _ _ _ _|exact Kd.R_nil _ _ _ _ _):p:=h
theorem J134 {p:Prop} (h:p:=by rw [hb];decide):p:=h
theorem J135 {p:Prop} (h:p:=by repeat (with_reducible first|exact HB.out|apply Y3|apply Y1|apply Y2|refine Y4 ?_ GE424.out|refine Y4 ?_ GE425.out)):p:=h
theorem J136 {p:Prop} (h:p:=by rw [HR1.out];exact k1_.out):p:=h
theorem J137 {p:Prop} (h:p:=by (with_reducible repeat (first|apply Y5|apply Y6|apply Y7));exact Kd.R_mono HO889.out (fun _ hk=>⟨trivial,hk⟩)):p:=h
theorem J138 {p:Prop} (h:p:=by have:=HLEN.out;omega):p:=h
theorem J139 {p:Prop} (h:p:=by first|(go_simp;done)|(go_simp;rfl)):p:=h
theorem J140 {p:Prop} (h:p:=by rw [← add_field _ _ 4 (by omega)];exact hc 4 _ rfl):p:=h
theorem J141 {p:Prop} (h:p:=by have:(1:Int) < (t109.size:Int):=of_decide_eq_true (by first|(with_reducible assumption)|assumption);omega):p:=h
theorem J142 {p:Prop} (h:p:=by rw [← HS.out,List.drop_of_length_le (by omega),List.drop_of_length_le (by have:=HLEN.out;omega)];rfl):p:=h
theorem J143 {p:Prop} (h:p:=by (with_reducible repeat (first|apply Y5|apply Y6|apply Y7));exact Kd.R_mono HO886.out (fun _ hk=>hk.2)):p:=h
theorem J144 {p:Prop} (h:p:=by rw [← HR.out];exact pLoop_stay _ _ _ _ _ _ hb):p:=h
theorem J145 {p:Prop} (h:p:=by cases h):p:=h
theorem J146 {p:Prop} (h:p:=by rw [hg];exact Nat.ne_of_lt (IsS145.lt HI.out)):p:=h
theorem J147 {p:Prop} (h:p:=by rw [hg];exact Nat.ne_of_lt (blk_lt HM.out)):p:=h
theorem J148 {p:Prop} (h:p:=by rw [List.length_append];have:=HN.out;simp only [List.length_cons,List.length_nil];omega):p:=h
theorem J149 {p:Prop} (h:p:=by unfold maxLen;omega):p:=h
theorem J150 {p:Prop} (h:p:=by (with_reducible repeat (first|apply Y5|apply Y6|apply Y7));exact HO283.out):p:=h
theorem J151 {p:Prop} (h:p:=by (with_reducible repeat (first|apply Y5|apply Y6|apply Y7));exact HO280.out):p:=h
theorem J152 {p:Prop} (h:p:=by have:=HJ5.out;have:=HK2.out;have:=HK3.out;first|omega|exact Nat.le_refl _):p:=h
theorem J153 {p:Prop} (h:p:=by have:=HJ1.out;have:=HJ3.out;have:=HJ8.out;first|omega|exact Nat.le_refl _):p:=h
theorem J154 {p:Prop} (h:p:=by have:=HJ1.out;have:=HK2.out;omega):p:=h
theorem J155 {p:Prop} (h:p:=by rw [← hq];exact h1):p:=h
theorem J156 {p:Prop} (h:p:=by rw [hg];exact below_size HB.out):p:=h
theorem J157 {p:Prop} (h:p:=by rw [← hT.out];rfl):p:=h
theorem J158 {p:Prop} (h:p:=by have:=HL.out;have:=HG2.out;have:=HG3.out;unfold maxLen;omega):p:=h
theorem J159 {p:Prop} (h:p:=by have:=HJ1.out;have:=HK2.out;first|omega|exact Nat.le_refl _):p:=h
theorem J160 {p:Prop} (h:p:=by have:=HJ1.out;have:=HJ3.out;first|omega|exact Nat.le_refl _):p:=h
theorem J161 {p:Prop} (h:p:=by go_simp):p:=h
theorem J162 {p:Prop} (h:p:=by rw [HT0.out];rfl):p:=h
theorem J163 {p:Prop} (h:p:=by rw [← add_field _ _ 6 (by omega)];exact hc 6 _ rfl):p:=h
theorem J164 {p:Prop} (h:p:=by rw [← add_field _ _ 5 (by omega)];exact hc 5 _ rfl):p:=h
theorem J165 {p:Prop} (h:p:=by have:=HT.out.lens;omega):p:=h
theorem J166 {p:Prop} (h:p:=by have:=HLEN.out.1;omega):p:=h
theorem J167 {p:Prop} (h:p:=by have:=HJ5.out;have:=HK2.out;have:=HK3.out;omega):p:=h
end Go.Proofs
namespace Go.Proofs.YtddpjjhekhompaaGreatDoor.P
open Go.RowKit Go.Proofs.YtddpjjhekhompaaGreatDoorW.PrintWords Go.Proofs.YtddpjjhekhompaaGreatDoorW.PrintLast Go.Proofs.YtddpjjhekhompaaGreatDoorW.PrintMore
attribute [local go_sem] max2_int max_two
set_option linter.unusedVariables false
set_option linter.unusedSimpArgs false
theorem sq_box1 {W:World} {g:Nat} {c0:Value} {t:TypeId} (h:W.heap[g]?=some (.cells #[c0] t (0,0))):W.cell? ⟨g,0,none⟩=some c0∧W.frozen? ⟨g,0,none⟩=false :=
 ⟨(blk_cell h 0).trans rfl,blk_frozen h 0⟩
theorem sq_box2 {W:World} {g:Nat} {c0 c1:Value} {t:TypeId} (h:W.heap[g]?=some (.cells #[c0,c1] t (0,0))):W.cell? ⟨g,0,none⟩=some c0∧W.cell? ⟨g,1,none⟩=some c1∧W.frozen? ⟨g,0,none⟩=false∧W.frozen? ⟨g,1,none⟩=false :=
 ⟨(blk_cell h 0).trans rfl,(blk_cell h 1).trans rfl,blk_frozen h 0,blk_frozen h 1⟩
theorem sq_box3 {W:World} {g:Nat} {c0 c1 c2:Value} {t:TypeId} (h:W.heap[g]?=some (.cells #[c0,c1,c2] t (0,0))):W.cell? ⟨g,0,none⟩=some c0∧W.cell? ⟨g,1,none⟩=some c1∧W.cell? ⟨g,2,none⟩=some c2∧W.frozen? ⟨g,0,none⟩=false∧W.frozen? ⟨g,1,none⟩=false∧W.frozen? ⟨g,2,none⟩=false :=
 ⟨(blk_cell h 0).trans rfl,(blk_cell h 1).trans rfl,(blk_cell h 2).trans rfl,blk_frozen h 0,blk_frozen h 1,blk_frozen h 2⟩
theorem sq_box4 {W:World} {g:Nat} {c0 c1 c2 c3:Value} {t:TypeId} (h:W.heap[g]?=some (.cells #[c0,c1,c2,c3] t (0,0))):W.cell? ⟨g,0,none⟩=some c0∧W.cell? ⟨g,1,none⟩=some c1∧W.cell? ⟨g,2,none⟩=some c2∧W.cell? ⟨g,3,none⟩=some c3∧W.frozen? ⟨g,0,none⟩=false∧W.frozen? ⟨g,1,none⟩=false∧W.frozen? ⟨g,2,none⟩=false∧W.frozen? ⟨g,3,none⟩=false :=
 ⟨(blk_cell h 0).trans rfl,(blk_cell h 1).trans rfl,(blk_cell h 2).trans rfl,(blk_cell h 3).trans rfl,blk_frozen h 0,blk_frozen h 1,blk_frozen h 2,blk_frozen h 3⟩
theorem sq_box5 {W:World} {g:Nat} {c0 c1 c2 c3 c4:Value} {t:TypeId} (h:W.heap[g]?=some (.cells #[c0,c1,c2,c3,c4] t (0,0))):W.cell? ⟨g,0,none⟩=some c0∧W.cell? ⟨g,1,none⟩=some c1∧W.cell? ⟨g,2,none⟩=some c2∧W.cell? ⟨g,3,none⟩=some c3∧W.cell? ⟨g,4,none⟩=some c4∧W.frozen? ⟨g,0,none⟩=false∧W.frozen? ⟨g,1,none⟩=false∧W.frozen? ⟨g,2,none⟩=false∧W.frozen? ⟨g,3,none⟩=false∧W.frozen? ⟨g,4,none⟩=false :=
 ⟨(blk_cell h 0).trans rfl,(blk_cell h 1).trans rfl,(blk_cell h 2).trans rfl,(blk_cell h 3).trans rfl,(blk_cell h 4).trans rfl,blk_frozen h 0,blk_frozen h 1,blk_frozen h 2,blk_frozen h 3,blk_frozen h 4⟩
theorem sq_box6 {W:World} {g:Nat} {c0 c1 c2 c3 c4 c5:Value} {t:TypeId} (h:W.heap[g]?=some (.cells #[c0,c1,c2,c3,c4,c5] t (0,0))):W.cell? ⟨g,0,none⟩=some c0∧W.cell? ⟨g,1,none⟩=some c1∧W.cell? ⟨g,2,none⟩=some c2∧W.cell? ⟨g,3,none⟩=some c3∧W.cell? ⟨g,4,none⟩=some c4∧W.cell? ⟨g,5,none⟩=some c5∧W.frozen? ⟨g,0,none⟩=false∧W.frozen? ⟨g,1,none⟩=false∧W.frozen? ⟨g,2,none⟩=false∧W.frozen? ⟨g,3,none⟩=false∧W.frozen? ⟨g,4,none⟩=false∧W.frozen? ⟨g,5,none⟩=false :=
 ⟨(blk_cell h 0).trans rfl,(blk_cell h 1).trans rfl,(blk_cell h 2).trans rfl,(blk_cell h 3).trans rfl,(blk_cell h 4).trans rfl,(blk_cell h 5).trans rfl,blk_frozen h 0,blk_frozen h 1,blk_frozen h 2,blk_frozen h 3,blk_frozen h 4,blk_frozen h 5⟩
theorem sq_box7 {W:World} {g:Nat} {c0 c1 c2 c3 c4 c5 c6:Value} {t:TypeId} (h:W.heap[g]?=some (.cells #[c0,c1,c2,c3,c4,c5,c6] t (0,0))):W.cell? ⟨g,0,none⟩=some c0∧W.cell? ⟨g,1,none⟩=some c1∧W.cell? ⟨g,2,none⟩=some c2∧W.cell? ⟨g,3,none⟩=some c3∧W.cell? ⟨g,4,none⟩=some c4∧W.cell? ⟨g,5,none⟩=some c5∧W.cell? ⟨g,6,none⟩=some c6∧W.frozen? ⟨g,0,none⟩=false∧W.frozen? ⟨g,1,none⟩=false∧W.frozen? ⟨g,2,none⟩=false∧W.frozen? ⟨g,3,none⟩=false∧W.frozen? ⟨g,4,none⟩=false∧W.frozen? ⟨g,5,none⟩=false∧W.frozen? ⟨g,6,none⟩=false :=
 ⟨(blk_cell h 0).trans rfl,(blk_cell h 1).trans rfl,(blk_cell h 2).trans rfl,(blk_cell h 3).trans rfl,(blk_cell h 4).trans rfl,(blk_cell h 5).trans rfl,(blk_cell h 6).trans rfl,blk_frozen h 0,blk_frozen h 1,blk_frozen h 2,blk_frozen h 3,blk_frozen h 4,blk_frozen h 5,blk_frozen h 6⟩
theorem sq_box8 {W:World} {g:Nat} {c0 c1 c2 c3 c4 c5 c6 c7:Value} {t:TypeId} (h:W.heap[g]?=some (.cells #[c0,c1,c2,c3,c4,c5,c6,c7] t (0,0))):W.cell? ⟨g,0,none⟩=some c0∧W.cell? ⟨g,1,none⟩=some c1∧W.cell? ⟨g,2,none⟩=some c2∧W.cell? ⟨g,3,none⟩=some c3∧W.cell? ⟨g,4,none⟩=some c4∧W.cell? ⟨g,5,none⟩=some c5∧W.cell? ⟨g,6,none⟩=some c6∧W.cell? ⟨g,7,none⟩=some c7∧W.frozen? ⟨g,0,none⟩=false∧W.frozen? ⟨g,1,none⟩=false∧W.frozen? ⟨g,2,none⟩=false∧W.frozen? ⟨g,3,none⟩=false∧W.frozen? ⟨g,4,none⟩=false∧W.frozen? ⟨g,5,none⟩=false∧W.frozen? ⟨g,6,none⟩=false∧W.frozen? ⟨g,7,none⟩=false :=
 ⟨(blk_cell h 0).trans rfl,(blk_cell h 1).trans rfl,(blk_cell h 2).trans rfl,(blk_cell h 3).trans rfl,(blk_cell h 4).trans rfl,(blk_cell h 5).trans rfl,(blk_cell h 6).trans rfl,(blk_cell h 7).trans rfl,blk_frozen h 0,blk_frozen h 1,blk_frozen h 2,blk_frozen h 3,blk_frozen h 4,blk_frozen h 5,blk_frozen h 6,blk_frozen h 7⟩
def sqB (n m:Nat):Array Bool:=((List.range n).map fun i=>m.testBit i).toArray
abbrev Y1:=@pw_below_drewN
abbrev Y2:=@below_drew1
abbrev Y3:=@below_alloc
abbrev Y4:=@below_set
abbrev Y5:=@Kd.R_alloc
abbrev Y6:=@Kd.R_drewN
abbrev Y7:=@Kd.R_drew
abbrev Y8:=@Kd.C_alloc
abbrev Y11:=@blk_drewN
abbrev Y12:=@blk_alloc
abbrev Y13:=@blk_drew
abbrev Y0:=@Aside0.mk
abbrev Y14:=@List.setIfInBounds_toArray
abbrev Y15:=@List.set_cons_zero
abbrev Y16:=@List.set_cons_succ
abbrev Y17:=@Option.bind_eq_some_iff
theorem info2:(Tryz.prog.info? 2).map (fun i=>(i.zero,i.size,i.bytes))=some (some (.int .i64 0),1,8):=by kernel_rfl
theorem info5:(Tryz.prog.info? 5).map (fun i=>(i.zero,i.size,i.bytes))=some (some (.int .u8 0),1,1):=by kernel_rfl
theorem info9:(Tryz.prog.info? 9).map (fun i=>(i.zero,i.size,i.bytes))=some (some (.string ⟨#[]⟩),1,16):=by kernel_rfl
theorem info34:(Tryz.prog.info? 34).map (fun i=>(i.zero,i.size,i.bytes))=some (some (.agg #[(.string ⟨#[]⟩),(.slice none 0 0),(.slice none 0 0),(.slice none 0 0),(.int .i64 0)]),5,96):=by kernel_rfl
theorem info36:(Tryz.prog.info? 36).map (fun i=>(i.zero,i.size,i.bytes))=some (some (.agg #[(.string ⟨#[]⟩),(.string ⟨#[]⟩),(.bool false),(.int .i64 0),(.string ⟨#[]⟩),(.int .i64 0),(.int .i64 0)]),7,80):=by kernel_rfl
theorem info57:(Tryz.prog.info? 57).map (fun i=>(i.zero,i.size,i.bytes))=some (some (.agg #[(.string ⟨#[]⟩),(.slice none 0 0)]),2,40):=by kernel_rfl
theorem info68:(Tryz.prog.info? 68).map (fun i=>(i.zero,i.size,i.bytes))=some (some (.agg #[(.string ⟨#[]⟩),(.slice none 0 0),(.int .i64 0)]),3,48):=by kernel_rfl
theorem info92:(Tryz.prog.info? 92).map (fun i=>(i.zero,i.size,i.bytes))=some (some (.agg #[(.string ⟨#[]⟩),(.int .i64 0),(.int .i64 0)]),3,32):=by kernel_rfl
theorem info149:(Tryz.prog.info? 149).map (fun i=>(i.zero,i.size,i.bytes))=some (some (.agg #[(.int .i64 0),(.string ⟨#[]⟩),(.int .i64 0),(.int .i64 0)]),4,40):=by kernel_rfl
structure S149 where
 f0:Int
 f1:ByteArray
 f2:Int
 f3:Int
def z149:S149:=⟨(0:Int),(⟨#[]⟩:ByteArray),(0:Int),(0:Int)⟩
def k149:Kd S149:=Kd.iso (Kd.pair (Kd.int .i64) (Kd.pair Kd.string (Kd.pair (Kd.int .i64) (Kd.int .i64)))) (fun x:S149=>(x.f0,x.f1,x.f2,x.f3))
theorem k149_open {w:World} {x:S149} {cs:List Value} (h:k149.K w x cs):cs=[.int .i64 x.f0,.string x.f1,.int .i64 x.f2,.int .i64 x.f3]:=by
 obtain ⟨_,_,rfl,rfl,⟨_,_,rfl,rfl,⟨_,_,rfl,rfl,rfl⟩⟩⟩:=h
 exact rfl
theorem k149_mkM (w:World) (base:Nat) (ok:Nat→Prop) (x:S149)  : k149.M w base ok x [.int .i64 x.f0,.string x.f1,.int .i64 x.f2,.int .i64 x.f3]:=⟨[.int .i64 x.f0],[.string x.f1,.int .i64 x.f2,.int .i64 x.f3],rfl,rfl,⟨[.string x.f1],[.int .i64 x.f2,.int .i64 x.f3],rfl,rfl,⟨[.int .i64 x.f2],[.int .i64 x.f3],rfl,rfl,rfl⟩⟩⟩
def rd_T149 (xs:List S149) (i:Int):S149:=xs.getD i.toNat z149
theorem at_T149 {w:World} {A:Option Addr} {n:Nat} {xs:List S149} (h:Kd.C k149 w A n xs) (i:Int) (h0:0≤i) (h1:i < n):∃ ad ,A=some ad∧w.cell? (ad.add (i.toNat * 4))=some (.int .i64 (rd_T149 xs i).f0)∧w.cell? ⟨(ad.add (i.toNat * 4)).block,(ad.add (i.toNat * 4)).off + 1,none⟩=some (.string (rd_T149 xs i).f1)∧w.cell? ⟨(ad.add (i.toNat * 4)).block,(ad.add (i.toNat * 4)).off + 2,none⟩=some (.int .i64 (rd_T149 xs i).f2)∧w.cell? ⟨(ad.add (i.toNat * 4)).block,(ad.add (i.toNat * 4)).off + 3,none⟩=some (.int .i64 (rd_T149 xs i).f3):=by
 obtain ⟨ad,c,e,_,hK,hc0⟩:=Kd.C_get h z149 i h0 h1
 have hc:∀ j u,c[j]?=some u→w.cell? (ad.add (i.toNat * 4 + j))=some u:=hc0
 obtain rfl:=k149_open hK
 exact ⟨ad,e,hc 0 _ rfl,J81,J88,J120⟩
structure S36 where
 f0:ByteArray
 f1:ByteArray
 f2:Bool
 f3:Int
 f4:ByteArray
 f5:Int
 f6:Int
def z36:S36:=⟨(⟨#[]⟩:ByteArray),(⟨#[]⟩:ByteArray),false,(0:Int),(⟨#[]⟩:ByteArray),(0:Int),(0:Int)⟩
def k36:Kd S36:=Kd.iso (Kd.pair Kd.string (Kd.pair Kd.string (Kd.pair Kd.bool (Kd.pair (Kd.int .i64) (Kd.pair Kd.string (Kd.pair (Kd.int .i64) (Kd.int .i64))))))) (fun x:S36=>(x.f0,x.f1,x.f2,x.f3,x.f4,x.f5,x.f6))
theorem k36_open {w:World} {x:S36} {cs:List Value} (h:k36.K w x cs):cs=[.string x.f0,.string x.f1,.bool x.f2,.int .i64 x.f3,.string x.f4,.int .i64 x.f5,.int .i64 x.f6]:=by
 obtain ⟨_,_,rfl,rfl,⟨_,_,rfl,rfl,⟨_,_,rfl,rfl,⟨_,_,rfl,rfl,⟨_,_,rfl,rfl,⟨_,_,rfl,rfl,rfl⟩⟩⟩⟩⟩⟩:=h
 exact rfl
theorem k36_mk (w:World) (x:S36)  : k36.K w x [.string x.f0,.string x.f1,.bool x.f2,.int .i64 x.f3,.string x.f4,.int .i64 x.f5,.int .i64 x.f6]:=⟨[.string x.f0],[.string x.f1,.bool x.f2,.int .i64 x.f3,.string x.f4,.int .i64 x.f5,.int .i64 x.f6],rfl,rfl,⟨[.string x.f1],[.bool x.f2,.int .i64 x.f3,.string x.f4,.int .i64 x.f5,.int .i64 x.f6],rfl,rfl,⟨[.bool x.f2],[.int .i64 x.f3,.string x.f4,.int .i64 x.f5,.int .i64 x.f6],rfl,rfl,⟨[.int .i64 x.f3],[.string x.f4,.int .i64 x.f5,.int .i64 x.f6],rfl,rfl,⟨[.string x.f4],[.int .i64 x.f5,.int .i64 x.f6],rfl,rfl,⟨[.int .i64 x.f5],[.int .i64 x.f6],rfl,rfl,rfl⟩⟩⟩⟩⟩⟩
theorem k36_mkM (w:World) (base:Nat) (ok:Nat→Prop) (x:S36)  : k36.M w base ok x [.string x.f0,.string x.f1,.bool x.f2,.int .i64 x.f3,.string x.f4,.int .i64 x.f5,.int .i64 x.f6]:=⟨[.string x.f0],[.string x.f1,.bool x.f2,.int .i64 x.f3,.string x.f4,.int .i64 x.f5,.int .i64 x.f6],rfl,rfl,⟨[.string x.f1],[.bool x.f2,.int .i64 x.f3,.string x.f4,.int .i64 x.f5,.int .i64 x.f6],rfl,rfl,⟨[.bool x.f2],[.int .i64 x.f3,.string x.f4,.int .i64 x.f5,.int .i64 x.f6],rfl,rfl,⟨[.int .i64 x.f3],[.string x.f4,.int .i64 x.f5,.int .i64 x.f6],rfl,rfl,⟨[.string x.f4],[.int .i64 x.f5,.int .i64 x.f6],rfl,rfl,⟨[.int .i64 x.f5],[.int .i64 x.f6],rfl,rfl,rfl⟩⟩⟩⟩⟩⟩
def rd_T36 (xs:List S36) (i:Int):S36:=xs.getD i.toNat z36
theorem at_T36 {w:World} {A:Option Addr} {n:Nat} {xs:List S36} (h:Kd.C k36 w A n xs) (i:Int) (h0:0≤i) (h1:i < n):∃ ad ,A=some ad∧w.cell? (ad.add (i.toNat * 7))=some (.string (rd_T36 xs i).f0)∧w.cell? ⟨(ad.add (i.toNat * 7)).block,(ad.add (i.toNat * 7)).off + 1,none⟩=some (.string (rd_T36 xs i).f1)∧w.cell? ⟨(ad.add (i.toNat * 7)).block,(ad.add (i.toNat * 7)).off + 2,none⟩=some (.bool (rd_T36 xs i).f2)∧w.cell? ⟨(ad.add (i.toNat * 7)).block,(ad.add (i.toNat * 7)).off + 3,none⟩=some (.int .i64 (rd_T36 xs i).f3)∧w.cell? ⟨(ad.add (i.toNat * 7)).block,(ad.add (i.toNat * 7)).off + 4,none⟩=some (.string (rd_T36 xs i).f4)∧w.cell? ⟨(ad.add (i.toNat * 7)).block,(ad.add (i.toNat * 7)).off + 5,none⟩=some (.int .i64 (rd_T36 xs i).f5)∧w.cell? ⟨(ad.add (i.toNat * 7)).block,(ad.add (i.toNat * 7)).off + 6,none⟩=some (.int .i64 (rd_T36 xs i).f6):=by
 obtain ⟨ad,c,e,_,hK,hc0⟩:=Kd.C_get h z36 i h0 h1
 have hc:∀ j u,c[j]?=some u→w.cell? (ad.add (i.toNat * 7 + j))=some u:=hc0
 obtain rfl:=k36_open hK
 exact ⟨ad,e,hc 0 _ rfl,J81,J88,J120,J140,J164,J163⟩
structure S34 where
 f0:ByteArray
 f1:(List S36)
 f2:(List ByteArray)
 f3:(List Int)
 f4:Int
def z34:S34:=⟨(⟨#[]⟩:ByteArray),([]:List S36),([]:List ByteArray),([]:List Int),(0:Int)⟩
def k34:Kd S34:=Kd.iso (Kd.pair Kd.string (Kd.pair (Kd.slice 36 k36) (Kd.pair (Kd.slice 9 Kd.string) (Kd.pair (Kd.slice 2 (Kd.int .i64)) (Kd.int .i64))))) (fun x:S34=>(x.f0,x.f1,x.f2,x.f3,x.f4))
theorem k34_open {w:World} {x:S34} {cs:List Value} (h:k34.K w x cs):∃ A1 c1 A2 c2 A3 c3,cs=[.string x.f0,.slice A1 x.f1.length c1,.slice A2 x.f2.length c2,.slice A3 x.f3.length c3,.int .i64 x.f4]∧x.f1.length≤c1∧k36.C w A1 x.f1.length x.f1∧x.f2.length≤c2∧Kd.string.C w A2 x.f2.length x.f2∧x.f3.length≤c3∧(Kd.int .i64).C w A3 x.f3.length x.f3:=by
 obtain ⟨_,_,rfl,rfl,⟨_,_,rfl,⟨A1,c1,rfl,l1,g1⟩,⟨_,_,rfl,⟨A2,c2,rfl,l2,g2⟩,⟨_,_,rfl,⟨A3,c3,rfl,l3,g3⟩,rfl⟩⟩⟩⟩:=h
 exact ⟨A1,c1,A2,c2,A3,c3,rfl,l1,g1,l2,g2,l3,g3⟩
theorem k34_mk (w:World) (x:S34) {A1:Option Addr} {c1:Nat} (l1:x.f1.length≤c1) (g1:k36.C w A1 x.f1.length x.f1) {A2:Option Addr} {c2:Nat} (l2:x.f2.length≤c2) (g2:Kd.string.C w A2 x.f2.length x.f2) {A3:Option Addr} {c3:Nat} (l3:x.f3.length≤c3) (g3:(Kd.int .i64).C w A3 x.f3.length x.f3):k34.K w x [.string x.f0,.slice A1 x.f1.length c1,.slice A2 x.f2.length c2,.slice A3 x.f3.length c3,.int .i64 x.f4]:=⟨[.string x.f0],[.slice A1 x.f1.length c1,.slice A2 x.f2.length c2,.slice A3 x.f3.length c3,.int .i64 x.f4],rfl,rfl,⟨[.slice A1 x.f1.length c1],[.slice A2 x.f2.length c2,.slice A3 x.f3.length c3,.int .i64 x.f4],rfl,⟨A1,c1,rfl,l1,g1⟩,⟨[.slice A2 x.f2.length c2],[.slice A3 x.f3.length c3,.int .i64 x.f4],rfl,⟨A2,c2,rfl,l2,g2⟩,⟨[.slice A3 x.f3.length c3],[.int .i64 x.f4],rfl,⟨A3,c3,rfl,l3,g3⟩,rfl⟩⟩⟩⟩
theorem k34_mkM (w:World) (base:Nat) (ok:Nat→Prop) (x:S34) {v1:Value} (g1:k36.R 36 w base ok v1 x.f1) {v2:Value} (g2:Kd.string.R 9 w base ok v2 x.f2) {v3:Value} (g3:(Kd.int .i64).R 2 w base ok v3 x.f3):k34.M w base ok x [.string x.f0,v1,v2,v3,.int .i64 x.f4]:=⟨[.string x.f0],[v1,v2,v3,.int .i64 x.f4],rfl,rfl,⟨[v1],[v2,v3,.int .i64 x.f4],rfl,⟨v1,rfl,g1⟩,⟨[v2],[v3,.int .i64 x.f4],rfl,⟨v2,rfl,g2⟩,⟨[v3],[.int .i64 x.f4],rfl,⟨v3,rfl,g3⟩,rfl⟩⟩⟩⟩
def rd_T34 (xs:List S34) (i:Int):S34:=xs.getD i.toNat z34
theorem at_T34 {w:World} {A:Option Addr} {n:Nat} {xs:List S34} (h:Kd.C k34 w A n xs) (i:Int) (h0:0≤i) (h1:i < n):∃ ad A1 c1 A2 c2 A3 c3,A=some ad∧w.cell? (ad.add (i.toNat * 5))=some (.string (rd_T34 xs i).f0)∧w.cell? ⟨(ad.add (i.toNat * 5)).block,(ad.add (i.toNat * 5)).off + 1,none⟩=some (.slice A1 (rd_T34 xs i).f1.length c1)∧w.cell? ⟨(ad.add (i.toNat * 5)).block,(ad.add (i.toNat * 5)).off + 2,none⟩=some (.slice A2 (rd_T34 xs i).f2.length c2)∧w.cell? ⟨(ad.add (i.toNat * 5)).block,(ad.add (i.toNat * 5)).off + 3,none⟩=some (.slice A3 (rd_T34 xs i).f3.length c3)∧w.cell? ⟨(ad.add (i.toNat * 5)).block,(ad.add (i.toNat * 5)).off + 4,none⟩=some (.int .i64 (rd_T34 xs i).f4)∧(rd_T34 xs i).f1.length≤c1∧k36.C w A1 (rd_T34 xs i).f1.length (rd_T34 xs i).f1∧(rd_T34 xs i).f2.length≤c2∧Kd.string.C w A2 (rd_T34 xs i).f2.length (rd_T34 xs i).f2∧(rd_T34 xs i).f3.length≤c3∧(Kd.int .i64).C w A3 (rd_T34 xs i).f3.length (rd_T34 xs i).f3:=by
 obtain ⟨ad,c,e,_,hK,hc0⟩:=Kd.C_get h z34 i h0 h1
 have hc:∀ j u,c[j]?=some u→w.cell? (ad.add (i.toNat * 5 + j))=some u:=hc0
 obtain ⟨A1,c1,A2,c2,A3,c3,rfl,l1,g1,l2,g2,l3,g3⟩:=k34_open hK
 exact ⟨ad,A1,c1,A2,c2,A3,c3,e,hc 0 _ rfl,J81,J88,J120,J140,l1,g1,l2,g2,l3,g3⟩
structure S92 where
 f0:ByteArray
 f1:Int
 f2:Int
def z92:S92:=⟨(⟨#[]⟩:ByteArray),(0:Int),(0:Int)⟩
def k92:Kd S92:=Kd.iso (Kd.pair Kd.string (Kd.pair (Kd.int .i64) (Kd.int .i64))) (fun x:S92=>(x.f0,x.f1,x.f2))
theorem k92_open {w:World} {x:S92} {cs:List Value} (h:k92.K w x cs):cs=[.string x.f0,.int .i64 x.f1,.int .i64 x.f2]:=by
 obtain ⟨_,_,rfl,rfl,⟨_,_,rfl,rfl,rfl⟩⟩:=h
 exact rfl
theorem k92_mk (w:World) (x:S92)  : k92.K w x [.string x.f0,.int .i64 x.f1,.int .i64 x.f2]:=⟨[.string x.f0],[.int .i64 x.f1,.int .i64 x.f2],rfl,rfl,⟨[.int .i64 x.f1],[.int .i64 x.f2],rfl,rfl,rfl⟩⟩
theorem k92_mkM (w:World) (base:Nat) (ok:Nat→Prop) (x:S92)  : k92.M w base ok x [.string x.f0,.int .i64 x.f1,.int .i64 x.f2]:=⟨[.string x.f0],[.int .i64 x.f1,.int .i64 x.f2],rfl,rfl,⟨[.int .i64 x.f1],[.int .i64 x.f2],rfl,rfl,rfl⟩⟩
def rd_T92 (xs:List S92) (i:Int):S92:=xs.getD i.toNat z92
theorem at_T92 {w:World} {A:Option Addr} {n:Nat} {xs:List S92} (h:Kd.C k92 w A n xs) (i:Int) (h0:0≤i) (h1:i < n):∃ ad ,A=some ad∧w.cell? (ad.add (i.toNat * 3))=some (.string (rd_T92 xs i).f0)∧w.cell? ⟨(ad.add (i.toNat * 3)).block,(ad.add (i.toNat * 3)).off + 1,none⟩=some (.int .i64 (rd_T92 xs i).f1)∧w.cell? ⟨(ad.add (i.toNat * 3)).block,(ad.add (i.toNat * 3)).off + 2,none⟩=some (.int .i64 (rd_T92 xs i).f2):=by
 obtain ⟨ad,c,e,_,hK,hc0⟩:=Kd.C_get h z92 i h0 h1
 have hc:∀ j u,c[j]?=some u→w.cell? (ad.add (i.toNat * 3 + j))=some u:=hc0
 obtain rfl:=k92_open hK
 exact ⟨ad,e,hc 0 _ rfl,J81,J88⟩
structure S68 where
 f0:ByteArray
 f1:(List S92)
 f2:Int
def z68:S68:=⟨(⟨#[]⟩:ByteArray),([]:List S92),(0:Int)⟩
def k68:Kd S68:=Kd.iso (Kd.pair Kd.string (Kd.pair (Kd.slice 92 k92) (Kd.int .i64))) (fun x:S68=>(x.f0,x.f1,x.f2))
theorem k68_open {w:World} {x:S68} {cs:List Value} (h:k68.K w x cs):∃ A1 c1,cs=[.string x.f0,.slice A1 x.f1.length c1,.int .i64 x.f2]∧x.f1.length≤c1∧k92.C w A1 x.f1.length x.f1:=by
 obtain ⟨_,_,rfl,rfl,⟨_,_,rfl,⟨A1,c1,rfl,l1,g1⟩,rfl⟩⟩:=h
 exact ⟨A1,c1,rfl,l1,g1⟩
theorem k68_mk (w:World) (x:S68) {A1:Option Addr} {c1:Nat} (l1:x.f1.length≤c1) (g1:k92.C w A1 x.f1.length x.f1):k68.K w x [.string x.f0,.slice A1 x.f1.length c1,.int .i64 x.f2]:=⟨[.string x.f0],[.slice A1 x.f1.length c1,.int .i64 x.f2],rfl,rfl,⟨[.slice A1 x.f1.length c1],[.int .i64 x.f2],rfl,⟨A1,c1,rfl,l1,g1⟩,rfl⟩⟩
theorem k68_mkM (w:World) (base:Nat) (ok:Nat→Prop) (x:S68) {v1:Value} (g1:k92.R 92 w base ok v1 x.f1):k68.M w base ok x [.string x.f0,v1,.int .i64 x.f2]:=⟨[.string x.f0],[v1,.int .i64 x.f2],rfl,rfl,⟨[v1],[.int .i64 x.f2],rfl,⟨v1,rfl,g1⟩,rfl⟩⟩
def rd_T68 (xs:List S68) (i:Int):S68:=xs.getD i.toNat z68
theorem at_T68 {w:World} {A:Option Addr} {n:Nat} {xs:List S68} (h:Kd.C k68 w A n xs) (i:Int) (h0:0≤i) (h1:i < n):∃ ad A1 c1,A=some ad∧w.cell? (ad.add (i.toNat * 3))=some (.string (rd_T68 xs i).f0)∧w.cell? ⟨(ad.add (i.toNat * 3)).block,(ad.add (i.toNat * 3)).off + 1,none⟩=some (.slice A1 (rd_T68 xs i).f1.length c1)∧w.cell? ⟨(ad.add (i.toNat * 3)).block,(ad.add (i.toNat * 3)).off + 2,none⟩=some (.int .i64 (rd_T68 xs i).f2)∧(rd_T68 xs i).f1.length≤c1∧k92.C w A1 (rd_T68 xs i).f1.length (rd_T68 xs i).f1:=by
 obtain ⟨ad,c,e,_,hK,hc0⟩:=Kd.C_get h z68 i h0 h1
 have hc:∀ j u,c[j]?=some u→w.cell? (ad.add (i.toNat * 3 + j))=some u:=hc0
 obtain ⟨A1,c1,rfl,l1,g1⟩:=k68_open hK
 exact ⟨ad,A1,c1,e,hc 0 _ rfl,J81,J88,l1,g1⟩
structure S51 where
 f0:Int
 f1:ByteArray
 f2:Int
 f3:Int
 f4:Bool
 f5:Int
 f6:Int
def z51:S51:=⟨(0:Int),(⟨#[]⟩:ByteArray),(0:Int),(0:Int),false,(0:Int),(0:Int)⟩
def k51:Kd S51:=Kd.iso (Kd.pair (Kd.int .i64) (Kd.pair Kd.string (Kd.pair (Kd.int .i64) (Kd.pair (Kd.int .i64) (Kd.pair Kd.bool (Kd.pair (Kd.int .i64) (Kd.int .i64))))))) (fun x:S51=>(x.f0,x.f1,x.f2,x.f3,x.f4,x.f5,x.f6))
theorem k51_open {w:World} {x:S51} {cs:List Value} (h:k51.K w x cs):cs=[.int .i64 x.f0,.string x.f1,.int .i64 x.f2,.int .i64 x.f3,.bool x.f4,.int .i64 x.f5,.int .i64 x.f6]:=by
 obtain ⟨_,_,rfl,rfl,⟨_,_,rfl,rfl,⟨_,_,rfl,rfl,⟨_,_,rfl,rfl,⟨_,_,rfl,rfl,⟨_,_,rfl,rfl,rfl⟩⟩⟩⟩⟩⟩:=h
 exact rfl
theorem k51_mkM (w:World) (base:Nat) (ok:Nat→Prop) (x:S51)  : k51.M w base ok x [.int .i64 x.f0,.string x.f1,.int .i64 x.f2,.int .i64 x.f3,.bool x.f4,.int .i64 x.f5,.int .i64 x.f6]:=⟨[.int .i64 x.f0],[.string x.f1,.int .i64 x.f2,.int .i64 x.f3,.bool x.f4,.int .i64 x.f5,.int .i64 x.f6],rfl,rfl,⟨[.string x.f1],[.int .i64 x.f2,.int .i64 x.f3,.bool x.f4,.int .i64 x.f5,.int .i64 x.f6],rfl,rfl,⟨[.int .i64 x.f2],[.int .i64 x.f3,.bool x.f4,.int .i64 x.f5,.int .i64 x.f6],rfl,rfl,⟨[.int .i64 x.f3],[.bool x.f4,.int .i64 x.f5,.int .i64 x.f6],rfl,rfl,⟨[.bool x.f4],[.int .i64 x.f5,.int .i64 x.f6],rfl,rfl,⟨[.int .i64 x.f5],[.int .i64 x.f6],rfl,rfl,rfl⟩⟩⟩⟩⟩⟩
def rd_T51 (xs:List S51) (i:Int):S51:=xs.getD i.toNat z51
theorem at_T51 {w:World} {A:Option Addr} {n:Nat} {xs:List S51} (h:Kd.C k51 w A n xs) (i:Int) (h0:0≤i) (h1:i < n):∃ ad ,A=some ad∧w.cell? (ad.add (i.toNat * 7))=some (.int .i64 (rd_T51 xs i).f0)∧w.cell? ⟨(ad.add (i.toNat * 7)).block,(ad.add (i.toNat * 7)).off + 1,none⟩=some (.string (rd_T51 xs i).f1)∧w.cell? ⟨(ad.add (i.toNat * 7)).block,(ad.add (i.toNat * 7)).off + 2,none⟩=some (.int .i64 (rd_T51 xs i).f2)∧w.cell? ⟨(ad.add (i.toNat * 7)).block,(ad.add (i.toNat * 7)).off + 3,none⟩=some (.int .i64 (rd_T51 xs i).f3)∧w.cell? ⟨(ad.add (i.toNat * 7)).block,(ad.add (i.toNat * 7)).off + 4,none⟩=some (.bool (rd_T51 xs i).f4)∧w.cell? ⟨(ad.add (i.toNat * 7)).block,(ad.add (i.toNat * 7)).off + 5,none⟩=some (.int .i64 (rd_T51 xs i).f5)∧w.cell? ⟨(ad.add (i.toNat * 7)).block,(ad.add (i.toNat * 7)).off + 6,none⟩=some (.int .i64 (rd_T51 xs i).f6):=by
 obtain ⟨ad,c,e,_,hK,hc0⟩:=Kd.C_get h z51 i h0 h1
 have hc:∀ j u,c[j]?=some u→w.cell? (ad.add (i.toNat * 7 + j))=some u:=hc0
 obtain rfl:=k51_open hK
 exact ⟨ad,e,hc 0 _ rfl,J81,J88,J120,J140,J164,J163⟩
structure S57 where
 f0:ByteArray
 f1:(List S51)
def z57:S57:=⟨(⟨#[]⟩:ByteArray),([]:List S51)⟩
def k57:Kd S57:=Kd.iso (Kd.pair Kd.string (Kd.slice 51 k51)) (fun x:S57=>(x.f0,x.f1))
theorem k57_open {w:World} {x:S57} {cs:List Value} (h:k57.K w x cs):∃ A1 c1,cs=[.string x.f0,.slice A1 x.f1.length c1]∧x.f1.length≤c1∧k51.C w A1 x.f1.length x.f1:=by
 obtain ⟨_,_,rfl,rfl,⟨A1,c1,rfl,l1,g1⟩⟩:=h
 exact ⟨A1,c1,rfl,l1,g1⟩
theorem k57_openM {w:World} {base:Nat} {ok:Nat→Prop} {x:S57} {cs:List Value} (h:k57.M w base ok x cs):∃ v1,cs=[.string x.f0,v1]∧k51.R 51 w base ok v1 x.f1:=by
 obtain ⟨_,_,rfl,rfl,⟨v1,rfl,g1⟩⟩:=h
 exact ⟨v1,rfl,g1⟩
theorem k57_mkM (w:World) (base:Nat) (ok:Nat→Prop) (x:S57) {v1:Value} (g1:k51.R 51 w base ok v1 x.f1):k57.M w base ok x [.string x.f0,v1]:=⟨[.string x.f0],[v1],rfl,rfl,⟨v1,rfl,g1⟩⟩
def rd_T57 (xs:List S57) (i:Int):S57:=xs.getD i.toNat z57
theorem at_T57 {w:World} {A:Option Addr} {n:Nat} {xs:List S57} (h:Kd.C k57 w A n xs) (i:Int) (h0:0≤i) (h1:i < n):∃ ad A1 c1,A=some ad∧w.cell? (ad.add (i.toNat * 2))=some (.string (rd_T57 xs i).f0)∧w.cell? ⟨(ad.add (i.toNat * 2)).block,(ad.add (i.toNat * 2)).off + 1,none⟩=some (.slice A1 (rd_T57 xs i).f1.length c1)∧(rd_T57 xs i).f1.length≤c1∧k51.C w A1 (rd_T57 xs i).f1.length (rd_T57 xs i).f1:=by
 obtain ⟨ad,c,e,_,hK,hc0⟩:=Kd.C_get h z57 i h0 h1
 have hc:∀ j u,c[j]?=some u→w.cell? (ad.add (i.toNat * 2 + j))=some u:=hc0
 obtain ⟨A1,c1,rfl,l1,g1⟩:=k57_open hK
 exact ⟨ad,A1,c1,e,hc 0 _ rfl,J81,l1,g1⟩
structure S119 where
 f0:ByteArray
 f1:(List ByteArray)
 f2:(List Int)
def z119:S119:=⟨(⟨#[]⟩:ByteArray),([]:List ByteArray),([]:List Int)⟩
def k119:Kd S119:=Kd.iso (Kd.pair Kd.string (Kd.pair (Kd.slice 9 Kd.string) (Kd.slice 2 (Kd.int .i64)))) (fun x:S119=>(x.f0,x.f1,x.f2))
theorem k119_open {w:World} {x:S119} {cs:List Value} (h:k119.K w x cs):∃ A1 c1 A2 c2,cs=[.string x.f0,.slice A1 x.f1.length c1,.slice A2 x.f2.length c2]∧x.f1.length≤c1∧Kd.string.C w A1 x.f1.length x.f1∧x.f2.length≤c2∧(Kd.int .i64).C w A2 x.f2.length x.f2:=by
 obtain ⟨_,_,rfl,rfl,⟨_,_,rfl,⟨A1,c1,rfl,l1,g1⟩,⟨A2,c2,rfl,l2,g2⟩⟩⟩:=h
 exact ⟨A1,c1,A2,c2,rfl,l1,g1,l2,g2⟩
theorem k119_mkM (w:World) (base:Nat) (ok:Nat→Prop) (x:S119) {v1:Value} (g1:Kd.string.R 9 w base ok v1 x.f1) {v2:Value} (g2:(Kd.int .i64).R 2 w base ok v2 x.f2):k119.M w base ok x [.string x.f0,v1,v2]:=⟨[.string x.f0],[v1,v2],rfl,rfl,⟨[v1],[v2],rfl,⟨v1,rfl,g1⟩,⟨v2,rfl,g2⟩⟩⟩
def rd_T119 (xs:List S119) (i:Int):S119:=xs.getD i.toNat z119
theorem at_T119 {w:World} {A:Option Addr} {n:Nat} {xs:List S119} (h:Kd.C k119 w A n xs) (i:Int) (h0:0≤i) (h1:i < n):∃ ad A1 c1 A2 c2,A=some ad∧w.cell? (ad.add (i.toNat * 3))=some (.string (rd_T119 xs i).f0)∧w.cell? ⟨(ad.add (i.toNat * 3)).block,(ad.add (i.toNat * 3)).off + 1,none⟩=some (.slice A1 (rd_T119 xs i).f1.length c1)∧w.cell? ⟨(ad.add (i.toNat * 3)).block,(ad.add (i.toNat * 3)).off + 2,none⟩=some (.slice A2 (rd_T119 xs i).f2.length c2)∧(rd_T119 xs i).f1.length≤c1∧Kd.string.C w A1 (rd_T119 xs i).f1.length (rd_T119 xs i).f1∧(rd_T119 xs i).f2.length≤c2∧(Kd.int .i64).C w A2 (rd_T119 xs i).f2.length (rd_T119 xs i).f2:=by
 obtain ⟨ad,c,e,_,hK,hc0⟩:=Kd.C_get h z119 i h0 h1
 have hc:∀ j u,c[j]?=some u→w.cell? (ad.add (i.toNat * 3 + j))=some u:=hc0
 obtain ⟨A1,c1,A2,c2,rfl,l1,g1,l2,g2⟩:=k119_open hK
 exact ⟨ad,A1,c1,A2,c2,e,hc 0 _ rfl,J81,J88,l1,g1,l2,g2⟩
structure GInv (w:World):Prop where
 syn:∃ te pe,w.cell? ⟨1,0,none⟩=some (.iface te pe)
 rng:∃ te pe,w.cell? ⟨2,0,none⟩=some (.iface te pe)
 tab : Lib.TabIs Tryz.prog w "internal/strconv.uint64pow10" .u64 Lib.pow10Tab
 low:0 < w.heap.size
theorem pow10_named : Tryz.prog.globalNamed "internal/strconv.uint64pow10" = some 0 := by kernel_rfl
theorem GInv.below {w W:World} (h:GInv w) (hb:Below w.heap.size w W):GInv W:=by
 obtain ⟨⟨te,pe,h1⟩,⟨te2,pe2,h2⟩,h3,h4⟩:=h
 exact ⟨⟨te,pe,pw_cell_below hb h1⟩,⟨te2,pe2,pw_cell_below hb h2⟩,var?_below hb pow10_named h4 h3,Nat.lt_of_lt_of_le h4 hb.size⟩
def IsS145 (w0 W:World) (g:Nat) (f0:ByteArray) (f1:Int):Prop:=W.heap[g]?=some (.cells #[.string f0,.int .i64 f1] 145 (0,0))∧w0.heap.size≤g
theorem IsS145.grown {w0 W:World} {g:Nat} {f0:ByteArray} {f1:Int} {W1:World} {row:Option Nat} (h:IsS145 w0 W g f0 f1) (hw:W.grownBy W1 row) (hne:some g≠row):IsS145 w0 W1 g f0 f1:=by
 obtain ⟨hb,hg⟩:=h
 exact ⟨blk_grown hb hw hne,hg⟩
theorem IsS145.below {w0 W:World} {g:Nat} {f0:ByteArray} {f1:Int} {W1:World} (h:IsS145 w0 W g f0 f1) (hw:Below W.heap.size W W1):IsS145 w0 W1 g f0 f1:=h.grown (grown_of_below hw none) J53
theorem IsS145.drewN {w0 W:World} {g:Nat} {f0:ByteArray} {f1:Int} (h:IsS145 w0 W g f0 f1) (m:Nat):IsS145 w0 (W.drewN m) g f0 f1:=h
theorem IsS145.drew {w0 W:World} {g:Nat} {f0:ByteArray} {f1:Int} (h:IsS145 w0 W g f0 f1):IsS145 w0 W.drew g f0 f1:=h
theorem IsS145.apart {w0 W:World} {g:Nat} {f0:ByteArray} {f1:Int} {α:Type} {d:Kd α} {e:Nat} {base:Nat} {ok:Nat→Prop} {v:Value} {xs:List α} (h:IsS145 w0 W g f0 f1) (ho:d.R e W base ok v xs) (ht:∀ q,q ∈ e :: d.E→q≠145):d.R e W base (fun k=>ok k∧k≠g) v xs:=by
 obtain ⟨hb,hg⟩:=h
 exact Kd.R_types ho hb ht
theorem IsS145.own_ne {w0 W:World} {g:Nat} {f0:ByteArray} {f1:Int} {α:Type} {d:Kd α} {e:Nat} {base:Nat} {ok:Nat→Prop} {v:Value} {xs:List α} (h:IsS145 w0 W g f0 f1) (ho:d.R e W base ok v xs) (ht:e≠145):some g≠v.ownBlock:=by
 obtain ⟨hb,hg⟩:=h
 exact Kd.R_ne ho hb ht
theorem IsS145.lt {w0 W:World} {g:Nat} {f0:ByteArray} {f1:Int} (h:IsS145 w0 W g f0 f1):g < W.heap.size:=by
 obtain ⟨hb,hg⟩:=h
 exact blk_lt hb
theorem IsS145.ge {w0 W:World} {g:Nat} {f0:ByteArray} {f1:Int} (h:IsS145 w0 W g f0 f1):w0.heap.size≤g:=by
 obtain ⟨hb,hg⟩:=h
 exact hg
theorem IsS145.far {w0 W:World} {g:Nat} {f0:ByteArray} {f1:Int} {p:Addr} (h:IsS145 w0 W g f0 f1) (hne:g≠p.block) (u:Value):IsS145 w0 (W.setCell p u) g f0 f1:=by
 obtain ⟨hb,hg⟩:=h
 exact ⟨blk_far hb hne u,hg⟩
theorem cellS145_0 {W:World} {g:Nat} {f0:ByteArray} {f1:Int} (h:W.heap[g]?=some (.cells #[.string f0,.int .i64 f1] 145 (0,0))):W.cell? ⟨g,0,none⟩=some (.string f0):=(blk_cell h 0).trans rfl
theorem cellS145_1 {W:World} {g:Nat} {f0:ByteArray} {f1:Int} (h:W.heap[g]?=some (.cells #[.string f0,.int .i64 f1] 145 (0,0))):W.cell? ⟨g,1,none⟩=some (.int .i64 f1):=(blk_cell h 1).trans rfl
theorem IsS145.set_1 {w0 W:World} {g:Nat} {f0:ByteArray} {f1:Int} (h:IsS145 w0 W g f0 f1) (x:Int):IsS145 w0 (W.setCell ⟨g,1,none⟩ (.int .i64 x)) g f0 x:=by
 obtain ⟨hb,hg⟩:=h
 exact ⟨by simpa using blk_set hb 1 (.int .i64 x),hg⟩
theorem IsS145.new (w0 W:World) (f0:ByteArray) (f1:Int) (hB:Below w0.heap.size w0 W):IsS145 w0 (W.alloc (.cells #[.string f0,.int .i64 f1] 145)) W.heap.size f0 f1:=⟨by simpa using heap_alloc_new W _,hB.size⟩
end Go.Proofs.YtddpjjhekhompaaGreatDoor.P
namespace Go.Proofs
open Go.Shelf Go.RowKit Go.Lib Go.Sort
def Tryz.lays137_ren:Go.Shelf.Ren:=⟨fun|137=>124|217=>150|266=>182|n=>n,fun|9=>9|5=>5|3=>3|n=>n,fun|n=>n⟩
theorem Tryz.lays137:Go.Proofs.Lays.n137 Tryz.prog Tryz.lays137_ren:={
 mixed:=by kernel_rfl
 f137:=Tryz.func124.trans (congrArg some J0)
 f217:=Tryz.func150.trans (congrArg some J0)
 f266:=Tryz.func182.trans (congrArg some J0)
 t3:=Tryz.underlying3
 a3:=Tryz.isAgg3
 z3:=Tryz.sizeOf3
 v3:=Tryz.zeroValue3
 t5:=Tryz.underlying5
 a5:=Tryz.isAgg5
 z5:=Tryz.sizeOf5
 v5:=Tryz.zeroValue5
 t9:=Tryz.underlying9
 a9:=Tryz.isAgg9
 z9:=Tryz.sizeOf9
 v9:=Tryz.zeroValue9 }
theorem Tryz.strings_IndexByte (s:ByteArray) (c:Int) (w:World) :
  Calls Tryz.prog 124 #[.string s,.int .u8 c] w fun e w'=>e = .returned (.int .i64 (Lib.indexByte s.data.toList c.toNat.toUInt8))∧w'=w:=Any.strings_IndexByte Tryz.lays137 s c w
def Tryz.lays219_ren:Go.Shelf.Ren:=⟨fun|219=>183|217=>150|225=>201|224=>202|267=>203|266=>182|314=>208|n=>n,fun|9=>9|3=>3|4=>4|5=>5|46=>198|146=>216|51=>215|n=>n,fun|1=>3|n=>n⟩
theorem Tryz.lays219:Go.Proofs.Lays.n219 Tryz.prog Tryz.lays219_ren:={
 mixed:=by kernel_rfl
 f217:=Tryz.func150.trans (congrArg some J0)
 f219:=Tryz.func183.trans (congrArg some J0)
 f224:=Tryz.func202.trans (congrArg some J0)
 f225:=Tryz.func201.trans (congrArg some J0)
 f266:=Tryz.func182.trans (congrArg some J0)
 f267:=Tryz.func203.trans (congrArg some J0)
 f314:=Tryz.func208.trans (congrArg some J0)
 t3:=Tryz.underlying3
 a3:=Tryz.isAgg3
 z3:=Tryz.sizeOf3
 v3:=Tryz.zeroValue3
 t4:=Tryz.underlying4
 a4:=Tryz.isAgg4
 z4:=Tryz.sizeOf4
 v4:=Tryz.zeroValue4
 t5:=Tryz.underlying5
 a5:=Tryz.isAgg5
 z5:=Tryz.sizeOf5
 v5:=Tryz.zeroValue5
 t9:=Tryz.underlying9
 a9:=Tryz.isAgg9
 z9:=Tryz.sizeOf9
 v9:=Tryz.zeroValue9
 t46:=Tryz.underlying198
 a46:=Tryz.isAgg198
 z46:=Tryz.sizeOf198
 v46:=Tryz.zeroValue198
 t51:=Tryz.underlying215
 a51:=Tryz.isAgg215
 z51:=Tryz.sizeOf215
 v51:=Tryz.zeroValue215
 t146:=Tryz.underlying216
 a146:=Tryz.isAgg216
 z146:=Tryz.sizeOf216
 v146:=Tryz.zeroValue216
 g1:=by kernel_rfl }
theorem Tryz.stringslite_Index_one (s:ByteArray) (c:UInt8) (w:World) :
  Calls Tryz.prog 183 #[.string s,.string ⟨#[c]⟩] w fun e w'=>e = .returned (.int .i64 (Lib.indexByte s.data.toList c))∧w'=w:=Any.stringslite_Index_one Tryz.lays219 s c w
def Tryz.laysM173_ren:Go.Shelf.Ren:=⟨fun|173=>97|246=>137|283=>158|284=>159|285=>160|286=>161|129=>171|317=>185|318=>186|319=>187|320=>188|337=>204|338=>205|n=>n,fun|2=>2|3=>3|9=>9|4=>4|171=>222|0=>0|53=>218|37=>84|5=>5|173=>225|212=>249|51=>215|20=>20|213=>250|46=>198|232=>269|233=>270|n=>n,fun|17=>0|18=>4|19=>5|n=>n⟩
theorem Tryz.laysM173:Go.Proofs.LaysM.n173 Tryz.prog Tryz.laysM173_ren:={
 mixed:=by kernel_rfl
 f129:=Tryz.func171.trans (congrArg some J0)
 f173:=Tryz.func97.trans (congrArg some J0)
 f246:=Tryz.func137.trans (congrArg some J0)
 f283:=Tryz.func158.trans (congrArg some J0)
 f284:=Tryz.func159.trans (congrArg some J0)
 f285:=Tryz.func160.trans (congrArg some J0)
 f286:=Tryz.func161.trans (congrArg some J0)
 f317:=Tryz.func185.trans (congrArg some J0)
 f318:=Tryz.func186.trans (congrArg some J0)
 f319:=Tryz.func187.trans (congrArg some J0)
 f320:=Tryz.func188.trans (congrArg some J0)
 f337:=Tryz.func204.trans (congrArg some J0)
 f338:=Tryz.func205.trans (congrArg some J0)
 t0:=Tryz.underlying0
 a0:=Tryz.isAgg0
 z0:=Tryz.sizeOf0
 v0:=Tryz.zeroValue0
 t2:=Tryz.underlying2
 a2:=Tryz.isAgg2
 z2:=Tryz.sizeOf2
 v2:=Tryz.zeroValue2
 t3:=Tryz.underlying3
 a3:=Tryz.isAgg3
 z3:=Tryz.sizeOf3
 v3:=Tryz.zeroValue3
 t4:=Tryz.underlying4
 a4:=Tryz.isAgg4
 z4:=Tryz.sizeOf4
 v4:=Tryz.zeroValue4
 t5:=Tryz.underlying5
 a5:=Tryz.isAgg5
 z5:=Tryz.sizeOf5
 v5:=Tryz.zeroValue5
 t9:=Tryz.underlying9
 a9:=Tryz.isAgg9
 z9:=Tryz.sizeOf9
 v9:=Tryz.zeroValue9
 t20:=Tryz.underlying20
 a20:=Tryz.isAgg20
 z20:=Tryz.sizeOf20
 v20:=Tryz.zeroValue20
 t37:=Tryz.underlying84
 a37:=Tryz.isAgg84
 z37:=Tryz.sizeOf84
 v37:=Tryz.zeroValue84
 t46:=Tryz.underlying198
 a46:=Tryz.isAgg198
 z46:=Tryz.sizeOf198
 v46:=Tryz.zeroValue198
 t51:=Tryz.underlying215
 a51:=Tryz.isAgg215
 z51:=Tryz.sizeOf215
 v51:=Tryz.zeroValue215
 t53:=Tryz.underlying218
 a53:=Tryz.isAgg218
 z53:=Tryz.sizeOf218
 v53:=Tryz.zeroValue218
 t171:=Tryz.underlying222
 a171:=Tryz.isAgg222
 z171:=Tryz.sizeOf222
 v171:=Tryz.zeroValue222
 t173:=Tryz.underlying225
 a173:=Tryz.isAgg225
 z173:=Tryz.sizeOf225
 v173:=Tryz.zeroValue225
 t212:=Tryz.underlying249
 a212:=Tryz.isAgg249
 z212:=Tryz.sizeOf249
 v212:=Tryz.zeroValue249
 t213:=Tryz.underlying250
 a213:=Tryz.isAgg250
 z213:=Tryz.sizeOf250
 t232:=Tryz.underlying269
 a232:=Tryz.isAgg269
 z232:=Tryz.sizeOf269
 v232:=Tryz.zeroValue269
 t233:=Tryz.underlying270
 a233:=Tryz.isAgg270
 z233:=Tryz.sizeOf270
 v233:=Tryz.zeroValue270
 g17:=by kernel_rfl
 g18:=by kernel_rfl
 g19:=by kernel_rfl
 i0:=by kernel_rfl
 i2:=by kernel_rfl
 i3:=by kernel_rfl
 i4:=by kernel_rfl
 i5:=by kernel_rfl
 i9:=by kernel_rfl
 i20:=by kernel_rfl
 i37:=by kernel_rfl
 i46:=by kernel_rfl
 i51:=by kernel_rfl
 i53:=by kernel_rfl
 i171:=by kernel_rfl
 i173:=by kernel_rfl
 i212:=by kernel_rfl
 i232:=by kernel_rfl
 i233:=by kernel_rfl
 m17:=by kernel_rfl
 m18:=by kernel_rfl
 m19:=by kernel_rfl }
theorem Tryz.strconv_FormatInt_10 (n : Int) (h0 : -9223372036854775808 ≤ n) (h1 : n ≤ 9223372036854775807) (w : World) (htab : Lib.TabIs Tryz.prog w "internal/strconv.uint64pow10" .u64 Lib.pow10Tab) :
  Calls Tryz.prog 97 #[.int .i64 n,.int .i64 10] w fun e w'=>e = .returned (.string ⟨(Lib.itoa n).toArray⟩)∧∃ k os,w'=grow (w.drewN k) os:=Any.strconv_FormatInt_10 Tryz.laysM173 n h0 h1 w htab
def Tryz.laysC174_ren:Go.Shelf.Ren:=⟨fun|174=>122|247=>148|245=>149|287=>177|279=>178|280=>179|281=>180|282=>181|321=>196|322=>197|316=>198|171=>200|205=>199|243=>207|246=>137|283=>158|284=>159|285=>160|286=>161|129=>171|317=>185|318=>186|319=>187|320=>188|337=>204|338=>205|n=>n,fun|9=>9|3=>3|2=>2|75=>162|85=>190|4=>4|167=>239|5=>5|53=>218|175=>240|46=>198|168=>242|37=>84|0=>0|210=>260|21=>21|127=>167|145=>267|143=>265|171=>222|173=>225|212=>249|51=>215|20=>20|213=>250|232=>269|233=>270|80=>94|n=>n,fun|15=>1|16=>2|17=>0|18=>4|19=>5|n=>n⟩
theorem Tryz.laysC174:Go.Proofs.LaysC.n174 Tryz.prog Tryz.laysC174_ren:={
 mixed:=by kernel_rfl
 f129:=Tryz.func171.trans (congrArg some J0)
 f171:=Tryz.func200.trans (congrArg some J0)
 f174:=Tryz.func122.trans (congrArg some J0)
 f205:=Tryz.func199.trans (congrArg some J0)
 f243:=Tryz.func207.trans (congrArg some J0)
 f245:=Tryz.func149.trans (congrArg some J0)
 f246:=Tryz.func137.trans (congrArg some J0)
 f247:=Tryz.func148.trans (congrArg some J0)
 f279:=Tryz.func178.trans (congrArg some J0)
 f280:=Tryz.func179.trans (congrArg some J0)
 f281:=Tryz.func180.trans (congrArg some J0)
 f282:=Tryz.func181.trans (congrArg some J0)
 f283:=Tryz.func158.trans (congrArg some J0)
 f284:=Tryz.func159.trans (congrArg some J0)
 f285:=Tryz.func160.trans (congrArg some J0)
 f286:=Tryz.func161.trans (congrArg some J0)
 f287:=Tryz.func177.trans (congrArg some J0)
 f316:=Tryz.func198.trans (congrArg some J0)
 f317:=Tryz.func185.trans (congrArg some J0)
 f318:=Tryz.func186.trans (congrArg some J0)
 f319:=Tryz.func187.trans (congrArg some J0)
 f320:=Tryz.func188.trans (congrArg some J0)
 f321:=Tryz.func196.trans (congrArg some J0)
 f322:=Tryz.func197.trans (congrArg some J0)
 f337:=Tryz.func204.trans (congrArg some J0)
 f338:=Tryz.func205.trans (congrArg some J0)
 t0:=Tryz.underlying0
 a0:=Tryz.isAgg0
 z0:=Tryz.sizeOf0
 v0:=Tryz.zeroValue0
 t2:=Tryz.underlying2
 a2:=Tryz.isAgg2
 z2:=Tryz.sizeOf2
 v2:=Tryz.zeroValue2
 t3:=Tryz.underlying3
 a3:=Tryz.isAgg3
 z3:=Tryz.sizeOf3
 v3:=Tryz.zeroValue3
 t4:=Tryz.underlying4
 a4:=Tryz.isAgg4
 z4:=Tryz.sizeOf4
 v4:=Tryz.zeroValue4
 t5:=Tryz.underlying5
 a5:=Tryz.isAgg5
 z5:=Tryz.sizeOf5
 v5:=Tryz.zeroValue5
 t9:=Tryz.underlying9
 a9:=Tryz.isAgg9
 z9:=Tryz.sizeOf9
 v9:=Tryz.zeroValue9
 t20:=Tryz.underlying20
 a20:=Tryz.isAgg20
 z20:=Tryz.sizeOf20
 v20:=Tryz.zeroValue20
 t21:=Tryz.underlying21
 a21:=Tryz.isAgg21
 z21:=Tryz.sizeOf21
 v21:=Tryz.zeroValue21
 t37:=Tryz.underlying84
 a37:=Tryz.isAgg84
 z37:=Tryz.sizeOf84
 v37:=Tryz.zeroValue84
 t46:=Tryz.underlying198
 a46:=Tryz.isAgg198
 z46:=Tryz.sizeOf198
 v46:=Tryz.zeroValue198
 t51:=Tryz.underlying215
 a51:=Tryz.isAgg215
 z51:=Tryz.sizeOf215
 v51:=Tryz.zeroValue215
 t53:=Tryz.underlying218
 a53:=Tryz.isAgg218
 z53:=Tryz.sizeOf218
 v53:=Tryz.zeroValue218
 t75:=Tryz.underlying162
 a75:=Tryz.isAgg162
 z75:=Tryz.sizeOf162
 v75:=Tryz.zeroValue162
 t85:=Tryz.underlying190
 a85:=Tryz.isAgg190
 z85:=Tryz.sizeOf190
 v85:=Tryz.zeroValue190
 t127:=Tryz.underlying167
 a127:=Tryz.isAgg167
 z127:=Tryz.sizeOf167
 v127:=Tryz.zeroValue167
 t143:=Tryz.underlying265
 a143:=Tryz.isAgg265
 z143:=Tryz.sizeOf265
 v143:=Tryz.zeroValue265
 t145:=Tryz.underlying267
 a145:=Tryz.isAgg267
 z145:=Tryz.sizeOf267
 v145:=Tryz.zeroValue267
 t167:=Tryz.underlying239
 a167:=Tryz.isAgg239
 z167:=Tryz.sizeOf239
 v167:=Tryz.zeroValue239
 t168:=Tryz.underlying242
 a168:=Tryz.isAgg242
 z168:=Tryz.sizeOf242
 v168:=Tryz.zeroValue242
 t171:=Tryz.underlying222
 a171:=Tryz.isAgg222
 z171:=Tryz.sizeOf222
 v171:=Tryz.zeroValue222
 t173:=Tryz.underlying225
 a173:=Tryz.isAgg225
 z173:=Tryz.sizeOf225
 v173:=Tryz.zeroValue225
 t175:=Tryz.underlying240
 a175:=Tryz.isAgg240
 z175:=Tryz.sizeOf240
 v175:=Tryz.zeroValue240
 t210:=Tryz.underlying260
 a210:=Tryz.isAgg260
 z210:=Tryz.sizeOf260
 v210:=Tryz.zeroValue260
 t212:=Tryz.underlying249
 a212:=Tryz.isAgg249
 z212:=Tryz.sizeOf249
 v212:=Tryz.zeroValue249
 t213:=Tryz.underlying250
 a213:=Tryz.isAgg250
 z213:=Tryz.sizeOf250
 t232:=Tryz.underlying269
 a232:=Tryz.isAgg269
 z232:=Tryz.sizeOf269
 v232:=Tryz.zeroValue269
 t233:=Tryz.underlying270
 a233:=Tryz.isAgg270
 z233:=Tryz.sizeOf270
 v233:=Tryz.zeroValue270
 g15:=by kernel_rfl
 g16:=by kernel_rfl
 g17:=by kernel_rfl
 g18:=by kernel_rfl
 g19:=by kernel_rfl
 t80:=Tryz.underlying94
 a80:=Tryz.isAgg94
 z80:=Tryz.sizeOf94
 v80:=Tryz.zeroValue94
 i0:=by kernel_rfl
 i2:=by kernel_rfl
 i3:=by kernel_rfl
 i4:=by kernel_rfl
 i5:=by kernel_rfl
 i9:=by kernel_rfl
 i20:=by kernel_rfl
 i21:=by kernel_rfl
 i37:=by kernel_rfl
 i46:=by kernel_rfl
 i51:=by kernel_rfl
 i53:=by kernel_rfl
 i75:=by kernel_rfl
 i80:=by kernel_rfl
 i85:=by kernel_rfl
 i127:=by kernel_rfl
 i143:=by kernel_rfl
 i145:=by kernel_rfl
 i167:=by kernel_rfl
 i168:=by kernel_rfl
 i171:=by kernel_rfl
 i173:=by kernel_rfl
 i175:=by kernel_rfl
 i210:=by kernel_rfl
 i212:=by kernel_rfl
 i232:=by kernel_rfl
 i233:=by kernel_rfl
 m15:=by kernel_rfl
 m16:=by kernel_rfl
 m17:=by kernel_rfl
 m18:=by kernel_rfl
 m19:=by kernel_rfl
 c0:=by kernel_rfl
 c2:=by kernel_rfl
 c3:=by kernel_rfl
 c4:=by kernel_rfl
 c5:=by kernel_rfl
 c9:=by kernel_rfl
 c20:=by kernel_rfl
 c21:=by kernel_rfl
 c37:=by kernel_rfl
 c46:=by kernel_rfl
 c51:=by kernel_rfl
 c53:=by kernel_rfl
 c75:=by kernel_rfl
 c80:=by kernel_rfl
 c85:=by kernel_rfl
 c127:=by kernel_rfl
 c143:=by kernel_rfl
 c145:=by kernel_rfl
 c167:=by kernel_rfl
 c168:=by kernel_rfl
 c171:=by kernel_rfl
 c173:=by kernel_rfl
 c175:=by kernel_rfl
 c210:=by kernel_rfl
 c212:=by kernel_rfl
 c213:=by kernel_rfl
 c232:=by kernel_rfl
 c233:=by kernel_rfl }
theorem Tryz.strconv_ParseInt_10_at64_ok (s:ByteArray) (hmax:s.size≤9223372036854775806) (v:Int) (h:Lib.parseIntB 64 s.data.toList = .ok v) (w:World) :
  Calls Tryz.prog 122 #[.string s,.int .i64 10,.int .i64 64] w fun e w'=>e = .returned (.tuple #[.int .i64 v,.nilIface])∧(w'=w∨∃ t,w'=Lib.bytesWorld w 5 t):=Any.strconv_ParseInt_10_at64_ok Tryz.laysC174 s hmax v h w
theorem Tryz.strconv_ParseInt_10_at64_syntax (s:ByteArray) (hlim:s.size≤281474976710656) (h:(∀ v,Lib.parseIntB 64 s.data.toList≠.ok v)∧Lib.parseIntB 64 s.data.toList≠.range) (ev:Value) (w:World) (hv:w.cell? ⟨1,0,none⟩=some ev) (hev:ev = .nilIface∨∃ te pe,ev = .iface te pe) :
  Calls Tryz.prog 122 #[.string s,.int .i64 10,.int .i64 64] w fun e w'=>∃ N,e = .returned (.tuple #[.int .i64 (0),.iface 242 (.pointer (some ⟨N,0,none⟩))])∧w.heap.size≤N∧w'.heap[N]?=some (.cells #[.string ⟨#[80,97,114,115,101,73,110,116]⟩,.string s,ev] 260 (0,0))∧Below w.heap.size w w':=Any.strconv_ParseInt_10_at64_syntax Tryz.laysC174 s hlim (by cases hp:Lib.parseIntB 64 s.data.toList <;> first|rfl|exact absurd hp (h.1 _)|exact absurd hp h.2) ev w hv hev
theorem Tryz.strconv_ParseInt_10_at64_range (s:ByteArray) (hlim:s.size≤281474976710656) (h:Lib.parseIntB 64 s.data.toList = .range) (ev:Value) (w:World) (hv:w.cell? ⟨2,0,none⟩=some ev) (hev:ev = .nilIface∨∃ te pe,ev = .iface te pe) :
  Calls Tryz.prog 122 #[.string s,.int .i64 10,.int .i64 64] w fun e w'=>∃ N,e = .returned (.tuple #[.int .i64 (Lib.intSat 64 s.data.toList),.iface 242 (.pointer (some ⟨N,0,none⟩))])∧w.heap.size≤N∧w'.heap[N]?=some (.cells #[.string ⟨#[80,97,114,115,101,73,110,116]⟩,.string s,ev] 260 (0,0))∧Below w.heap.size w w':=Any.strconv_ParseInt_10_at64_range Tryz.laysC174 s hlim h ev w hv hev
end Go.Proofs
namespace Go.Proofs.YtddpjjhekhompaaGreatDoor.P
open Go.RowKit Go.Proofs.YtddpjjhekhompaaGreatDoorW.PrintWords Go.Proofs.YtddpjjhekhompaaGreatDoorW.PrintLast Go.Proofs.YtddpjjhekhompaaGreatDoorW.PrintMore
attribute [local go_sem] max2_int max_two
set_option linter.unusedVariables false
set_option linter.unusedSimpArgs false
def strings_IndexByte.f (a0:ByteArray) (a1:Int):Option (Int):=some (Lib.indexByte a0.data.toList a1.toNat.toUInt8)
theorem strings_IndexByte.calls (a0:ByteArray) (a1:Int) (r:Int) (w:World) (h:strings_IndexByte.f a0 a1=some r) :
  Calls Tryz.prog 124 #[.string a0,.int .u8 a1] w fun e w'=>e = .returned (.int .i64 r)∧Drawn0 w w':=by
 obtain rfl:=Option.some.inj h
 refine (Tryz.strings_IndexByte a0 a1 w).mono ?_
 rintro e w' ⟨rfl,rfl⟩
 exact ⟨rfl,Drawn0.refl _⟩
def cutAt (a0:ByteArray) (c:UInt8):ByteArray × ByteArray × Bool :=
 if Lib.indexByte a0.data.toList c < 0 then (a0,⟨#[]⟩,false)
 else (a0.extract 0 (Lib.indexByte a0.data.toList c).toNat,a0.extract ((Lib.indexByte a0.data.toList c).toNat + 1) a0.size,true)
def strings_Cut.f (a0:ByteArray) (a1:ByteArray):Option (ByteArray × ByteArray × Bool) :=
 if a0.size≤140737488351232 then match a1.data.toList with
 | [c]=>some (cutAt a0 c)
 | _=>none
 else none
theorem indexByte_range (l:List UInt8) (c:UInt8) : -1≤Lib.indexByte l c∧Lib.indexByte l c < l.length:=by
 induction l with
 | nil=>simp [Lib.indexByte]
 | cons b l ih =>
  unfold Lib.indexByte
  split
  ·simp
  ·split
   ·simp;omega
   ·rename_i h;simp at h;simp only [List.length_cons];omega
set_option maxHeartbeats 1000000 in
theorem stringslite_Cut_one (a0:ByteArray) (c:UInt8) (w:World) (hs:a0.size≤140737488351232) :
  Calls Tryz.prog 152 #[.string a0,.string ⟨#[c]⟩] w fun e w'=>e = .returned (.tuple #[.string (cutAt a0 c).1,.string (cutAt a0 c).2.1,.bool (cutAt a0 c).2.2])∧Drawn0 w w':=by
 have hr:=indexByte_range a0.data.toList c
 have hl:a0.data.toList.length=a0.size:=by simp
 rw [hl] at hr
 by_cases hneg:Lib.indexByte a0.data.toList c < 0
 ·have E:cutAt a0 c=(a0,⟨#[]⟩,false):=by unfold cutAt;rw [if_pos hneg]
  rw [E]
  have H:=Y0 (fun W=>Tryz.stringslite_Index_one a0 c W)
  generalize Lib.indexByte a0.data.toList c=i at *
  clear E
  have hd:decide (0≤i)=false:=decide_eq_false J7
  go_enter Tryz.func152,Tryz.ntmps152
  go_wp2_with (go_at_call 183;refine (H.out _).mono ?_;rintro e w' ⟨rfl,rfl⟩)
  go_ret3
  exact ⟨rfl,Drawn0.refl _⟩
 ·have E:cutAt a0 c=(a0.extract 0 (Lib.indexByte a0.data.toList c).toNat,a0.extract ((Lib.indexByte a0.data.toList c).toNat + 1) a0.size,true):=by unfold cutAt;rw [if_neg hneg]
  rw [E]
  have H:=Y0 (fun W=>Tryz.stringslite_Index_one a0 c W)
  generalize Lib.indexByte a0.data.toList c=i at *
  clear E
  obtain ⟨n,rfl⟩:=Int.eq_ofNat_of_zero_le (show 0≤i by omega)
  have hd:decide (0≤(n:Int))=true:=decide_eq_true J7
  have g1:(n:Int)≤(a0.size:Int):=by omega
  have g2:(n:Int) + 1≤(a0.size:Int):=by omega
  have g3:n + 1≤a0.size:=by omega
  have g4:n≤a0.size:=by omega
  go_enter Tryz.func152,Tryz.ntmps152
  go_wp2_with (go_at_call 183;refine (H.out _).mono ?_;rintro e w' ⟨rfl,rfl⟩)
  go_quiet (fail)
  go_wp2
  go_ret3
  exact ⟨J53,by exact Drawn0.step (Drawn0.refl _) _⟩
theorem strings_Cut.calls (a0:ByteArray) (a1:ByteArray) (r1:ByteArray) (r2:ByteArray) (r3:Bool) (w:World) (h:strings_Cut.f a0 a1=some (r1,r2,r3)) :
  Calls Tryz.prog 127 #[.string a0,.string a1] w fun e w'=>e = .returned (.tuple #[.string r1,.string r2,.bool r3])∧Drawn0 w w':=by
 unfold strings_Cut.f at h
 split at h
 ·rename_i hs
  split at h
  ·rename_i c hc
   have e:a1=⟨#[c]⟩:=by cases a1 with|mk d=>cases d;simp_all
   subst e
   have hh:=Option.some.inj h
   have h1:(cutAt a0 c).1=r1:=by rw [hh]
   have h2:(cutAt a0 c).2.1=r2:=by rw [hh]
   have h3:(cutAt a0 c).2.2=r3:=by rw [hh]
   clear h hh hc
   have H:=fun W=>stringslite_Cut_one a0 c W hs
   rw [h1,h2,h3] at H
   clear h1 h2 h3
   go_enter Tryz.func127,Tryz.ntmps127
   go_wp2_with (go_at_call 152;refine (H _).mono ?_;rintro e w' ⟨rfl,hd⟩)
   go_ret3
   exact ⟨rfl,hd⟩
  ·cases h
 ·cases h
mutual
def token_of.j0:Nat→Int→Bool→Option (Int)
 | 0,_,_=>none
 | k + 1,x0,x3=>if x3=true then (token_of.j1 k x0 x3) else (if x0 ≥ 65 then (if x0≤90 then (token_of.j1 k x0 (decide (x0≤90))) else (token_of.j1 k x0 (x0 == 95))) else (token_of.j1 k x0 (x0 == 95)))
def token_of.j1:Nat→Int→Bool→Option (Int)
 | 0,_,_=>none
 | k + 1,x0,x3=>if x3=true then (some 0) else (if x0 ≥ 48 then (token_of.j2 k x0 (decide (x0≤57))) else (token_of.j2 k x0 false))
def token_of.j2:Nat→Int→Bool→Option (Int)
 | 0,_,_=>none
 | k + 1,x0,x18=>if x18=true then (token_of.j3 k x0 x18) else (token_of.j3 k x0 (x0 == 45))
def token_of.j3:Nat→Int→Bool→Option (Int)
 | 0,_,_=>none
 | k + 1,x0,x18=>if x18=true then (some 1) else (if x0=34 then (some 2) else ((strings_IndexByte.f (⟨#[123,125,40,41,91,93,60,62,61,59,44,46]⟩:ByteArray) x0).bind fun t101=>(if t101 ≥ 0 then (some 3) else (some 4))))
end
def token_of.f (k:Nat) (a0:Int):Option (Int):=if a0 ≥ 97 then (token_of.j0 k a0 (decide (a0≤122))) else (token_of.j0 k a0 false)
set_option maxHeartbeats 8000000 in
set_option maxRecDepth 100000 in
theorem token_of.calls (k:Nat) (a0:Int) (r:Int) (w:World) (h:token_of.f k a0=some r) :
  Calls Tryz.prog 87 #[.int .u8 a0] w fun e w'=>e = .returned (.int .i64 r)∧Drawn0 w w':=by
 have H:(if a0 ≥ 97 then (token_of.j0 k a0 (decide (a0≤122))) else (token_of.j0 k a0 false))=some r:=h
 clear h
 have HC2:=Y0 H
 clear H
 go_enter Tryz.func87,Tryz.ntmps87
 go_upto_region 1 with (fail)
 go_cut [3] (fun v3 wc=>∃ (kq:Nat) (x3_1:Bool),v3 = .bool x3_1∧Aside0 (token_of.j0 kq a0 x3_1=some r)∧Aside0 (kq≤k)∧Drawn0 w wc)
 case first =>
  have H:=HC2.out
  clear HC2
  by_cases c3:a0 ≥ 97
  rotate_left
  ·rw [if_neg c3] at H
   have c3b0:decide (97≤a0)=false:=decide_eq_false c3
   clear c3
   (first|rw [c3b0]|(simp only [i64_w];rw [c3b0])|skip)
   have H':=Y0 H
   clear H
   go_wp2
   go_meet
   case rel=>exact ⟨_,(false),J12,H',⟨J79⟩,J17⟩
  rw [if_pos c3] at H
  have c3b0:decide (97≤a0)=true:=decide_eq_true c3
  clear c3
  (first|rw [c3b0]|(simp only [i64_w];rw [c3b0])|skip)
  have H':=Y0 H
  clear H
  go_wp2
  go_meet
  case rel=>exact ⟨_,(decide (a0≤122)),J12,H',⟨J79⟩,J17⟩
 case rest =>
  clear HC2
  obtain ⟨kq,x3_1,rfl,HA,HJ1,⟨mc1,rfl⟩⟩:=hcut
  cases kq with
  | zero=>exact absurd HA.out (by simp [token_of.j0])
  | succ kj1 =>
   have H:=HA.out
   clear HA
   simp only [token_of.j0] at H
   have HC4:=Y0 H
   clear H
   go_upto_if 3 with (fail)
   go_cut [3] (fun v3 wc=>∃ (kq:Nat) (x3_3:Bool),v3 = .bool x3_3∧Aside0 (token_of.j1 kq a0 x3_3=some r)∧Aside0 (kq≤kj1)∧Drawn0 w wc)
   case first =>
    have H:=HC4.out
    clear HC4
    by_cases c5:x3_1=true
    ·subst c5
     rw [if_pos rfl] at H
     have H':=Y0 H
     clear H
     go_wp2
     go_meet
     case rel=>exact ⟨_,(true),J12,H',⟨J128⟩,J17⟩
    replace c5:=Bool.eq_false_iff.mpr c5
    subst c5
    rw [if_neg (show ¬ (false=true) by decide)] at H
    by_cases c6:a0 ≥ 65
    rotate_left
    ·rw [if_neg c6] at H
     have c6b0:decide (65≤a0)=false:=decide_eq_false c6
     clear c6
     (first|rw [c6b0]|(simp only [i64_w];rw [c6b0])|skip)
     have H':=Y0 H
     clear H
     go_wp2
     go_meet
     case rel=>exact ⟨_,((a0 == 95)),J12,H',⟨J128⟩,J17⟩
    rw [if_pos c6] at H
    have c6b0:decide (65≤a0)=true:=decide_eq_true c6
    clear c6
    (first|rw [c6b0]|(simp only [i64_w];rw [c6b0])|skip)
    by_cases c7:a0≤90
    rotate_left
    ·rw [if_neg c7] at H
     have c7b0:decide (a0≤90)=false:=decide_eq_false c7
     clear c7
     have H':=Y0 H
     clear H
     go_wp2
     go_meet
     case rel=>exact ⟨_,((a0 == 95)),J12,H',⟨J128⟩,J17⟩
    rw [if_pos c7] at H
    have c7b0:decide (a0≤90)=true:=decide_eq_true c7
    clear c7
    have H':=Y0 H
    clear H
    go_wp2
    go_meet
    case rel=>exact ⟨_,(decide (a0≤90)),J12,H',⟨J128⟩,J17⟩
   case rest =>
    clear HC4
    obtain ⟨kq,x3_3,rfl,HA,HJ3,⟨mc3,rfl⟩⟩:=hcut
    cases kq with
    | zero=>exact absurd HA.out (by simp [token_of.j1])
    | succ kj3 =>
     have H:=HA.out
     clear HA
     simp only [token_of.j1] at H
     by_cases c8:x3_3=true
     ·subst c8
      rw [if_pos rfl] at H
      obtain rfl:=Option.some.inj H
      go_wp2
      go_ret
      exact ⟨J12,J17⟩
     replace c8:=Bool.eq_false_iff.mpr c8
     subst c8
     rw [if_neg (show ¬ (false=true) by decide)] at H
     have HC9:=Y0 H
     clear H
     go_upto_region 5 with (fail)
     go_cut [18] (fun v18 wc=>∃ (kq:Nat) (x18_8:Bool),v18 = .bool x18_8∧Aside0 (token_of.j2 kq a0 x18_8=some r)∧Aside0 (kq≤kj3)∧Drawn0 w wc)
     case first =>
      have H:=HC9.out
      clear HC9
      by_cases c10:a0 ≥ 48
      rotate_left
      ·rw [if_neg c10] at H
       have c10b0:decide (48≤a0)=false:=decide_eq_false c10
       clear c10
       (first|rw [c10b0]|(simp only [i64_w];rw [c10b0])|skip)
       have H':=Y0 H
       clear H
       go_wp2
       go_meet
       case rel=>exact ⟨_,(false),J12,H',⟨J160⟩,J17⟩
      rw [if_pos c10] at H
      have c10b0:decide (48≤a0)=true:=decide_eq_true c10
      clear c10
      (first|rw [c10b0]|(simp only [i64_w];rw [c10b0])|skip)
      have H':=Y0 H
      clear H
      go_wp2
      go_meet
      case rel=>exact ⟨_,(decide (a0≤57)),J12,H',⟨J160⟩,J17⟩
     case rest =>
      clear HC9
      obtain ⟨kq,x18_8,rfl,HA,HJ8,⟨mc8,rfl⟩⟩:=hcut
      cases kq with
      | zero=>exact absurd HA.out (by simp [token_of.j2])
      | succ kj8 =>
       have H:=HA.out
       clear HA
       simp only [token_of.j2] at H
       have HC11:=Y0 H
       clear H
       go_upto_if 18 with (fail)
       go_cut [18] (fun v18 wc=>∃ (kq:Nat) (x18_10:Bool),v18 = .bool x18_10∧Aside0 (token_of.j3 kq a0 x18_10=some r)∧Aside0 (kq≤kj8)∧Drawn0 w wc)
       case first =>
        have H:=HC11.out
        clear HC11
        by_cases c12:x18_8=true
        ·subst c12
         rw [if_pos rfl] at H
         have H':=Y0 H
         clear H
         go_wp2
         go_meet
         case rel=>exact ⟨_,(true),J12,H',⟨J153⟩,J17⟩
        replace c12:=Bool.eq_false_iff.mpr c12
        subst c12
        rw [if_neg (show ¬ (false=true) by decide)] at H
        have H':=Y0 H
        clear H
        go_wp2
        go_meet
        case rel=>exact ⟨_,((a0 == 45)),J12,H',⟨J153⟩,J17⟩
       case rest =>
        clear HC11
        obtain ⟨kq,x18_10,rfl,HA,HJ10,⟨mc10,rfl⟩⟩:=hcut
        cases kq with
        | zero=>exact absurd HA.out (by simp [token_of.j3])
        | succ kj10 =>
         have H:=HA.out
         clear HA
         simp only [token_of.j3] at H
         by_cases c13:x18_10=true
         ·subst c13
          rw [if_pos rfl] at H
          obtain rfl:=Option.some.inj H
          go_wp2
          go_ret
          exact ⟨J12,J17⟩
         replace c13:=Bool.eq_false_iff.mpr c13
         subst c13
         rw [if_neg (show ¬ (false=true) by decide)] at H
         by_cases c14:a0=34
         ·rw [if_pos c14] at H
          have c14b0:(a0 == 34)=true:=beq_iff_eq.mpr c14
          have c14b1:(a0 != 34)=false:=bne_eq_false_iff_eq.mpr c14
          clear c14
          obtain rfl:=Option.some.inj H
          go_wp2
          go_ret
          exact ⟨J12,J17⟩
         rw [if_neg c14] at H
         have c14b0:(a0 == 34)=false:=beq_eq_false_iff_ne.mpr c14
         have c14b1:(a0 != 34)=true:=bne_iff_ne.mpr c14
         replace H:=Y17.mp H
         obtain ⟨t101,A150,H⟩:=H
         try dsimp only at H
         have A15:=Y0 A150
         clear A150
         by_cases c16:t101 ≥ 0
         ·rw [if_pos c16] at H
          have c16b0:decide (0≤t101)=true:=decide_eq_true c16
          clear c16
          obtain rfl:=Option.some.inj H
          go_wp2_with (first|((with_reducible refine gate_callee (f:=124) rfl ?_);refine goesL_ (some 32) rfl rfl Tryz.func124 J0 rfl #[.string (⟨#[123,125,40,41,91,93,60,62,61,59,44,46]⟩:ByteArray),.int .u8 a0] rfl J1 ?_;(with_reducible refine (strings_IndexByte.calls (⟨#[123,125,40,41,91,93,60,62,61,59,44,46]⟩:ByteArray) a0 t101 _ A15.out).mono ?_);rintro e w' ⟨rfl,⟨nd,rfl⟩⟩;refine ⟨_,rfl,?_⟩))
          go_ret
          exact ⟨J12,J17⟩
         rw [if_neg c16] at H
         have c16b0:decide (0≤t101)=false:=decide_eq_false c16
         clear c16
         obtain rfl:=Option.some.inj H
         go_wp2_with (first|((with_reducible refine gate_callee (f:=124) rfl ?_);refine goesL_ (some 32) rfl rfl Tryz.func124 J0 rfl #[.string (⟨#[123,125,40,41,91,93,60,62,61,59,44,46]⟩:ByteArray),.int .u8 a0] rfl J1 ?_;(with_reducible refine (strings_IndexByte.calls (⟨#[123,125,40,41,91,93,60,62,61,59,44,46]⟩:ByteArray) a0 t101 _ A15.out).mono ?_);rintro e w' ⟨rfl,⟨nd,rfl⟩⟩;refine ⟨_,rfl,?_⟩))
         go_ret
         exact ⟨J12,J17⟩
def token_reader_name_1.f (k:Nat) (a0:Int):Option (Bool):=(token_of.f k a0).bind fun t102=>(if t102=0 then (some true) else ((token_of.f k a0).bind fun t103=>(if t103=1 then (some (a0 != 45)) else (some false))))
set_option maxHeartbeats 8000000 in
set_option maxRecDepth 100000 in
theorem token_reader_name_1.calls (k:Nat) (a0:Int) (r:Bool) (w:World) (h:token_reader_name_1.f k a0=some r) :
  Calls Tryz.prog 120 #[.int .u8 a0] w fun e w'=>e = .returned (.bool r)∧Drawn0 w w':=by
 have H:((token_of.f k a0).bind fun t102=>(if t102=0 then (some true) else ((token_of.f k a0).bind fun t103=>(if t103=1 then (some (a0 != 45)) else (some false)))))=some r:=h
 clear h
 replace H:=Y17.mp H
 obtain ⟨t102,A20,H⟩:=H
 try dsimp only at H
 have A2:=Y0 A20
 clear A20
 by_cases c3:t102=0
 ·rw [if_pos c3] at H
  have c3b0:(t102 == 0)=true:=beq_iff_eq.mpr c3
  have c3b1:(t102 != 0)=false:=bne_eq_false_iff_eq.mpr c3
  clear c3
  obtain rfl:=Option.some.inj H
  go_enter Tryz.func120,Tryz.ntmps120
  go_wp2_with (first|((with_reducible refine gate_callee (f:=87) rfl ?_);refine goesL_ (some 4) rfl rfl Tryz.func87 J0 rfl #[.int .u8 a0] rfl J1 ?_;(with_reducible refine (token_of.calls k a0 t102 _ A2.out).mono ?_);rintro e w' ⟨rfl,⟨nd,rfl⟩⟩;refine ⟨_,rfl,?_⟩))
  go_ret
  exact ⟨J12,J17⟩
 rw [if_neg c3] at H
 have c3b0:(t102 == 0)=false:=beq_eq_false_iff_ne.mpr c3
 have c3b1:(t102 != 0)=true:=bne_iff_ne.mpr c3
 replace H:=Y17.mp H
 obtain ⟨t103,A40,H⟩:=H
 try dsimp only at H
 have A4:=Y0 A40
 clear A40
 by_cases c5:t103=1
 rotate_left
 ·rw [if_neg c5] at H
  have c5b0:(t103 == 1)=false:=beq_eq_false_iff_ne.mpr c5
  have c5b1:(t103 != 1)=true:=bne_iff_ne.mpr c5
  obtain rfl:=Option.some.inj H
  go_enter Tryz.func120,Tryz.ntmps120
  go_wp2_with (first|((with_reducible refine gate_callee (f:=87) rfl ?_);refine goesL_ (some 4) rfl rfl Tryz.func87 J0 rfl #[.int .u8 a0] rfl J1 ?_;(with_reducible refine (token_of.calls k a0 t102 _ A2.out).mono ?_);rintro e w' ⟨rfl,⟨nd,rfl⟩⟩;refine ⟨_,rfl,?_⟩)|(go_at_call 87;(with_reducible refine (token_of.calls k a0 t103 _ A4.out).mono ?_);rintro e w' ⟨rfl,⟨nd,rfl⟩⟩))
  go_ret
  exact ⟨J12,J17⟩
 rw [if_pos c5] at H
 have c5b0:(t103 == 1)=true:=beq_iff_eq.mpr c5
 have c5b1:(t103 != 1)=false:=bne_eq_false_iff_eq.mpr c5
 clear c5
 obtain rfl:=Option.some.inj H
 go_enter Tryz.func120,Tryz.ntmps120
 go_wp2_with (first|((with_reducible refine gate_callee (f:=87) rfl ?_);refine goesL_ (some 4) rfl rfl Tryz.func87 J0 rfl #[.int .u8 a0] rfl J1 ?_;(with_reducible refine (token_of.calls k a0 t102 _ A2.out).mono ?_);rintro e w' ⟨rfl,⟨nd,rfl⟩⟩;refine ⟨_,rfl,?_⟩)|(go_at_call 87;(with_reducible refine (token_of.calls k a0 t103 _ A4.out).mono ?_);rintro e w' ⟨rfl,⟨nd,rfl⟩⟩))
 go_ret
 exact ⟨J12,J17⟩
def token_reader_num_1.f (k:Nat) (a0:Int):Option (Bool):=(token_of.f k a0).bind fun t104=>(if t104=1 then (some (a0 != 45)) else (some false))
set_option maxHeartbeats 8000000 in
set_option maxRecDepth 100000 in
theorem token_reader_num_1.calls (k:Nat) (a0:Int) (r:Bool) (w:World) (h:token_reader_num_1.f k a0=some r) :
  Calls Tryz.prog 121 #[.int .u8 a0] w fun e w'=>e = .returned (.bool r)∧Drawn0 w w':=by
 have H:((token_of.f k a0).bind fun t104=>(if t104=1 then (some (a0 != 45)) else (some false)))=some r:=h
 clear h
 replace H:=Y17.mp H
 obtain ⟨t104,A20,H⟩:=H
 try dsimp only at H
 have A2:=Y0 A20
 clear A20
 by_cases c3:t104=1
 rotate_left
 ·rw [if_neg c3] at H
  have c3b0:(t104 == 1)=false:=beq_eq_false_iff_ne.mpr c3
  have c3b1:(t104 != 1)=true:=bne_iff_ne.mpr c3
  obtain rfl:=Option.some.inj H
  go_enter Tryz.func121,Tryz.ntmps121
  go_wp2_with (first|((with_reducible refine gate_callee (f:=87) rfl ?_);refine goesL_ (some 4) rfl rfl Tryz.func87 J0 rfl #[.int .u8 a0] rfl J1 ?_;(with_reducible refine (token_of.calls k a0 t104 _ A2.out).mono ?_);rintro e w' ⟨rfl,⟨nd,rfl⟩⟩;refine ⟨_,rfl,?_⟩))
  go_ret
  exact ⟨J12,J17⟩
 rw [if_pos c3] at H
 have c3b0:(t104 == 1)=true:=beq_iff_eq.mpr c3
 have c3b1:(t104 != 1)=false:=bne_eq_false_iff_eq.mpr c3
 clear c3
 obtain rfl:=Option.some.inj H
 go_enter Tryz.func121,Tryz.ntmps121
 go_wp2_with (first|((with_reducible refine gate_callee (f:=87) rfl ?_);refine goesL_ (some 4) rfl rfl Tryz.func87 J0 rfl #[.int .u8 a0] rfl J1 ?_;(with_reducible refine (token_of.calls k a0 t104 _ A2.out).mono ?_);rintro e w' ⟨rfl,⟨nd,rfl⟩⟩;refine ⟨_,rfl,?_⟩))
 go_ret
 exact ⟨J12,J17⟩
def stopAt (p:Int→Bool) (s:ByteArray):Nat→Nat→Nat
 | 0,i=>i
 | n + 1,i=>if i < s.size then (if p (bt s i)=true then stopAt p s n (i + 1) else i) else i
set_option maxHeartbeats 2000000 in
set_option maxRecDepth 100000 in
theorem while_calls (F:Nat) (p:Int→Bool) (g:Nat) (s:ByteArray) (at0:Nat) (w0 w:World) (hI:IsS145 w0 w g s at0) (hB:Below w0.heap.size w0 w) (hs:s.size≤140737488351232) (hat:at0 < s.size)
  (hF:Aside0 (∀ (c:Int) (W:World),Calls Tryz.prog F #[.int .u8 c] W fun e w'=>e = .returned (.bool (p c))∧Drawn0 W w'))
  (hcf:∀ (c:Int) (W:World),Sem.run Tryz.prog (callFunc F #[.int .u8 c]) W = .ok (.enter F #[.int .u8 c]) W) :
  Calls Tryz.prog 119 #[.pointer (some ⟨g,0,none⟩),.func (.func F) #[] #[]] w fun e w'=>e = .returned (.string (s.extract at0 (stopAt p s s.size (at0 + 1))))∧IsS145 w0 w' g s (stopAt p s s.size (at0 + 1))∧Below w0.heap.size w0 w'∧KeepBut w w' g none:=by
 have HR:Aside0 (∃ R,stopAt p s s.size (at0 + 1)=R):=⟨_,rfl⟩
 obtain ⟨R,HR0⟩:=HR.out
 rw [HR0]
 clear HR
 have HR:=Y0 HR0
 clear HR0
 have c0:=cellS145_0 hI.1
 have c1:=cellS145_1 hI.1
 have f1:w.frozen? ⟨g,1,none⟩=false:=blk_frozen hI.1 1
 go_enter Tryz.func119,Tryz.ntmps119
 go_wp2
 go_loopg [39] s.size (fun n _ W=>∃ i:Nat,Aside0 (stopAt p s n i=R)∧Aside0 (IsS145 w0 W g s i)∧Aside0 (Below w0.heap.size w0 W)∧Aside0 (KeepBut w W g none)∧Aside0 (i≤s.size∧at0≤i∧s.size≤i + n))
 case atStart=>exact ⟨at0 + 1,HR,⟨IsS145.set_1 hI _⟩,⟨below_set hB hI.2⟩,⟨(KeepBut.refl w g none).set_ 1 _⟩,⟨J7⟩⟩
 case round =>
  clear HR
  obtain ⟨i,HS,HI,HB,HK,HN⟩:=hrel
  have HNo:=HN.out
  clear c0 c1 f1
  have c0:=cellS145_0 HI.out.1
  have c1:=cellS145_1 HI.out.1
  have f1:wr.frozen? ⟨g,1,none⟩=false:=blk_frozen HI.out.1 1
  by_cases hlt:i < s.size
  ·have d1:decide ((i:Int) < (s.size:Int))=true:=decide_eq_true J7
   have d2:decide (i < s.size)=true:=decide_eq_true hlt
   cases gk with
   | zero=>omega
   | succ k1 =>
    have HS1:Aside0 ((if p (bt s i)=true then stopAt p s k1 (i + 1) else i)=R):=⟨by rw [← HS.out,stopAt,if_pos hlt]⟩
    clear HS
    have hbt:bt s i=(s[i].toNat:Int):=by simp [bt,hlt]
    rw [hbt] at HS1
    clear hbt
    have HQ:Aside0 (∀ n,Calls Tryz.prog F #[.int .u8 (s[i].toNat:Int)] (wr.drewN n) fun e w''=>e = .returned (.bool (p (s[i].toNat:Int)))∧∃ m,w''=wr.drewN m) :=
     ⟨fun n=>Calls.quiet_of ((hF.out _ _).mono (by rintro e w' ⟨rfl,hd⟩;exact ⟨rfl,hd.out⟩))⟩
    by_cases hp:p (s[i].toNat:Int)=true
    ·have HS2:Aside0 (stopAt p s k1 (i + 1)=R):=⟨by have:=HS1.out;rw [if_pos hp] at this;exact this⟩
     clear HS1
     go_wp2
     refine wp_region_quiet_lit J0 J0 ?_
     repeat (first|go_big_quiet_step (fail)|quiet_step (exact HQ.out _))
     refine wpQuiet_nil ?_
     intro _ hw'
     obtain ⟨nq,hw''⟩:=hw'
     subst hw''
     go_wp2
     go_roundg k1
     case measure=>omega
     case rel=>exact ⟨i + 1,HS2,⟨by rw [show ((i + 1:Nat):Int)=(i:Int) + 1 from by omega];exact J70⟩,⟨J106⟩,⟨J100⟩,⟨J7⟩⟩
    ·have hp2:p (s[i].toNat:Int)=false:=by simpa using hp
     have HE:i=R:=by have:=HS1.out;rw [if_neg hp] at this;exact this
     clear HS1 hp
     subst HE
     go_wp2
     refine wp_region_quiet_lit J0 J0 ?_
     repeat (first|go_big_quiet_step (fail)|quiet_step (exact HQ.out _))
     refine wpQuiet_nil ?_
     intro _ hw'
     obtain ⟨nq,hw''⟩:=hw'
     subst hw''
     go_wp2
     go_quiet (fail)
     go_wp2
     go_ret
     exact ⟨by first|rfl|(simp;done),J70,J106,J100⟩
  ·have d1:decide ((i:Int) < (s.size:Int))=false:=decide_eq_false J7
   have d2:decide (i < s.size)=false:=decide_eq_false hlt
   have HE:i=R:=by rw [← HS.out];cases gk <;> simp [stopAt,hlt]
   clear HS
   subst HE
   go_wp2
   go_quiet (fail)
   go_wp2
   go_quiet (fail)
   go_wp2
   go_ret
   exact ⟨by first|rfl|(simp;done),J70,J106,J100⟩
theorem run_enter {P : Program} {f : FuncId} {fn : Func} (hf : P.funcs[f]? = some fn) (hname : (fn.name == "runtime.NumGoroutine") = false) (hb : fn.body.isSome = true) (args : Array Value) (w : World) :
  (callFunc f args).run P w = .ok (.enter f args) w:=by
 have h1 : fn.name ≠ "runtime.NumGoroutine" := by simpa using hname
 obtain ⟨c,hc⟩:=Option.isSome_iff_exists.mp hb
 simp [callFunc,hf,h1,hc]
def signsL:List UInt8:=[123,125,40,41,91,93,60,62,61,59,44,46]
def ofK (c:Int):Int:=if (97≤c∧c≤122)∨(65≤c∧c≤90)∨c=95 then 0 else if (48≤c∧c≤57)∨c=45 then 1 else if c=34 then 2 else if 0≤Lib.indexByte signsL c.toNat.toUInt8 then 3 else 4
def ofR (c:Int):Int:=if c=34 then 2 else if 0≤Lib.indexByte signsL c.toNat.toUInt8 then 3 else 4
theorem of_j3 (k:Nat) (c:Int) (b:Bool):token_of.j3 (k + 1) c b=some (if b=true then 1 else ofR c):=by
 have hS:strings_IndexByte.f (⟨#[123,125,40,41,91,93,60,62,61,59,44,46]⟩:ByteArray) c=some (Lib.indexByte signsL c.toNat.toUInt8):=rfl
 unfold ofR
 simp only [token_of.j3,hS,Option.bind_some]
 generalize Lib.indexByte signsL c.toNat.toUInt8=i
 by_cases h1:b=true
 ·rw [if_pos h1,if_pos h1]
 ·rw [if_neg h1,if_neg h1]
  by_cases h2:c=34
  ·rw [if_pos h2,if_pos h2]
  ·rw [if_neg h2,if_neg h2]
   by_cases h3:0≤i
   ·rw [if_pos h3,if_pos h3]
   ·rw [if_neg h3,if_neg h3]
theorem of_j2 (k:Nat) (c:Int) (b:Bool):token_of.j2 (k + 2) c b=some (if b=true∨c=45 then 1 else ofR c):=by
 simp only [token_of.j2,of_j3]
 cases b <;> simp
theorem of_j1 (k:Nat) (c:Int) (b:Bool):token_of.j1 (k + 3) c b=some (if b=true then 0 else if (48≤c∧c≤57)∨c=45 then 1 else ofR c):=by
 simp only [token_of.j1,of_j2]
 cases b
 ·by_cases h:48≤c
  ·simp [h]
  ·simp [h]
 ·simp
theorem of_j0 (k:Nat) (c:Int) (b:Bool):token_of.j0 (k + 4) c b=some (if b=true∨(65≤c∧c≤90)∨c=95 then 0 else if (48≤c∧c≤57)∨c=45 then 1 else ofR c):=by
 simp only [token_of.j0,of_j1]
 cases b
 ·by_cases h:65≤c
  ·by_cases h2:c≤90
   ·simp [h,h2]
   ·simp [h,h2]
  ·simp [h]
 ·simp
theorem token_of_eq (k:Nat) (hk:5≤k) (c:Int):token_of.f k c=some (ofK c):=by
 obtain ⟨k,rfl⟩:∃ m,k=m + 4:=⟨k - 4,J7⟩
 have hR:∀ x y:Int,(if c=34 then (2:Int) else if 0≤Lib.indexByte signsL c.toNat.toUInt8 then 3 else 4)=ofR c:=fun _ _=>rfl
 unfold token_of.f ofK
 rw [hR 0 0,of_j0,of_j0]
 by_cases h:97≤c
 ·rw [if_pos h];simp [h]
 ·rw [if_neg h];simp [h]
def nameB (c:Int):Bool:=ofK c == 0 || (ofK c == 1 && c != 45)
def numB (c:Int):Bool:=ofK c == 1 && c != 45
theorem name_1_eq (c:Int):token_reader_name_1.f 5 c=some (nameB c):=by
 unfold token_reader_name_1.f nameB
 rw [token_of_eq 5 J7]
 simp only [Option.bind_some]
 repeat' split
 all_goals simp_all
theorem num_1_eq (c:Int):token_reader_num_1.f 5 c=some (numB c):=by
 unfold token_reader_num_1.f numB
 rw [token_of_eq 5 J7]
 simp only [Option.bind_some]
 repeat' split
 all_goals simp_all
def token_reader_while.f (s0_0:ByteArray) (s0_1:Int) (a1:Nat):Option (ByteArray × ByteArray × Int) :=
 if s0_0.size≤140737488351232∧0≤s0_1∧s0_1 < s0_0.size then
  if a1=120 then some (s0_0.extract s0_1.toNat (stopAt nameB s0_0 s0_0.size (s0_1.toNat + 1)),s0_0,(stopAt nameB s0_0 s0_0.size (s0_1.toNat + 1):Nat))
  else if a1=121 then some (s0_0.extract s0_1.toNat (stopAt numB s0_0 s0_0.size (s0_1.toNat + 1)),s0_0,(stopAt numB s0_0 s0_0.size (s0_1.toNat + 1):Nat))
  else none
 else none
theorem token_reader_while.calls (g:Nat) (s0_0:ByteArray) (s0_1:Int) (a1:Nat) (r1:ByteArray) (r2:ByteArray) (r3:Int) (w0 w:World) (hI:IsS145 w0 w g s0_0 s0_1) (hB:Below w0.heap.size w0 w) (h:token_reader_while.f s0_0 s0_1 a1=some (r1,r2,r3)) :
  Calls Tryz.prog 119 #[.pointer (some ⟨g,0,none⟩),.func (.func a1) #[] #[]] w fun e w'=>e = .returned (.string r1)∧IsS145 w0 w' g r2 r3∧Below w0.heap.size w0 w'∧KeepBut w w' g none:=by
 unfold token_reader_while.f at h
 split at h
 ·rename_i hc
  obtain ⟨n,rfl⟩:=Int.eq_ofNat_of_zero_le hc.2.1
  rw [Int.toNat_natCast] at h
  have hn:n < s0_0.size:=by have:=hc.2.2;omega
  split at h
  ·rename_i ha
   obtain rfl:=ha
   simp only [Option.some.injEq,Prod.mk.injEq] at h
   obtain ⟨rfl,rfl,rfl⟩:=h
   exact while_calls _ nameB g s0_0 n w0 w hI hB hc.1 hn ⟨fun c W=>token_reader_name_1.calls 5 c _ W (name_1_eq c)⟩ (fun c W=>run_enter Tryz.func120 J0 J0 _ _)
  ·split at h
   ·rename_i ha
    obtain rfl:=ha
    simp only [Option.some.injEq,Prod.mk.injEq] at h
    obtain ⟨rfl,rfl,rfl⟩:=h
    exact while_calls _ numB g s0_0 n w0 w hI hB hc.1 hn ⟨fun c W=>token_reader_num_1.calls 5 c _ W (num_1_eq c)⟩ (fun c W=>run_enter Tryz.func121 J0 J0 _ _)
   ·cases h
 ·cases h
def token_reader_name.f (s0_0:ByteArray) (s0_1:Int):Option (Int × ByteArray × Int × Int × Bool × ByteArray × Int):=(token_reader_while.f s0_0 s0_1 120).bind fun bt106=>(some (0,bt106.1,0,0,true,bt106.2.1,bt106.2.2))
set_option maxHeartbeats 8000000 in
set_option maxRecDepth 100000 in
theorem token_reader_name.calls (g:Nat) (s0_0:ByteArray) (s0_1:Int) (r1:Int) (r2:ByteArray) (r3:Int) (r4:Int) (r5:Bool) (r6:ByteArray) (r7:Int) (w0 w:World) (hI:IsS145 w0 w g s0_0 s0_1) (hB:Below w0.heap.size w0 w) (h:token_reader_name.f s0_0 s0_1=some (r1,r2,r3,r4,r5,r6,r7)) :
  Calls Tryz.prog 82 #[.pointer (some ⟨g,0,none⟩)] w fun e w'=>e = .returned (.tuple #[.agg #[.int .i64 r1,.string r2,.int .i64 r3,.int .i64 r4],.bool r5])∧IsS145 w0 w' g r6 r7∧Below w0.heap.size w0 w'∧KeepBut w w' g none:=by
 have hu149:=Tryz.underlying149
 have HI0:=Y0 hI
 have HK:=Y0 (KeepBut.refl w g none)
 have HL:=Y0 hB.size
 clear hI
 have HW0:=Y0 hB.size
 have HB:=Y0 hB
 clear hB
 have H:((token_reader_while.f s0_0 s0_1 120).bind fun bt106=>(some (0,bt106.1,0,0,true,bt106.2.1,bt106.2.2)))=some (r1,r2,r3,r4,r5,r6,r7):=h
 clear h
 replace H:=Y17.mp H
 obtain ⟨⟨t106,t107,t108⟩,A20,H⟩:=H
 replace H:(some (0,t106,0,0,true,t107,t108))=some (r1,r2,r3,r4,r5,r6,r7):=H
 have A2:=Y0 A20
 clear A20
 simp only [Option.some.injEq,Prod.mk.injEq] at H
 obtain ⟨rfl,rfl,rfl,rfl,rfl,rfl,rfl⟩:=H
 go_enter Tryz.func82,Tryz.ntmps82
 go_wp2_with (first|((with_reducible refine gate_dst (N:=2) rfl ?_);refine box_event ?hg (N:=2) ?hd (cs:=#[.int .i64 0,.string (⟨#[]⟩:ByteArray),.int .i64 0,.int .i64 0]) (t:=149) ?hr ?_;(case hd=>rfl);(case hg=>rfl);(case hr=>first|(go_simp;done)|(go_simp;rfl));intro gb105 hg w3 hbox hb;have n0_:=Y0 (IsS145.below J10 hb);have n1_:=Y0 (KeepBut.trans J2 (KeepBut.of_below hb g none) (.inl rfl));have n2_:=Y0 (below_step J27 hb);have n3_:=Y0 (hbox);have n4_:=Y0 ((by rw [hg];exact (keep_size (w:=w) (g:=g) (row:=none) J2):w.heap.size≤gb105));have n5_:=Y0 ((Nat.le_trans HW0.out (by rw [hg];exact (keep_size (w:=w) (g:=g) (row:=none) J2):w.heap.size≤gb105):w0.heap.size≤gb105));have n6_:=Y0 ((by rw [hg];exact Nat.ne_of_lt (IsS145.lt (show IsS145 w0 _ g s0_0 s0_1 from by repeat (with_reducible first|exact HI0.out|apply IsS145.alloc|apply IsS145.drewN|apply IsS145.drew|apply IsS145.set_0|apply IsS145.set_1))):g≠gb105));have n7_:=Y0 ((by rw [hg];exact Nat.ne_of_gt (IsS145.lt (show IsS145 w0 _ g s0_0 s0_1 from by repeat (with_reducible first|exact HI0.out|apply IsS145.alloc|apply IsS145.drewN|apply IsS145.drew|apply IsS145.set_0|apply IsS145.set_1))):gb105≠g));clear HI0;clear HK;clear HB;have HI0:=n0_;have HK:=n1_;have HB:=n2_;have BK105:=n3_;have GW105:=n4_;have GE105:=n5_;have NB0_105:=n6_;have NB105_0:=n7_;clear n0_ n1_ n2_ n3_ n4_ n5_ n6_ n7_;clear hb hbox hg)|((with_reducible refine gate_callee (f:=119) rfl ?_);refine goesL_ (some 5) rfl rfl Tryz.func119 J0 rfl #[.pointer (some ⟨g,0,none⟩),.func (.func 120) #[] #[]] rfl J1 ?_;(with_reducible refine (token_reader_while.calls g s0_0 s0_1 120 t106 t107 t108 w0 _ ?side1 ?side2 A2.out).mono ?_);(case side1=>repeat (first|(with_reducible first|exact HI0.out|apply IsS145.alloc|apply IsS145.drewN|apply IsS145.drew|apply IsS145.set_0|apply IsS145.set_1|refine IsS145.far ?_ NB0_105.out _)|exact HI0.out));(case side2=>repeat (first|(with_reducible first|exact HB.out|apply Y3|apply Y1|apply Y2|refine Y4 ?_ (IsS145.ge HI0.out)|refine Y4 ?_ GE105.out)|exact HB.out));rintro e w4 ⟨rfl,hi,hb,hk⟩;refine ⟨_,rfl,?_⟩;have n0_:=Y0 (KeepBut.blk hk (g':=gb105) (o:=.cells #[.int .i64 0,.string (⟨#[]⟩:ByteArray),.int .i64 0,.int .i64 0] 149 (0,0)) (by (with_reducible repeat first|apply Y11|apply Y13|apply Y12);exact BK105.out) NB105_0.out J53);have n1_:=Y0 (KeepBut.trans J126 hk (.inl rfl));have n2_:=Y0 (hb);have n3_:=Y0 (hi);clear BK105;clear HK;clear HB;clear HI0;have BK105:=n0_;have HK:=n1_;have HB:=n2_;have HI0:=n3_;clear n0_ n1_ n2_ n3_;(try clear hb);(try clear hb2);(try clear hk);(try clear hi);have hnb5:=NB105_0.out;have hnc5:=NB0_105.out;have ⟨hcz6_0,hcz6_1,hcz6_2,hcz6_3,hfz6_0,hfz6_1,hfz6_2,hfz6_3⟩:=sq_box4 BK105.out))
 refine bodyPost_ret (results_ct rfl _ _ gb105 149 #[.int .i64 0,.string t106,.int .i64 0,.int .i64 0] (0,0) _ rfl (by (with_reducible repeat first|apply Y11|apply Y13|apply Y12);refine blk_put (cs:=#[.int .i64 0,.string t106,.int .i64 0,.int .i64 0]) ?_ 3 _ rfl;(with_reducible repeat first|apply Y11|apply Y13|apply Y12);refine blk_put (cs:=#[.int .i64 0,.string t106,.int .i64 0,.int .i64 0]) ?_ 2 _ rfl;(with_reducible repeat first|apply Y11|apply Y13|apply Y12);refine blk_put (cs:=#[.int .i64 0,.string (⟨#[]⟩:ByteArray),.int .i64 0,.int .i64 0]) ?_ 1 _ rfl;(with_reducible repeat first|apply Y11|apply Y13|apply Y12);refine blk_put (cs:=#[.int .i64 0,.string (⟨#[]⟩:ByteArray),.int .i64 0,.int .i64 0]) ?_ 0 _ rfl;(with_reducible repeat first|apply Y11|apply Y13|apply Y12);exact BK105.out) Tryz.underlying149 rfl J0) rfl ?_
 exact ⟨J21,by repeat (with_reducible first|exact HI0.out|apply IsS145.alloc|apply IsS145.drewN|apply IsS145.drew|apply IsS145.set_0|apply IsS145.set_1|refine IsS145.far ?_ NB0_105.out _),by repeat (with_reducible first|exact HB.out|apply Y3|apply Y1|apply Y2|refine Y4 ?_ (IsS145.ge HI0.out)|refine Y4 ?_ GE105.out),J126⟩
def token_reader_rest.f (s0_0:ByteArray) (s0_1:Int):Option (ByteArray × ByteArray × Int):=if 0≤s0_1 then (if s0_1≤(s0_0.size:Int) then (some (s0_0.extract (s0_1:Int).toNat s0_0.size,s0_0,s0_1)) else (none)) else (none)
set_option maxHeartbeats 8000000 in
set_option maxRecDepth 100000 in
theorem token_reader_rest.calls (g:Nat) (s0_0:ByteArray) (s0_1:Int) (r1:ByteArray) (r2:ByteArray) (r3:Int) (w0 w:World) (hI:IsS145 w0 w g s0_0 s0_1) (hB:Below w0.heap.size w0 w) (h:token_reader_rest.f s0_0 s0_1=some (r1,r2,r3)) :
  Calls Tryz.prog 126 #[.pointer (some ⟨g,0,none⟩)] w fun e w'=>e = .returned (.string r1)∧IsS145 w0 w' g r2 r3∧Below w0.heap.size w0 w'∧KeepBut w w' g none:=by
 have HI0:=Y0 hI
 have HK:=Y0 (KeepBut.refl w g none)
 have HL:=Y0 hB.size
 clear hI
 have HW0:=Y0 hB.size
 have HB:=Y0 hB
 clear hB
 have H:(if 0≤s0_1 then (if s0_1≤(s0_0.size:Int) then (some (s0_0.extract (s0_1:Int).toNat s0_0.size,s0_0,s0_1)) else (none)) else (none))=some (r1,r2,r3):=h
 clear h
 by_cases c2:0≤s0_1
 rotate_left
 ·rw [if_neg c2] at H
  exact absurd H J53
 rw [if_pos c2] at H
 have c2b0:=eq_true c2
 have c2b1:decide (0≤s0_1)=true:=decide_eq_true c2
 clear c2
 by_cases c3:s0_1≤(s0_0.size:Int)
 rotate_left
 ·rw [if_neg c3] at H
  exact absurd H J53
 rw [if_pos c3] at H
 have c3b0:=eq_true c3
 have c3b1:decide (s0_1≤(s0_0.size:Int))=true:=decide_eq_true c3
 clear c3
 simp only [Option.some.injEq,Prod.mk.injEq] at H
 obtain ⟨rfl,rfl,rfl⟩:=H
 obtain ⟨HGz4,hgz4⟩:=HI0.out
 have hcz4_0:=cellS145_0 HGz4
 have hcz4_1:=cellS145_1 HGz4
 have hfz4_0:=blk_frozen HGz4 0
 have hfz4_1:=blk_frozen HGz4 1
 clear HGz4 hgz4
 go_enter Tryz.func126,Tryz.ntmps126
 go_wp2
 repeat (go_quiet (fail);try go_wp2)
 go_ret
 exact ⟨J21,J10,J27,J2⟩
def token_reader_mark.j0:Nat→ByteArray→Bool→ByteArray→Int→Option (Int × Bool × ByteArray × Int)
 | 0,_,_,_,_=>none
 | k + 1,x4,x33,x1000,x1001=>if x33=true then (some (0,false,x1000,x1001)) else (if 1 < (x4.size:Int) then ((strings_IndexByte.f (⟨#[48,49,50,51,52,53,54,55,56,57,97,98,99,100,101,102]⟩:ByteArray) (bt x4 1)).bind fun t113=>(if 2 < (x4.size:Int) then ((strings_IndexByte.f (⟨#[48,49,50,51,52,53,54,55,56,57,97,98,99,100,101,102]⟩:ByteArray) (bt x4 2)).bind fun t114=>(if t113 ≥ 0 then (some ((Go.bits .or .i64 (wrap64 (t113 * 16)) (Go.bits .and .i64 t114 15)) % 256,decide (t114 ≥ 0),x1000,wrap64 (x1001 + 3))) else (some ((Go.bits .or .i64 (wrap64 (t113 * 16)) (Go.bits .and .i64 t114 15)) % 256,false,x1000,wrap64 (x1001 + 3))))) else (none))) else (none))
def token_reader_mark.f (k:Nat) (s0_0:ByteArray) (s0_1:Int):Option (Int × Bool × ByteArray × Int):=(token_reader_rest.f s0_0 s0_1).bind fun bt109=>(if bt109.1.toList=([]:List UInt8) then (some (0,false,bt109.2.1,bt109.2.2)) else (if 0 < (bt109.1.size:Int) then ((strings_IndexByte.f (⟨#[34,92,110]⟩:ByteArray) (bt bt109.1 0)).bind fun t112=>(if t112 ≥ 0 then (if 0≤t112 then (if t112 < 3 then (some (bt (⟨#[34,92,10]⟩:ByteArray) t112,true,bt109.2.1,wrap64 (bt109.2.2 + 1))) else (none)) else (none)) else (if (bt109.1.size:Int) < 3 then (token_reader_mark.j0 k bt109.1 true bt109.2.1 bt109.2.2) else (token_reader_mark.j0 k bt109.1 ((bt bt109.1 0) != 120) bt109.2.1 bt109.2.2)))) else (none)))
set_option maxHeartbeats 8000000 in
set_option maxRecDepth 100000 in
theorem token_reader_mark.calls (k:Nat) (g:Nat) (s0_0:ByteArray) (s0_1:Int) (r1:Int) (r2:Bool) (r3:ByteArray) (r4:Int) (w0 w:World) (hI:IsS145 w0 w g s0_0 s0_1) (hB:Below w0.heap.size w0 w) (h:token_reader_mark.f k s0_0 s0_1=some (r1,r2,r3,r4)) :
  Calls Tryz.prog 123 #[.pointer (some ⟨g,0,none⟩)] w fun e w'=>e = .returned (.tuple #[.int .u8 r1,.bool r2])∧IsS145 w0 w' g r3 r4∧Below w0.heap.size w0 w'∧KeepBut w w' g none:=by
 have HI0:=Y0 hI
 have HK:=Y0 (KeepBut.refl w g none)
 have HL:=Y0 hB.size
 clear hI
 have HW0:=Y0 hB.size
 have HB:=Y0 hB
 clear hB
 have H:((token_reader_rest.f s0_0 s0_1).bind fun bt109=>(if bt109.1.toList=([]:List UInt8) then (some (0,false,bt109.2.1,bt109.2.2)) else (if 0 < (bt109.1.size:Int) then ((strings_IndexByte.f (⟨#[34,92,110]⟩:ByteArray) (bt bt109.1 0)).bind fun t112=>(if t112 ≥ 0 then (if 0≤t112 then (if t112 < 3 then (some (bt (⟨#[34,92,10]⟩:ByteArray) t112,true,bt109.2.1,wrap64 (bt109.2.2 + 1))) else (none)) else (none)) else (if (bt109.1.size:Int) < 3 then (token_reader_mark.j0 k bt109.1 true bt109.2.1 bt109.2.2) else (token_reader_mark.j0 k bt109.1 ((bt bt109.1 0) != 120) bt109.2.1 bt109.2.2)))) else (none))))=some (r1,r2,r3,r4):=h
 clear h
 replace H:=Y17.mp H
 obtain ⟨⟨t109,t110,t111⟩,A20,H⟩:=H
 replace H:(if t109.toList=([]:List UInt8) then (some (0,false,t110,t111)) else (if 0 < (t109.size:Int) then ((strings_IndexByte.f (⟨#[34,92,110]⟩:ByteArray) (bt t109 0)).bind fun t112=>(if t112 ≥ 0 then (if 0≤t112 then (if t112 < 3 then (some (bt (⟨#[34,92,10]⟩:ByteArray) t112,true,t110,wrap64 (t111 + 1))) else (none)) else (none)) else (if (t109.size:Int) < 3 then (token_reader_mark.j0 k t109 true t110 t111) else (token_reader_mark.j0 k t109 ((bt t109 0) != 120) t110 t111)))) else (none)))=some (r1,r2,r3,r4):=H
 have A2:=Y0 A20
 clear A20
 by_cases c3:t109.toList=([]:List UInt8)
 ·rw [if_pos c3] at H
  have c3b0:(t109.toList == ([]:List UInt8))=true:=beq_iff_eq.mpr c3
  have c3b1:(t109.toList != ([]:List UInt8))=false:=bne_eq_false_iff_eq.mpr c3
  clear c3
  simp only [Option.some.injEq,Prod.mk.injEq] at H
  obtain ⟨rfl,rfl,rfl,rfl⟩:=H
  go_enter Tryz.func123,Tryz.ntmps123
  go_wp2_with (first|(go_at_call 126;(with_reducible refine (token_reader_rest.calls g s0_0 s0_1 t109 t110 t111 w0 _ ?side1 ?side2 A2.out).mono ?_);(case side1=>repeat (first|(with_reducible first|exact HI0.out|apply IsS145.alloc|apply IsS145.drewN|apply IsS145.drew|apply IsS145.set_0|apply IsS145.set_1)|exact HI0.out));(case side2=>repeat (first|(with_reducible first|exact HB.out|apply Y3|apply Y1|apply Y2|refine Y4 ?_ (IsS145.ge HI0.out))|exact HB.out));rintro e w4 ⟨rfl,hi,hb,hk⟩;have n0_:=Y0 (KeepBut.trans J2 hk (.inl rfl));have n1_:=Y0 (hb);have n2_:=Y0 (hi);clear HK;clear HB;clear HI0;have HK:=n0_;have HB:=n1_;have HI0:=n2_;clear n0_ n1_ n2_;(try clear hb);(try clear hb2);(try clear hk);(try clear hi)))
  repeat (go_quiet (first|(go_at_call 126;(with_reducible refine (token_reader_rest.calls g s0_0 s0_1 t109 t110 t111 w0 _ ?side1 ?side2 A2.out).mono ?_);(case side1=>repeat (first|(with_reducible first|exact HI0.out|apply IsS145.alloc|apply IsS145.drewN|apply IsS145.drew|apply IsS145.set_0|apply IsS145.set_1)|exact HI0.out));(case side2=>repeat (first|(with_reducible first|exact HB.out|apply Y3|apply Y1|apply Y2|refine Y4 ?_ (IsS145.ge HI0.out))|exact HB.out));rintro e w4 ⟨rfl,hi,hb,hk⟩;have n0_:=Y0 (KeepBut.trans J2 hk (.inl rfl));have n1_:=Y0 (hb);have n2_:=Y0 (hi);clear HK;clear HB;clear HI0;have HK:=n0_;have HB:=n1_;have HI0:=n2_;clear n0_ n1_ n2_;(try clear hb);(try clear hb2);(try clear hk);(try clear hi)));try go_wp2_with (first|(go_at_call 126;(with_reducible refine (token_reader_rest.calls g s0_0 s0_1 t109 t110 t111 w0 _ ?side1 ?side2 A2.out).mono ?_);(case side1=>repeat (first|(with_reducible first|exact HI0.out|apply IsS145.alloc|apply IsS145.drewN|apply IsS145.drew|apply IsS145.set_0|apply IsS145.set_1)|exact HI0.out));(case side2=>repeat (first|(with_reducible first|exact HB.out|apply Y3|apply Y1|apply Y2|refine Y4 ?_ (IsS145.ge HI0.out))|exact HB.out));rintro e w4 ⟨rfl,hi,hb,hk⟩;have n0_:=Y0 (KeepBut.trans J2 hk (.inl rfl));have n1_:=Y0 (hb);have n2_:=Y0 (hi);clear HK;clear HB;clear HI0;have HK:=n0_;have HB:=n1_;have HI0:=n2_;clear n0_ n1_ n2_;(try clear hb);(try clear hb2);(try clear hk);(try clear hi))))
  go_ret2
  exact ⟨J21,J10,J27,J2⟩
 rw [if_neg c3] at H
 have c3b0:(t109.toList == ([]:List UInt8))=false:=beq_eq_false_iff_ne.mpr c3
 have c3b1:(t109.toList != ([]:List UInt8))=true:=bne_iff_ne.mpr c3
 by_cases c5:0 < (t109.size:Int)
 rotate_left
 ·rw [if_neg c5] at H
  exact absurd H J53
 rw [if_pos c5] at H
 have c5b0:decide (0 < (t109.size:Int))=true:=decide_eq_true c5
 have c5b1:decide (0 < t109.size)=true:=decide_eq_true J7
 clear c5
 replace H:=Y17.mp H
 obtain ⟨t112,A70,H⟩:=H
 replace H:(if t112 ≥ 0 then (if 0≤t112 then (if t112 < 3 then (some (bt (⟨#[34,92,10]⟩:ByteArray) t112,true,t110,wrap64 (t111 + 1))) else (none)) else (none)) else (if (t109.size:Int) < 3 then (token_reader_mark.j0 k t109 true t110 t111) else (token_reader_mark.j0 k t109 ((bt t109 0) != 120) t110 t111)))=some (r1,r2,r3,r4):=H
 have A7:=Y0 A70
 clear A70
 by_cases c8:t112 ≥ 0
 ·rw [if_pos c8] at H
  have c8b0:decide (0≤t112)=true:=decide_eq_true c8
  clear c8
  by_cases c9:0≤t112
  rotate_left
  ·rw [if_neg c9] at H
   exact absurd H J53
  rw [if_pos c9] at H
  have c9b0:decide (0≤t112)=true:=decide_eq_true c9
  clear c9
  by_cases c10:t112 < 3
  rotate_left
  ·rw [if_neg c10] at H
   exact absurd H J53
  rw [if_pos c10] at H
  have c10b0:decide (t112 < 3)=true:=decide_eq_true c10
  clear c10
  simp only [Option.some.injEq,Prod.mk.injEq] at H
  obtain ⟨rfl,rfl,rfl,rfl⟩:=H
  go_enter Tryz.func123,Tryz.ntmps123
  go_wp2_with (first|(go_at_call 126;(with_reducible refine (token_reader_rest.calls g s0_0 s0_1 t109 t110 t111 w0 _ ?side1 ?side2 A2.out).mono ?_);(case side1=>repeat (first|(with_reducible first|exact HI0.out|apply IsS145.alloc|apply IsS145.drewN|apply IsS145.drew|apply IsS145.set_0|apply IsS145.set_1)|exact HI0.out));(case side2=>repeat (first|(with_reducible first|exact HB.out|apply Y3|apply Y1|apply Y2|refine Y4 ?_ (IsS145.ge HI0.out))|exact HB.out));rintro e w12 ⟨rfl,hi,hb,hk⟩;have n0_:=Y0 (KeepBut.trans J2 hk (.inl rfl));have n1_:=Y0 (hb);have n2_:=Y0 (hi);clear HK;clear HB;clear HI0;have HK:=n0_;have HB:=n1_;have HI0:=n2_;clear n0_ n1_ n2_;(try clear hb);(try clear hb2);(try clear hk);(try clear hi);have p6:0≤(0:Int):=J7;have q6:0 < t109.size:=J55;have hx6:∀ h:0 < t109.size,((t109[0]'h).toNat:Int)=bt t109 0:=bt_at t109 0;clear p6;have qi6:(0 < (t109.size:Int))=True:=eq_true (of_decide_eq_true J3);replace q6:=eq_true q6)|(go_at_call 124;(with_reducible refine (strings_IndexByte.calls (⟨#[34,92,110]⟩:ByteArray) (bt t109 0) t112 _ A7.out).mono ?_);rintro e w' ⟨rfl,⟨nd,rfl⟩⟩;(try first|exact ⟨rfl,_,World.drewN_drewN _ _ _⟩|exact ⟨rfl,_,Eq.trans (World.drewN_drewN _ _ _) (congrArg (World.drewN _) (Nat.add_assoc _ _ _))⟩);obtain ⟨HGz13,hgz13⟩:=HI0.out;have hcz13_0:=cellS145_0 HGz13;have hcz13_1:=cellS145_1 HGz13;have hfz13_0:=blk_frozen HGz13 0;have hfz13_1:=blk_frozen HGz13 1;clear HGz13 hgz13;have p11:0≤(t112:Int):=of_decide_eq_true J3;have q11:t112 < (3:Int):=of_decide_eq_true J3;have hx11:=bt_at (⟨#[34,92,10]⟩:ByteArray) t112;replace p11:=eq_true p11;replace q11:=eq_true q11))
  repeat (go_quiet (first|(go_at_call 126;(with_reducible refine (token_reader_rest.calls g s0_0 s0_1 t109 t110 t111 w0 _ ?side1 ?side2 A2.out).mono ?_);(case side1=>repeat (first|(with_reducible first|exact HI0.out|apply IsS145.alloc|apply IsS145.drewN|apply IsS145.drew|apply IsS145.set_0|apply IsS145.set_1)|exact HI0.out));(case side2=>repeat (first|(with_reducible first|exact HB.out|apply Y3|apply Y1|apply Y2|refine Y4 ?_ (IsS145.ge HI0.out))|exact HB.out));rintro e w12 ⟨rfl,hi,hb,hk⟩;have n0_:=Y0 (KeepBut.trans J2 hk (.inl rfl));have n1_:=Y0 (hb);have n2_:=Y0 (hi);clear HK;clear HB;clear HI0;have HK:=n0_;have HB:=n1_;have HI0:=n2_;clear n0_ n1_ n2_;(try clear hb);(try clear hb2);(try clear hk);(try clear hi);have p6:0≤(0:Int):=J7;have q6:0 < t109.size:=J55;have hx6:∀ h:0 < t109.size,((t109[0]'h).toNat:Int)=bt t109 0:=bt_at t109 0;clear p6;have qi6:(0 < (t109.size:Int))=True:=eq_true (of_decide_eq_true J3);replace q6:=eq_true q6)|(go_at_call 124;(with_reducible refine (strings_IndexByte.calls (⟨#[34,92,110]⟩:ByteArray) (bt t109 0) t112 _ A7.out).mono ?_);rintro e w' ⟨rfl,⟨nd,rfl⟩⟩;(try first|exact ⟨rfl,_,World.drewN_drewN _ _ _⟩|exact ⟨rfl,_,Eq.trans (World.drewN_drewN _ _ _) (congrArg (World.drewN _) (Nat.add_assoc _ _ _))⟩);obtain ⟨HGz13,hgz13⟩:=HI0.out;have hcz13_0:=cellS145_0 HGz13;have hcz13_1:=cellS145_1 HGz13;have hfz13_0:=blk_frozen HGz13 0;have hfz13_1:=blk_frozen HGz13 1;clear HGz13 hgz13;have p11:0≤(t112:Int):=of_decide_eq_true J3;have q11:t112 < (3:Int):=of_decide_eq_true J3;have hx11:=bt_at (⟨#[34,92,10]⟩:ByteArray) t112;replace p11:=eq_true p11;replace q11:=eq_true q11));try go_wp2_with (first|(go_at_call 126;(with_reducible refine (token_reader_rest.calls g s0_0 s0_1 t109 t110 t111 w0 _ ?side1 ?side2 A2.out).mono ?_);(case side1=>repeat (first|(with_reducible first|exact HI0.out|apply IsS145.alloc|apply IsS145.drewN|apply IsS145.drew|apply IsS145.set_0|apply IsS145.set_1)|exact HI0.out));(case side2=>repeat (first|(with_reducible first|exact HB.out|apply Y3|apply Y1|apply Y2|refine Y4 ?_ (IsS145.ge HI0.out))|exact HB.out));rintro e w12 ⟨rfl,hi,hb,hk⟩;have n0_:=Y0 (KeepBut.trans J2 hk (.inl rfl));have n1_:=Y0 (hb);have n2_:=Y0 (hi);clear HK;clear HB;clear HI0;have HK:=n0_;have HB:=n1_;have HI0:=n2_;clear n0_ n1_ n2_;(try clear hb);(try clear hb2);(try clear hk);(try clear hi);have p6:0≤(0:Int):=J7;have q6:0 < t109.size:=J55;have hx6:∀ h:0 < t109.size,((t109[0]'h).toNat:Int)=bt t109 0:=bt_at t109 0;clear p6;have qi6:(0 < (t109.size:Int))=True:=eq_true (of_decide_eq_true J3);replace q6:=eq_true q6)|(go_at_call 124;(with_reducible refine (strings_IndexByte.calls (⟨#[34,92,110]⟩:ByteArray) (bt t109 0) t112 _ A7.out).mono ?_);rintro e w' ⟨rfl,⟨nd,rfl⟩⟩;(try first|exact ⟨rfl,_,World.drewN_drewN _ _ _⟩|exact ⟨rfl,_,Eq.trans (World.drewN_drewN _ _ _) (congrArg (World.drewN _) (Nat.add_assoc _ _ _))⟩);obtain ⟨HGz13,hgz13⟩:=HI0.out;have hcz13_0:=cellS145_0 HGz13;have hcz13_1:=cellS145_1 HGz13;have hfz13_0:=blk_frozen HGz13 0;have hfz13_1:=blk_frozen HGz13 1;clear HGz13 hgz13;have p11:0≤(t112:Int):=of_decide_eq_true J3;have q11:t112 < (3:Int):=of_decide_eq_true J3;have hx11:=bt_at (⟨#[34,92,10]⟩:ByteArray) t112;replace p11:=eq_true p11;replace q11:=eq_true q11)))
  go_ret2
  exact ⟨J21,J10,J27,J2⟩
 rw [if_neg c8] at H
 have c8b0:decide (0≤t112)=false:=decide_eq_false c8
 clear c8
 have HC14:=Y0 H
 clear H
 go_enter Tryz.func123,Tryz.ntmps123
 go_upto_region 8 with (first|(go_at_call 126;(with_reducible refine (token_reader_rest.calls g s0_0 s0_1 t109 t110 t111 w0 _ ?side1 ?side2 A2.out).mono ?_);(case side1=>repeat (first|(with_reducible first|exact HI0.out|apply IsS145.alloc|apply IsS145.drewN|apply IsS145.drew|apply IsS145.set_0|apply IsS145.set_1)|exact HI0.out));(case side2=>repeat (first|(with_reducible first|exact HB.out|apply Y3|apply Y1|apply Y2|refine Y4 ?_ (IsS145.ge HI0.out))|exact HB.out));rintro e w15 ⟨rfl,hi,hb,hk⟩;have n0_:=Y0 (KeepBut.trans J2 hk (.inl rfl));have n1_:=Y0 (hb);have n2_:=Y0 (hi);clear HK;clear HB;clear HI0;have HK:=n0_;have HB:=n1_;have HI0:=n2_;clear n0_ n1_ n2_;(try clear hb);(try clear hb2);(try clear hk);(try clear hi);have p6:0≤(0:Int):=J7;have q6:0 < t109.size:=J55;have hx6:∀ h:0 < t109.size,((t109[0]'h).toNat:Int)=bt t109 0:=bt_at t109 0;clear p6;have qi6:(0 < (t109.size:Int))=True:=eq_true (of_decide_eq_true J3);replace q6:=eq_true q6)|(go_at_call 124;(with_reducible refine (strings_IndexByte.calls (⟨#[34,92,110]⟩:ByteArray) (bt t109 0) t112 _ A7.out).mono ?_);rintro e w' ⟨rfl,⟨nd,rfl⟩⟩;(try first|exact ⟨rfl,_,World.drewN_drewN _ _ _⟩|exact ⟨rfl,_,Eq.trans (World.drewN_drewN _ _ _) (congrArg (World.drewN _) (Nat.add_assoc _ _ _))⟩)))
 repeat (go_quiet (first|(go_at_call 126;(with_reducible refine (token_reader_rest.calls g s0_0 s0_1 t109 t110 t111 w0 _ ?side1 ?side2 A2.out).mono ?_);(case side1=>repeat (first|(with_reducible first|exact HI0.out|apply IsS145.alloc|apply IsS145.drewN|apply IsS145.drew|apply IsS145.set_0|apply IsS145.set_1)|exact HI0.out));(case side2=>repeat (first|(with_reducible first|exact HB.out|apply Y3|apply Y1|apply Y2|refine Y4 ?_ (IsS145.ge HI0.out))|exact HB.out));rintro e w15 ⟨rfl,hi,hb,hk⟩;have n0_:=Y0 (KeepBut.trans J2 hk (.inl rfl));have n1_:=Y0 (hb);have n2_:=Y0 (hi);clear HK;clear HB;clear HI0;have HK:=n0_;have HB:=n1_;have HI0:=n2_;clear n0_ n1_ n2_;(try clear hb);(try clear hb2);(try clear hk);(try clear hi);have p6:0≤(0:Int):=J7;have q6:0 < t109.size:=J55;have hx6:∀ h:0 < t109.size,((t109[0]'h).toNat:Int)=bt t109 0:=bt_at t109 0;clear p6;have qi6:(0 < (t109.size:Int))=True:=eq_true (of_decide_eq_true J3);replace q6:=eq_true q6)|(go_at_call 124;(with_reducible refine (strings_IndexByte.calls (⟨#[34,92,110]⟩:ByteArray) (bt t109 0) t112 _ A7.out).mono ?_);rintro e w' ⟨rfl,⟨nd,rfl⟩⟩;(try first|exact ⟨rfl,_,World.drewN_drewN _ _ _⟩|exact ⟨rfl,_,Eq.trans (World.drewN_drewN _ _ _) (congrArg (World.drewN _) (Nat.add_assoc _ _ _))⟩)));go_upto_region 8 with (first|(go_at_call 126;(with_reducible refine (token_reader_rest.calls g s0_0 s0_1 t109 t110 t111 w0 _ ?side1 ?side2 A2.out).mono ?_);(case side1=>repeat (first|(with_reducible first|exact HI0.out|apply IsS145.alloc|apply IsS145.drewN|apply IsS145.drew|apply IsS145.set_0|apply IsS145.set_1)|exact HI0.out));(case side2=>repeat (first|(with_reducible first|exact HB.out|apply Y3|apply Y1|apply Y2|refine Y4 ?_ (IsS145.ge HI0.out))|exact HB.out));rintro e w15 ⟨rfl,hi,hb,hk⟩;have n0_:=Y0 (KeepBut.trans J2 hk (.inl rfl));have n1_:=Y0 (hb);have n2_:=Y0 (hi);clear HK;clear HB;clear HI0;have HK:=n0_;have HB:=n1_;have HI0:=n2_;clear n0_ n1_ n2_;(try clear hb);(try clear hb2);(try clear hk);(try clear hi);have p6:0≤(0:Int):=J7;have q6:0 < t109.size:=J55;have hx6:∀ h:0 < t109.size,((t109[0]'h).toNat:Int)=bt t109 0:=bt_at t109 0;clear p6;have qi6:(0 < (t109.size:Int))=True:=eq_true (of_decide_eq_true J3);replace q6:=eq_true q6)|(go_at_call 124;(with_reducible refine (strings_IndexByte.calls (⟨#[34,92,110]⟩:ByteArray) (bt t109 0) t112 _ A7.out).mono ?_);rintro e w' ⟨rfl,⟨nd,rfl⟩⟩;(try first|exact ⟨rfl,_,World.drewN_drewN _ _ _⟩|exact ⟨rfl,_,Eq.trans (World.drewN_drewN _ _ _) (congrArg (World.drewN _) (Nat.add_assoc _ _ _))⟩))))
 (try simp only [Act.put,Y14,Y15,Y16])
 go_cut [33] (fun v33 wc=>∃ (kq:Nat) (x33_13:Bool),v33 = .bool x33_13∧Aside0 (token_reader_mark.j0 kq t109 x33_13 t110 t111=some (r1,r2,r3,r4))∧Aside0 (kq≤k)∧Aside0 (IsS145 w0 wc g t110 t111)∧Aside0 (KeepBut w wc g none)∧Aside0 (Below w0.heap.size w0 wc))
 case first =>
  have H:=HC14.out
  clear HC14
  by_cases c16:(t109.size:Int) < 3
  ·rw [if_pos c16] at H
   have c16b0:decide ((t109.size:Int) < 3)=true:=decide_eq_true c16
   have c16b1:decide (t109.size < 3)=true:=decide_eq_true J7
   clear c16
   (first|rw [c16b0]|(simp only [i64_w];rw [c16b0])|skip)
   have H':=Y0 H
   clear H
   go_wp2
   repeat (go_quiet (fail);try go_wp2)
   go_meet
   case rel=>exact ⟨_,(true),J12,H',⟨J79⟩,⟨J10⟩,⟨J2⟩,⟨J27⟩⟩
  rw [if_neg c16] at H
  have c16b0:decide ((t109.size:Int) < 3)=false:=decide_eq_false c16
  have c16b1:decide (t109.size < 3)=false:=decide_eq_false J7
  clear c16
  (first|rw [c16b0]|(simp only [i64_w];rw [c16b0])|skip)
  have H':=Y0 H
  clear H
  have p17:0≤(0:Int):=J7
  have q17:0 < t109.size:=J55
  have hx17:∀ h:0 < t109.size,((t109[0]'h).toNat:Int)=bt t109 0:=bt_at t109 0
  clear p17
  have qi17:(0 < (t109.size:Int))=True:=eq_true (of_decide_eq_true J3)
  replace q17:=eq_true q17
  go_wp2
  repeat (go_quiet (fail);try go_wp2)
  go_meet
  case rel=>exact ⟨_,(((bt t109 0) != 120)),J12,H',⟨J79⟩,⟨J10⟩,⟨J2⟩,⟨J27⟩⟩
 case rest =>
  clear HC14
  obtain ⟨kq,x33_13,rfl,HA,HJ13,HI0,HK,HB⟩:=hcut
  cases kq with
  | zero=>exact absurd HA.out (by simp [token_reader_mark.j0])
  | succ kj13 =>
   have H:=HA.out
   clear HA
   simp only [token_reader_mark.j0] at H
   by_cases c18:x33_13=true
   ·subst c18
    have H1:(some (0,false,t110,t111))=some (r1,r2,r3,r4):=by first|(rw [if_pos rfl] at H;exact H)|rfl
    clear H
    have H:=H1
    clear H1
    simp only [Option.some.injEq,Prod.mk.injEq] at H
    obtain ⟨rfl,rfl,rfl,rfl⟩:=H
    go_wp2
    repeat (go_quiet (fail);try go_wp2)
    go_ret2
    exact ⟨J21,J10,J27,J2⟩
   replace c18:=Bool.eq_false_iff.mpr c18
   subst c18
   have H1:(if 1 < (t109.size:Int) then ((strings_IndexByte.f (⟨#[48,49,50,51,52,53,54,55,56,57,97,98,99,100,101,102]⟩:ByteArray) (bt t109 1)).bind fun t113=>(if 2 < (t109.size:Int) then ((strings_IndexByte.f (⟨#[48,49,50,51,52,53,54,55,56,57,97,98,99,100,101,102]⟩:ByteArray) (bt t109 2)).bind fun t114=>(if t113 ≥ 0 then (some ((Go.bits .or .i64 (wrap64 (t113 * 16)) (Go.bits .and .i64 t114 15)) % 256,decide (t114 ≥ 0),t110,wrap64 (t111 + 3))) else (some ((Go.bits .or .i64 (wrap64 (t113 * 16)) (Go.bits .and .i64 t114 15)) % 256,false,t110,wrap64 (t111 + 3))))) else (none))) else (none))=some (r1,r2,r3,r4):=by first|(rw [if_neg (show ¬ (false=true) by decide)] at H;exact H)|rfl
   clear H
   have H:=H1
   clear H1
   by_cases c19:1 < (t109.size:Int)
   rotate_left
   ·rw [if_neg c19] at H
    exact absurd H J53
   rw [if_pos c19] at H
   have c19b0:decide (1 < (t109.size:Int))=true:=decide_eq_true c19
   have c19b1:decide (1 < t109.size)=true:=decide_eq_true J7
   clear c19
   replace H:=Y17.mp H
   obtain ⟨t113,A210,H⟩:=H
   replace H:(if 2 < (t109.size:Int) then ((strings_IndexByte.f (⟨#[48,49,50,51,52,53,54,55,56,57,97,98,99,100,101,102]⟩:ByteArray) (bt t109 2)).bind fun t114=>(if t113 ≥ 0 then (some ((Go.bits .or .i64 (wrap64 (t113 * 16)) (Go.bits .and .i64 t114 15)) % 256,decide (t114 ≥ 0),t110,wrap64 (t111 + 3))) else (some ((Go.bits .or .i64 (wrap64 (t113 * 16)) (Go.bits .and .i64 t114 15)) % 256,false,t110,wrap64 (t111 + 3))))) else (none))=some (r1,r2,r3,r4):=H
   have A21:=Y0 A210
   clear A210
   by_cases c22:2 < (t109.size:Int)
   rotate_left
   ·rw [if_neg c22] at H
    exact absurd H J53
   rw [if_pos c22] at H
   have c22b0:decide (2 < (t109.size:Int))=true:=decide_eq_true c22
   have c22b1:decide (2 < t109.size)=true:=decide_eq_true J7
   clear c22
   replace H:=Y17.mp H
   obtain ⟨t114,A240,H⟩:=H
   replace H:(if t113 ≥ 0 then (some ((Go.bits .or .i64 (wrap64 (t113 * 16)) (Go.bits .and .i64 t114 15)) % 256,decide (t114 ≥ 0),t110,wrap64 (t111 + 3))) else (some ((Go.bits .or .i64 (wrap64 (t113 * 16)) (Go.bits .and .i64 t114 15)) % 256,false,t110,wrap64 (t111 + 3))))=some (r1,r2,r3,r4):=H
   have A24:=Y0 A240
   clear A240
   by_cases c25:t113 ≥ 0
   ·rw [if_pos c25] at H
    have c25b0:decide (0≤t113)=true:=decide_eq_true c25
    clear c25
    simp only [Option.some.injEq,Prod.mk.injEq] at H
    obtain ⟨rfl,rfl,rfl,rfl⟩:=H
    have p20:0≤(1:Int):=J7
    have q20:1 < t109.size:=J141
    have hx20:∀ h:1 < t109.size,((t109[1]'h).toNat:Int)=bt t109 1:=bt_at t109 1
    clear p20
    have qi20:(1 < (t109.size:Int))=True:=eq_true (of_decide_eq_true J3)
    replace q20:=eq_true q20
    go_wp2_with (first|(go_at_call 124;(with_reducible refine (strings_IndexByte.calls (⟨#[48,49,50,51,52,53,54,55,56,57,97,98,99,100,101,102]⟩:ByteArray) (bt t109 1) t113 _ A21.out).mono ?_);rintro e w' ⟨rfl,⟨nd,rfl⟩⟩;(try first|exact ⟨rfl,_,World.drewN_drewN _ _ _⟩|exact ⟨rfl,_,Eq.trans (World.drewN_drewN _ _ _) (congrArg (World.drewN _) (Nat.add_assoc _ _ _))⟩);have p23:0≤(2:Int):=J7;have q23:2 < t109.size:=J65;have hx23:∀ h:2 < t109.size,((t109[2]'h).toNat:Int)=bt t109 2:=bt_at t109 2;clear p23;have qi23:(2 < (t109.size:Int))=True:=eq_true (of_decide_eq_true J3);replace q23:=eq_true q23)|(go_at_call 124;(with_reducible refine (strings_IndexByte.calls (⟨#[48,49,50,51,52,53,54,55,56,57,97,98,99,100,101,102]⟩:ByteArray) (bt t109 2) t114 _ A24.out).mono ?_);rintro e w' ⟨rfl,⟨nd,rfl⟩⟩;(try first|exact ⟨rfl,_,World.drewN_drewN _ _ _⟩|exact ⟨rfl,_,Eq.trans (World.drewN_drewN _ _ _) (congrArg (World.drewN _) (Nat.add_assoc _ _ _))⟩);obtain ⟨HGz26,hgz26⟩:=HI0.out;have hcz26_0:=cellS145_0 HGz26;have hcz26_1:=cellS145_1 HGz26;have hfz26_0:=blk_frozen HGz26 0;have hfz26_1:=blk_frozen HGz26 1;clear HGz26 hgz26))
    repeat (go_quiet (first|(go_at_call 124;(with_reducible refine (strings_IndexByte.calls (⟨#[48,49,50,51,52,53,54,55,56,57,97,98,99,100,101,102]⟩:ByteArray) (bt t109 1) t113 _ A21.out).mono ?_);rintro e w' ⟨rfl,⟨nd,rfl⟩⟩;(try first|exact ⟨rfl,_,World.drewN_drewN _ _ _⟩|exact ⟨rfl,_,Eq.trans (World.drewN_drewN _ _ _) (congrArg (World.drewN _) (Nat.add_assoc _ _ _))⟩);have p23:0≤(2:Int):=J7;have q23:2 < t109.size:=J65;have hx23:∀ h:2 < t109.size,((t109[2]'h).toNat:Int)=bt t109 2:=bt_at t109 2;clear p23;have qi23:(2 < (t109.size:Int))=True:=eq_true (of_decide_eq_true J3);replace q23:=eq_true q23)|(go_at_call 124;(with_reducible refine (strings_IndexByte.calls (⟨#[48,49,50,51,52,53,54,55,56,57,97,98,99,100,101,102]⟩:ByteArray) (bt t109 2) t114 _ A24.out).mono ?_);rintro e w' ⟨rfl,⟨nd,rfl⟩⟩;(try first|exact ⟨rfl,_,World.drewN_drewN _ _ _⟩|exact ⟨rfl,_,Eq.trans (World.drewN_drewN _ _ _) (congrArg (World.drewN _) (Nat.add_assoc _ _ _))⟩);obtain ⟨HGz26,hgz26⟩:=HI0.out;have hcz26_0:=cellS145_0 HGz26;have hcz26_1:=cellS145_1 HGz26;have hfz26_0:=blk_frozen HGz26 0;have hfz26_1:=blk_frozen HGz26 1;clear HGz26 hgz26));try go_wp2_with (first|(go_at_call 124;(with_reducible refine (strings_IndexByte.calls (⟨#[48,49,50,51,52,53,54,55,56,57,97,98,99,100,101,102]⟩:ByteArray) (bt t109 1) t113 _ A21.out).mono ?_);rintro e w' ⟨rfl,⟨nd,rfl⟩⟩;(try first|exact ⟨rfl,_,World.drewN_drewN _ _ _⟩|exact ⟨rfl,_,Eq.trans (World.drewN_drewN _ _ _) (congrArg (World.drewN _) (Nat.add_assoc _ _ _))⟩);have p23:0≤(2:Int):=J7;have q23:2 < t109.size:=J65;have hx23:∀ h:2 < t109.size,((t109[2]'h).toNat:Int)=bt t109 2:=bt_at t109 2;clear p23;have qi23:(2 < (t109.size:Int))=True:=eq_true (of_decide_eq_true J3);replace q23:=eq_true q23)|(go_at_call 124;(with_reducible refine (strings_IndexByte.calls (⟨#[48,49,50,51,52,53,54,55,56,57,97,98,99,100,101,102]⟩:ByteArray) (bt t109 2) t114 _ A24.out).mono ?_);rintro e w' ⟨rfl,⟨nd,rfl⟩⟩;(try first|exact ⟨rfl,_,World.drewN_drewN _ _ _⟩|exact ⟨rfl,_,Eq.trans (World.drewN_drewN _ _ _) (congrArg (World.drewN _) (Nat.add_assoc _ _ _))⟩);obtain ⟨HGz26,hgz26⟩:=HI0.out;have hcz26_0:=cellS145_0 HGz26;have hcz26_1:=cellS145_1 HGz26;have hfz26_0:=blk_frozen HGz26 0;have hfz26_1:=blk_frozen HGz26 1;clear HGz26 hgz26)))
    go_ret2
    exact ⟨J21,J10,J27,J2⟩
   rw [if_neg c25] at H
   have c25b0:decide (0≤t113)=false:=decide_eq_false c25
   clear c25
   simp only [Option.some.injEq,Prod.mk.injEq] at H
   obtain ⟨rfl,rfl,rfl,rfl⟩:=H
   have p20:0≤(1:Int):=J7
   have q20:1 < t109.size:=J141
   have hx20:∀ h:1 < t109.size,((t109[1]'h).toNat:Int)=bt t109 1:=bt_at t109 1
   clear p20
   have qi20:(1 < (t109.size:Int))=True:=eq_true (of_decide_eq_true J3)
   replace q20:=eq_true q20
   go_wp2_with (first|(go_at_call 124;(with_reducible refine (strings_IndexByte.calls (⟨#[48,49,50,51,52,53,54,55,56,57,97,98,99,100,101,102]⟩:ByteArray) (bt t109 1) t113 _ A21.out).mono ?_);rintro e w' ⟨rfl,⟨nd,rfl⟩⟩;(try first|exact ⟨rfl,_,World.drewN_drewN _ _ _⟩|exact ⟨rfl,_,Eq.trans (World.drewN_drewN _ _ _) (congrArg (World.drewN _) (Nat.add_assoc _ _ _))⟩);have p23:0≤(2:Int):=J7;have q23:2 < t109.size:=J65;have hx23:∀ h:2 < t109.size,((t109[2]'h).toNat:Int)=bt t109 2:=bt_at t109 2;clear p23;have qi23:(2 < (t109.size:Int))=True:=eq_true (of_decide_eq_true J3);replace q23:=eq_true q23)|(go_at_call 124;(with_reducible refine (strings_IndexByte.calls (⟨#[48,49,50,51,52,53,54,55,56,57,97,98,99,100,101,102]⟩:ByteArray) (bt t109 2) t114 _ A24.out).mono ?_);rintro e w' ⟨rfl,⟨nd,rfl⟩⟩;(try first|exact ⟨rfl,_,World.drewN_drewN _ _ _⟩|exact ⟨rfl,_,Eq.trans (World.drewN_drewN _ _ _) (congrArg (World.drewN _) (Nat.add_assoc _ _ _))⟩);obtain ⟨HGz27,hgz27⟩:=HI0.out;have hcz27_0:=cellS145_0 HGz27;have hcz27_1:=cellS145_1 HGz27;have hfz27_0:=blk_frozen HGz27 0;have hfz27_1:=blk_frozen HGz27 1;clear HGz27 hgz27))
   repeat (go_quiet (first|(go_at_call 124;(with_reducible refine (strings_IndexByte.calls (⟨#[48,49,50,51,52,53,54,55,56,57,97,98,99,100,101,102]⟩:ByteArray) (bt t109 1) t113 _ A21.out).mono ?_);rintro e w' ⟨rfl,⟨nd,rfl⟩⟩;(try first|exact ⟨rfl,_,World.drewN_drewN _ _ _⟩|exact ⟨rfl,_,Eq.trans (World.drewN_drewN _ _ _) (congrArg (World.drewN _) (Nat.add_assoc _ _ _))⟩);have p23:0≤(2:Int):=J7;have q23:2 < t109.size:=J65;have hx23:∀ h:2 < t109.size,((t109[2]'h).toNat:Int)=bt t109 2:=bt_at t109 2;clear p23;have qi23:(2 < (t109.size:Int))=True:=eq_true (of_decide_eq_true J3);replace q23:=eq_true q23)|(go_at_call 124;(with_reducible refine (strings_IndexByte.calls (⟨#[48,49,50,51,52,53,54,55,56,57,97,98,99,100,101,102]⟩:ByteArray) (bt t109 2) t114 _ A24.out).mono ?_);rintro e w' ⟨rfl,⟨nd,rfl⟩⟩;(try first|exact ⟨rfl,_,World.drewN_drewN _ _ _⟩|exact ⟨rfl,_,Eq.trans (World.drewN_drewN _ _ _) (congrArg (World.drewN _) (Nat.add_assoc _ _ _))⟩);obtain ⟨HGz27,hgz27⟩:=HI0.out;have hcz27_0:=cellS145_0 HGz27;have hcz27_1:=cellS145_1 HGz27;have hfz27_0:=blk_frozen HGz27 0;have hfz27_1:=blk_frozen HGz27 1;clear HGz27 hgz27));try go_wp2_with (first|(go_at_call 124;(with_reducible refine (strings_IndexByte.calls (⟨#[48,49,50,51,52,53,54,55,56,57,97,98,99,100,101,102]⟩:ByteArray) (bt t109 1) t113 _ A21.out).mono ?_);rintro e w' ⟨rfl,⟨nd,rfl⟩⟩;(try first|exact ⟨rfl,_,World.drewN_drewN _ _ _⟩|exact ⟨rfl,_,Eq.trans (World.drewN_drewN _ _ _) (congrArg (World.drewN _) (Nat.add_assoc _ _ _))⟩);have p23:0≤(2:Int):=J7;have q23:2 < t109.size:=J65;have hx23:∀ h:2 < t109.size,((t109[2]'h).toNat:Int)=bt t109 2:=bt_at t109 2;clear p23;have qi23:(2 < (t109.size:Int))=True:=eq_true (of_decide_eq_true J3);replace q23:=eq_true q23)|(go_at_call 124;(with_reducible refine (strings_IndexByte.calls (⟨#[48,49,50,51,52,53,54,55,56,57,97,98,99,100,101,102]⟩:ByteArray) (bt t109 2) t114 _ A24.out).mono ?_);rintro e w' ⟨rfl,⟨nd,rfl⟩⟩;(try first|exact ⟨rfl,_,World.drewN_drewN _ _ _⟩|exact ⟨rfl,_,Eq.trans (World.drewN_drewN _ _ _) (congrArg (World.drewN _) (Nat.add_assoc _ _ _))⟩);obtain ⟨HGz27,hgz27⟩:=HI0.out;have hcz27_0:=cellS145_0 HGz27;have hcz27_1:=cellS145_1 HGz27;have hfz27_0:=blk_frozen HGz27 0;have hfz27_1:=blk_frozen HGz27 1;clear HGz27 hgz27)))
   go_ret2
   exact ⟨J21,J10,J27,J2⟩
def token_reader_str.l0:Nat→List Int→ByteArray→Int→Option (Int × ByteArray × Int × Int × Bool × ByteArray × Int)
 | 0,_,_,_=>none
 | k + 1,x4,x1000,x1001=>if x1001 < (x1000.size:Int) then (if 0≤x1001 then (if (bt x1000 x1001)=34 then (some (2,strOfNums x4,0,0,true,x1000,wrap64 (x1001 + 1))) else (if (bt x1000 x1001)=92 then ((token_reader_mark.f k x1000 (wrap64 (x1001 + 1))).bind fun bt116=>(if bt116.2.1=true then (if x4.length < 140737488355328 then (token_reader_str.l0 k (x4++[bt116.1]) bt116.2.2.1 bt116.2.2.2) else (none)) else (some (0,(⟨#[]⟩:ByteArray),0,0,false,bt116.2.2.1,bt116.2.2.2)))) else (if (bt x1000 x1001) < 32 then (some (0,(⟨#[]⟩:ByteArray),0,0,false,x1000,wrap64 (x1001 + 1))) else (if (bt x1000 x1001)=127 then (some (0,(⟨#[]⟩:ByteArray),0,0,false,x1000,wrap64 (x1001 + 1))) else (if x4.length < 140737488355328 then (token_reader_str.l0 k (x4++[bt x1000 x1001]) x1000 (wrap64 (x1001 + 1))) else (none)))))) else (none)) else (some (0,(⟨#[]⟩:ByteArray),0,0,false,x1000,x1001))
def token_reader_str.f (k:Nat) (s0_0:ByteArray) (s0_1:Int):Option (Int × ByteArray × Int × Int × Bool × ByteArray × Int):=token_reader_str.l0 k ([]:List Int) s0_0 (wrap64 (s0_1 + 1))
set_option maxHeartbeats 8000000 in
set_option maxRecDepth 100000 in
theorem token_reader_str.calls (k:Nat) (g:Nat) (s0_0:ByteArray) (s0_1:Int) (r1:Int) (r2:ByteArray) (r3:Int) (r4:Int) (r5:Bool) (r6:ByteArray) (r7:Int) (w0 w:World) (hI:IsS145 w0 w g s0_0 s0_1) (hB:Below w0.heap.size w0 w) (h:token_reader_str.f k s0_0 s0_1=some (r1,r2,r3,r4,r5,r6,r7)) :
  Calls Tryz.prog 84 #[.pointer (some ⟨g,0,none⟩)] w fun e w'=>e = .returned (.tuple #[.agg #[.int .i64 r1,.string r2,.int .i64 r3,.int .i64 r4],.bool r5])∧IsS145 w0 w' g r6 r7∧Below w0.heap.size w0 w'∧KeepBut w w' g none:=by
 have hu149:=Tryz.underlying149
 have HI0:=Y0 hI
 have HK:=Y0 (KeepBut.refl w g none)
 have HL:=Y0 hB.size
 clear hI
 have HW0:=Y0 hB.size
 have HB:=Y0 hB
 clear hB
 have H:(token_reader_str.l0 k ([]:List Int) s0_0 (wrap64 (s0_1 + 1)))=some (r1,r2,r3,r4,r5,r6,r7):=h
 clear h
 have H':=Y0 H
 clear H
 go_enter Tryz.func84,Tryz.ntmps84
 go_wp2_with (first|((with_reducible refine gate_dst (N:=2) rfl ?_);refine box_event ?hg (N:=2) ?hd (cs:=#[.int .i64 0,.string (⟨#[]⟩:ByteArray),.int .i64 0,.int .i64 0]) (t:=149) ?hr ?_;(case hd=>rfl);(case hg=>rfl);(case hr=>first|(go_simp;done)|(go_simp;rfl));intro gb115 hg w2 hbox hb;have n0_:=Y0 (IsS145.below J10 hb);have n1_:=Y0 (KeepBut.trans J2 (KeepBut.of_below hb g none) (.inl rfl));have n2_:=Y0 (below_step J27 hb);have n3_:=Y0 (hbox);have n4_:=Y0 ((by rw [hg];exact (keep_size (w:=w) (g:=g) (row:=none) J2):w.heap.size≤gb115));have n5_:=Y0 ((Nat.le_trans HW0.out (by rw [hg];exact (keep_size (w:=w) (g:=g) (row:=none) J2):w.heap.size≤gb115):w0.heap.size≤gb115));have n6_:=Y0 ((by rw [hg];exact Nat.ne_of_lt (IsS145.lt (show IsS145 w0 _ g s0_0 s0_1 from by repeat (with_reducible first|exact HI0.out|apply IsS145.alloc|apply IsS145.drewN|apply IsS145.drew|apply IsS145.set_0|apply IsS145.set_1))):g≠gb115));have n7_:=Y0 ((by rw [hg];exact Nat.ne_of_gt (IsS145.lt (show IsS145 w0 _ g s0_0 s0_1 from by repeat (with_reducible first|exact HI0.out|apply IsS145.alloc|apply IsS145.drewN|apply IsS145.drew|apply IsS145.set_0|apply IsS145.set_1))):gb115≠g));clear HI0;clear HK;clear HB;have HI0:=n0_;have HK:=n1_;have HB:=n2_;have BK115:=n3_;have GW115:=n4_;have GE115:=n5_;have NB0_115:=n6_;have NB115_0:=n7_;clear n0_ n1_ n2_ n3_ n4_ n5_ n6_ n7_;clear hb hbox hg;obtain ⟨HGz3,hgz3⟩:=HI0.out;have hcz3_0:=cellS145_0 HGz3;have hcz3_1:=cellS145_1 HGz3;have hfz3_0:=blk_frozen HGz3 0;have hfz3_1:=blk_frozen HGz3 1;clear HGz3 hgz3))
 repeat (go_quiet (first|((with_reducible refine gate_dst (N:=2) rfl ?_);refine box_event ?hg (N:=2) ?hd (cs:=#[.int .i64 0,.string (⟨#[]⟩:ByteArray),.int .i64 0,.int .i64 0]) (t:=149) ?hr ?_;(case hd=>rfl);(case hg=>rfl);(case hr=>first|(go_simp;done)|(go_simp;rfl));intro gb115 hg w2 hbox hb;have n0_:=Y0 (IsS145.below J10 hb);have n1_:=Y0 (KeepBut.trans J2 (KeepBut.of_below hb g none) (.inl rfl));have n2_:=Y0 (below_step J27 hb);have n3_:=Y0 (hbox);have n4_:=Y0 ((by rw [hg];exact (keep_size (w:=w) (g:=g) (row:=none) J2):w.heap.size≤gb115));have n5_:=Y0 ((Nat.le_trans HW0.out (by rw [hg];exact (keep_size (w:=w) (g:=g) (row:=none) J2):w.heap.size≤gb115):w0.heap.size≤gb115));have n6_:=Y0 ((by rw [hg];exact Nat.ne_of_lt (IsS145.lt (show IsS145 w0 _ g s0_0 s0_1 from by repeat (with_reducible first|exact HI0.out|apply IsS145.alloc|apply IsS145.drewN|apply IsS145.drew|apply IsS145.set_0|apply IsS145.set_1))):g≠gb115));have n7_:=Y0 ((by rw [hg];exact Nat.ne_of_gt (IsS145.lt (show IsS145 w0 _ g s0_0 s0_1 from by repeat (with_reducible first|exact HI0.out|apply IsS145.alloc|apply IsS145.drewN|apply IsS145.drew|apply IsS145.set_0|apply IsS145.set_1))):gb115≠g));clear HI0;clear HK;clear HB;have HI0:=n0_;have HK:=n1_;have HB:=n2_;have BK115:=n3_;have GW115:=n4_;have GE115:=n5_;have NB0_115:=n6_;have NB115_0:=n7_;clear n0_ n1_ n2_ n3_ n4_ n5_ n6_ n7_;clear hb hbox hg;obtain ⟨HGz3,hgz3⟩:=HI0.out;have hcz3_0:=cellS145_0 HGz3;have hcz3_1:=cellS145_1 HGz3;have hfz3_0:=blk_frozen HGz3 0;have hfz3_1:=blk_frozen HGz3 1;clear HGz3 hgz3));try go_wp2_with (first|((with_reducible refine gate_dst (N:=2) rfl ?_);refine box_event ?hg (N:=2) ?hd (cs:=#[.int .i64 0,.string (⟨#[]⟩:ByteArray),.int .i64 0,.int .i64 0]) (t:=149) ?hr ?_;(case hd=>rfl);(case hg=>rfl);(case hr=>first|(go_simp;done)|(go_simp;rfl));intro gb115 hg w2 hbox hb;have n0_:=Y0 (IsS145.below J10 hb);have n1_:=Y0 (KeepBut.trans J2 (KeepBut.of_below hb g none) (.inl rfl));have n2_:=Y0 (below_step J27 hb);have n3_:=Y0 (hbox);have n4_:=Y0 ((by rw [hg];exact (keep_size (w:=w) (g:=g) (row:=none) J2):w.heap.size≤gb115));have n5_:=Y0 ((Nat.le_trans HW0.out (by rw [hg];exact (keep_size (w:=w) (g:=g) (row:=none) J2):w.heap.size≤gb115):w0.heap.size≤gb115));have n6_:=Y0 ((by rw [hg];exact Nat.ne_of_lt (IsS145.lt (show IsS145 w0 _ g s0_0 s0_1 from by repeat (with_reducible first|exact HI0.out|apply IsS145.alloc|apply IsS145.drewN|apply IsS145.drew|apply IsS145.set_0|apply IsS145.set_1))):g≠gb115));have n7_:=Y0 ((by rw [hg];exact Nat.ne_of_gt (IsS145.lt (show IsS145 w0 _ g s0_0 s0_1 from by repeat (with_reducible first|exact HI0.out|apply IsS145.alloc|apply IsS145.drewN|apply IsS145.drew|apply IsS145.set_0|apply IsS145.set_1))):gb115≠g));clear HI0;clear HK;clear HB;have HI0:=n0_;have HK:=n1_;have HB:=n2_;have BK115:=n3_;have GW115:=n4_;have GE115:=n5_;have NB0_115:=n6_;have NB115_0:=n7_;clear n0_ n1_ n2_ n3_ n4_ n5_ n6_ n7_;clear hb hbox hg;obtain ⟨HGz3,hgz3⟩:=HI0.out;have hcz3_0:=cellS145_0 HGz3;have hcz3_1:=cellS145_1 HGz3;have hfz3_0:=blk_frozen HGz3 0;have hfz3_1:=blk_frozen HGz3 1;clear HGz3 hgz3)))
 go_loopg [4] k (fun kq v4 w'=>∃ (x4_1:List Int) (x1000_1:ByteArray) (x1001_1:Int) (x116000_1:Int) (x116001_1:ByteArray) (x116002_1:Int) (x116003_1:Int),Aside0 (token_reader_str.l0 kq x4_1 x1000_1 x1001_1=some (r1,r2,r3,r4,r5,r6,r7))∧Aside0 (kq≤k)∧Aside0 (Kd.R (Kd.int .u8) 5 w' w.heap.size (fun _=>True) v4 x4_1)∧Aside0 (w'.heap[gb115]?=some (.cells #[.int .i64 x116000_1,.string x116001_1,.int .i64 x116002_1,.int .i64 x116003_1] 149 (0,0)))∧Aside0 (IsS145 w0 w' g x1000_1 x1001_1)∧Aside0 (KeepBut w w' g none)∧Aside0 (Below w0.heap.size w0 w'))
 case atStart=>exact ⟨(([]:List Int)),(s0_0),(wrap64 (s0_1 + 1)),(0),((⟨#[]⟩:ByteArray)),(0),(0),H',⟨Nat.le_refl _⟩,⟨J132⟩,⟨J30⟩,⟨J22⟩,⟨J14⟩,⟨J28⟩⟩
 case round =>
  clear H'
  try clear p2;try clear hcz3_0;try clear hcz3_1;try clear hfz3_0;try clear hfz3_1
  obtain ⟨x4_1,x1000_1,x1001_1,x116000_1,x116001_1,x116002_1,x116003_1,HA,HK1,HO_4,BK115,HI0,HK,HB⟩:=hrel
  cases gk with
  | zero=>exact absurd HA.out (by simp [token_reader_str.l0])
  | succ k1 =>
   have H:=HA.out
   clear HA
   simp only [token_reader_str.l0] at H
   by_cases c4:x1001_1 < (x1000_1.size:Int)
   rotate_left
   ·rw [if_neg c4] at H
    have c4b0:decide (x1001_1 < (x1000_1.size:Int))=false:=decide_eq_false c4
    clear c4
    simp only [Option.some.injEq,Prod.mk.injEq] at H
    obtain ⟨rfl,rfl,rfl,rfl,rfl,rfl,rfl⟩:=H
    obtain ⟨HGz34,hgz34⟩:=HI0.out
    have hcz34_0:=cellS145_0 HGz34
    have hcz34_1:=cellS145_1 HGz34
    have hfz34_0:=blk_frozen HGz34 0
    have hfz34_1:=blk_frozen HGz34 1
    clear HGz34 hgz34
    have hnb35:=NB115_0.out
    have hnc35:=NB0_115.out
    have ⟨hcz36_0,hcz36_1,hcz36_2,hcz36_3,hfz36_0,hfz36_1,hfz36_2,hfz36_3⟩:=sq_box4 BK115.out
    go_wp2
    repeat (go_quiet (fail);try go_wp2)
    refine bodyPost_ret (results_ct rfl _ _ gb115 149 #[.int .i64 0,.string (⟨#[]⟩:ByteArray),.int .i64 0,.int .i64 0] (0,0) _ rfl J50 Tryz.underlying149 rfl J0) rfl ?_
    exact ⟨J21,J22,J28,J14⟩
   rw [if_pos c4] at H
   have c4b0:decide (x1001_1 < (x1000_1.size:Int))=true:=decide_eq_true c4
   clear c4
   by_cases c5:0≤x1001_1
   rotate_left
   ·rw [if_neg c5] at H
    exact absurd H J53
   rw [if_pos c5] at H
   have c5b0:decide (0≤x1001_1)=true:=decide_eq_true c5
   clear c5
   by_cases c7:(bt x1000_1 x1001_1)=34
   ·rw [if_pos c7] at H
    have c7b0:((bt x1000_1 x1001_1) == 34)=true:=beq_iff_eq.mpr c7
    have c7b1:((bt x1000_1 x1001_1) != 34)=false:=bne_eq_false_iff_eq.mpr c7
    clear c7
    simp only [Option.some.injEq,Prod.mk.injEq] at H
    obtain ⟨rfl,rfl,rfl,rfl,rfl,rfl,rfl⟩:=H
    obtain ⟨HGz8,hgz8⟩:=HI0.out
    have hcz8_0:=cellS145_0 HGz8
    have hcz8_1:=cellS145_1 HGz8
    have hfz8_0:=blk_frozen HGz8 0
    have hfz8_1:=blk_frozen HGz8 1
    clear HGz8 hgz8
    have p6:0≤(x1001_1:Int):=of_decide_eq_true J3
    have q6:x1001_1 < (x1000_1.size:Int):=of_decide_eq_true J3
    have hx6:=bt_at x1000_1 x1001_1
    replace p6:=eq_true p6
    replace q6:=eq_true q6
    have hcv9:=own_string (P:=Tryz.prog) Tryz.underlying84 Tryz.underlying5 Tryz.underlying9 (Kd.own_of_R HO_4.out)
    have hcv9b:=fun m u=>own_string (P:=Tryz.prog) Tryz.underlying84 Tryz.underlying5 Tryz.underlying9 (Kd.own_of_R (Kd.R_keep (IsS145.apart HI0.out HO_4.out J11) ((keep_drewN (KeepBut.refl _ g none) m).set_ 1 u) (fun _ h=>h.2)))
    have hnb10:=NB115_0.out
    have hnc10:=NB0_115.out
    have ⟨hcz11_0,hcz11_1,hcz11_2,hcz11_3,hfz11_0,hfz11_1,hfz11_2,hfz11_3⟩:=sq_box4 BK115.out
    go_wp2
    repeat (go_quiet (fail);try go_wp2)
    refine bodyPost_ret (results_ct rfl _ _ gb115 149 #[.int .i64 2,.string (strOfNums x4_1),.int .i64 0,.int .i64 0] (0,0) _ rfl (by (with_reducible repeat first|apply Y11|apply Y13|apply Y12);refine blk_put (cs:=#[.int .i64 2,.string (strOfNums x4_1),.int .i64 0,.int .i64 x116003_1]) ?_ 3 _ rfl;(with_reducible repeat first|apply Y11|apply Y13|apply Y12);refine blk_put (cs:=#[.int .i64 2,.string (strOfNums x4_1),.int .i64 x116002_1,.int .i64 x116003_1]) ?_ 2 _ rfl;(with_reducible repeat first|apply Y11|apply Y13|apply Y12);refine blk_put (cs:=#[.int .i64 2,.string x116001_1,.int .i64 x116002_1,.int .i64 x116003_1]) ?_ 1 _ rfl;(with_reducible repeat first|apply Y11|apply Y13|apply Y12);refine blk_put (cs:=#[.int .i64 x116000_1,.string x116001_1,.int .i64 x116002_1,.int .i64 x116003_1]) ?_ 0 _ rfl;(with_reducible repeat first|apply Y11|apply Y13|apply Y12);refine blk_far ?_ NB115_0.out _;(with_reducible repeat first|apply Y11|apply Y13|apply Y12);exact BK115.out) Tryz.underlying149 rfl J0) rfl ?_
    exact ⟨J21,J22,J28,J14⟩
   rw [if_neg c7] at H
   have c7b0:((bt x1000_1 x1001_1) == 34)=false:=beq_eq_false_iff_ne.mpr c7
   have c7b1:((bt x1000_1 x1001_1) != 34)=true:=bne_iff_ne.mpr c7
   by_cases c12:(bt x1000_1 x1001_1)=92
   rotate_left
   ·rw [if_neg c12] at H
    have c12b0:((bt x1000_1 x1001_1) == 92)=false:=beq_eq_false_iff_ne.mpr c12
    have c12b1:((bt x1000_1 x1001_1) != 92)=true:=bne_iff_ne.mpr c12
    by_cases c23:(bt x1000_1 x1001_1) < 32
    ·rw [if_pos c23] at H
     have c23b0:decide ((bt x1000_1 x1001_1) < 32)=true:=decide_eq_true c23
     clear c23
     simp only [Option.some.injEq,Prod.mk.injEq] at H
     obtain ⟨rfl,rfl,rfl,rfl,rfl,rfl,rfl⟩:=H
     obtain ⟨HGz24,hgz24⟩:=HI0.out
     have hcz24_0:=cellS145_0 HGz24
     have hcz24_1:=cellS145_1 HGz24
     have hfz24_0:=blk_frozen HGz24 0
     have hfz24_1:=blk_frozen HGz24 1
     clear HGz24 hgz24
     have p6:0≤(x1001_1:Int):=of_decide_eq_true J3
     have q6:x1001_1 < (x1000_1.size:Int):=of_decide_eq_true J3
     have hx6:=bt_at x1000_1 x1001_1
     replace p6:=eq_true p6
     replace q6:=eq_true q6
     have hnb25:=NB115_0.out
     have hnc25:=NB0_115.out
     have ⟨hcz26_0,hcz26_1,hcz26_2,hcz26_3,hfz26_0,hfz26_1,hfz26_2,hfz26_3⟩:=sq_box4 BK115.out
     go_wp2
     repeat (go_quiet (fail);try go_wp2)
     refine bodyPost_ret (results_ct rfl _ _ gb115 149 #[.int .i64 0,.string (⟨#[]⟩:ByteArray),.int .i64 0,.int .i64 0] (0,0) _ rfl J48 Tryz.underlying149 rfl J0) rfl ?_
     exact ⟨J21,J22,J28,J14⟩
    rw [if_neg c23] at H
    have c23b0:decide ((bt x1000_1 x1001_1) < 32)=false:=decide_eq_false c23
    clear c23
    by_cases c27:(bt x1000_1 x1001_1)=127
    ·rw [if_pos c27] at H
     have c27b0:((bt x1000_1 x1001_1) == 127)=true:=beq_iff_eq.mpr c27
     have c27b1:((bt x1000_1 x1001_1) != 127)=false:=bne_eq_false_iff_eq.mpr c27
     clear c27
     simp only [Option.some.injEq,Prod.mk.injEq] at H
     obtain ⟨rfl,rfl,rfl,rfl,rfl,rfl,rfl⟩:=H
     obtain ⟨HGz28,hgz28⟩:=HI0.out
     have hcz28_0:=cellS145_0 HGz28
     have hcz28_1:=cellS145_1 HGz28
     have hfz28_0:=blk_frozen HGz28 0
     have hfz28_1:=blk_frozen HGz28 1
     clear HGz28 hgz28
     have p6:0≤(x1001_1:Int):=of_decide_eq_true J3
     have q6:x1001_1 < (x1000_1.size:Int):=of_decide_eq_true J3
     have hx6:=bt_at x1000_1 x1001_1
     replace p6:=eq_true p6
     replace q6:=eq_true q6
     have hnb29:=NB115_0.out
     have hnc29:=NB0_115.out
     have ⟨hcz30_0,hcz30_1,hcz30_2,hcz30_3,hfz30_0,hfz30_1,hfz30_2,hfz30_3⟩:=sq_box4 BK115.out
     go_wp2
     repeat (go_quiet (fail);try go_wp2)
     refine bodyPost_ret (results_ct rfl _ _ gb115 149 #[.int .i64 0,.string (⟨#[]⟩:ByteArray),.int .i64 0,.int .i64 0] (0,0) _ rfl J48 Tryz.underlying149 rfl J0) rfl ?_
     exact ⟨J21,J22,J28,J14⟩
    rw [if_neg c27] at H
    have c27b0:((bt x1000_1 x1001_1) == 127)=false:=beq_eq_false_iff_ne.mpr c27
    have c27b1:((bt x1000_1 x1001_1) != 127)=true:=bne_iff_ne.mpr c27
    by_cases c31:x4_1.length < 140737488355328
    rotate_left
    ·rw [if_neg c31] at H
     exact absurd H J53
    rw [if_pos c31] at H
    have LMc31:=Y0 c31
    clear c31
    obtain ⟨y123,hy123⟩:∃ y_:List Int,y_=(x4_1++[bt x1000_1 x1001_1]):=⟨_,rfl⟩
    replace H:(token_reader_str.l0 k1 y123 x1000_1 (wrap64 (x1001_1 + 1)))=some (r1,r2,r3,r4,r5,r6,r7):=by first|(rw [hy123];with_reducible exact H)|(have H2_:=(Option.bind_some _ _).symm.trans H;rw [hy123];with_reducible exact H2_)|(have H2_:=(Option.bind_some _ _).symm.trans H;with_reducible exact H2_)|with_reducible exact H|(rw [hy123];exact H)|exact H
    have Ny123:=Y0 hy123
    clear hy123
    have H':=Y0 H
    clear H
    obtain ⟨HGz32,hgz32⟩:=HI0.out
    have hcz32_0:=cellS145_0 HGz32
    have hcz32_1:=cellS145_1 HGz32
    have hfz32_0:=blk_frozen HGz32 0
    have hfz32_1:=blk_frozen HGz32 1
    clear HGz32 hgz32
    have p6:0≤(x1001_1:Int):=of_decide_eq_true J3
    have q6:x1001_1 < (x1000_1.size:Int):=of_decide_eq_true J3
    have hx6:=bt_at x1000_1 x1001_1
    replace p6:=eq_true p6
    replace q6:=eq_true q6
    go_wp2_with (first|((with_reducible refine gate_builtin (b:=.append) (xs:=#[.tmp 41,.tmp 43]) rfl ?_);at_builtin;refine Kd.R_append (Kd.int .u8) w.heap.size rfl (.tmp 41) (.tmp 43) 84 5 (.int .u8 0) 1 rfl Tryz.underlying84 info5 rfl J11 J7 u4 x4_1 (bt x1000_1 x1001_1) [.int .u8 (bt x1000_1 x1001_1)] (fun _=>True) (fun _=>False) rfl J139 ?aP (fun _ hk=>hk.elim) ?aF ?aO (Below.refl _ _) ?aS ?aL ?_;(case aP=>exact rfl);(case aF=>exact (fun _ _=>trivial));(case aO=>exact J76);(case aS=>exact (keep_size (w:=w) (g:=g) (row:=none) J14));(case aL=>have:=LMc31.out;omega);intro v124 w33 ho hb hg hat;rw [← Ny123.out] at ho;have n0_:=Y0 (blk_grown (g:=gb115) (o:=.cells #[.int .i64 x116000_1,.string x116001_1,.int .i64 x116002_1,.int .i64 x116003_1] 149 (0,0)) J30 hg (Kd.R_ne HO_4.out BK115.out J11));have n1_:=Y0 (IsS145.grown J22 hg (IsS145.own_ne HI0.out HO_4.out J11));have n2_:=Y0 (below_weaken J28 HL.out hb);have n3_:=Y0 (KeepBut.trans J14 (KeepBut.of_grown hg g) (Kd.R_base2 HO_4.out));have n4_:=Y0 (ho);clear BK115;clear HI0;clear HB;clear HK;clear HO_4;have BK115:=n0_;have HI0:=n1_;have HB:=n2_;have HK:=n3_;have HO125:=n4_;clear n0_ n1_ n2_ n3_ n4_;clear ho hb hg hat))
    repeat (go_quiet (first|((with_reducible refine gate_builtin (b:=.append) (xs:=#[.tmp 41,.tmp 43]) rfl ?_);at_builtin;refine Kd.R_append (Kd.int .u8) w.heap.size rfl (.tmp 41) (.tmp 43) 84 5 (.int .u8 0) 1 rfl Tryz.underlying84 info5 rfl J11 J7 u4 x4_1 (bt x1000_1 x1001_1) [.int .u8 (bt x1000_1 x1001_1)] (fun _=>True) (fun _=>False) rfl J139 ?aP (fun _ hk=>hk.elim) ?aF ?aO (Below.refl _ _) ?aS ?aL ?_;(case aP=>exact rfl);(case aF=>exact (fun _ _=>trivial));(case aO=>exact J76);(case aS=>exact (keep_size (w:=w) (g:=g) (row:=none) J14));(case aL=>have:=LMc31.out;omega);intro v124 w33 ho hb hg hat;rw [← Ny123.out] at ho;have n0_:=Y0 (blk_grown (g:=gb115) (o:=.cells #[.int .i64 x116000_1,.string x116001_1,.int .i64 x116002_1,.int .i64 x116003_1] 149 (0,0)) J30 hg (Kd.R_ne HO_4.out BK115.out J11));have n1_:=Y0 (IsS145.grown J22 hg (IsS145.own_ne HI0.out HO_4.out J11));have n2_:=Y0 (below_weaken J28 HL.out hb);have n3_:=Y0 (KeepBut.trans J14 (KeepBut.of_grown hg g) (Kd.R_base2 HO_4.out));have n4_:=Y0 (ho);clear BK115;clear HI0;clear HB;clear HK;clear HO_4;have BK115:=n0_;have HI0:=n1_;have HB:=n2_;have HK:=n3_;have HO125:=n4_;clear n0_ n1_ n2_ n3_ n4_;clear ho hb hg hat));try go_wp2_with (first|((with_reducible refine gate_builtin (b:=.append) (xs:=#[.tmp 41,.tmp 43]) rfl ?_);at_builtin;refine Kd.R_append (Kd.int .u8) w.heap.size rfl (.tmp 41) (.tmp 43) 84 5 (.int .u8 0) 1 rfl Tryz.underlying84 info5 rfl J11 J7 u4 x4_1 (bt x1000_1 x1001_1) [.int .u8 (bt x1000_1 x1001_1)] (fun _=>True) (fun _=>False) rfl J139 ?aP (fun _ hk=>hk.elim) ?aF ?aO (Below.refl _ _) ?aS ?aL ?_;(case aP=>exact rfl);(case aF=>exact (fun _ _=>trivial));(case aO=>exact J76);(case aS=>exact (keep_size (w:=w) (g:=g) (row:=none) J14));(case aL=>have:=LMc31.out;omega);intro v124 w33 ho hb hg hat;rw [← Ny123.out] at ho;have n0_:=Y0 (blk_grown (g:=gb115) (o:=.cells #[.int .i64 x116000_1,.string x116001_1,.int .i64 x116002_1,.int .i64 x116003_1] 149 (0,0)) J30 hg (Kd.R_ne HO_4.out BK115.out J11));have n1_:=Y0 (IsS145.grown J22 hg (IsS145.own_ne HI0.out HO_4.out J11));have n2_:=Y0 (below_weaken J28 HL.out hb);have n3_:=Y0 (KeepBut.trans J14 (KeepBut.of_grown hg g) (Kd.R_base2 HO_4.out));have n4_:=Y0 (ho);clear BK115;clear HI0;clear HB;clear HK;clear HO_4;have BK115:=n0_;have HI0:=n1_;have HB:=n2_;have HK:=n3_;have HO125:=n4_;clear n0_ n1_ n2_ n3_ n4_;clear ho hb hg hat)))
    go_roundg k1
    case measure=>have:=HK1.out;omega
    case rel=>exact ⟨(y123),(x1000_1),(wrap64 (x1001_1 + 1)),(x116000_1),(x116001_1),(x116002_1),(x116003_1),H',⟨J123⟩,⟨by (with_reducible repeat (first|apply Y5|apply Y6|apply Y7));exact HO125.out⟩,⟨J90⟩,⟨J22⟩,⟨J14⟩,⟨J28⟩⟩
   rw [if_pos c12] at H
   have c12b0:((bt x1000_1 x1001_1) == 92)=true:=beq_iff_eq.mpr c12
   have c12b1:((bt x1000_1 x1001_1) != 92)=false:=bne_eq_false_iff_eq.mpr c12
   clear c12
   replace H:=Y17.mp H
   obtain ⟨⟨t116,t117,t118,t119⟩,A130,H⟩:=H
   replace H:(if t117=true then (if x4_1.length < 140737488355328 then (token_reader_str.l0 k1 (x4_1++[t116]) t118 t119) else (none)) else (some (0,(⟨#[]⟩:ByteArray),0,0,false,t118,t119)))=some (r1,r2,r3,r4,r5,r6,r7):=H
   have A13:=Y0 A130
   clear A130
   by_cases c14:t117=true
   rotate_left
   ·replace c14:=Bool.eq_false_iff.mpr c14
    subst c14
    have H1:(some (0,(⟨#[]⟩:ByteArray),0,0,false,t118,t119))=some (r1,r2,r3,r4,r5,r6,r7):=by first|(rw [if_neg (show ¬ (false=true) by decide)] at H;exact H)|rfl
    clear H
    have H:=H1
    clear H1
    simp only [Option.some.injEq,Prod.mk.injEq] at H
    obtain ⟨rfl,rfl,rfl,rfl,rfl,rfl,rfl⟩:=H
    obtain ⟨HGz19,hgz19⟩:=HI0.out
    have hcz19_0:=cellS145_0 HGz19
    have hcz19_1:=cellS145_1 HGz19
    have hfz19_0:=blk_frozen HGz19 0
    have hfz19_1:=blk_frozen HGz19 1
    clear HGz19 hgz19
    have p6:0≤(x1001_1:Int):=of_decide_eq_true J3
    have q6:x1001_1 < (x1000_1.size:Int):=of_decide_eq_true J3
    have hx6:=bt_at x1000_1 x1001_1
    replace p6:=eq_true p6
    replace q6:=eq_true q6
    go_wp2_with (first|(go_at_call 123;(with_reducible refine (token_reader_mark.calls k1 g x1000_1 (wrap64 (x1001_1 + 1)) t116 false t118 t119 w0 _ ?side1 ?side2 A13.out).mono ?_);(case side1=>repeat (first|(with_reducible first|exact HI0.out|apply IsS145.alloc|apply IsS145.drewN|apply IsS145.drew|apply IsS145.set_0|apply IsS145.set_1|refine IsS145.far ?_ NB0_115.out _)|exact HI0.out));(case side2=>repeat (first|(with_reducible first|exact HB.out|apply Y3|apply Y1|apply Y2|refine Y4 ?_ (IsS145.ge HI0.out)|refine Y4 ?_ GE115.out)|exact HB.out));rintro e w20 ⟨rfl,hi,hb,hk⟩;have n0_:=Y0 (Kd.R_mono (Kd.R_keep (IsS145.apart (show IsS145 w0 _ g x1000_1 (wrap64 (x1001_1 + 1)) from by repeat (with_reducible first|exact HI0.out|apply IsS145.alloc|apply IsS145.drewN|apply IsS145.drew|apply IsS145.set_0|apply IsS145.set_1|refine IsS145.far ?_ NB0_115.out _)) J40 J11) hk (fun _ h=>h.2)) (fun _ h=>h.1));have n1_:=Y0 (KeepBut.blk hk (g':=gb115) (o:=.cells #[.int .i64 x116000_1,.string x116001_1,.int .i64 x116002_1,.int .i64 x116003_1] 149 (0,0)) J30 NB115_0.out J53);have n2_:=Y0 (KeepBut.trans J14 hk (.inl rfl));have n3_:=Y0 (hb);have n4_:=Y0 (hi);clear HO_4;clear BK115;clear HK;clear HB;clear HI0;have HO_4:=n0_;have BK115:=n1_;have HK:=n2_;have HB:=n3_;have HI0:=n4_;clear n0_ n1_ n2_ n3_ n4_;(try clear hb);(try clear hb2);(try clear hk);(try clear hi);have hnb21:=NB115_0.out;have hnc21:=NB0_115.out;have ⟨hcz22_0,hcz22_1,hcz22_2,hcz22_3,hfz22_0,hfz22_1,hfz22_2,hfz22_3⟩:=sq_box4 BK115.out))
    repeat (go_quiet (first|(go_at_call 123;(with_reducible refine (token_reader_mark.calls k1 g x1000_1 (wrap64 (x1001_1 + 1)) t116 false t118 t119 w0 _ ?side1 ?side2 A13.out).mono ?_);(case side1=>repeat (first|(with_reducible first|exact HI0.out|apply IsS145.alloc|apply IsS145.drewN|apply IsS145.drew|apply IsS145.set_0|apply IsS145.set_1|refine IsS145.far ?_ NB0_115.out _)|exact HI0.out));(case side2=>repeat (first|(with_reducible first|exact HB.out|apply Y3|apply Y1|apply Y2|refine Y4 ?_ (IsS145.ge HI0.out)|refine Y4 ?_ GE115.out)|exact HB.out));rintro e w20 ⟨rfl,hi,hb,hk⟩;have n0_:=Y0 (Kd.R_mono (Kd.R_keep (IsS145.apart (show IsS145 w0 _ g x1000_1 (wrap64 (x1001_1 + 1)) from by repeat (with_reducible first|exact HI0.out|apply IsS145.alloc|apply IsS145.drewN|apply IsS145.drew|apply IsS145.set_0|apply IsS145.set_1|refine IsS145.far ?_ NB0_115.out _)) J40 J11) hk (fun _ h=>h.2)) (fun _ h=>h.1));have n1_:=Y0 (KeepBut.blk hk (g':=gb115) (o:=.cells #[.int .i64 x116000_1,.string x116001_1,.int .i64 x116002_1,.int .i64 x116003_1] 149 (0,0)) J30 NB115_0.out J53);have n2_:=Y0 (KeepBut.trans J14 hk (.inl rfl));have n3_:=Y0 (hb);have n4_:=Y0 (hi);clear HO_4;clear BK115;clear HK;clear HB;clear HI0;have HO_4:=n0_;have BK115:=n1_;have HK:=n2_;have HB:=n3_;have HI0:=n4_;clear n0_ n1_ n2_ n3_ n4_;(try clear hb);(try clear hb2);(try clear hk);(try clear hi);have hnb21:=NB115_0.out;have hnc21:=NB0_115.out;have ⟨hcz22_0,hcz22_1,hcz22_2,hcz22_3,hfz22_0,hfz22_1,hfz22_2,hfz22_3⟩:=sq_box4 BK115.out));try go_wp2_with (first|(go_at_call 123;(with_reducible refine (token_reader_mark.calls k1 g x1000_1 (wrap64 (x1001_1 + 1)) t116 false t118 t119 w0 _ ?side1 ?side2 A13.out).mono ?_);(case side1=>repeat (first|(with_reducible first|exact HI0.out|apply IsS145.alloc|apply IsS145.drewN|apply IsS145.drew|apply IsS145.set_0|apply IsS145.set_1|refine IsS145.far ?_ NB0_115.out _)|exact HI0.out));(case side2=>repeat (first|(with_reducible first|exact HB.out|apply Y3|apply Y1|apply Y2|refine Y4 ?_ (IsS145.ge HI0.out)|refine Y4 ?_ GE115.out)|exact HB.out));rintro e w20 ⟨rfl,hi,hb,hk⟩;have n0_:=Y0 (Kd.R_mono (Kd.R_keep (IsS145.apart (show IsS145 w0 _ g x1000_1 (wrap64 (x1001_1 + 1)) from by repeat (with_reducible first|exact HI0.out|apply IsS145.alloc|apply IsS145.drewN|apply IsS145.drew|apply IsS145.set_0|apply IsS145.set_1|refine IsS145.far ?_ NB0_115.out _)) J40 J11) hk (fun _ h=>h.2)) (fun _ h=>h.1));have n1_:=Y0 (KeepBut.blk hk (g':=gb115) (o:=.cells #[.int .i64 x116000_1,.string x116001_1,.int .i64 x116002_1,.int .i64 x116003_1] 149 (0,0)) J30 NB115_0.out J53);have n2_:=Y0 (KeepBut.trans J14 hk (.inl rfl));have n3_:=Y0 (hb);have n4_:=Y0 (hi);clear HO_4;clear BK115;clear HK;clear HB;clear HI0;have HO_4:=n0_;have BK115:=n1_;have HK:=n2_;have HB:=n3_;have HI0:=n4_;clear n0_ n1_ n2_ n3_ n4_;(try clear hb);(try clear hb2);(try clear hk);(try clear hi);have hnb21:=NB115_0.out;have hnc21:=NB0_115.out;have ⟨hcz22_0,hcz22_1,hcz22_2,hcz22_3,hfz22_0,hfz22_1,hfz22_2,hfz22_3⟩:=sq_box4 BK115.out)))
    refine bodyPost_ret (results_ct rfl _ _ gb115 149 #[.int .i64 0,.string (⟨#[]⟩:ByteArray),.int .i64 0,.int .i64 0] (0,0) _ rfl J50 Tryz.underlying149 rfl J0) rfl ?_
    exact ⟨J21,J22,J28,J14⟩
   subst c14
   have H1:(if x4_1.length < 140737488355328 then (token_reader_str.l0 k1 (x4_1++[t116]) t118 t119) else (none))=some (r1,r2,r3,r4,r5,r6,r7):=by first|(rw [if_pos rfl] at H;exact H)|rfl
   clear H
   have H:=H1
   clear H1
   by_cases c15:x4_1.length < 140737488355328
   rotate_left
   ·rw [if_neg c15] at H
    exact absurd H J53
   rw [if_pos c15] at H
   have LMc15:=Y0 c15
   clear c15
   obtain ⟨y120,hy120⟩:∃ y_:List Int,y_=(x4_1++[t116]):=⟨_,rfl⟩
   replace H:(token_reader_str.l0 k1 y120 t118 t119)=some (r1,r2,r3,r4,r5,r6,r7):=by first|(rw [hy120];with_reducible exact H)|(have H2_:=(Option.bind_some _ _).symm.trans H;rw [hy120];with_reducible exact H2_)|(have H2_:=(Option.bind_some _ _).symm.trans H;with_reducible exact H2_)|with_reducible exact H|(rw [hy120];exact H)|exact H
   have Ny120:=Y0 hy120
   clear hy120
   have H':=Y0 H
   clear H
   obtain ⟨HGz16,hgz16⟩:=HI0.out
   have hcz16_0:=cellS145_0 HGz16
   have hcz16_1:=cellS145_1 HGz16
   have hfz16_0:=blk_frozen HGz16 0
   have hfz16_1:=blk_frozen HGz16 1
   clear HGz16 hgz16
   have p6:0≤(x1001_1:Int):=of_decide_eq_true J3
   have q6:x1001_1 < (x1000_1.size:Int):=of_decide_eq_true J3
   have hx6:=bt_at x1000_1 x1001_1
   replace p6:=eq_true p6
   replace q6:=eq_true q6
   go_wp2_with (first|(go_at_call 123;(with_reducible refine (token_reader_mark.calls k1 g x1000_1 (wrap64 (x1001_1 + 1)) t116 true t118 t119 w0 _ ?side1 ?side2 A13.out).mono ?_);(case side1=>repeat (first|(with_reducible first|exact HI0.out|apply IsS145.alloc|apply IsS145.drewN|apply IsS145.drew|apply IsS145.set_0|apply IsS145.set_1|refine IsS145.far ?_ NB0_115.out _)|exact HI0.out));(case side2=>repeat (first|(with_reducible first|exact HB.out|apply Y3|apply Y1|apply Y2|refine Y4 ?_ (IsS145.ge HI0.out)|refine Y4 ?_ GE115.out)|exact HB.out));rintro e w17 ⟨rfl,hi,hb,hk⟩;have n0_:=Y0 (Kd.R_mono (Kd.R_keep (IsS145.apart (show IsS145 w0 _ g x1000_1 (wrap64 (x1001_1 + 1)) from by repeat (with_reducible first|exact HI0.out|apply IsS145.alloc|apply IsS145.drewN|apply IsS145.drew|apply IsS145.set_0|apply IsS145.set_1|refine IsS145.far ?_ NB0_115.out _)) J40 J11) hk (fun _ h=>h.2)) (fun _ h=>h.1));have n1_:=Y0 (KeepBut.blk hk (g':=gb115) (o:=.cells #[.int .i64 x116000_1,.string x116001_1,.int .i64 x116002_1,.int .i64 x116003_1] 149 (0,0)) J30 NB115_0.out J53);have n2_:=Y0 (KeepBut.trans J14 hk (.inl rfl));have n3_:=Y0 (hb);have n4_:=Y0 (hi);clear HO_4;clear BK115;clear HK;clear HB;clear HI0;have HO_4:=n0_;have BK115:=n1_;have HK:=n2_;have HB:=n3_;have HI0:=n4_;clear n0_ n1_ n2_ n3_ n4_;(try clear hb);(try clear hb2);(try clear hk);(try clear hi))|((with_reducible refine gate_builtin (b:=.append) (xs:=#[.tmp 62,.tmp 64]) rfl ?_);at_builtin;refine Kd.R_append (Kd.int .u8) w.heap.size rfl (.tmp 62) (.tmp 64) 84 5 (.int .u8 0) 1 rfl Tryz.underlying84 info5 rfl J11 J7 u4 x4_1 t116 [.int .u8 t116] (fun _=>True) (fun _=>False) rfl rfl ?aP (fun _ hk=>hk.elim) ?aF ?aO (Below.refl _ _) ?aS ?aL ?_;(case aP=>exact rfl);(case aF=>exact (fun _ _=>trivial));(case aO=>exact J124);(case aS=>exact (keep_size (w:=w) (g:=g) (row:=none) J14));(case aL=>have:=LMc15.out;omega);intro v121 w18 ho hb hg hat;rw [← Ny120.out] at ho;have n0_:=Y0 (blk_grown (g:=gb115) (o:=.cells #[.int .i64 x116000_1,.string x116001_1,.int .i64 x116002_1,.int .i64 x116003_1] 149 (0,0)) J90 hg (Kd.R_ne HO_4.out BK115.out J11));have n1_:=Y0 (IsS145.grown J22 hg (IsS145.own_ne HI0.out HO_4.out J11));have n2_:=Y0 (below_weaken J28 HL.out hb);have n3_:=Y0 (KeepBut.trans J14 (KeepBut.of_grown hg g) (Kd.R_base2 HO_4.out));have n4_:=Y0 (ho);clear BK115;clear HI0;clear HB;clear HK;clear HO_4;have BK115:=n0_;have HI0:=n1_;have HB:=n2_;have HK:=n3_;have HO122:=n4_;clear n0_ n1_ n2_ n3_ n4_;clear ho hb hg hat))
   repeat (go_quiet (first|(go_at_call 123;(with_reducible refine (token_reader_mark.calls k1 g x1000_1 (wrap64 (x1001_1 + 1)) t116 true t118 t119 w0 _ ?side1 ?side2 A13.out).mono ?_);(case side1=>repeat (first|(with_reducible first|exact HI0.out|apply IsS145.alloc|apply IsS145.drewN|apply IsS145.drew|apply IsS145.set_0|apply IsS145.set_1|refine IsS145.far ?_ NB0_115.out _)|exact HI0.out));(case side2=>repeat (first|(with_reducible first|exact HB.out|apply Y3|apply Y1|apply Y2|refine Y4 ?_ (IsS145.ge HI0.out)|refine Y4 ?_ GE115.out)|exact HB.out));rintro e w17 ⟨rfl,hi,hb,hk⟩;have n0_:=Y0 (Kd.R_mono (Kd.R_keep (IsS145.apart (show IsS145 w0 _ g x1000_1 (wrap64 (x1001_1 + 1)) from by repeat (with_reducible first|exact HI0.out|apply IsS145.alloc|apply IsS145.drewN|apply IsS145.drew|apply IsS145.set_0|apply IsS145.set_1|refine IsS145.far ?_ NB0_115.out _)) J40 J11) hk (fun _ h=>h.2)) (fun _ h=>h.1));have n1_:=Y0 (KeepBut.blk hk (g':=gb115) (o:=.cells #[.int .i64 x116000_1,.string x116001_1,.int .i64 x116002_1,.int .i64 x116003_1] 149 (0,0)) J30 NB115_0.out J53);have n2_:=Y0 (KeepBut.trans J14 hk (.inl rfl));have n3_:=Y0 (hb);have n4_:=Y0 (hi);clear HO_4;clear BK115;clear HK;clear HB;clear HI0;have HO_4:=n0_;have BK115:=n1_;have HK:=n2_;have HB:=n3_;have HI0:=n4_;clear n0_ n1_ n2_ n3_ n4_;(try clear hb);(try clear hb2);(try clear hk);(try clear hi))|((with_reducible refine gate_builtin (b:=.append) (xs:=#[.tmp 62,.tmp 64]) rfl ?_);at_builtin;refine Kd.R_append (Kd.int .u8) w.heap.size rfl (.tmp 62) (.tmp 64) 84 5 (.int .u8 0) 1 rfl Tryz.underlying84 info5 rfl J11 J7 u4 x4_1 t116 [.int .u8 t116] (fun _=>True) (fun _=>False) rfl rfl ?aP (fun _ hk=>hk.elim) ?aF ?aO (Below.refl _ _) ?aS ?aL ?_;(case aP=>exact rfl);(case aF=>exact (fun _ _=>trivial));(case aO=>exact J124);(case aS=>exact (keep_size (w:=w) (g:=g) (row:=none) J14));(case aL=>have:=LMc15.out;omega);intro v121 w18 ho hb hg hat;rw [← Ny120.out] at ho;have n0_:=Y0 (blk_grown (g:=gb115) (o:=.cells #[.int .i64 x116000_1,.string x116001_1,.int .i64 x116002_1,.int .i64 x116003_1] 149 (0,0)) J90 hg (Kd.R_ne HO_4.out BK115.out J11));have n1_:=Y0 (IsS145.grown J22 hg (IsS145.own_ne HI0.out HO_4.out J11));have n2_:=Y0 (below_weaken J28 HL.out hb);have n3_:=Y0 (KeepBut.trans J14 (KeepBut.of_grown hg g) (Kd.R_base2 HO_4.out));have n4_:=Y0 (ho);clear BK115;clear HI0;clear HB;clear HK;clear HO_4;have BK115:=n0_;have HI0:=n1_;have HB:=n2_;have HK:=n3_;have HO122:=n4_;clear n0_ n1_ n2_ n3_ n4_;clear ho hb hg hat));try go_wp2_with (first|(go_at_call 123;(with_reducible refine (token_reader_mark.calls k1 g x1000_1 (wrap64 (x1001_1 + 1)) t116 true t118 t119 w0 _ ?side1 ?side2 A13.out).mono ?_);(case side1=>repeat (first|(with_reducible first|exact HI0.out|apply IsS145.alloc|apply IsS145.drewN|apply IsS145.drew|apply IsS145.set_0|apply IsS145.set_1|refine IsS145.far ?_ NB0_115.out _)|exact HI0.out));(case side2=>repeat (first|(with_reducible first|exact HB.out|apply Y3|apply Y1|apply Y2|refine Y4 ?_ (IsS145.ge HI0.out)|refine Y4 ?_ GE115.out)|exact HB.out));rintro e w17 ⟨rfl,hi,hb,hk⟩;have n0_:=Y0 (Kd.R_mono (Kd.R_keep (IsS145.apart (show IsS145 w0 _ g x1000_1 (wrap64 (x1001_1 + 1)) from by repeat (with_reducible first|exact HI0.out|apply IsS145.alloc|apply IsS145.drewN|apply IsS145.drew|apply IsS145.set_0|apply IsS145.set_1|refine IsS145.far ?_ NB0_115.out _)) J40 J11) hk (fun _ h=>h.2)) (fun _ h=>h.1));have n1_:=Y0 (KeepBut.blk hk (g':=gb115) (o:=.cells #[.int .i64 x116000_1,.string x116001_1,.int .i64 x116002_1,.int .i64 x116003_1] 149 (0,0)) J30 NB115_0.out J53);have n2_:=Y0 (KeepBut.trans J14 hk (.inl rfl));have n3_:=Y0 (hb);have n4_:=Y0 (hi);clear HO_4;clear BK115;clear HK;clear HB;clear HI0;have HO_4:=n0_;have BK115:=n1_;have HK:=n2_;have HB:=n3_;have HI0:=n4_;clear n0_ n1_ n2_ n3_ n4_;(try clear hb);(try clear hb2);(try clear hk);(try clear hi))|((with_reducible refine gate_builtin (b:=.append) (xs:=#[.tmp 62,.tmp 64]) rfl ?_);at_builtin;refine Kd.R_append (Kd.int .u8) w.heap.size rfl (.tmp 62) (.tmp 64) 84 5 (.int .u8 0) 1 rfl Tryz.underlying84 info5 rfl J11 J7 u4 x4_1 t116 [.int .u8 t116] (fun _=>True) (fun _=>False) rfl rfl ?aP (fun _ hk=>hk.elim) ?aF ?aO (Below.refl _ _) ?aS ?aL ?_;(case aP=>exact rfl);(case aF=>exact (fun _ _=>trivial));(case aO=>exact J124);(case aS=>exact (keep_size (w:=w) (g:=g) (row:=none) J14));(case aL=>have:=LMc15.out;omega);intro v121 w18 ho hb hg hat;rw [← Ny120.out] at ho;have n0_:=Y0 (blk_grown (g:=gb115) (o:=.cells #[.int .i64 x116000_1,.string x116001_1,.int .i64 x116002_1,.int .i64 x116003_1] 149 (0,0)) J90 hg (Kd.R_ne HO_4.out BK115.out J11));have n1_:=Y0 (IsS145.grown J22 hg (IsS145.own_ne HI0.out HO_4.out J11));have n2_:=Y0 (below_weaken J28 HL.out hb);have n3_:=Y0 (KeepBut.trans J14 (KeepBut.of_grown hg g) (Kd.R_base2 HO_4.out));have n4_:=Y0 (ho);clear BK115;clear HI0;clear HB;clear HK;clear HO_4;have BK115:=n0_;have HI0:=n1_;have HB:=n2_;have HK:=n3_;have HO122:=n4_;clear n0_ n1_ n2_ n3_ n4_;clear ho hb hg hat)))
   go_roundg k1
   case measure=>have:=HK1.out;omega
   case rel=>exact ⟨(y120),(t118),(t119),(x116000_1),(x116001_1),(x116002_1),(x116003_1),H',⟨J123⟩,⟨by (with_reducible repeat (first|apply Y5|apply Y6|apply Y7));exact HO122.out⟩,⟨J90⟩,⟨J22⟩,⟨J14⟩,⟨J28⟩⟩
def stringslite_HasPrefix.f (a0:ByteArray) (a1:ByteArray):Option (Bool):=if (a0.size:Int) ≥ (a1.size:Int) then (if 0≤(a1.size:Int) then (if (a1.size:Int)≤(a0.size:Int) then (some ((a0.extract 0 ((a1.size:Int):Int).toNat).toList == a1.toList)) else (none)) else (none)) else (some false)
set_option maxHeartbeats 8000000 in
set_option maxRecDepth 100000 in
theorem stringslite_HasPrefix.calls (a0:ByteArray) (a1:ByteArray) (r:Bool) (w:World) (h:stringslite_HasPrefix.f a0 a1=some r) :
  Calls Tryz.prog 151 #[.string a0,.string a1] w fun e w'=>e = .returned (.bool r)∧Drawn0 w w':=by
 have H:(if (a0.size:Int) ≥ (a1.size:Int) then (if 0≤(a1.size:Int) then (if (a1.size:Int)≤(a0.size:Int) then (some ((a0.extract 0 ((a1.size:Int):Int).toNat).toList == a1.toList)) else (none)) else (none)) else (some false))=some r:=h
 clear h
 by_cases c3:(a0.size:Int) ≥ (a1.size:Int)
 rotate_left
 ·rw [if_neg c3] at H
  have c3b0:decide ((a1.size:Int)≤(a0.size:Int))=false:=decide_eq_false c3
  have c3b1:decide (a1.size≤a0.size)=false:=decide_eq_false (fun h=>c3 (Int.ofNat_le.mpr h))
  clear c3
  obtain rfl:=Option.some.inj H
  go_enter Tryz.func151,Tryz.ntmps151
  go_wp2
  go_ret
  exact ⟨J12,J17⟩
 rw [if_pos c3] at H
 have c3b0:decide ((a1.size:Int)≤(a0.size:Int))=true:=decide_eq_true c3
 have c3b1:decide (a1.size≤a0.size)=true:=decide_eq_true (Int.ofNat_le.mp c3)
 clear c3
 by_cases c4:0≤(a1.size:Int)
 rotate_left
 ·rw [if_neg c4] at H
  exact absurd H J53
 rw [if_pos c4] at H
 have c4b0:=eq_true c4
 have c4b1:decide (0≤(a1.size:Int))=true:=decide_eq_true c4
 clear c4
 by_cases c5:(a1.size:Int)≤(a0.size:Int)
 rotate_left
 ·rw [if_neg c5] at H
  exact absurd H J53
 rw [if_pos c5] at H
 have c5b0:=eq_true c5
 have c5b1:decide ((a1.size:Int)≤(a0.size:Int))=true:=decide_eq_true c5
 clear c5
 obtain rfl:=Option.some.inj H
 go_enter Tryz.func151,Tryz.ntmps151
 go_wp2
 go_ret
 exact ⟨J12,J17⟩
def strings_HasPrefix.f (a0:ByteArray) (a1:ByteArray):Option (Bool):=(stringslite_HasPrefix.f a0 a1).bind fun t126=>(some t126)
set_option maxHeartbeats 8000000 in
set_option maxRecDepth 100000 in
theorem strings_HasPrefix.calls (a0:ByteArray) (a1:ByteArray) (r:Bool) (w:World) (h:strings_HasPrefix.f a0 a1=some r) :
  Calls Tryz.prog 125 #[.string a0,.string a1] w fun e w'=>e = .returned (.bool r)∧Drawn0 w w':=by
 have H:((stringslite_HasPrefix.f a0 a1).bind fun t126=>(some t126))=some r:=h
 clear h
 replace H:=Y17.mp H
 obtain ⟨t126,A30,H⟩:=H
 try dsimp only at H
 have A3:=Y0 A30
 clear A30
 obtain rfl:=Option.some.inj H
 go_enter Tryz.func125,Tryz.ntmps125
 go_wp2_with (first|((with_reducible refine gate_callee (f:=151) rfl ?_);refine goesL_ (some 7) rfl rfl Tryz.func151 J0 rfl #[.string a0,.string a1] rfl J1 ?_;(with_reducible refine (stringslite_HasPrefix.calls a0 a1 t126 _ A3.out).mono ?_);rintro e w' ⟨rfl,⟨nd,rfl⟩⟩;refine ⟨_,rfl,?_⟩))
 go_ret
 exact ⟨J12,J17⟩
end Go.Proofs.YtddpjjhekhompaaGreatDoor.P
