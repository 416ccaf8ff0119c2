/- texts that the proof needs, laid together by a program of this session. -/
import Derived.Test.YtpgdmmjbhjbbhaaKWireAll11
set_option maxRecDepth 100000
set_option maxHeartbeats 16000000
set_option linter.unusedVariables false
set_option linter.unusedSimpArgs false
section
namespace Go.Proofs.Ytpgdmmjbhjbbhaa.P
open Go.RowKit YtpgdmmjbhjbbhaaW.PrintWords YtpgdmmjbhjbbhaaW.PrintLast YtpgdmmjbhjbbhaaW.PrintMore
attribute [local go_sem] Go.Proofs.Ytpgdmmjbhjbbhaa.StrLe.leq_str Go.Proofs.Ytpgdmmjbhjbbhaa.StrLe.gtr_str
attribute [local go_sem] max2_int min2_int max_two min_two max_three min_three max_four min_four
def sluiceref2_reader_rights.f (k:Nat) (s0_0:List Int) (s0_1:Int) (s0_2:Bool):Option (Int×Int×Int×Bool):=(sluiceref2_reader_num.f k s0_0 s0_1 s0_2 0 1099511627776).bind fun bt292=>((sluiceref2_reader_num.f k s0_0 bt292.2.1 bt292.2.2 0 1099511627776).bind fun bt295=>(some (bt292.1,bt295.1,bt295.2.1,bt295.2.2)))
theorem sluiceref2_reader_rights.calls (k:Nat) (g:Nat) (s0_0:List Int) (s0_1:Int) (s0_2:Bool) (r1:Int) (r2:Int) (r3:Int) (r4:Bool) (w0 w:World) (hI:IsS132 w0 w g s0_0 s0_1 s0_2) (hB:Below w0.heap.size w0 w) (h:sluiceref2_reader_rights.f k s0_0 s0_1 s0_2=some (r1,r2,r3,r4)):
  Calls Try.prog 118 #[.pointer (some ⟨g,0,none⟩)] w fun e w'=>e = .returned (.agg #[.int .i64 r1,.int .i64 r2])∧IsS132 w0 w' g s0_0 r3 r4∧Below w0.heap.size w0 w'∧KeepBut w w' g none:=by
 have hu25:=Try.underlying25;have HI0:=Aside0.mk hI;have HK:=Aside0.mk (KeepBut.refl w g none);have HL:=Aside0.mk hB.size;clear hI;have HW0:=Aside0.mk hB.size;have HB:=Aside0.mk hB;clear hB;have H:((sluiceref2_reader_num.f k s0_0 s0_1 s0_2 0 1099511627776).bind fun bt292=>((sluiceref2_reader_num.f k s0_0 bt292.2.1 bt292.2.2 0 1099511627776).bind fun bt295=>(some (bt292.1,bt295.1,bt295.2.1,bt295.2.2))))=some (r1,r2,r3,r4):=h;clear h;replace H:=Option.bind_eq_some_iff.mp H;obtain ⟨⟨t292,t293,t294⟩,A20,H⟩:=H;replace H:((sluiceref2_reader_num.f k s0_0 t293 t294 0 1099511627776).bind fun bt295=>(some (t292,bt295.1,bt295.2.1,bt295.2.2)))=some (r1,r2,r3,r4):=H;have A2:=Aside0.mk A20;clear A20;replace H:=Option.bind_eq_some_iff.mp H;obtain ⟨⟨t295,t296,t297⟩,A30,H⟩:=H;replace H:(some (t292,t295,t296,t297))=some (r1,r2,r3,r4):=H;have A3:=Aside0.mk A30;clear A30;simp only[Option.some.injEq,Prod.mk.injEq] at H;obtain ⟨rfl,rfl,rfl,rfl⟩:=H;go_enter Try.func118,Try.ntmps118
 go_wp2_with (first|((with_reducible refine gate_dst (N:=2) rfl ?_);refine box_event ?hg (N:=2) ?hd (cs := #[.int .i64 0,.int .i64 0]) (t:=25) ?hr ?_;(case hd=>rfl);(case hg=>rfl);(case hr=>first|(go_simp;done)|(go_simp;rfl));intro gb291 hg w4 hbox hb;have n0_:=Aside0.mk (IsS132.below (by repeat (first|(with_reducible first|exact HI0.out|apply IsS132.alloc|apply IsS132.drewN|apply IsS132.drew|apply IsS132.set_1|apply IsS132.set_2)|exact HI0.out)) hb);have n1_:=Aside0.mk (KeepBut.trans (by repeat (first|(with_reducible first|exact HK.out|apply KeepBut.set_|apply keep_drewN|apply keep_drew|apply keep_alloc)|exact HK.out)) (KeepBut.of_below hb g none) (.inl rfl));have n2_:=Aside0.mk (below_step (by repeat (first|(with_reducible first|exact HB.out|apply below_alloc|apply pw_below_drewN|apply below_drew1|refine below_set ?_ (IsS132.ge HI0.out))|exact HB.out)) hb);have n3_:=Aside0.mk (hbox);have n4_:=Aside0.mk ((by rw[hg];exact (keep_size (w:=w) (g:=g) (row:=none) (by repeat (first|(with_reducible first|exact HK.out|apply KeepBut.set_|apply keep_drewN|apply keep_drew|apply keep_alloc)|exact HK.out))):w.heap.size≤gb291));have n5_:=Aside0.mk ((Nat.le_trans HW0.out (by rw[hg];exact (keep_size (w:=w) (g:=g) (row:=none) (by repeat (first|(with_reducible first|exact HK.out|apply KeepBut.set_|apply keep_drewN|apply keep_drew|apply keep_alloc)|exact HK.out))):w.heap.size≤gb291):w0.heap.size≤gb291));have n6_:=Aside0.mk ((by rw[hg];exact Nat.ne_of_lt (IsS132.lt (show IsS132 w0 _ g s0_0 s0_1 s0_2 from by repeat (first|(with_reducible first|exact HI0.out|apply IsS132.alloc|apply IsS132.drewN|apply IsS132.drew|apply IsS132.set_1|apply IsS132.set_2)|exact HI0.out))):g≠gb291));have n7_:=Aside0.mk ((by rw[hg];exact Nat.ne_of_gt (IsS132.lt (show IsS132 w0 _ g s0_0 s0_1 s0_2 from by repeat (first|(with_reducible first|exact HI0.out|apply IsS132.alloc|apply IsS132.drewN|apply IsS132.drew|apply IsS132.set_1|apply IsS132.set_2)|exact HI0.out))):gb291≠g));clear HI0;clear HK;clear HB;have HI0:=n0_;have HK:=n1_;have HB:=n2_;have BK291:=n3_;have GW291:=n4_;have GE291:=n5_;have NB0_291:=n6_;have NB291_0:=n7_;clear n0_ n1_ n2_ n3_ n4_ n5_ n6_ n7_;clear hb hbox hg)|((with_reducible refine gate_callee (f:=102) rfl ?_);refine goesL_ (some 5) rfl rfl Try.func102 (by kernel_rfl) rfl #[.pointer (some ⟨g,0,none⟩),.int .i64 0,.int .i64 1099511627776] rfl (by (try simp only[List.map_toArray,List.map_cons,List.map_nil]);first|done|rfl|(simp only[List.length_drop,List.length_take];rfl)) ?_;(with_reducible refine (sluiceref2_reader_num.calls k g s0_0 s0_1 s0_2 0 1099511627776 t292 t293 t294 w0 _ ?side1 ?side2 A2.out).mono ?_);(case side1=>repeat (first|(with_reducible first|exact HI0.out|apply IsS132.alloc|apply IsS132.drewN|apply IsS132.drew|apply IsS132.set_1|apply IsS132.set_2|refine IsS132.far ?_ NB0_291.out _)|exact HI0.out));(case side2=>repeat (first|(with_reducible first|exact HB.out|apply below_alloc|apply pw_below_drewN|apply below_drew1|refine below_set ?_ (IsS132.ge HI0.out)|refine below_set ?_ GE291.out)|exact HB.out));rintro e w5 ⟨rfl,hi,hb,hk⟩;refine ⟨_,rfl,?_⟩;have n0_:=Aside0.mk (KeepBut.blk hk (g':=gb291) (o := .cells #[.int .i64 0,.int .i64 0] 25 (0,0)) (by (with_reducible repeat (first|refine blk_drewN ?_ _|refine blk_drew ?_|refine blk_alloc ?_ _));exact BK291.out) NB291_0.out (by simp));have n1_:=Aside0.mk (KeepBut.trans (by repeat (first|(with_reducible first|exact HK.out|apply KeepBut.set_|apply keep_drewN|apply keep_drew|apply keep_alloc|refine keep_far ?_ GW291.out _)|exact HK.out)) hk (.inl rfl));have n2_:=Aside0.mk (hb);have n3_:=Aside0.mk (hi);clear BK291;clear HK;clear HB;clear HI0;have BK291:=n0_;have HK:=n1_;have HB:=n2_;have HI0:=n3_;clear n0_ n1_ n2_ n3_;(try clear hb);(try clear hb2);(try clear hk);(try clear hi))|((with_reducible refine gate_callee (f:=102) rfl ?_);refine goesL_ (some 8) rfl rfl Try.func102 (by kernel_rfl) rfl #[.pointer (some ⟨g,0,none⟩),.int .i64 0,.int .i64 1099511627776] rfl (by (try simp only[List.map_toArray,List.map_cons,List.map_nil]);first|done|rfl|(simp only[List.length_drop,List.length_take];rfl)) ?_;(with_reducible refine (sluiceref2_reader_num.calls k g s0_0 t293 t294 0 1099511627776 t295 t296 t297 w0 _ ?side1 ?side2 A3.out).mono ?_);(case side1=>repeat (first|(with_reducible first|exact HI0.out|apply IsS132.alloc|apply IsS132.drewN|apply IsS132.drew|apply IsS132.set_1|apply IsS132.set_2|refine IsS132.far ?_ NB0_291.out _)|exact HI0.out));(case side2=>repeat (first|(with_reducible first|exact HB.out|apply below_alloc|apply pw_below_drewN|apply below_drew1|refine below_set ?_ (IsS132.ge HI0.out)|refine below_set ?_ GE291.out)|exact HB.out));rintro e w6 ⟨rfl,hi,hb,hk⟩;refine ⟨_,rfl,?_⟩;have n0_:=Aside0.mk (KeepBut.blk hk (g':=gb291) (o := .cells #[.int .i64 0,.int .i64 0] 25 (0,0)) (by (with_reducible repeat (first|refine blk_drewN ?_ _|refine blk_drew ?_|refine blk_alloc ?_ _));exact BK291.out) NB291_0.out (by simp));have n1_:=Aside0.mk (KeepBut.trans (by repeat (first|(with_reducible first|exact HK.out|apply KeepBut.set_|apply keep_drewN|apply keep_drew|apply keep_alloc|refine keep_far ?_ GW291.out _)|exact HK.out)) hk (.inl rfl));have n2_:=Aside0.mk (hb);have n3_:=Aside0.mk (hi);clear BK291;clear HK;clear HB;clear HI0;have BK291:=n0_;have HK:=n1_;have HB:=n2_;have HI0:=n3_;clear n0_ n1_ n2_ n3_;(try clear hb);(try clear hb2);(try clear hk);(try clear hi);have hnb7:=NB291_0.out;have hnc7:=NB0_291.out;have hcz8_0:w6.cell? ⟨gb291,0,none⟩=some (.int .i64 0):=(blk_cell BK291.out 0).trans rfl;have hcz8_1:w6.cell? ⟨gb291,1,none⟩=some (.int .i64 0):=(blk_cell BK291.out 1).trans rfl;have hfz8_0:=blk_frozen BK291.out 0;have hfz8_1:=blk_frozen BK291.out 1))
 refine bodyPost_ret (results_cell_row rfl _ _ gb291 25 #[.int .i64 t292,.int .i64 t295] (0,0) _ rfl (by (with_reducible repeat (first|refine blk_drewN ?_ _|refine blk_drew ?_|refine blk_alloc ?_ _));refine blk_put (cs := #[.int .i64 t292,.int .i64 0]) ?_ 1 _ rfl;(with_reducible repeat (first|refine blk_drewN ?_ _|refine blk_drew ?_|refine blk_alloc ?_ _));refine blk_put (cs := #[.int .i64 0,.int .i64 0]) ?_ 0 _ rfl;(with_reducible repeat (first|refine blk_drewN ?_ _|refine blk_drew ?_|refine blk_alloc ?_ _));exact BK291.out) Try.underlying25 rfl (by kernel_rfl)) rfl ?_;exact ⟨by first|rfl|(simp[errW_none,errW_some]<;>rfl)|(simp[*,errW_none,errW_some]<;>rfl),by repeat (first|(with_reducible first|exact HI0.out|apply IsS132.alloc|apply IsS132.drewN|apply IsS132.drew|apply IsS132.set_1|apply IsS132.set_2|refine IsS132.far ?_ NB0_291.out _)|exact HI0.out),by repeat (first|(with_reducible first|exact HB.out|apply below_alloc|apply pw_below_drewN|apply below_drew1|refine below_set ?_ (IsS132.ge HI0.out)|refine below_set ?_ GE291.out)|exact HB.out),by repeat (first|(with_reducible first|exact HK.out|apply KeepBut.set_|apply keep_drewN|apply keep_drew|apply keep_alloc|refine keep_far ?_ GW291.out _)|exact HK.out)⟩
def sluiceref2_reader_epoch.f (k:Nat) (s0_0:List Int) (s0_1:Int) (s0_2:Bool):Option (Int×Int×Int×Bool):=(sluiceref2_reader_num.f k s0_0 s0_1 s0_2 1 1099511627776).bind fun bt302=>((sluiceref2_reader_num.f k s0_0 bt302.2.1 bt302.2.2 0 15).bind fun bt305=>(some (bt302.1,bt305.1,bt305.2.1,bt305.2.2)))
theorem sluiceref2_reader_epoch.calls (k:Nat) (g:Nat) (s0_0:List Int) (s0_1:Int) (s0_2:Bool) (r1:Int) (r2:Int) (r3:Int) (r4:Bool) (w0 w:World) (hI:IsS132 w0 w g s0_0 s0_1 s0_2) (hB:Below w0.heap.size w0 w) (h:sluiceref2_reader_epoch.f k s0_0 s0_1 s0_2=some (r1,r2,r3,r4)):
  Calls Try.prog 117 #[.pointer (some ⟨g,0,none⟩)] w fun e w'=>e = .returned (.agg #[.int .i64 r1,.int .i64 r2])∧IsS132 w0 w' g s0_0 r3 r4∧Below w0.heap.size w0 w'∧KeepBut w w' g none:=by
 have hu23:=Try.underlying23;have HI0:=Aside0.mk hI;have HK:=Aside0.mk (KeepBut.refl w g none);have HL:=Aside0.mk hB.size;clear hI;have HW0:=Aside0.mk hB.size;have HB:=Aside0.mk hB;clear hB;have H:((sluiceref2_reader_num.f k s0_0 s0_1 s0_2 1 1099511627776).bind fun bt302=>((sluiceref2_reader_num.f k s0_0 bt302.2.1 bt302.2.2 0 15).bind fun bt305=>(some (bt302.1,bt305.1,bt305.2.1,bt305.2.2))))=some (r1,r2,r3,r4):=h;clear h;replace H:=Option.bind_eq_some_iff.mp H;obtain ⟨⟨t302,t303,t304⟩,A20,H⟩:=H;replace H:((sluiceref2_reader_num.f k s0_0 t303 t304 0 15).bind fun bt305=>(some (t302,bt305.1,bt305.2.1,bt305.2.2)))=some (r1,r2,r3,r4):=H;have A2:=Aside0.mk A20;clear A20;replace H:=Option.bind_eq_some_iff.mp H;obtain ⟨⟨t305,t306,t307⟩,A30,H⟩:=H;replace H:(some (t302,t305,t306,t307))=some (r1,r2,r3,r4):=H;have A3:=Aside0.mk A30;clear A30;simp only[Option.some.injEq,Prod.mk.injEq] at H;obtain ⟨rfl,rfl,rfl,rfl⟩:=H;go_enter Try.func117,Try.ntmps117
 go_wp2_with (first|((with_reducible refine gate_dst (N:=2) rfl ?_);refine box_event ?hg (N:=2) ?hd (cs := #[.int .i64 0,.int .i64 0]) (t:=23) ?hr ?_;(case hd=>rfl);(case hg=>rfl);(case hr=>first|(go_simp;done)|(go_simp;rfl));intro gb301 hg w4 hbox hb;have n0_:=Aside0.mk (IsS132.below (by repeat (first|(with_reducible first|exact HI0.out|apply IsS132.alloc|apply IsS132.drewN|apply IsS132.drew|apply IsS132.set_1|apply IsS132.set_2)|exact HI0.out)) hb);have n1_:=Aside0.mk (KeepBut.trans (by repeat (first|(with_reducible first|exact HK.out|apply KeepBut.set_|apply keep_drewN|apply keep_drew|apply keep_alloc)|exact HK.out)) (KeepBut.of_below hb g none) (.inl rfl));have n2_:=Aside0.mk (below_step (by repeat (first|(with_reducible first|exact HB.out|apply below_alloc|apply pw_below_drewN|apply below_drew1|refine below_set ?_ (IsS132.ge HI0.out))|exact HB.out)) hb);have n3_:=Aside0.mk (hbox);have n4_:=Aside0.mk ((by rw[hg];exact (keep_size (w:=w) (g:=g) (row:=none) (by repeat (first|(with_reducible first|exact HK.out|apply KeepBut.set_|apply keep_drewN|apply keep_drew|apply keep_alloc)|exact HK.out))):w.heap.size≤gb301));have n5_:=Aside0.mk ((Nat.le_trans HW0.out (by rw[hg];exact (keep_size (w:=w) (g:=g) (row:=none) (by repeat (first|(with_reducible first|exact HK.out|apply KeepBut.set_|apply keep_drewN|apply keep_drew|apply keep_alloc)|exact HK.out))):w.heap.size≤gb301):w0.heap.size≤gb301));have n6_:=Aside0.mk ((by rw[hg];exact Nat.ne_of_lt (IsS132.lt (show IsS132 w0 _ g s0_0 s0_1 s0_2 from by repeat (first|(with_reducible first|exact HI0.out|apply IsS132.alloc|apply IsS132.drewN|apply IsS132.drew|apply IsS132.set_1|apply IsS132.set_2)|exact HI0.out))):g≠gb301));have n7_:=Aside0.mk ((by rw[hg];exact Nat.ne_of_gt (IsS132.lt (show IsS132 w0 _ g s0_0 s0_1 s0_2 from by repeat (first|(with_reducible first|exact HI0.out|apply IsS132.alloc|apply IsS132.drewN|apply IsS132.drew|apply IsS132.set_1|apply IsS132.set_2)|exact HI0.out))):gb301≠g));clear HI0;clear HK;clear HB;have HI0:=n0_;have HK:=n1_;have HB:=n2_;have BK301:=n3_;have GW301:=n4_;have GE301:=n5_;have NB0_301:=n6_;have NB301_0:=n7_;clear n0_ n1_ n2_ n3_ n4_ n5_ n6_ n7_;clear hb hbox hg)|((with_reducible refine gate_callee (f:=102) rfl ?_);refine goesL_ (some 5) rfl rfl Try.func102 (by kernel_rfl) rfl #[.pointer (some ⟨g,0,none⟩),.int .i64 1,.int .i64 1099511627776] rfl (by (try simp only[List.map_toArray,List.map_cons,List.map_nil]);first|done|rfl|(simp only[List.length_drop,List.length_take];rfl)) ?_;(with_reducible refine (sluiceref2_reader_num.calls k g s0_0 s0_1 s0_2 1 1099511627776 t302 t303 t304 w0 _ ?side1 ?side2 A2.out).mono ?_);(case side1=>repeat (first|(with_reducible first|exact HI0.out|apply IsS132.alloc|apply IsS132.drewN|apply IsS132.drew|apply IsS132.set_1|apply IsS132.set_2|refine IsS132.far ?_ NB0_301.out _)|exact HI0.out));(case side2=>repeat (first|(with_reducible first|exact HB.out|apply below_alloc|apply pw_below_drewN|apply below_drew1|refine below_set ?_ (IsS132.ge HI0.out)|refine below_set ?_ GE301.out)|exact HB.out));rintro e w5 ⟨rfl,hi,hb,hk⟩;refine ⟨_,rfl,?_⟩;have n0_:=Aside0.mk (KeepBut.blk hk (g':=gb301) (o := .cells #[.int .i64 0,.int .i64 0] 23 (0,0)) (by (with_reducible repeat (first|refine blk_drewN ?_ _|refine blk_drew ?_|refine blk_alloc ?_ _));exact BK301.out) NB301_0.out (by simp));have n1_:=Aside0.mk (KeepBut.trans (by repeat (first|(with_reducible first|exact HK.out|apply KeepBut.set_|apply keep_drewN|apply keep_drew|apply keep_alloc|refine keep_far ?_ GW301.out _)|exact HK.out)) hk (.inl rfl));have n2_:=Aside0.mk (hb);have n3_:=Aside0.mk (hi);clear BK301;clear HK;clear HB;clear HI0;have BK301:=n0_;have HK:=n1_;have HB:=n2_;have HI0:=n3_;clear n0_ n1_ n2_ n3_;(try clear hb);(try clear hb2);(try clear hk);(try clear hi))|((with_reducible refine gate_callee (f:=102) rfl ?_);refine goesL_ (some 8) rfl rfl Try.func102 (by kernel_rfl) rfl #[.pointer (some ⟨g,0,none⟩),.int .i64 0,.int .i64 15] rfl (by (try simp only[List.map_toArray,List.map_cons,List.map_nil]);first|done|rfl|(simp only[List.length_drop,List.length_take];rfl)) ?_;(with_reducible refine (sluiceref2_reader_num.calls k g s0_0 t303 t304 0 15 t305 t306 t307 w0 _ ?side1 ?side2 A3.out).mono ?_);(case side1=>repeat (first|(with_reducible first|exact HI0.out|apply IsS132.alloc|apply IsS132.drewN|apply IsS132.drew|apply IsS132.set_1|apply IsS132.set_2|refine IsS132.far ?_ NB0_301.out _)|exact HI0.out));(case side2=>repeat (first|(with_reducible first|exact HB.out|apply below_alloc|apply pw_below_drewN|apply below_drew1|refine below_set ?_ (IsS132.ge HI0.out)|refine below_set ?_ GE301.out)|exact HB.out));rintro e w6 ⟨rfl,hi,hb,hk⟩;refine ⟨_,rfl,?_⟩;have n0_:=Aside0.mk (KeepBut.blk hk (g':=gb301) (o := .cells #[.int .i64 0,.int .i64 0] 23 (0,0)) (by (with_reducible repeat (first|refine blk_drewN ?_ _|refine blk_drew ?_|refine blk_alloc ?_ _));exact BK301.out) NB301_0.out (by simp));have n1_:=Aside0.mk (KeepBut.trans (by repeat (first|(with_reducible first|exact HK.out|apply KeepBut.set_|apply keep_drewN|apply keep_drew|apply keep_alloc|refine keep_far ?_ GW301.out _)|exact HK.out)) hk (.inl rfl));have n2_:=Aside0.mk (hb);have n3_:=Aside0.mk (hi);clear BK301;clear HK;clear HB;clear HI0;have BK301:=n0_;have HK:=n1_;have HB:=n2_;have HI0:=n3_;clear n0_ n1_ n2_ n3_;(try clear hb);(try clear hb2);(try clear hk);(try clear hi);have hnb7:=NB301_0.out;have hnc7:=NB0_301.out;have hcz8_0:w6.cell? ⟨gb301,0,none⟩=some (.int .i64 0):=(blk_cell BK301.out 0).trans rfl;have hcz8_1:w6.cell? ⟨gb301,1,none⟩=some (.int .i64 0):=(blk_cell BK301.out 1).trans rfl;have hfz8_0:=blk_frozen BK301.out 0;have hfz8_1:=blk_frozen BK301.out 1))
 refine bodyPost_ret (results_cell_row rfl _ _ gb301 23 #[.int .i64 t302,.int .i64 t305] (0,0) _ rfl (by (with_reducible repeat (first|refine blk_drewN ?_ _|refine blk_drew ?_|refine blk_alloc ?_ _));refine blk_put (cs := #[.int .i64 t302,.int .i64 0]) ?_ 1 _ rfl;(with_reducible repeat (first|refine blk_drewN ?_ _|refine blk_drew ?_|refine blk_alloc ?_ _));refine blk_put (cs := #[.int .i64 0,.int .i64 0]) ?_ 0 _ rfl;(with_reducible repeat (first|refine blk_drewN ?_ _|refine blk_drew ?_|refine blk_alloc ?_ _));exact BK301.out) Try.underlying23 rfl (by kernel_rfl)) rfl ?_;exact ⟨by first|rfl|(simp[errW_none,errW_some]<;>rfl)|(simp[*,errW_none,errW_some]<;>rfl),by repeat (first|(with_reducible first|exact HI0.out|apply IsS132.alloc|apply IsS132.drewN|apply IsS132.drew|apply IsS132.set_1|apply IsS132.set_2|refine IsS132.far ?_ NB0_301.out _)|exact HI0.out),by repeat (first|(with_reducible first|exact HB.out|apply below_alloc|apply pw_below_drewN|apply below_drew1|refine below_set ?_ (IsS132.ge HI0.out)|refine below_set ?_ GE301.out)|exact HB.out),by repeat (first|(with_reducible first|exact HK.out|apply KeepBut.set_|apply keep_drewN|apply keep_drew|apply keep_alloc|refine keep_far ?_ GW301.out _)|exact HK.out)⟩
def sluiceref2_reader_done.f (s0_0:List Int) (s0_1:Int) (s0_2:Bool):Option (Int×Int×Int×Bool):=if s0_2=true then (some (s0_1,20,s0_1,s0_2)) else (if s0_1<(s0_0.length:Int) then (some (s0_1,20,s0_1,s0_2)) else (some (0,0,s0_1,s0_2)))
theorem sluiceref2_reader_done.calls (g:Nat) (s0_0:List Int) (s0_1:Int) (s0_2:Bool) (r1:Int) (r2:Int) (r3:Int) (r4:Bool) (w0 w:World) (hI:IsS132 w0 w g s0_0 s0_1 s0_2) (hB:Below w0.heap.size w0 w) (h:sluiceref2_reader_done.f s0_0 s0_1 s0_2=some (r1,r2,r3,r4)):
  Calls Try.prog 93 #[.pointer (some ⟨g,0,none⟩)] w fun e w'=>e = .returned (.tuple #[.int .i64 r1,.int .i64 r2])∧IsS132 w0 w' g s0_0 r3 r4∧Below w0.heap.size w0 w'∧KeepBut w w' g none:=by
 have HI0:=Aside0.mk hI;have HK:=Aside0.mk (KeepBut.refl w g none);have HL:=Aside0.mk hB.size;clear hI;have HW0:=Aside0.mk hB.size;have HB:=Aside0.mk hB;clear hB;have H:(if s0_2=true then (some (s0_1,20,s0_1,s0_2)) else (if s0_1<(s0_0.length:Int) then (some (s0_1,20,s0_1,s0_2)) else (some (0,0,s0_1,s0_2))))=some (r1,r2,r3,r4):=h;clear h;by_cases c2:s0_2=true
 ·subst c2;have H1:(some (s0_1,20,s0_1,true))=some (r1,r2,r3,r4):=by rw[if_pos rfl] at H;exact H
  clear H;have H:=H1;clear H1;simp only[Option.some.injEq,Prod.mk.injEq] at H;obtain ⟨rfl,rfl,rfl,rfl⟩:=H;obtain ⟨ASz3_0,cSz3_0,HGz3,hgz3,HSz3_0⟩:=HI0.out;have hcz3_0:=cellS132_0 HGz3;have hcz3_1:=cellS132_1 HGz3;have hcz3_2:=cellS132_2 HGz3;have hfz3_1:=blk_frozen HGz3 1;have hfz3_2:=blk_frozen HGz3 2;clear HGz3 hgz3;go_enter Try.func93,Try.ntmps93
  go_wp2
  repeat (go_quiet (fail);try go_wp2)
  go_ret2
  exact ⟨by first|rfl|(simp[errW_none,errW_some]<;>rfl)|(simp[*,errW_none,errW_some]<;>rfl),by repeat (first|(with_reducible first|exact HI0.out|apply IsS132.alloc|apply IsS132.drewN|apply IsS132.drew|apply IsS132.set_1|apply IsS132.set_2)|exact HI0.out),by repeat (first|(with_reducible first|exact HB.out|apply below_alloc|apply pw_below_drewN|apply below_drew1|refine below_set ?_ (IsS132.ge HI0.out))|exact HB.out),by repeat (first|(with_reducible first|exact HK.out|apply KeepBut.set_|apply keep_drewN|apply keep_drew|apply keep_alloc)|exact HK.out)⟩
 ·replace c2:=Bool.eq_false_iff.mpr c2;subst c2;have H1:(if s0_1<(s0_0.length:Int) then (some (s0_1,20,s0_1,false)) else (some (0,0,s0_1,false)))=some (r1,r2,r3,r4):=by rw[if_neg (show ¬(false=true) by decide)] at H;exact H
  clear H;have H:=H1;clear H1;by_cases c4:s0_1<(s0_0.length:Int)
  ·rw[if_pos c4] at H;have c4b0:decide (s0_1<(s0_0.length:Int))=true:=decide_eq_true c4;clear c4;simp only[Option.some.injEq,Prod.mk.injEq] at H;obtain ⟨rfl,rfl,rfl,rfl⟩:=H;obtain ⟨ASz5_0,cSz5_0,HGz5,hgz5,HSz5_0⟩:=HI0.out;have hcz5_0:=cellS132_0 HGz5;have hcz5_1:=cellS132_1 HGz5;have hcz5_2:=cellS132_2 HGz5;have hfz5_1:=blk_frozen HGz5 1;have hfz5_2:=blk_frozen HGz5 2;clear HGz5 hgz5;go_enter Try.func93,Try.ntmps93
   go_wp2
   repeat (go_quiet (fail);try go_wp2)
   go_ret2
   exact ⟨by first|rfl|(simp[errW_none,errW_some]<;>rfl)|(simp[*,errW_none,errW_some]<;>rfl),by repeat (first|(with_reducible first|exact HI0.out|apply IsS132.alloc|apply IsS132.drewN|apply IsS132.drew|apply IsS132.set_1|apply IsS132.set_2)|exact HI0.out),by repeat (first|(with_reducible first|exact HB.out|apply below_alloc|apply pw_below_drewN|apply below_drew1|refine below_set ?_ (IsS132.ge HI0.out))|exact HB.out),by repeat (first|(with_reducible first|exact HK.out|apply KeepBut.set_|apply keep_drewN|apply keep_drew|apply keep_alloc)|exact HK.out)⟩
  ·rw[if_neg c4] at H;have c4b0:decide (s0_1<(s0_0.length:Int))=false:=decide_eq_false c4;clear c4;simp only[Option.some.injEq,Prod.mk.injEq] at H;obtain ⟨rfl,rfl,rfl,rfl⟩:=H;obtain ⟨ASz6_0,cSz6_0,HGz6,hgz6,HSz6_0⟩:=HI0.out;have hcz6_0:=cellS132_0 HGz6;have hcz6_1:=cellS132_1 HGz6;have hcz6_2:=cellS132_2 HGz6;have hfz6_1:=blk_frozen HGz6 1;have hfz6_2:=blk_frozen HGz6 2;clear HGz6 hgz6;go_enter Try.func93,Try.ntmps93
   go_wp2
   repeat (go_quiet (fail);try go_wp2)
   go_ret2
   exact ⟨by first|rfl|(simp[errW_none,errW_some]<;>rfl)|(simp[*,errW_none,errW_some]<;>rfl),by repeat (first|(with_reducible first|exact HI0.out|apply IsS132.alloc|apply IsS132.drewN|apply IsS132.drew|apply IsS132.set_1|apply IsS132.set_2)|exact HI0.out),by repeat (first|(with_reducible first|exact HB.out|apply below_alloc|apply pw_below_drewN|apply below_drew1|refine below_set ?_ (IsS132.ge HI0.out))|exact HB.out),by repeat (first|(with_reducible first|exact HK.out|apply KeepBut.set_|apply keep_drewN|apply keep_drew|apply keep_alloc)|exact HK.out)⟩
mutual
def sluicelaw2_back.j0:Nat→List Int→Bool→Option (Bool×List Int)
 | 0,_,_=>none
 | k+1,x0,x6=>sluicelaw2_back.l0 k x0 x6 0
def sluicelaw2_back.l0:Nat→List Int→Bool→Int→Option (Bool×List Int)
 | 0,_,_,_=>none
 | k+1,x0,x6,x7=>if x7<(x0.length:Int) then (if 0≤x7 then (sluicelaw2_back.l0 k (x0.set (x7:Int).toNat 85) x6 (wrap64 (x7+1))) else (none)) else (some (x6,x0))
end
def sluicelaw2_back.f (k:Nat) (l0:List Int) (l1:List Int):Option (Bool×List Int):=if (l0.length:Int)=(wrap64 ((l1.length:Int)+2)) then (if 0≤(l1.length:Int) then (if (l1.length:Int)≤(l0.length:Int) then ((sluicelaw2_alike.f (l0.take ((l1.length:Int):Int).toNat) l1).bind fun t323=>(if t323=true then (if (l1.length:Int)<(l0.length:Int) then (if (rd l0 (l1.length:Int))=165 then (if 0≤(wrap64 ((l1.length:Int)+1)) then (if (wrap64 ((l1.length:Int)+1))<(l0.length:Int) then (sluicelaw2_back.j0 k l0 ((rd l0 (wrap64 ((l1.length:Int)+1))) == 90)) else (none)) else (none)) else (sluicelaw2_back.j0 k l0 false)) else (none)) else (sluicelaw2_back.j0 k l0 false))) else (none)) else (none)) else (sluicelaw2_back.j0 k l0 false)
theorem sluicelaw2_back.calls (k : Nat) (P0_ : Nat → Prop) (u9000_ : Value) (l0 : List Int) (A1 : Option Addr) (c1 : Nat) (l1 : List Int) (r1 : Bool) (r2 : List Int) (w0 w : World) (hB : Below w0.heap.size w0 w) (ho0 : Kd.R (Kd.int .u8) 5 w w0.heap.size P0_ u9000_ l0) (hr1 : ∀ W_, Kept w W_ (fun k_ => P0_ k_) → Kd.C (Kd.int .u8) W_ A1 l1.length l1) (hc1 : l1.length ≤ c1) (h : sluicelaw2_back.f k l0 l1 = some (r1, r2)) :
    Calls Try.prog 42 #[u9000_,.slice A1 l1.length c1] w fun e w'=>e = .returned (.bool r1)∧Kd.R (Kd.int .u8) 5 w' w0.heap.size (fun k_=>(P0_ k_∨w.heap.size≤k_)) u9000_ r2∧Below w0.heap.size w0 w'∧Kept w w' (fun k_=>P0_ k_):=by
  have HO0:=Aside0.mk (show Kd.R (Kd.int .u8) 5 w w0.heap.size (fun k_=>(P0_ k_∨w.heap.size≤k_)) u9000_ l0 from Kd.R_mono ho0 (fun k_ hk=>(.inl hk)));have HR1:=Aside0.mk hr1;have HC1:=Aside0.mk hc1;clear hr1 hc1;have HK:=Aside0.mk (Kept.refl w (fun k_=>P0_ k_));have HW0:=Aside0.mk hB.size;have HB:=Aside0.mk hB;clear hB;have H:(if (l0.length:Int)=(wrap64 ((l1.length:Int)+2)) then (if 0≤(l1.length:Int) then (if (l1.length:Int)≤(l0.length:Int) then ((sluicelaw2_alike.f (l0.take ((l1.length:Int):Int).toNat) l1).bind fun t323=>(if t323=true then (if (l1.length:Int)<(l0.length:Int) then (if (rd l0 (l1.length:Int))=165 then (if 0≤(wrap64 ((l1.length:Int)+1)) then (if (wrap64 ((l1.length:Int)+1))<(l0.length:Int) then (sluicelaw2_back.j0 k l0 ((rd l0 (wrap64 ((l1.length:Int)+1))) == 90)) else (none)) else (none)) else (sluicelaw2_back.j0 k l0 false)) else (none)) else (sluicelaw2_back.j0 k l0 false))) else (none)) else (none)) else (sluicelaw2_back.j0 k l0 false))=some (r1,r2):=h;clear h;have HC3:=Aside0.mk H;clear H;go_enter Try.func42,Try.ntmps42
  go_upto_region 2 with (fail)
  go_cut [6] (fun v6 wc=>∃ (kq:Nat) (x6_2:Bool),v6 = .bool x6_2∧Aside0 (sluicelaw2_back.j0 kq l0 x6_2=some (r1,r2))∧Aside0 (kq≤k)∧Aside0 (Kd.R (Kd.int .u8) 5 wc w0.heap.size (fun k_=>(P0_ k_∨w.heap.size≤k_)) u9000_ l0)∧Aside0 (Kept w wc (fun k_=>P0_ k_))∧Aside0 (Below w0.heap.size w0 wc))
  case first =>
    have H:=HC3.out;clear HC3;by_cases c4:(l0.length:Int)=(wrap64 ((l1.length:Int)+2))
    · rw [if_pos c4] at H
      have c4b0:((l0.length:Int) == (wrap64 ((l1.length:Int)+2)))=true:=beq_iff_eq.mpr c4;have c4b1:((l0.length:Int) != (wrap64 ((l1.length:Int)+2)))=false:=bne_eq_false_iff_eq.mpr c4;clear c4
      (first|rw[c4b0]|(simp only[i64_w,i32_w];rw[c4b0])|skip)
      by_cases c5:0≤(l1.length:Int)
      · rw [if_pos c5] at H
        have c5b0:=eq_true c5;have c5b1:decide (0≤(l1.length:Int))=true:=decide_eq_true c5;clear c5;by_cases c6:(l1.length:Int)≤(l0.length:Int)
        · rw [if_pos c6] at H
          have c6b0:=eq_true c6;have c6b1:decide ((l1.length:Int)≤(l0.length:Int))=true:=decide_eq_true c6;clear c6;obtain ⟨y319,hy319⟩:∃ y_:List Int,y_=(l0.take ((l1.length:Int):Int).toNat):=⟨_,rfl⟩;replace H:((sluicelaw2_alike.f y319 l1).bind fun t323=>(if t323=true then (if (l1.length:Int)<(l0.length:Int) then (if (rd l0 (l1.length:Int))=165 then (if 0≤(wrap64 ((l1.length:Int)+1)) then (if (wrap64 ((l1.length:Int)+1))<(l0.length:Int) then (sluicelaw2_back.j0 k l0 ((rd l0 (wrap64 ((l1.length:Int)+1))) == 90)) else (none)) else (none)) else (sluicelaw2_back.j0 k l0 false)) else (none)) else (sluicelaw2_back.j0 k l0 false)))=some (r1,r2):=by first|(rw[hy319];with_reducible exact H)|(have H2_:=(Option.bind_some _ _).symm.trans H;rw[hy319];with_reducible exact H2_)|(have H2_:=(Option.bind_some _ _).symm.trans H;with_reducible exact H2_)|with_reducible exact H|(rw[hy319];exact H)|exact H
          have Ny319:=Aside0.mk hy319;clear hy319;replace H:=Option.bind_eq_some_iff.mp H;obtain ⟨t323,A70,H⟩:=H;replace H:(if t323=true then (if (l1.length:Int)<(l0.length:Int) then (if (rd l0 (l1.length:Int))=165 then (if 0≤(wrap64 ((l1.length:Int)+1)) then (if (wrap64 ((l1.length:Int)+1))<(l0.length:Int) then (sluicelaw2_back.j0 k l0 ((rd l0 (wrap64 ((l1.length:Int)+1))) == 90)) else (none)) else (none)) else (sluicelaw2_back.j0 k l0 false)) else (none)) else (sluicelaw2_back.j0 k l0 false))=some (r1,r2):=H;have A7:=Aside0.mk A70;clear A70;by_cases c8:t323=true
          · subst c8
            have H1:(if (l1.length:Int)<(l0.length:Int) then (if (rd l0 (l1.length:Int))=165 then (if 0≤(wrap64 ((l1.length:Int)+1)) then (if (wrap64 ((l1.length:Int)+1))<(l0.length:Int) then (sluicelaw2_back.j0 k l0 ((rd l0 (wrap64 ((l1.length:Int)+1))) == 90)) else (none)) else (none)) else (sluicelaw2_back.j0 k l0 false)) else (none))=some (r1,r2):=by rw[if_pos rfl] at H;exact H
            clear H;have H:=H1;clear H1;by_cases c9:(l1.length:Int)<(l0.length:Int)
            · rw [if_pos c9] at H
              have c9b0:decide ((l1.length:Int)<(l0.length:Int))=true:=decide_eq_true c9;have c9b1:decide (l1.length<l0.length)=true:=decide_eq_true (Int.ofNat_lt.mp c9);clear c9;by_cases c10:(rd l0 (l1.length:Int))=165
              · rw [if_pos c10] at H
                have c10b0:((rd l0 (l1.length:Int)) == 165)=true:=beq_iff_eq.mpr c10;have c10b1:((rd l0 (l1.length:Int)) != 165)=false:=bne_eq_false_iff_eq.mpr c10;clear c10;obtain ⟨ji11,hji11⟩:∃ j_:Int,(wrap64 ((l1.length:Int)+1))=j_:=⟨_,rfl⟩;replace H:(if 0≤(ji11) then (if (ji11)<(l0.length:Int) then (sluicelaw2_back.j0 k l0 ((rd l0 (ji11)) == 90)) else (none)) else (none))=some (r1,r2):=by first|(rw[hji11] at H;exact H)|(simp only[hji11] at H ⊢;exact H)
                (try rw[hji11] at A7)
                have hji11w:(IntKind.i64.wrap ((l1.length:Int)+1))=ji11:=(i64_w _).trans hji11;by_cases c12:0≤(ji11)
                ·rw[if_pos c12] at H;have c12b0:decide (0≤(ji11))=true:=decide_eq_true c12;clear c12;by_cases c13:(ji11)<(l0.length:Int)
                 ·rw[if_pos c13] at H;have c13b0:decide ((ji11)<(l0.length:Int))=true:=decide_eq_true c13;clear c13;have H':=Aside0.mk H;clear H;obtain ⟨Ao14,co14,eo14⟩:=Kd.R_slice HO0.out;subst eo14;have q15:((l1.length:Int):Int)≤((l0.length:Int):Int):=of_decide_eq_true (by first|(with_reducible assumption)|assumption);obtain ⟨i015,hi015,_,hsz15,_⟩:=info_parts info5;have hroom15:l0.length≤co14:=(Kd.R_reads' HO0.out).2.1;have hC15:Kd.C (Kd.int .u8) _ Ao14 l0.length l0:=(Kd.R_reads' HO0.out).2.2;have hcut15:=cut_to (P:=Try.prog) 36 5 .i64 Try.underlying36 hi015 Ao14 l0.length co14 (l1.length:Int) (of_decide_eq_true (by first|(with_reducible assumption)|assumption)) q15 hroom15;have hr15:=Kd.C_take (m:=((l1.length:Int):Int).toNat) hC15 (by omega);have hy15:y319.length=((l1.length:Int):Int).toNat:=(by rw[Ny319.out,List.length_take];omega);rw[←Ny319.out] at hr15;rw[←hy15] at hcut15;have HR322:=Aside0.mk hr15;have HC322:=Aside0.mk (show y319.length≤co14 from by omega);clear hr15 hC15 hroom15 hi015 hsz15;have KY15:=Aside0.mk hy15;clear hy15;have KL15:=Aside0.mk (show ((l1.length:Int):Int).toNat≤l0.length from by omega);replace q15:=eq_true q15;go_wp2_with (first|(go_at_call 37;(with_reducible refine (sluicelaw2_alike.calls _ _ y319 _ _ l1 true _ ?side1 ?side2 ?side3 ?side4 A7.out).mono ?_);(case side1=>repeat (first|exact (by repeat (first|(with_reducible exact HR322.out)|(with_reducible refine Kd.C_alloc ?_ _)|(with_reducible refine Kd.C_drewN ?_ _)|(with_reducible refine Kd.C_drew ?_)|exact HR322.out))|(with_reducible refine Kd.C_alloc ?_ _)|(with_reducible refine Kd.C_drewN ?_ _)|(with_reducible refine Kd.C_drew ?_)));(case side2=>exact HC322.out);(case side3=>exact Kd.C_kept_now HR1.out (by repeat (first|(with_reducible first|exact HK.out|apply Kept.alloc|apply Kept.drewN|apply Kept.drew)|exact HK.out)));(case side4=>exact HC1.out);rintro e w' ⟨rfl,⟨nd,rfl⟩⟩;have p324:0≤((l1.length:Int):Int):=of_decide_eq_true (by first|(with_reducible assumption)|assumption);have q324:(l1.length:Int)<(l0.length:Int):=of_decide_eq_true (by first|(with_reducible assumption)|assumption);obtain ⟨ad324,e324,hx324_0⟩:=Kd.at_int (Kd.R_reads' HO0.out).2.2 (l1.length:Int) p324 q324;cases e324;(try simp only[Go.IntWalk.toNatUp] at hx324_0);replace p324:=eq_true p324;replace q324:=eq_true q324;have p325:0≤((ji11):Int):=of_decide_eq_true (by first|(with_reducible assumption)|assumption);have q325:(ji11)<(l0.length:Int):=of_decide_eq_true (by first|(with_reducible assumption)|assumption);obtain ⟨ad325,e325,hx325_0⟩:=Kd.at_int (Kd.R_reads' HO0.out).2.2 (ji11) p325 q325;obtain rfl:ad324=ad325:=(by injection e325);replace p325:=eq_true p325;replace q325:=eq_true q325))
                  go_meet
                  case rel=>exact ⟨_,(((rd l0 (ji11)) == 90)),(by first|rfl|(simp;done)|(simp only[←hji11]<;>(first|rfl|simp))|(simp[*];done)),H',⟨by first|omega|exact Nat.le_refl _⟩,⟨by (with_reducible repeat (first|apply Kd.R_alloc|apply Kd.R_drewN|apply Kd.R_drew));exact HO0.out⟩,⟨by repeat (first|(with_reducible first|exact HK.out|apply Kept.alloc|apply Kept.drewN|apply Kept.drew)|exact HK.out)⟩,⟨by repeat (first|(with_reducible first|exact HB.out|apply below_alloc|apply pw_below_drewN|apply below_drew1)|exact HB.out)⟩⟩
                 ·rw[if_neg c13] at H;exact absurd H (by simp)
                ·rw[if_neg c12] at H;exact absurd H (by simp)
              ·rw[if_neg c10] at H;have c10b0:((rd l0 (l1.length:Int)) == 165)=false:=beq_eq_false_iff_ne.mpr c10;have c10b1:((rd l0 (l1.length:Int)) != 165)=true:=bne_iff_ne.mpr c10;have H':=Aside0.mk H;clear H;obtain ⟨Ao16,co16,eo16⟩:=Kd.R_slice HO0.out;subst eo16;have q17:((l1.length:Int):Int)≤((l0.length:Int):Int):=of_decide_eq_true (by first|(with_reducible assumption)|assumption);obtain ⟨i017,hi017,_,hsz17,_⟩:=info_parts info5;have hroom17:l0.length≤co16:=(Kd.R_reads' HO0.out).2.1;have hC17:Kd.C (Kd.int .u8) _ Ao16 l0.length l0:=(Kd.R_reads' HO0.out).2.2;have hcut17:=cut_to (P:=Try.prog) 36 5 .i64 Try.underlying36 hi017 Ao16 l0.length co16 (l1.length:Int) (of_decide_eq_true (by first|(with_reducible assumption)|assumption)) q17 hroom17;have hr17:=Kd.C_take (m:=((l1.length:Int):Int).toNat) hC17 (by omega);have hy17:y319.length=((l1.length:Int):Int).toNat:=(by rw[Ny319.out,List.length_take];omega);rw[←Ny319.out] at hr17;rw[←hy17] at hcut17;have HR322:=Aside0.mk hr17;have HC322:=Aside0.mk (show y319.length≤co16 from by omega);clear hr17 hC17 hroom17 hi017 hsz17;have KY17:=Aside0.mk hy17;clear hy17;have KL17:=Aside0.mk (show ((l1.length:Int):Int).toNat≤l0.length from by omega);replace q17:=eq_true q17;go_wp2_with (first|(go_at_call 37;(with_reducible refine (sluicelaw2_alike.calls _ _ y319 _ _ l1 true _ ?side1 ?side2 ?side3 ?side4 A7.out).mono ?_);(case side1=>repeat (first|exact (by repeat (first|(with_reducible exact HR322.out)|(with_reducible refine Kd.C_alloc ?_ _)|(with_reducible refine Kd.C_drewN ?_ _)|(with_reducible refine Kd.C_drew ?_)|exact HR322.out))|(with_reducible refine Kd.C_alloc ?_ _)|(with_reducible refine Kd.C_drewN ?_ _)|(with_reducible refine Kd.C_drew ?_)));(case side2=>exact HC322.out);(case side3=>exact Kd.C_kept_now HR1.out (by repeat (first|(with_reducible first|exact HK.out|apply Kept.alloc|apply Kept.drewN|apply Kept.drew)|exact HK.out)));(case side4=>exact HC1.out);rintro e w' ⟨rfl,⟨nd,rfl⟩⟩;have p324:0≤((l1.length:Int):Int):=of_decide_eq_true (by first|(with_reducible assumption)|assumption);have q324:(l1.length:Int)<(l0.length:Int):=of_decide_eq_true (by first|(with_reducible assumption)|assumption);obtain ⟨ad324,e324,hx324_0⟩:=Kd.at_int (Kd.R_reads' HO0.out).2.2 (l1.length:Int) p324 q324;cases e324;(try simp only[Go.IntWalk.toNatUp] at hx324_0);replace p324:=eq_true p324;replace q324:=eq_true q324))
               go_meet
               case rel=>exact ⟨_,(false),(by first|rfl|(simp;done)|(simp[*];done)),H',⟨by first|omega|exact Nat.le_refl _⟩,⟨by (with_reducible repeat (first|apply Kd.R_alloc|apply Kd.R_drewN|apply Kd.R_drew));exact HO0.out⟩,⟨by repeat (first|(with_reducible first|exact HK.out|apply Kept.alloc|apply Kept.drewN|apply Kept.drew)|exact HK.out)⟩,⟨by repeat (first|(with_reducible first|exact HB.out|apply below_alloc|apply pw_below_drewN|apply below_drew1)|exact HB.out)⟩⟩
            ·rw[if_neg c9] at H;exact absurd H (by simp)
          ·replace c8:=Bool.eq_false_iff.mpr c8;subst c8;have H1:(sluicelaw2_back.j0 k l0 false)=some (r1,r2):=by rw[if_neg (show ¬(false=true) by decide)] at H;exact H
           clear H;have H:=H1;clear H1;have H':=Aside0.mk H;clear H;obtain ⟨Ao18,co18,eo18⟩:=Kd.R_slice HO0.out;subst eo18;have q19:((l1.length:Int):Int)≤((l0.length:Int):Int):=of_decide_eq_true (by first|(with_reducible assumption)|assumption);obtain ⟨i019,hi019,_,hsz19,_⟩:=info_parts info5;have hroom19:l0.length≤co18:=(Kd.R_reads' HO0.out).2.1;have hC19:Kd.C (Kd.int .u8) _ Ao18 l0.length l0:=(Kd.R_reads' HO0.out).2.2;have hcut19:=cut_to (P:=Try.prog) 36 5 .i64 Try.underlying36 hi019 Ao18 l0.length co18 (l1.length:Int) (of_decide_eq_true (by first|(with_reducible assumption)|assumption)) q19 hroom19;have hr19:=Kd.C_take (m:=((l1.length:Int):Int).toNat) hC19 (by omega);have hy19:y319.length=((l1.length:Int):Int).toNat:=(by rw[Ny319.out,List.length_take];omega);rw[←Ny319.out] at hr19;rw[←hy19] at hcut19;have HR322:=Aside0.mk hr19;have HC322:=Aside0.mk (show y319.length≤co18 from by omega);clear hr19 hC19 hroom19 hi019 hsz19;have KY19:=Aside0.mk hy19;clear hy19;have KL19:=Aside0.mk (show ((l1.length:Int):Int).toNat≤l0.length from by omega);replace q19:=eq_true q19;go_wp2_with (first|(go_at_call 37;(with_reducible refine (sluicelaw2_alike.calls _ _ y319 _ _ l1 false _ ?side1 ?side2 ?side3 ?side4 A7.out).mono ?_);(case side1=>repeat (first|exact (by repeat (first|(with_reducible exact HR322.out)|(with_reducible refine Kd.C_alloc ?_ _)|(with_reducible refine Kd.C_drewN ?_ _)|(with_reducible refine Kd.C_drew ?_)|exact HR322.out))|(with_reducible refine Kd.C_alloc ?_ _)|(with_reducible refine Kd.C_drewN ?_ _)|(with_reducible refine Kd.C_drew ?_)));(case side2=>exact HC322.out);(case side3=>exact Kd.C_kept_now HR1.out (by repeat (first|(with_reducible first|exact HK.out|apply Kept.alloc|apply Kept.drewN|apply Kept.drew)|exact HK.out)));(case side4=>exact HC1.out);rintro e w' ⟨rfl,⟨nd,rfl⟩⟩))
           go_meet
           case rel=>exact ⟨_,(false),(by first|rfl|(simp;done)|(simp[*];done)),H',⟨by first|omega|exact Nat.le_refl _⟩,⟨by (with_reducible repeat (first|apply Kd.R_alloc|apply Kd.R_drewN|apply Kd.R_drew));exact HO0.out⟩,⟨by repeat (first|(with_reducible first|exact HK.out|apply Kept.alloc|apply Kept.drewN|apply Kept.drew)|exact HK.out)⟩,⟨by repeat (first|(with_reducible first|exact HB.out|apply below_alloc|apply pw_below_drewN|apply below_drew1)|exact HB.out)⟩⟩
        ·rw[if_neg c6] at H;exact absurd H (by simp)
      ·rw[if_neg c5] at H;exact absurd H (by simp)
    ·rw[if_neg c4] at H;have c4b0:((l0.length:Int) == (wrap64 ((l1.length:Int)+2)))=false:=beq_eq_false_iff_ne.mpr c4;have c4b1:((l0.length:Int) != (wrap64 ((l1.length:Int)+2)))=true:=bne_iff_ne.mpr c4
     (first|rw[c4b0]|(simp only[i64_w,i32_w];rw[c4b0])|skip)
     have H':=Aside0.mk H;clear H;obtain ⟨Ao20,co20,eo20⟩:=Kd.R_slice HO0.out;subst eo20;go_wp2
     go_meet
     case rel=>exact ⟨_,(false),(by first|rfl|(simp;done)|(simp[*];done)),H',⟨by first|omega|exact Nat.le_refl _⟩,⟨by (with_reducible repeat (first|apply Kd.R_alloc|apply Kd.R_drewN|apply Kd.R_drew));exact HO0.out⟩,⟨by repeat (first|(with_reducible first|exact HK.out|apply Kept.alloc|apply Kept.drewN|apply Kept.drew)|exact HK.out)⟩,⟨by repeat (first|(with_reducible first|exact HB.out|apply below_alloc|apply pw_below_drewN|apply below_drew1)|exact HB.out)⟩⟩
  case rest =>
    clear HC3;try clear c1
    try clear q1
    try clear p2
    try clear p3
    try clear q3
    try clear hx3
    try clear c4
    try clear c4b0
    try clear c4b1
    try clear c5
    try clear c5b0
    try clear c5b1
    try clear c6
    try clear c6b0
    try clear c6b1
    try clear p6
    try clear c8
    try clear c9
    try clear c9b0
    try clear c9b1
    try clear c10
    try clear c10b0
    try clear c10b1
    try clear c12
    try clear c12b0
    try clear c13
    try clear c13b0
    try clear q15
    try clear q17
    try clear q19
    try clear hx324_0
    try clear hx325_0
    try clear p324
    try clear p325
    try clear q15
    try clear q17
    try clear q19
    try clear q324
    try clear q325
    obtain ⟨kq,x6_2,rfl,HA,HJ2,HO_0,HK,HB⟩:=hcut;cases kq with
    | zero=>exact absurd HA.out (by simp[sluicelaw2_back.j0])
    | succ kj2=>
     have H:=HA.out;clear HA;simp only[sluicelaw2_back.j0] at H;have H':=Aside0.mk H;clear H;go_wp2
     go_loopg [7] kj2 (fun kq v7 w'=>∃ (x0_2:List Int) (x7_2:Int),v7 = .int .i64 x7_2∧Aside0 (sluicelaw2_back.l0 kq x0_2 x6_2 x7_2=some (r1,r2))∧Aside0 (kq≤kj2)∧Aside0 (Kd.R (Kd.int .u8) 5 w' w0.heap.size (fun k_=>(P0_ k_∨w.heap.size≤k_)) u9000_ x0_2)∧Aside0 (Kept w w' (fun k_=>P0_ k_))∧Aside0 (Below w0.heap.size w0 w'))
     case atStart=>exact ⟨(l0),(0),(by first|rfl|(simp;done)|(simp[*];done)),H',⟨Nat.le_refl _⟩,⟨by (with_reducible repeat (first|apply Kd.R_alloc|apply Kd.R_drewN|apply Kd.R_drew));exact HO_0.out⟩,⟨by repeat (first|(with_reducible first|exact HK.out|apply Kept.alloc|apply Kept.drewN|apply Kept.drew)|exact HK.out)⟩,⟨by repeat (first|(with_reducible first|exact HB.out|apply below_alloc|apply pw_below_drewN|apply below_drew1)|exact HB.out)⟩⟩
     case round=>
      clear H';try clear c1
      try clear q1
      try clear p2
      try clear p3
      try clear q3
      try clear hx3
      try clear c4
      try clear c4b0
      try clear c4b1
      try clear c5
      try clear c5b0
      try clear c5b1
      try clear c6
      try clear c6b0
      try clear c6b1
      try clear p6
      try clear c8
      try clear c9
      try clear c9b0
      try clear c9b1
      try clear c10
      try clear c10b0
      try clear c10b1
      try clear c12
      try clear c12b0
      try clear c13
      try clear c13b0
      try clear q15
      try clear q17
      try clear q19
      try clear hx324_0
      try clear hx325_0
      try clear p2
      try clear p3
      try clear p324
      try clear p325
      try clear p6
      try clear q1
      try clear q15
      try clear q17
      try clear q19
      try clear q3
      try clear q324
      try clear q325
      obtain ⟨x0_2,x7_2,rfl,HA,HK2,HO_0,HK,HB⟩:=hrel;cases gk with
      | zero=>exact absurd HA.out (by simp[sluicelaw2_back.l0])
      | succ k2=>
       have H:=HA.out;clear HA;simp only[sluicelaw2_back.l0] at H;by_cases c21:x7_2<(x0_2.length:Int)
       ·rw[if_pos c21] at H;have c21b0:decide (x7_2<(x0_2.length:Int))=true:=decide_eq_true c21;clear c21;by_cases c22:0≤x7_2
        ·rw[if_pos c22] at H;have c22b0:decide (0≤x7_2)=true:=decide_eq_true c22;clear c22;obtain ⟨y326,hy326⟩:∃ y_:List Int,y_=(x0_2.set (x7_2:Int).toNat 85):=⟨_,rfl⟩;replace H:(sluicelaw2_back.l0 k2 y326 x6_2 (wrap64 (x7_2+1)))=some (r1,r2):=by first|(rw[hy326];with_reducible exact H)|(have H2_:=(Option.bind_some _ _).symm.trans H;rw[hy326];with_reducible exact H2_)|(have H2_:=(Option.bind_some _ _).symm.trans H;with_reducible exact H2_)|with_reducible exact H|(rw[hy326];exact H)|exact H
         have Ny326:=Aside0.mk hy326;clear hy326;have H':=Aside0.mk H;clear H;obtain ⟨Ao24,co24,eo24⟩:=Kd.R_slice HO_0.out;subst eo24;have p23:0≤(x7_2:Int):=of_decide_eq_true (by first|(with_reducible assumption)|assumption);have q23:(x7_2:Int)<((x0_2.length:Int):Int):=of_decide_eq_true (by first|(with_reducible assumption)|assumption);obtain ⟨go23,co23,eo23,gb23,gl23,cl23,HG23⟩:=Kd.R_form HO_0.out (by omega)
         (first|cases eo23|(injection eo23 with ea_ en_ ec_;(first|subst ea_|(injection ea_ with ea_;subst ea_));subst ec_;clear en_))
         have GB23:=Aside0.mk gb23;have GG23:=Aside0.mk HG23;clear gb23 gl23 HG23;have HMgo23:=Aside0.mk (show (P0_ go23∨w.heap.size≤go23) from (HO_0.out.1 _ rfl));obtain ⟨hx23_0,hf23_0⟩:=Kd.R_celln 0 HO_0.out (x7_2:Int) p23 q23;replace p23:=eq_true p23;replace q23:=eq_true q23;have HP25:=Kd.R_putg HO_0.out (x7_2:Int) 85;go_wp2_with (first|((with_reducible refine gate_store (t:=5) (p:=45) rfl ?_);refine store_event (t:=5) (p:=45) (v:=?vo_w26) (w1:=(wr.setCell ⟨go23,(x7_2:Int).toNat,none⟩ (.int .u8 85))) ?hg ?ho ?hn ?hr ?_;(case ho=>rfl);(case hg=>rfl);(case hn=>rfl);(case hr=>first|(go_simp;done)|(go_simp;rfl));intro w26 hw;have hg:wr.grownBy w26 (some go23):=(by rw[hw];exact HP25.2);have hp_:Kd.R (Kd.int .u8) 5 w26 w0.heap.size (fun k_=>(P0_ k_∨w.heap.size≤k_)) (.slice (some ⟨go23,0,none⟩) x0_2.length co24) y326:=(by rw[hw,Ny326.out];exact HP25.1);clear HP25;have n0_:=Aside0.mk (hp_);have n1_:=Aside0.mk ((by rw[hw];exact below_set (HB.out) GB23.out:Below w0.heap.size w0 w26));have n2_:=Aside0.mk (Kept.of_grown (S:=(fun k_=>P0_ k_)) hg (by repeat (first|(with_reducible first|exact HK.out|apply Kept.alloc|apply Kept.drewN|apply Kept.drew)|exact HK.out)) (fun k_ e_=>(HO_0.out.1 k_ e_)));clear HO_0;clear HB;clear HK;have HO_0:=n0_;have HB:=n1_;have HK:=n2_;clear n0_ n1_ n2_;clear hg hw hp_))
         go_roundg k2
         case measure=>have:=HJ2.out;have:=HK2.out;omega
         case rel=>exact ⟨(y326),(wrap64 (x7_2+1)),(by first|rfl|(simp;done)|(simp[*];done)),H',⟨by have:=HJ2.out;have:=HK2.out;omega⟩,⟨by (with_reducible repeat (first|apply Kd.R_alloc|apply Kd.R_drewN|apply Kd.R_drew));exact HO_0.out⟩,⟨by repeat (first|(with_reducible first|exact HK.out|apply Kept.alloc|apply Kept.drewN|apply Kept.drew)|exact HK.out)⟩,⟨by repeat (first|(with_reducible first|exact HB.out|apply below_alloc|apply pw_below_drewN|apply below_drew1)|exact HB.out)⟩⟩
        ·rw[if_neg c22] at H;exact absurd H (by simp)
       ·rw[if_neg c21] at H;have c21b0:decide (x7_2<(x0_2.length:Int))=false:=decide_eq_false c21;clear c21;simp only[Option.some.injEq,Prod.mk.injEq] at H;obtain ⟨rfl,rfl⟩:=H;obtain ⟨Ao27,co27,eo27⟩:=Kd.R_slice HO_0.out;subst eo27;go_wp2
        go_ret
        exact ⟨by first|rfl|(simp[errW_none,errW_some]<;>rfl)|(simp[*,errW_none,errW_some]<;>rfl),by (with_reducible repeat (first|apply Kd.R_alloc|apply Kd.R_drewN|apply Kd.R_drew));exact HO_0.out,by repeat (first|(with_reducible first|exact HB.out|apply below_alloc|apply pw_below_drewN|apply below_drew1)|exact HB.out),by repeat (first|(with_reducible first|exact HK.out|apply Kept.alloc|apply Kept.drewN|apply Kept.drew)|exact HK.out)⟩
end Go.Proofs.Ytpgdmmjbhjbbhaa.P
end
section
namespace Go.Proofs.Ytpgdmmjbhjbbhaa.Lw
open Go Go.RowKit P Sp Vd En Wr Rd YtpgdmmjbhjbbhaaW.PrintWords YtpgdmmjbhjbbhaaW.PrintLast YtpgdmmjbhjbbhaaW.PrintMore
theorem lit_row {l:List Int} {w:World} {b:Nat} {t:TypeId} {cs:Array Value} (h:w.heap[b]?=some (.cells cs t (0,0))) (hc:cs.toList=l.map (Value.int .u8)) (hl:l.length≤1000):Kd.C (Kd.int .u8) w (some ⟨b,0,none⟩) l.length l:=by
 obtain rfl:cs=(l.map (Value.int .u8)).toArray:=by rw[←hc]
 refine Kd.C_of_reads (d:=(0:Int)) (h1:=fun _=>rfl) ⟨rfl,by omega,fun _=>⟨_,rfl,fun j hj=>?_⟩⟩;rw[add_plain,cell_of_row _ b j _ t (0,0) h];simp only[List.getElem?_toArray,List.getElem?_map,List.getElem?_eq_getElem hj,Option.map_some,List.getD_eq_getElem?_getD,Option.getD_some]
theorem lent_calls (A:Option Addr) (c:Nat) (b:List Int) (w:World) (hr:Kd.C (Kd.int .u8) w A b.length b) (hl:b.length≤140737488351232):
  Calls Try.prog 19 #[.slice A b.length c] w fun e w'=>∃ v:Value,e = .returned v∧Kd.R (Kd.int .u8) 5 w' w.heap.size (fun _=>True) v (b++[165,90])∧Below w.heap.size w w':=by
 have HR:=Aside0.mk hr;have HL:=Aside0.mk hl;have HZ0:Aside0 ((0+b.length) * 1≤140737488355328):=⟨by omega⟩;clear hr hl;go_enter Try.func19,Try.ntmps19
 go_wp2_with (refine Kd.R_append_row (Value.int .u8) (0:Int) (h1:=fun _=>rfl) (w0:=w) w.heap.size rfl (.const (.slice none 0 0)) (.tmp 4) 36 5 (.int .u8 0) 1 rfl Try.underlying36 inf8 rfl (by omega) (.slice none 0 0) [] b A b.length c (fun _=>True) rfl rfl (fun _ _=>trivial) (Kd.R_nil _ _ _ _ _) HR.out (Below.refl _ _) (Nat.le_refl _) HZ0.out ?_)
 intro v1 w1 hR1 hB1 hg1 hat1;have HR1:=Aside0.mk hR1;have HB1:=Aside0.mk hB1;clear hR1 hB1 hg1 hat1;have HC2:Aside0 (Kd.C (Kd.int .u8) (w1.alloc (.cells #[.int .u8 165,.int .u8 90] 5)) (some ⟨w1.heap.size,0,none⟩) 2 [165,90]):=⟨lit_row (l:=[165,90]) (heap_alloc_new w1 _) rfl (by decide)⟩;have HR2:Aside0 (Kd.R (Kd.int .u8) 5 (w1.alloc (.cells #[.int .u8 165,.int .u8 90] 5)) w.heap.size (fun _=>True) v1 b):=⟨Kd.R_below HR1.out ((Below.refl _ _).alloc (Nat.le_refl _) _)⟩;have HB2:Aside0 (Below w.heap.size w (w1.alloc (.cells #[.int .u8 165,.int .u8 90] 5))):=⟨HB1.out.alloc HB1.out.size _⟩;have HZ2:Aside0 ((b.length+2) * 1≤140737488355328):=⟨by have:=HL.out;omega⟩;have HS2:Aside0 (w.heap.size≤(w1.alloc (.cells #[.int .u8 165,.int .u8 90] 5)).heap.size):=⟨HB2.out.size⟩;go_wp2_with (refine Kd.R_append_row (Value.int .u8) (0:Int) (h1:=fun _=>rfl) (w0:=w) w.heap.size rfl (.tmp 6) (.tmp 7) 36 5 (.int .u8 0) 1 rfl Try.underlying36 inf8 rfl (by omega) v1 b [165,90] (some ⟨w1.heap.size,0,none⟩) 2 2 (fun _=>True) rfl rfl (fun _ _=>trivial) HR2.out HC2.out HB2.out HS2.out HZ2.out ?_)
 intro v2 w2 hR2 hB2 hg2 hat2;have HR3:=Aside0.mk hR2;have HB3:=Aside0.mk hB2;clear hR2 hB2 hg2 hat2;go_wp2
 go_ret
 exact ⟨v2,rfl,HR3.out,HB3.out⟩
theorem toList_inj {a b : ByteArray} : a.toList = b.toList ↔ a = b := by
  rw[ByteArray.toList_eq,ByteArray.toList_eq];constructor
  ·intro h;cases a with
   | mk x=>
    cases b with
    | mk y=>
     have:x=y:=Array.toList_inj.mp h;rw[this]
  ·rintro rfl;rfl
theorem strOf_inj {a b:List Int} (ha:IsB a) (hb:IsB b):(strOfNums a).toList=(strOfNums b).toList ↔ a=b:=by
 rw[toList_inj];constructor
 ·intro h;rw[←bytesOf_strOf ha,←bytesOf_strOf hb,h]
 ·rintro rfl;rfl
theorem alike_law {a b:List Int} (ha:IsB a) (hb:IsB b):sluicelaw2_alike.f a b=some (dcd (a=b)):=by
 unfold sluicelaw2_alike.f
 congr 1
 exact bool_dcd (by rw[beq_iff_eq,strOf_inj ha hb])
theorem alike_calls (A0:Option Addr) (c0:Nat) (a:List Int) (A1:Option Addr) (c1:Nat) (b:List Int) (w:World) (ha:In w A0 c0 a) (hb:In w A1 c1 b):
  Calls Try.prog 37 #[.slice A0 a.length c0,.slice A1 b.length c1] w fun e w'=>e = .returned (.bool (dcd (a=b)))∧Below w.heap.size w w':=
 (sluicelaw2_alike.calls A0 c0 a A1 c1 b _ w ha.row ha.cap hb.row hb.cap (alike_law ha.isB hb.isB)).mono fun e w' h=>⟨h.1,h.2.below⟩
theorem S87.ext_iff' {x y:S87}:x=y ↔ x.f0=y.f0∧x.f1=y.f1∧x.f2=y.f2∧x.f3=y.f3∧(x.f4.f0=y.f4.f0∧x.f4.f1=y.f4.f1)∧x.f5=y.f5:=by
 obtain ⟨a,b,c,d,⟨e,f⟩,g⟩:=x;obtain ⟨a',b',c',d',⟨e',f'⟩,g'⟩:=y;simp only[S87.mk.injEq,S25.mk.injEq]
theorem sameViews_go (x y : List S87) (hl : x.length = y.length) (hm : x.length ≤ 9223372036854775807) : ∀ n i : Nat, i + n = x.length → ∃ k, sluicelaw2_sameViews.l0 k x y (i : Int) = some (dcd (x.drop i = y.drop i)) := by
  intro n
  induction n with
  | zero=>
   intro i hi;refine ⟨1,?_⟩;unfold sluicelaw2_sameViews.l0;rw[if_neg (by omega),List.drop_of_length_le (by omega),List.drop_of_length_le (by omega),dcd_pos rfl]
  | succ n ih=>
   intro i hi;obtain ⟨k,hk⟩:=ih (i+1) (by omega);refine ⟨k+1,?_⟩;unfold sluicelaw2_sameViews.l0
   have e1:x.drop i=rd_T87 x i::x.drop (i+1):=by
    rw[List.drop_eq_getElem_cons (by omega)];simp[rd_T87,List.getD_eq_getElem?_getD,List.getElem?_eq_getElem (show i<x.length by omega)]
   have e2:y.drop i=rd_T87 y i::y.drop (i+1):=by
    rw[List.drop_eq_getElem_cons (by omega)];simp[rd_T87,List.getD_eq_getElem?_getD,List.getElem?_eq_getElem (show i<y.length by omega)]
   rw[if_pos (by omega),if_pos (by omega),if_pos (by omega),e1,e2]
   have hw:wrap64 ((i:Int)+1)=((i+1:Nat):Int):=by
    rw[wrap64];simp[IntKind.wrap,IntKind.bits,IntKind.signed];omega
   by_cases he:rd_T87 x (i:Int)=rd_T87 y (i:Int)
   ·rw[if_neg (by rw[he];simp),hw,hk,he]
    congr 1
    exact bool_dcd (by rw[dcd_iff];simp)
   ·rw[if_pos ?_]
    ·rw[dcd_neg (fun h=>he (List.cons.inj h).1)]
    ·rw[S87.ext_iff'] at he;simp only[Bool.or_eq_true,Bool.not_eq_true',beq_eq_false_iff_ne,ne_eq,toList_inj];exact Classical.byContradiction fun h=>he (by simp only[not_or,Classical.not_not] at h;exact ⟨h.1,h.2.1,h.2.2.1,h.2.2.2.1,h.2.2.2.2.1,h.2.2.2.2.2⟩)
theorem sameViews_calls (A0:Option Addr) (c0:Nat) (x:List S87) (A1:Option Addr) (c1:Nat) (y:List S87) (w:World) (hx:Kd.C k87 w A0 x.length x) (hxc:x.length≤c0) (hy:Kd.C k87 w A1 y.length y) (hyc:y.length≤c1):
  Calls Try.prog 40 #[.slice A0 x.length c0,.slice A1 y.length c1] w fun e w'=>e = .returned (.bool (dcd (x=y)))∧Below w.heap.size w w':=by
 have hm:x.length≤9223372036854775807:=by have:=hx.2.1;omega
 obtain ⟨k,hk⟩:∃ k,sluicelaw2_sameViews.f k x y=some (dcd (x=y)):=by
  by_cases hl:x.length=y.length
  ·obtain ⟨k,hk⟩:=sameViews_go x y hl hm x.length 0 (by omega);exact ⟨k,by unfold sluicelaw2_sameViews.f;rw[if_pos (by omega)];exact hk⟩
  ·exact ⟨0,by unfold sluicelaw2_sameViews.f;rw[if_neg (by omega),dcd_neg (fun h=>hl (by rw[h]))]⟩
 exact (sluicelaw2_sameViews.calls k A0 c0 x A1 c1 y _ w hx hxc hy hyc hk).mono fun e w' h=>⟨h.1,h.2.below⟩
theorem sameSegment_calls (s t:Seg) (A0:Option Addr) (c0:Nat) (A1:Option Addr) (c1:Nat) (w:World) (ha:In w A0 c0 s.data) (hb:In w A1 c1 t.data):
  Calls Try.prog 29 #[SV s A0 c0,SV t A1 c1] w fun e w'=>e = .returned (.bool (dcd (s=t)))∧Below w.heap.size w w':=by
 have HX:=Aside0.mk (And.intro ha hb);clear ha hb;have hu47:=Try.underlying47;unfold SV;obtain ⟨wa,hwa⟩:∃ wa,wa=(w.alloc (.cells (SVc s A0 c0) 47 (0,0))).alloc (.cells (SVc t A1 c1) 47 (0,0)):=⟨_,rfl⟩;have HWA:=Aside0.mk hwa;have HB:Aside0 (Below w.heap.size w wa):=⟨by rw[hwa];exact below_al2 w _ _⟩
 have BK:Aside0 (wa.heap[w.heap.size]?=some (.cells (SVc s A0 c0) 47 (0,0))∧wa.heap[w.heap.size+1]?=some (.cells (SVc t A1 c1) 47 (0,0))):=⟨by
  rw[hwa];refine ⟨(Below.heap_alloc _ _ _ (by simp)).trans (heap_alloc_new w _),?_⟩;have:=heap_alloc_new (w.alloc (.cells (SVc s A0 c0) 47 (0,0))) (.cells (SVc t A1 c1) 47 (0,0))
  rwa [show (w.alloc (.cells (SVc s A0 c0) 47 (0,0))).heap.size=w.heap.size+1 by simp] at this⟩
 clear hwa;obtain ⟨vv,hvv⟩:∃ vv,dcd (s.data=t.data)=vv:=⟨_,rfl⟩;have HVI:Aside0 (s.data=t.data ↔ vv=true):=⟨by rw[←hvv,dcd_iff]⟩;have HVV:=Aside0.mk hvv;clear hvv;have ka0:wa.cell? ⟨w.heap.size,0,none⟩=some (.int .i64 s.src):=(blk_cell BK.out.1 0).trans rfl;have ka1:wa.cell? ⟨w.heap.size,1,none⟩=some (.int .i64 s.dst):=(blk_cell BK.out.1 1).trans rfl;have ka2:wa.cell? ⟨w.heap.size,2,none⟩=some (.int .i64 s.seq):=(blk_cell BK.out.1 2).trans rfl;have ka3:wa.cell? ⟨w.heap.size,3,none⟩=some (.int .i64 s.ack):=(blk_cell BK.out.1 3).trans rfl;have ka4:wa.cell? ⟨w.heap.size,4,none⟩=some (.slice A0 s.data.length c0):=(blk_cell BK.out.1 4).trans rfl;have kb0:wa.cell? ⟨w.heap.size+1,0,none⟩=some (.int .i64 t.src):=(blk_cell BK.out.2 0).trans rfl;have kb1:wa.cell? ⟨w.heap.size+1,1,none⟩=some (.int .i64 t.dst):=(blk_cell BK.out.2 1).trans rfl;have kb2:wa.cell? ⟨w.heap.size+1,2,none⟩=some (.int .i64 t.seq):=(blk_cell BK.out.2 2).trans rfl;have kb3:wa.cell? ⟨w.heap.size+1,3,none⟩=some (.int .i64 t.ack):=(blk_cell BK.out.2 3).trans rfl;have kb4:wa.cell? ⟨w.heap.size+1,4,none⟩=some (.slice A1 t.data.length c1):=(blk_cell BK.out.2 4).trans rfl;go_enter Try.func29,Try.ntmps29
 go_upto_region 1 with fail
 rw[←HWA.out];go_wp2_with (go_at_call 37;refine (alike_calls A0 c0 s.data A1 c1 t.data _ ⟨Kd.C_below HX.out.1.row HB.out,HX.out.1.isB,HX.out.1.cap⟩ ⟨Kd.C_below HX.out.2.row HB.out,HX.out.2.isB,HX.out.2.cap⟩).mono ?_;rintro e w1 ⟨rfl,hb⟩;rw[HVV.out];have n0_:=Aside0.mk (below_step HB.out hb);clear HB hb;have HB:=n0_;clear n0_)
 all_goals go_ret
 all_goals refine ⟨congrArg (fun b=>Ending.returned (Value.bool b)) (bool_dcd ?_),HB.out⟩
 all_goals clear HX HWA hu47 BK HVV HB
 all_goals rw[show s=t ↔ s.src=t.src∧s.dst=t.dst∧s.seq=t.seq∧s.ack=t.ack∧s.data=t.data from ⟨fun h=>by subst h;simp,fun h=>by cases s;cases t;simp_all⟩,HVI.out]
 all_goals clear HVI
 all_goals first|(simp[*];done)|(cases vv<;>first|(simp[*];done)|contradiction|(simp_all;done))
theorem msg_iff (m n:Msg):m=n ↔ m.kind=n.kind∧m.name.toList=n.name.toList∧m.cap=n.cap∧m.recaps=n.recaps∧(m.epoch.f0=n.epoch.f0∧m.epoch.f1=n.epoch.f1)∧(m.over.f0=n.over.f0∧m.over.f1=n.over.f1)∧m.views=n.views∧(m.rights.f0=n.rights.f0∧m.rights.f1=n.rights.f1)∧m.held=n.held∧(m.call.f0=n.call.f0∧m.call.f1=n.call.f1)∧(m.op.kind=n.op.kind∧m.op.name.toList=n.op.name.toList∧m.op.a=n.op.a∧m.op.b=n.op.b)∧m.err=n.err∧m.value=n.value:=by
 obtain ⟨a1,a2,a3,a4,⟨a5,a6⟩,⟨a7,a8⟩,⟨a9,b1⟩,b2,⟨b3,b4⟩,⟨b5,b6,b7,b8⟩,b9,c1,c2⟩:=m;obtain ⟨d1,d2,d3,d4,⟨d5,d6⟩,⟨d7,d8⟩,⟨d9,e1⟩,e2,⟨e3,e4⟩,⟨e5,e6,e7,e8⟩,e9,f1,f2⟩:=n;simp only[Msg.mk.injEq,S25.mk.injEq,Sp.Op.mk.injEq,toList_inj];constructor<;>(rintro h;simp[h])
theorem same_calls (m n:Msg) (A:Option Addr) (c:Nat) (A2:Option Addr) (c2:Nat) (w:World) (hx:Kd.C k87 w A m.views.length m.views) (hxc:m.views.length≤c) (hy:Kd.C k87 w A2 n.views.length n.views) (hyc:n.views.length≤c2):
  Calls Try.prog 20 #[MV m A c,MV n A2 c2] w fun e w'=>e = .returned (.bool (dcd (m=n)))∧Below w.heap.size w w':=by
 have HX:=Aside0.mk (And.intro hx hxc);have HY:=Aside0.mk (And.intro hy hyc);clear hx hxc hy hyc;have hu33:=Try.underlying33;have hu23:=Try.underlying23;have hu25:=Try.underlying25;have hu27:=Try.underlying27;have hu29:=Try.underlying29;unfold MV;obtain ⟨wa,hwa⟩:∃ wa,wa=(w.alloc (.cells (MVc m A c) 33 (0,0))).alloc (.cells (MVc n A2 c2) 33 (0,0)):=⟨_,rfl⟩;have HWA:=Aside0.mk hwa;have HB:Aside0 (Below w.heap.size w wa):=⟨by rw[hwa];exact below_al2 w _ _⟩
 have BK:Aside0 (wa.heap[w.heap.size]?=some (.cells (MVc m A c) 33 (0,0))∧wa.heap[w.heap.size+1]?=some (.cells (MVc n A2 c2) 33 (0,0))):=⟨by
  rw[hwa];refine ⟨(Below.heap_alloc _ _ _ (by simp)).trans (heap_alloc_new w _),?_⟩;have:=heap_alloc_new (w.alloc (.cells (MVc m A c) 33 (0,0))) (.cells (MVc n A2 c2) 33 (0,0))
  rwa [show (w.alloc (.cells (MVc m A c) 33 (0,0))).heap.size=w.heap.size+1 by simp] at this⟩
 clear hwa;obtain ⟨vv,hvv⟩:∃ vv,dcd (m.views=n.views)=vv:=⟨_,rfl⟩;have HVI:Aside0 (m.views=n.views ↔ vv=true):=⟨by rw[←hvv,dcd_iff]⟩;have HVV:=Aside0.mk hvv;clear hvv;have ka0:wa.cell? ⟨w.heap.size,0,none⟩=some (.int .i64 m.kind):=(blk_cell BK.out.1 0).trans rfl;have kb0:wa.cell? ⟨w.heap.size+1,0,none⟩=some (.int .i64 n.kind):=(blk_cell BK.out.2 0).trans rfl;have ka1:wa.cell? ⟨w.heap.size,1,none⟩=some (.string m.name):=(blk_cell BK.out.1 1).trans rfl;have kb1:wa.cell? ⟨w.heap.size+1,1,none⟩=some (.string n.name):=(blk_cell BK.out.2 1).trans rfl;have ka2:wa.cell? ⟨w.heap.size,2,none⟩=some (.int .i64 m.cap):=(blk_cell BK.out.1 2).trans rfl;have kb2:wa.cell? ⟨w.heap.size+1,2,none⟩=some (.int .i64 n.cap):=(blk_cell BK.out.2 2).trans rfl;have ka3:wa.cell? ⟨w.heap.size,3,none⟩=some (.int .i64 m.recaps):=(blk_cell BK.out.1 3).trans rfl;have kb3:wa.cell? ⟨w.heap.size+1,3,none⟩=some (.int .i64 n.recaps):=(blk_cell BK.out.2 3).trans rfl;have ka4:wa.cell? ⟨w.heap.size,4,none⟩=some (.int .i64 m.epoch.f0):=(blk_cell BK.out.1 4).trans rfl;have kb4:wa.cell? ⟨w.heap.size+1,4,none⟩=some (.int .i64 n.epoch.f0):=(blk_cell BK.out.2 4).trans rfl;have ka5:wa.cell? ⟨w.heap.size,5,none⟩=some (.int .i64 m.epoch.f1):=(blk_cell BK.out.1 5).trans rfl;have kb5:wa.cell? ⟨w.heap.size+1,5,none⟩=some (.int .i64 n.epoch.f1):=(blk_cell BK.out.2 5).trans rfl;have ka6:wa.cell? ⟨w.heap.size,6,none⟩=some (.int .i64 m.over.f0):=(blk_cell BK.out.1 6).trans rfl;have kb6:wa.cell? ⟨w.heap.size+1,6,none⟩=some (.int .i64 n.over.f0):=(blk_cell BK.out.2 6).trans rfl;have ka7:wa.cell? ⟨w.heap.size,7,none⟩=some (.int .i64 m.over.f1):=(blk_cell BK.out.1 7).trans rfl;have kb7:wa.cell? ⟨w.heap.size+1,7,none⟩=some (.int .i64 n.over.f1):=(blk_cell BK.out.2 7).trans rfl;have ka19:wa.cell? ⟨w.heap.size,19,none⟩=some (.slice A m.views.length c):=(blk_cell BK.out.1 19).trans rfl;have kb19:wa.cell? ⟨w.heap.size+1,19,none⟩=some (.slice A2 n.views.length c2):=(blk_cell BK.out.2 19).trans rfl;go_enter Try.func20,Try.ntmps20
 go_upto_region 1 with fail
 rw[←HWA.out];go_wp2_with (go_at_call 40;refine (sameViews_calls A c m.views A2 c2 n.views _ (Kd.C_below HX.out.1 HB.out) HX.out.2 (Kd.C_below HY.out.1 HB.out) HY.out.2).mono ?_;rintro e w1 ⟨rfl,hb⟩;rw[HVV.out];have n0_:=Aside0.mk (below_step HB.out hb);have n1_:=Aside0.mk (And.intro (blk_keep hb BK.out.1) (blk_keep hb BK.out.2));clear HB BK hb ka0 kb0 ka1 kb1 ka2 kb2 ka3 kb3 ka4 kb4 ka5 kb5 ka6 kb6 ka7 kb7 ka19 kb19;have HB:=n0_;have BK:=n1_;clear n0_ n1_;have ka8:w1.cell? ⟨w.heap.size,8,none⟩=some (.int .i64 m.rights.f0):=(blk_cell BK.out.1 8).trans rfl;have kb8:w1.cell? ⟨w.heap.size+1,8,none⟩=some (.int .i64 n.rights.f0):=(blk_cell BK.out.2 8).trans rfl;have ka9:w1.cell? ⟨w.heap.size,9,none⟩=some (.int .i64 m.rights.f1):=(blk_cell BK.out.1 9).trans rfl;have kb9:w1.cell? ⟨w.heap.size+1,9,none⟩=some (.int .i64 n.rights.f1):=(blk_cell BK.out.2 9).trans rfl;have ka10:w1.cell? ⟨w.heap.size,10,none⟩=some (.int .i64 m.held):=(blk_cell BK.out.1 10).trans rfl;have kb10:w1.cell? ⟨w.heap.size+1,10,none⟩=some (.int .i64 n.held):=(blk_cell BK.out.2 10).trans rfl;have ka11:w1.cell? ⟨w.heap.size,11,none⟩=some (.int .i64 m.call.f0):=(blk_cell BK.out.1 11).trans rfl;have kb11:w1.cell? ⟨w.heap.size+1,11,none⟩=some (.int .i64 n.call.f0):=(blk_cell BK.out.2 11).trans rfl;have ka12:w1.cell? ⟨w.heap.size,12,none⟩=some (.int .i64 m.call.f1):=(blk_cell BK.out.1 12).trans rfl;have kb12:w1.cell? ⟨w.heap.size+1,12,none⟩=some (.int .i64 n.call.f1):=(blk_cell BK.out.2 12).trans rfl;have ka13:w1.cell? ⟨w.heap.size,13,none⟩=some (.int .i64 m.op.kind):=(blk_cell BK.out.1 13).trans rfl;have kb13:w1.cell? ⟨w.heap.size+1,13,none⟩=some (.int .i64 n.op.kind):=(blk_cell BK.out.2 13).trans rfl;have ka14:w1.cell? ⟨w.heap.size,14,none⟩=some (.string m.op.name):=(blk_cell BK.out.1 14).trans rfl;have kb14:w1.cell? ⟨w.heap.size+1,14,none⟩=some (.string n.op.name):=(blk_cell BK.out.2 14).trans rfl;have ka15:w1.cell? ⟨w.heap.size,15,none⟩=some (.int .i64 m.op.a):=(blk_cell BK.out.1 15).trans rfl;have kb15:w1.cell? ⟨w.heap.size+1,15,none⟩=some (.int .i64 n.op.a):=(blk_cell BK.out.2 15).trans rfl;have ka16:w1.cell? ⟨w.heap.size,16,none⟩=some (.int .i64 m.op.b):=(blk_cell BK.out.1 16).trans rfl;have kb16:w1.cell? ⟨w.heap.size+1,16,none⟩=some (.int .i64 n.op.b):=(blk_cell BK.out.2 16).trans rfl;have ka17:w1.cell? ⟨w.heap.size,17,none⟩=some (.int .i64 m.err):=(blk_cell BK.out.1 17).trans rfl;have kb17:w1.cell? ⟨w.heap.size+1,17,none⟩=some (.int .i64 n.err):=(blk_cell BK.out.2 17).trans rfl;have ka18:w1.cell? ⟨w.heap.size,18,none⟩=some (.int .i64 m.value):=(blk_cell BK.out.1 18).trans rfl;have kb18:w1.cell? ⟨w.heap.size+1,18,none⟩=some (.int .i64 n.value):=(blk_cell BK.out.2 18).trans rfl)
 all_goals go_ret
 all_goals refine ⟨congrArg (fun b=>Ending.returned (Value.bool b)) (bool_dcd ?_),HB.out⟩
 all_goals clear HX HY HWA hu33 hu23 hu25 hu27 hu29 BK HVV HB
 all_goals rw[msg_iff,HVI.out]
 all_goals clear HVI
 all_goals (first|(simp[*];done)|(cases vv<;>first|(simp[*];done)|contradiction|(simp at *;done)|(simp_all;done)))
theorem In.below {w w1:World} {A:Option Addr} {c:Nat} {l:List Int} (h:In w A c l) (hb:Below w.heap.size w w1):In w1 A c l:=⟨Kd.C_below h.row hb,h.isB,h.cap⟩
theorem in_of_R {w:World} {base:Nat} {ok:Nat→Prop} {v:Value} {l:List Int} (h:Kd.R (Kd.int .u8) 5 w base ok v l) (hb:IsB l):∃ A c,v = .slice A l.length c∧In w A c l:=by
 obtain ⟨A,c,hv,hc,hC⟩:=Kd.R_reads h;exact ⟨A,c,hv,hC,hb,hc⟩
theorem in_lit {l:List Int} {w:World} {b:Nat} {t:TypeId} {cs:Array Value} {n:Nat} (h:w.heap[b]?=some (.cells cs t (0,0))) (hc:cs.toList=l.map (Value.int .u8)) (hl:l.length≤1000) (hb:IsB l) (hn:n=l.length):In w (some ⟨b,0,none⟩) n l:=⟨lit_row h hc hl,hb,by omega⟩
theorem views_nil (w:World) (A:Option Addr):Kd.C k87 w A ([]:List S87).length []:=⟨rfl,by simp,fun h=>by simp at h⟩
theorem isB_of {l:List Int} (h:∀ x ∈ l,decide (0≤x∧x≤255)=true):IsB l:=fun x hx=>of_decide_eq_true (h x hx)
theorem mEx_isI:isI mEx.op.a∧isI mEx.op.b:=⟨by unfold isI;decide,by unfold isI;decide⟩
def bM:List Int:=[3,1,107,10,0,2,1]
def bS:List Int:=[0,1,0,7,0]
def bQ:List Int:=[3,1,2,1,107,10,0]
def bR:List Int:=[0,9,0,5]
theorem bM_B:IsB bM:=isB_of (by decide)
theorem bS_B:IsB bS:=isB_of (by decide)
theorem bQ_B:IsB bQ:=isB_of (by decide)
theorem bR_B:IsB bR:=isB_of (by decide)
theorem enc_ex (w:World):Calls Try.prog 16 #[.agg #[.int .i64 3,.string ⟨#[107]⟩,.int .i64 10,.int .i64 0,.int .i64 2,.int .i64 1,.int .i64 0,.int .i64 0,.int .i64 0,.int .i64 0,.int .i64 0,.int .i64 0,.int .i64 0,.int .i64 0,.string ⟨#[]⟩,.int .i64 0,.int .i64 0,.int .i64 0,.int .i64 0,.slice none 0 0]] w fun e w'=>∃ A c,e = .returned (.tuple #[.slice A 7 c,.int .i64 0])∧In w' A c bM∧Below w.heap.size w w':=by
 refine (encode_calls mEx mEx_isI none 0 w (views_nil _ _) (Nat.le_refl _)).mono ?_;rintro e w' ⟨v,he,hR,hb⟩;rw[lay_right mEx_right] at he hR;simp only[mEx_bytes] at hR;obtain ⟨A,c,rfl,hi⟩:=in_of_R hR bM_B;exact ⟨A,c,he,hi,hb⟩
theorem dec_ex (w:World) (A:Option Addr) (c:Nat) (h:In w A c bM):Calls Try.prog 18 #[.slice A 7 c] w fun e w'=>∃ A1 c1,e = .returned (.tuple #[.agg (MVc mEx A1 c1),.int .i64 0,.int .i64 0])∧Below w.heap.size w w':=by
 refine (decode_calls w A c bM h).mono ?_;rintro e w' ⟨hb,A1,c1,he,_⟩;have hw:whole zMsg msgP bM=(mEx,0,0):=by rw[show bM=msgB mEx from mEx_bytes.symm];exact whole_back msgP_codec _ mEx_right
 rw[hw] at he;exact ⟨A1,c1,he,hb⟩
theorem seg_ex (w:World):Calls Try.prog 27 #[.agg #[.int .i64 0,.int .i64 1,.int .i64 0,.int .i64 7,.slice none 0 0]] w fun e w'=>∃ A c,e = .returned (.tuple #[.slice A 5 c,.int .i64 0])∧In w' A c bS∧Below w.heap.size w w':=by
 refine (encseg_calls sEx none 0 w ⟨rfl,by decide,fun h=>absurd h (by decide)⟩ (Nat.le_refl _) (fun x h=>by cases h)).mono ?_;rintro e w' ⟨v,he,hR,hb⟩;rw[lay_right sEx_right] at he hR;simp only[sEx_bytes] at hR;obtain ⟨A,c,rfl,hi⟩:=in_of_R hR bS_B;exact ⟨A,c,he,hi,hb⟩
theorem req_ex (w:World) (A:Option Addr) (c:Nat) (h:In w A c bQ):Calls Try.prog 33 #[.slice A 7 c] w fun e w'=>e = .returned (.tuple #[.agg #[.int .i64 3,.int .i64 1],.agg #[.int .i64 2,.string ⟨#[107]⟩,.int .i64 5,.int .i64 0],.int .i64 0,.int .i64 0])∧Below w.heap.size w w':=by
 refine (decreq_calls w A c bQ h).mono ?_;rintro e w' ⟨hb,he⟩;have hw:whole (z25,zOp) reqP bQ=(qEx,0,0):=by rw[show bQ=reqB qEx from qEx_bytes.symm];exact whole_back reqP_codec _ qEx_right
 rw[hw] at he;exact ⟨he,hb⟩
theorem rep_ex (w:World):Calls Try.prog 34 #[.agg #[.int .i64 0,.int .i64 9,.int .i64 0,.int .i64 (-3)]] w fun e w'=>∃ A c,e = .returned (.tuple #[.slice A 4 c,.int .i64 0])∧In w' A c bR∧Below w.heap.size w w':=by
 refine (encrep_calls rEx w (by unfold isI;decide)).mono ?_;rintro e w' ⟨v,he,hR,hb⟩;rw[lay_right rEx_right] at he hR;simp only[rEx_bytes] at hR;obtain ⟨A,c,rfl,hi⟩:=in_of_R hR bR_B;exact ⟨A,c,he,hi,hb⟩
theorem val_ex (w:World) (A1:Option Addr) (c1:Nat):Calls Try.prog 21 #[.agg (MVc mEx A1 c1)] w fun e w'=>e = .returned (.bool true)∧Below w.heap.size w w':=by
 refine (valid_calls mEx mEx_isI A1 c1 w (views_nil _ _) (Nat.zero_le _)).mono ?_;rintro e w' ⟨he,hb⟩;rw[dcd_pos mEx_right] at he;exact ⟨he,hb⟩
theorem alike_ex (A0:Option Addr) (c0:Nat) (A1:Option Addr) (c1:Nat) (b:List Int) (n:Nat) (hn:b.length=n) (w:World) (ha:In w A0 c0 b) (hb:In w A1 c1 b):
  Calls Try.prog 37 #[.slice A0 n c0,.slice A1 n c1] w fun e w'=>e = .returned (.bool true)∧Below w.heap.size w w':=by
 subst hn;refine (alike_calls A0 c0 b A1 c1 b w ha hb).mono ?_;rintro e w' ⟨he,hb⟩;rw[dcd_pos rfl] at he;exact ⟨he,hb⟩
theorem in_new (w:World) (l:List Int) (cs:Array Value) (n:Nat) (hc:cs.toList=l.map (Value.int .u8)) (hl:l.length≤1000) (hb:IsB l) (hn:n=l.length):In (w.alloc (.cells cs 5 (0,0))) (some ⟨w.heap.size,0,none⟩) n l:=in_lit (heap_alloc_new w _) hc hl hb hn
structure AF (w W:World) (Ab As Ar A1:Option Addr) (cb cs cr c1 g3 g8 g9:Nat):Prop where
 bel:Below w.heap.size w W
 b:In W Ab cb bM
 s:In W As cs bS
 r:In W Ar cr bR
 m:W.heap[g3]?=some (.cells (MVc mEx A1 c1) 33 (0,0))
 c:W.heap[g8]?=some (.cells #[.int .i64 3,.int .i64 1] 27 (0,0))
 o:W.heap[g9]?=some (.cells #[.int .i64 2,.string ⟨#[107]⟩,.int .i64 5,.int .i64 0] 29 (0,0))
theorem AF.below {w W W1:World} {Ab As Ar A1:Option Addr} {cb cs cr c1 g3 g8 g9:Nat} (h:AF w W Ab As Ar A1 cb cs cr c1 g3 g8 g9) (k:Below W.heap.size W W1):AF w W1 Ab As Ar A1 cb cs cr c1 g3 g8 g9:=
 ⟨below_step h.bel k,In.below h.b k,In.below h.s k,In.below h.r k,blk_keep k h.m,blk_keep k h.c,blk_keep k h.o⟩
theorem AF.new {w W:World} {Ab As Ar A1:Option Addr} {cb cs cr c1 g3 g8 g9:Nat} (h:AF w W Ab As Ar A1 cb cs cr c1 g3 g8 g9) (o:Obj):AF w (W.alloc o) Ab As Ar A1 cb cs cr c1 g3 g8 g9:=h.below (al_below W o)
theorem able_calls (w:World):Calls Try.prog 12 #[] w fun e w'=>e = .returned (.bool true)∧Below w.heap.size w w':=by
 have hu33:=Try.underlying33;have hu23:=Try.underlying23;have hu25:=Try.underlying25;have hu27:=Try.underlying27;have hu29:=Try.underlying29;have hu47:=Try.underlying47;have hu50:=Try.underlying50;go_enter Try.func12,Try.ntmps12
 go_upto_region 2 with (go_at_call 16;refine (enc_ex _).mono ?_;rintro e w1 ⟨Ab,cb,rfl,hi,hb⟩;have H1:=Aside0.mk (And.intro hb hi);clear hi hb)
 obtain ⟨wa,hwa⟩:∃ wa,wa=w1.alloc (.cells #[.int .u8 3,.int .u8 1,.int .u8 107,.int .u8 10,.int .u8 0,.int .u8 2,.int .u8 1] 5 (0,0)):=⟨_,rfl⟩;have HWA:=Aside0.mk hwa;have HIA:Aside0 (In wa (some ⟨w1.heap.size,0,none⟩) 7 bM):=⟨by rw[hwa];exact in_new w1 bM _ _ rfl (by decide) bM_B rfl⟩;have HBA:Aside0 (Below w.heap.size w wa∧Below w1.heap.size w1 wa):=⟨by rw[hwa];exact ⟨below_step H1.out.1 (al_below _ _),al_below _ _⟩⟩;have HMV:=Aside0.mk mv_one;clear hwa
 go_upto_region 3 with (first
  | (refine wpList_store_row rfl 33 (.tmp 3) (.tmp 23) rfl w2.heap.size (MVc mEx A1 c1) (by rfl) (by rfl) 33 _ H2.out.2 inf33 rfl (mv_one _ _ _) ?_)
  | (go_at_call 18;rw[←HWA.out];refine (dec_ex _ _ _ HIA.out).mono ?_;rintro e w2 ⟨A1,c1,rfl,hb⟩;have H2:=Aside0.mk (And.intro hb (heap_alloc_new w2 (.cells (MVc zMsg none 0) 33 (0,0))));clear hb))
 obtain ⟨w3,hw3⟩:∃ w3,w3=(w2.alloc (.cells (MVc zMsg none 0) 33 (0,0))).setRow w2.heap.size (MVc mEx A1 c1):=⟨_,rfl⟩;have HW3:=Aside0.mk hw3;rw[mv_zero] at HW3
 have H3:Aside0 (Below w.heap.size w w3∧In w3 Ab cb bM∧w3.heap[w2.heap.size]?=some (.cells (MVc mEx A1 c1) 33 (0,0))):=⟨by
  have h1:=below_step HBA.out.1 H2.out.1;have h2:Below w2.heap.size w2 w3:=by rw[hw3];exact below_setRow (al_below _ _) (Nat.le_refl _) _
  refine ⟨below_step h1 h2,In.below (In.below (In.below H1.out.2 HBA.out.2) H2.out.1) h2,?_⟩;rw[hw3];exact setRow_blk H2.out.2 _⟩
 rw[←HW3.out];clear hw3 HW3 H2 HWA HIA HBA H1;go_upto_region 4 with (go_at_call 27;refine (seg_ex _).mono ?_;rintro e w4 ⟨As,cs,rfl,hi,hb⟩;have H4:=Aside0.mk (And.intro (below_step H3.out.1 hb) (And.intro (In.below H3.out.2.1 hb) (And.intro (blk_keep hb H3.out.2.2) hi)));clear hi hb)
 obtain ⟨wa,hwa⟩:∃ wa,wa=w4.alloc (.cells #[.int .u8 3,.int .u8 1,.int .u8 2,.int .u8 1,.int .u8 107,.int .u8 10,.int .u8 0] 5 (0,0)):=⟨_,rfl⟩;have HWA:=Aside0.mk hwa;have HIA:Aside0 (In wa (some ⟨w4.heap.size,0,none⟩) 7 bQ):=⟨by rw[hwa];exact in_new w4 bQ _ _ rfl (by decide) bQ_B rfl⟩;have HBA:Aside0 (Below w4.heap.size w4 wa):=⟨by rw[hwa];exact al_below _ _⟩;clear hwa;go_upto_region 5 with (go_at_call 33;rw[←HWA.out];refine (req_ex _ _ _ HIA.out).mono ?_;rintro e w5 ⟨rfl,hb⟩;have H5:=Aside0.mk hb;clear hb)
 obtain ⟨w6,hw6⟩:∃ w6,w6=(w5.alloc (.cells #[.int .i64 3,.int .i64 1] 27 (0,0))).alloc (.cells #[.int .i64 2,.string ⟨#[107]⟩,.int .i64 5,.int .i64 0] 29 (0,0)):=⟨_,rfl⟩;have HW6:=Aside0.mk hw6
 have H6:Aside0 (Below w5.heap.size w5 w6∧w6.heap[w5.heap.size]?=some (.cells #[.int .i64 3,.int .i64 1] 27 (0,0))∧w6.heap[w5.heap.size+1]?=some (.cells #[.int .i64 2,.string ⟨#[107]⟩,.int .i64 5,.int .i64 0] 29 (0,0))):=⟨by
  rw[hw6];refine ⟨below_al2 w5 _ _,(Below.heap_alloc _ _ _ (by simp)).trans (heap_alloc_new w5 _),?_⟩;have:=heap_alloc_new (w5.alloc (.cells #[.int .i64 3,.int .i64 1] 27 (0,0))) (.cells #[.int .i64 2,.string ⟨#[107]⟩,.int .i64 5,.int .i64 0] 29 (0,0))
  rwa [show (w5.alloc (.cells #[.int .i64 3,.int .i64 1] 27 (0,0))).heap.size=w5.heap.size+1 by simp] at this⟩
 rw[←HW6.out];clear hw6 HW6 HWA HIA;have HK:Aside0 (Below w4.heap.size w4 w6):=⟨below_step (below_step HBA.out H5.out) H6.out.1⟩;go_upto_region 6 with (go_at_call 34;refine (rep_ex _).mono ?_;rintro e w7 ⟨Ar,cr,rfl,hi,hb⟩;have HF:Aside0 (AF w w7 Ab As Ar A1 cb cs cr c1 w2.heap.size w5.heap.size (w5.heap.size+1)):=⟨⟨below_step (below_step H4.out.1 HK.out) hb,In.below (In.below H4.out.2.1 HK.out) hb,In.below (In.below H4.out.2.2.2 HK.out) hb,hi,blk_keep hb (blk_keep HK.out H4.out.2.2.1),blk_keep hb H6.out.2.1,blk_keep hb H6.out.2.2⟩⟩;clear hi hb)
 clear H3 H4 H5 H6 HK HBA
 go_wp2_with (first
  | (go_at_call 37;refine (alike_ex Ab cb _ _ bM 7 rfl _ (AF.new HF.out _).b (in_new _ bM _ _ rfl (by decide) bM_B rfl)).mono ?_;rintro e wx ⟨rfl,hb⟩;have n0_:=Aside0.mk (AF.below (AF.new HF.out _) hb);clear HF hb;have HF:=n0_;clear n0_;have km0:wx.cell? ⟨w2.heap.size,0,none⟩=some (.int .i64 3):=(blk_cell HF.out.m 0).trans rfl;have km2:wx.cell? ⟨w2.heap.size,2,none⟩=some (.int .i64 10):=(blk_cell HF.out.m 2).trans rfl;have km4:wx.cell? ⟨w2.heap.size,4,none⟩=some (.int .i64 2):=(blk_cell HF.out.m 4).trans rfl;have kc0:wx.cell? ⟨w5.heap.size,0,none⟩=some (.int .i64 3):=(blk_cell HF.out.c 0).trans rfl;have ko2:wx.cell? ⟨w5.heap.size+1,2,none⟩=some (.int .i64 5):=(blk_cell HF.out.o 2).trans rfl)
  | (go_at_call 37;refine (alike_ex As cs _ _ bS 5 rfl _ (AF.new HF.out _).s (in_new _ bS _ _ rfl (by decide) bS_B rfl)).mono ?_;rintro e wx ⟨rfl,hb⟩;clear km0 km2 km4 kc0 ko2;have n0_:=Aside0.mk (AF.below (AF.new HF.out _) hb);clear HF hb;have HF:=n0_;clear n0_;have km0:wx.cell? ⟨w2.heap.size,0,none⟩=some (.int .i64 3):=(blk_cell HF.out.m 0).trans rfl;have km2:wx.cell? ⟨w2.heap.size,2,none⟩=some (.int .i64 10):=(blk_cell HF.out.m 2).trans rfl;have km4:wx.cell? ⟨w2.heap.size,4,none⟩=some (.int .i64 2):=(blk_cell HF.out.m 4).trans rfl;have kc0:wx.cell? ⟨w5.heap.size,0,none⟩=some (.int .i64 3):=(blk_cell HF.out.c 0).trans rfl;have ko2:wx.cell? ⟨w5.heap.size+1,2,none⟩=some (.int .i64 5):=(blk_cell HF.out.o 2).trans rfl)
  | (go_at_call 37;refine (alike_ex Ar cr _ _ bR 4 rfl _ (AF.new HF.out _).r (in_new _ bR _ _ rfl (by decide) bR_B rfl)).mono ?_;rintro e wx ⟨rfl,hb⟩;clear km0 km2 km4 kc0 ko2;have n0_:=Aside0.mk (AF.below (AF.new HF.out _) hb);clear HF hb;have HF:=n0_;clear n0_;have km0:wx.cell? ⟨w2.heap.size,0,none⟩=some (.int .i64 3):=(blk_cell HF.out.m 0).trans rfl;have km2:wx.cell? ⟨w2.heap.size,2,none⟩=some (.int .i64 10):=(blk_cell HF.out.m 2).trans rfl;have km4:wx.cell? ⟨w2.heap.size,4,none⟩=some (.int .i64 2):=(blk_cell HF.out.m 4).trans rfl;have kc0:wx.cell? ⟨w5.heap.size,0,none⟩=some (.int .i64 3):=(blk_cell HF.out.c 0).trans rfl;have ko2:wx.cell? ⟨w5.heap.size+1,2,none⟩=some (.int .i64 5):=(blk_cell HF.out.o 2).trans rfl)
  | ((with_reducible refine gate_dst (N:=106) rfl ?_);refine gate_guard (by kernel_rfl) ?_;refine wpList_load_row rfl 33 (.tmp 3) rfl w2.heap.size (by rfl) 33 (MVc mEx A1 c1) (0,0) _ HF.out.m Try.underlying33 rfl inf33 ?_)
  | (go_at_call 21;refine (val_ex _ A1 c1).mono ?_;rintro e wy ⟨rfl,hb⟩;have HE:=Aside0.mk (below_step HF.out.bel hb);clear hb))
 go_ret
 exact ⟨rfl,HE.out⟩
def Took {α:Type} (z:α) (e:α→List Int) (v:α→Prop) (b:List Int) (x:α) (p er:Int):Prop:=
 (er=0∧p=0∧v x∧e x=b)∨(er=20∧0≤p∧p≤b.length∧x=z)
theorem took_of {α:Type} {p:Rdr α} {e:α→List Int} {v:α→Prop} (h:Codec p e v) (hs:Sp.Safe p) (z:α) {b:List Int} (hb:IsB b):Took z e v b (whole z p b).1 (whole z p b).2.1 (whole z p b).2.2:=by
 rcases whole_one h hs z hb with ⟨x,hw,hv,he⟩|⟨n,hw,h0,h1⟩
 ·rw[hw];exact .inl ⟨rfl,rfl,hv,he⟩
 ·rw[hw];exact .inr ⟨rfl,h0,h1,rfl⟩
theorem rowV_get:∀ (l:List S87) (j i:Nat) (p:S87),l[j]?=some p→i<7→(rowV l)[j * 7+i]?=(vcells p)[i]?
 | [],j,i,p,h,hi=>by simp at h
 | v :: r, 0, i, p, h, hi => by
   obtain rfl:v=p:=by simpa using h
   show (vcells v++rowV r)[0 * 7+i]?=_
   rw[Nat.zero_mul,Nat.zero_add,List.getElem?_append_left (by simpa [vcells] using hi)]
 | v :: r, j + 1, i, p, h, hi => by
   have h2:r[j]?=some p:=by simpa using h
   show (vcells v++rowV r)[(j+1) * 7+i]?=_
   have hl:(vcells v).length=7:=rfl;rw[List.getElem?_append_right (by omega),hl,show (j+1) * 7+i - 7=j * 7+i by omega];exact rowV_get r j i p h2 hi
theorem views_row {w:World} {vb:Nat} {xs:List S87} (h:w.heap[vb]?=some (.cells (rowV xs).toArray 87 (0,0))) (hl:xs.length≤1000000):Kd.C k87 w (some ⟨vb,0,none⟩) xs.length xs:=by
 refine ⟨rfl,by omega,fun _=>⟨_,rfl,fun j p hj=>⟨vcells p,rfl,k87_mk w p,fun i u hu=>?_⟩⟩⟩;rw[add_plain,cell_of_row _ vb _ _ _ (0,0) h];have hi:i<7:=by have:=(List.getElem?_eq_some_iff.1 hu).1;simpa [vcells] using this
 have:=rowV_get xs j i p hj hi;rw[List.getElem?_toArray];exact this.trans hu
theorem newV_C {w w1:World} {A:Option Addr} {c:Nat} {xs:List S87} (h:NewV w w1 A c xs) (hl:xs.length≤1000000):Kd.C k87 w1 A xs.length xs∧xs.length≤c:=by
 rcases h with ⟨rfl,rfl,rfl⟩|⟨vb,rfl,rfl,_,hb⟩
 ·exact ⟨views_nil _ _,Nat.le_refl _⟩
 ·exact ⟨views_row hb hl,Nat.le_refl _⟩
theorem msgV_views {m:Msg} (h:msgV m):m.views.length≤64:=by
 have h2:=h.2;unfold restV at h2;have hz:∀ m2:Msg,m=m2→m2.views.length≤64→m.views.length≤64:=fun m2 e k=>e ▸ k
 split at h2
 ·exact hz _ h2.2.2 (Nat.zero_le _)
 ·split at h2
  ·exact hz _ h2.2.2.2.2 (Nat.zero_le _)
  ·split at h2
   ·exact h2.1.1
   ·exact hz _ h2.2.2.2.2.2.2 (Nat.zero_le _)
theorem lent_cut {w:World} {base:Nat} {v:Value} {b:List Int} (h:Kd.R (Kd.int .u8) 5 w base (fun _=>True) v (b++[165,90])) (hb:IsB b):∃ A c,v = .slice A (b.length+2) c∧b.length+2≤c∧In w A c b:=by
 have hlen:(b++[165,90]:List Int).length=b.length+2:=by simp
 obtain ⟨A,c,rfl,hc,hC⟩:=Kd.R_reads h;rw[hlen] at hc hC ⊢;refine ⟨A,c,rfl,hc,?_,hb,by omega⟩;have h2:=Kd.C_take (m:=b.length) (k:=Kd.int .u8) (xs:=b++[165,90]) (by rw[hlen];exact hC) (by simp)
 rwa [List.take_left] at h2
theorem In_nil (w:World):In w none 0 []:=⟨⟨rfl,by decide,fun h=>absurd h (by decide)⟩,(fun x h=>by cases h),Nat.le_refl _⟩
theorem two_blocks (w:World) (a b:Obj):((w.alloc a).alloc b).heap[w.heap.size]?=some a∧((w.alloc a).alloc b).heap[w.heap.size+1]?=some b:=by
 refine ⟨(Below.heap_alloc _ _ _ (by simp)).trans (heap_alloc_new w _),?_⟩;have:=heap_alloc_new (w.alloc a) b
 rwa [show (w.alloc a).heap.size=w.heap.size+1 by simp] at this
theorem sv_one (s:Seg) (A:Option Addr) (c:Nat):(SVc s A c).all (·.oneCell')=true:=by simp[SVc,Value.oneCell']
end Go.Proofs.Ytpgdmmjbhjbbhaa.Lw
end
