/- texts that the proof needs, laid together by a program of this session. -/
import Derived.Deep.Cut
import Derived.Test.YtpgdmmjbhjbbhaaKWireKept4
set_option maxRecDepth 100000
set_option maxHeartbeats 16000000
set_option linter.unusedVariables false
set_option linter.unusedSimpArgs false
section
namespace Go.Proofs.Ytpgdmmjbhjbbhaa.P
open Go.RowKit YtpgdmmjbhjbbhaaW.PrintWords YtpgdmmjbhjbbhaaW.PrintLast YtpgdmmjbhjbbhaaW.PrintMore
attribute [local go_sem] Go.Proofs.Ytpgdmmjbhjbbhaa.StrLe.leq_str Go.Proofs.Ytpgdmmjbhjbbhaa.StrLe.gtr_str
attribute [local go_sem] max2_int min2_int max_two min_two max_three min_three max_four min_four
attribute [local go_sem high] eqA87
def sluiceref2_epoch.f (a0_0:Int) (a0_1:Int):Option (Bool):=(sluiceref2_within.f a0_0 1 1099511627776).bind fun t194=>(if t194=true then ((sluiceref2_within.f a0_1 0 15).bind fun t195=>(some t195)) else (some false))
theorem sluiceref2_epoch.calls (a0_0:Int) (a0_1:Int) (r:Bool) (w:World) (h:sluiceref2_epoch.f a0_0 a0_1=some r):
  Calls Try.prog 52 #[.agg #[.int .i64 a0_0,.int .i64 a0_1]] w fun e w'=>e = .returned (.bool r)∧Below w.heap.size w w':=by
 have hu23:=Try.underlying23;have HB:=Aside0.mk (Below.refl w.heap.size w);have H:((sluiceref2_within.f a0_0 1 1099511627776).bind fun t194=>(if t194=true then ((sluiceref2_within.f a0_1 0 15).bind fun t195=>(some t195)) else (some false)))=some r:=h;clear h;replace H:=Option.bind_eq_some_iff.mp H;obtain ⟨t194,A20,H⟩:=H;replace H:(if t194=true then ((sluiceref2_within.f a0_1 0 15).bind fun t195=>(some t195)) else (some false))=some r:=H;have A2:=Aside0.mk A20;clear A20;by_cases c3:t194=true
 ·subst c3;have H1:((sluiceref2_within.f a0_1 0 15).bind fun t195=>(some t195))=some r:=by rw[if_pos rfl] at H;exact H
  clear H;have H:=H1;clear H1;replace H:=Option.bind_eq_some_iff.mp H;obtain ⟨t195,A40,H⟩:=H;replace H:(some t195)=some r:=H;have A4:=Aside0.mk A40;clear A40;obtain rfl:=Option.some.inj H;go_enter Try.func52,Try.ntmps52
  go_wp2_with (first|((with_reducible refine gate_dst (N:=1) rfl ?_);refine box_event ?hg (N:=1) ?hd (cs := #[.int .i64 a0_0,.int .i64 a0_1]) (t:=23) ?hr ?_;(case hd=>rfl);(case hg=>rfl);(case hr=>first|(go_simp;done)|(go_simp;rfl));intro gb193 hg w5 hbox hb;have n0_:=Aside0.mk (below_step (by repeat (first|(with_reducible first|exact HB.out|apply below_alloc|apply pw_below_drewN|apply below_drew1)|exact HB.out)) hb);have n1_:=Aside0.mk (hbox);have n2_:=Aside0.mk ((by rw[hg];exact (below_size (by repeat (first|(with_reducible first|exact HB.out|apply below_alloc|apply pw_below_drewN|apply below_drew1)|exact HB.out))):w.heap.size≤gb193));have n3_:=Aside0.mk ((by rw[hg];exact (below_size (by repeat (first|(with_reducible first|exact HB.out|apply below_alloc|apply pw_below_drewN|apply below_drew1)|exact HB.out))):w.heap.size≤gb193));clear HB;have HB:=n0_;have BK193:=n1_;have GW193:=n2_;have GE193:=n3_;clear n0_ n1_ n2_ n3_;clear hb hbox hg;have hcz6_0:w5.cell? ⟨gb193,0,none⟩=some (.int .i64 a0_0):=(blk_cell BK193.out 0).trans rfl;have hcz6_1:w5.cell? ⟨gb193,1,none⟩=some (.int .i64 a0_1):=(blk_cell BK193.out 1).trans rfl;have hfz6_0:=blk_frozen BK193.out 0;have hfz6_1:=blk_frozen BK193.out 1)|((with_reducible refine gate_callee (f:=43) rfl ?_);refine goesL_ (some 5) rfl rfl Try.func43 (by kernel_rfl) rfl #[.int .i64 a0_0,.int .i64 1,.int .i64 1099511627776] rfl (by (try simp only[List.map_toArray,List.map_cons,List.map_nil]);first|done|rfl|(simp only[List.length_drop,List.length_take];rfl)) ?_;(with_reducible refine (sluiceref2_within.calls a0_0 1 1099511627776 true _ A2.out).mono ?_);rintro e w' ⟨rfl,⟨nd,rfl⟩⟩;refine ⟨_,rfl,?_⟩)|(go_at_call 43;(with_reducible refine (sluiceref2_within.calls a0_1 0 15 t195 _ A4.out).mono ?_);rintro e w' ⟨rfl,⟨nd,rfl⟩⟩))
  go_ret
  exact ⟨by first|rfl|(simp[errW_none,errW_some]<;>rfl)|(simp[*,errW_none,errW_some]<;>rfl),by repeat (first|(with_reducible first|exact HB.out|apply below_alloc|apply pw_below_drewN|apply below_drew1|refine below_set ?_ GE193.out)|exact HB.out)⟩
 ·replace c3:=Bool.eq_false_iff.mpr c3;subst c3;have H1:(some false)=some r:=by rw[if_neg (show ¬(false=true) by decide)] at H;exact H
  clear H;have H:=H1;clear H1;obtain rfl:=Option.some.inj H;go_enter Try.func52,Try.ntmps52
  go_wp2_with (first|((with_reducible refine gate_dst (N:=1) rfl ?_);refine box_event ?hg (N:=1) ?hd (cs := #[.int .i64 a0_0,.int .i64 a0_1]) (t:=23) ?hr ?_;(case hd=>rfl);(case hg=>rfl);(case hr=>first|(go_simp;done)|(go_simp;rfl));intro gb193 hg w7 hbox hb;have n0_:=Aside0.mk (below_step (by repeat (first|(with_reducible first|exact HB.out|apply below_alloc|apply pw_below_drewN|apply below_drew1)|exact HB.out)) hb);have n1_:=Aside0.mk (hbox);have n2_:=Aside0.mk ((by rw[hg];exact (below_size (by repeat (first|(with_reducible first|exact HB.out|apply below_alloc|apply pw_below_drewN|apply below_drew1)|exact HB.out))):w.heap.size≤gb193));have n3_:=Aside0.mk ((by rw[hg];exact (below_size (by repeat (first|(with_reducible first|exact HB.out|apply below_alloc|apply pw_below_drewN|apply below_drew1)|exact HB.out))):w.heap.size≤gb193));clear HB;have HB:=n0_;have BK193:=n1_;have GW193:=n2_;have GE193:=n3_;clear n0_ n1_ n2_ n3_;clear hb hbox hg;have hcz8_0:w7.cell? ⟨gb193,0,none⟩=some (.int .i64 a0_0):=(blk_cell BK193.out 0).trans rfl;have hcz8_1:w7.cell? ⟨gb193,1,none⟩=some (.int .i64 a0_1):=(blk_cell BK193.out 1).trans rfl;have hfz8_0:=blk_frozen BK193.out 0;have hfz8_1:=blk_frozen BK193.out 1)|((with_reducible refine gate_callee (f:=43) rfl ?_);refine goesL_ (some 5) rfl rfl Try.func43 (by kernel_rfl) rfl #[.int .i64 a0_0,.int .i64 1,.int .i64 1099511627776] rfl (by (try simp only[List.map_toArray,List.map_cons,List.map_nil]);first|done|rfl|(simp only[List.length_drop,List.length_take];rfl)) ?_;(with_reducible refine (sluiceref2_within.calls a0_0 1 1099511627776 false _ A2.out).mono ?_);rintro e w' ⟨rfl,⟨nd,rfl⟩⟩;refine ⟨_,rfl,?_⟩))
  go_ret
  exact ⟨by first|rfl|(simp[errW_none,errW_some]<;>rfl)|(simp[*,errW_none,errW_some]<;>rfl),by repeat (first|(with_reducible first|exact HB.out|apply below_alloc|apply pw_below_drewN|apply below_drew1|refine below_set ?_ GE193.out)|exact HB.out)⟩
def sluiceref2_number.l0:Nat→List Int→Int→Option (List Int)
 | 0,_,_=>none
 | k+1,x0,x1=>if x1 ≥ 128 then (if x0.length<140737488355328 then (sluiceref2_number.l0 k (x0++[((Int.tmod x1 128)+128) % 256]) (IntKind.u64.wrap (Int.tdiv x1 128))) else (none)) else (if x0.length<140737488355328 then (some (x0++[(x1) % 256])) else (none))
def sluiceref2_number.f (k:Nat) (l0:List Int) (a1:Int):Option (List Int):=sluiceref2_number.l0 k l0 a1
theorem sluiceref2_number.calls (k : Nat) (P0_ : Nat → Prop) (u9000_ : Value) (l0 : List Int) (a1 : Int) (r : List Int) (w0 w : World) (hB : Below w0.heap.size w0 w) (ho0 : Kd.R (Kd.int .u8) 5 w w0.heap.size P0_ u9000_ l0) (h : sluiceref2_number.f k l0 a1 = some r) :
    Calls Try.prog 114 #[u9000_,.int .u64 a1] w fun e w'=>∃ v0_:Value,e = .returned (v0_)∧Kd.R (Kd.int .u8) 5 w' w0.heap.size (fun k_=>(P0_ k_∨w.heap.size≤k_)) v0_ r∧Below w0.heap.size w0 w'∧Kept w w' (fun k_=>P0_ k_):=by
  have HO0:=Aside0.mk (show Kd.R (Kd.int .u8) 5 w w0.heap.size (fun k_=>(P0_ k_∨w.heap.size≤k_)) u9000_ l0 from Kd.R_mono ho0 (fun k_ hk=>(.inl hk)));have HK:=Aside0.mk (Kept.refl w (fun k_=>P0_ k_));have HW0:=Aside0.mk hB.size;have HB:=Aside0.mk hB;clear hB;have H:(sluiceref2_number.l0 k l0 a1)=some r:=h;clear h;have H':=Aside0.mk H;clear H;go_enter Try.func114,Try.ntmps114
  go_wp2
  go_loopg [0,1] k (fun kq v0 v1 w'=>∃ (x0_1:List Int) (x1_1:Int),v1 = .int .u64 x1_1∧Aside0 (sluiceref2_number.l0 kq x0_1 x1_1=some r)∧Aside0 (kq≤k)∧Aside0 (Kd.R (Kd.int .u8) 5 w' w0.heap.size (fun k_=>(P0_ k_∨w.heap.size≤k_)) v0 x0_1)∧Aside0 (Kept w w' (fun k_=>P0_ k_))∧Aside0 (Below w0.heap.size w0 w'))
  case atStart=>exact ⟨(l0),(a1),(by first|rfl|(simp;done)|(simp[*];done)),H',⟨Nat.le_refl _⟩,⟨by (with_reducible repeat (first|apply Kd.R_alloc|apply Kd.R_drewN|apply Kd.R_drew));exact HO0.out⟩,⟨by repeat (first|(with_reducible first|exact HK.out|apply Kept.alloc|apply Kept.drewN|apply Kept.drew)|exact HK.out)⟩,⟨by repeat (first|(with_reducible first|exact HB.out|apply below_alloc|apply pw_below_drewN|apply below_drew1)|exact HB.out)⟩⟩
  case round=>
   clear H';try clear c1
   try clear p2
   obtain ⟨x0_1,x1_1,rfl,HA,HK1,HO_0,HK,HB⟩:=hrel;cases gk with
   | zero=>exact absurd HA.out (by simp[sluiceref2_number.l0])
   | succ k1=>
    have H:=HA.out;clear HA;simp only[sluiceref2_number.l0] at H;by_cases c3:x1_1 ≥ 128
    ·rw[if_pos c3] at H;have c3b0:decide (128≤x1_1)=true:=decide_eq_true c3;clear c3;by_cases c4:x0_1.length<140737488355328
     ·rw[if_pos c4] at H;have LMc4:=Aside0.mk c4;clear c4;obtain ⟨y198,hy198⟩:∃ y_:List Int,y_=(x0_1++[((Int.tmod x1_1 128)+128) % 256]):=⟨_,rfl⟩;replace H:(sluiceref2_number.l0 k1 y198 (IntKind.u64.wrap (Int.tdiv x1_1 128)))=some r:=by first|(rw[hy198];with_reducible exact H)|(have H2_:=(Option.bind_some _ _).symm.trans H;rw[hy198];with_reducible exact H2_)|(have H2_:=(Option.bind_some _ _).symm.trans H;with_reducible exact H2_)|with_reducible exact H|(rw[hy198];exact H)|exact H
      have Ny198:=Aside0.mk hy198;clear hy198;have H':=Aside0.mk H;clear H;go_wp2_with (first|((with_reducible refine gate_builtin (b := .append) (xs := #[.tmp 7,.tmp 12]) rfl ?_);at_builtin;refine Kd.R_append (Kd.int .u8) (w0:=w0) w0.heap.size rfl (.tmp 7) (.tmp 12) 36 5 (.int .u8 0) 1 rfl Try.underlying36 info5 rfl (by decide) (by omega) u0 x0_1 (((Int.tmod x1_1 128)+128) % 256) [.int .u8 (((Int.tmod x1_1 128)+128) % 256)] (fun k_=>(P0_ k_∨w.heap.size≤k_)) (fun _=>False) rfl rfl ?aP (fun _ hk=>hk.elim) ?aF ?aO ?aB ?aS ?aL ?_;(case aP=>exact rfl);(case aB=>exact (by repeat (first|(with_reducible first|exact HB.out|apply below_alloc|apply pw_below_drewN|apply below_drew1)|exact HB.out)));(case aF=>exact (fun k_ hk=>(.inr (Nat.le_trans (by first|exact HK.out.1|exact (show Kept w _ (fun k_=>P0_ k_) from by repeat (first|(with_reducible first|exact HK.out|apply Kept.alloc|apply Kept.drewN|apply Kept.drew)|exact HK.out)).1) hk))));(case aO=>exact (by (with_reducible repeat (first|apply Kd.R_alloc|apply Kd.R_drewN|apply Kd.R_drew));exact HO_0.out));(case aS=>exact (below_size (by repeat (first|(with_reducible first|exact HB.out|apply below_alloc|apply pw_below_drewN|apply below_drew1)|exact HB.out))));(case aL=>have:=LMc4.out;omega);intro v199 w5 ho hb hg hat;rw[←Ny198.out] at ho;have n0_:=Aside0.mk (hb);have n1_:=Aside0.mk (Kept.of_grown (S:=(fun k_=>P0_ k_)) hg (by repeat (first|(with_reducible first|exact HK.out|apply Kept.alloc|apply Kept.drewN|apply Kept.drew)|exact HK.out)) (fun k_ e_=>(HO_0.out.1 k_ e_)));have n2_:=Aside0.mk (ho);clear HB;clear HK;clear HO_0;have HB:=n0_;have HK:=n1_;have HO200:=n2_;clear n0_ n1_ n2_;clear ho hb hg hat))
      go_roundg k1
      case measure=>have:=HK1.out;omega
      case rel=>exact ⟨(y198),(IntKind.u64.wrap (Int.tdiv x1_1 128)),(by first|rfl|(simp;done)|(simp[*];done)),H',⟨by have:=HK1.out;omega⟩,⟨by (with_reducible repeat (first|apply Kd.R_alloc|apply Kd.R_drewN|apply Kd.R_drew));exact HO200.out⟩,⟨by repeat (first|(with_reducible first|exact HK.out|apply Kept.alloc|apply Kept.drewN|apply Kept.drew)|exact HK.out)⟩,⟨by repeat (first|(with_reducible first|exact HB.out|apply below_alloc|apply pw_below_drewN|apply below_drew1)|exact HB.out)⟩⟩
     ·rw[if_neg c4] at H;exact absurd H (by simp)
    ·rw[if_neg c3] at H;have c3b0:decide (128≤x1_1)=false:=decide_eq_false c3;clear c3;by_cases c6:x0_1.length<140737488355328
     ·rw[if_pos c6] at H;have LMc6:=Aside0.mk c6;clear c6;obtain ⟨y201,hy201⟩:∃ y_:List Int,y_=(x0_1++[(x1_1) % 256]):=⟨_,rfl⟩;replace H:(some y201)=some r:=by first|(rw[hy201];with_reducible exact H)|(have H2_:=(Option.bind_some _ _).symm.trans H;rw[hy201];with_reducible exact H2_)|(have H2_:=(Option.bind_some _ _).symm.trans H;with_reducible exact H2_)|with_reducible exact H|(rw[hy201];exact H)|exact H
      have Ny201:=Aside0.mk hy201;clear hy201;obtain rfl:=Option.some.inj H;go_wp2_with (first|((with_reducible refine gate_builtin (b := .append) (xs := #[.tmp 16,.tmp 19]) rfl ?_);at_builtin;refine Kd.R_append (Kd.int .u8) (w0:=w0) w0.heap.size rfl (.tmp 16) (.tmp 19) 36 5 (.int .u8 0) 1 rfl Try.underlying36 info5 rfl (by decide) (by omega) u0 x0_1 ((x1_1) % 256) [.int .u8 ((x1_1) % 256)] (fun k_=>(P0_ k_∨w.heap.size≤k_)) (fun _=>False) rfl rfl ?aP (fun _ hk=>hk.elim) ?aF ?aO ?aB ?aS ?aL ?_;(case aP=>exact rfl);(case aB=>exact (by repeat (first|(with_reducible first|exact HB.out|apply below_alloc|apply pw_below_drewN|apply below_drew1)|exact HB.out)));(case aF=>exact (fun k_ hk=>(.inr (Nat.le_trans (by first|exact HK.out.1|exact (show Kept w _ (fun k_=>P0_ k_) from by repeat (first|(with_reducible first|exact HK.out|apply Kept.alloc|apply Kept.drewN|apply Kept.drew)|exact HK.out)).1) hk))));(case aO=>exact (by (with_reducible repeat (first|apply Kd.R_alloc|apply Kd.R_drewN|apply Kd.R_drew));exact HO_0.out));(case aS=>exact (below_size (by repeat (first|(with_reducible first|exact HB.out|apply below_alloc|apply pw_below_drewN|apply below_drew1)|exact HB.out))));(case aL=>have:=LMc6.out;omega);intro v202 w7 ho hb hg hat;rw[←Ny201.out] at ho;have n0_:=Aside0.mk (hb);have n1_:=Aside0.mk (Kept.of_grown (S:=(fun k_=>P0_ k_)) hg (by repeat (first|(with_reducible first|exact HK.out|apply Kept.alloc|apply Kept.drewN|apply Kept.drew)|exact HK.out)) (fun k_ e_=>(HO_0.out.1 k_ e_)));have n2_:=Aside0.mk (ho);clear HB;clear HK;clear HO_0;have HB:=n0_;have HK:=n1_;have HO203:=n2_;clear n0_ n1_ n2_;clear ho hb hg hat))
      go_ret
      exact ⟨_,by first|rfl|(simp[errW_none,errW_some]<;>rfl)|(simp[*,errW_none,errW_some]<;>rfl),by (with_reducible repeat (first|apply Kd.R_alloc|apply Kd.R_drewN|apply Kd.R_drew));exact HO203.out,by repeat (first|(with_reducible first|exact HB.out|apply below_alloc|apply pw_below_drewN|apply below_drew1)|exact HB.out),by repeat (first|(with_reducible first|exact HK.out|apply Kept.alloc|apply Kept.drewN|apply Kept.drew)|exact HK.out)⟩
     ·rw[if_neg c6] at H;exact absurd H (by simp)
def sluiceref2_plain.l0:Nat→List Int→List Int→Int→Option (List Int)
 | 0,_,_,_=>none
 | k+1,x0,x1,x5=>if x5<(x1.length:Int) then (if 0≤x5 then ((sluiceref2_number.f k x0 (IntKind.u64.wrap (rd x1 x5))).bind fun t205=>(sluiceref2_plain.l0 k t205 x1 (wrap64 (x5+1)))) else (none)) else (some x0)
def sluiceref2_plain.f (k:Nat) (l0:List Int) (l1:List Int):Option (List Int):=sluiceref2_plain.l0 k l0 l1 0
def sluiceref2_text.f (k:Nat) (l0:List Int) (a1:ByteArray):Option (List Int):=(sluiceref2_plain.f k l0 (([(a1.size:Int)]:List Int))).bind fun t211=>(if t211.length+a1.size<140737488355328 then (some (t211++bytesOf a1)) else (none))
def sluiceref2_signed.f (k:Nat) (l0:List Int) (a1:Int):Option (List Int):=if a1 ≥ 0 then ((sluiceref2_number.f k l0 (IntKind.u64.wrap (2 * (IntKind.u64.wrap (a1))))).bind fun t217=>(some t217)) else ((sluiceref2_number.f k l0 (IntKind.u64.wrap ((IntKind.u64.wrap (2 * (IntKind.u64.wrap (wrap64 (-(wrap64 (a1+1)))))))+1))).bind fun t220=>(some t220))
def sluiceref2_putOp.f (k:Nat) (l0:List Int) (a1_0:Int) (a1_1:ByteArray) (a1_2:Int) (a1_3:Int):Option (List Int):=(sluiceref2_plain.f k l0 (([a1_0]:List Int))).bind fun t227=>((sluiceref2_text.f k t227 a1_1).bind fun t230=>((sluiceref2_signed.f k t230 a1_2).bind fun t233=>((sluiceref2_signed.f k t233 a1_3).bind fun t236=>(some t236))))
def sluiceref2_putCall.f (k:Nat) (l0:List Int) (a1_0:Int) (a1_1:Int):Option (List Int):=(sluiceref2_plain.f k l0 (([a1_0,a1_1]:List Int))).bind fun t243=>(some t243)
def sluicelaw2_sameViews.l0:Nat→List (S87)→List (S87)→Int→Option (Bool)
 | 0,_,_,_=>none
 | k+1,x0,x1,x5=>if x5<(x0.length:Int) then (if 0≤x5 then (if x5<(x1.length:Int) then (if (!((((rd_T87 x0 x5).f0).toList) == (((rd_T87 x1 x5).f0).toList)) || (!(((rd_T87 x0 x5).f1) == ((rd_T87 x1 x5).f1)) || (!(((rd_T87 x0 x5).f2) == ((rd_T87 x1 x5).f2)) || (!(((rd_T87 x0 x5).f3) == ((rd_T87 x1 x5).f3)) || ((!(((rd_T87 x0 x5).f4.f0) == ((rd_T87 x1 x5).f4.f0)) || (!(((rd_T87 x0 x5).f4.f1) == ((rd_T87 x1 x5).f4.f1)))) || (!(((rd_T87 x0 x5).f5) == ((rd_T87 x1 x5).f5))))))))=true then (some false) else (sluicelaw2_sameViews.l0 k x0 x1 (wrap64 (x5+1)))) else (none)) else (none)) else (some true)
def sluicelaw2_sameViews.f (k:Nat) (l0:List (S87)) (l1:List (S87)):Option (Bool):=if (l0.length:Int)=(l1.length:Int) then (sluicelaw2_sameViews.l0 k l0 l1 0) else (some false)
theorem sluicelaw2_sameViews.calls (k : Nat) (A0 : Option Addr) (c0 : Nat) (l0 : List (S87)) (A1 : Option Addr) (c1 : Nat) (l1 : List (S87)) (r : Bool) (w : World) (hr0 : Kd.C k87 w A0 l0.length l0) (hc0 : l0.length ≤ c0) (hr1 : Kd.C k87 w A1 l1.length l1) (hc1 : l1.length ≤ c1) (h : sluicelaw2_sameViews.f k l0 l1 = some r) :
    Calls Try.prog 40 #[.slice A0 l0.length c0,.slice A1 l1.length c1] w fun e w'=>e = .returned (.bool r)∧Drawn0 w w':=by
  have hu87:=Try.underlying87;have HR0:=Aside0.mk hr0;have HC0:=Aside0.mk hc0;clear hr0 hc0;have HR1:=Aside0.mk hr1;have HC1:=Aside0.mk hc1;clear hr1 hc1;have H:(if (l0.length:Int)=(l1.length:Int) then (sluicelaw2_sameViews.l0 k l0 l1 0) else (some false))=some r:=h;clear h;by_cases c3:(l0.length:Int)=(l1.length:Int)
  · rw [if_pos c3] at H
    have c3b0:((l0.length:Int) == (l1.length:Int))=true:=beq_iff_eq.mpr c3;have c3b1:((l0.length:Int) != (l1.length:Int))=false:=bne_eq_false_iff_eq.mpr c3;have c3b2:(l0.length == l1.length)=true:=by first|simpa using c3|(simp at c3 ⊢;omega)
    clear c3;have H':=Aside0.mk H;clear H;go_enter Try.func40,Try.ntmps40
    go_wp2
    repeat (go_quiet (fail);try go_wp2)
    go_loopg [5] k (fun kq v5 w'=>∃ (x5_1:Int),v5 = .int .i64 x5_1∧Aside0 (sluicelaw2_sameViews.l0 kq l0 l1 x5_1=some r)∧Aside0 (kq≤k)∧Drawn0 w w')
    case atStart=>exact ⟨(0),(by first|rfl|(simp;done)|(simp[*];done)),H',⟨Nat.le_refl _⟩,by repeat (first|exact Drawn0.refl _|apply Drawn0.step)⟩
    case round=>
     clear H';try clear c1
     try clear p2
     try clear c3
     try clear c3b0
     try clear c3b1
     try clear c3b2
     obtain ⟨x5_1,rfl,HA,HK1,⟨m1,rfl⟩⟩:=hrel;cases gk with
     | zero=>exact absurd HA.out (by simp[sluicelaw2_sameViews.l0])
     | succ k1 =>
       have H:=HA.out;clear HA;simp only[sluicelaw2_sameViews.l0] at H;by_cases c4:x5_1<(l0.length:Int)
       · rw [if_pos c4] at H
         have c4b0:decide (x5_1<(l0.length:Int))=true:=decide_eq_true c4;clear c4;by_cases c5:0≤x5_1
         · rw [if_pos c5] at H
           have c5b0:decide (0≤x5_1)=true:=decide_eq_true c5;clear c5;by_cases c6:x5_1<(l1.length:Int)
           ·rw[if_pos c6] at H;have c6b0:decide (x5_1<(l1.length:Int))=true:=decide_eq_true c6;clear c6;by_cases c7:(!((((rd_T87 l0 x5_1).f0).toList) == (((rd_T87 l1 x5_1).f0).toList)) || (!(((rd_T87 l0 x5_1).f1) == ((rd_T87 l1 x5_1).f1)) || (!(((rd_T87 l0 x5_1).f2) == ((rd_T87 l1 x5_1).f2)) || (!(((rd_T87 l0 x5_1).f3) == ((rd_T87 l1 x5_1).f3)) || ((!(((rd_T87 l0 x5_1).f4.f0) == ((rd_T87 l1 x5_1).f4.f0)) || (!(((rd_T87 l0 x5_1).f4.f1) == ((rd_T87 l1 x5_1).f4.f1)))) || (!(((rd_T87 l0 x5_1).f5) == ((rd_T87 l1 x5_1).f5))))))))=true
            ·rw[if_pos c7] at H;have c7b0:(!((((rd_T87 l0 x5_1).f0).toList) == (((rd_T87 l1 x5_1).f0).toList)) || (!(((rd_T87 l0 x5_1).f1) == ((rd_T87 l1 x5_1).f1)) || (!(((rd_T87 l0 x5_1).f2) == ((rd_T87 l1 x5_1).f2)) || (!(((rd_T87 l0 x5_1).f3) == ((rd_T87 l1 x5_1).f3)) || ((!(((rd_T87 l0 x5_1).f4.f0) == ((rd_T87 l1 x5_1).f4.f0)) || (!(((rd_T87 l0 x5_1).f4.f1) == ((rd_T87 l1 x5_1).f4.f1)))) || (!(((rd_T87 l0 x5_1).f5) == ((rd_T87 l1 x5_1).f5))))))))=true:=c7;clear c7;obtain rfl:=Option.some.inj H;have p247:0≤(x5_1:Int):=of_decide_eq_true (by first|(with_reducible assumption)|assumption);have q247:x5_1<(l0.length:Int):=of_decide_eq_true (by first|(with_reducible assumption)|assumption);obtain ⟨ad247,e247,hx247_0,hx247_1,hx247_2,hx247_3,hx247_4,hx247_5,hx247_6⟩:=at_T87 HR0.out x5_1 p247 q247;cases e247
             replace p247:=eq_true p247;replace q247:=eq_true q247;have p248:0≤(x5_1:Int):=of_decide_eq_true (by first|(with_reducible assumption)|assumption);have q248:x5_1<(l1.length:Int):=of_decide_eq_true (by first|(with_reducible assumption)|assumption);obtain ⟨ad248,e248,hx248_0,hx248_1,hx248_2,hx248_3,hx248_4,hx248_5,hx248_6⟩:=at_T87 HR1.out x5_1 p248 q248;cases e248
             replace p248:=eq_true p248;replace q248:=eq_true q248;go_wp2
             repeat (go_quiet (fail);try go_wp2)
             go_ret
             exact ⟨by first|rfl|(simp;done)|(simp[*];done),by repeat (first|exact Drawn0.refl _|apply Drawn0.step)⟩
            ·rw[if_neg c7] at H;have c7b0:(!((((rd_T87 l0 x5_1).f0).toList) == (((rd_T87 l1 x5_1).f0).toList)) || (!(((rd_T87 l0 x5_1).f1) == ((rd_T87 l1 x5_1).f1)) || (!(((rd_T87 l0 x5_1).f2) == ((rd_T87 l1 x5_1).f2)) || (!(((rd_T87 l0 x5_1).f3) == ((rd_T87 l1 x5_1).f3)) || ((!(((rd_T87 l0 x5_1).f4.f0) == ((rd_T87 l1 x5_1).f4.f0)) || (!(((rd_T87 l0 x5_1).f4.f1) == ((rd_T87 l1 x5_1).f4.f1)))) || (!(((rd_T87 l0 x5_1).f5) == ((rd_T87 l1 x5_1).f5))))))))=false:=by simpa using c7
             clear c7;have H':=Aside0.mk H;clear H;have p247:0≤(x5_1:Int):=of_decide_eq_true (by first|(with_reducible assumption)|assumption);have q247:x5_1<(l0.length:Int):=of_decide_eq_true (by first|(with_reducible assumption)|assumption);obtain ⟨ad247,e247,hx247_0,hx247_1,hx247_2,hx247_3,hx247_4,hx247_5,hx247_6⟩:=at_T87 HR0.out x5_1 p247 q247;cases e247
             replace p247:=eq_true p247;replace q247:=eq_true q247;have p248:0≤(x5_1:Int):=of_decide_eq_true (by first|(with_reducible assumption)|assumption);have q248:x5_1<(l1.length:Int):=of_decide_eq_true (by first|(with_reducible assumption)|assumption);obtain ⟨ad248,e248,hx248_0,hx248_1,hx248_2,hx248_3,hx248_4,hx248_5,hx248_6⟩:=at_T87 HR1.out x5_1 p248 q248;cases e248
             replace p248:=eq_true p248;replace q248:=eq_true q248;go_wp2
             repeat (go_quiet (fail);try go_wp2)
             go_roundg k1
             case measure=>have:=HK1.out;omega
             case rel=>exact ⟨(wrap64 (x5_1+1)),(by first|rfl|(simp;done)|(simp[*];done)),H',⟨by have:=HK1.out;omega⟩,by repeat (first|exact Drawn0.refl _|apply Drawn0.step)⟩
           ·rw[if_neg c6] at H;exact absurd H (by simp)
         ·rw[if_neg c5] at H;exact absurd H (by simp)
       ·rw[if_neg c4] at H;have c4b0:decide (x5_1<(l0.length:Int))=false:=decide_eq_false c4;clear c4;obtain rfl:=Option.some.inj H;go_wp2
        repeat (go_quiet (fail);try go_wp2)
        go_ret
        exact ⟨by first|rfl|(simp;done)|(simp[*];done),by repeat (first|exact Drawn0.refl _|apply Drawn0.step)⟩
  ·rw[if_neg c3] at H;have c3b0:((l0.length:Int) == (l1.length:Int))=false:=beq_eq_false_iff_ne.mpr c3;have c3b1:((l0.length:Int) != (l1.length:Int))=true:=bne_iff_ne.mpr c3;have c3b2:(l0.length == l1.length)=false:=by first|simpa using c3|(simp at c3 ⊢;omega)
   obtain rfl:=Option.some.inj H;go_enter Try.func40,Try.ntmps40
   go_wp2
   repeat (go_quiet (fail);try go_wp2)
   go_ret
   exact ⟨by first|rfl|(simp;done)|(simp[*];done),by repeat (first|exact Drawn0.refl _|apply Drawn0.step)⟩
end Go.Proofs.Ytpgdmmjbhjbbhaa.P
end
section
namespace Go.Proofs.Ytpgdmmjbhjbbhaa.Sp
open Go Go.RowKit P YtpgdmmjbhjbbhaaW.PrintWords YtpgdmmjbhjbbhaaW.PrintLast YtpgdmmjbhjbbhaaW.PrintMore
theorem dcd_and (p q:Prop):dcd (p∧q)=(dcd p && dcd q):=by
 cases h:dcd p with
 | false=>exact dcd_neg (fun h2=>by rw[dcd_pos h2.1] at h;cases h)
 | true=>
  cases h2:dcd q with
  | false=>exact dcd_neg (fun h3=>by rw[dcd_pos h3.2] at h2;cases h2)
  | true=>exact dcd_pos ⟨dcd_iff.mp h,dcd_iff.mp h2⟩
theorem dcd_congr {p q:Prop} (h:p ↔ q):dcd p=dcd q:=by
 cases hd:dcd q with
 | false=>exact dcd_neg (fun h2=>by rw[dcd_pos (h.mp h2)] at hd;cases hd)
 | true=>exact dcd_pos (h.mpr (dcd_iff.mp hd))
theorem dcd_dec (p:Prop) [Decidable p]:dcd p=decide p:=by
 by_cases h:p
 ·rw[dcd_pos h,decide_eq_true h]
 ·rw[dcd_neg h,decide_eq_false h]
theorem ifb (p q:Bool):(if p=true then some q else some false)=some (p && q):=by cases p<;>rfl
noncomputable def bB (n lo hi:Int):Bool:=dcd (lo≤n∧n≤hi)
noncomputable def nB (s:ByteArray):Bool:=dcd (nameOk (bytesOf s))
theorem between_f (n lo hi:Int):wire_between.f n lo hi=some (bB n lo hi):=by
 unfold wire_between.f bB;rw[dcd_dec];by_cases h:n ≥ lo
 ·rw[if_pos h];congr 1;exact decide_eq_decide.mpr ⟨fun h2=>⟨h,h2⟩,fun h2=>h2.2⟩
 ·rw[if_neg h];congr 1;exact (decide_eq_false (fun h2=>h h2.1)).symm
theorem within_f (n lo hi:Int):sluiceref2_within.f n lo hi=some (bB n lo hi):=between_f n lo hi
theorem pairV_dcd (l1 h1 l2 h2:Int) (x:S25):dcd (pairV l1 h1 l2 h2 x)=(bB x.f0 l1 h1 && bB x.f1 l2 h2):=dcd_and _ _
theorem rights_f (x:S25):wire_rightRights.f x.f0 x.f1=some (dcd (rightsV x)):=by
 unfold wire_rightRights.f rightsV;rw[pairV_dcd,between_f,between_f];exact ifb _ _
theorem call_f (x:S25):wire_rightCall.f x.f0 x.f1=some (dcd (callV x)):=by
 unfold wire_rightCall.f callV;rw[pairV_dcd,between_f,between_f];exact ifb _ _
theorem epoch_f (x:S25):wire_rightEpoch.f x.f0 x.f1=some (dcd (epochV x)):=by
 unfold wire_rightEpoch.f epochV;rw[pairV_dcd,between_f,between_f];exact ifb _ _
theorem rrights_f (x:S25):sluiceref2_rights.f x.f0 x.f1=some (dcd (rightsV x)):=by
 unfold sluiceref2_rights.f rightsV;rw[pairV_dcd,within_f,within_f];exact ifb _ _
theorem rcall_f (x:S25):sluiceref2_call.f x.f0 x.f1=some (dcd (callV x)):=by
 unfold sluiceref2_call.f callV;rw[pairV_dcd,within_f,within_f];exact ifb _ _
theorem repoch_f (x:S25):sluiceref2_epoch.f x.f0 x.f1=some (dcd (epochV x)):=by
 unfold sluiceref2_epoch.f epochV;rw[pairV_dcd,within_f,within_f];exact ifb _ _
theorem wrap_succ {i n:Nat} (h:i<n) (hn:n≤16):wrap64 ((i:Int)+1)=((i+1:Nat):Int):=by
 unfold wrap64;omega
theorem bytes_drop (s:ByteArray) (i:Nat) (h:i<s.size):(bytesOf s).drop i=bt s (i:Int)::(bytesOf s).drop (i+1):=by
 have h1:i<(bytesOf s).length:=by rw[bytesOf_length];exact h
 rw[List.drop_eq_getElem_cons h1]
 congr 1
 have:=rd_bytesOf s (i:Int);rw[←this];simp[rd,List.getD_eq_getElem?_getD,List.getElem?_eq_getElem h1]
theorem all_drop (s:ByteArray) (i:Nat) (h:i<s.size):(∀ x ∈ (bytesOf s).drop i,(33:Int)≤x∧x≤126) ↔ (33≤bt s (i:Int)∧bt s (i:Int)≤126)∧∀ x ∈ (bytesOf s).drop (i+1),(33:Int)≤x∧x≤126:=by
 rw[bytes_drop s i h];exact List.forall_mem_cons
theorem named_l (s : ByteArray) (hs : s.size ≤ 16) : ∀ (d i : Nat), i + d = s.size → wire_named.l0 (d + 1) s (s.size : Int) (i : Int) = some (dcd (∀ x ∈ (bytesOf s).drop i, (33 : Int) ≤ x ∧ x ≤ 126)) := by
  intro d
  induction d with
  | zero=>
   intro i h;rw[wire_named.l0,if_neg (by omega),dcd_pos];rw[List.drop_of_length_le (by rw[bytesOf_length];omega)];intro x hx;cases hx
  | succ d ih=>
   intro i h;rw[wire_named.l0,if_pos (by omega),if_pos (by omega),if_pos (by omega)];by_cases h1:bt s (i:Int)≤32
   ·rw[if_pos h1,dcd_neg];rw[all_drop s i (by omega)];intro h2;omega
   ·rw[if_neg h1];by_cases h2:bt s (i:Int) > 126
    ·rw[if_pos h2,dcd_neg];rw[all_drop s i (by omega)];intro h3;omega
    ·rw[if_neg h2,wrap_succ (n:=s.size) (by omega) hs,ih (i+1) (by omega)]
     congr 1
     refine dcd_congr ?_;rw[all_drop s i (by omega)];exact ⟨fun h3=>⟨by omega,h3⟩,fun h3=>h3.2⟩
theorem nB_eq (s:ByteArray):nB s=dcd (1≤s.size∧s.size≤16∧∀ x ∈ (bytesOf s).drop 0,(33:Int)≤x∧x≤126):=by
 unfold nB nameOk;rw[bytesOf_length,List.drop_zero]
theorem named_f (s:ByteArray):∃ k,wire_named.f k s=some (nB s):=by
 refine ⟨s.size+2,?_⟩;unfold wire_named.f;rw[nB_eq];by_cases h:(s.size:Int)=0
 ·rw[if_pos h,wire_named.j0,if_pos rfl,dcd_neg (fun h2=>by omega)]
 ·rw[if_neg h,wire_named.j0];by_cases h2:(s.size:Int) > 16
  ·rw[if_pos (decide_eq_true h2),dcd_neg (fun h3=>by omega)]
  ·rw[if_neg (by rw[decide_eq_false h2];decide)];have:=named_l s (by omega) s.size 0 (by omega);rw[show ((0:Nat):Int)=0 from rfl] at this;rw[this]
   congr 1
   exact dcd_congr ⟨fun h3=>⟨by omega,by omega,h3⟩,fun h3=>h3.2.2⟩
theorem rname_l (s : ByteArray) (hs : s.size ≤ 16) : ∀ (d i : Nat), i + d = s.size → sluiceref2_name.l0 (d + 1) s (i : Int) = some (dcd (∀ x ∈ (bytesOf s).drop i, (33 : Int) ≤ x ∧ x ≤ 126)) := by
  intro d
  induction d with
  | zero=>
   intro i h;rw[sluiceref2_name.l0,if_neg (by omega),dcd_pos];rw[List.drop_of_length_le (by rw[bytesOf_length];omega)];intro x hx;cases hx
  | succ d ih=>
   intro i h;rw[sluiceref2_name.l0,if_pos (by omega),if_pos (by omega)];by_cases h1:bt s (i:Int)<33
   ·rw[if_pos h1,dcd_neg];rw[all_drop s i (by omega)];intro h2;omega
   ·rw[if_neg h1];by_cases h2:bt s (i:Int) > 126
    ·rw[if_pos h2,dcd_neg];rw[all_drop s i (by omega)];intro h3;omega
    ·rw[if_neg h2,wrap_succ (n:=s.size) (by omega) hs,ih (i+1) (by omega)]
     congr 1
     refine dcd_congr ?_;rw[all_drop s i (by omega)];exact ⟨fun h3=>⟨by omega,h3⟩,fun h3=>h3.2⟩
theorem rname_f (s:ByteArray):∃ k,sluiceref2_name.f k s=some (nB s):=by
 refine ⟨s.size+2,?_⟩;unfold sluiceref2_name.f;rw[nB_eq];by_cases h:(s.size:Int)<1
 ·rw[if_pos h,sluiceref2_name.j0,if_pos rfl,dcd_neg (fun h2=>by omega)]
 ·rw[if_neg h,sluiceref2_name.j0];by_cases h2:(s.size:Int) > 16
  ·rw[if_pos (decide_eq_true h2),dcd_neg (fun h3=>by omega)]
  ·rw[if_neg (by rw[decide_eq_false h2];decide)];have:=rname_l s (by omega) s.size 0 (by omega);rw[show ((0:Nat):Int)=0 from rfl] at this;rw[this]
   congr 1
   exact dcd_congr ⟨fun h3=>⟨by omega,by omega,h3⟩,fun h3=>h3.2.2⟩
noncomputable def oB (k:Int) (s:ByteArray):Bool:=bB k 1 11 && nB s
theorem op_f (k:Int) (s:ByteArray) (a b:Int):∃ j,wire_rightOp.f j k s a b=some (oB k s):=by
 obtain ⟨j,hj⟩:=named_f s;refine ⟨j,?_⟩;unfold wire_rightOp.f oB;rw[between_f,hj];exact ifb _ _
theorem rop_f (k:Int) (s:ByteArray) (a b:Int):∃ j,sluiceref2_op.f j k s a b=some (oB k s):=by
 obtain ⟨j,hj⟩:=rname_f s;refine ⟨j,?_⟩;unfold sluiceref2_op.f oB;rw[within_f,hj];exact ifb _ _
noncomputable def kB (s:ByteArray) (c r:Int):Bool:=nB s && (bB c 1 1099511627776 && bB r 0 1099511627776)
theorem known_f (s:ByteArray) (c r:Int):∃ j,sluiceref2_known.f j s c r=some (kB s c r):=by
 obtain ⟨j,hj⟩:=rname_f s;refine ⟨j,?_⟩;unfold sluiceref2_known.f kB;rw[hj,within_f,within_f];simp only[Option.bind_some,ifb]
section
variable (w:World)
theorem below0 {w w':World} (h:Drawn0 w w'):Below w.heap.size w w':=h.below
theorem capped_calls (e:Int):Calls Try.prog 58 #[.int .i64 e] w fun x w'=>x = .returned (.bool (dcd (capped e)))∧Below w.heap.size w w':=by
 refine (wire_capped.calls e (dcd (capped e)) w ?_).mono fun x w' h=>⟨h.1,below0 h.2⟩;unfold wire_capped.f;by_cases h:e=0
 ·rw[if_pos h,dcd_pos (p:=capped e) (Or.inl h)]
 ·rw[if_neg h]
  congr 1
  by_cases h2:e=101
  ·rw[dcd_pos (p:=capped e) (Or.inr h2)];exact beq_iff_eq.mpr h2
  ·rw[dcd_neg (fun h3:capped e=>Or.elim h3 h h2)];exact beq_eq_false_iff_ne.mpr h2
theorem named_calls (s:ByteArray):Calls Try.prog 65 #[.string s] w fun x w'=>x = .returned (.bool (nB s))∧Below w.heap.size w w':=by
 obtain ⟨k,hk⟩:=named_f s;exact (wire_named.calls k s _ w hk).mono fun x w' h=>⟨h.1,below0 h.2⟩
theorem between_calls (n lo hi:Int):Calls Try.prog 66 #[.int .i64 n,.int .i64 lo,.int .i64 hi] w fun x w'=>x = .returned (.bool (bB n lo hi))∧Below w.heap.size w w':=
 (wire_between.calls n lo hi _ w (between_f n lo hi)).mono fun x w' h=>⟨h.1,below0 h.2⟩
theorem rightRights_calls (a b:Int):Calls Try.prog 68 #[.agg #[.int .i64 a,.int .i64 b]] w fun e w'=>e = .returned (.bool (dcd (rightsV ⟨a,b⟩)))∧Below w.heap.size w w':=wire_rightRights.calls a b _ w (rights_f ⟨a,b⟩)
theorem rightCall_calls (a b:Int):Calls Try.prog 63 #[.agg #[.int .i64 a,.int .i64 b]] w fun e w'=>e = .returned (.bool (dcd (callV ⟨a,b⟩)))∧Below w.heap.size w w':=wire_rightCall.calls a b _ w (call_f ⟨a,b⟩)
theorem rightEpoch_calls (a b:Int):Calls Try.prog 67 #[.agg #[.int .i64 a,.int .i64 b]] w fun e w'=>e = .returned (.bool (dcd (epochV ⟨a,b⟩)))∧Below w.heap.size w w':=wire_rightEpoch.calls a b _ w (epoch_f ⟨a,b⟩)
theorem rightOp_calls (k:Int) (s:ByteArray) (a b:Int):Calls Try.prog 64 #[.agg #[.int .i64 k,.string s,.int .i64 a,.int .i64 b]] w fun e w'=>e = .returned (.bool (oB k s))∧Below w.heap.size w w':=by
 obtain ⟨j,hj⟩:=op_f k s a b;exact wire_rightOp.calls j k s a b _ w hj
theorem rname_calls (s:ByteArray):Calls Try.prog 49 #[.string s] w fun x w'=>x = .returned (.bool (nB s))∧Below w.heap.size w w':=by
 obtain ⟨k,hk⟩:=rname_f s;exact (sluiceref2_name.calls k s _ w hk).mono fun x w' h=>⟨h.1,below0 h.2⟩
theorem within_calls (n lo hi:Int):Calls Try.prog 43 #[.int .i64 n,.int .i64 lo,.int .i64 hi] w fun x w'=>x = .returned (.bool (bB n lo hi))∧Below w.heap.size w w':=
 (sluiceref2_within.calls n lo hi _ w (within_f n lo hi)).mono fun x w' h=>⟨h.1,below0 h.2⟩
theorem rrights_calls (a b:Int):Calls Try.prog 51 #[.agg #[.int .i64 a,.int .i64 b]] w fun e w'=>e = .returned (.bool (dcd (rightsV ⟨a,b⟩)))∧Below w.heap.size w w':=sluiceref2_rights.calls a b _ w (rrights_f ⟨a,b⟩)
theorem rcall_calls (a b:Int):Calls Try.prog 46 #[.agg #[.int .i64 a,.int .i64 b]] w fun e w'=>e = .returned (.bool (dcd (callV ⟨a,b⟩)))∧Below w.heap.size w w':=sluiceref2_call.calls a b _ w (rcall_f ⟨a,b⟩)
theorem repoch_calls (a b:Int):Calls Try.prog 52 #[.agg #[.int .i64 a,.int .i64 b]] w fun e w'=>e = .returned (.bool (dcd (epochV ⟨a,b⟩)))∧Below w.heap.size w w':=sluiceref2_epoch.calls a b _ w (repoch_f ⟨a,b⟩)
theorem rop_calls (k:Int) (s:ByteArray) (a b:Int):Calls Try.prog 47 #[.agg #[.int .i64 k,.string s,.int .i64 a,.int .i64 b]] w fun e w'=>e = .returned (.bool (oB k s))∧Below w.heap.size w w':=by
 obtain ⟨j,hj⟩:=rop_f k s a b;exact sluiceref2_op.calls j k s a b _ w hj
theorem known_calls (s:ByteArray) (c r:Int):Calls Try.prog 50 #[.string s,.int .i64 c,.int .i64 r] w fun x w'=>x = .returned (.bool (kB s c r))∧Below w.heap.size w w':=by
 obtain ⟨j,hj⟩:=known_f s c r;exact (sluiceref2_known.calls j s c r _ w hj).mono fun x w' h=>⟨h.1,below0 h.2⟩
end
end Go.Proofs.Ytpgdmmjbhjbbhaa.Sp
end
section
namespace Go.Proofs.Ytpgdmmjbhjbbhaa.Vd
open Go Go.RowKit P Sp YtpgdmmjbhjbbhaaW.PrintWords YtpgdmmjbhjbbhaaW.PrintLast YtpgdmmjbhjbbhaaW.PrintMore
attribute [local go_sem] Go.Proofs.Ytpgdmmjbhjbbhaa.StrLe.leq_str Go.Proofs.Ytpgdmmjbhjbbhaa.StrLe.gtr_str
theorem toList_nil:(⟨#[]⟩:ByteArray).toList=[]:=by rw[ByteArray.toList_eq]
theorem blk_keep {W w1:World} {g:Nat} {t:TypeId} {cs:Array Value} (hb:Below W.heap.size W w1) (h:W.heap[g]?=some (.cells cs t (0,0))):w1.heap[g]?=some (.cells cs t (0,0)):=(hb.block g (blk_lt h)).trans h
theorem Kd.C_nil' (w:World):Kd.C k87 w none ([]:List S87).length []:=Kd.C_nil _ _
theorem inf33:(Try.prog.info? 33).map (·.size)=some 20:=by kernel_rfl
def emB (a1:ByteArray) (a2 a3 a4 a5 a6 a7 a8 a9 a10 a11 a12 a13:Int) (a14:ByteArray) (a15 a16 a17 a18:Int) (l:List S87):Bool:=
 decide ((l.length:Int)=0) && decide (a1.toList=([]:List UInt8)) && decide (a2=0) && decide (a3=0) && decide (a4=0) && decide (a5=0) && decide (a6=0) && decide (a7=0) && decide (a8=0) && decide (a9=0) && decide (a10=0) && decide (a11=0) && decide (a12=0) && decide (a13=0) && decide (a14.toList=([]:List UInt8)) && decide (a15=0) && decide (a16=0) && decide (a17=0) && decide (a18=0)
theorem empty_calls (a0:Int) (a1:ByteArray) (a2 a3 a4 a5 a6 a7 a8 a9 a10 a11 a12 a13:Int) (a14:ByteArray) (a15 a16 a17 a18:Int) (A:Option Addr) (c:Nat) (l:List S87) (w:World) (hr:Kd.C k87 w A l.length l) (hc:l.length≤c):
  Calls Try.prog 69 #[.agg #[.int .i64 a0,.string a1,.int .i64 a2,.int .i64 a3,.int .i64 a4,.int .i64 a5,.int .i64 a6,.int .i64 a7,.int .i64 a8,.int .i64 a9,.int .i64 a10,.int .i64 a11,.int .i64 a12,.int .i64 a13,.string a14,.int .i64 a15,.int .i64 a16,.int .i64 a17,.int .i64 a18,.slice A l.length c]] w fun e w'=>e = .returned (.bool (decide ((l.length:Int)=0) && decide (a1.toList=([]:List UInt8)) && decide (a2=0) && decide (a3=0) && decide (a4=0) && decide (a5=0) && decide (a6=0) && decide (a7=0) && decide (a8=0) && decide (a9=0) && decide (a10=0) && decide (a11=0) && decide (a12=0) && decide (a13=0) && decide (a14.toList=([]:List UInt8)) && decide (a15=0) && decide (a16=0) && decide (a17=0) && decide (a18=0)))∧Below w.heap.size w w':=
 wire_empty.calls a0 a1 a2 a3 a4 a5 a6 a7 a8 a9 a10 a11 a12 a13 a14 a15 a16 a17 a18 A c l _ w hr hc rfl
theorem viewsV_drop (l:List S87) (i:Nat) (a:ByteArray) (h:i<l.length):viewsV a (l.drop i) ↔ viewV a (rd_T87 l i)∧viewsV (rd_T87 l i).f0 (l.drop (i+1)):=by
 rw[List.drop_eq_getElem_cons h];simp[viewsV,rd_T87,List.getD_eq_getElem?_getD,List.getElem?_eq_getElem h]
theorem viewV_bool {a:ByteArray} {x:S87}:viewV a x ↔ nB x.f0=true∧Go.Op.bytesLess a.toList x.f0.toList=true∧bB x.f1 1 1099511627776=true∧bB x.f2 0 1099511627776=true∧bB x.f3 0 1099511627776=true∧dcd (rightsV ⟨x.f4.f0,x.f4.f1⟩)=true∧bB x.f5 0 1099511627776=true:=by
 unfold nB bB;simp only[dcd_iff];exact ⟨fun h=>⟨h.1.1,h.1.2,h.2.1.1,h.2.1.2,h.2.2.1,h.2.2.2.1,h.2.2.2.2⟩,fun h=>⟨⟨h.1,h.2.1⟩,⟨h.2.2.1,h.2.2.2.1⟩,h.2.2.2.2.1,h.2.2.2.2.2.1,h.2.2.2.2.2.2⟩⟩
theorem rightViews_calls (A : Option Addr) (c : Nat) (l : List S87) (w : World) (hr : Kd.C k87 w A l.length l) :
    Calls Try.prog 62 #[.slice A l.length c] w fun e w'=>e = .returned (.bool (dcd (listV l)))∧Below w.heap.size w w':=by
  have hl:l.length≤9223372036854775807:=by have:=hr.2.1;omega
  have HR:=Aside0.mk hr;clear hr;have hu87:=Try.underlying87;have hu25:=Try.underlying25;have hlI:(l.length:Int)≤9223372036854775807:=by omega
  go_enter Try.func62,Try.ntmps62
  go_wp2_with fail
  go_loopw [3,8] (fun v3 v8 wr=>∃ (i:Nat) (a:ByteArray),v3 = .string a∧v8 = .int .i64 (i:Int)∧Aside0 (i≤l.length∧(viewsV eB l ↔ viewsV a (l.drop i))∧Below w.heap.size w wr)) (fun _ v8 _=>l.length - (intOf v8).toNat)
  case atStart=>exact ⟨0,eB,rfl,rfl,⟨Nat.zero_le _,by rw[List.drop_zero],Below.refl _ _⟩⟩
  case round=>
   obtain ⟨i,a,rfl,rfl,HQ⟩:=hrel;by_cases hlt:i<l.length
   · have hi0 : (0 : Int) ≤ (i : Int) := by omega
     have hi1:(i:Int)<(l.length:Int):=by omega
     have HLT:=Aside0.mk hlt;obtain ⟨ad,rfl,c0,c1,c2,c3,c4,c5,c6⟩:=at_T87 (Kd.C_below HR.out HQ.out.2.2) (i:Int) hi0 hi1;have HV:Aside0 (viewsV eB l ↔ viewV a (rd_T87 l i)∧viewsV (rd_T87 l i).f0 (l.drop (i+1))):=⟨HQ.out.2.1.trans (viewsV_drop l i a hlt)⟩;obtain ⟨x,hx⟩:∃ x,x=rd_T87 l (i:Int):=⟨_,rfl⟩;rw[←hx] at c0 c1 c2 c3 c4 c5 c6 HV;simp only[Int.toNat_natCast] at c0 c1 c2 c3 c4 c5 c6;clear hx hlt;obtain ⟨wa,hwa⟩:∃ wa,wa=wr.alloc (.cells #[.string x.f0,.int .i64 x.f1,.int .i64 x.f2,.int .i64 x.f3,.int .i64 x.f4.f0,.int .i64 x.f4.f1,.int .i64 x.f5] 87 (0,0)):=⟨_,rfl⟩;have HWA:=Aside0.mk hwa;have BK:Aside0 (wa.heap[wr.heap.size]?=some (.cells #[.string x.f0,.int .i64 x.f1,.int .i64 x.f2,.int .i64 x.f3,.int .i64 x.f4.f0,.int .i64 x.f4.f1,.int .i64 x.f5] 87 (0,0))):=⟨by rw[hwa];exact heap_alloc_new wr _⟩;have HB:Aside0 (Below w.heap.size w wa):=⟨by rw[hwa];exact below_alloc HQ.out.2.2 _⟩;clear hwa;go_upto_region 5 with fail
     rw[←HWA.out];clear c0 c1 c2 c3 c4 c5 c6;have hz0:wa.cell? ⟨wr.heap.size,0,none⟩=some (.string x.f0):=(blk_cell BK.out 0).trans rfl;have hz1:wa.cell? ⟨wr.heap.size,1,none⟩=some (.int .i64 x.f1):=(blk_cell BK.out 1).trans rfl;have hz2:wa.cell? ⟨wr.heap.size,2,none⟩=some (.int .i64 x.f2):=(blk_cell BK.out 2).trans rfl;have hz3:wa.cell? ⟨wr.heap.size,3,none⟩=some (.int .i64 x.f3):=(blk_cell BK.out 3).trans rfl;have hz4:wa.cell? ⟨wr.heap.size,4,none⟩=some (.int .i64 x.f4.f0):=(blk_cell BK.out 4).trans rfl;have hz5:wa.cell? ⟨wr.heap.size,5,none⟩=some (.int .i64 x.f4.f1):=(blk_cell BK.out 5).trans rfl;have hz6:wa.cell? ⟨wr.heap.size,6,none⟩=some (.int .i64 x.f5):=(blk_cell BK.out 6).trans rfl;go_wp2_with (first|(go_at_call 65;refine (named_calls _ _).mono ?_;rintro e w1 ⟨rfl,hb⟩;have n0_:=Aside0.mk (below_step HB.out hb);have n1_:=Aside0.mk (blk_keep hb BK.out);clear HB BK hb hz0 hz1 hz2 hz3 hz4 hz5 hz6;have HB:=n0_;have BK:=n1_;clear n0_ n1_;have hz0:w1.cell? ⟨wr.heap.size,0,none⟩=some (.string x.f0):=(blk_cell BK.out 0).trans rfl;have hz1:w1.cell? ⟨wr.heap.size,1,none⟩=some (.int .i64 x.f1):=(blk_cell BK.out 1).trans rfl;have hz2:w1.cell? ⟨wr.heap.size,2,none⟩=some (.int .i64 x.f2):=(blk_cell BK.out 2).trans rfl;have hz3:w1.cell? ⟨wr.heap.size,3,none⟩=some (.int .i64 x.f3):=(blk_cell BK.out 3).trans rfl;have hz4:w1.cell? ⟨wr.heap.size,4,none⟩=some (.int .i64 x.f4.f0):=(blk_cell BK.out 4).trans rfl;have hz5:w1.cell? ⟨wr.heap.size,5,none⟩=some (.int .i64 x.f4.f1):=(blk_cell BK.out 5).trans rfl;have hz6:w1.cell? ⟨wr.heap.size,6,none⟩=some (.int .i64 x.f5):=(blk_cell BK.out 6).trans rfl)|(go_at_call 66;refine (between_calls _ _ _ _).mono ?_;rintro e w1 ⟨rfl,hb⟩;have n0_:=Aside0.mk (below_step HB.out hb);have n1_:=Aside0.mk (blk_keep hb BK.out);clear HB BK hb hz0 hz1 hz2 hz3 hz4 hz5 hz6;have HB:=n0_;have BK:=n1_;clear n0_ n1_;have hz0:w1.cell? ⟨wr.heap.size,0,none⟩=some (.string x.f0):=(blk_cell BK.out 0).trans rfl;have hz1:w1.cell? ⟨wr.heap.size,1,none⟩=some (.int .i64 x.f1):=(blk_cell BK.out 1).trans rfl;have hz2:w1.cell? ⟨wr.heap.size,2,none⟩=some (.int .i64 x.f2):=(blk_cell BK.out 2).trans rfl;have hz3:w1.cell? ⟨wr.heap.size,3,none⟩=some (.int .i64 x.f3):=(blk_cell BK.out 3).trans rfl;have hz4:w1.cell? ⟨wr.heap.size,4,none⟩=some (.int .i64 x.f4.f0):=(blk_cell BK.out 4).trans rfl;have hz5:w1.cell? ⟨wr.heap.size,5,none⟩=some (.int .i64 x.f4.f1):=(blk_cell BK.out 5).trans rfl;have hz6:w1.cell? ⟨wr.heap.size,6,none⟩=some (.int .i64 x.f5):=(blk_cell BK.out 6).trans rfl)|(go_at_call 68;refine (rightRights_calls _ _ _).mono ?_;rintro e w1 ⟨rfl,hb⟩;have n0_:=Aside0.mk (below_step HB.out hb);have n1_:=Aside0.mk (blk_keep hb BK.out);clear HB BK hb hz0 hz1 hz2 hz3 hz4 hz5 hz6;have HB:=n0_;have BK:=n1_;clear n0_ n1_;have hz0:w1.cell? ⟨wr.heap.size,0,none⟩=some (.string x.f0):=(blk_cell BK.out 0).trans rfl;have hz1:w1.cell? ⟨wr.heap.size,1,none⟩=some (.int .i64 x.f1):=(blk_cell BK.out 1).trans rfl;have hz2:w1.cell? ⟨wr.heap.size,2,none⟩=some (.int .i64 x.f2):=(blk_cell BK.out 2).trans rfl;have hz3:w1.cell? ⟨wr.heap.size,3,none⟩=some (.int .i64 x.f3):=(blk_cell BK.out 3).trans rfl;have hz4:w1.cell? ⟨wr.heap.size,4,none⟩=some (.int .i64 x.f4.f0):=(blk_cell BK.out 4).trans rfl;have hz5:w1.cell? ⟨wr.heap.size,5,none⟩=some (.int .i64 x.f4.f1):=(blk_cell BK.out 5).trans rfl;have hz6:w1.cell? ⟨wr.heap.size,6,none⟩=some (.int .i64 x.f5):=(blk_cell BK.out 6).trans rfl))
     all_goals first
      | (go_ret
         refine ⟨congrArg Ending.returned (congrArg Value.bool (dcd_neg (fun h=>?_)).symm),HB.out⟩;have h2:=viewV_bool.mp (HV.out.mp h.2).1;simp_all
         done)
      | (go_roundw
         case rel=>exact ⟨i+1,x.f0,rfl,by go_num,⟨by have:=HLT.out;omega,HV.out.trans ⟨fun h=>h.2,fun h=>⟨viewV_bool.mpr (by first|(simp[*];done)|(simp_all;done)),h⟩⟩,HB.out⟩⟩
         case measure=>simp only[intOf];have:=HLT.out;first|omega|(go_num;omega)|(simp;omega))
   ·have hi1:¬((i:Int)<(l.length:Int)):=by omega
    have HV:Aside0 (viewsV eB l):=⟨by rw[HQ.out.2.1,List.drop_of_length_le (by omega)];trivial⟩;go_wp2_with fail
    go_ret
    refine ⟨congrArg Ending.returned ?_,HQ.out.2.2⟩
    show Value.bool _=Value.bool _
    congr 1
    first|rw[←dcd_dec]|skip
    exact dcd_congr ⟨fun h=>⟨by omega,HV.out⟩,fun h=>by have:=h.1;omega⟩
end Go.Proofs.Ytpgdmmjbhjbbhaa.Vd
end
section
namespace Go.Proofs.Ytpgdmmjbhjbbhaa.Vd
open Go Go.RowKit P Sp YtpgdmmjbhjbbhaaW.PrintWords YtpgdmmjbhjbbhaaW.PrintLast YtpgdmmjbhjbbhaaW.PrintMore
noncomputable def vp1 (m:Msg):Bool:=(dcd (callV ⟨m.call.f0,m.call.f1⟩) && oB m.op.kind m.op.name) && emB (m.name) (m.cap) (m.recaps) (m.epoch.f0) (m.epoch.f1) (m.over.f0) (m.over.f1) (m.rights.f0) (m.rights.f1) (m.held) (0) (0) (0) (⟨#[]⟩) (0) (0) (m.err) (m.value) m.views
def CS1 (m:Msg) (A:Option Addr) (c:Nat):Nat→Array Value
 | 0 => #[.int .i64 1,.string m.name,.int .i64 m.cap,.int .i64 m.recaps,.int .i64 m.epoch.f0,.int .i64 m.epoch.f1,.int .i64 m.over.f0,.int .i64 m.over.f1,.int .i64 m.rights.f0,.int .i64 m.rights.f1,.int .i64 m.held,.int .i64 m.call.f0,.int .i64 m.call.f1,.int .i64 m.op.kind,.string m.op.name,.int .i64 m.op.a,.int .i64 m.op.b,.int .i64 m.err,.int .i64 m.value,.slice A m.views.length c]
 | _ => #[.int .i64 1,.string m.name,.int .i64 m.cap,.int .i64 m.recaps,.int .i64 m.epoch.f0,.int .i64 m.epoch.f1,.int .i64 m.over.f0,.int .i64 m.over.f1,.int .i64 m.rights.f0,.int .i64 m.rights.f1,.int .i64 m.held,.int .i64 0,.int .i64 0,.int .i64 0,.string ⟨#[]⟩,.int .i64 0,.int .i64 0,.int .i64 m.err,.int .i64 m.value,.slice A m.views.length c]
theorem valid1_calls (m:Msg) (A:Option Addr) (c:Nat) (w:World) (hr:Kd.C k87 w A m.views.length m.views) (hc:m.views.length≤c):
  Calls Try.prog 21 #[.agg #[.int .i64 1,.string m.name,.int .i64 m.cap,.int .i64 m.recaps,.int .i64 m.epoch.f0,.int .i64 m.epoch.f1,.int .i64 m.over.f0,.int .i64 m.over.f1,.int .i64 m.rights.f0,.int .i64 m.rights.f1,.int .i64 m.held,.int .i64 m.call.f0,.int .i64 m.call.f1,.int .i64 m.op.kind,.string m.op.name,.int .i64 m.op.a,.int .i64 m.op.b,.int .i64 m.err,.int .i64 m.value,.slice A m.views.length c]] w fun e w'=>∃ r,e = .returned (.bool r)∧r=vp1 m∧Below w.heap.size w w':=by
 have hu33:=Try.underlying33;have hu23:=Try.underlying23;have hu25:=Try.underlying25;have hu27:=Try.underlying27;have hu29:=Try.underlying29;have HR:=Aside0.mk hr;have HC:=Aside0.mk hc;clear hr hc;obtain ⟨wa,hwa⟩:∃ wa,wa=w.alloc (.cells #[.int .i64 1,.string m.name,.int .i64 m.cap,.int .i64 m.recaps,.int .i64 m.epoch.f0,.int .i64 m.epoch.f1,.int .i64 m.over.f0,.int .i64 m.over.f1,.int .i64 m.rights.f0,.int .i64 m.rights.f1,.int .i64 m.held,.int .i64 m.call.f0,.int .i64 m.call.f1,.int .i64 m.op.kind,.string m.op.name,.int .i64 m.op.a,.int .i64 m.op.b,.int .i64 m.err,.int .i64 m.value,.slice A m.views.length c] 33 (0,0)):=⟨_,rfl⟩;have HWA:=Aside0.mk hwa;have HB:Aside0 (Below w.heap.size w wa):=⟨by rw[hwa];exact (Below.refl _ _).alloc (Nat.le_refl _) _⟩;have BK:Aside0 (wa.heap[w.heap.size]?=some (.cells (CS1 m A c 0) 33 (0,0))):=⟨by rw[hwa];exact heap_alloc_new w _⟩;clear hwa;have hcz_0:wa.cell? ⟨w.heap.size,0,none⟩=some (.int .i64 1):=(blk_cell BK.out 0).trans rfl;go_enter Try.func21,Try.ntmps21
 go_upto_region 1 with fail
 rw[←HWA.out];go_upto_region 15 with fail
 go_cut [3] from 5 (fun v3 wx=>∃ rr:Bool,v3 = .bool rr∧Aside0 (rr=(dcd (callV ⟨m.call.f0,m.call.f1⟩) && oB m.op.kind m.op.name)∧Below w.heap.size w wx∧wx.heap[w.heap.size]?=some (.cells (CS1 m A c 0) 33 (0,0))))
 case first =>
   have hcz_11:wa.cell? ⟨w.heap.size,11,none⟩=some (.int .i64 m.call.f0):=(blk_cell BK.out 11).trans rfl;have hcz_12:wa.cell? ⟨w.heap.size,12,none⟩=some (.int .i64 m.call.f1):=(blk_cell BK.out 12).trans rfl;have hcz_13:wa.cell? ⟨w.heap.size,13,none⟩=some (.int .i64 m.op.kind):=(blk_cell BK.out 13).trans rfl;have hcz_14:wa.cell? ⟨w.heap.size,14,none⟩=some (.string m.op.name):=(blk_cell BK.out 14).trans rfl;have hcz_15:wa.cell? ⟨w.heap.size,15,none⟩=some (.int .i64 m.op.a):=(blk_cell BK.out 15).trans rfl;have hcz_16:wa.cell? ⟨w.heap.size,16,none⟩=some (.int .i64 m.op.b):=(blk_cell BK.out 16).trans rfl;go_wp2_with (first|(go_at_call 63;refine (rightCall_calls _ _ _).mono ?_;rintro e w1 ⟨rfl,hb⟩;have n0_:=Aside0.mk (below_step (by exact HB.out) hb);have n1_:Aside0 (w1.heap[w.heap.size]?=some (.cells (CS1 m A c 0) 33 (0,0))):=⟨blk_keep hb (by exact BK.out)⟩;clear HB BK hb;have HB:=n0_;have BK:=n1_;clear n0_ n1_;have hcz_13:w1.cell? ⟨w.heap.size,13,none⟩=some (.int .i64 m.op.kind):=(blk_cell BK.out 13).trans rfl;have hcz_14:w1.cell? ⟨w.heap.size,14,none⟩=some (.string m.op.name):=(blk_cell BK.out 14).trans rfl;have hcz_15:w1.cell? ⟨w.heap.size,15,none⟩=some (.int .i64 m.op.a):=(blk_cell BK.out 15).trans rfl;have hcz_16:w1.cell? ⟨w.heap.size,16,none⟩=some (.int .i64 m.op.b):=(blk_cell BK.out 16).trans rfl)|(go_at_call 64;refine (rightOp_calls _ _ _ _ _).mono ?_;rintro e w1 ⟨rfl,hb⟩;have n0_:=Aside0.mk (below_step (by exact HB.out) hb);have n1_:Aside0 (w1.heap[w.heap.size]?=some (.cells (CS1 m A c 0) 33 (0,0))):=⟨blk_keep hb (by exact BK.out)⟩;clear HB BK hb;have HB:=n0_;have BK:=n1_;clear n0_ n1_))
   all_goals go_meet
   all_goals exact ⟨_,rfl,⟨by first|rfl|(simp[*];done)|(simp_all;done),by exact HB.out,by exact BK.out⟩⟩
 case rest=>
  obtain ⟨r1,rfl,HH⟩:=hcut;have Hr1:=Aside0.mk HH.out.1;have N0_:=Aside0.mk HH.out.2.1;have N1_:=Aside0.mk HH.out.2.2;clear HB BK HH;have HB:=N0_;have BK:=N1_;clear N0_ N1_;have hcz_11:wc.cell? ⟨w.heap.size,11,none⟩=some (.int .i64 m.call.f0):=(blk_cell BK.out 11).trans rfl;have hcz_12:wc.cell? ⟨w.heap.size,12,none⟩=some (.int .i64 m.call.f1):=(blk_cell BK.out 12).trans rfl;have hcz_13:wc.cell? ⟨w.heap.size,13,none⟩=some (.int .i64 m.op.kind):=(blk_cell BK.out 13).trans rfl;have hcz_14:wc.cell? ⟨w.heap.size,14,none⟩=some (.string m.op.name):=(blk_cell BK.out 14).trans rfl;have hcz_15:wc.cell? ⟨w.heap.size,15,none⟩=some (.int .i64 m.op.a):=(blk_cell BK.out 15).trans rfl;have hcz_16:wc.cell? ⟨w.heap.size,16,none⟩=some (.int .i64 m.op.b):=(blk_cell BK.out 16).trans rfl;have hfz_11:wc.frozen? ⟨w.heap.size,11,none⟩=false:=blk_frozen BK.out 11;have hfz_12:wc.frozen? ⟨w.heap.size,12,none⟩=false:=blk_frozen BK.out 12;have hfz_13:wc.frozen? ⟨w.heap.size,13,none⟩=false:=blk_frozen BK.out 13;have hfz_14:wc.frozen? ⟨w.heap.size,14,none⟩=false:=blk_frozen BK.out 14;have hfz_15:wc.frozen? ⟨w.heap.size,15,none⟩=false:=blk_frozen BK.out 15;have hfz_16:wc.frozen? ⟨w.heap.size,16,none⟩=false:=blk_frozen BK.out 16;go_upto_region 34 with fail
  have hce:(((((((CS1 m A c 0).setIfInBounds 11 (.int .i64 0)).setIfInBounds 12 (.int .i64 0)).setIfInBounds 13 (.int .i64 0)).setIfInBounds 14 (.string ⟨#[]⟩)).setIfInBounds 15 (.int .i64 0)).setIfInBounds 16 (.int .i64 0))=CS1 m A c 1:=by simp[CS1]
  have hbk:=(blk_set (blk_set (blk_set (blk_set (blk_set (blk_set BK.out 11 (.int .i64 0)) 12 (.int .i64 0)) 13 (.int .i64 0)) 14 (.string ⟨#[]⟩)) 15 (.int .i64 0)) 16 (.int .i64 0));rw[hce] at hbk;clear hce;obtain ⟨wz2,hwz⟩:∃ wz:World,Below w.heap.size w wz∧wz.heap[w.heap.size]?=some (.cells (CS1 m A c 1) 33 (0,0))∧wz=((((((wc).setCell ⟨w.heap.size,11,none⟩ (.int .i64 0)).setCell ⟨w.heap.size,12,none⟩ (.int .i64 0)).setCell ⟨w.heap.size,13,none⟩ (.int .i64 0)).setCell ⟨w.heap.size,14,none⟩ (.string ⟨#[]⟩)).setCell ⟨w.heap.size,15,none⟩ (.int .i64 0)).setCell ⟨w.heap.size,16,none⟩ (.int .i64 0):=⟨_,(Below.setCell (Below.setCell (Below.setCell (Below.setCell (Below.setCell (Below.setCell HB.out (Nat.le_refl _) (.int .i64 0)) (Nat.le_refl _) (.int .i64 0)) (Nat.le_refl _) (.int .i64 0)) (Nat.le_refl _) (.string ⟨#[]⟩)) (Nat.le_refl _) (.int .i64 0)) (Nat.le_refl _) (.int .i64 0)),hbk,rfl⟩;clear hbk;rw[←hwz.2.2];have N0_:=Aside0.mk hwz.1;have N1_:=Aside0.mk hwz.2.1;clear hwz HB BK hcz_11 hfz_11 hcz_12 hfz_12 hcz_13 hfz_13 hcz_14 hfz_14 hcz_15 hfz_15 hcz_16 hfz_16;have HB:=N0_;have BK:=N1_;clear N0_ N1_;go_upto_region 34 with fail
  obtain rfl|rfl:r1=true∨r1=false:=by cases r1<;>simp
  ·go_wp2_with (first|((with_reducible refine gate_dst (N:=122) rfl ?_);refine gate_guard (by kernel_rfl) ?_;refine wpList_load_row rfl 33 (.tmp 1) rfl w.heap.size (by rfl) 33 (CS1 m A c 1) (0,0) _ BK.out Try.underlying33 rfl inf33 ?_)|(go_at_call 69;refine (empty_calls _ _ _ _ _ _ _ _ _ _ _ _ _ _ _ _ _ _ _ _ _ m.views _ ((Kd.C_below HR.out (by exact HB.out))) HC.out).mono ?_;rintro e w1 ⟨rfl,hb⟩;have n0_:=Aside0.mk (below_step (by exact HB.out) hb);clear HB hb;have HB:=n0_;clear n0_))
   go_ret
   refine ⟨_,congrArg Ending.returned (show _=Value.bool _ from rfl),?_,HB.out⟩;unfold vp1 emB;rw[←Hr1.out]
   first|(simp[*,toList_nil];done)|(simp_all[toList_nil];done)
  ·go_wp2_with fail
   go_ret
   refine ⟨_,congrArg Ending.returned (show _=Value.bool _ from rfl),?_,HB.out⟩;unfold vp1 emB;rw[←Hr1.out]
   first|(simp[*,toList_nil];done)|(simp_all[toList_nil];done)
noncomputable def vp10 (m:Msg):Bool:=(dcd (listV m.views)) && emB (m.name) (m.cap) (m.recaps) (m.epoch.f0) (m.epoch.f1) (m.over.f0) (m.over.f1) (m.rights.f0) (m.rights.f1) (m.held) (m.call.f0) (m.call.f1) (m.op.kind) (m.op.name) (m.op.a) (m.op.b) (m.err) (m.value) []
def CS10 (m:Msg) (A:Option Addr) (c:Nat):Nat→Array Value
 | 0 => #[.int .i64 10,.string m.name,.int .i64 m.cap,.int .i64 m.recaps,.int .i64 m.epoch.f0,.int .i64 m.epoch.f1,.int .i64 m.over.f0,.int .i64 m.over.f1,.int .i64 m.rights.f0,.int .i64 m.rights.f1,.int .i64 m.held,.int .i64 m.call.f0,.int .i64 m.call.f1,.int .i64 m.op.kind,.string m.op.name,.int .i64 m.op.a,.int .i64 m.op.b,.int .i64 m.err,.int .i64 m.value,.slice A m.views.length c]
 | _ => #[.int .i64 10,.string m.name,.int .i64 m.cap,.int .i64 m.recaps,.int .i64 m.epoch.f0,.int .i64 m.epoch.f1,.int .i64 m.over.f0,.int .i64 m.over.f1,.int .i64 m.rights.f0,.int .i64 m.rights.f1,.int .i64 m.held,.int .i64 m.call.f0,.int .i64 m.call.f1,.int .i64 m.op.kind,.string m.op.name,.int .i64 m.op.a,.int .i64 m.op.b,.int .i64 m.err,.int .i64 m.value,.slice none 0 0]
theorem valid10_calls (m:Msg) (A:Option Addr) (c:Nat) (w:World) (hr:Kd.C k87 w A m.views.length m.views) (hc:m.views.length≤c):
  Calls Try.prog 21 #[.agg #[.int .i64 10,.string m.name,.int .i64 m.cap,.int .i64 m.recaps,.int .i64 m.epoch.f0,.int .i64 m.epoch.f1,.int .i64 m.over.f0,.int .i64 m.over.f1,.int .i64 m.rights.f0,.int .i64 m.rights.f1,.int .i64 m.held,.int .i64 m.call.f0,.int .i64 m.call.f1,.int .i64 m.op.kind,.string m.op.name,.int .i64 m.op.a,.int .i64 m.op.b,.int .i64 m.err,.int .i64 m.value,.slice A m.views.length c]] w fun e w'=>∃ r,e = .returned (.bool r)∧r=vp10 m∧Below w.heap.size w w':=by
 have hu33:=Try.underlying33;have hu23:=Try.underlying23;have hu25:=Try.underlying25;have hu27:=Try.underlying27;have hu29:=Try.underlying29;have HR:=Aside0.mk hr;have HC:=Aside0.mk hc;clear hr hc;obtain ⟨wa,hwa⟩:∃ wa,wa=w.alloc (.cells #[.int .i64 10,.string m.name,.int .i64 m.cap,.int .i64 m.recaps,.int .i64 m.epoch.f0,.int .i64 m.epoch.f1,.int .i64 m.over.f0,.int .i64 m.over.f1,.int .i64 m.rights.f0,.int .i64 m.rights.f1,.int .i64 m.held,.int .i64 m.call.f0,.int .i64 m.call.f1,.int .i64 m.op.kind,.string m.op.name,.int .i64 m.op.a,.int .i64 m.op.b,.int .i64 m.err,.int .i64 m.value,.slice A m.views.length c] 33 (0,0)):=⟨_,rfl⟩;have HWA:=Aside0.mk hwa;have HB:Aside0 (Below w.heap.size w wa):=⟨by rw[hwa];exact (Below.refl _ _).alloc (Nat.le_refl _) _⟩;have BK:Aside0 (wa.heap[w.heap.size]?=some (.cells (CS10 m A c 0) 33 (0,0))):=⟨by rw[hwa];exact heap_alloc_new w _⟩;clear hwa;have hcz_0:wa.cell? ⟨w.heap.size,0,none⟩=some (.int .i64 10):=(blk_cell BK.out 0).trans rfl;go_enter Try.func21,Try.ntmps21
 go_upto_region 1 with fail
 rw[←HWA.out];go_upto_region 13 with fail
 go_cut [3] from 5 (fun v3 wx=>∃ rr:Bool,v3 = .bool rr∧Aside0 (rr=(dcd (listV m.views))∧Below w.heap.size w wx∧wx.heap[w.heap.size]?=some (.cells (CS10 m A c 0) 33 (0,0))))
 case first =>
   have hcz_19:wa.cell? ⟨w.heap.size,19,none⟩=some (.slice A m.views.length c):=(blk_cell BK.out 19).trans rfl;go_wp2_with (first|(go_at_call 62;refine (rightViews_calls _ _ _ _ (Kd.C_below HR.out (by exact HB.out))).mono ?_;rintro e w1 ⟨rfl,hb⟩;have n0_:=Aside0.mk (below_step (by exact HB.out) hb);have n1_:Aside0 (w1.heap[w.heap.size]?=some (.cells (CS10 m A c 0) 33 (0,0))):=⟨blk_keep hb (by exact BK.out)⟩;clear HB BK hb;have HB:=n0_;have BK:=n1_;clear n0_ n1_))
   all_goals go_meet
   all_goals exact ⟨_,rfl,⟨by first|rfl|(simp[*];done)|(simp_all;done),by exact HB.out,by exact BK.out⟩⟩
 case rest=>
  obtain ⟨r1,rfl,HH⟩:=hcut;have Hr1:=Aside0.mk HH.out.1;have N0_:=Aside0.mk HH.out.2.1;have N1_:=Aside0.mk HH.out.2.2;clear HB BK HH;have HB:=N0_;have BK:=N1_;clear N0_ N1_;have hcz_19:wc.cell? ⟨w.heap.size,19,none⟩=some (.slice A m.views.length c):=(blk_cell BK.out 19).trans rfl;have hfz_19:wc.frozen? ⟨w.heap.size,19,none⟩=false:=blk_frozen BK.out 19;go_upto_region 34 with fail
  have hce:((CS10 m A c 0).setIfInBounds 19 (.slice none 0 0))=CS10 m A c 1:=by simp[CS10]
  have hbk:=(blk_set BK.out 19 (.slice none 0 0));rw[hce] at hbk;clear hce;obtain ⟨wz2,hwz⟩:∃ wz:World,Below w.heap.size w wz∧wz.heap[w.heap.size]?=some (.cells (CS10 m A c 1) 33 (0,0))∧wz=(wc).setCell ⟨w.heap.size,19,none⟩ (.slice none 0 0):=⟨_,(Below.setCell HB.out (Nat.le_refl _) (.slice none 0 0)),hbk,rfl⟩;clear hbk;rw[←hwz.2.2];have N0_:=Aside0.mk hwz.1;have N1_:=Aside0.mk hwz.2.1;clear hwz HB BK hcz_19 hfz_19;have HB:=N0_;have BK:=N1_;clear N0_ N1_;go_upto_region 34 with fail
  obtain rfl|rfl:r1=true∨r1=false:=by cases r1<;>simp
  ·go_wp2_with (first|((with_reducible refine gate_dst (N:=122) rfl ?_);refine gate_guard (by kernel_rfl) ?_;refine wpList_load_row rfl 33 (.tmp 1) rfl w.heap.size (by rfl) 33 (CS10 m A c 1) (0,0) _ BK.out Try.underlying33 rfl inf33 ?_)|(go_at_call 69;refine (empty_calls _ _ _ _ _ _ _ _ _ _ _ _ _ _ _ _ _ _ _ _ _ [] _ (Kd.C_nil' _) (Nat.le_refl 0)).mono ?_;rintro e w1 ⟨rfl,hb⟩;have n0_:=Aside0.mk (below_step (by exact HB.out) hb);clear HB hb;have HB:=n0_;clear n0_))
   go_ret
   refine ⟨_,congrArg Ending.returned (show _=Value.bool _ from rfl),?_,HB.out⟩;unfold vp10 emB;rw[←Hr1.out]
   first|(simp[*,toList_nil];done)|(simp_all[toList_nil];done)
  ·go_wp2_with fail
   go_ret
   refine ⟨_,congrArg Ending.returned (show _=Value.bool _ from rfl),?_,HB.out⟩;unfold vp10 emB;rw[←Hr1.out]
   first|(simp[*,toList_nil];done)|(simp_all[toList_nil];done)
noncomputable def vp3 (m:Msg):Bool:=((dcd (epochV ⟨m.epoch.f0,m.epoch.f1⟩) && nB m.name) && bB m.cap 1 1099511627776 && bB m.recaps 0 1099511627776) && emB (⟨#[]⟩) (0) (0) (0) (0) (m.over.f0) (m.over.f1) (m.rights.f0) (m.rights.f1) (m.held) (m.call.f0) (m.call.f1) (m.op.kind) (m.op.name) (m.op.a) (m.op.b) (m.err) (m.value) m.views
def CS3 (m:Msg) (A:Option Addr) (c:Nat):Nat→Array Value
 | 0 => #[.int .i64 3,.string m.name,.int .i64 m.cap,.int .i64 m.recaps,.int .i64 m.epoch.f0,.int .i64 m.epoch.f1,.int .i64 m.over.f0,.int .i64 m.over.f1,.int .i64 m.rights.f0,.int .i64 m.rights.f1,.int .i64 m.held,.int .i64 m.call.f0,.int .i64 m.call.f1,.int .i64 m.op.kind,.string m.op.name,.int .i64 m.op.a,.int .i64 m.op.b,.int .i64 m.err,.int .i64 m.value,.slice A m.views.length c]
 | 1 => #[.int .i64 3,.string ⟨#[]⟩,.int .i64 m.cap,.int .i64 m.recaps,.int .i64 0,.int .i64 0,.int .i64 m.over.f0,.int .i64 m.over.f1,.int .i64 m.rights.f0,.int .i64 m.rights.f1,.int .i64 m.held,.int .i64 m.call.f0,.int .i64 m.call.f1,.int .i64 m.op.kind,.string m.op.name,.int .i64 m.op.a,.int .i64 m.op.b,.int .i64 m.err,.int .i64 m.value,.slice A m.views.length c]
 | _ => #[.int .i64 3,.string ⟨#[]⟩,.int .i64 0,.int .i64 0,.int .i64 0,.int .i64 0,.int .i64 m.over.f0,.int .i64 m.over.f1,.int .i64 m.rights.f0,.int .i64 m.rights.f1,.int .i64 m.held,.int .i64 m.call.f0,.int .i64 m.call.f1,.int .i64 m.op.kind,.string m.op.name,.int .i64 m.op.a,.int .i64 m.op.b,.int .i64 m.err,.int .i64 m.value,.slice A m.views.length c]
theorem valid3_calls (m : Msg) (A : Option Addr) (c : Nat) (w : World) (hr : Kd.C k87 w A m.views.length m.views) (hc : m.views.length ≤ c) :
    Calls Try.prog 21 #[.agg #[.int .i64 3,.string m.name,.int .i64 m.cap,.int .i64 m.recaps,.int .i64 m.epoch.f0,.int .i64 m.epoch.f1,.int .i64 m.over.f0,.int .i64 m.over.f1,.int .i64 m.rights.f0,.int .i64 m.rights.f1,.int .i64 m.held,.int .i64 m.call.f0,.int .i64 m.call.f1,.int .i64 m.op.kind,.string m.op.name,.int .i64 m.op.a,.int .i64 m.op.b,.int .i64 m.err,.int .i64 m.value,.slice A m.views.length c]] w fun e w'=>∃ r,e = .returned (.bool r)∧r=vp3 m∧Below w.heap.size w w':=by
  have hu33:=Try.underlying33;have hu23:=Try.underlying23;have hu25:=Try.underlying25;have hu27:=Try.underlying27;have hu29:=Try.underlying29;have HR:=Aside0.mk hr;have HC:=Aside0.mk hc;clear hr hc;obtain ⟨wa,hwa⟩:∃ wa,wa=w.alloc (.cells #[.int .i64 3,.string m.name,.int .i64 m.cap,.int .i64 m.recaps,.int .i64 m.epoch.f0,.int .i64 m.epoch.f1,.int .i64 m.over.f0,.int .i64 m.over.f1,.int .i64 m.rights.f0,.int .i64 m.rights.f1,.int .i64 m.held,.int .i64 m.call.f0,.int .i64 m.call.f1,.int .i64 m.op.kind,.string m.op.name,.int .i64 m.op.a,.int .i64 m.op.b,.int .i64 m.err,.int .i64 m.value,.slice A m.views.length c] 33 (0,0)):=⟨_,rfl⟩;have HWA:=Aside0.mk hwa;have HB:Aside0 (Below w.heap.size w wa):=⟨by rw[hwa];exact (Below.refl _ _).alloc (Nat.le_refl _) _⟩;have BK:Aside0 (wa.heap[w.heap.size]?=some (.cells (CS3 m A c 0) 33 (0,0))):=⟨by rw[hwa];exact heap_alloc_new w _⟩;clear hwa;have hcz_0:wa.cell? ⟨w.heap.size,0,none⟩=some (.int .i64 3):=(blk_cell BK.out 0).trans rfl;go_enter Try.func21,Try.ntmps21
  go_upto_region 1 with fail
  rw[←HWA.out];go_upto_region 22 with fail
  go_cut [3] from 5 (fun v3 wx=>∃ rr:Bool,v3 = .bool rr∧Aside0 (rr=(dcd (epochV ⟨m.epoch.f0,m.epoch.f1⟩) && nB m.name)∧Below w.heap.size w wx∧wx.heap[w.heap.size]?=some (.cells (CS3 m A c 0) 33 (0,0))))
  case first =>
    have hcz_4:wa.cell? ⟨w.heap.size,4,none⟩=some (.int .i64 m.epoch.f0):=(blk_cell BK.out 4).trans rfl;have hcz_5:wa.cell? ⟨w.heap.size,5,none⟩=some (.int .i64 m.epoch.f1):=(blk_cell BK.out 5).trans rfl;have hcz_1:wa.cell? ⟨w.heap.size,1,none⟩=some (.string m.name):=(blk_cell BK.out 1).trans rfl;go_wp2_with (first|(go_at_call 67;refine (rightEpoch_calls _ _ _).mono ?_;rintro e w1 ⟨rfl,hb⟩;have n0_:=Aside0.mk (below_step (by exact HB.out) hb);have n1_:Aside0 (w1.heap[w.heap.size]?=some (.cells (CS3 m A c 0) 33 (0,0))):=⟨blk_keep hb (by exact BK.out)⟩;clear HB BK hb;have HB:=n0_;have BK:=n1_;clear n0_ n1_;have hcz_1:w1.cell? ⟨w.heap.size,1,none⟩=some (.string m.name):=(blk_cell BK.out 1).trans rfl)|(go_at_call 65;refine (named_calls _ _).mono ?_;rintro e w1 ⟨rfl,hb⟩;have n0_:=Aside0.mk (below_step (by exact HB.out) hb);have n1_:Aside0 (w1.heap[w.heap.size]?=some (.cells (CS3 m A c 0) 33 (0,0))):=⟨blk_keep hb (by exact BK.out)⟩;clear HB BK hb;have HB:=n0_;have BK:=n1_;clear n0_ n1_))
    all_goals go_meet
    all_goals exact ⟨_,rfl,⟨by first|rfl|(simp[*];done)|(simp_all;done),by exact HB.out,by exact BK.out⟩⟩
  case rest=>
   obtain ⟨r1,rfl,HH⟩:=hcut;have Hr1:=Aside0.mk HH.out.1;have N0_:=Aside0.mk HH.out.2.1;have N1_:=Aside0.mk HH.out.2.2;clear HB BK HH;have HB:=N0_;have BK:=N1_;clear N0_ N1_;have hcz_4:wc.cell? ⟨w.heap.size,4,none⟩=some (.int .i64 m.epoch.f0):=(blk_cell BK.out 4).trans rfl;have hcz_5:wc.cell? ⟨w.heap.size,5,none⟩=some (.int .i64 m.epoch.f1):=(blk_cell BK.out 5).trans rfl;have hcz_1:wc.cell? ⟨w.heap.size,1,none⟩=some (.string m.name):=(blk_cell BK.out 1).trans rfl;have hfz_4:wc.frozen? ⟨w.heap.size,4,none⟩=false:=blk_frozen BK.out 4;have hfz_5:wc.frozen? ⟨w.heap.size,5,none⟩=false:=blk_frozen BK.out 5;have hfz_1:wc.frozen? ⟨w.heap.size,1,none⟩=false:=blk_frozen BK.out 1;go_upto_region 31 with fail
   have hce:((((CS3 m A c 0).setIfInBounds 4 (.int .i64 0)).setIfInBounds 5 (.int .i64 0)).setIfInBounds 1 (.string ⟨#[]⟩))=CS3 m A c 1:=by simp[CS3]
   have hbk:=(blk_set (blk_set (blk_set BK.out 4 (.int .i64 0)) 5 (.int .i64 0)) 1 (.string ⟨#[]⟩));rw[hce] at hbk;clear hce;obtain ⟨wz2,hwz⟩:∃ wz:World,Below w.heap.size w wz∧wz.heap[w.heap.size]?=some (.cells (CS3 m A c 1) 33 (0,0))∧wz=(((wc).setCell ⟨w.heap.size,4,none⟩ (.int .i64 0)).setCell ⟨w.heap.size,5,none⟩ (.int .i64 0)).setCell ⟨w.heap.size,1,none⟩ (.string ⟨#[]⟩):=⟨_,(Below.setCell (Below.setCell (Below.setCell HB.out (Nat.le_refl _) (.int .i64 0)) (Nat.le_refl _) (.int .i64 0)) (Nat.le_refl _) (.string ⟨#[]⟩)),hbk,rfl⟩;clear hbk;rw[←hwz.2.2];have N0_:=Aside0.mk hwz.1;have N1_:=Aside0.mk hwz.2.1;clear hwz HB BK hcz_4 hfz_4 hcz_5 hfz_5 hcz_1 hfz_1;have HB:=N0_;have BK:=N1_;clear N0_ N1_;go_upto_region 32 with fail
   go_cut [3] from 5 (fun v3 wx=>∃ rr:Bool,v3 = .bool rr∧Aside0 (rr=(r1 && bB m.cap 1 1099511627776 && bB m.recaps 0 1099511627776)∧Below w.heap.size w wx∧wx.heap[w.heap.size]?=some (.cells (CS3 m A c 1) 33 (0,0))))
   case first =>
     have hcz_2:wz2.cell? ⟨w.heap.size,2,none⟩=some (.int .i64 m.cap):=(blk_cell BK.out 2).trans rfl;have hcz_3:wz2.cell? ⟨w.heap.size,3,none⟩=some (.int .i64 m.recaps):=(blk_cell BK.out 3).trans rfl;go_wp2_with (first|(go_at_call 66;refine (between_calls _ _ _ _).mono ?_;rintro e w1 ⟨rfl,hb⟩;have n0_:=Aside0.mk (below_step (by exact HB.out) hb);have n1_:Aside0 (w1.heap[w.heap.size]?=some (.cells (CS3 m A c 1) 33 (0,0))):=⟨blk_keep hb (by exact BK.out)⟩;clear HB BK hb;have HB:=n0_;have BK:=n1_;clear n0_ n1_;have hcz_3:w1.cell? ⟨w.heap.size,3,none⟩=some (.int .i64 m.recaps):=(blk_cell BK.out 3).trans rfl)|(go_at_call 66;refine (between_calls _ _ _ _).mono ?_;rintro e w1 ⟨rfl,hb⟩;have n0_:=Aside0.mk (below_step (by exact HB.out) hb);have n1_:Aside0 (w1.heap[w.heap.size]?=some (.cells (CS3 m A c 1) 33 (0,0))):=⟨blk_keep hb (by exact BK.out)⟩;clear HB BK hb;have HB:=n0_;have BK:=n1_;clear n0_ n1_))
     all_goals go_meet
     all_goals exact ⟨_,rfl,⟨by first|rfl|(simp[*];done)|(simp_all;done),by exact HB.out,by exact BK.out⟩⟩
   case rest=>
    obtain ⟨r3,rfl,HH⟩:=hcut;have Hr3:=Aside0.mk HH.out.1;have N0_:=Aside0.mk HH.out.2.1;have N1_:=Aside0.mk HH.out.2.2;clear HB BK HH;have HB:=N0_;have BK:=N1_;clear N0_ N1_;have hcz_2:wc.cell? ⟨w.heap.size,2,none⟩=some (.int .i64 m.cap):=(blk_cell BK.out 2).trans rfl;have hcz_3:wc.cell? ⟨w.heap.size,3,none⟩=some (.int .i64 m.recaps):=(blk_cell BK.out 3).trans rfl;have hfz_2:wc.frozen? ⟨w.heap.size,2,none⟩=false:=blk_frozen BK.out 2;have hfz_3:wc.frozen? ⟨w.heap.size,3,none⟩=false:=blk_frozen BK.out 3;go_upto_region 34 with fail
    have hce:(((CS3 m A c 1).setIfInBounds 2 (.int .i64 0)).setIfInBounds 3 (.int .i64 0))=CS3 m A c 2:=by simp[CS3]
    have hbk:=(blk_set (blk_set BK.out 2 (.int .i64 0)) 3 (.int .i64 0));rw[hce] at hbk;clear hce;obtain ⟨wz4,hwz⟩:∃ wz:World,Below w.heap.size w wz∧wz.heap[w.heap.size]?=some (.cells (CS3 m A c 2) 33 (0,0))∧wz=((wc).setCell ⟨w.heap.size,2,none⟩ (.int .i64 0)).setCell ⟨w.heap.size,3,none⟩ (.int .i64 0):=⟨_,(Below.setCell (Below.setCell HB.out (Nat.le_refl _) (.int .i64 0)) (Nat.le_refl _) (.int .i64 0)),hbk,rfl⟩;clear hbk;rw[←hwz.2.2];have N0_:=Aside0.mk hwz.1;have N1_:=Aside0.mk hwz.2.1;clear hwz HB BK hcz_2 hfz_2 hcz_3 hfz_3;have HB:=N0_;have BK:=N1_;clear N0_ N1_;go_upto_region 34 with fail
    obtain rfl|rfl:r3=true∨r3=false:=by cases r3<;>simp
    ·go_wp2_with (first|((with_reducible refine gate_dst (N:=122) rfl ?_);refine gate_guard (by kernel_rfl) ?_;refine wpList_load_row rfl 33 (.tmp 1) rfl w.heap.size (by rfl) 33 (CS3 m A c 2) (0,0) _ BK.out Try.underlying33 rfl inf33 ?_)|(go_at_call 69;refine (empty_calls _ _ _ _ _ _ _ _ _ _ _ _ _ _ _ _ _ _ _ _ _ m.views _ ((Kd.C_below HR.out (by exact HB.out))) HC.out).mono ?_;rintro e w1 ⟨rfl,hb⟩;have n0_:=Aside0.mk (below_step (by exact HB.out) hb);clear HB hb;have HB:=n0_;clear n0_))
     go_ret
     refine ⟨_,congrArg Ending.returned (show _=Value.bool _ from rfl),?_,HB.out⟩;unfold vp3 emB;rw[←Hr1.out];rw[←Hr3.out]
     first|(simp[*,toList_nil];done)|(simp_all[toList_nil];done)
    ·go_wp2_with fail
     go_ret
     refine ⟨_,congrArg Ending.returned (show _=Value.bool _ from rfl),?_,HB.out⟩;unfold vp3 emB;rw[←Hr1.out];rw[←Hr3.out]
     first|(simp[*,toList_nil];done)|(simp_all[toList_nil];done)
noncomputable def vp2 (m:Msg):Bool:=(if dcd (capped m.err)=true then (((dcd (callV ⟨m.call.f0,m.call.f1⟩) && nB m.name && bB m.err 0 255)) && bB m.cap 1 1099511627776 && bB m.recaps 0 1099511627776) && emB (⟨#[]⟩) (0) (0) (m.epoch.f0) (m.epoch.f1) (m.over.f0) (m.over.f1) (m.rights.f0) (m.rights.f1) (m.held) (0) (0) (m.op.kind) (m.op.name) (m.op.a) (m.op.b) (0) (m.value) m.views else (dcd (callV ⟨m.call.f0,m.call.f1⟩) && nB m.name && bB m.err 0 255) && emB (⟨#[]⟩) (m.cap) (m.recaps) (m.epoch.f0) (m.epoch.f1) (m.over.f0) (m.over.f1) (m.rights.f0) (m.rights.f1) (m.held) (0) (0) (m.op.kind) (m.op.name) (m.op.a) (m.op.b) (0) (m.value) m.views)
def CS2 (m:Msg) (A:Option Addr) (c:Nat):Nat→Array Value
 | 0 => #[.int .i64 2,.string m.name,.int .i64 m.cap,.int .i64 m.recaps,.int .i64 m.epoch.f0,.int .i64 m.epoch.f1,.int .i64 m.over.f0,.int .i64 m.over.f1,.int .i64 m.rights.f0,.int .i64 m.rights.f1,.int .i64 m.held,.int .i64 m.call.f0,.int .i64 m.call.f1,.int .i64 m.op.kind,.string m.op.name,.int .i64 m.op.a,.int .i64 m.op.b,.int .i64 m.err,.int .i64 m.value,.slice A m.views.length c]
 | 1 => #[.int .i64 2,.string ⟨#[]⟩,.int .i64 m.cap,.int .i64 m.recaps,.int .i64 m.epoch.f0,.int .i64 m.epoch.f1,.int .i64 m.over.f0,.int .i64 m.over.f1,.int .i64 m.rights.f0,.int .i64 m.rights.f1,.int .i64 m.held,.int .i64 0,.int .i64 0,.int .i64 m.op.kind,.string m.op.name,.int .i64 m.op.a,.int .i64 m.op.b,.int .i64 0,.int .i64 m.value,.slice A m.views.length c]
 | _ => #[.int .i64 2,.string ⟨#[]⟩,.int .i64 0,.int .i64 0,.int .i64 m.epoch.f0,.int .i64 m.epoch.f1,.int .i64 m.over.f0,.int .i64 m.over.f1,.int .i64 m.rights.f0,.int .i64 m.rights.f1,.int .i64 m.held,.int .i64 0,.int .i64 0,.int .i64 m.op.kind,.string m.op.name,.int .i64 m.op.a,.int .i64 m.op.b,.int .i64 0,.int .i64 m.value,.slice A m.views.length c]
theorem valid2_calls (m : Msg) (A : Option Addr) (c : Nat) (w : World) (hr : Kd.C k87 w A m.views.length m.views) (hc : m.views.length ≤ c) :
    Calls Try.prog 21 #[.agg #[.int .i64 2,.string m.name,.int .i64 m.cap,.int .i64 m.recaps,.int .i64 m.epoch.f0,.int .i64 m.epoch.f1,.int .i64 m.over.f0,.int .i64 m.over.f1,.int .i64 m.rights.f0,.int .i64 m.rights.f1,.int .i64 m.held,.int .i64 m.call.f0,.int .i64 m.call.f1,.int .i64 m.op.kind,.string m.op.name,.int .i64 m.op.a,.int .i64 m.op.b,.int .i64 m.err,.int .i64 m.value,.slice A m.views.length c]] w fun e w'=>∃ r,e = .returned (.bool r)∧r=vp2 m∧Below w.heap.size w w':=by
  have hu33:=Try.underlying33;have hu23:=Try.underlying23;have hu25:=Try.underlying25;have hu27:=Try.underlying27;have hu29:=Try.underlying29;have HR:=Aside0.mk hr;have HC:=Aside0.mk hc;clear hr hc;obtain ⟨wa,hwa⟩:∃ wa,wa=w.alloc (.cells #[.int .i64 2,.string m.name,.int .i64 m.cap,.int .i64 m.recaps,.int .i64 m.epoch.f0,.int .i64 m.epoch.f1,.int .i64 m.over.f0,.int .i64 m.over.f1,.int .i64 m.rights.f0,.int .i64 m.rights.f1,.int .i64 m.held,.int .i64 m.call.f0,.int .i64 m.call.f1,.int .i64 m.op.kind,.string m.op.name,.int .i64 m.op.a,.int .i64 m.op.b,.int .i64 m.err,.int .i64 m.value,.slice A m.views.length c] 33 (0,0)):=⟨_,rfl⟩;have HWA:=Aside0.mk hwa;have HB:Aside0 (Below w.heap.size w wa):=⟨by rw[hwa];exact (Below.refl _ _).alloc (Nat.le_refl _) _⟩;have BK:Aside0 (wa.heap[w.heap.size]?=some (.cells (CS2 m A c 0) 33 (0,0))):=⟨by rw[hwa];exact heap_alloc_new w _⟩;clear hwa;have hcz_0:wa.cell? ⟨w.heap.size,0,none⟩=some (.int .i64 2):=(blk_cell BK.out 0).trans rfl;go_enter Try.func21,Try.ntmps21
  go_upto_region 1 with fail
  rw[←HWA.out];go_upto_region 17 with fail
  go_cut [3] from 5 (fun v3 wx=>∃ rr:Bool,v3 = .bool rr∧Aside0 (rr=(dcd (callV ⟨m.call.f0,m.call.f1⟩) && nB m.name && bB m.err 0 255)∧Below w.heap.size w wx∧wx.heap[w.heap.size]?=some (.cells (CS2 m A c 0) 33 (0,0))))
  case first =>
    have hcz_11:wa.cell? ⟨w.heap.size,11,none⟩=some (.int .i64 m.call.f0):=(blk_cell BK.out 11).trans rfl;have hcz_12:wa.cell? ⟨w.heap.size,12,none⟩=some (.int .i64 m.call.f1):=(blk_cell BK.out 12).trans rfl;have hcz_1:wa.cell? ⟨w.heap.size,1,none⟩=some (.string m.name):=(blk_cell BK.out 1).trans rfl;have hcz_17:wa.cell? ⟨w.heap.size,17,none⟩=some (.int .i64 m.err):=(blk_cell BK.out 17).trans rfl;go_wp2_with (first|(go_at_call 63;refine (rightCall_calls _ _ _).mono ?_;rintro e w1 ⟨rfl,hb⟩;have n0_:=Aside0.mk (below_step (by exact HB.out) hb);have n1_:Aside0 (w1.heap[w.heap.size]?=some (.cells (CS2 m A c 0) 33 (0,0))):=⟨blk_keep hb (by exact BK.out)⟩;clear HB BK hb;have HB:=n0_;have BK:=n1_;clear n0_ n1_;have hcz_1:w1.cell? ⟨w.heap.size,1,none⟩=some (.string m.name):=(blk_cell BK.out 1).trans rfl;have hcz_17:w1.cell? ⟨w.heap.size,17,none⟩=some (.int .i64 m.err):=(blk_cell BK.out 17).trans rfl)|(go_at_call 65;refine (named_calls _ _).mono ?_;rintro e w1 ⟨rfl,hb⟩;have n0_:=Aside0.mk (below_step (by exact HB.out) hb);have n1_:Aside0 (w1.heap[w.heap.size]?=some (.cells (CS2 m A c 0) 33 (0,0))):=⟨blk_keep hb (by exact BK.out)⟩;clear HB BK hb;have HB:=n0_;have BK:=n1_;clear n0_ n1_;have hcz_17:w1.cell? ⟨w.heap.size,17,none⟩=some (.int .i64 m.err):=(blk_cell BK.out 17).trans rfl)|(go_at_call 66;refine (between_calls _ _ _ _).mono ?_;rintro e w1 ⟨rfl,hb⟩;have n0_:=Aside0.mk (below_step (by exact HB.out) hb);have n1_:Aside0 (w1.heap[w.heap.size]?=some (.cells (CS2 m A c 0) 33 (0,0))):=⟨blk_keep hb (by exact BK.out)⟩;clear HB BK hb;have HB:=n0_;have BK:=n1_;clear n0_ n1_))
    all_goals go_meet
    all_goals exact ⟨_,rfl,⟨by first|rfl|(simp[*];done)|(simp_all;done),by exact HB.out,by exact BK.out⟩⟩
  case rest=>
   obtain ⟨r1,rfl,HH⟩:=hcut;have Hr1:=Aside0.mk HH.out.1;have N0_:=Aside0.mk HH.out.2.1;have N1_:=Aside0.mk HH.out.2.2;clear HB BK HH;have HB:=N0_;have BK:=N1_;clear N0_ N1_;go_upto_region 18 with fail
   have hcz_17:wc.cell? ⟨w.heap.size,17,none⟩=some (.int .i64 m.err):=(blk_cell BK.out 17).trans rfl;obtain ⟨q,hq⟩:∃ q,q=dcd (capped m.err):=⟨_,rfl⟩;have HQ:=Aside0.mk hq;clear hq;go_upto_region 19 with (go_at_call 58;refine (capped_calls _ _).mono ?_;rintro e w9 ⟨rfl,hb⟩;have n0_:=Aside0.mk (below_step (by exact HB.out) hb);have n1_:Aside0 (w9.heap[w.heap.size]?=some (.cells (CS2 m A c 0) 33 (0,0))):=⟨blk_keep hb (by exact BK.out)⟩;clear HB BK hb;have HB:=n0_;have BK:=n1_;clear n0_ n1_;rw[←HQ.out])
   have hcz_11:w9.cell? ⟨w.heap.size,11,none⟩=some (.int .i64 m.call.f0):=(blk_cell BK.out 11).trans rfl;have hcz_12:w9.cell? ⟨w.heap.size,12,none⟩=some (.int .i64 m.call.f1):=(blk_cell BK.out 12).trans rfl;have hcz_1:w9.cell? ⟨w.heap.size,1,none⟩=some (.string m.name):=(blk_cell BK.out 1).trans rfl;have hcz_17:w9.cell? ⟨w.heap.size,17,none⟩=some (.int .i64 m.err):=(blk_cell BK.out 17).trans rfl;have hfz_11:w9.frozen? ⟨w.heap.size,11,none⟩=false:=blk_frozen BK.out 11;have hfz_12:w9.frozen? ⟨w.heap.size,12,none⟩=false:=blk_frozen BK.out 12;have hfz_1:w9.frozen? ⟨w.heap.size,1,none⟩=false:=blk_frozen BK.out 1;have hfz_17:w9.frozen? ⟨w.heap.size,17,none⟩=false:=blk_frozen BK.out 17;go_upto_region 31 with fail
   have hce:(((((CS2 m A c 0).setIfInBounds 11 (.int .i64 0)).setIfInBounds 12 (.int .i64 0)).setIfInBounds 1 (.string ⟨#[]⟩)).setIfInBounds 17 (.int .i64 0))=CS2 m A c 1:=by simp[CS2]
   have hbk:=(blk_set (blk_set (blk_set (blk_set BK.out 11 (.int .i64 0)) 12 (.int .i64 0)) 1 (.string ⟨#[]⟩)) 17 (.int .i64 0));rw[hce] at hbk;clear hce;obtain ⟨wz2,hwz⟩:∃ wz:World,Below w.heap.size w wz∧wz.heap[w.heap.size]?=some (.cells (CS2 m A c 1) 33 (0,0))∧wz=((((w9).setCell ⟨w.heap.size,11,none⟩ (.int .i64 0)).setCell ⟨w.heap.size,12,none⟩ (.int .i64 0)).setCell ⟨w.heap.size,1,none⟩ (.string ⟨#[]⟩)).setCell ⟨w.heap.size,17,none⟩ (.int .i64 0):=⟨_,(Below.setCell (Below.setCell (Below.setCell (Below.setCell HB.out (Nat.le_refl _) (.int .i64 0)) (Nat.le_refl _) (.int .i64 0)) (Nat.le_refl _) (.string ⟨#[]⟩)) (Nat.le_refl _) (.int .i64 0)),hbk,rfl⟩;clear hbk;rw[←hwz.2.2];have N0_:=Aside0.mk hwz.1;have N1_:=Aside0.mk hwz.2.1;clear hwz HB BK hcz_11 hfz_11 hcz_12 hfz_12 hcz_1 hfz_1 hcz_17 hfz_17;have HB:=N0_;have BK:=N1_;clear N0_ N1_;obtain rfl|rfl:q=true∨q=false:=by cases q<;>simp
   ·go_upto_region 32 with fail
    go_cut [3] from 5 (fun v3 wx=>∃ rr:Bool,v3 = .bool rr∧Aside0 (rr=(r1 && bB m.cap 1 1099511627776 && bB m.recaps 0 1099511627776)∧Below w.heap.size w wx∧wx.heap[w.heap.size]?=some (.cells (CS2 m A c 1) 33 (0,0))))
    case first =>
      have hcz_2:wz2.cell? ⟨w.heap.size,2,none⟩=some (.int .i64 m.cap):=(blk_cell BK.out 2).trans rfl;have hcz_3:wz2.cell? ⟨w.heap.size,3,none⟩=some (.int .i64 m.recaps):=(blk_cell BK.out 3).trans rfl;go_wp2_with (first|(go_at_call 66;refine (between_calls _ _ _ _).mono ?_;rintro e w1 ⟨rfl,hb⟩;have n0_:=Aside0.mk (below_step (by exact HB.out) hb);have n1_:Aside0 (w1.heap[w.heap.size]?=some (.cells (CS2 m A c 1) 33 (0,0))):=⟨blk_keep hb (by exact BK.out)⟩;clear HB BK hb;have HB:=n0_;have BK:=n1_;clear n0_ n1_;have hcz_3:w1.cell? ⟨w.heap.size,3,none⟩=some (.int .i64 m.recaps):=(blk_cell BK.out 3).trans rfl)|(go_at_call 66;refine (between_calls _ _ _ _).mono ?_;rintro e w1 ⟨rfl,hb⟩;have n0_:=Aside0.mk (below_step (by exact HB.out) hb);have n1_:Aside0 (w1.heap[w.heap.size]?=some (.cells (CS2 m A c 1) 33 (0,0))):=⟨blk_keep hb (by exact BK.out)⟩;clear HB BK hb;have HB:=n0_;have BK:=n1_;clear n0_ n1_))
      all_goals go_meet
      all_goals exact ⟨_,rfl,⟨by first|rfl|(simp[*];done)|(simp_all;done),by exact HB.out,by exact BK.out⟩⟩
    case rest=>
     obtain ⟨r3,rfl,HH⟩:=hcut;have Hr3:=Aside0.mk HH.out.1;have N0_:=Aside0.mk HH.out.2.1;have N1_:=Aside0.mk HH.out.2.2;clear HB BK HH;have HB:=N0_;have BK:=N1_;clear N0_ N1_;have hcz_2:wc.cell? ⟨w.heap.size,2,none⟩=some (.int .i64 m.cap):=(blk_cell BK.out 2).trans rfl;have hcz_3:wc.cell? ⟨w.heap.size,3,none⟩=some (.int .i64 m.recaps):=(blk_cell BK.out 3).trans rfl;have hfz_2:wc.frozen? ⟨w.heap.size,2,none⟩=false:=blk_frozen BK.out 2;have hfz_3:wc.frozen? ⟨w.heap.size,3,none⟩=false:=blk_frozen BK.out 3;go_upto_region 34 with fail
     have hce:(((CS2 m A c 1).setIfInBounds 2 (.int .i64 0)).setIfInBounds 3 (.int .i64 0))=CS2 m A c 2:=by simp[CS2]
     have hbk:=(blk_set (blk_set BK.out 2 (.int .i64 0)) 3 (.int .i64 0));rw[hce] at hbk;clear hce;obtain ⟨wz4,hwz⟩:∃ wz:World,Below w.heap.size w wz∧wz.heap[w.heap.size]?=some (.cells (CS2 m A c 2) 33 (0,0))∧wz=((wc).setCell ⟨w.heap.size,2,none⟩ (.int .i64 0)).setCell ⟨w.heap.size,3,none⟩ (.int .i64 0):=⟨_,(Below.setCell (Below.setCell HB.out (Nat.le_refl _) (.int .i64 0)) (Nat.le_refl _) (.int .i64 0)),hbk,rfl⟩;clear hbk;rw[←hwz.2.2];have N0_:=Aside0.mk hwz.1;have N1_:=Aside0.mk hwz.2.1;clear hwz HB BK hcz_2 hfz_2 hcz_3 hfz_3;have HB:=N0_;have BK:=N1_;clear N0_ N1_;go_upto_region 34 with fail
     obtain rfl|rfl:r3=true∨r3=false:=by cases r3<;>simp
     ·go_wp2_with (first|((with_reducible refine gate_dst (N:=122) rfl ?_);refine gate_guard (by kernel_rfl) ?_;refine wpList_load_row rfl 33 (.tmp 1) rfl w.heap.size (by rfl) 33 (CS2 m A c 2) (0,0) _ BK.out Try.underlying33 rfl inf33 ?_)|(go_at_call 69;refine (empty_calls _ _ _ _ _ _ _ _ _ _ _ _ _ _ _ _ _ _ _ _ _ m.views _ ((Kd.C_below HR.out (by exact HB.out))) HC.out).mono ?_;rintro e w1 ⟨rfl,hb⟩;have n0_:=Aside0.mk (below_step (by exact HB.out) hb);clear HB hb;have HB:=n0_;clear n0_))
      go_ret
      refine ⟨_,congrArg Ending.returned (show _=Value.bool _ from rfl),?_,HB.out⟩;unfold vp2 emB;rw[←Hr1.out];rw[←HQ.out];rw[←Hr3.out]
      first|(simp[*,toList_nil];done)|(simp_all[toList_nil];done)
     ·go_wp2_with fail
      go_ret
      refine ⟨_,congrArg Ending.returned (show _=Value.bool _ from rfl),?_,HB.out⟩;unfold vp2 emB;rw[←Hr1.out];rw[←HQ.out];rw[←Hr3.out]
      first|(simp[*,toList_nil];done)|(simp_all[toList_nil];done)
   ·go_upto_region 34 with fail
    obtain rfl|rfl:r1=true∨r1=false:=by cases r1<;>simp
    ·go_wp2_with (first|((with_reducible refine gate_dst (N:=122) rfl ?_);refine gate_guard (by kernel_rfl) ?_;refine wpList_load_row rfl 33 (.tmp 1) rfl w.heap.size (by rfl) 33 (CS2 m A c 1) (0,0) _ BK.out Try.underlying33 rfl inf33 ?_)|(go_at_call 69;refine (empty_calls _ _ _ _ _ _ _ _ _ _ _ _ _ _ _ _ _ _ _ _ _ m.views _ ((Kd.C_below HR.out (by exact HB.out))) HC.out).mono ?_;rintro e w1 ⟨rfl,hb⟩;have n0_:=Aside0.mk (below_step (by exact HB.out) hb);clear HB hb;have HB:=n0_;clear n0_))
     go_ret
     refine ⟨_,congrArg Ending.returned (show _=Value.bool _ from rfl),?_,HB.out⟩;unfold vp2 emB;rw[←Hr1.out];rw[←HQ.out]
     first|(simp[*,toList_nil];done)|(simp_all[toList_nil];done)
    ·go_wp2_with fail
     go_ret
     refine ⟨_,congrArg Ending.returned (show _=Value.bool _ from rfl),?_,HB.out⟩;unfold vp2 emB;rw[←Hr1.out];rw[←HQ.out]
     first|(simp[*,toList_nil];done)|(simp_all[toList_nil];done)
noncomputable def vp7 (m:Msg):Bool:=(((dcd (epochV ⟨m.over.f0,m.over.f1⟩)) && dcd (epochV ⟨m.epoch.f0,m.epoch.f1⟩) && nB m.name) && bB m.cap 1 1099511627776 && bB m.recaps 0 1099511627776) && emB (⟨#[]⟩) (0) (0) (0) (0) (0) (0) (m.rights.f0) (m.rights.f1) (m.held) (m.call.f0) (m.call.f1) (m.op.kind) (m.op.name) (m.op.a) (m.op.b) (m.err) (m.value) m.views
def CS7 (m:Msg) (A:Option Addr) (c:Nat):Nat→Array Value
 | 0 => #[.int .i64 7,.string m.name,.int .i64 m.cap,.int .i64 m.recaps,.int .i64 m.epoch.f0,.int .i64 m.epoch.f1,.int .i64 m.over.f0,.int .i64 m.over.f1,.int .i64 m.rights.f0,.int .i64 m.rights.f1,.int .i64 m.held,.int .i64 m.call.f0,.int .i64 m.call.f1,.int .i64 m.op.kind,.string m.op.name,.int .i64 m.op.a,.int .i64 m.op.b,.int .i64 m.err,.int .i64 m.value,.slice A m.views.length c]
 | 1 => #[.int .i64 7,.string m.name,.int .i64 m.cap,.int .i64 m.recaps,.int .i64 m.epoch.f0,.int .i64 m.epoch.f1,.int .i64 0,.int .i64 0,.int .i64 m.rights.f0,.int .i64 m.rights.f1,.int .i64 m.held,.int .i64 m.call.f0,.int .i64 m.call.f1,.int .i64 m.op.kind,.string m.op.name,.int .i64 m.op.a,.int .i64 m.op.b,.int .i64 m.err,.int .i64 m.value,.slice A m.views.length c]
 | 2 => #[.int .i64 7,.string ⟨#[]⟩,.int .i64 m.cap,.int .i64 m.recaps,.int .i64 0,.int .i64 0,.int .i64 0,.int .i64 0,.int .i64 m.rights.f0,.int .i64 m.rights.f1,.int .i64 m.held,.int .i64 m.call.f0,.int .i64 m.call.f1,.int .i64 m.op.kind,.string m.op.name,.int .i64 m.op.a,.int .i64 m.op.b,.int .i64 m.err,.int .i64 m.value,.slice A m.views.length c]
 | _ => #[.int .i64 7,.string ⟨#[]⟩,.int .i64 0,.int .i64 0,.int .i64 0,.int .i64 0,.int .i64 0,.int .i64 0,.int .i64 m.rights.f0,.int .i64 m.rights.f1,.int .i64 m.held,.int .i64 m.call.f0,.int .i64 m.call.f1,.int .i64 m.op.kind,.string m.op.name,.int .i64 m.op.a,.int .i64 m.op.b,.int .i64 m.err,.int .i64 m.value,.slice A m.views.length c]
theorem valid7_calls (m : Msg) (A : Option Addr) (c : Nat) (w : World) (hr : Kd.C k87 w A m.views.length m.views) (hc : m.views.length ≤ c) :
    Calls Try.prog 21 #[.agg #[.int .i64 7,.string m.name,.int .i64 m.cap,.int .i64 m.recaps,.int .i64 m.epoch.f0,.int .i64 m.epoch.f1,.int .i64 m.over.f0,.int .i64 m.over.f1,.int .i64 m.rights.f0,.int .i64 m.rights.f1,.int .i64 m.held,.int .i64 m.call.f0,.int .i64 m.call.f1,.int .i64 m.op.kind,.string m.op.name,.int .i64 m.op.a,.int .i64 m.op.b,.int .i64 m.err,.int .i64 m.value,.slice A m.views.length c]] w fun e w'=>∃ r,e = .returned (.bool r)∧r=vp7 m∧Below w.heap.size w w':=by
  have hu33:=Try.underlying33;have hu23:=Try.underlying23;have hu25:=Try.underlying25;have hu27:=Try.underlying27;have hu29:=Try.underlying29;have HR:=Aside0.mk hr;have HC:=Aside0.mk hc;clear hr hc;obtain ⟨wa,hwa⟩:∃ wa,wa=w.alloc (.cells #[.int .i64 7,.string m.name,.int .i64 m.cap,.int .i64 m.recaps,.int .i64 m.epoch.f0,.int .i64 m.epoch.f1,.int .i64 m.over.f0,.int .i64 m.over.f1,.int .i64 m.rights.f0,.int .i64 m.rights.f1,.int .i64 m.held,.int .i64 m.call.f0,.int .i64 m.call.f1,.int .i64 m.op.kind,.string m.op.name,.int .i64 m.op.a,.int .i64 m.op.b,.int .i64 m.err,.int .i64 m.value,.slice A m.views.length c] 33 (0,0)):=⟨_,rfl⟩;have HWA:=Aside0.mk hwa;have HB:Aside0 (Below w.heap.size w wa):=⟨by rw[hwa];exact (Below.refl _ _).alloc (Nat.le_refl _) _⟩;have BK:Aside0 (wa.heap[w.heap.size]?=some (.cells (CS7 m A c 0) 33 (0,0))):=⟨by rw[hwa];exact heap_alloc_new w _⟩;clear hwa;have hcz_0:wa.cell? ⟨w.heap.size,0,none⟩=some (.int .i64 7):=(blk_cell BK.out 0).trans rfl;go_enter Try.func21,Try.ntmps21
  go_upto_region 1 with fail
  rw[←HWA.out];go_upto_region 20 with fail
  go_cut [3] from 5 (fun v3 wx=>∃ rr:Bool,v3 = .bool rr∧Aside0 (rr=(dcd (epochV ⟨m.over.f0,m.over.f1⟩))∧Below w.heap.size w wx∧wx.heap[w.heap.size]?=some (.cells (CS7 m A c 0) 33 (0,0))))
  case first =>
    have hcz_6:wa.cell? ⟨w.heap.size,6,none⟩=some (.int .i64 m.over.f0):=(blk_cell BK.out 6).trans rfl;have hcz_7:wa.cell? ⟨w.heap.size,7,none⟩=some (.int .i64 m.over.f1):=(blk_cell BK.out 7).trans rfl;go_wp2_with (first|(go_at_call 67;refine (rightEpoch_calls _ _ _).mono ?_;rintro e w1 ⟨rfl,hb⟩;have n0_:=Aside0.mk (below_step (by exact HB.out) hb);have n1_:Aside0 (w1.heap[w.heap.size]?=some (.cells (CS7 m A c 0) 33 (0,0))):=⟨blk_keep hb (by exact BK.out)⟩;clear HB BK hb;have HB:=n0_;have BK:=n1_;clear n0_ n1_))
    all_goals go_meet
    all_goals exact ⟨_,rfl,⟨by first|rfl|(simp[*];done)|(simp_all;done),by exact HB.out,by exact BK.out⟩⟩
  case rest=>
   obtain ⟨r1,rfl,HH⟩:=hcut;have Hr1:=Aside0.mk HH.out.1;have N0_:=Aside0.mk HH.out.2.1;have N1_:=Aside0.mk HH.out.2.2;clear HB BK HH;have HB:=N0_;have BK:=N1_;clear N0_ N1_;have hcz_6:wc.cell? ⟨w.heap.size,6,none⟩=some (.int .i64 m.over.f0):=(blk_cell BK.out 6).trans rfl;have hcz_7:wc.cell? ⟨w.heap.size,7,none⟩=some (.int .i64 m.over.f1):=(blk_cell BK.out 7).trans rfl;have hfz_6:wc.frozen? ⟨w.heap.size,6,none⟩=false:=blk_frozen BK.out 6;have hfz_7:wc.frozen? ⟨w.heap.size,7,none⟩=false:=blk_frozen BK.out 7;go_upto_region 22 with fail
   have hce:(((CS7 m A c 0).setIfInBounds 6 (.int .i64 0)).setIfInBounds 7 (.int .i64 0))=CS7 m A c 1:=by simp[CS7]
   have hbk:=(blk_set (blk_set BK.out 6 (.int .i64 0)) 7 (.int .i64 0));rw[hce] at hbk;clear hce;obtain ⟨wz2,hwz⟩:∃ wz:World,Below w.heap.size w wz∧wz.heap[w.heap.size]?=some (.cells (CS7 m A c 1) 33 (0,0))∧wz=((wc).setCell ⟨w.heap.size,6,none⟩ (.int .i64 0)).setCell ⟨w.heap.size,7,none⟩ (.int .i64 0):=⟨_,(Below.setCell (Below.setCell HB.out (Nat.le_refl _) (.int .i64 0)) (Nat.le_refl _) (.int .i64 0)),hbk,rfl⟩;clear hbk;rw[←hwz.2.2];have N0_:=Aside0.mk hwz.1;have N1_:=Aside0.mk hwz.2.1;clear hwz HB BK hcz_6 hfz_6 hcz_7 hfz_7;have HB:=N0_;have BK:=N1_;clear N0_ N1_;go_upto_region 22 with fail
   go_cut [3] from 5 (fun v3 wx=>∃ rr:Bool,v3 = .bool rr∧Aside0 (rr=(r1 && dcd (epochV ⟨m.epoch.f0,m.epoch.f1⟩) && nB m.name)∧Below w.heap.size w wx∧wx.heap[w.heap.size]?=some (.cells (CS7 m A c 1) 33 (0,0))))
   case first =>
     have hcz_4:wz2.cell? ⟨w.heap.size,4,none⟩=some (.int .i64 m.epoch.f0):=(blk_cell BK.out 4).trans rfl;have hcz_5:wz2.cell? ⟨w.heap.size,5,none⟩=some (.int .i64 m.epoch.f1):=(blk_cell BK.out 5).trans rfl;have hcz_1:wz2.cell? ⟨w.heap.size,1,none⟩=some (.string m.name):=(blk_cell BK.out 1).trans rfl;go_wp2_with (first|(go_at_call 67;refine (rightEpoch_calls _ _ _).mono ?_;rintro e w1 ⟨rfl,hb⟩;have n0_:=Aside0.mk (below_step (by exact HB.out) hb);have n1_:Aside0 (w1.heap[w.heap.size]?=some (.cells (CS7 m A c 1) 33 (0,0))):=⟨blk_keep hb (by exact BK.out)⟩;clear HB BK hb;have HB:=n0_;have BK:=n1_;clear n0_ n1_;have hcz_1:w1.cell? ⟨w.heap.size,1,none⟩=some (.string m.name):=(blk_cell BK.out 1).trans rfl)|(go_at_call 65;refine (named_calls _ _).mono ?_;rintro e w1 ⟨rfl,hb⟩;have n0_:=Aside0.mk (below_step (by exact HB.out) hb);have n1_:Aside0 (w1.heap[w.heap.size]?=some (.cells (CS7 m A c 1) 33 (0,0))):=⟨blk_keep hb (by exact BK.out)⟩;clear HB BK hb;have HB:=n0_;have BK:=n1_;clear n0_ n1_))
     all_goals go_meet
     all_goals exact ⟨_,rfl,⟨by first|rfl|(simp[*];done)|(simp_all;done),by exact HB.out,by exact BK.out⟩⟩
   case rest=>
    obtain ⟨r3,rfl,HH⟩:=hcut;have Hr3:=Aside0.mk HH.out.1;have N0_:=Aside0.mk HH.out.2.1;have N1_:=Aside0.mk HH.out.2.2;clear HB BK HH;have HB:=N0_;have BK:=N1_;clear N0_ N1_;have hcz_4:wc.cell? ⟨w.heap.size,4,none⟩=some (.int .i64 m.epoch.f0):=(blk_cell BK.out 4).trans rfl;have hcz_5:wc.cell? ⟨w.heap.size,5,none⟩=some (.int .i64 m.epoch.f1):=(blk_cell BK.out 5).trans rfl;have hcz_1:wc.cell? ⟨w.heap.size,1,none⟩=some (.string m.name):=(blk_cell BK.out 1).trans rfl;have hfz_4:wc.frozen? ⟨w.heap.size,4,none⟩=false:=blk_frozen BK.out 4;have hfz_5:wc.frozen? ⟨w.heap.size,5,none⟩=false:=blk_frozen BK.out 5;have hfz_1:wc.frozen? ⟨w.heap.size,1,none⟩=false:=blk_frozen BK.out 1;go_upto_region 31 with fail
    have hce:((((CS7 m A c 1).setIfInBounds 4 (.int .i64 0)).setIfInBounds 5 (.int .i64 0)).setIfInBounds 1 (.string ⟨#[]⟩))=CS7 m A c 2:=by simp[CS7]
    have hbk:=(blk_set (blk_set (blk_set BK.out 4 (.int .i64 0)) 5 (.int .i64 0)) 1 (.string ⟨#[]⟩));rw[hce] at hbk;clear hce;obtain ⟨wz4,hwz⟩:∃ wz:World,Below w.heap.size w wz∧wz.heap[w.heap.size]?=some (.cells (CS7 m A c 2) 33 (0,0))∧wz=(((wc).setCell ⟨w.heap.size,4,none⟩ (.int .i64 0)).setCell ⟨w.heap.size,5,none⟩ (.int .i64 0)).setCell ⟨w.heap.size,1,none⟩ (.string ⟨#[]⟩):=⟨_,(Below.setCell (Below.setCell (Below.setCell HB.out (Nat.le_refl _) (.int .i64 0)) (Nat.le_refl _) (.int .i64 0)) (Nat.le_refl _) (.string ⟨#[]⟩)),hbk,rfl⟩;clear hbk;rw[←hwz.2.2];have N0_:=Aside0.mk hwz.1;have N1_:=Aside0.mk hwz.2.1;clear hwz HB BK hcz_4 hfz_4 hcz_5 hfz_5 hcz_1 hfz_1;have HB:=N0_;have BK:=N1_;clear N0_ N1_;go_upto_region 32 with fail
    go_cut [3] from 5 (fun v3 wx=>∃ rr:Bool,v3 = .bool rr∧Aside0 (rr=(r3 && bB m.cap 1 1099511627776 && bB m.recaps 0 1099511627776)∧Below w.heap.size w wx∧wx.heap[w.heap.size]?=some (.cells (CS7 m A c 2) 33 (0,0))))
    case first =>
      have hcz_2:wz4.cell? ⟨w.heap.size,2,none⟩=some (.int .i64 m.cap):=(blk_cell BK.out 2).trans rfl;have hcz_3:wz4.cell? ⟨w.heap.size,3,none⟩=some (.int .i64 m.recaps):=(blk_cell BK.out 3).trans rfl;go_wp2_with (first|(go_at_call 66;refine (between_calls _ _ _ _).mono ?_;rintro e w1 ⟨rfl,hb⟩;have n0_:=Aside0.mk (below_step (by exact HB.out) hb);have n1_:Aside0 (w1.heap[w.heap.size]?=some (.cells (CS7 m A c 2) 33 (0,0))):=⟨blk_keep hb (by exact BK.out)⟩;clear HB BK hb;have HB:=n0_;have BK:=n1_;clear n0_ n1_;have hcz_3:w1.cell? ⟨w.heap.size,3,none⟩=some (.int .i64 m.recaps):=(blk_cell BK.out 3).trans rfl)|(go_at_call 66;refine (between_calls _ _ _ _).mono ?_;rintro e w1 ⟨rfl,hb⟩;have n0_:=Aside0.mk (below_step (by exact HB.out) hb);have n1_:Aside0 (w1.heap[w.heap.size]?=some (.cells (CS7 m A c 2) 33 (0,0))):=⟨blk_keep hb (by exact BK.out)⟩;clear HB BK hb;have HB:=n0_;have BK:=n1_;clear n0_ n1_))
      all_goals go_meet
      all_goals exact ⟨_,rfl,⟨by first|rfl|(simp[*];done)|(simp_all;done),by exact HB.out,by exact BK.out⟩⟩
    case rest=>
     obtain ⟨r5,rfl,HH⟩:=hcut;have Hr5:=Aside0.mk HH.out.1;have N0_:=Aside0.mk HH.out.2.1;have N1_:=Aside0.mk HH.out.2.2;clear HB BK HH;have HB:=N0_;have BK:=N1_;clear N0_ N1_;have hcz_2:wc.cell? ⟨w.heap.size,2,none⟩=some (.int .i64 m.cap):=(blk_cell BK.out 2).trans rfl;have hcz_3:wc.cell? ⟨w.heap.size,3,none⟩=some (.int .i64 m.recaps):=(blk_cell BK.out 3).trans rfl;have hfz_2:wc.frozen? ⟨w.heap.size,2,none⟩=false:=blk_frozen BK.out 2;have hfz_3:wc.frozen? ⟨w.heap.size,3,none⟩=false:=blk_frozen BK.out 3;go_upto_region 34 with fail
     have hce:(((CS7 m A c 2).setIfInBounds 2 (.int .i64 0)).setIfInBounds 3 (.int .i64 0))=CS7 m A c 3:=by simp[CS7]
     have hbk:=(blk_set (blk_set BK.out 2 (.int .i64 0)) 3 (.int .i64 0));rw[hce] at hbk;clear hce;obtain ⟨wz6,hwz⟩:∃ wz:World,Below w.heap.size w wz∧wz.heap[w.heap.size]?=some (.cells (CS7 m A c 3) 33 (0,0))∧wz=((wc).setCell ⟨w.heap.size,2,none⟩ (.int .i64 0)).setCell ⟨w.heap.size,3,none⟩ (.int .i64 0):=⟨_,(Below.setCell (Below.setCell HB.out (Nat.le_refl _) (.int .i64 0)) (Nat.le_refl _) (.int .i64 0)),hbk,rfl⟩;clear hbk;rw[←hwz.2.2];have N0_:=Aside0.mk hwz.1;have N1_:=Aside0.mk hwz.2.1;clear hwz HB BK hcz_2 hfz_2 hcz_3 hfz_3;have HB:=N0_;have BK:=N1_;clear N0_ N1_;go_upto_region 34 with fail
     obtain rfl|rfl:r5=true∨r5=false:=by cases r5<;>simp
     ·go_wp2_with (first|((with_reducible refine gate_dst (N:=122) rfl ?_);refine gate_guard (by kernel_rfl) ?_;refine wpList_load_row rfl 33 (.tmp 1) rfl w.heap.size (by rfl) 33 (CS7 m A c 3) (0,0) _ BK.out Try.underlying33 rfl inf33 ?_)|(go_at_call 69;refine (empty_calls _ _ _ _ _ _ _ _ _ _ _ _ _ _ _ _ _ _ _ _ _ m.views _ ((Kd.C_below HR.out (by exact HB.out))) HC.out).mono ?_;rintro e w1 ⟨rfl,hb⟩;have n0_:=Aside0.mk (below_step (by exact HB.out) hb);clear HB hb;have HB:=n0_;clear n0_))
      go_ret
      refine ⟨_,congrArg Ending.returned (show _=Value.bool _ from rfl),?_,HB.out⟩;unfold vp7 emB;rw[←Hr1.out];rw[←Hr3.out];rw[←Hr5.out]
      first|(simp[*,toList_nil];done)|(simp_all[toList_nil];done)
     ·go_wp2_with fail
      go_ret
      refine ⟨_,congrArg Ending.returned (show _=Value.bool _ from rfl),?_,HB.out⟩;unfold vp7 emB;rw[←Hr1.out];rw[←Hr3.out];rw[←Hr5.out]
      first|(simp[*,toList_nil];done)|(simp_all[toList_nil];done)
end Go.Proofs.Ytpgdmmjbhjbbhaa.Vd
end
