/- texts that the proof needs, laid together by a program of this session. -/
import Derived.Test.YtpgdmmjbhjbbhaaKWireKept13
set_option maxRecDepth 100000
set_option maxHeartbeats 16000000
set_option linter.unusedVariables false
set_option linter.unusedSimpArgs false
section
namespace Go.Proofs.Ytpgdmmjbhjbbhaa.Rf
open Go Go.RowKit P Sp Vd En Wr Rd Lw YtpgdmmjbhjbbhaaW.PrintWords YtpgdmmjbhjbbhaaW.PrintLast YtpgdmmjbhjbbhaaW.PrintMore
attribute [local go_sem] Go.Proofs.Ytpgdmmjbhjbbhaa.StrLe.leq_str Go.Proofs.Ytpgdmmjbhjbbhaa.StrLe.gtr_str
theorem viewW_bool (x:S87):viewW x ↔ kB x.f0 x.f1 x.f2=true∧bB x.f3 0 1099511627776=true∧dcd (rightsV ⟨x.f4.f0,x.f4.f1⟩)=true∧bB x.f5 0 1099511627776=true:=by
 unfold kB nB bB;simp only[Bool.and_eq_true,dcd_iff];exact ⟨fun h=>⟨⟨h.1,h.2.1.1,h.2.1.2⟩,h.2.2.1,h.2.2.2.1,h.2.2.2.2⟩,fun h=>⟨h.1.1,⟨h.1.2.1,h.1.2.2⟩,h.2.1,h.2.2.1,h.2.2.2⟩⟩
theorem view_calls (x:S87) (w:World):
  Calls Try.prog 94 #[.agg #[.string x.f0,.int .i64 x.f1,.int .i64 x.f2,.int .i64 x.f3,.int .i64 x.f4.f0,.int .i64 x.f4.f1,.int .i64 x.f5]] w fun e w'=>e = .returned (.bool (dcd (viewW x)))∧Below w.heap.size w w':=by
 have hu87:=Try.underlying87;have hu25:=Try.underlying25;obtain ⟨wa,hwa⟩:∃ wa,wa=w.alloc (.cells #[.string x.f0,.int .i64 x.f1,.int .i64 x.f2,.int .i64 x.f3,.int .i64 x.f4.f0,.int .i64 x.f4.f1,.int .i64 x.f5] 87 (0,0)):=⟨_,rfl⟩;have HWA:=Aside0.mk hwa;have BK:Aside0 (wa.heap[w.heap.size]?=some (.cells #[.string x.f0,.int .i64 x.f1,.int .i64 x.f2,.int .i64 x.f3,.int .i64 x.f4.f0,.int .i64 x.f4.f1,.int .i64 x.f5] 87 (0,0))):=⟨by rw[hwa];exact heap_alloc_new w _⟩;have HB:Aside0 (Below w.heap.size w wa):=⟨by rw[hwa];exact al_below w _⟩;clear hwa;go_enter Try.func94,Try.ntmps94
 go_upto_region 1 with fail
 rw[←HWA.out];have hz0:wa.cell? ⟨w.heap.size,0,none⟩=some (.string x.f0):=(blk_cell BK.out 0).trans rfl;have hz1:wa.cell? ⟨w.heap.size,1,none⟩=some (.int .i64 x.f1):=(blk_cell BK.out 1).trans rfl;have hz2:wa.cell? ⟨w.heap.size,2,none⟩=some (.int .i64 x.f2):=(blk_cell BK.out 2).trans rfl;have hz3:wa.cell? ⟨w.heap.size,3,none⟩=some (.int .i64 x.f3):=(blk_cell BK.out 3).trans rfl;have hz4:wa.cell? ⟨w.heap.size,4,none⟩=some (.int .i64 x.f4.f0):=(blk_cell BK.out 4).trans rfl;have hz5:wa.cell? ⟨w.heap.size,5,none⟩=some (.int .i64 x.f4.f1):=(blk_cell BK.out 5).trans rfl;have hz6:wa.cell? ⟨w.heap.size,6,none⟩=some (.int .i64 x.f5):=(blk_cell BK.out 6).trans rfl;go_wp2_with (first|(go_at_call 50;refine (known_calls _ _ _ _).mono ?_;rintro e w1 ⟨rfl,hb⟩;have n0_:=Aside0.mk (below_step HB.out hb);have n1_:=Aside0.mk (blk_keep hb BK.out);clear HB BK hb hz0 hz1 hz2 hz3 hz4 hz5 hz6;have HB:=n0_;have BK:=n1_;clear n0_ n1_;have hz0:w1.cell? ⟨w.heap.size,0,none⟩=some (.string x.f0):=(blk_cell BK.out 0).trans rfl;have hz1:w1.cell? ⟨w.heap.size,1,none⟩=some (.int .i64 x.f1):=(blk_cell BK.out 1).trans rfl;have hz2:w1.cell? ⟨w.heap.size,2,none⟩=some (.int .i64 x.f2):=(blk_cell BK.out 2).trans rfl;have hz3:w1.cell? ⟨w.heap.size,3,none⟩=some (.int .i64 x.f3):=(blk_cell BK.out 3).trans rfl;have hz4:w1.cell? ⟨w.heap.size,4,none⟩=some (.int .i64 x.f4.f0):=(blk_cell BK.out 4).trans rfl;have hz5:w1.cell? ⟨w.heap.size,5,none⟩=some (.int .i64 x.f4.f1):=(blk_cell BK.out 5).trans rfl;have hz6:w1.cell? ⟨w.heap.size,6,none⟩=some (.int .i64 x.f5):=(blk_cell BK.out 6).trans rfl)|(go_at_call 43;refine (within_calls _ _ _ _).mono ?_;rintro e w1 ⟨rfl,hb⟩;have n0_:=Aside0.mk (below_step HB.out hb);have n1_:=Aside0.mk (blk_keep hb BK.out);clear HB BK hb hz0 hz1 hz2 hz3 hz4 hz5 hz6;have HB:=n0_;have BK:=n1_;clear n0_ n1_;have hz0:w1.cell? ⟨w.heap.size,0,none⟩=some (.string x.f0):=(blk_cell BK.out 0).trans rfl;have hz1:w1.cell? ⟨w.heap.size,1,none⟩=some (.int .i64 x.f1):=(blk_cell BK.out 1).trans rfl;have hz2:w1.cell? ⟨w.heap.size,2,none⟩=some (.int .i64 x.f2):=(blk_cell BK.out 2).trans rfl;have hz3:w1.cell? ⟨w.heap.size,3,none⟩=some (.int .i64 x.f3):=(blk_cell BK.out 3).trans rfl;have hz4:w1.cell? ⟨w.heap.size,4,none⟩=some (.int .i64 x.f4.f0):=(blk_cell BK.out 4).trans rfl;have hz5:w1.cell? ⟨w.heap.size,5,none⟩=some (.int .i64 x.f4.f1):=(blk_cell BK.out 5).trans rfl;have hz6:w1.cell? ⟨w.heap.size,6,none⟩=some (.int .i64 x.f5):=(blk_cell BK.out 6).trans rfl)|(go_at_call 51;refine (rrights_calls _ _ _).mono ?_;rintro e w1 ⟨rfl,hb⟩;have n0_:=Aside0.mk (below_step HB.out hb);have n1_:=Aside0.mk (blk_keep hb BK.out);clear HB BK hb hz0 hz1 hz2 hz3 hz4 hz5 hz6;have HB:=n0_;have BK:=n1_;clear n0_ n1_;have hz0:w1.cell? ⟨w.heap.size,0,none⟩=some (.string x.f0):=(blk_cell BK.out 0).trans rfl;have hz1:w1.cell? ⟨w.heap.size,1,none⟩=some (.int .i64 x.f1):=(blk_cell BK.out 1).trans rfl;have hz2:w1.cell? ⟨w.heap.size,2,none⟩=some (.int .i64 x.f2):=(blk_cell BK.out 2).trans rfl;have hz3:w1.cell? ⟨w.heap.size,3,none⟩=some (.int .i64 x.f3):=(blk_cell BK.out 3).trans rfl;have hz4:w1.cell? ⟨w.heap.size,4,none⟩=some (.int .i64 x.f4.f0):=(blk_cell BK.out 4).trans rfl;have hz5:w1.cell? ⟨w.heap.size,5,none⟩=some (.int .i64 x.f4.f1):=(blk_cell BK.out 5).trans rfl;have hz6:w1.cell? ⟨w.heap.size,6,none⟩=some (.int .i64 x.f5):=(blk_cell BK.out 6).trans rfl))
 all_goals go_ret
 all_goals refine ⟨congrArg (fun b=>Ending.returned (Value.bool b)) (bool_dcd ?_),HB.out⟩
 all_goals rw[viewW_bool]
 all_goals first|(simp[*];done)|(simp_all;done)
theorem view_yes (x:S87) (h:viewW x) (w:World):Calls Try.prog 94 #[.agg #[.string x.f0,.int .i64 x.f1,.int .i64 x.f2,.int .i64 x.f3,.int .i64 x.f4.f0,.int .i64 x.f4.f1,.int .i64 x.f5]] w fun e w'=>e = .returned (.bool true)∧Below w.heap.size w w':=
 (view_calls x w).mono fun e w' h1=>by rw[dcd_pos h] at h1;exact h1
theorem view_no (x:S87) (h:¬viewW x) (w:World):Calls Try.prog 94 #[.agg #[.string x.f0,.int .i64 x.f1,.int .i64 x.f2,.int .i64 x.f3,.int .i64 x.f4.f0,.int .i64 x.f4.f1,.int .i64 x.f5]] w fun e w'=>e = .returned (.bool false)∧Below w.heap.size w w':=
 (view_calls x w).mono fun e w' h1=>by rw[dcd_neg h] at h1;exact h1
def ahead (l:List S87) (i:Nat):ByteArray:=if i=0 then eB else (rd_T87 l ((i:Int) - 1)).f0
theorem ahead_succ (l:List S87) (i:Nat):ahead l (i+1)=(rd_T87 l (i:Int)).f0:=by
 unfold ahead;rw[if_neg (by omega)]
 congr 2
 omega
theorem views_calls (A : Option Addr) (c : Nat) (l : List S87) (w : World) (hr : Kd.C k87 w A l.length l) (hc : l.length ≤ c) :
    Calls Try.prog 48 #[.slice A l.length c] w fun e w'=>e = .returned (.bool (dcd (listV l)))∧Below w.heap.size w w':=by
  have hl:l.length≤9223372036854775807:=by have:=hr.2.1;omega
  have HR:=Aside0.mk hr;clear hr hc;have hu87:=Try.underlying87;have hu25:=Try.underlying25;have hlI:(l.length:Int)≤9223372036854775807:=by omega
  by_cases h64:64<l.length
  ·have h64i:(64:Int)<(l.length:Int):=by omega
   go_enter Try.func48,Try.ntmps48
   go_wp2_with fail
   go_ret
   exact ⟨by rw[dcd_neg (fun h=>by have:=h.1;omega)];rfl,Below.refl _ _⟩
  have h64i:(l.length:Int)≤64:=by omega
  have H64:=Aside0.mk h64;clear h64;go_enter Try.func48,Try.ntmps48
  go_wp2_with fail
  go_loopw [3] (fun v3 wr=>∃ (i:Nat),v3 = .int .i64 (i:Int)∧Aside0 (i≤l.length∧(viewsV eB l ↔ viewsV (ahead l i) (l.drop i))∧Below w.heap.size w wr)) (fun v3 _=>l.length - (intOf v3).toNat)
  case atStart=>exact ⟨0,rfl,⟨Nat.zero_le _,by rw[List.drop_zero];exact Iff.rfl,Below.refl _ _⟩⟩
  case round=>
   obtain ⟨i,rfl,HQ⟩:=hrel;by_cases hlt:i<l.length
   ·have hi0:(0:Int)≤(i:Int):=by omega
    have hi1:(i:Int)<(l.length:Int):=by omega
    have HLT:=Aside0.mk hlt;obtain ⟨ad,rfl,_⟩:=at_T87 (Kd.C_below HR.out HQ.out.2.2) (i:Int) hi0 hi1;have HV:Aside0 (viewsV eB l ↔ viewV (ahead l i) (rd_T87 l i)∧viewsV (ahead l (i+1)) (l.drop (i+1))):=⟨by rw[ahead_succ];exact HQ.out.2.1.trans (viewsV_drop l i _ hlt)⟩;obtain ⟨x,hx⟩:∃ x,rd_T87 l (i:Int)=x:=⟨_,rfl⟩;have HX:=Aside0.mk hx;rw[hx] at HV;clear hx hlt;by_cases hw:viewW x
    ·have HW:=Aside0.mk hw;clear hw;by_cases hz:i=0
     ·have hz1:¬((0:Int)<(i:Int)):=by omega
      have HZ:=Aside0.mk hz;clear hz;go_upto_region 6 with fail
      refine start_ (n:=24) (S:=fun w'=>Below w.heap.size w w') (ds:=[]) #[false,false,false,false,false,false,false,false,false,false,false,false,false,false,false,false,false,false,false,false,false,false,false,false] (by kernel_rfl) rfl rfl (below_drew1 HQ.out.2.2) (fun hHeld=>?_);refine pure_ (i:=0) (N:=some 13) (v:=?_) (a':=?_) #[true,false,false,false,false,false,false,false,false,false,false,false,false,false,false,false,false,false,false,false,false,false,false,false] rfl rfl (by kernel_rfl) (fun _ _ _ h=>h) (Or.inl ⟨by rfl,?_⟩) ?_ ?_
      rotate_left
      ·intro w';go_simp
       with_reducible rfl
      rotate_left
      ·simp only[Act.put,List.setIfInBounds_toArray,List.set_cons_zero,List.set_cons_succ,i64_w,i32_w];rfl
      refine pure_ (i:=1) (N:=some 14) (v:=?_) (a':=?_) #[true,true,false,false,false,false,false,false,false,false,false,false,false,false,false,false,false,false,false,false,false,false,false,false] rfl rfl (by kernel_rfl) (fun _ _ _ h=>h) (Or.inl ⟨by rfl,?_⟩) ?_ ?_
      rotate_left
      ·intro w';go_simp
       with_reducible rfl
      rotate_left
      ·simp only[Act.put,List.setIfInBounds_toArray,List.set_cons_zero,List.set_cons_succ,i64_w,i32_w];rfl
      refine pure_ (i:=2) (N:=some 15) (v:=?_) (a':=?_) #[true,true,true,false,false,false,false,false,false,false,false,false,false,false,false,false,false,false,false,false,false,false,false,false] rfl rfl (by kernel_rfl) (fun _ _ _ h=>h) (Or.inl ⟨by rfl,?_⟩) ?_ ?_
      rotate_left
      ·intro w';go_simp
       with_reducible rfl
      rotate_left
      ·simp only[Act.put,List.setIfInBounds_toArray,List.set_cons_zero,List.set_cons_succ,i64_w,i32_w];rfl
      refine take_ (i:=3) (N:=some 16) (v := .agg #[.string x.f0,.int .i64 x.f1,.int .i64 x.f2,.int .i64 x.f3,.int .i64 x.f4.f0,.int .i64 x.f4.f1,.int .i64 x.f5]) (a':=?_) #[true,true,true,true,false,false,false,false,false,false,false,false,false,false,false,false,false,false,false,false,false,false,false,false] rfl rfl (by kernel_rfl) (fun _ _ _ h=>h) (Or.inl ⟨by rfl,?_⟩) hHeld ?_ ?_
      ·intro w' hS;obtain ⟨ad',had,c0,c1,c2,c3,c4,c5,c6⟩:=at_T87 (Kd.C_below HR.out hS) (i:Int) hi0 hi1;obtain rfl:=Option.some.inj had;rw[HX.out] at c0 c1 c2 c3 c4 c5 c6;simp only[Int.toNat_natCast] at c0 c1 c2 c3 c4 c5 c6;go_simp
      rotate_left
      ·simp only[Act.put,List.setIfInBounds_toArray,List.set_cons_zero,List.set_cons_succ,i64_w,i32_w];rfl
      refine one_ (i:=4) (N:=some 17) #[true,true,true,true,true,false,false,false,false,false,false,false,false,false,false,false,false,false,false,false,false,false,false,false] rfl rfl (by kernel_rfl) (by decide) (fun K hK=>?_);refine goes_ Try.func94 (by kernel_rfl) rfl #[.agg #[.string x.f0,.int .i64 x.f1,.int .i64 x.f2,.int .i64 x.f3,.int .i64 x.f4.f0,.int .i64 x.f4.f1,.int .i64 x.f5]] (by rfl) rfl rfl (by (try simp only[List.map_toArray,List.map_cons,List.map_nil]);first|done|rfl) ?_;refine (view_yes x HW.out _).mono ?_;rintro e w1 ⟨rfl,hb⟩;refine ⟨_,rfl,?_⟩;refine hK.out _ _ (below_step hHeld hb) (fun hHeld=>?_);clear hK K;refine norm_ (a':=?_) ?_ ?_
      rotate_left
      ·show Act.put _ (some 17) _=_
       simp only[Act.put,List.setIfInBounds_toArray,List.set_cons_zero,List.set_cons_succ,i64_w,i32_w];rfl
      refine pure_ (i:=5) (N:=some 18) (v:=?_) (a':=?_) #[true,true,true,true,true,true,false,false,false,false,false,false,false,false,false,false,false,false,false,false,false,false,false,false] rfl rfl (by kernel_rfl) (fun _ _ _ h=>h) (Or.inl ⟨by rfl,?_⟩) ?_ ?_
      rotate_left
      ·intro w';go_simp
       with_reducible rfl
      rotate_left
      ·simp only[Act.put,List.setIfInBounds_toArray,List.set_cons_zero,List.set_cons_succ,i64_w,i32_w];rfl
      refine pure_ (i:=6) (N:=some 19) (v:=?_) (a':=?_) #[true,true,true,true,true,true,true,false,false,false,false,false,false,false,false,false,false,false,false,false,false,false,false,false] rfl rfl (by kernel_rfl) (fun _ _ _ h=>h) (Or.inl ⟨by rfl,?_⟩) ?_ ?_
      rotate_left
      ·intro w';go_simp
       with_reducible rfl
      rotate_left
      ·simp only[Act.put,List.setIfInBounds_toArray,List.set_cons_zero,List.set_cons_succ,i64_w,i32_w];rfl
      refine pure_ (i:=7) (N:=some 20) (v:=?_) (a':=?_) #[true,true,true,true,true,true,true,true,false,false,false,false,false,false,false,false,false,false,false,false,false,false,false,false] rfl rfl (by kernel_rfl) (fun _ _ _ h=>h) (Or.inl ⟨by rfl,?_⟩) ?_ ?_
      rotate_left
      ·intro w';go_simp
       with_reducible rfl
      rotate_left
      ·simp only[Act.put,List.setIfInBounds_toArray,List.set_cons_zero,List.set_cons_succ,i64_w,i32_w];rfl
      refine pure_ (i:=8) (N:=some 21) (v := .bool false) (a':=?_) #[true,true,true,true,true,true,true,true,true,false,false,false,false,false,false,false,false,false,false,false,false,false,false,false] rfl rfl (by kernel_rfl) (fun _ _ _ h=>h) (Or.inl ⟨by rfl,?_⟩) ?_ ?_
      ·intro w';go_simp
       first|done|(have:=HZ.out;omega)
      rotate_left
      ·simp only[Act.put,List.setIfInBounds_toArray,List.set_cons_zero,List.set_cons_succ,i64_w,i32_w];rfl
      refine pure_ (i:=9) (N:=some 22) (v:=?_) (a':=?_) #[true,true,true,true,true,true,true,true,true,true,false,false,false,false,false,false,false,false,false,false,false,false,false,false] rfl rfl (by kernel_rfl) (fun _ _ _ h=>h) (Or.inl ⟨by rfl,?_⟩) ?_ ?_
      rotate_left
      ·intro w';go_simp
       with_reducible rfl
      rotate_left
      ·simp only[Act.put,List.setIfInBounds_toArray,List.set_cons_zero,List.set_cons_succ,i64_w,i32_w];rfl
      refine pure_ (i:=10) (N:=some 23) (v:=undef) (a':=?_) #[true,true,true,true,true,true,true,true,true,true,true,false,false,false,false,false,false,false,false,false,false,false,false,false] rfl rfl (by kernel_rfl) (fun _ _ _ h=>h) (Or.inr ⟨by rfl,rfl⟩) ?_ ?_
      rotate_left
      ·simp only[Act.put,List.setIfInBounds_toArray,List.set_cons_zero,List.set_cons_succ,i64_w,i32_w];rfl
      refine pure_ (i:=11) (N:=some 24) (v:=undef) (a':=?_) #[true,true,true,true,true,true,true,true,true,true,true,true,false,false,false,false,false,false,false,false,false,false,false,false] rfl rfl (by kernel_rfl) (fun _ _ _ h=>h) (Or.inr ⟨by rfl,rfl⟩) ?_ ?_
      rotate_left
      ·simp only[Act.put,List.setIfInBounds_toArray,List.set_cons_zero,List.set_cons_succ,i64_w,i32_w];rfl
      refine pure_ (i:=12) (N:=some 25) (v:=undef) (a':=?_) #[true,true,true,true,true,true,true,true,true,true,true,true,true,false,false,false,false,false,false,false,false,false,false,false] rfl rfl (by kernel_rfl) (fun _ _ _ h=>h) (Or.inr ⟨by rfl,rfl⟩) ?_ ?_
      rotate_left
      ·simp only[Act.put,List.setIfInBounds_toArray,List.set_cons_zero,List.set_cons_succ,i64_w,i32_w];rfl
      refine pure_ (i:=13) (N:=some 26) (v:=undef) (a':=?_) #[true,true,true,true,true,true,true,true,true,true,true,true,true,true,false,false,false,false,false,false,false,false,false,false] rfl rfl (by kernel_rfl) (fun _ _ _ h=>h) (Or.inr ⟨by rfl,rfl⟩) ?_ ?_
      rotate_left
      ·simp only[Act.put,List.setIfInBounds_toArray,List.set_cons_zero,List.set_cons_succ,i64_w,i32_w];rfl
      refine pure_ (i:=14) (N:=some 27) (v:=undef) (a':=?_) #[true,true,true,true,true,true,true,true,true,true,true,true,true,true,true,false,false,false,false,false,false,false,false,false] rfl rfl (by kernel_rfl) (fun _ _ _ h=>h) (Or.inr ⟨by rfl,rfl⟩) ?_ ?_
      rotate_left
      ·simp only[Act.put,List.setIfInBounds_toArray,List.set_cons_zero,List.set_cons_succ,i64_w,i32_w];rfl
      refine pure_ (i:=15) (N:=some 28) (v:=undef) (a':=?_) #[true,true,true,true,true,true,true,true,true,true,true,true,true,true,true,true,false,false,false,false,false,false,false,false] rfl rfl (by kernel_rfl) (fun _ _ _ h=>h) (Or.inr ⟨by rfl,rfl⟩) ?_ ?_
      rotate_left
      ·simp only[Act.put,List.setIfInBounds_toArray,List.set_cons_zero,List.set_cons_succ,i64_w,i32_w];rfl
      refine pure_ (i:=16) (N:=some 29) (v:=undef) (a':=?_) #[true,true,true,true,true,true,true,true,true,true,true,true,true,true,true,true,true,false,false,false,false,false,false,false] rfl rfl (by kernel_rfl) (fun _ _ _ h=>h) (Or.inr ⟨by rfl,rfl⟩) ?_ ?_
      rotate_left
      ·simp only[Act.put,List.setIfInBounds_toArray,List.set_cons_zero,List.set_cons_succ,i64_w,i32_w];rfl
      refine pure_ (i:=17) (N:=some 30) (v:=undef) (a':=?_) #[true,true,true,true,true,true,true,true,true,true,true,true,true,true,true,true,true,true,false,false,false,false,false,false] rfl rfl (by kernel_rfl) (fun _ _ _ h=>h) (Or.inr ⟨by rfl,rfl⟩) ?_ ?_
      rotate_left
      ·simp only[Act.put,List.setIfInBounds_toArray,List.set_cons_zero,List.set_cons_succ,i64_w,i32_w];rfl
      refine pure_ (i:=18) (N:=some 31) (v:=undef) (a':=?_) #[true,true,true,true,true,true,true,true,true,true,true,true,true,true,true,true,true,true,true,false,false,false,false,false] rfl rfl (by kernel_rfl) (fun _ _ _ h=>h) (Or.inr ⟨by rfl,rfl⟩) ?_ ?_
      rotate_left
      ·simp only[Act.put,List.setIfInBounds_toArray,List.set_cons_zero,List.set_cons_succ,i64_w,i32_w];rfl
      refine pure_ (i:=19) (N:=some 32) (v:=undef) (a':=?_) #[true,true,true,true,true,true,true,true,true,true,true,true,true,true,true,true,true,true,true,true,false,false,false,false] rfl rfl (by kernel_rfl) (fun _ _ _ h=>h) (Or.inr ⟨by rfl,rfl⟩) ?_ ?_
      rotate_left
      ·simp only[Act.put,List.setIfInBounds_toArray,List.set_cons_zero,List.set_cons_succ,i64_w,i32_w];rfl
      refine pure_ (i:=20) (N:=some 33) (v:=undef) (a':=?_) #[true,true,true,true,true,true,true,true,true,true,true,true,true,true,true,true,true,true,true,true,true,false,false,false] rfl rfl (by kernel_rfl) (fun _ _ _ h=>h) (Or.inr ⟨by rfl,rfl⟩) ?_ ?_
      rotate_left
      ·simp only[Act.put,List.setIfInBounds_toArray,List.set_cons_zero,List.set_cons_succ,i64_w,i32_w];rfl
      refine pure_ (i:=21) (N:=some 34) (v:=undef) (a':=?_) #[true,true,true,true,true,true,true,true,true,true,true,true,true,true,true,true,true,true,true,true,true,true,false,false] rfl rfl (by kernel_rfl) (fun _ _ _ h=>h) (Or.inr ⟨by rfl,rfl⟩) ?_ ?_
      rotate_left
      ·simp only[Act.put,List.setIfInBounds_toArray,List.set_cons_zero,List.set_cons_succ,i64_w,i32_w];rfl
      refine pure_ (i:=22) (N:=some 35) (v:=?_) (a':=?_) #[true,true,true,true,true,true,true,true,true,true,true,true,true,true,true,true,true,true,true,true,true,true,true,false] rfl rfl (by kernel_rfl) (fun _ _ _ h=>h) (Or.inl ⟨by rfl,?_⟩) ?_ ?_
      rotate_left
      ·intro w';go_simp
       with_reducible rfl
      rotate_left
      ·simp only[Act.put,List.setIfInBounds_toArray,List.set_cons_zero,List.set_cons_succ,i64_w,i32_w];rfl
      refine pure_ (i:=23) (N:=some 36) (v:=?_) (a':=?_) #[true,true,true,true,true,true,true,true,true,true,true,true,true,true,true,true,true,true,true,true,true,true,true,true] rfl rfl (by kernel_rfl) (fun _ _ _ h=>h) (Or.inl ⟨by rfl,?_⟩) ?_ ?_
      rotate_left
      ·intro w';go_simp
       with_reducible rfl
      rotate_left
      ·simp only[Act.put,List.setIfInBounds_toArray,List.set_cons_zero,List.set_cons_succ,i64_w,i32_w];rfl
      refine done_ (by kernel_rfl) ?_;go_wp2_with fail
      go_roundw
      case rel=>exact ⟨i+1,by go_num,⟨by have:=HLT.out;omega,HV.out.trans ⟨fun h=>h.2,fun h=>⟨viewV_iff.mpr ⟨by unfold ahead;rw[if_pos HZ.out];exact above_nil HW.out.1,HW.out⟩,h⟩⟩,hHeld⟩⟩
      case measure=>simp only[intOf];have:=HLT.out;first|omega|(go_num;omega)|(simp;omega)
     ·have hj0:(0:Int)≤(i:Int) - 1:=by omega
      have hj1:(i:Int) - 1<(l.length:Int):=by omega
      have hp1:((i:Int) - 1).toNat=i - 1:=by omega
      obtain ⟨q,hq⟩:∃ q,(rd_T87 l ((i:Int) - 1)).f0=q:=⟨_,rfl⟩;have HQ2:=Aside0.mk hq;have HA:Aside0 (ahead l i=q):=⟨by unfold ahead;rw[if_neg hz];exact hq⟩;have h1i:(1:Int)≤(i:Int):=by omega
      have HZ:=Aside0.mk hz;have hw1:IntKind.i64.wrap ((i:Int) - 1)=(i:Int) - 1:=IntWalk.i64_in _ (by omega);clear hq hz;go_upto_region 6 with fail
      refine start_ (n:=24) (S:=fun w'=>Below w.heap.size w w') (ds:=[]) #[false,false,false,false,false,false,false,false,false,false,false,false,false,false,false,false,false,false,false,false,false,false,false,false] (by kernel_rfl) rfl rfl (below_drew1 HQ.out.2.2) (fun hHeld=>?_);refine pure_ (i:=0) (N:=some 13) (v:=?_) (a':=?_) #[true,false,false,false,false,false,false,false,false,false,false,false,false,false,false,false,false,false,false,false,false,false,false,false] rfl rfl (by kernel_rfl) (fun _ _ _ h=>h) (Or.inl ⟨by rfl,?_⟩) ?_ ?_
      rotate_left
      ·intro w';go_simp
       with_reducible rfl
      rotate_left
      ·simp only[Act.put,List.setIfInBounds_toArray,List.set_cons_zero,List.set_cons_succ,i64_w,i32_w];rfl
      refine pure_ (i:=1) (N:=some 14) (v:=?_) (a':=?_) #[true,true,false,false,false,false,false,false,false,false,false,false,false,false,false,false,false,false,false,false,false,false,false,false] rfl rfl (by kernel_rfl) (fun _ _ _ h=>h) (Or.inl ⟨by rfl,?_⟩) ?_ ?_
      rotate_left
      ·intro w';go_simp
       with_reducible rfl
      rotate_left
      ·simp only[Act.put,List.setIfInBounds_toArray,List.set_cons_zero,List.set_cons_succ,i64_w,i32_w];rfl
      refine pure_ (i:=2) (N:=some 15) (v:=?_) (a':=?_) #[true,true,true,false,false,false,false,false,false,false,false,false,false,false,false,false,false,false,false,false,false,false,false,false] rfl rfl (by kernel_rfl) (fun _ _ _ h=>h) (Or.inl ⟨by rfl,?_⟩) ?_ ?_
      rotate_left
      ·intro w';go_simp
       with_reducible rfl
      rotate_left
      ·simp only[Act.put,List.setIfInBounds_toArray,List.set_cons_zero,List.set_cons_succ,i64_w,i32_w];rfl
      refine take_ (i:=3) (N:=some 16) (v := .agg #[.string x.f0,.int .i64 x.f1,.int .i64 x.f2,.int .i64 x.f3,.int .i64 x.f4.f0,.int .i64 x.f4.f1,.int .i64 x.f5]) (a':=?_) #[true,true,true,true,false,false,false,false,false,false,false,false,false,false,false,false,false,false,false,false,false,false,false,false] rfl rfl (by kernel_rfl) (fun _ _ _ h=>h) (Or.inl ⟨by rfl,?_⟩) hHeld ?_ ?_
      ·intro w' hS;obtain ⟨ad',had,c0,c1,c2,c3,c4,c5,c6⟩:=at_T87 (Kd.C_below HR.out hS) (i:Int) hi0 hi1;obtain rfl:=Option.some.inj had;rw[HX.out] at c0 c1 c2 c3 c4 c5 c6;simp only[Int.toNat_natCast] at c0 c1 c2 c3 c4 c5 c6;go_simp
      rotate_left
      ·simp only[Act.put,List.setIfInBounds_toArray,List.set_cons_zero,List.set_cons_succ,i64_w,i32_w];rfl
      refine one_ (i:=4) (N:=some 17) #[true,true,true,true,true,false,false,false,false,false,false,false,false,false,false,false,false,false,false,false,false,false,false,false] rfl rfl (by kernel_rfl) (by decide) (fun K hK=>?_);refine goes_ Try.func94 (by kernel_rfl) rfl #[.agg #[.string x.f0,.int .i64 x.f1,.int .i64 x.f2,.int .i64 x.f3,.int .i64 x.f4.f0,.int .i64 x.f4.f1,.int .i64 x.f5]] (by rfl) rfl rfl (by (try simp only[List.map_toArray,List.map_cons,List.map_nil]);first|done|rfl) ?_;refine (view_yes x HW.out _).mono ?_;rintro e w1 ⟨rfl,hb⟩;refine ⟨_,rfl,?_⟩;refine hK.out _ _ (below_step hHeld hb) (fun hHeld=>?_);clear hK K;refine norm_ (a':=?_) ?_ ?_
      rotate_left
      ·show Act.put _ (some 17) _=_
       simp only[Act.put,List.setIfInBounds_toArray,List.set_cons_zero,List.set_cons_succ,i64_w,i32_w];rfl
      refine pure_ (i:=5) (N:=some 18) (v:=?_) (a':=?_) #[true,true,true,true,true,true,false,false,false,false,false,false,false,false,false,false,false,false,false,false,false,false,false,false] rfl rfl (by kernel_rfl) (fun _ _ _ h=>h) (Or.inl ⟨by rfl,?_⟩) ?_ ?_
      rotate_left
      ·intro w';go_simp
       with_reducible rfl
      rotate_left
      ·simp only[Act.put,List.setIfInBounds_toArray,List.set_cons_zero,List.set_cons_succ,i64_w,i32_w];rfl
      refine pure_ (i:=6) (N:=some 19) (v:=?_) (a':=?_) #[true,true,true,true,true,true,true,false,false,false,false,false,false,false,false,false,false,false,false,false,false,false,false,false] rfl rfl (by kernel_rfl) (fun _ _ _ h=>h) (Or.inl ⟨by rfl,?_⟩) ?_ ?_
      rotate_left
      ·intro w';go_simp
       with_reducible rfl
      rotate_left
      ·simp only[Act.put,List.setIfInBounds_toArray,List.set_cons_zero,List.set_cons_succ,i64_w,i32_w];rfl
      refine pure_ (i:=7) (N:=some 20) (v:=?_) (a':=?_) #[true,true,true,true,true,true,true,true,false,false,false,false,false,false,false,false,false,false,false,false,false,false,false,false] rfl rfl (by kernel_rfl) (fun _ _ _ h=>h) (Or.inl ⟨by rfl,?_⟩) ?_ ?_
      rotate_left
      ·intro w';go_simp
       with_reducible rfl
      rotate_left
      ·simp only[Act.put,List.setIfInBounds_toArray,List.set_cons_zero,List.set_cons_succ,i64_w,i32_w];rfl
      refine pure_ (i:=8) (N:=some 21) (v := .bool true) (a':=?_) #[true,true,true,true,true,true,true,true,true,false,false,false,false,false,false,false,false,false,false,false,false,false,false,false] rfl rfl (by kernel_rfl) (fun _ _ _ h=>h) (Or.inl ⟨by rfl,?_⟩) ?_ ?_
      ·intro w';go_simp
       first|done|(have:=HZ.out;omega)
      rotate_left
      ·simp only[Act.put,List.setIfInBounds_toArray,List.set_cons_zero,List.set_cons_succ,i64_w,i32_w];rfl
      refine pure_ (i:=9) (N:=some 22) (v:=?_) (a':=?_) #[true,true,true,true,true,true,true,true,true,true,false,false,false,false,false,false,false,false,false,false,false,false,false,false] rfl rfl (by kernel_rfl) (fun _ _ _ h=>h) (Or.inl ⟨by rfl,?_⟩) ?_ ?_
      rotate_left
      ·intro w';go_simp
       with_reducible rfl
      rotate_left
      ·simp only[Act.put,List.setIfInBounds_toArray,List.set_cons_zero,List.set_cons_succ,i64_w,i32_w];rfl
      refine pure_ (i:=10) (N:=some 23) (v:=?_) (a':=?_) #[true,true,true,true,true,true,true,true,true,true,true,false,false,false,false,false,false,false,false,false,false,false,false,false] rfl rfl (by kernel_rfl) (fun _ _ _ h=>h) (Or.inl ⟨by rfl,?_⟩) ?_ ?_
      rotate_left
      ·intro w';go_simp
       with_reducible rfl
      rotate_left
      ·simp only[Act.put,List.setIfInBounds_toArray,List.set_cons_zero,List.set_cons_succ,i64_w,i32_w];rfl
      refine pure_ (i:=11) (N:=some 24) (v:=?_) (a':=?_) #[true,true,true,true,true,true,true,true,true,true,true,true,false,false,false,false,false,false,false,false,false,false,false,false] rfl rfl (by kernel_rfl) (fun _ _ _ h=>h) (Or.inl ⟨by rfl,?_⟩) ?_ ?_
      rotate_left
      ·intro w';go_simp
       with_reducible rfl
      rotate_left
      ·simp only[Act.put,List.setIfInBounds_toArray,List.set_cons_zero,List.set_cons_succ,i64_w,i32_w];rfl
      refine pure_ (i:=12) (N:=some 25) (v:=?_) (a':=?_) #[true,true,true,true,true,true,true,true,true,true,true,true,true,false,false,false,false,false,false,false,false,false,false,false] rfl rfl (by kernel_rfl) (fun _ _ _ h=>h) (Or.inl ⟨by rfl,?_⟩) ?_ ?_
      rotate_left
      ·intro w';go_simp
       with_reducible rfl
      rotate_left
      ·simp only[Act.put,List.setIfInBounds_toArray,List.set_cons_zero,List.set_cons_succ,i64_w,i32_w];rfl
      refine pure_ (i:=13) (N:=some 26) (v:=?_) (a':=?_) #[true,true,true,true,true,true,true,true,true,true,true,true,true,true,false,false,false,false,false,false,false,false,false,false] rfl rfl (by kernel_rfl) (fun _ _ _ h=>h) (Or.inl ⟨by rfl,?_⟩) ?_ ?_
      rotate_left
      ·intro w';go_simp
       with_reducible rfl
      rotate_left
      ·simp only[Act.put,List.setIfInBounds_toArray,List.set_cons_zero,List.set_cons_succ,i64_w,i32_w];rfl
      refine take_ (i:=14) (N:=some 27) (v := .string x.f0) (a':=?_) #[true,true,true,true,true,true,true,true,true,true,true,true,true,true,true,false,false,false,false,false,false,false,false,false] rfl rfl (by kernel_rfl) (fun _ _ _ h=>h) (Or.inl ⟨by rfl,?_⟩) hHeld ?_ ?_
      ·intro w' hS;obtain ⟨ad',had,c0,c1,c2,c3,c4,c5,c6⟩:=at_T87 (Kd.C_below HR.out hS) (i:Int) hi0 hi1;obtain rfl:=Option.some.inj had;rw[HX.out] at c0 c1 c2 c3 c4 c5 c6;simp only[Int.toNat_natCast] at c0 c1 c2 c3 c4 c5 c6;go_simp
      rotate_left
      ·simp only[Act.put,List.setIfInBounds_toArray,List.set_cons_zero,List.set_cons_succ,i64_w,i32_w];rfl
      refine pure_ (i:=15) (N:=some 28) (v:=?_) (a':=?_) #[true,true,true,true,true,true,true,true,true,true,true,true,true,true,true,true,false,false,false,false,false,false,false,false] rfl rfl (by kernel_rfl) (fun _ _ _ h=>h) (Or.inl ⟨by rfl,?_⟩) ?_ ?_
      rotate_left
      ·intro w';go_simp
       with_reducible rfl
      rotate_left
      ·simp only[Act.put,List.setIfInBounds_toArray,List.set_cons_zero,List.set_cons_succ,i64_w,i32_w];rfl
      refine pure_ (i:=16) (N:=some 29) (v:=?_) (a':=?_) #[true,true,true,true,true,true,true,true,true,true,true,true,true,true,true,true,true,false,false,false,false,false,false,false] rfl rfl (by kernel_rfl) (fun _ _ _ h=>h) (Or.inl ⟨by rfl,?_⟩) ?_ ?_
      rotate_left
      ·intro w';go_simp
       with_reducible rfl
      rotate_left
      ·simp only[Act.put,List.setIfInBounds_toArray,List.set_cons_zero,List.set_cons_succ,i64_w,i32_w];rfl
      refine pure_ (i:=17) (N:=some 30) (v:=?_) (a':=?_) #[true,true,true,true,true,true,true,true,true,true,true,true,true,true,true,true,true,true,false,false,false,false,false,false] rfl rfl (by kernel_rfl) (fun _ _ _ h=>h) (Or.inl ⟨by rfl,?_⟩) ?_ ?_
      rotate_left
      ·intro w';go_simp
       with_reducible rfl
      rotate_left
      ·simp only[Act.put,List.setIfInBounds_toArray,List.set_cons_zero,List.set_cons_succ,i64_w,i32_w];rfl
      refine pure_ (i:=18) (N:=some 31) (v:=?_) (a':=?_) #[true,true,true,true,true,true,true,true,true,true,true,true,true,true,true,true,true,true,true,false,false,false,false,false] rfl rfl (by kernel_rfl) (fun _ _ _ h=>h) (Or.inl ⟨by rfl,?_⟩) ?_ ?_
      rotate_left
      ·intro w';go_simp
       with_reducible rfl
      rotate_left
      ·simp only[Act.put,List.setIfInBounds_toArray,List.set_cons_zero,List.set_cons_succ,i64_w,i32_w];rfl
      refine pure_ (i:=19) (N:=some 32) (v:=?_) (a':=?_) #[true,true,true,true,true,true,true,true,true,true,true,true,true,true,true,true,true,true,true,true,false,false,false,false] rfl rfl (by kernel_rfl) (fun _ _ _ h=>h) (Or.inl ⟨by rfl,?_⟩) ?_ ?_
      rotate_left
      ·intro w';go_simp
       with_reducible rfl
      rotate_left
      ·simp only[Act.put,List.setIfInBounds_toArray,List.set_cons_zero,List.set_cons_succ,i64_w,i32_w];rfl
      refine take_ (i:=20) (N:=some 33) (v := .string q) (a':=?_) #[true,true,true,true,true,true,true,true,true,true,true,true,true,true,true,true,true,true,true,true,true,false,false,false] rfl rfl (by kernel_rfl) (fun _ _ _ h=>h) (Or.inl ⟨by rfl,?_⟩) hHeld ?_ ?_
      ·intro w' hS;obtain ⟨ad',had,c0,_⟩:=at_T87 (Kd.C_below HR.out hS) ((i:Int) - 1) hj0 hj1;obtain rfl:=Option.some.inj had;rw[HQ2.out,hp1] at c0;go_simp
      rotate_left
      ·simp only[Act.put,List.setIfInBounds_toArray,List.set_cons_zero,List.set_cons_succ,i64_w,i32_w];rfl
      refine pure_ (i:=21) (N:=some 34) (v:=?_) (a':=?_) #[true,true,true,true,true,true,true,true,true,true,true,true,true,true,true,true,true,true,true,true,true,true,false,false] rfl rfl (by kernel_rfl) (fun _ _ _ h=>h) (Or.inl ⟨by rfl,?_⟩) ?_ ?_
      rotate_left
      ·intro w';go_simp
       with_reducible rfl
      rotate_left
      ·simp only[Act.put,List.setIfInBounds_toArray,List.set_cons_zero,List.set_cons_succ,i64_w,i32_w];rfl
      refine pure_ (i:=22) (N:=some 35) (v:=?_) (a':=?_) #[true,true,true,true,true,true,true,true,true,true,true,true,true,true,true,true,true,true,true,true,true,true,true,false] rfl rfl (by kernel_rfl) (fun _ _ _ h=>h) (Or.inl ⟨by rfl,?_⟩) ?_ ?_
      rotate_left
      ·intro w';go_simp
       with_reducible rfl
      rotate_left
      ·simp only[Act.put,List.setIfInBounds_toArray,List.set_cons_zero,List.set_cons_succ,i64_w,i32_w];rfl
      refine pure_ (i:=23) (N:=some 36) (v:=?_) (a':=?_) #[true,true,true,true,true,true,true,true,true,true,true,true,true,true,true,true,true,true,true,true,true,true,true,true] rfl rfl (by kernel_rfl) (fun _ _ _ h=>h) (Or.inl ⟨by rfl,?_⟩) ?_ ?_
      rotate_left
      ·intro w';go_simp
       with_reducible rfl
      rotate_left
      ·simp only[Act.put,List.setIfInBounds_toArray,List.set_cons_zero,List.set_cons_succ,i64_w,i32_w];rfl
      refine done_ (by kernel_rfl) ?_;go_wp2_with fail
      ·have hb:(!Go.Op.bytesLess q.toList x.f0.toList)=true:=by assumption
       go_ret
       exact ⟨by rw[dcd_neg (fun h=>by have:=(viewV_iff.mp (HV.out.mp h.2).1).1;rw[HA.out] at this;unfold above at this;rw[this] at hb;cases hb)];rfl,hHeld⟩
      ·have hb:(!Go.Op.bytesLess q.toList x.f0.toList)=false:=by assumption
       have HB2:Aside0 (Go.Op.bytesLess q.toList x.f0.toList=true):=⟨by cases h:Go.Op.bytesLess q.toList x.f0.toList;rw[h] at hb;cases hb;rfl⟩;go_roundw
       case rel=>exact ⟨i+1,by go_num,⟨by have:=HLT.out;omega,HV.out.trans ⟨fun h=>h.2,fun h=>⟨viewV_iff.mpr ⟨by rw[HA.out];exact HB2.out,HW.out⟩,h⟩⟩,hHeld⟩⟩
       case measure=>simp only[intOf];have:=HLT.out;first|omega|(go_num;omega)|(simp;omega)
    ·have HW:=Aside0.mk hw;clear hw;go_upto_region 6 with fail
     refine start_ (n:=24) (S:=fun w'=>Below w.heap.size w w') (ds:=[]) #[false,false,false,false,false,false,false,false,false,false,false,false,false,false,false,false,false,false,false,false,false,false,false,false] (by kernel_rfl) rfl rfl (below_drew1 HQ.out.2.2) (fun hHeld=>?_);refine pure_ (i:=0) (N:=some 13) (v:=?_) (a':=?_) #[true,false,false,false,false,false,false,false,false,false,false,false,false,false,false,false,false,false,false,false,false,false,false,false] rfl rfl (by kernel_rfl) (fun _ _ _ h=>h) (Or.inl ⟨by rfl,?_⟩) ?_ ?_
     rotate_left
     ·intro w';go_simp
      with_reducible rfl
     rotate_left
     ·simp only[Act.put,List.setIfInBounds_toArray,List.set_cons_zero,List.set_cons_succ,i64_w,i32_w];rfl
     refine pure_ (i:=1) (N:=some 14) (v:=?_) (a':=?_) #[true,true,false,false,false,false,false,false,false,false,false,false,false,false,false,false,false,false,false,false,false,false,false,false] rfl rfl (by kernel_rfl) (fun _ _ _ h=>h) (Or.inl ⟨by rfl,?_⟩) ?_ ?_
     rotate_left
     ·intro w';go_simp
      with_reducible rfl
     rotate_left
     ·simp only[Act.put,List.setIfInBounds_toArray,List.set_cons_zero,List.set_cons_succ,i64_w,i32_w];rfl
     refine pure_ (i:=2) (N:=some 15) (v:=?_) (a':=?_) #[true,true,true,false,false,false,false,false,false,false,false,false,false,false,false,false,false,false,false,false,false,false,false,false] rfl rfl (by kernel_rfl) (fun _ _ _ h=>h) (Or.inl ⟨by rfl,?_⟩) ?_ ?_
     rotate_left
     ·intro w';go_simp
      with_reducible rfl
     rotate_left
     ·simp only[Act.put,List.setIfInBounds_toArray,List.set_cons_zero,List.set_cons_succ,i64_w,i32_w];rfl
     refine take_ (i:=3) (N:=some 16) (v := .agg #[.string x.f0,.int .i64 x.f1,.int .i64 x.f2,.int .i64 x.f3,.int .i64 x.f4.f0,.int .i64 x.f4.f1,.int .i64 x.f5]) (a':=?_) #[true,true,true,true,false,false,false,false,false,false,false,false,false,false,false,false,false,false,false,false,false,false,false,false] rfl rfl (by kernel_rfl) (fun _ _ _ h=>h) (Or.inl ⟨by rfl,?_⟩) hHeld ?_ ?_
     ·intro w' hS;obtain ⟨ad',had,c0,c1,c2,c3,c4,c5,c6⟩:=at_T87 (Kd.C_below HR.out hS) (i:Int) hi0 hi1;obtain rfl:=Option.some.inj had;rw[HX.out] at c0 c1 c2 c3 c4 c5 c6;simp only[Int.toNat_natCast] at c0 c1 c2 c3 c4 c5 c6;go_simp
     rotate_left
     ·simp only[Act.put,List.setIfInBounds_toArray,List.set_cons_zero,List.set_cons_succ,i64_w,i32_w];rfl
     refine one_ (i:=4) (N:=some 17) #[true,true,true,true,true,false,false,false,false,false,false,false,false,false,false,false,false,false,false,false,false,false,false,false] rfl rfl (by kernel_rfl) (by decide) (fun K hK=>?_);refine goes_ Try.func94 (by kernel_rfl) rfl #[.agg #[.string x.f0,.int .i64 x.f1,.int .i64 x.f2,.int .i64 x.f3,.int .i64 x.f4.f0,.int .i64 x.f4.f1,.int .i64 x.f5]] (by rfl) rfl rfl (by (try simp only[List.map_toArray,List.map_cons,List.map_nil]);first|done|rfl) ?_;refine (view_no x HW.out _).mono ?_;rintro e w1 ⟨rfl,hb⟩;refine ⟨_,rfl,?_⟩;refine hK.out _ _ (below_step hHeld hb) (fun hHeld=>?_);clear hK K;refine norm_ (a':=?_) ?_ ?_
     rotate_left
     ·show Act.put _ (some 17) _=_
      simp only[Act.put,List.setIfInBounds_toArray,List.set_cons_zero,List.set_cons_succ,i64_w,i32_w];rfl
     refine pure_ (i:=5) (N:=some 18) (v:=?_) (a':=?_) #[true,true,true,true,true,true,false,false,false,false,false,false,false,false,false,false,false,false,false,false,false,false,false,false] rfl rfl (by kernel_rfl) (fun _ _ _ h=>h) (Or.inl ⟨by rfl,?_⟩) ?_ ?_
     rotate_left
     ·intro w';go_simp
      with_reducible rfl
     rotate_left
     ·simp only[Act.put,List.setIfInBounds_toArray,List.set_cons_zero,List.set_cons_succ,i64_w,i32_w];rfl
     refine pure_ (i:=6) (N:=some 19) (v:=?_) (a':=?_) #[true,true,true,true,true,true,true,false,false,false,false,false,false,false,false,false,false,false,false,false,false,false,false,false] rfl rfl (by kernel_rfl) (fun _ _ _ h=>h) (Or.inl ⟨by rfl,?_⟩) ?_ ?_
     rotate_left
     ·intro w';go_simp
      with_reducible rfl
     rotate_left
     ·simp only[Act.put,List.setIfInBounds_toArray,List.set_cons_zero,List.set_cons_succ,i64_w,i32_w];rfl
     refine pure_ (i:=7) (N:=some 20) (v:=undef) (a':=?_) #[true,true,true,true,true,true,true,true,false,false,false,false,false,false,false,false,false,false,false,false,false,false,false,false] rfl rfl (by kernel_rfl) (fun _ _ _ h=>h) (Or.inr ⟨by rfl,rfl⟩) ?_ ?_
     rotate_left
     ·simp only[Act.put,List.setIfInBounds_toArray,List.set_cons_zero,List.set_cons_succ,i64_w,i32_w];rfl
     refine pure_ (i:=8) (N:=some 21) (v:=undef) (a':=?_) #[true,true,true,true,true,true,true,true,true,false,false,false,false,false,false,false,false,false,false,false,false,false,false,false] rfl rfl (by kernel_rfl) (fun _ _ _ h=>h) (Or.inr ⟨by rfl,rfl⟩) ?_ ?_
     rotate_left
     ·simp only[Act.put,List.setIfInBounds_toArray,List.set_cons_zero,List.set_cons_succ,i64_w,i32_w];rfl
     refine pure_ (i:=9) (N:=some 22) (v:=undef) (a':=?_) #[true,true,true,true,true,true,true,true,true,true,false,false,false,false,false,false,false,false,false,false,false,false,false,false] rfl rfl (by kernel_rfl) (fun _ _ _ h=>h) (Or.inr ⟨by rfl,rfl⟩) ?_ ?_
     rotate_left
     ·simp only[Act.put,List.setIfInBounds_toArray,List.set_cons_zero,List.set_cons_succ,i64_w,i32_w];rfl
     refine pure_ (i:=10) (N:=some 23) (v:=undef) (a':=?_) #[true,true,true,true,true,true,true,true,true,true,true,false,false,false,false,false,false,false,false,false,false,false,false,false] rfl rfl (by kernel_rfl) (fun _ _ _ h=>h) (Or.inr ⟨by rfl,rfl⟩) ?_ ?_
     rotate_left
     ·simp only[Act.put,List.setIfInBounds_toArray,List.set_cons_zero,List.set_cons_succ,i64_w,i32_w];rfl
     refine pure_ (i:=11) (N:=some 24) (v:=undef) (a':=?_) #[true,true,true,true,true,true,true,true,true,true,true,true,false,false,false,false,false,false,false,false,false,false,false,false] rfl rfl (by kernel_rfl) (fun _ _ _ h=>h) (Or.inr ⟨by rfl,rfl⟩) ?_ ?_
     rotate_left
     ·simp only[Act.put,List.setIfInBounds_toArray,List.set_cons_zero,List.set_cons_succ,i64_w,i32_w];rfl
     refine pure_ (i:=12) (N:=some 25) (v:=undef) (a':=?_) #[true,true,true,true,true,true,true,true,true,true,true,true,true,false,false,false,false,false,false,false,false,false,false,false] rfl rfl (by kernel_rfl) (fun _ _ _ h=>h) (Or.inr ⟨by rfl,rfl⟩) ?_ ?_
     rotate_left
     ·simp only[Act.put,List.setIfInBounds_toArray,List.set_cons_zero,List.set_cons_succ,i64_w,i32_w];rfl
     refine pure_ (i:=13) (N:=some 26) (v:=undef) (a':=?_) #[true,true,true,true,true,true,true,true,true,true,true,true,true,true,false,false,false,false,false,false,false,false,false,false] rfl rfl (by kernel_rfl) (fun _ _ _ h=>h) (Or.inr ⟨by rfl,rfl⟩) ?_ ?_
     rotate_left
     ·simp only[Act.put,List.setIfInBounds_toArray,List.set_cons_zero,List.set_cons_succ,i64_w,i32_w];rfl
     refine pure_ (i:=14) (N:=some 27) (v:=undef) (a':=?_) #[true,true,true,true,true,true,true,true,true,true,true,true,true,true,true,false,false,false,false,false,false,false,false,false] rfl rfl (by kernel_rfl) (fun _ _ _ h=>h) (Or.inr ⟨by rfl,rfl⟩) ?_ ?_
     rotate_left
     ·simp only[Act.put,List.setIfInBounds_toArray,List.set_cons_zero,List.set_cons_succ,i64_w,i32_w];rfl
     refine pure_ (i:=15) (N:=some 28) (v:=undef) (a':=?_) #[true,true,true,true,true,true,true,true,true,true,true,true,true,true,true,true,false,false,false,false,false,false,false,false] rfl rfl (by kernel_rfl) (fun _ _ _ h=>h) (Or.inr ⟨by rfl,rfl⟩) ?_ ?_
     rotate_left
     ·simp only[Act.put,List.setIfInBounds_toArray,List.set_cons_zero,List.set_cons_succ,i64_w,i32_w];rfl
     refine pure_ (i:=16) (N:=some 29) (v:=undef) (a':=?_) #[true,true,true,true,true,true,true,true,true,true,true,true,true,true,true,true,true,false,false,false,false,false,false,false] rfl rfl (by kernel_rfl) (fun _ _ _ h=>h) (Or.inr ⟨by rfl,rfl⟩) ?_ ?_
     rotate_left
     ·simp only[Act.put,List.setIfInBounds_toArray,List.set_cons_zero,List.set_cons_succ,i64_w,i32_w];rfl
     refine pure_ (i:=17) (N:=some 30) (v:=undef) (a':=?_) #[true,true,true,true,true,true,true,true,true,true,true,true,true,true,true,true,true,true,false,false,false,false,false,false] rfl rfl (by kernel_rfl) (fun _ _ _ h=>h) (Or.inr ⟨by rfl,rfl⟩) ?_ ?_
     rotate_left
     ·simp only[Act.put,List.setIfInBounds_toArray,List.set_cons_zero,List.set_cons_succ,i64_w,i32_w];rfl
     refine pure_ (i:=18) (N:=some 31) (v:=undef) (a':=?_) #[true,true,true,true,true,true,true,true,true,true,true,true,true,true,true,true,true,true,true,false,false,false,false,false] rfl rfl (by kernel_rfl) (fun _ _ _ h=>h) (Or.inr ⟨by rfl,rfl⟩) ?_ ?_
     rotate_left
     ·simp only[Act.put,List.setIfInBounds_toArray,List.set_cons_zero,List.set_cons_succ,i64_w,i32_w];rfl
     refine pure_ (i:=19) (N:=some 32) (v:=undef) (a':=?_) #[true,true,true,true,true,true,true,true,true,true,true,true,true,true,true,true,true,true,true,true,false,false,false,false] rfl rfl (by kernel_rfl) (fun _ _ _ h=>h) (Or.inr ⟨by rfl,rfl⟩) ?_ ?_
     rotate_left
     ·simp only[Act.put,List.setIfInBounds_toArray,List.set_cons_zero,List.set_cons_succ,i64_w,i32_w];rfl
     refine pure_ (i:=20) (N:=some 33) (v:=undef) (a':=?_) #[true,true,true,true,true,true,true,true,true,true,true,true,true,true,true,true,true,true,true,true,true,false,false,false] rfl rfl (by kernel_rfl) (fun _ _ _ h=>h) (Or.inr ⟨by rfl,rfl⟩) ?_ ?_
     rotate_left
     ·simp only[Act.put,List.setIfInBounds_toArray,List.set_cons_zero,List.set_cons_succ,i64_w,i32_w];rfl
     refine pure_ (i:=21) (N:=some 34) (v:=undef) (a':=?_) #[true,true,true,true,true,true,true,true,true,true,true,true,true,true,true,true,true,true,true,true,true,true,false,false] rfl rfl (by kernel_rfl) (fun _ _ _ h=>h) (Or.inr ⟨by rfl,rfl⟩) ?_ ?_
     rotate_left
     ·simp only[Act.put,List.setIfInBounds_toArray,List.set_cons_zero,List.set_cons_succ,i64_w,i32_w];rfl
     refine pure_ (i:=22) (N:=some 35) (v:=undef) (a':=?_) #[true,true,true,true,true,true,true,true,true,true,true,true,true,true,true,true,true,true,true,true,true,true,true,false] rfl rfl (by kernel_rfl) (fun _ _ _ h=>h) (Or.inr ⟨by rfl,rfl⟩) ?_ ?_
     rotate_left
     ·simp only[Act.put,List.setIfInBounds_toArray,List.set_cons_zero,List.set_cons_succ,i64_w,i32_w];rfl
     refine pure_ (i:=23) (N:=some 36) (v:=?_) (a':=?_) #[true,true,true,true,true,true,true,true,true,true,true,true,true,true,true,true,true,true,true,true,true,true,true,true] rfl rfl (by kernel_rfl) (fun _ _ _ h=>h) (Or.inl ⟨by rfl,?_⟩) ?_ ?_
     rotate_left
     ·intro w';go_simp
      with_reducible rfl
     rotate_left
     ·simp only[Act.put,List.setIfInBounds_toArray,List.set_cons_zero,List.set_cons_succ,i64_w,i32_w];rfl
     refine done_ (by kernel_rfl) ?_;go_wp2_with fail
     go_ret
     exact ⟨by rw[dcd_neg (fun h=>HW.out (viewV_iff.mp (HV.out.mp h.2).1).2)];rfl,hHeld⟩
   ·have hi1:¬((i:Int)<(l.length:Int)):=by omega
    have HV:Aside0 (viewsV eB l):=⟨by rw[HQ.out.2.1,List.drop_of_length_le (by omega)];trivial⟩;go_wp2_with fail
    go_ret
    exact ⟨by rw[dcd_pos ⟨by have:=H64.out;omega,HV.out⟩];rfl,HQ.out.2.2⟩
end Go.Proofs.Ytpgdmmjbhjbbhaa.Rf
end
section
namespace Go.Proofs.Ytpgdmmjbhjbbhaa.Rf
open Go Go.RowKit P Sp Vd En Wr Rd Lw YtpgdmmjbhjbbhaaW.PrintWords YtpgdmmjbhjbbhaaW.PrintLast YtpgdmmjbhjbbhaaW.PrintMore
theorem intB_len (n:Int):(intB n).length≤10:=numB_len10 (u64_nat n).2
theorem right_calls (s:Seg) (A:Option Addr) (c:Nat) (w:World) (h:In w A c s.data):
  Calls Try.prog 26 #[SV s A c] w fun e w'=>e = .returned (.bool (dcd (segV s)))∧Below w.heap.size w w':=by
 have HS:=Aside0.mk (sg_iff s h.isB);have hlI:(s.data.length:Int)≤9223372036854775807:=by have:=h.len;omega
 have hl0:(0:Int)≤(s.data.length:Int):=by omega
 clear h;have hu47:=Try.underlying47;unfold SV;obtain ⟨wa,hwa⟩:∃ wa,wa=w.alloc (.cells (SVc s A c) 47 (0,0)):=⟨_,rfl⟩;have HWA:=Aside0.mk hwa;have BK:Aside0 (wa.heap[w.heap.size]?=some (.cells (SVc s A c) 47 (0,0))):=⟨by rw[hwa];exact heap_alloc_new w _⟩;have HB:Aside0 (Below w.heap.size w wa):=⟨by rw[hwa];exact al_below w _⟩;clear hwa;go_enter Try.func26,Try.ntmps26
 go_upto_region 1 with fail
 rw[←HWA.out];have hz0:wa.cell? ⟨w.heap.size,0,none⟩=some (.int .i64 s.src):=(blk_cell BK.out 0).trans rfl;have hz1:wa.cell? ⟨w.heap.size,1,none⟩=some (.int .i64 s.dst):=(blk_cell BK.out 1).trans rfl;have hz2:wa.cell? ⟨w.heap.size,2,none⟩=some (.int .i64 s.seq):=(blk_cell BK.out 2).trans rfl;have hz3:wa.cell? ⟨w.heap.size,3,none⟩=some (.int .i64 s.ack):=(blk_cell BK.out 3).trans rfl;have hz4:wa.cell? ⟨w.heap.size,4,none⟩=some (.slice A s.data.length c):=(blk_cell BK.out 4).trans rfl;go_wp2_with (go_at_call 43;refine (within_calls _ _ _ _).mono ?_;rintro e w1 ⟨rfl,hb⟩;have n0_:=Aside0.mk (below_step HB.out hb);have n1_:=Aside0.mk (blk_keep hb BK.out);clear HB BK hb hz0 hz1 hz2 hz3 hz4;have HB:=n0_;have BK:=n1_;clear n0_ n1_;have hz0:w1.cell? ⟨w.heap.size,0,none⟩=some (.int .i64 s.src):=(blk_cell BK.out 0).trans rfl;have hz1:w1.cell? ⟨w.heap.size,1,none⟩=some (.int .i64 s.dst):=(blk_cell BK.out 1).trans rfl;have hz2:w1.cell? ⟨w.heap.size,2,none⟩=some (.int .i64 s.seq):=(blk_cell BK.out 2).trans rfl;have hz3:w1.cell? ⟨w.heap.size,3,none⟩=some (.int .i64 s.ack):=(blk_cell BK.out 3).trans rfl;have hz4:w1.cell? ⟨w.heap.size,4,none⟩=some (.slice A s.data.length c):=(blk_cell BK.out 4).trans rfl)
 all_goals go_ret
 all_goals refine ⟨congrArg (fun b=>Ending.returned (Value.bool b)) (bool_dcd ?_),HB.out⟩
 all_goals rw[HS.out,sgB]
 all_goals clear HS HB BK HWA hu47
 all_goals first|(simp[*];done)|(simp_all;done)|(simp[*];omega)|(simp_all;omega)
end Go.Proofs.Ytpgdmmjbhjbbhaa.Rf
end
