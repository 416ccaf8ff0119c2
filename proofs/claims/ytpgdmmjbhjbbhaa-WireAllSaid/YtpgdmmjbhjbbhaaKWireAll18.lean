/- texts that the proof needs, laid together by a program of this session. -/
import Derived.Test.YtpgdmmjbhjbbhaaKWireAll17
set_option maxRecDepth 100000
set_option maxHeartbeats 16000000
set_option linter.unusedVariables false
set_option linter.unusedSimpArgs false
section
namespace Go.Proofs.Ytpgdmmjbhjbbhaa.Rf
open Go Go.RowKit P Sp Vd En Wr Lw YtpgdmmjbhjbbhaaW.PrintWords YtpgdmmjbhjbbhaaW.PrintLast YtpgdmmjbhjbbhaaW.PrintMore
open Go.Proofs.Ytpgdmmjbhjbbhaa.Rd (pl In setRow_far setRow_blk RVc DecRP results_cell_two inf50)
theorem rdecrep_calls (w:World) (A:Option Addr) (c:Nat) (b:List Int) (hi:In w A c b):
  Calls Try.prog 75 #[.slice A b.length c] w fun e w'=>DecRP w (whole zRep repP b) e w':=by
 have HI:=Aside0.mk hi;have HS:Aside0 (Src b):=⟨⟨hi.len,hi.isB⟩⟩;obtain ⟨wa,hwa⟩:∃ wa,wa=w.alloc (.cells #[.int .i64 0,.int .i64 0,.int .i64 0,.int .i64 0] 50 (0,0)):=⟨_,rfl⟩;have HWA:=Aside0.mk hwa;have HB:Aside0 (Below w.heap.size w wa∧wa.heap.size=w.heap.size+1∧wa.heap[w.heap.size]?=some (.cells (RVc zRep) 50 (0,0))):=⟨by rw[hwa];exact ⟨al_below w _,by simp,heap_alloc_new w _⟩⟩;have hu50:=Try.underlying50;have hu27:=Try.underlying27;clear hwa hi;go_enter Try.func75,Try.ntmps75
 go_upto_region 1 with fail
 rw[←HWA.out];go_upto_region 2 with ((with_reducible refine gate_dst (N:=11) rfl ?_);refine box_event ?hg (N:=11) ?hd (cs := #[.slice A b.length c,.int .i64 0,.bool false]) (t:=132) ?hr ?_;(case hd=>rfl);(case hg=>rfl);(case hr=>first|(go_simp;done)|(go_simp;rfl));intro g hg w1 hbox hb;have H1:Aside0 (RSt w w1 g b (.ok () b)∧w1.heap[w.heap.size]?=some (.cells (RVc zRep) 50 (0,0))∧w.heap.size<g∧g<w1.heap.size):=⟨RSt.new HB.out.1 HI.out.cap HI.out.row hbox hg hb,blk_keep hb HB.out.2.2,by rw[hg,HB.out.2.1];omega,blk_lt hbox⟩;clear hg hbox hb)
 have HN:Aside0 (w.heap.size≠g):=⟨by have:=H1.out.2.2.1;omega⟩
 go_upto_region 3 with (first
  | (go_at_call 104;refine (call_calls w _ g b _ HS.out H1.out.1).mono ?_;rintro e w2 ⟨x,s1,rfl,h1,p1,k1⟩;have H2:Aside0 (RSt w w2 g b s1∧Post callP (.ok () b) x s1∧w2.heap[w.heap.size]?=some (.cells (RVc zRep) 50 (0,0))):=⟨h1,p1,kb1 k1 HN.out H1.out.2.1⟩;clear h1 p1 k1)
  | ((with_reducible refine gate_dst (N:=6) rfl ?_);refine box_event ?hg (N:=6) ?hd (cs := #[.int .i64 0,.int .i64 0,.int .i64 0,.int .i64 0]) (t:=50) ?hr ?_;(case hd=>rfl);(case hg=>rfl);(case hr=>first|(go_simp;done)|(go_simp;rfl));intro gc hg w3 hbox hb;have HG:Aside0 (w.heap.size<gc∧gc≠g):=⟨by have:=H1.out.2.2.1;have:=H2.out.1.lt;omega⟩;have H3:=Aside0.mk (And.intro (H2.out.1.below hb) (And.intro (blk_keep hb H2.out.2.2) hbox));clear hg hb hbox;go_loud (refine wpList_store_row rfl 50 (.tmp 6) (.tmp 14) rfl gc (RVc ⟨x,0,0⟩) (by rfl) (by rfl) 50 _ H3.out.2.2 inf50 rfl (by simp[RVc,Value.oneCell']) ?_)))
 obtain ⟨w4,hw4⟩:∃ w4,w4=w3.setRow gc (RVc ⟨x,0,0⟩):=⟨_,rfl⟩
 have H4:Aside0 (RSt w w4 g b s1∧w4.heap[w.heap.size]?=some (.cells (RVc zRep) 50 (0,0))∧w4.heap[gc]?=some (.cells (RVc ⟨x,0,0⟩) 50 (0,0))):=⟨by
  rw[hw4];exact ⟨H3.out.1.row HG.out.2 (Nat.le_of_lt HG.out.1) _,(setRow_far (by have:=HG.out.1;omega) _).trans H3.out.2.1,setRow_blk H3.out.2.2 _⟩⟩
 have HP1:=Aside0.mk H2.out.2.1;(try simp only[Act.put,List.setIfInBounds_toArray,List.set_cons_zero,List.set_cons_succ])
 rw[←hw4];clear hw4 H2 H3 H1
 go_upto_region 5 with (first
  | (go_at_call 107;refine (sign_calls w _ g b s2 HS.out (H5.out.1.other HG.out.2 (Nat.le_of_lt HG.out.1) 2 _)).mono ?_;rintro e w6 ⟨v,s3,rfl,h1,p1,k1⟩;have H6:=Aside0.mk (And.intro h1 (And.intro p1 (And.intro (kb1 k1 HN.out (blk_far H5.out.2.2.1 (Nat.ne_of_lt HG.out.1) _)) (kb1 k1 HG.out.2 (blk_upd (cs2:=RVc ⟨x,er,0⟩) H5.out.2.2.2 rfl)))));clear h1 p1 k1 kc kf;have kc:w6.cell? ⟨gc,3,none⟩=some (.int .i64 0):=(blk_cell H6.out.2.2.2 3).trans rfl;have kf:=blk_frozen H6.out.2.2.2 3)
  | (go_at_call 102;refine (num_calls w _ g b s1 0 255 (by decide) (by decide) (by decide) HS.out H4.out.1).mono ?_;rintro e w5 ⟨er,s2,rfl,h1,p1,k1,-,-⟩;have H5:=Aside0.mk (And.intro h1 (And.intro p1 (And.intro (kb1 k1 HN.out H4.out.2.1) (kb1 k1 HG.out.2 H4.out.2.2))));clear h1 p1 k1;have kc:w5.cell? ⟨gc,2,none⟩=some (.int .i64 0):=(blk_cell H5.out.2.2.2 2).trans rfl;have kf:=blk_frozen H5.out.2.2.2 2))
 obtain ⟨w7,hw7⟩:∃ w7,w7=w6.setCell ⟨gc,3,none⟩ (.int .i64 v):=⟨_,rfl⟩
 have H7:Aside0 (RSt w w7 g b s3∧w7.heap[w.heap.size]?=some (.cells (RVc zRep) 50 (0,0))∧w7.heap[gc]?=some (.cells (RVc ⟨x,er,v⟩) 50 (0,0))):=⟨by
  rw[hw7];exact ⟨H6.out.1.other HG.out.2 (Nat.le_of_lt HG.out.1) 3 _,blk_far H6.out.2.2.1 (Nat.ne_of_lt HG.out.1) _,blk_upd (cs2:=RVc ⟨x,er,v⟩) H6.out.2.2.2 rfl⟩⟩
 have HP:Aside0 (Post repP (.ok () b) ⟨x,er,v⟩ s3):=⟨HP1.out.bnd (H5.out.2.1.bnd (H6.out.2.1.bnd (Post.ret _ _)))⟩;rw[←hw7];clear hw7 H4 H5 H6 HP1 kc kf;obtain ⟨dv,hdv⟩:∃ dv,dv=doneV b s3:=⟨_,rfl⟩;have HDV:=Aside0.mk hdv;clear hdv;go_upto_region 6 with (go_at_call 93;refine (done_calls w _ g b _ HS.out H7.out.1).mono ?_;rintro e w8 ⟨rfl,h1,k1⟩;rw[←HDV.out];have H8:Aside0 (Below w.heap.size w w8∧w8.heap[w.heap.size]?=some (.cells (RVc zRep) 50 (0,0))∧w8.heap[gc]?=some (.cells (RVc ⟨x,er,v⟩) 50 (0,0))):=⟨h1.bel,kb1 k1 HN.out H7.out.2.1,kb1 k1 HG.out.2 H7.out.2.2⟩;clear h1 k1)
 obtain ⟨d1,d2⟩:=dv;rcases done_whole HP.out zRep with ⟨hd,hW⟩|⟨pt,hd,hW⟩
 ·have hd2:=HDV.out.trans hd
  injection hd2 with e1 e2
  subst e1 e2;have HW:=Aside0.mk hW;clear hd hW;have kc0:w8.cell? ⟨w.heap.size,0,none⟩=some (.int .i64 0):=(blk_cell H8.out.2.1 0).trans rfl;have kcf0:=blk_frozen H8.out.2.1 0;have kc1:w8.cell? ⟨w.heap.size,1,none⟩=some (.int .i64 0):=(blk_cell H8.out.2.1 1).trans rfl;have kcf1:=blk_frozen H8.out.2.1 1;have kc2:w8.cell? ⟨w.heap.size,2,none⟩=some (.int .i64 0):=(blk_cell H8.out.2.1 2).trans rfl;have kcf2:=blk_frozen H8.out.2.1 2;have kc3:w8.cell? ⟨w.heap.size,3,none⟩=some (.int .i64 0):=(blk_cell H8.out.2.1 3).trans rfl;have kcf3:=blk_frozen H8.out.2.1 3;have kx0:w8.cell? ⟨gc,0,none⟩=some (.int .i64 x.f0):=(blk_cell H8.out.2.2 0).trans rfl;have kx1:w8.cell? ⟨gc,1,none⟩=some (.int .i64 x.f1):=(blk_cell H8.out.2.2 1).trans rfl;have kx2:w8.cell? ⟨gc,2,none⟩=some (.int .i64 er):=(blk_cell H8.out.2.2 2).trans rfl;have kx3:w8.cell? ⟨gc,3,none⟩=some (.int .i64 v):=(blk_cell H8.out.2.2 3).trans rfl;have hn1:w.heap.size≠gc:=by have:=HG.out;omega
  have hn2:=Ne.symm hn1;go_wp2
  (try simp only[Exit.inBlock,Exit.then])
  have he:=blk_set (blk_set (blk_set (blk_set H8.out.2.1 0 (.int .i64 x.f0)) 1 (.int .i64 x.f1)) 2 (.int .i64 er)) 3 (.int .i64 v);refine bodyPost_ret (v := .tuple #[.agg (RVc ⟨x,er,v⟩),.int .i64 0,.int .i64 0]) ?_ rfl ?_
  ·exact results_cell_two (fn:=Try.f75) (p:=2) (q:=3) (r:=4) rfl _ _ w.heap.size 50 _ (0,0) _ (by rfl) (blk_is he (cs2:=RVc ⟨x,er,v⟩) rfl) hu50 rfl inf50
  refine ⟨((((H8.out.1.setCell (Nat.le_refl _) _).setCell (Nat.le_refl _) _).setCell (Nat.le_refl _) _).setCell (Nat.le_refl _) _),?_⟩;rw[HW.out];(try rfl)
 ·have hd2:=HDV.out.trans hd
  injection hd2 with e1 e2
  subst e1 e2;have HW:=Aside0.mk hW;clear hd hW;have kc0:w8.cell? ⟨w.heap.size,0,none⟩=some (.int .i64 0):=(blk_cell H8.out.2.1 0).trans rfl;have kcf0:=blk_frozen H8.out.2.1 0;have kc1:w8.cell? ⟨w.heap.size,1,none⟩=some (.int .i64 0):=(blk_cell H8.out.2.1 1).trans rfl;have kcf1:=blk_frozen H8.out.2.1 1;have kc2:w8.cell? ⟨w.heap.size,2,none⟩=some (.int .i64 0):=(blk_cell H8.out.2.1 2).trans rfl;have kcf2:=blk_frozen H8.out.2.1 2;have kc3:w8.cell? ⟨w.heap.size,3,none⟩=some (.int .i64 0):=(blk_cell H8.out.2.1 3).trans rfl;have kcf3:=blk_frozen H8.out.2.1 3;go_wp2
  (try simp only[Exit.inBlock,Exit.then])
  have he:=blk_set (blk_set (blk_set (blk_set H8.out.2.1 0 (.int .i64 0)) 1 (.int .i64 0)) 2 (.int .i64 0)) 3 (.int .i64 0);refine bodyPost_ret (v := .tuple #[.agg (RVc zRep),.int .i64 d1,.int .i64 20]) ?_ rfl ?_
  ·exact results_cell_two (fn:=Try.f75) (p:=2) (q:=3) (r:=4) rfl _ _ w.heap.size 50 _ (0,0) _ (by rfl) (blk_is he (cs2:=RVc zRep) rfl) hu50 rfl inf50
  refine ⟨((((H8.out.1.setCell (Nat.le_refl _) _).setCell (Nat.le_refl _) _).setCell (Nat.le_refl _) _).setCell (Nat.le_refl _) _),?_⟩;rw[HW.out];(try rfl)
end Go.Proofs.Ytpgdmmjbhjbbhaa.Rf
end
section
namespace Go.Proofs.Ytpgdmmjbhjbbhaa.Rf
open Go Go.RowKit P Sp Vd En Wr Lw YtpgdmmjbhjbbhaaW.PrintWords YtpgdmmjbhjbbhaaW.PrintLast YtpgdmmjbhjbbhaaW.PrintMore
open Go.Proofs.Ytpgdmmjbhjbbhaa.Rd (pl In setRow_far setRow_blk SGc DecSP results_cell_two inf47 R_keep2 sg_one)
def segTail (f t q a:Int):Rdr Seg:=bnd (numP (if q=0 then 0 else 1) (if q=0 then 0 else 4000)) fun n=>bnd (takeP n.toNat) fun d=>ret ⟨f,t,q,a,d⟩
theorem rdecseg_calls (w:World) (A:Option Addr) (c:Nat) (b:List Int) (hi:In w A c b):
  Calls Try.prog 71 #[.slice A b.length c] w fun e w'=>DecSP w (whole zSeg segP b) e w':=by
 have HI:=Aside0.mk hi;have HS:Aside0 (Src b):=⟨⟨hi.len,hi.isB⟩⟩;obtain ⟨wa,hwa⟩:∃ wa,wa=w.alloc (.cells #[.int .i64 0,.int .i64 0,.int .i64 0,.int .i64 0,.slice none 0 0] 47 (0,0)):=⟨_,rfl⟩;have HWA:=Aside0.mk hwa;have HB:Aside0 (Below w.heap.size w wa∧wa.heap.size=w.heap.size+1∧wa.heap[w.heap.size]?=some (.cells (SGc 0 0 0 0 (.slice none 0 0)) 47 (0,0))):=⟨by rw[hwa];exact ⟨al_below w _,by simp,heap_alloc_new w _⟩⟩;have hu47:=Try.underlying47;clear hwa hi;go_enter Try.func71,Try.ntmps71
 go_upto_region 1 with fail
 rw[←HWA.out];go_upto_region 2 with ((with_reducible refine gate_dst (N:=12) rfl ?_);refine box_event ?hg (N:=12) ?hd (cs := #[.slice A b.length c,.int .i64 0,.bool false]) (t:=132) ?hr ?_;(case hd=>rfl);(case hg=>rfl);(case hr=>first|(go_simp;done)|(go_simp;rfl));intro g hg w1 hbox hb;have H1:Aside0 (RSt w w1 g b (.ok () b)∧w1.heap[w.heap.size]?=some (.cells (SGc 0 0 0 0 (.slice none 0 0)) 47 (0,0))∧w.heap.size<g∧g<w1.heap.size):=⟨RSt.new HB.out.1 HI.out.cap HI.out.row hbox hg hb,blk_keep hb HB.out.2.2,by rw[hg,HB.out.2.1];omega,blk_lt hbox⟩;clear hg hbox hb)
 have HN:Aside0 (w.heap.size≠g):=⟨by have:=H1.out.2.2.1;omega⟩
 go_upto_region 3 with (first
  | (go_at_call 102;refine (num_calls w _ g b _ 0 15 (by decide) (by decide) (by decide) HS.out H1.out.1).mono ?_;rintro e w2 ⟨f,s1,rfl,h1,p1,k1,-,-⟩;have H2:Aside0 (RSt w w2 g b s1∧Post (numP 0 15) (.ok () b) f s1∧w2.heap[w.heap.size]?=some (.cells (SGc 0 0 0 0 (.slice none 0 0)) 47 (0,0))):=⟨h1,p1,kb1 k1 HN.out H1.out.2.1⟩;clear h1 p1 k1)
  | ((with_reducible refine gate_dst (N:=6) rfl ?_);refine box_event ?hg (N:=6) ?hd (cs := #[.int .i64 0,.int .i64 0,.int .i64 0,.int .i64 0,.slice none 0 0]) (t:=47) ?hr ?_;(case hd=>rfl);(case hg=>rfl);(case hr=>first|(go_simp;done)|(go_simp;rfl));intro gc hg w3 hbox hb;have HG:Aside0 (w.heap.size<gc∧gc≠g):=⟨by have:=H1.out.2.2.1;have:=H2.out.1.lt;omega⟩;have H3:=Aside0.mk (And.intro (H2.out.1.below hb) (And.intro (blk_keep hb H2.out.2.2) hbox));clear hg hb hbox;go_loud (refine wpList_store_row rfl 47 (.tmp 6) (.tmp 15) rfl gc (SGc f 0 0 0 (.slice none 0 0)) (by rfl) (by rfl) 47 _ H3.out.2.2 inf47 rfl (by simp[SGc,Value.oneCell']) ?_)))
 obtain ⟨w4,hw4⟩:∃ w4,w4=w3.setRow gc (SGc f 0 0 0 (.slice none 0 0)):=⟨_,rfl⟩
 have H4:Aside0 (RSt w w4 g b s1∧w4.heap[w.heap.size]?=some (.cells (SGc 0 0 0 0 (.slice none 0 0)) 47 (0,0))∧w4.heap[gc]?=some (.cells (SGc f 0 0 0 (.slice none 0 0)) 47 (0,0))):=⟨by
  rw[hw4];exact ⟨H3.out.1.row HG.out.2 (Nat.le_of_lt HG.out.1) _,(setRow_far (by have:=HG.out.1;omega) _).trans H3.out.2.1,setRow_blk H3.out.2.2 _⟩⟩
 have HP1:=Aside0.mk H2.out.2.1;(try simp only[Act.put,List.setIfInBounds_toArray,List.set_cons_zero,List.set_cons_succ])
 rw[←hw4];clear hw4 H2 H3 H1
 go_upto_region 6 with (first
  | (go_at_call 102;refine (num_calls w _ g b s3 0 1099511627776 (by decide) (by decide) (by decide) HS.out (H6.out.1.other HG.out.2 (Nat.le_of_lt HG.out.1) 2 _)).mono ?_;rintro e w7 ⟨a,s4,rfl,h1,p1,k1,-,-⟩;have H7:=Aside0.mk (And.intro h1 (And.intro p1 (And.intro (kb1 k1 HN.out (blk_far H6.out.2.2.1 (Nat.ne_of_lt HG.out.1) _)) (kb1 k1 HG.out.2 (blk_upd (cs2:=SGc f t q 0 (.slice none 0 0)) H6.out.2.2.2 rfl)))));clear h1 p1 k1 kc kf;have kc:w7.cell? ⟨gc,3,none⟩=some (.int .i64 0):=(blk_cell H7.out.2.2.2 3).trans rfl;have kf:=blk_frozen H7.out.2.2.2 3)
  | (go_at_call 102;refine (num_calls w _ g b s2 0 1099511627776 (by decide) (by decide) (by decide) HS.out (H5.out.1.other HG.out.2 (Nat.le_of_lt HG.out.1) 1 _)).mono ?_;rintro e w6 ⟨q,s3,rfl,h1,p1,k1,-,-⟩;have H6:=Aside0.mk (And.intro h1 (And.intro p1 (And.intro (kb1 k1 HN.out (blk_far H5.out.2.2.1 (Nat.ne_of_lt HG.out.1) _)) (kb1 k1 HG.out.2 (blk_upd (cs2:=SGc f t 0 0 (.slice none 0 0)) H5.out.2.2.2 rfl)))));clear h1 p1 k1 kc kf;have kc:w6.cell? ⟨gc,2,none⟩=some (.int .i64 0):=(blk_cell H6.out.2.2.2 2).trans rfl;have kf:=blk_frozen H6.out.2.2.2 2)
  | (go_at_call 102;refine (num_calls w _ g b s1 0 15 (by decide) (by decide) (by decide) HS.out H4.out.1).mono ?_;rintro e w5 ⟨t,s2,rfl,h1,p1,k1,-,-⟩;have H5:=Aside0.mk (And.intro h1 (And.intro p1 (And.intro (kb1 k1 HN.out H4.out.2.1) (kb1 k1 HG.out.2 H4.out.2.2))));clear h1 p1 k1;have kc:w5.cell? ⟨gc,1,none⟩=some (.int .i64 0):=(blk_cell H5.out.2.2.2 1).trans rfl;have kf:=blk_frozen H5.out.2.2.2 1))
 obtain ⟨w8,hw8⟩:∃ w8,w8=w7.setCell ⟨gc,3,none⟩ (.int .i64 a):=⟨_,rfl⟩
 have H8:Aside0 (RSt w w8 g b s4∧w8.heap[w.heap.size]?=some (.cells (SGc 0 0 0 0 (.slice none 0 0)) 47 (0,0))∧w8.heap[gc]?=some (.cells (SGc f t q a (.slice none 0 0)) 47 (0,0))):=⟨by
  rw[hw8];exact ⟨H7.out.1.other HG.out.2 (Nat.le_of_lt HG.out.1) 3 _,blk_far H7.out.2.2.1 (Nat.ne_of_lt HG.out.1) _,blk_upd (cs2:=SGc f t q a (.slice none 0 0)) H7.out.2.2.2 rfl⟩⟩
 have HPT:Aside0 (∀ x s',Post (segTail f t q a) s4 x s'→Post segP (.ok () b) x s'):=⟨fun x s' h=>HP1.out.bnd (H5.out.2.1.bnd (H6.out.2.1.bnd (H7.out.2.1.bnd h)))⟩;rw[←hw8];clear hw8 H4 H5 H6 H7 HP1 kc kf;have kq:w8.cell? ⟨gc,2,none⟩=some (.int .i64 q):=(blk_cell H8.out.2.2 2).trans rfl;by_cases hz:q=0
 case' pos=>
  have hz2:(q == 0)=true:=by simp[hz]
  have HZZ:(numP (if q=0 then 0 else 1) (if q=0 then 0 else 4000))=numP 0 0:=by rw[if_pos hz,if_pos hz]
  go_upto_region 10 with (go_at_call 102;refine (num_calls w _ g b s4 0 0 (by decide) (by decide) (by decide) HS.out H8.out.1).mono ?_;rintro e w9 ⟨n,s5,rfl,h1,p1,k1,r0,r1⟩;obtain ⟨n,rfl⟩:∃ m:Nat,n=(m:Int):=⟨n.toNat,by omega⟩;have H9:Aside0 (RSt w w9 g b s5∧w9.heap[w.heap.size]?=some (.cells (SGc 0 0 0 0 (.slice none 0 0)) 47 (0,0))∧w9.heap[gc]?=some (.cells (SGc f t q a (.slice none 0 0)) 47 (0,0))∧n≤4000):=⟨h1,kb1 k1 HN.out H8.out.2.1,kb1 k1 HG.out.2 H8.out.2.2,by omega⟩;have HT:Aside0 (∀ d s',Post (takeP n) s5 d s'→Post segP (.ok () b) ⟨f,t,q,a,d⟩ s'):=⟨fun d s' hd=>HPT.out _ _ (by rw[segTail,HZZ];exact p1.bnd (by rw[Int.toNat_natCast];exact hd.bnd (Post.ret _ _)))⟩;clear h1 p1 k1 r0 r1)
  clear hz hz2 HZZ
 case' neg=>
  have hz2:(q == 0)=false:=by simp[hz]
  have HZZ:(numP (if q=0 then 0 else 1) (if q=0 then 0 else 4000))=numP 1 4000:=by rw[if_neg hz,if_neg hz]
  go_upto_region 10 with (go_at_call 102;refine (num_calls w _ g b s4 1 4000 (by decide) (by decide) (by decide) HS.out H8.out.1).mono ?_;rintro e w9 ⟨n,s5,rfl,h1,p1,k1,r0,r1⟩;obtain ⟨n,rfl⟩:∃ m:Nat,n=(m:Int):=⟨n.toNat,by omega⟩;have H9:Aside0 (RSt w w9 g b s5∧w9.heap[w.heap.size]?=some (.cells (SGc 0 0 0 0 (.slice none 0 0)) 47 (0,0))∧w9.heap[gc]?=some (.cells (SGc f t q a (.slice none 0 0)) 47 (0,0))∧n≤4000):=⟨h1,kb1 k1 HN.out H8.out.2.1,kb1 k1 HG.out.2 H8.out.2.2,by omega⟩;have HT:Aside0 (∀ d s',Post (takeP n) s5 d s'→Post segP (.ok () b) ⟨f,t,q,a,d⟩ s'):=⟨fun d s' hd=>HPT.out _ _ (by rw[segTail,HZZ];exact p1.bnd (by rw[Int.toNat_natCast];exact hd.bnd (Post.ret _ _)))⟩;clear h1 p1 k1 r0 r1)
  clear hz hz2 HZZ
 all_goals
  refine start_ (n:=8) (S:=fun w'=>w'.heap[gc]?=some (.cells (SGc f t q a (.slice none 0 0)) 47 (0,0))) (ds:=[7]) #[false,false,false,false,false,false,false,false] (by kernel_rfl) rfl rfl (blk_drew H9.out.2.2.1) (fun hHeld=>?_);refine pure_ (i:=0) (N:=some 32) (v:=?_) (a':=?_) #[true,false,false,false,false,false,false,false] rfl rfl (by kernel_rfl) (fun _ _ _ h=>h) (Or.inl ⟨by rfl,?_⟩) ?_ ?_
  rotate_left
  ·intro w';go_simp
   with_reducible rfl
  rotate_left
  ·simp only[Act.put,List.setIfInBounds_toArray,List.set_cons_zero,List.set_cons_succ,i64_w,i32_w];rfl
  refine take_ (i:=1) (N:=some 33) (v := .slice none 0 0) (a':=?_) #[true,true,false,false,false,false,false,false] rfl rfl (by kernel_rfl) (fun _ _ _ h=>h) (Or.inl ⟨by rfl,?_⟩) hHeld ?_ ?_
  ·intro w' hS;have hz:w'.cell? ⟨gc,4,none⟩=some (.slice none 0 0):=(blk_cell hS 4).trans rfl;go_simp
  rotate_left
  ·simp only[Act.put,List.setIfInBounds_toArray,List.set_cons_zero,List.set_cons_succ,i64_w,i32_w];rfl
  refine pure_ (i:=2) (N:=some 34) (v:=?_) (a':=?_) #[true,true,true,false,false,false,false,false] rfl rfl (by kernel_rfl) (fun _ _ _ h=>h) (Or.inl ⟨by rfl,?_⟩) ?_ ?_
  rotate_left
  ·intro w';go_simp
   with_reducible rfl
  rotate_left
  ·simp only[Act.put,List.setIfInBounds_toArray,List.set_cons_zero,List.set_cons_succ,i64_w,i32_w];rfl
  refine pure_ (i:=3) (N:=some 35) (v:=?_) (a':=?_) #[true,true,true,true,false,false,false,false] rfl rfl (by kernel_rfl) (fun _ _ _ h=>h) (Or.inl ⟨by rfl,?_⟩) ?_ ?_
  rotate_left
  ·intro w';go_simp
   with_reducible rfl
  rotate_left
  ·simp only[Act.put,List.setIfInBounds_toArray,List.set_cons_zero,List.set_cons_succ,i64_w,i32_w];rfl
  refine one_ (i:=4) (N:=some 36) #[true,true,true,true,true,false,false,false] rfl rfl (by kernel_rfl) (by decide) (fun K hK=>?_);refine goes_ Try.func103 (by kernel_rfl) rfl #[.pointer (some ⟨g,0,none⟩),.int .i64 (n:Int)] (by rfl) rfl rfl (by (try simp only[List.map_toArray,List.map_cons,List.map_nil]);first|done|rfl) ?_;refine (take_calls w _ g b s5 n (by have:=H9.out.2.2.2;omega) HS.out (H9.out.1.below (below_drew1 (Below.refl _ _)))).mono ?_;rintro e w10 ⟨d,A1,c1,s6,rfl,hc1,hC,h1,p1,k1,hl⟩;have H10:Aside0 (RSt w w10 g b s6∧Post segP (.ok () b) ⟨f,t,q,a,d⟩ s6∧w10.heap[w.heap.size]?=some (.cells (SGc 0 0 0 0 (.slice none 0 0)) 47 (0,0))∧w10.heap[gc]?=some (.cells (SGc f t q a (.slice none 0 0)) 47 (0,0))∧d.length≤4000):=⟨h1,HT.out _ _ p1,kb1 k1 HN.out (blk_drew H9.out.2.1),kb1 k1 HG.out.2 (blk_drew H9.out.2.2.1),by have:=H9.out.2.2.2;omega⟩;have HC:=Aside0.mk (Kd.C_below hC h1.bel);clear hc1 hC h1 p1 k1 hl;refine ⟨_,rfl,?_⟩;refine hK.out _ _ H10.out.2.2.2.1 (fun hHeld=>?_);clear hK K;refine norm_ (a':=?_) ?_ ?_
  rotate_left
  ·show Act.put _ (some 36) _=_
   simp only[Act.put,List.setIfInBounds_toArray,List.set_cons_zero,List.set_cons_succ,i64_w,i32_w];rfl
  refine one_ (i:=5) (N:=some 37) #[true,true,true,true,true,true,false,false] rfl rfl (by kernel_rfl) (by decide) (fun K hK=>?_);refine Kd.R_append_rows_step (Kd.int .u8) (Rr:=Kd.K (Kd.int .u8) w10) (w0:=w10) w10.heap.size (by rfl) (.tmp 33) (.tmp 36) 36 5 (.int .u8 0) 1 (by rfl) Try.underlying36 inf8 rfl (by decide) (by decide) (.slice none 0 0) [] d A1 d.length c1 (fun _=>True) (fun _=>False) (by rfl) (by rfl) (Kd.R_nil _ _ _ _ _) HC.out kM8 (fun _ hk=>hk.elim) (fun _ _=>trivial) (Below.refl _ _) (Nat.le_refl _) (by have:=H10.out.2.2.2.2;simp;omega) ?_;intro v w11 hR hB hg hat;rw[List.nil_append] at hR;obtain ⟨Av,cv,rfl⟩:=Kd.R_slice hR;have H11:Aside0 (RSt w w11 g b s6∧w11.heap[w.heap.size]?=some (.cells (SGc 0 0 0 0 (.slice none 0 0)) 47 (0,0))∧w11.heap[gc]?=some (.cells (SGc f t q a (.slice none 0 0)) 47 (0,0))∧gc<w10.heap.size):=⟨H10.out.1.below hB,blk_keep hB H10.out.2.2.1,blk_keep hB H10.out.2.2.2.1,blk_lt H10.out.2.2.2.1⟩;have HR:=Aside0.mk hR;clear hR hB hg hat;refine hK.out _ _ H11.out.2.2.1 (fun hHeld=>?_);clear hK K;refine norm_ (a':=?_) ?_ ?_
  rotate_left
  ·show Act.put _ (some 37) _=_
   simp only[Act.put,List.setIfInBounds_toArray,List.set_cons_zero,List.set_cons_succ,i64_w,i32_w];rfl
  refine pure_ (i:=6) (N:=some 38) (v:=?_) (a':=?_) #[true,true,true,true,true,true,true,false] rfl rfl (by kernel_rfl) (fun _ _ _ h=>h) (Or.inl ⟨by rfl,?_⟩) ?_ ?_
  rotate_left
  ·intro w';go_simp
   with_reducible rfl
  rotate_left
  ·simp only[Act.put,List.setIfInBounds_toArray,List.set_cons_zero,List.set_cons_succ,i64_w,i32_w];rfl
  refine last_ (i:=7) (N:=none) #[true,true,true,true,true,true,true,true] rfl rfl (by kernel_rfl) (by decide) (fun K hK=>?_);have kc:w11.cell? ⟨gc,4,none⟩=some (.slice none 0 0):=(blk_cell H11.out.2.2.1 4).trans rfl;have kf:=blk_frozen H11.out.2.2.1 4;refine skip_ (w1:=?_) (by rfl) rfl ?_ ?_
  rotate_left
  ·go_simp
   rfl
  refine hK.out _ _ ?_;clear hK K kc kf;refine done_ (by kernel_rfl) ?_;obtain ⟨w12,hw12⟩:∃ w12,w12=w11.setCell ⟨gc,4,none⟩ (.slice Av d.length cv):=⟨_,rfl⟩;have HLT:Aside0 (g<w10.heap.size∧w.heap.size<w10.heap.size∧gc<w10.heap.size):=⟨⟨H10.out.1.lt,blk_lt H10.out.2.2.1,H11.out.2.2.2⟩⟩
  have H12 : Aside0 (RSt w w12 g b s6 ∧ w12.heap[w.heap.size]? = some (.cells (SGc 0 0 0 0 (.slice none 0 0)) 47 (0, 0)) ∧ w12.heap[gc]? = some (.cells (SGc f t q a (.slice Av d.length cv)) 47 (0, 0)) ∧ Kd.R (Kd.int .u8) 5 w12 w10.heap.size (fun _ => True) (.slice Av d.length cv) d) := ⟨by
    rw[hw12];exact ⟨H11.out.1.other HG.out.2 (Nat.le_of_lt HG.out.1) 4 _,blk_far H11.out.2.1 (Nat.ne_of_lt HG.out.1) _,blk_upd (cs2:=SGc f t q a (.slice Av d.length cv)) H11.out.2.2.1 rfl,R_keep2 (w1:=w11) HR.out (fun k h1 h2=>Below.heap_setCell w11 ⟨gc,4,none⟩ _ k (fun e=>by have:k=gc:=e;have:=HLT.out;omega))⟩⟩
  have HP:=Aside0.mk H10.out.2.1;rw[←hw12];clear hw12 H11 HR HC;obtain ⟨dv,hdv⟩:∃ dv,dv=doneV b s6:=⟨_,rfl⟩;have HDV:=Aside0.mk hdv;clear hdv;go_upto_region 12 with (go_at_call 93;refine (done_calls w _ g b _ HS.out H12.out.1).mono ?_;rintro e w13 ⟨rfl,h1,k1⟩;rw[←HDV.out];have H13:Aside0 (Below w.heap.size w w13∧w13.heap[w.heap.size]?=some (.cells (SGc 0 0 0 0 (.slice none 0 0)) 47 (0,0))∧w13.heap[gc]?=some (.cells (SGc f t q a (.slice Av d.length cv)) 47 (0,0))):=⟨h1.bel,kb1 k1 HN.out H12.out.2.1,kb1 k1 HG.out.2 H12.out.2.2.1⟩;have HR13:Aside0 (Kd.R (Kd.int .u8) 5 w13 w10.heap.size (fun _=>True) (.slice Av d.length cv) d):=⟨R_keep2 (w1:=w12) H12.out.2.2.2 (fun k h2 h3=>k1.2 k h2 (by have:=HLT.out;omega) (by simp))⟩;clear h1 k1)
  obtain ⟨d1,d2⟩:=dv;rcases done_whole HP.out zSeg with ⟨hd,hW⟩|⟨pt,hd,hW⟩
  ·have hd2:=HDV.out.trans hd
   injection hd2 with e1 e2
   subst e1 e2;have HW:=Aside0.mk hW;clear hd hW;have kc0:w13.cell? ⟨w.heap.size,0,none⟩=some (.int .i64 0):=(blk_cell H13.out.2.1 0).trans rfl;have kcf0:=blk_frozen H13.out.2.1 0;have kc1:w13.cell? ⟨w.heap.size,1,none⟩=some (.int .i64 0):=(blk_cell H13.out.2.1 1).trans rfl;have kcf1:=blk_frozen H13.out.2.1 1;have kc2:w13.cell? ⟨w.heap.size,2,none⟩=some (.int .i64 0):=(blk_cell H13.out.2.1 2).trans rfl;have kcf2:=blk_frozen H13.out.2.1 2;have kc3:w13.cell? ⟨w.heap.size,3,none⟩=some (.int .i64 0):=(blk_cell H13.out.2.1 3).trans rfl;have kcf3:=blk_frozen H13.out.2.1 3;have kc4:w13.cell? ⟨w.heap.size,4,none⟩=some (.slice none 0 0):=(blk_cell H13.out.2.1 4).trans rfl;have kcf4:=blk_frozen H13.out.2.1 4;have kx0:w13.cell? ⟨gc,0,none⟩=some (.int .i64 f):=(blk_cell H13.out.2.2 0).trans rfl;have kx1:w13.cell? ⟨gc,1,none⟩=some (.int .i64 t):=(blk_cell H13.out.2.2 1).trans rfl;have kx2:w13.cell? ⟨gc,2,none⟩=some (.int .i64 q):=(blk_cell H13.out.2.2 2).trans rfl;have kx3:w13.cell? ⟨gc,3,none⟩=some (.int .i64 a):=(blk_cell H13.out.2.2 3).trans rfl;have kx4:w13.cell? ⟨gc,4,none⟩=some (.slice Av d.length cv):=(blk_cell H13.out.2.2 4).trans rfl;have hn1:w.heap.size≠gc:=by have:=HG.out;omega
   have hn2:=Ne.symm hn1;go_wp2
   (try simp only[Exit.inBlock,Exit.then])
   have he:=blk_set (blk_set (blk_set (blk_set (blk_set H13.out.2.1 0 (.int .i64 f)) 1 (.int .i64 t)) 2 (.int .i64 q)) 3 (.int .i64 a)) 4 (.slice Av d.length cv);refine bodyPost_ret (v := .tuple #[.agg (SGc f t q a (.slice Av d.length cv)),.int .i64 0,.int .i64 0]) ?_ rfl ?_
   ·exact results_cell_two (fn:=Try.f71) (p:=2) (q:=3) (r:=4) rfl _ _ w.heap.size 47 _ (0,0) _ (by rfl) (blk_is he (cs2:=SGc f t q a (.slice Av d.length cv)) rfl) hu47 rfl inf47
   refine ⟨(((((H13.out.1.setCell (Nat.le_refl _) _).setCell (Nat.le_refl _) _).setCell (Nat.le_refl _) _).setCell (Nat.le_refl _) _).setCell (Nat.le_refl _) _),Av,cv,?_,?_⟩
   ·rw[HW.out];rfl
   ·rw[HW.out];exact Kd.R_lower (R_keep2 (w1:=w13) HR13.out (fun k h1 h2=>((((Below.heap_setCell _ ⟨w.heap.size,4,none⟩ _ k (fun e=>by have:k=w.heap.size:=e;have:=HLT.out;omega)).trans (Below.heap_setCell _ ⟨w.heap.size,3,none⟩ _ k (fun e=>by have:k=w.heap.size:=e;have:=HLT.out;omega))).trans (Below.heap_setCell _ ⟨w.heap.size,2,none⟩ _ k (fun e=>by have:k=w.heap.size:=e;have:=HLT.out;omega))).trans (Below.heap_setCell _ ⟨w.heap.size,1,none⟩ _ k (fun e=>by have:k=w.heap.size:=e;have:=HLT.out;omega))).trans (Below.heap_setCell _ ⟨w.heap.size,0,none⟩ _ k (fun e=>by have:k=w.heap.size:=e;have:=HLT.out;omega)))) (by have:=HLT.out;omega)
  ·have hd2:=HDV.out.trans hd
   injection hd2 with e1 e2
   subst e1 e2;have HW:=Aside0.mk hW;clear hd hW;have kc0:w13.cell? ⟨w.heap.size,0,none⟩=some (.int .i64 0):=(blk_cell H13.out.2.1 0).trans rfl;have kcf0:=blk_frozen H13.out.2.1 0;have kc1:w13.cell? ⟨w.heap.size,1,none⟩=some (.int .i64 0):=(blk_cell H13.out.2.1 1).trans rfl;have kcf1:=blk_frozen H13.out.2.1 1;have kc2:w13.cell? ⟨w.heap.size,2,none⟩=some (.int .i64 0):=(blk_cell H13.out.2.1 2).trans rfl;have kcf2:=blk_frozen H13.out.2.1 2;have kc3:w13.cell? ⟨w.heap.size,3,none⟩=some (.int .i64 0):=(blk_cell H13.out.2.1 3).trans rfl;have kcf3:=blk_frozen H13.out.2.1 3;have kc4:w13.cell? ⟨w.heap.size,4,none⟩=some (.slice none 0 0):=(blk_cell H13.out.2.1 4).trans rfl;have kcf4:=blk_frozen H13.out.2.1 4;go_wp2
   (try simp only[Exit.inBlock,Exit.then])
   have he:=blk_set (blk_set (blk_set (blk_set (blk_set H13.out.2.1 0 (.int .i64 0)) 1 (.int .i64 0)) 2 (.int .i64 0)) 3 (.int .i64 0)) 4 (.slice none 0 0);refine bodyPost_ret (v := .tuple #[.agg (SGc 0 0 0 0 (.slice none 0 0)),.int .i64 d1,.int .i64 20]) ?_ rfl ?_
   ·exact results_cell_two (fn:=Try.f71) (p:=2) (q:=3) (r:=4) rfl _ _ w.heap.size 47 _ (0,0) _ (by rfl) (blk_is he (cs2:=SGc 0 0 0 0 (.slice none 0 0)) rfl) hu47 rfl inf47
   refine ⟨(((((H13.out.1.setCell (Nat.le_refl _) _).setCell (Nat.le_refl _) _).setCell (Nat.le_refl _) _).setCell (Nat.le_refl _) _).setCell (Nat.le_refl _) _),none,0,?_,?_⟩
   ·rw[HW.out];rfl
   ·rw[HW.out];exact Kd.R_nil _ _ _ _ _
end Go.Proofs.Ytpgdmmjbhjbbhaa.Rf
end
section
namespace Go.Proofs.Ytpgdmmjbhjbbhaa.Rf
open Go Go.RowKit P Sp Vd En Wr Lw YtpgdmmjbhjbbhaaW.PrintWords YtpgdmmjbhjbbhaaW.PrintLast YtpgdmmjbhjbbhaaW.PrintMore
open Go.Proofs.Ytpgdmmjbhjbbhaa.Rd (pl In setRow_far setRow_blk mv_zero mv_one results_cell_two)
def DecN (w:World) (x:Msg×Int×Int) (e:Ending) (w':World):Prop:=
 Below w.heap.size w w'∧∃ A1 c1,e = .returned (.tuple #[.agg (MVc x.1 A1 c1),.int .i64 x.2.1,.int .i64 x.2.2])∧Kd.R k87 87 w' w.heap.size (fun _=>True) (.slice A1 x.1.views.length c1) x.1.views
theorem rdecode_calls (w:World) (A:Option Addr) (c:Nat) (b:List Int) (hi:In w A c b):
  Calls Try.prog 41 #[.slice A b.length c] w fun e w'=>DecN w (whole zMsg msgP b) e w':=by
 have HI:=Aside0.mk hi;have HS:Aside0 (Src b):=⟨⟨hi.len,hi.isB⟩⟩;obtain ⟨wa,hwa⟩:∃ wa,wa=w.alloc (.cells (MVc zMsg none 0) 33 (0,0)):=⟨_,rfl⟩;have HWA:=Aside0.mk hwa;rw[mv_zero] at HWA;have HB:Aside0 (Below w.heap.size w wa∧wa.heap.size=w.heap.size+1∧wa.heap[w.heap.size]?=some (.cells (MVc zMsg none 0) 33 (0,0))):=⟨by rw[hwa];exact ⟨al_below w _,by simp,heap_alloc_new w _⟩⟩;clear hwa hi;have hu33:=Try.underlying33;go_enter Try.func41,Try.ntmps41
 go_upto_region 1 with fail
 rw[←HWA.out];go_upto_region 2 with ((with_reducible refine gate_dst (N:=11) rfl ?_);refine box_event ?hg (N:=11) ?hd (cs := #[.slice A b.length c,.int .i64 0,.bool false]) (t:=132) ?hr ?_;(case hd=>rfl);(case hg=>rfl);(case hr=>first|(go_simp;done)|(go_simp;rfl));intro g hg w1 hbox hb;have H1:Aside0 (RSt w w1 g b (.ok () b)∧w1.heap[w.heap.size]?=some (.cells (MVc zMsg none 0) 33 (0,0))∧w.heap.size<g∧g<w1.heap.size):=⟨RSt.new HB.out.1 HI.out.cap HI.out.row hbox hg hb,blk_keep hb HB.out.2.2,by rw[hg,HB.out.2.1];omega,blk_lt hbox⟩;clear hg hbox hb)
 go_upto_region 3 with (first
  | (go_at_call 92;refine (rmsg_calls w _ g b _ HS.out H1.out.1).mono ?_;rintro e w2 ⟨m,s1,Am,cm,rfl,h1,p1,k1,hR⟩;have H2:Aside0 (RSt w w2 g b s1∧Post msgP (.ok () b) m s1∧w2.heap[w.heap.size]?=some (.cells (MVc zMsg none 0) 33 (0,0))∧Kd.R k87 87 w2 w1.heap.size (fun k=>w1.heap.size≤k∧k<w2.heap.size) (.slice Am m.views.length cm) m.views∧w.heap.size<w1.heap.size∧w.heap.size<w2.heap.size∧w1.heap.size≤w2.heap.size):=⟨h1,p1,kb1 k1 (by have:=H1.out.2.2.1;omega) H1.out.2.1,hR,blk_lt H1.out.2.1,by have:=k1.1;have:=blk_lt H1.out.2.1;omega,k1.1⟩;have HA:=Aside0.mk (heap_alloc_new w2 (.cells (MVc zMsg none 0) 33 (0,0)));clear h1 p1 k1 hR)
  | (refine wpList_store_row rfl 33 (.tmp 6) (.tmp 13) rfl w2.heap.size (MVc m Am cm) (by rfl) (by rfl) 33 _ HA.out inf33 rfl (mv_one _ _ _) ?_))
 obtain ⟨w3,hw3⟩:∃ w3,w3=(w2.alloc (.cells (MVc zMsg none 0) 33 (0,0))).setRow w2.heap.size (MVc m Am cm):=⟨_,rfl⟩;have HW3:=Aside0.mk hw3;rw[mv_zero] at HW3
 have H3 : Aside0 (RSt w w3 g b s1 ∧ w3.heap[w.heap.size]? = some (.cells (MVc zMsg none 0) 33 (0, 0)) ∧ w3.heap[w2.heap.size]? = some (.cells (MVc m Am cm) 33 (0, 0)) ∧ Kd.R k87 87 w3 w1.heap.size (fun k => w1.heap.size ≤ k ∧ k < w2.heap.size) (.slice Am m.views.length cm) m.views) := ⟨by
   have hb:Below w2.heap.size w2 w3:=by rw[hw3];exact below_setRow (al_below _ _) (Nat.le_refl _) _
   exact ⟨H2.out.1.below hb,blk_keep hb H2.out.2.2.1,by rw[hw3];exact setRow_blk HA.out _,Kd.R_below H2.out.2.2.2.1 hb⟩⟩
 rw[←HW3.out];have H0lt:Aside0 (w.heap.size<g∧g<w1.heap.size):=⟨H1.out.2.2⟩;clear hw3 HW3 HA H1;obtain ⟨dv,hdv⟩:∃ dv,dv=doneV b s1:=⟨_,rfl⟩;have HDV:=Aside0.mk hdv;clear hdv;go_upto_region 4 with (go_at_call 93;refine (done_calls w _ g b _ HS.out H3.out.1).mono ?_;rintro e w4 ⟨rfl,h1,k1⟩;rw[←HDV.out];have H4:Aside0 (Below w.heap.size w w4∧w4.heap[w.heap.size]?=some (.cells (MVc zMsg none 0) 33 (0,0))∧w4.heap[w2.heap.size]?=some (.cells (MVc m Am cm) 33 (0,0))∧Kd.R k87 87 w4 w.heap.size (fun k=>w1.heap.size≤k∧k<w2.heap.size) (.slice Am m.views.length cm) m.views∧w.heap.size<w1.heap.size):=⟨h1.bel,kb1 k1 (by have:=H0lt.out;omega) H3.out.2.1,kb1 k1 (by have:=H2.out.1.lt;omega) H3.out.2.2.1,Kd.R_lower (Kd.R_keep H3.out.2.2.2 k1 (fun k hk=>by have:=H0lt.out;omega)) (Nat.le_of_lt H2.out.2.2.2.2.1),H2.out.2.2.2.2.1⟩;clear h1 k1)
 obtain ⟨d1,d2⟩:=dv;rcases done_whole H2.out.2.1 zMsg with ⟨hd,hW⟩|⟨pt,hd,hW⟩
 ·have hd2:=HDV.out.trans hd
  injection hd2 with e1 e2
  subst e1 e2;have HW:=Aside0.mk hW;clear hd hW H2 H3;go_wp2_with ((with_reducible refine gate_dst (N:=24) rfl ?_);refine wpList_load_row rfl 33 (.tmp 6) rfl w2.heap.size (by rfl) 33 (MVc m Am cm) (0,0) _ H4.out.2.2.1 hu33 rfl inf33 ?_;go_loud (refine wpList_store_row rfl 33 (.tmp 2) (.tmp 24) rfl w.heap.size (MVc m Am cm) (by rfl) (by rfl) 33 _ H4.out.2.1 inf33 rfl (mv_one _ _ _) ?_))
  refine bodyPost_ret (v := .tuple #[.agg (MVc m Am cm),.int .i64 0,.int .i64 0]) ?_ rfl ?_
  ·exact results_cell_two (fn:=Try.f41) (p:=2) (q:=3) (r:=4) rfl _ _ w.heap.size 33 _ (0,0) _ (by rfl) (setRow_blk H4.out.2.1 _) hu33 rfl inf33
  refine ⟨below_setRow H4.out.1 (Nat.le_refl _) _,Am,cm,by rw[HW.out],?_⟩;rw[HW.out];exact Kd.R_mono (R_step' H4.out.2.2.2.1 (fun k hk=>setRow_far (by have:=H4.out.2.2.2.2;omega) _)) (fun _ _=>trivial)
 ·have hd2:=HDV.out.trans hd
  injection hd2 with e1 e2
  subst e1 e2;have HW:=Aside0.mk hW;clear hd hW H2 H3;go_wp2_with (refine wpList_store_row rfl 33 (.tmp 2) (.tmp 21) rfl w.heap.size (MVc zMsg none 0) (by rfl) (by rfl) 33 _ H4.out.2.1 inf33 rfl (mv_one _ _ _) ?_)
  refine bodyPost_ret (v := .tuple #[.agg (MVc zMsg none 0),.int .i64 d1,.int .i64 20]) ?_ rfl ?_
  ·exact results_cell_two (fn:=Try.f41) (p:=2) (q:=3) (r:=4) rfl _ _ w.heap.size 33 _ (0,0) _ (by rfl) (setRow_blk H4.out.2.1 _) hu33 rfl inf33
  refine ⟨below_setRow H4.out.1 (Nat.le_refl _) _,none,0,by rw[HW.out],?_⟩;rw[HW.out];exact Kd.R_nil _ _ _ _ _
end Go.Proofs.Ytpgdmmjbhjbbhaa.Rf
end
section
namespace Go.Proofs.Ytpgdmmjbhjbbhaa.Lw
open Go Go.RowKit P Sp Vd En Wr Rd Rf YtpgdmmjbhjbbhaaW.PrintWords YtpgdmmjbhjbbhaaW.PrintLast YtpgdmmjbhjbbhaaW.PrintMore
theorem newV_kept {w W W2:World} {A:Option Addr} {c lo hi:Nat} {xs:List S87} (h:NewV w W A c xs) (hk:Kept W W2 (fun k=>lo≤k∧k<hi)) (hh:hi≤w.heap.size):NewV w W2 A c xs:=by
 rcases h with h|⟨vb,h1,h2,h3,h4⟩
 ·exact .inl h
 ·exact .inr ⟨vb,h1,h2,h3,blk_kept h4 hk (by omega)⟩
theorem newV_below {w W W2:World} {A:Option Addr} {c:Nat} {xs:List S87} (h:NewV w W A c xs) (hk:Below W.heap.size W W2):NewV w W2 A c xs:=by
 rcases h with h|⟨vb,h1,h2,h3,h4⟩
 ·exact .inl h
 ·exact .inr ⟨vb,h1,h2,h3,blk_keep hk h4⟩
def VR (w W:World) (A:Option Addr) (c:Nat) (xs:List S87):Prop:=Kd.R k87 87 W w.heap.size (fun _=>True) (.slice A xs.length c) xs
theorem vr_C {w W:World} {A:Option Addr} {c:Nat} {xs:List S87} (h:VR w W A c xs):Kd.C k87 W A xs.length xs∧xs.length≤c:=by
 have:=Kd.R_reads' h;exact ⟨this.2.2,this.2.1⟩
theorem vr_kept {w W W2:World} {A:Option Addr} {c lo hi:Nat} {xs:List S87} (h:VR w W A c xs) (hk:Kept W W2 (fun k=>lo≤k∧k<hi)) (hh:hi≤w.heap.size):VR w W2 A c xs:=
 Kd.R_mono (Kd.R_kept (Kd.R_bound h) hk (fun k h1 h2=>by have:=h1.2.1;omega)) (fun _ _=>trivial)
theorem whole_views {b:List Int} (hb:IsB b) {x:Msg} {p er:Int} (h:whole zMsg msgP b=(x,p,er)):x.views.length≤64:=by
 have ht:=took_of msgP_codec safe_msg zMsg hb;rw[h] at ht;rcases ht with ⟨_,_,hv,_⟩|⟨_,_,_,hz⟩
 ·exact msgV_views hv
 ·obtain rfl:x=zMsg:=hz;exact Nat.zero_le _
theorem dec_law (w:World) (A:Option Addr) (c:Nat) (b:List Int) (n:Nat) (hn:b.length=n) (hi:In w A c b) {x:Msg} {p er:Int} (h:whole zMsg msgP b=(x,p,er)):
  Calls Try.prog 18 #[.slice A n c] w fun e w'=>∃ A1 c1,e = .returned (.tuple #[.agg (MVc x A1 c1),.int .i64 p,.int .i64 er])∧NewV w w' A1 c1 x.views∧Below w.heap.size w w':=by
 subst hn;refine (decode_calls w A c b hi).mono ?_;rintro e w' ⟨hb,A1,c1,he,hn⟩;rw[h] at he hn;exact ⟨A1,c1,he,hn,hb⟩
theorem rdec_law (w:World) (A:Option Addr) (c:Nat) (b:List Int) (n:Nat) (hn:b.length=n) (hi:In w A c b) {x:Msg} {p er:Int} (h:whole zMsg msgP b=(x,p,er)):
  Calls Try.prog 41 #[.slice A n c] w fun e w'=>∃ A1 c1,e = .returned (.tuple #[.agg (MVc x A1 c1),.int .i64 p,.int .i64 er])∧VR w w' A1 c1 x.views∧Below w.heap.size w w':=by
 subst hn;refine (rdecode_calls w A c b hi).mono ?_;rintro e w' ⟨hb,A1,c1,he,hn⟩;rw[h] at he hn;exact ⟨A1,c1,he,hn,hb⟩
theorem msg_same (m:Msg) (A:Option Addr) (c:Nat) (A2:Option Addr) (c2:Nat) (w:World) (h1:Kd.C k87 w A m.views.length m.views∧m.views.length≤c) (h2:Kd.C k87 w A2 m.views.length m.views∧m.views.length≤c2):
  Calls Try.prog 20 #[.agg (MVc m A c),.agg (MVc m A2 c2)] w fun e w'=>e = .returned (.bool true)∧Below w.heap.size w w':=by
 refine (same_calls m m A c A2 c2 w h1.1 h1.2 h2.1 h2.2).mono ?_;rintro e w' ⟨he,hb⟩;rw[dcd_pos rfl] at he;exact ⟨he,hb⟩
theorem in_front {w:World} {base:Nat} {ok:Nat→Prop} {A:Option Addr} {c n:Nat} {r:List Int} (h:Kd.R (Kd.int .u8) 5 w base ok (.slice A (n+2) c) r) (hr:r.length=n+2) (hb:IsB r):In w A c (r.take n)∧(r.take n).length=n:=by
 have h2:=Kd.R_reads' (Kd.R_take (m:=n) h (by omega));have hl:(r.take n).length=n:=by simp;omega
 exact ⟨⟨h2.2.2,fun y hy=>hb y (List.mem_of_mem_take hy),by omega⟩,hl⟩
structure DX (w W:World) (g hi n cb b4 b7:Nat) (c4 c7:Array Value) (r:List Int):Prop where
 bel:Below w.heap.size w W
 row:Kd.R (Kd.int .u8) 5 W w.heap.size (fun k=>w.heap.size≤k∧k<hi) (.slice (some ⟨g,0,none⟩) (n+2) cb) r
 len:r.length=n+2
 isB:IsB r
 box4:W.heap[b4]?=some (.cells c4 33 (0,0))
 box7:W.heap[b7]?=some (.cells c7 33 (0,0))
section
variable {w W W1:World} {g hi n cb b4 b7:Nat} {c4 c7:Array Value} {r:List Int}
theorem DX.below (h:DX w W g hi n cb b4 b7 c4 c7 r) (k:Below W.heap.size W W1):DX w W1 g hi n cb b4 b7 c4 c7 r:=
 ⟨below_step h.bel k,Kd.R_below h.row k,h.len,h.isB,blk_keep k h.box4,blk_keep k h.box7⟩
theorem DX.front (h:DX w W g hi n cb b4 b7 c4 c7 r):In W (some ⟨g,0,none⟩) cb (r.take n)∧(r.take n).length=n:=in_front h.row h.len h.isB
theorem DX.put (h:DX w W g hi n cb b4 b7 c4 c7 r) (h4:hi≤b4) (h7:hi≤b7) (i:Nat) (y:Int) (hy:0≤y∧y≤255):DX w (W.setCell ⟨g,i,none⟩ (.int .u8 y)) g hi n cb b4 b7 c4 c7 (r.set i y):=by
 have hg:=h.row.1 g rfl;have hp:=Kd.R_putn h.row (i:Int) y;rw[Int.toNat_natCast] at hp;exact ⟨below_set h.bel hg.1,hp,by simpa using h.len,fun z hz=>(List.mem_or_eq_of_mem_set hz).elim (h.isB z) (fun e=>e ▸ hy),blk_far h.box4 (show b4≠g by omega) _,blk_far h.box7 (show b7≠g by omega) _⟩
theorem DX.row4 (h:DX w W g hi n cb b4 b7 c4 c7 r) (h4:hi≤b4) (h47:b4≠b7) (cs:Array Value):DX w (W.setRow b4 cs) g hi n cb b4 b7 cs c7 r:=by
 have hg:=h.row.1 g rfl;exact ⟨below_setRow h.bel (by omega) _,Kd.R_step h.row (fun k hk _=>setRow_far (by omega) _),h.len,h.isB,setRow_blk h.box4 _,(setRow_far (by omega) _).trans h.box7⟩
theorem DX.row7 (h:DX w W g hi n cb b4 b7 c4 c7 r) (h7:hi≤b7) (h47:b4≠b7) (cs:Array Value):DX w (W.setRow b7 cs) g hi n cb b4 b7 c4 cs r:=by
 have hg:=h.row.1 g rfl;exact ⟨below_setRow h.bel (by omega) _,Kd.R_step h.row (fun k hk _=>setRow_far (by omega) _),h.len,h.isB,(setRow_far (by omega) _).trans h.box4,setRow_blk h.box7 _⟩
theorem DX.cell (h:DX w W g hi n cb b4 b7 c4 c7 r) (i:Nat) (hi2:i<n+2):(∃ y,W.cell? ⟨g,i,none⟩=some (.int .u8 y))∧W.frozen? ⟨g,i,none⟩=false:=by
 have:=Kd.R_celln (0:Int) h.row (i:Int) (by omega) (by omega);rw[Int.toNat_natCast] at this;exact ⟨⟨_,this.1⟩,this.2⟩
end
theorem newV_row {w W:World} {A:Option Addr} {c k:Nat} {xs:List S87} (h:NewV w W A c xs) (hk:k<w.heap.size) (cs:Array Value):NewV w (W.setRow k cs) A c xs:=by
 rcases h with h|⟨vb,h1,h2,h3,h4⟩
 ·exact .inl h
 ·exact .inr ⟨vb,h1,h2,h3,(setRow_far (by omega) _).trans h4⟩
theorem vr_row {w W:World} {A:Option Addr} {c k:Nat} {xs:List S87} (h:VR w W A c xs) (hk:k<w.heap.size) (cs:Array Value):VR w (W.setRow k cs) A c xs:=
 Kd.R_mono (Kd.R_step (Kd.R_bound h) (fun j hj _=>setRow_far (by have:=hj.2.1;omega) _)) (fun _ _=>trivial)
theorem own_head {w:World} {base n c:Nat} {ok:Nat→Prop} {A:Option Addr} {r:List Int} (h:Kd.R (Kd.int .u8) 5 w base ok (.slice A (n+2) c) r):∃ g,A=some ⟨g,0,none⟩:=by
 have h2:=Kd.R_reads' h;obtain ⟨ad,hA,_⟩:=h2.2.2.2.2 (by omega);subst hA;obtain ⟨g,rfl⟩:=Kd.R_head h;exact ⟨g,rfl⟩
theorem byte_at {w:World} {A:Option Addr} {c:Nat} {b:List Int} (h:In w A c b) (j:Nat) (hj:j<b.length):∃ ad y,A=some ad∧0≤y∧y≤255∧w.cell? (ad.add j)=some (.int .u8 y):=by
 obtain ⟨ad,cs,hA,hc,hK,hcc⟩:=Kd.C_get h.row 0 (j:Int) (by omega) (by omega);obtain rfl:cs=[.int .u8 (b.getD j 0)]:=by simpa [Kd.int,Kd.scalar] using hK
 have h1:=hcc 0 _ rfl;have hm:=h.isB (b.getD j 0) (by rw[List.getD_eq_getElem?_getD,List.getElem?_eq_getElem hj];exact List.getElem_mem _);refine ⟨ad,_,hA,hm.1,hm.2,?_⟩
 simpa [Kd.int,Kd.scalar] using h1
theorem decodes_calls (w : World) (A : Option Addr) (c : Nat) (b : List Int) (hb : In w A c b) (hbl : b.length ≤ 140737488351232) :
    Calls Try.prog 14 #[.slice A b.length c] w fun e w'=>e = .returned (.bool true)∧Below w.heap.size w w':=by
  have HI:=Aside0.mk (And.intro hb hbl);have hbI:(b.length:Int)≤9223372036854775805:=by omega
  have hb0:(0:Int)≤(b.length:Int):=by omega
  obtain ⟨x,p,er,hxp⟩:∃ x p er,whole zMsg msgP b=(x,p,er):=⟨_,_,_,rfl⟩;have HX:Aside0 (whole zMsg msgP b=(x,p,er)∧x.views.length≤1000000):=⟨hxp,by have:=whole_views hb.isB hxp;omega⟩;clear hb hbl hxp;have hu33:=Try.underlying33;go_enter Try.func14,Try.ntmps14
  go_upto_region 2 with (go_at_call 19;refine (lent_calls A c b _ HI.out.1.row HI.out.2).mono ?_;rintro e w1 ⟨v,rfl,hR,hb⟩;obtain ⟨Ab,cb,rfl,hcv,hin⟩:=lent_cut hR HI.out.1.isB;have hcB:(b.length:Int)≤(cb:Int):=(by omega);have H1:Aside0 (Below w.heap.size w w1∧Kd.R (Kd.int .u8) 5 w1 w.heap.size (fun k=>w.heap.size≤k∧k<w1.heap.size) (.slice Ab (b.length+2) cb) (b++[165,90])∧In w1 Ab cb b):=⟨hb,lent_in hR (Nat.le_refl _),hin⟩;clear hR hb hcv hin)
  go_upto_region 3 with (first
   | (go_at_call 18;refine (dec_law _ Ab cb b _ rfl H1.out.2.2 HX.out.1).mono ?_;rintro e w2 ⟨A1,c1,rfl,hn,hb⟩;have H2:Aside0 (Below w.heap.size w w2∧Kd.R (Kd.int .u8) 5 w2 w.heap.size (fun k=>w.heap.size≤k∧k<w1.heap.size) (.slice Ab (b.length+2) cb) (b++[165,90])∧NewV w1 w2 A1 c1 x.views∧w1.heap.size≤w2.heap.size):=⟨below_step H1.out.1 hb,Kd.R_below H1.out.2.1 hb,hn,hb.size⟩;have HA:=Aside0.mk (heap_alloc_new w2 (.cells (MVc zMsg none 0) 33 (0,0)));clear hn hb)
   | (refine wpList_store_row rfl 33 (.tmp 4) (.tmp 19) rfl w2.heap.size (MVc x A1 c1) (by rfl) (by rfl) 33 _ HA.out inf33 rfl (mv_one _ _ _) ?_))
  obtain ⟨w3,hw3⟩:∃ w3,w3=(w2.alloc (.cells (MVc zMsg none 0) 33 (0,0))).setRow w2.heap.size (MVc x A1 c1):=⟨_,rfl⟩;have HW3:=Aside0.mk hw3;rw[mv_zero] at HW3
  have H3 : Aside0 (Below w.heap.size w w3 ∧ Kd.R (Kd.int .u8) 5 w3 w.heap.size (fun k => w.heap.size ≤ k ∧ k < w1.heap.size) (.slice Ab (b.length + 2) cb) (b ++ [165, 90]) ∧ NewV w1 w3 A1 c1 x.views ∧ w3.heap[w2.heap.size]? = some (.cells (MVc x A1 c1) 33 (0, 0)) ∧ w2.heap.size ≤ w3.heap.size) := ⟨by
    have hb:Below w2.heap.size w2 w3:=by rw[hw3];exact below_setRow (al_below _ _) (Nat.le_refl _) _
    exact ⟨below_step H2.out.1 hb,Kd.R_below H2.out.2.1 hb,newV_below H2.out.2.2.1 hb,by rw[hw3];exact setRow_blk HA.out _,hb.size⟩⟩
  rw[←HW3.out];clear hw3 HW3 HA
  go_upto_region 4 with (first
   | (go_at_call 41;refine (rdec_law _ A c b _ rfl (In.below HI.out.1 H3.out.1) HX.out.1).mono ?_;rintro e w4 ⟨A2,c2,rfl,hn,hb⟩;have H4:Aside0 (Below w.heap.size w w4∧Kd.R (Kd.int .u8) 5 w4 w.heap.size (fun k=>w.heap.size≤k∧k<w1.heap.size) (.slice Ab (b.length+2) cb) (b++[165,90])∧NewV w1 w4 A1 c1 x.views∧w4.heap[w2.heap.size]?=some (.cells (MVc x A1 c1) 33 (0,0))∧VR w3 w4 A2 c2 x.views∧w3.heap.size≤w4.heap.size):=⟨below_step H3.out.1 hb,Kd.R_below H3.out.2.1 hb,newV_below H3.out.2.2.1 hb,blk_keep hb H3.out.2.2.2.1,hn,hb.size⟩;have HA:=Aside0.mk (heap_alloc_new w4 (.cells (MVc zMsg none 0) 33 (0,0)));clear hn hb)
   | (refine wpList_store_row rfl 33 (.tmp 7) (.tmp 25) rfl w4.heap.size (MVc x A2 c2) (by rfl) (by rfl) 33 _ HA.out inf33 rfl (mv_one _ _ _) ?_))
  obtain ⟨w5,hw5⟩:∃ w5,w5=(w4.alloc (.cells (MVc zMsg none 0) 33 (0,0))).setRow w4.heap.size (MVc x A2 c2):=⟨_,rfl⟩;have HW5:=Aside0.mk hw5;rw[mv_zero] at HW5
  have H5 : Aside0 (Below w.heap.size w w5 ∧ Kd.R (Kd.int .u8) 5 w5 w.heap.size (fun k => w.heap.size ≤ k ∧ k < w1.heap.size) (.slice Ab (b.length + 2) cb) (b ++ [165, 90]) ∧ NewV w1 w5 A1 c1 x.views ∧ w5.heap[w2.heap.size]? = some (.cells (MVc x A1 c1) 33 (0, 0)) ∧ VR w3 w5 A2 c2 x.views ∧ w5.heap[w4.heap.size]? = some (.cells (MVc x A2 c2) 33 (0, 0)) ∧ (w1.heap.size ≤ w2.heap.size ∧ w2.heap.size < w4.heap.size ∧ w2.heap.size ≤ w3.heap.size ∧ w3.heap.size ≤ w4.heap.size ∧ w.heap.size ≤ w1.heap.size)) := ⟨by
    have hb:Below w4.heap.size w4 w5:=by rw[hw5];exact below_setRow (al_below _ _) (Nat.le_refl _) _
    exact ⟨below_step H4.out.1 hb,Kd.R_below H4.out.2.1 hb,newV_below H4.out.2.2.1 hb,blk_keep hb H4.out.2.2.2.1,Kd.R_below H4.out.2.2.2.2.1 hb,by rw[hw5];exact setRow_blk HA.out _,H2.out.2.2.2,blk_lt H4.out.2.2.2.1,H3.out.2.2.2.2,H4.out.2.2.2.2.2,H1.out.1.size⟩⟩
  rw[←HW5.out];clear hw5 HW5 HA H1 H2 H3 H4
  go_upto_region 6 with (first
   | (go_at_call 42;refine (back_left w _ _ b w.heap.size w1.heap.size H5.out.1 (Nat.le_refl _) H5.out.2.1 A c HI.out.1 HI.out.2).mono ?_;rintro e w6 ⟨rfl,hb,hk,r,hr,hrB,hR⟩;have H6:Aside0 (Below w.heap.size w w6∧Kd.R (Kd.int .u8) 5 w6 w.heap.size (fun k=>w.heap.size≤k∧k<w1.heap.size) (.slice Ab (b.length+2) cb) r∧r.length=b.length+2∧IsB r∧w6.heap[w2.heap.size]?=some (.cells (MVc x A1 c1) 33 (0,0))∧w6.heap[w4.heap.size]?=some (.cells (MVc x A2 c2) 33 (0,0))∧(Kd.C k87 w6 A1 x.views.length x.views∧x.views.length≤c1)∧(Kd.C k87 w6 A2 x.views.length x.views∧x.views.length≤c2)):=⟨hb,hR,hr,hrB,blk_kept H5.out.2.2.2.1 hk (by have:=H5.out.2.2.2.2.2.2;omega),blk_kept H5.out.2.2.2.2.2.1 hk (by have:=H5.out.2.2.2.2.2.2;omega),newV_C (newV_kept H5.out.2.2.1 hk (Nat.le_refl _)) HX.out.2,vr_C (vr_kept H5.out.2.2.2.2.1 hk (by have:=H5.out.2.2.2.2.2.2;omega))⟩;have HS5:Aside0 (w1.heap.size≤w2.heap.size∧w2.heap.size<w4.heap.size):=⟨by have:=H5.out.2.2.2.2.2.2;omega⟩;clear hb hk hr hrB hR)
   | ((with_reducible refine gate_dst (N:=43) rfl ?_);refine gate_guard (by kernel_rfl) ?_;refine wpList_load_row rfl 33 (.tmp 4) rfl w2.heap.size (by rfl) 33 (MVc x A1 c1) (0,0) _ H6.out.2.2.2.2.1 hu33 rfl inf33 ?_)
   | ((with_reducible refine gate_dst (N:=44) rfl ?_);refine gate_guard (by kernel_rfl) ?_;refine wpList_load_row rfl 33 (.tmp 7) rfl w4.heap.size (by rfl) 33 (MVc x A2 c2) (0,0) _ H6.out.2.2.2.2.2.1 hu33 rfl inf33 ?_)
   | (go_at_call 20;refine (msg_same x A1 c1 A2 c2 _ H6.out.2.2.2.2.2.2.1 H6.out.2.2.2.2.2.2.2).mono ?_;rintro e w7 ⟨rfl,hb⟩;have H7:Aside0 (Below w.heap.size w w7∧Kd.R (Kd.int .u8) 5 w7 w.heap.size (fun k=>w.heap.size≤k∧k<w1.heap.size) (.slice Ab (b.length+2) cb) r∧r.length=b.length+2∧IsB r∧w7.heap[w2.heap.size]?=some (.cells (MVc x A1 c1) 33 (0,0))∧w7.heap[w4.heap.size]?=some (.cells (MVc x A2 c2) 33 (0,0))):=⟨below_step H6.out.1 hb,Kd.R_below H6.out.2.1 hb,H6.out.2.2.1,H6.out.2.2.2.1,blk_keep hb H6.out.2.2.2.2.1,blk_keep hb H6.out.2.2.2.2.2.1⟩;clear hb))
  obtain ⟨g,hg⟩:=own_head H7.out.2.1;subst hg;have D0:Aside0 (DX w w7 g w1.heap.size b.length cb w2.heap.size w4.heap.size (MVc x A1 c1) (MVc x A2 c2) r):=⟨⟨H7.out.1,H7.out.2.1,H7.out.2.2.1,H7.out.2.2.2.1,H7.out.2.2.2.2.1,H7.out.2.2.2.2.2⟩⟩;have HSZ:Aside0 (w1.heap.size≤w2.heap.size∧w2.heap.size<w4.heap.size):=⟨HS5.out⟩;clear H6 H7;go_wp2_with fail
  go_loopw [10] (fun v10 wr=>∃ (i:Nat) (r:List Int),v10 = .int .i64 (i:Int)∧Aside0 (i≤b.length∧DX w wr g w1.heap.size b.length cb w2.heap.size w4.heap.size (MVc x A1 c1) (MVc x A2 c2) r)) (fun v10 _=>b.length - (intOf v10).toNat)
  case atStart=>exact ⟨0,r,rfl,⟨Nat.zero_le _,D0.out⟩⟩
  case round=>
   obtain ⟨i,r,rfl,HQ⟩:=hrel;have DQ:=Aside0.mk HQ.out.2;by_cases hlt:i<b.length
   ·have hi0:(0:Int)≤(i:Int):=by omega
    have hi1:(i:Int)<(b.length:Int):=by omega
    have hi2:(i:Int)<((b.length+2:Nat):Int):=by omega
    have hi3:(i:Int)<(b.length:Int)+2:=by omega
    have HLT:=Aside0.mk hlt;obtain ⟨j,hj⟩:∃ j:Nat,(b.length:Int) - 1 - (i:Int)=(j:Int):=⟨b.length - 1 - i,by omega⟩;obtain ⟨ad,y,hA,y0,y1,kb⟩:=byte_at (In.below HI.out.1 DQ.out.bel) j (by omega);subst hA;obtain ⟨⟨z,kc⟩,kf⟩:=DQ.out.cell i (by omega);go_upto_region 8 with fail
    have D1:Aside0 (DX w (wr.setCell ⟨g,i,none⟩ (.int .u8 y)) g w1.heap.size b.length cb w2.heap.size w4.heap.size (MVc x A1 c1) (MVc x A2 c2) (r.set i y)):=⟨DQ.out.put HSZ.out.1 (by have:=HSZ.out;omega) i y ⟨y0,y1⟩⟩;clear hj kb kc kf y0 y1;go_wp2_with fail
    go_roundw
    case rel=>exact ⟨i+1,r.set i y,by go_num,⟨by have:=HLT.out;omega,D1.out⟩⟩
    case measure=>simp only[intOf];have:=HLT.out;first|omega|(go_num;omega)|(simp;omega)
   ·have hi1:¬((i:Int)<(b.length:Int)):=by omega
    obtain ⟨b2,hb2⟩:∃ b2,b2=r.take b.length:=⟨_,rfl⟩;have HB2:Aside0 (In wr (some ⟨g,0,none⟩) cb b2∧b2.length=b.length):=⟨by rw[hb2];exact DQ.out.front⟩;obtain ⟨x2,p2,er2,hxp⟩:∃ x p er,whole zMsg msgP b2=(x,p,er):=⟨_,_,_,rfl⟩;have HX2:Aside0 (whole zMsg msgP b2=(x2,p2,er2)∧x2.views.length≤1000000):=⟨hxp,by have:=whole_views HB2.out.1.isB hxp;omega⟩;have HWR:Aside0 (w2.heap.size<wr.heap.size∧w4.heap.size<wr.heap.size):=⟨blk_lt DQ.out.box4,blk_lt DQ.out.box7⟩;have HE2:=Aside0.mk hb2;clear hb2 hxp
    go_upto_region 11 with (first
     | (refine wpList_store_row rfl 33 (.tmp 4) (.tmp 71) rfl w2.heap.size (MVc x2 A3 c3) (by rfl) (by rfl) 33 _ D8.out.1.box4 inf33 rfl (mv_one _ _ _) ?_)
     | (go_at_call 18;refine (dec_law _ _ cb b2 _ HB2.out.2 HB2.out.1 HX2.out.1).mono ?_;rintro e w8 ⟨A3,c3,rfl,hn,hb⟩;have D8:=Aside0.mk (And.intro (DQ.out.below hb) (And.intro hn (And.intro (In.below HB2.out.1 hb) hb.size)));clear hn hb))
    obtain ⟨w9,hw9⟩:∃ w9,w9=w8.setRow w2.heap.size (MVc x2 A3 c3):=⟨_,rfl⟩
    have D9:Aside0 (DX w w9 g w1.heap.size b.length cb w2.heap.size w4.heap.size (MVc x2 A3 c3) (MVc x A2 c2) r∧NewV wr w9 A3 c3 x2.views∧wr.heap.size≤w9.heap.size):=⟨by
     rw[hw9];exact ⟨D8.out.1.row4 HSZ.out.1 (by have:=HSZ.out;omega) _,newV_row D8.out.2.1 HWR.out.1 _,by rw[size_setRow];exact D8.out.2.2.2⟩⟩
    have HB9:Aside0 (Kd.C (Kd.int .u8) w9 (some ⟨g,0,none⟩) b.length b2∧IsB b2):=⟨by
     have hf:=D9.out.1.front;rw[←HE2.out] at hf;exact ⟨by have h1:=hf.1.row;rwa [hf.2] at h1,hf.1.isB⟩⟩
    have HZ:Aside0 ((0+b.length) * 1≤140737488355328):=⟨by have:=HI.out.2;omega⟩;rw[←hw9];clear hw9 D8
    go_upto_region 12 with (first
     | ((with_reducible refine gate_dst (N:=79) rfl ?_);refine Kd.R_append_row (Value.int .u8) (0:Int) (h1:=fun _=>rfl) (w0:=w9) w9.heap.size rfl (.const (.slice none 0 0)) (.tmp 78) 36 5 (.int .u8 0) 1 rfl Try.underlying36 inf8 rfl (by omega) (.slice none 0 0) [] b2 (some ⟨g,0,none⟩) b.length cb (fun _=>True) rfl rfl (fun _ _=>trivial) (Kd.R_nil _ _ _ _ _) HB9.out.1 (Below.refl _ _) (Nat.le_refl _) HZ.out ?_;intro v10 w10 hR hB hg hat;rw[List.nil_append] at hR;obtain ⟨Ac,cc,rfl,hin⟩:=in_of_R hR HB9.out.2;have D10:Aside0 (DX w w10 g w1.heap.size b.length cb w2.heap.size w4.heap.size (MVc x2 A3 c3) (MVc x A2 c2) r∧NewV wr w10 A3 c3 x2.views∧In w10 Ac cc b2∧wr.heap.size≤w10.heap.size):=⟨D9.out.1.below hB,newV_below D9.out.2.1 hB,hin,Nat.le_trans D9.out.2.2 hB.size⟩;clear hR hB hg hat hin)
     | (go_at_call 41;refine (rdec_law _ Ac cc b2 _ rfl D10.out.2.2.1 HX2.out.1).mono ?_;rintro e w11 ⟨A4,c4,rfl,hn,hb⟩;have D11:Aside0 (DX w w11 g w1.heap.size b.length cb w2.heap.size w4.heap.size (MVc x2 A3 c3) (MVc x A2 c2) r∧NewV wr w11 A3 c3 x2.views∧VR w10 w11 A4 c4 x2.views):=⟨D10.out.1.below hb,newV_below D10.out.2.1 hb,hn⟩;clear hn hb)
     | (refine wpList_store_row rfl 33 (.tmp 7) (.tmp 81) rfl w4.heap.size (MVc x2 A4 c4) (by rfl) (by rfl) 33 _ D11.out.1.box7 inf33 rfl (mv_one _ _ _) ?_))
    obtain ⟨w12,hw12⟩:∃ w12,w12=w11.setRow w4.heap.size (MVc x2 A4 c4):=⟨_,rfl⟩
    have D12:Aside0 (DX w w12 g w1.heap.size b.length cb w2.heap.size w4.heap.size (MVc x2 A3 c3) (MVc x2 A4 c4) r∧(Kd.C k87 w12 A3 x2.views.length x2.views∧x2.views.length≤c3)∧(Kd.C k87 w12 A4 x2.views.length x2.views∧x2.views.length≤c4)):=⟨by
     rw[hw12];exact ⟨D11.out.1.row7 (by have:=HSZ.out;omega) (by have:=HSZ.out;omega) _,newV_C (newV_row D11.out.2.1 HWR.out.2 _) HX2.out.2,vr_C (vr_row D11.out.2.2 (by have:=HWR.out.2;have:=D10.out.2.2.2;omega) _)⟩⟩
    rw[←hw12];clear hw12
    go_wp2_with (first
     | ((with_reducible refine gate_dst (N:=93) rfl ?_);refine gate_guard (by kernel_rfl) ?_;refine wpList_load_row rfl 33 (.tmp 4) rfl w2.heap.size (by rfl) 33 (MVc x2 A3 c3) (0,0) _ D12.out.1.box4 hu33 rfl inf33 ?_)
     | ((with_reducible refine gate_dst (N:=94) rfl ?_);refine gate_guard (by kernel_rfl) ?_;refine wpList_load_row rfl 33 (.tmp 7) rfl w4.heap.size (by rfl) 33 (MVc x2 A4 c4) (0,0) _ D12.out.1.box7 hu33 rfl inf33 ?_)
     | (go_at_call 20;refine (msg_same x2 A3 c3 A4 c4 _ D12.out.2.1 D12.out.2.2).mono ?_;rintro e w13 ⟨rfl,hb⟩;have HE:=Aside0.mk (below_step D12.out.1.bel hb);clear hb))
    go_ret
    exact ⟨rfl,HE.out⟩
end Go.Proofs.Ytpgdmmjbhjbbhaa.Lw
end
section
namespace Go.Proofs.Ytpgdmmjbhjbbhaa.Lw
open Go Go.RowKit P Sp Vd En Wr Rd Rf YtpgdmmjbhjbbhaaW.PrintWords YtpgdmmjbhjbbhaaW.PrintLast YtpgdmmjbhjbbhaaW.PrintMore
theorem in_cut {w:World} {base:Nat} {ok:Nat→Prop} {A:Option Addr} {c:Nat} {b:List Int} (h:Kd.R (Kd.int .u8) 5 w base ok (.slice A (b.length+2) c) (b++[165,90])) (hb:IsB b):In w A c b:=by
 obtain ⟨A',c',hv,_,hi⟩:=lent_cut (Kd.R_mono h (fun _ _=>trivial)) hb;obtain ⟨rfl,_,rfl⟩:=Value.slice.inj hv;exact hi
theorem in_row {w:World} {base:Nat} {ok:Nat→Prop} {A:Option Addr} {c n:Nat} {b:List Int} (h:Kd.R (Kd.int .u8) 5 w base ok (.slice A n c) b) (hb:IsB b):In w A c b:=by
 have:=Kd.R_reads' h;exact ⟨this.2.2,hb,this.1 ▸ this.2.1⟩
theorem row_kept {w w1:World} {base lo hi:Nat} {v:Value} {b:List Int} (h:Kd.R (Kd.int .u8) 5 w base (fun _=>True) v b) (hk:Kept w w1 (fun k=>lo≤k∧k<hi)) (hh:hi≤base):Kd.R (Kd.int .u8) 5 w1 base (fun _=>True) v b:=
 Kd.R_mono (Kd.R_kept (Kd.R_bound h) hk (fun k h1 h2=>by have:=h1.2.1;omega)) (fun _ _=>trivial)
theorem enc_seg_law (s:Seg) (A:Option Addr) (c:Nat) (w:World) (h:In w A c s.data):
  Calls Try.prog 27 #[.agg (SVc s A c)] w fun e w'=>∃ Ap cp,e = .returned (.tuple #[.slice Ap (lay segB segV s).1.length cp,.int .i64 (lay segB segV s).2])∧Kd.R (Kd.int .u8) 5 w' w.heap.size (fun _=>True) (.slice Ap (lay segB segV s).1.length cp) (lay segB segV s).1∧Below w.heap.size w w':=by
 refine (encseg_calls s A c w h.row h.cap h.isB).mono ?_;rintro e w' ⟨v,he,hR,hb⟩;obtain ⟨Ap,cp,rfl⟩:=Kd.R_slice hR;exact ⟨Ap,cp,he,hR,hb⟩
theorem renc_seg_law (s:Seg) (A:Option Addr) (c:Nat) (w:World) (h:In w A c s.data):
  Calls Try.prog 70 #[.agg (SVc s A c)] w fun e w'=>∃ Ap cp,e = .returned (.tuple #[.slice Ap (lay segB segV s).1.length cp,.int .i64 (lay segB segV s).2])∧Kd.R (Kd.int .u8) 5 w' w.heap.size (fun _=>True) (.slice Ap (lay segB segV s).1.length cp) (lay segB segV s).1∧Below w.heap.size w w':=by
 refine (rencseg2_calls s A c w h).mono ?_;rintro e w' ⟨v,he,hR,hb⟩;obtain ⟨Ap,cp,rfl⟩:=Kd.R_slice hR;exact ⟨Ap,cp,he,hR,hb⟩
theorem whole_seg_isB {b:List Int} (hb:IsB b) {y:Seg} {p er:Int} (h:whole zSeg segP b=(y,p,er)):IsB y.data:=by
 have ht:=took_of segP_codec safe_seg zSeg hb;rw[h] at ht;rcases ht with ⟨_,_,hv,_⟩|⟨_,_,_,hz⟩
 ·exact hv.2.2.2.2.2
 ·obtain rfl:y=zSeg:=hz;intro x hx;cases hx
theorem dec_seg_law (w:World) (A:Option Addr) (c:Nat) (b:List Int) (hi:In w A c b) {y:Seg} {p er:Int} (h:whole zSeg segP b=(y,p,er)):
  Calls Try.prog 28 #[.slice A b.length c] w fun e w'=>∃ A1 c1,e = .returned (.tuple #[.agg (SVc y A1 c1),.int .i64 p,.int .i64 er])∧Kd.R (Kd.int .u8) 5 w' w.heap.size (fun _=>True) (.slice A1 y.data.length c1) y.data∧Below w.heap.size w w':=by
 refine (decseg_calls w A c b hi).mono ?_;rintro e w' ⟨hb,A1,c1,he,hR⟩;rw[h] at he hR;exact ⟨A1,c1,he,hR,hb⟩
theorem rdec_seg_law (w:World) (A:Option Addr) (c:Nat) (b:List Int) (hi:In w A c b) {y:Seg} {p er:Int} (h:whole zSeg segP b=(y,p,er)):
  Calls Try.prog 71 #[.slice A b.length c] w fun e w'=>∃ A1 c1,e = .returned (.tuple #[.agg (SVc y A1 c1),.int .i64 p,.int .i64 er])∧Kd.R (Kd.int .u8) 5 w' w.heap.size (fun _=>True) (.slice A1 y.data.length c1) y.data∧Below w.heap.size w w':=by
 refine (rdecseg_calls w A c b hi).mono ?_;rintro e w' ⟨hb,A1,c1,he,hR⟩;rw[h] at he hR;exact ⟨A1,c1,he,hR,hb⟩
theorem seg_same (y:Seg) (A0:Option Addr) (c0:Nat) (A1:Option Addr) (c1:Nat) (w:World) (ha:In w A0 c0 y.data) (hb:In w A1 c1 y.data):
  Calls Try.prog 29 #[.agg (SVc y A0 c0),.agg (SVc y A1 c1)] w fun e w'=>e = .returned (.bool true)∧Below w.heap.size w w':=by
 refine (sameSegment_calls y y A0 c0 A1 c1 w ha hb).mono ?_;rintro e w' ⟨he,hb⟩;rw[dcd_pos rfl] at he;exact ⟨he,hb⟩
theorem segments_calls (w:World) (s:Seg) (A:Option Addr) (c:Nat) (A1:Option Addr) (c1:Nat) (b:List Int) (hs:In w A c s.data) (hsl:s.data.length≤140737488351232) (hb:In w A1 c1 b) (hbl:b.length≤140737488351232):
  Calls Try.prog 22 #[.agg (SVc s A c),.slice A1 b.length c1] w fun e w'=>e = .returned (.bool true)∧Below w.heap.size w w':=by
 have HS:=Aside0.mk (And.intro hs hsl);have HI:=Aside0.mk (And.intro hb hbl);have hnI:(s.data.length:Int)≤9223372036854775807:=by omega
 have hn0:(0:Int)≤(s.data.length:Int):=by omega
 have hbI:(b.length:Int)≤9223372036854775807:=by omega
 have hb0:(0:Int)≤(b.length:Int):=by omega
 clear hs hsl hb hbl;have hu47:=Try.underlying47;obtain ⟨wa,hwa⟩:∃ wa,wa=w.alloc (.cells (SVc s A c) 47 (0,0)):=⟨_,rfl⟩;have HWA:=Aside0.mk hwa;have H0:Aside0 (Below w.heap.size w wa∧wa.heap[w.heap.size]?=some (.cells (SVc s A c) 47 (0,0))∧wa.heap.size=w.heap.size+1):=⟨by rw[hwa];exact ⟨al_below w _,heap_alloc_new w _,by simp⟩⟩;have H1:Aside0 ((wa.alloc (.cells #[.int .i64 0,.int .i64 0,.int .i64 0,.int .i64 0,.slice none 0 0] 47 (0,0))).heap[wa.heap.size]?=some (.cells #[.int .i64 0,.int .i64 0,.int .i64 0,.int .i64 0,.slice none 0 0] 47 (0,0))):=⟨heap_alloc_new wa _⟩;clear hwa;go_enter Try.func22,Try.ntmps22
 go_upto_region 1 with fail
 rw[←HWA.out]
 go_upto_region 2 with (first
  | ((with_reducible refine gate_dst (N:=18) rfl ?_);refine wpList_load_row rfl 47 (.tmp 2) rfl w.heap.size (by rfl) 47 (SVc s A c) (0,0) _ H0.out.2.1 Try.underlying47 rfl inf47 ?_)
  | (refine wpList_store_row rfl 47 (.tmp 5) (.tmp 18) rfl wa.heap.size (SVc s A c) (by rfl) (by rfl) 47 _ H1.out inf47 rfl (sv_one _ _ _) ?_))
 obtain ⟨w1,hw1⟩:∃ w1,w1=(wa.alloc (.cells #[.int .i64 0,.int .i64 0,.int .i64 0,.int .i64 0,.slice none 0 0] 47 (0,0))).setRow wa.heap.size (SVc s A c):=⟨_,rfl⟩;have HW1:=Aside0.mk hw1
 have H2:Aside0 (Below w.heap.size w w1∧w1.heap[w.heap.size]?=some (.cells (SVc s A c) 47 (0,0))∧w1.heap[wa.heap.size]?=some (.cells (SVc s A c) 47 (0,0))∧w.heap.size<wa.heap.size∧wa.heap.size<w1.heap.size):=⟨by
  have hb:Below wa.heap.size wa w1:=by rw[hw1];exact below_setRow (al_below _ _) (Nat.le_refl _) _
  refine ⟨below_step H0.out.1 hb,blk_keep hb H0.out.2.1,by rw[hw1];exact setRow_blk H1.out _,by have:=H0.out.2.2;omega,?_⟩;have h3:w1.heap[wa.heap.size]?=some (.cells (SVc s A c) 47 (0,0)):=by rw[hw1];exact setRow_blk H1.out _
  exact blk_lt h3⟩
 rw[←HW1.out];clear hw1 HW1 H1 H0 HWA;have ka4:w1.cell? ⟨w.heap.size,4,none⟩=some (.slice A s.data.length c):=(blk_cell H2.out.2.1 4).trans rfl;go_upto_region 3 with (go_at_call 19;refine (lent_calls A c s.data _ (In.below HS.out.1 H2.out.1).row HS.out.2).mono ?_;rintro e w2 ⟨v,rfl,hR,hb⟩;obtain ⟨Av,cv,rfl,hcv,hin⟩:=lent_cut hR HS.out.1.isB;have hcI:(s.data.length:Int)≤(cv:Int):=(by omega);clear hcv hin;have H3:Aside0 (Below w.heap.size w w2∧w2.heap[w.heap.size]?=some (.cells (SVc s A c) 47 (0,0))∧w2.heap[wa.heap.size]?=some (.cells (SVc s A c) 47 (0,0))∧Kd.R (Kd.int .u8) 5 w2 w.heap.size (fun k=>w1.heap.size≤k∧k<w2.heap.size) (.slice Av (s.data.length+2) cv) (s.data++[165,90])):=⟨below_step H2.out.1 hb,blk_keep hb H2.out.2.1,blk_keep hb H2.out.2.2.1,lent_in hR H2.out.1.size⟩;clear hR hb ka4)
 have ka4:w2.cell? ⟨w.heap.size,4,none⟩=some (.slice A s.data.length c):=(blk_cell H3.out.2.1 4).trans rfl;have kc:w2.cell? ⟨wa.heap.size,4,none⟩=some (.slice A s.data.length c):=(blk_cell H3.out.2.2.1 4).trans rfl;have kf:=blk_frozen H3.out.2.2.1 4;go_upto_region 4 with fail
 obtain ⟨w3,hw3⟩:∃ w3,w3=w2.setCell ⟨wa.heap.size,4,none⟩ (.slice Av s.data.length cv):=⟨_,rfl⟩
 have H4 : Aside0 (Below w.heap.size w w3 ∧ w3.heap[w.heap.size]? = some (.cells (SVc s A c) 47 (0, 0)) ∧ w3.heap[wa.heap.size]? = some (.cells (SVc s Av cv) 47 (0, 0)) ∧ Kd.R (Kd.int .u8) 5 w3 w.heap.size (fun k => w1.heap.size ≤ k ∧ k < w2.heap.size) (.slice Av (s.data.length + 2) cv) (s.data ++ [165, 90]) ∧ w2.heap.size = w3.heap.size ∧ w.heap.size ≤ w1.heap.size) := ⟨by
   rw[hw3];refine ⟨below_set H3.out.1 (Nat.le_of_lt H2.out.2.2.2.1),blk_far H3.out.2.1 (Nat.ne_of_lt H2.out.2.2.2.1) _,blk_upd (cs2:=SVc s Av cv) H3.out.2.2.1 rfl,?_,by simp[World.setCell],H2.out.1.size⟩;exact Kd.R_kept H3.out.2.2.2 ((Kept.refl w2 (fun k=>k=wa.heap.size)).setCell (p:=⟨wa.heap.size,4,none⟩) (.inl rfl) _) (fun k h1 h2=>by have:=H2.out.2.2.2.2;omega)⟩
 rw[←hw3];clear hw3 H3 H2 ka4 kc kf
 go_upto_region 6 with (first
  | ((with_reducible refine gate_dst (N:=29) rfl ?_);refine wpList_load_row rfl 47 (.tmp 5) rfl wa.heap.size (by rfl) 47 (SVc s Av cv) (0,0) _ H4.out.2.2.1 Try.underlying47 rfl inf47 ?_)
  | ((with_reducible refine gate_dst (N:=34) rfl ?_);refine wpList_load_row rfl 47 (.tmp 2) rfl w.heap.size (by rfl) 47 (SVc s A c) (0,0) _ H5.out.2.1 Try.underlying47 rfl inf47 ?_)
  | (go_at_call 27;refine (enc_seg_law s Av cv _ (in_cut H4.out.2.2.2.1 HS.out.1.isB)).mono ?_;rintro e w4 ⟨Ap,cp,rfl,hR,hb⟩;have H5:Aside0 (Below w.heap.size w w4∧w4.heap[w.heap.size]?=some (.cells (SVc s A c) 47 (0,0))∧Kd.R (Kd.int .u8) 5 w4 w.heap.size (fun k=>w1.heap.size≤k∧k<w2.heap.size) (.slice Av (s.data.length+2) cv) (s.data++[165,90])∧Kd.R (Kd.int .u8) 5 w4 w3.heap.size (fun _=>True) (.slice Ap (lay segB segV s).1.length cp) (lay segB segV s).1∧w3.heap.size≤w4.heap.size):=⟨below_step H4.out.1 hb,blk_keep hb H4.out.2.1,Kd.R_below H4.out.2.2.2.1 hb,hR,hb.size⟩;clear hR hb)
  | (go_at_call 70;refine (renc_seg_law s A c _ (In.below HS.out.1 H5.out.1)).mono ?_;rintro e w5 ⟨Aq,cq,rfl,hR,hb⟩;have H6:Aside0 (Below w.heap.size w w5∧Kd.R (Kd.int .u8) 5 w5 w.heap.size (fun k=>w1.heap.size≤k∧k<w2.heap.size) (.slice Av (s.data.length+2) cv) (s.data++[165,90])∧Kd.R (Kd.int .u8) 5 w5 w3.heap.size (fun _=>True) (.slice Ap (lay segB segV s).1.length cp) (lay segB segV s).1∧Kd.R (Kd.int .u8) 5 w5 w4.heap.size (fun _=>True) (.slice Aq (lay segB segV s).1.length cq) (lay segB segV s).1∧w5.heap[w.heap.size]?=some (.cells (SVc s A c) 47 (0,0))):=⟨below_step H5.out.1 hb,Kd.R_below H5.out.2.2.1 hb,Kd.R_below H5.out.2.2.2.1 hb,hR,blk_keep hb H5.out.2.1⟩;clear hR hb))
 obtain ⟨pb,er0,hpb⟩:∃ pb er0,lay segB segV s=(pb,er0):=⟨_,_,rfl⟩;have HPB:Aside0 (IsB pb):=⟨by have:=lay_isB (v:=segV) (b_seg HS.out.1.isB);rwa [hpb] at this⟩;have H7:Aside0 (Below w.heap.size w w5∧Kd.R (Kd.int .u8) 5 w5 w.heap.size (fun k=>w1.heap.size≤k∧k<w2.heap.size) (.slice Av (s.data.length+2) cv) (s.data++[165,90])∧Kd.R (Kd.int .u8) 5 w5 w3.heap.size (fun _=>True) (.slice Ap pb.length cp) pb∧Kd.R (Kd.int .u8) 5 w5 w4.heap.size (fun _=>True) (.slice Aq pb.length cq) pb∧w2.heap.size=w3.heap.size∧w3.heap.size≤w4.heap.size∧w.heap.size≤w1.heap.size):=⟨by have h1:=H6.out;rw[hpb] at h1;exact ⟨h1.1,h1.2.1,h1.2.2.1,h1.2.2.2.1,H4.out.2.2.2.2.1,H5.out.2.2.2.2,H4.out.2.2.2.2.2⟩⟩;have ka4:w5.cell? ⟨w.heap.size,4,none⟩=some (.slice A s.data.length c):=(blk_cell H6.out.2.2.2.2 4).trans rfl;rw[hpb];clear hpb H6 H5 H4
 go_upto_region 8 with (first
  | (go_at_call 42;refine (back_law w _ _ s.data w1.heap.size w2.heap.size H7.out.1 H7.out.2.2.2.2.2.2 H7.out.2.1 A c HS.out.1 HS.out.2).mono ?_;rintro e w6 ⟨rfl,hb,hk⟩;have H8:Aside0 (Below w.heap.size w w6∧In w6 Ap cp pb∧In w6 Aq cq pb):=⟨hb,in_row (row_kept H7.out.2.2.1 hk (Nat.le_of_eq H7.out.2.2.2.2.1)) HPB.out,in_row (row_kept H7.out.2.2.2.1 hk (by have:=H7.out.2.2.2.2;omega)) HPB.out⟩;clear hb hk H7 ka4)
  | (go_at_call 37;refine (alike_ex Ap cp Aq cq pb _ rfl _ H8.out.2.1 H8.out.2.2).mono ?_;rintro e w7 ⟨rfl,hb⟩;have H9:=Aside0.mk (below_step H8.out.1 hb);clear hb H8))
 obtain ⟨y,p,er,hyp⟩:∃ y p er,whole zSeg segP b=(y,p,er):=⟨_,_,_,rfl⟩;have HYP:Aside0 (whole zSeg segP b=(y,p,er)∧IsB y.data):=⟨hyp,whole_seg_isB HI.out.1.isB hyp⟩;clear hyp;go_upto_region 9 with (go_at_call 19;refine (lent_calls A1 c1 b _ (In.below HI.out.1 H9.out).row HI.out.2).mono ?_;rintro e w8 ⟨v,rfl,hR,hb⟩;obtain ⟨Ab,cb,rfl,hcv,hin⟩:=lent_cut hR HI.out.1.isB;have hcB:(b.length:Int)≤(cb:Int):=(by omega);clear hcv hin;have H10:Aside0 (Below w.heap.size w w8∧Kd.R (Kd.int .u8) 5 w8 w.heap.size (fun k=>w7.heap.size≤k∧k<w8.heap.size) (.slice Ab (b.length+2) cb) (b++[165,90])∧w.heap.size≤w7.heap.size):=⟨below_step H9.out hb,lent_in hR H9.out.size,H9.out.size⟩;clear hR hb H9)
 go_upto_region 10 with (first
  | (go_at_call 28;refine (dec_seg_law _ Ab cb b (in_cut H10.out.2.1 HI.out.1.isB) HYP.out.1).mono ?_;rintro e w9 ⟨Ay,cy,rfl,hR,hb⟩;have H11:Aside0 (Below w.heap.size w w9∧Kd.R (Kd.int .u8) 5 w9 w.heap.size (fun k=>w7.heap.size≤k∧k<w8.heap.size) (.slice Ab (b.length+2) cb) (b++[165,90])∧Kd.R (Kd.int .u8) 5 w9 w8.heap.size (fun _=>True) (.slice Ay y.data.length cy) y.data∧w8.heap.size≤w9.heap.size):=⟨below_step H10.out.1 hb,Kd.R_below H10.out.2.1 hb,hR,hb.size⟩;have HA:=Aside0.mk (heap_alloc_new w9 (.cells #[.int .i64 0,.int .i64 0,.int .i64 0,.int .i64 0,.slice none 0 0] 47 (0,0)));clear hR hb)
  | (refine wpList_store_row rfl 47 (.tmp 12) (.tmp 62) rfl w9.heap.size (SVc y Ay cy) (by rfl) (by rfl) 47 _ HA.out inf47 rfl (sv_one _ _ _) ?_))
 obtain ⟨w10,hw10⟩:∃ w10,w10=(w9.alloc (.cells #[.int .i64 0,.int .i64 0,.int .i64 0,.int .i64 0,.slice none 0 0] 47 (0,0))).setRow w9.heap.size (SVc y Ay cy):=⟨_,rfl⟩;have HW10:=Aside0.mk hw10
 have H12 : Aside0 (Below w.heap.size w w10 ∧ Kd.R (Kd.int .u8) 5 w10 w.heap.size (fun k => w7.heap.size ≤ k ∧ k < w8.heap.size) (.slice Ab (b.length + 2) cb) (b ++ [165, 90]) ∧ Kd.R (Kd.int .u8) 5 w10 w8.heap.size (fun _ => True) (.slice Ay y.data.length cy) y.data ∧ w10.heap[w9.heap.size]? = some (.cells (SVc y Ay cy) 47 (0, 0))) := ⟨by
   have hb:Below w9.heap.size w9 w10:=by rw[hw10];exact below_setRow (al_below _ _) (Nat.le_refl _) _
   exact ⟨below_step H11.out.1 hb,Kd.R_below H11.out.2.1 hb,Kd.R_below H11.out.2.2.1 hb,by rw[hw10];exact setRow_blk HA.out _⟩⟩
 rw[←HW10.out];clear hw10 HW10 HA
 go_upto_region 11 with (first
  | (go_at_call 71;refine (rdec_seg_law _ A1 c1 b (In.below HI.out.1 H12.out.1) HYP.out.1).mono ?_;rintro e w11 ⟨Az,cz,rfl,hR,hb⟩;have H13:Aside0 (Below w.heap.size w w11∧Kd.R (Kd.int .u8) 5 w11 w.heap.size (fun k=>w7.heap.size≤k∧k<w8.heap.size) (.slice Ab (b.length+2) cb) (b++[165,90])∧Kd.R (Kd.int .u8) 5 w11 w8.heap.size (fun _=>True) (.slice Ay y.data.length cy) y.data∧w11.heap[w9.heap.size]?=some (.cells (SVc y Ay cy) 47 (0,0))∧Kd.R (Kd.int .u8) 5 w11 w10.heap.size (fun _=>True) (.slice Az y.data.length cz) y.data∧w10.heap.size≤w11.heap.size∧w9.heap.size<w10.heap.size):=⟨below_step H12.out.1 hb,Kd.R_below H12.out.2.1 hb,Kd.R_below H12.out.2.2.1 hb,blk_keep hb H12.out.2.2.2,hR,hb.size,blk_lt H12.out.2.2.2⟩;have HA:=Aside0.mk (heap_alloc_new w11 (.cells #[.int .i64 0,.int .i64 0,.int .i64 0,.int .i64 0,.slice none 0 0] 47 (0,0)));clear hR hb)
  | (refine wpList_store_row rfl 47 (.tmp 15) (.tmp 68) rfl w11.heap.size (SVc y Az cz) (by rfl) (by rfl) 47 _ HA.out inf47 rfl (sv_one _ _ _) ?_))
 obtain ⟨w12,hw12⟩:∃ w12,w12=(w11.alloc (.cells #[.int .i64 0,.int .i64 0,.int .i64 0,.int .i64 0,.slice none 0 0] 47 (0,0))).setRow w11.heap.size (SVc y Az cz):=⟨_,rfl⟩;have HW12:=Aside0.mk hw12
 have H14 : Aside0 (Below w.heap.size w w12 ∧ Kd.R (Kd.int .u8) 5 w12 w.heap.size (fun k => w7.heap.size ≤ k ∧ k < w8.heap.size) (.slice Ab (b.length + 2) cb) (b ++ [165, 90]) ∧ Kd.R (Kd.int .u8) 5 w12 w8.heap.size (fun _ => True) (.slice Ay y.data.length cy) y.data ∧ w12.heap[w9.heap.size]? = some (.cells (SVc y Ay cy) 47 (0, 0)) ∧ Kd.R (Kd.int .u8) 5 w12 w10.heap.size (fun _ => True) (.slice Az y.data.length cz) y.data ∧ w12.heap[w11.heap.size]? = some (.cells (SVc y Az cz) 47 (0, 0)) ∧ (w8.heap.size ≤ w9.heap.size ∧ w9.heap.size < w10.heap.size ∧ w10.heap.size ≤ w11.heap.size ∧ w.heap.size ≤ w7.heap.size)) := ⟨by
   have hb:Below w11.heap.size w11 w12:=by rw[hw12];exact below_setRow (al_below _ _) (Nat.le_refl _) _
   exact ⟨below_step H13.out.1 hb,Kd.R_below H13.out.2.1 hb,Kd.R_below H13.out.2.2.1 hb,blk_keep hb H13.out.2.2.2.1,Kd.R_below H13.out.2.2.2.2.1 hb,by rw[hw12];exact setRow_blk HA.out _,H11.out.2.2.2,H13.out.2.2.2.2.2.2,H13.out.2.2.2.2.2.1,H10.out.2.2⟩⟩
 rw[←HW12.out];clear hw12 HW12 HA H10 H11 H12 H13
 go_wp2_with (first
  | (go_at_call 42;refine (back_law w _ _ b w7.heap.size w8.heap.size H14.out.1 H14.out.2.2.2.2.2.2.2.2.2 H14.out.2.1 A1 c1 HI.out.1 HI.out.2).mono ?_;rintro e w13 ⟨rfl,hb,hk⟩;have H15:Aside0 (Below w.heap.size w w13∧In w13 Ay cy y.data∧In w13 Az cz y.data∧w13.heap[w9.heap.size]?=some (.cells (SVc y Ay cy) 47 (0,0))∧w13.heap[w11.heap.size]?=some (.cells (SVc y Az cz) 47 (0,0))):=⟨hb,in_row (row_kept H14.out.2.2.1 hk (Nat.le_refl _)) HYP.out.2,in_row (row_kept H14.out.2.2.2.2.1 hk (by have:=H14.out.2.2.2.2.2.2;omega)) HYP.out.2,blk_kept H14.out.2.2.2.1 hk (by have:=H14.out.2.2.2.2.2.2;omega),blk_kept H14.out.2.2.2.2.2.1 hk (by have:=H14.out.2.2.2.2.2.2;omega)⟩;clear hb hk H14)
  | ((with_reducible refine gate_dst (N:=85) rfl ?_);refine gate_guard (by kernel_rfl) ?_;refine wpList_load_row rfl 47 (.tmp 12) rfl w9.heap.size (by rfl) 47 (SVc y Ay cy) (0,0) _ H15.out.2.2.2.1 Try.underlying47 rfl inf47 ?_)
  | ((with_reducible refine gate_dst (N:=86) rfl ?_);refine gate_guard (by kernel_rfl) ?_;refine wpList_load_row rfl 47 (.tmp 15) rfl w11.heap.size (by rfl) 47 (SVc y Az cz) (0,0) _ H15.out.2.2.2.2 Try.underlying47 rfl inf47 ?_)
  | (go_at_call 29;refine (seg_same y Ay cy Az cz _ H15.out.2.1 H15.out.2.2.1).mono ?_;rintro e w14 ⟨rfl,hb⟩;have HE:=Aside0.mk (below_step H15.out.1 hb);clear hb))
 go_ret
 exact ⟨rfl,HE.out⟩
theorem row_ahead {w w1:World} {base base2 a lo hi:Nat} {v:Value} {b:List Int} (h:Kd.R (Kd.int .u8) 5 w base (fun k=>base2≤k∧k<a) v b) (hk:Kept w w1 (fun k=>lo≤k∧k<hi)) (hh:a≤lo):Kd.R (Kd.int .u8) 5 w1 base (fun k=>base2≤k∧k<a) v b:=
 Kd.R_kept h hk (fun k h1 h2=>by omega)
theorem enc_req_law (x:S25) (o:Sp.Op) (w:World) (h:isI o.a∧isI o.b):
  Calls Try.prog 32 #[.agg #[.int .i64 x.f0,.int .i64 x.f1],.agg #[.int .i64 o.kind,.string o.name,.int .i64 o.a,.int .i64 o.b]] w fun e w'=>∃ Ap cp,e = .returned (.tuple #[.slice Ap (lay reqB reqV (x,o)).1.length cp,.int .i64 (lay reqB reqV (x,o)).2])∧Kd.R (Kd.int .u8) 5 w' w.heap.size (fun _=>True) (.slice Ap (lay reqB reqV (x,o)).1.length cp) (lay reqB reqV (x,o)).1∧Below w.heap.size w w':=by
 refine (encreq_calls x o w h).mono ?_;rintro e w' ⟨v,he,hR,hb⟩;obtain ⟨Ap,cp,rfl⟩:=Kd.R_slice hR;exact ⟨Ap,cp,he,hR,hb⟩
theorem renc_req_law (x:S25) (o:Sp.Op) (w:World) (h:isI o.a∧isI o.b):
  Calls Try.prog 72 #[.agg #[.int .i64 x.f0,.int .i64 x.f1],.agg #[.int .i64 o.kind,.string o.name,.int .i64 o.a,.int .i64 o.b]] w fun e w'=>∃ Ap cp,e = .returned (.tuple #[.slice Ap (lay reqB reqV (x,o)).1.length cp,.int .i64 (lay reqB reqV (x,o)).2])∧Kd.R (Kd.int .u8) 5 w' w.heap.size (fun _=>True) (.slice Ap (lay reqB reqV (x,o)).1.length cp) (lay reqB reqV (x,o)).1∧Below w.heap.size w w':=by
 refine (rencreq2_calls x o w h).mono ?_;rintro e w' ⟨v,he,hR,hb⟩;obtain ⟨Ap,cp,rfl⟩:=Kd.R_slice hR;exact ⟨Ap,cp,he,hR,hb⟩
theorem enc_rep_law (r:Rep) (w:World) (h:isI r.value):
  Calls Try.prog 34 #[.agg #[.int .i64 r.call.f0,.int .i64 r.call.f1,.int .i64 r.err,.int .i64 r.value]] w fun e w'=>∃ Ap cp,e = .returned (.tuple #[.slice Ap (lay repB repV r).1.length cp,.int .i64 (lay repB repV r).2])∧Kd.R (Kd.int .u8) 5 w' w.heap.size (fun _=>True) (.slice Ap (lay repB repV r).1.length cp) (lay repB repV r).1∧Below w.heap.size w w':=by
 refine (encrep_calls r w h).mono ?_;rintro e w' ⟨v,he,hR,hb⟩;obtain ⟨Ap,cp,rfl⟩:=Kd.R_slice hR;exact ⟨Ap,cp,he,hR,hb⟩
theorem renc_rep_law (r:Rep) (w:World) (h:isI r.value):
  Calls Try.prog 74 #[.agg #[.int .i64 r.call.f0,.int .i64 r.call.f1,.int .i64 r.err,.int .i64 r.value]] w fun e w'=>∃ Ap cp,e = .returned (.tuple #[.slice Ap (lay repB repV r).1.length cp,.int .i64 (lay repB repV r).2])∧Kd.R (Kd.int .u8) 5 w' w.heap.size (fun _=>True) (.slice Ap (lay repB repV r).1.length cp) (lay repB repV r).1∧Below w.heap.size w w':=by
 refine (rencrep2_calls r w h).mono ?_;rintro e w' ⟨v,he,hR,hb⟩;obtain ⟨Ap,cp,rfl⟩:=Kd.R_slice hR;exact ⟨Ap,cp,he,hR,hb⟩
theorem dec_req_law (w:World) (A:Option Addr) (c:Nat) (b:List Int) (hi:In w A c b) {y:S25} {u:Sp.Op} {p er:Int} (h:whole (z25,zOp) reqP b=((y,u),p,er)):
  Calls Try.prog 33 #[.slice A b.length c] w fun e w'=>e = .returned (.tuple #[.agg #[.int .i64 y.f0,.int .i64 y.f1],.agg #[.int .i64 u.kind,.string u.name,.int .i64 u.a,.int .i64 u.b],.int .i64 p,.int .i64 er])∧Below w.heap.size w w':=by
 refine (decreq_calls w A c b hi).mono ?_;rintro e w' ⟨hb,he⟩;rw[h] at he;exact ⟨he,hb⟩
theorem rdec_req_law (w:World) (A:Option Addr) (c:Nat) (b:List Int) (hi:In w A c b) {y:S25} {u:Sp.Op} {p er:Int} (h:whole (z25,zOp) reqP b=((y,u),p,er)):
  Calls Try.prog 73 #[.slice A b.length c] w fun e w'=>e = .returned (.tuple #[.agg #[.int .i64 y.f0,.int .i64 y.f1],.agg #[.int .i64 u.kind,.string u.name,.int .i64 u.a,.int .i64 u.b],.int .i64 p,.int .i64 er])∧Below w.heap.size w w':=by
 refine (rdecreq_calls w A c b hi).mono ?_;rintro e w' ⟨hb,he⟩;rw[h] at he;exact ⟨he,hb⟩
theorem dec_rep_law (w:World) (A:Option Addr) (c:Nat) (b:List Int) (hi:In w A c b) {y:Rep} {p er:Int} (h:whole zRep repP b=(y,p,er)):
  Calls Try.prog 35 #[.slice A b.length c] w fun e w'=>e = .returned (.tuple #[.agg #[.int .i64 y.call.f0,.int .i64 y.call.f1,.int .i64 y.err,.int .i64 y.value],.int .i64 p,.int .i64 er])∧Below w.heap.size w w':=by
 refine (decrep_calls w A c b hi).mono ?_;rintro e w' ⟨hb,he⟩;rw[h] at he;exact ⟨he,hb⟩
theorem rdec_rep_law (w:World) (A:Option Addr) (c:Nat) (b:List Int) (hi:In w A c b) {y:Rep} {p er:Int} (h:whole zRep repP b=(y,p,er)):
  Calls Try.prog 75 #[.slice A b.length c] w fun e w'=>e = .returned (.tuple #[.agg #[.int .i64 y.call.f0,.int .i64 y.call.f1,.int .i64 y.err,.int .i64 y.value],.int .i64 p,.int .i64 er])∧Below w.heap.size w w':=by
 refine (rdecrep_calls w A c b hi).mono ?_;rintro e w' ⟨hb,he⟩;rw[h] at he;exact ⟨he,hb⟩
theorem requests_calls (w:World) (x:S25) (o:Sp.Op) (A:Option Addr) (c:Nat) (b:List Int) (ho:isI o.a∧isI o.b) (hb:In w A c b) (hbl:b.length≤140737488351232):
  Calls Try.prog 23 #[.agg #[.int .i64 x.f0,.int .i64 x.f1],.agg #[.int .i64 o.kind,.string o.name,.int .i64 o.a,.int .i64 o.b],.slice A b.length c] w fun e w'=>e = .returned (.bool true)∧Below w.heap.size w w':=by
 have HO:=Aside0.mk ho;have HI:=Aside0.mk (And.intro hb hbl);have hbI:(b.length:Int)≤9223372036854775807:=by omega
 have hb0:(0:Int)≤(b.length:Int):=by omega
 clear ho hb hbl;have hu27:=Try.underlying27;have hu29:=Try.underlying29;have hu50:=Try.underlying50;obtain ⟨wa,hwa⟩:∃ wa,wa=(w.alloc (.cells #[.int .i64 x.f0,.int .i64 x.f1] 27 (0,0))).alloc (.cells #[.int .i64 o.kind,.string o.name,.int .i64 o.a,.int .i64 o.b] 29 (0,0)):=⟨_,rfl⟩;have HWA:=Aside0.mk hwa;have H0:Aside0 (Below w.heap.size w wa∧wa.heap[w.heap.size]?=some (.cells #[.int .i64 x.f0,.int .i64 x.f1] 27 (0,0))∧wa.heap[w.heap.size+1]?=some (.cells #[.int .i64 o.kind,.string o.name,.int .i64 o.a,.int .i64 o.b] 29 (0,0))):=⟨by rw[hwa];exact ⟨below_al2 w _ _,(two_blocks w _ _).1,(two_blocks w _ _).2⟩⟩;clear hwa;go_enter Try.func23,Try.ntmps23
 go_upto_region 1 with fail
 rw[←HWA.out];have kc0:wa.cell? ⟨w.heap.size,0,none⟩=some (.int .i64 x.f0):=(blk_cell H0.out.2.1 0).trans rfl;have kc1:wa.cell? ⟨w.heap.size,1,none⟩=some (.int .i64 x.f1):=(blk_cell H0.out.2.1 1).trans rfl;have ko0:wa.cell? ⟨w.heap.size+1,0,none⟩=some (.int .i64 o.kind):=(blk_cell H0.out.2.2 0).trans rfl;have ko1:wa.cell? ⟨w.heap.size+1,1,none⟩=some (.string o.name):=(blk_cell H0.out.2.2 1).trans rfl;have ko2:wa.cell? ⟨w.heap.size+1,2,none⟩=some (.int .i64 o.a):=(blk_cell H0.out.2.2 2).trans rfl;have ko3:wa.cell? ⟨w.heap.size+1,3,none⟩=some (.int .i64 o.b):=(blk_cell H0.out.2.2 3).trans rfl
 go_upto_region 3 with (first
  | (go_at_call 32;refine (enc_req_law x o _ HO.out).mono ?_;rintro e w1 ⟨Ap,cp,rfl,hR,hb⟩;have H1:Aside0 (Below w.heap.size w w1∧Kd.R (Kd.int .u8) 5 w1 w.heap.size (fun k=>wa.heap.size≤k∧k<w1.heap.size) (.slice Ap (lay reqB reqV (x,o)).1.length cp) (lay reqB reqV (x,o)).1∧w1.heap[w.heap.size]?=some (.cells #[.int .i64 x.f0,.int .i64 x.f1] 27 (0,0))∧w1.heap[w.heap.size+1]?=some (.cells #[.int .i64 o.kind,.string o.name,.int .i64 o.a,.int .i64 o.b] 29 (0,0))):=⟨below_step H0.out.1 hb,lent_in hR H0.out.1.size,blk_keep hb H0.out.2.1,blk_keep hb H0.out.2.2⟩;clear hR hb kc0 kc1 ko0 ko1 ko2 ko3;have kc0:w1.cell? ⟨w.heap.size,0,none⟩=some (.int .i64 x.f0):=(blk_cell H1.out.2.2.1 0).trans rfl;have kc1:w1.cell? ⟨w.heap.size,1,none⟩=some (.int .i64 x.f1):=(blk_cell H1.out.2.2.1 1).trans rfl;have ko0:w1.cell? ⟨w.heap.size+1,0,none⟩=some (.int .i64 o.kind):=(blk_cell H1.out.2.2.2 0).trans rfl;have ko1:w1.cell? ⟨w.heap.size+1,1,none⟩=some (.string o.name):=(blk_cell H1.out.2.2.2 1).trans rfl;have ko2:w1.cell? ⟨w.heap.size+1,2,none⟩=some (.int .i64 o.a):=(blk_cell H1.out.2.2.2 2).trans rfl;have ko3:w1.cell? ⟨w.heap.size+1,3,none⟩=some (.int .i64 o.b):=(blk_cell H1.out.2.2.2 3).trans rfl)
  | (go_at_call 72;refine (renc_req_law x o _ HO.out).mono ?_;rintro e w2 ⟨Aq,cq,rfl,hR,hb⟩;have H2:Aside0 (Below w.heap.size w w2∧Kd.R (Kd.int .u8) 5 w2 w.heap.size (fun k=>wa.heap.size≤k∧k<w1.heap.size) (.slice Ap (lay reqB reqV (x,o)).1.length cp) (lay reqB reqV (x,o)).1∧Kd.R (Kd.int .u8) 5 w2 w.heap.size (fun k=>w1.heap.size≤k∧k<w2.heap.size) (.slice Aq (lay reqB reqV (x,o)).1.length cq) (lay reqB reqV (x,o)).1∧w.heap.size≤w2.heap.size∧w1.heap.size≤w2.heap.size):=⟨below_step H1.out.1 hb,Kd.R_below H1.out.2.1 hb,lent_in hR H1.out.1.size,Nat.le_trans H1.out.1.size hb.size,hb.size⟩;clear hR hb kc0 kc1 ko0 ko1 ko2 ko3))
 clear H0 H1 HWA;obtain ⟨pb,er0,hpb⟩:∃ pb er0,lay reqB reqV (x,o)=(pb,er0):=⟨_,_,rfl⟩;have HPB:Aside0 (IsB pb):=⟨by have:=lay_isB (v:=reqV) (b_req (x,o));rwa [hpb] at this⟩;have H3:=H2;rw[hpb] at H3;rw[hpb];clear hpb H2;obtain ⟨y,u,p,er,hyp⟩:∃ y u p er,whole (z25,zOp) reqP b=((y,u),p,er):=⟨_,_,_,_,rfl⟩;have HYP:=Aside0.mk hyp;clear hyp;go_upto_region 4 with (go_at_call 19;refine (lent_calls A c b _ (In.below HI.out.1 H3.out.1).row HI.out.2).mono ?_;rintro e w3 ⟨v,rfl,hR,hb⟩;obtain ⟨Ab,cb,rfl,hcv,hin⟩:=lent_cut hR HI.out.1.isB;have hcB:(b.length:Int)≤(cb:Int):=(by omega);clear hcv hin;have H4:Aside0 (Below w.heap.size w w3∧Kd.R (Kd.int .u8) 5 w3 w.heap.size (fun k=>wa.heap.size≤k∧k<w1.heap.size) (.slice Ap pb.length cp) pb∧Kd.R (Kd.int .u8) 5 w3 w.heap.size (fun k=>w1.heap.size≤k∧k<w2.heap.size) (.slice Aq pb.length cq) pb∧Kd.R (Kd.int .u8) 5 w3 w.heap.size (fun k=>w2.heap.size≤k∧k<w3.heap.size) (.slice Ab (b.length+2) cb) (b++[165,90])):=⟨below_step H3.out.1 hb,Kd.R_below H3.out.2.1 hb,Kd.R_below H3.out.2.2.1 hb,lent_in hR H3.out.1.size⟩;clear hR hb)
 go_upto_region 5 with (go_at_call 33;refine (dec_req_law _ Ab cb b (in_cut H4.out.2.2.2 HI.out.1.isB) HYP.out).mono ?_;rintro e w4 ⟨rfl,hb⟩;have H5:Aside0 (Below w.heap.size w w4∧Kd.R (Kd.int .u8) 5 w4 w.heap.size (fun k=>wa.heap.size≤k∧k<w1.heap.size) (.slice Ap pb.length cp) pb∧Kd.R (Kd.int .u8) 5 w4 w.heap.size (fun k=>w1.heap.size≤k∧k<w2.heap.size) (.slice Aq pb.length cq) pb∧Kd.R (Kd.int .u8) 5 w4 w.heap.size (fun k=>w2.heap.size≤k∧k<w3.heap.size) (.slice Ab (b.length+2) cb) (b++[165,90])∧w3.heap.size≤w4.heap.size):=⟨below_step H4.out.1 hb,Kd.R_below H4.out.2.1 hb,Kd.R_below H4.out.2.2.1 hb,Kd.R_below H4.out.2.2.2 hb,hb.size⟩;clear hb)
 obtain ⟨w5,hw5⟩:∃ w5,w5=(w4.alloc (.cells #[.int .i64 y.f0,.int .i64 y.f1] 27 (0,0))).alloc (.cells #[.int .i64 u.kind,.string u.name,.int .i64 u.a,.int .i64 u.b] 29 (0,0)):=⟨_,rfl⟩;have HW5:=Aside0.mk hw5
 have H6 : Aside0 (Below w.heap.size w w5 ∧ Kd.R (Kd.int .u8) 5 w5 w.heap.size (fun k => wa.heap.size ≤ k ∧ k < w1.heap.size) (.slice Ap pb.length cp) pb ∧ Kd.R (Kd.int .u8) 5 w5 w.heap.size (fun k => w1.heap.size ≤ k ∧ k < w2.heap.size) (.slice Aq pb.length cq) pb ∧ Kd.R (Kd.int .u8) 5 w5 w.heap.size (fun k => w2.heap.size ≤ k ∧ k < w3.heap.size) (.slice Ab (b.length + 2) cb) (b ++ [165, 90]) ∧ w4.heap.size ≤ w5.heap.size ∧ w5.heap[w4.heap.size]? = some (.cells #[.int .i64 y.f0, .int .i64 y.f1] 27 (0, 0)) ∧ w5.heap[w4.heap.size + 1]? = some (.cells #[.int .i64 u.kind, .string u.name, .int .i64 u.a, .int .i64 u.b] 29 (0, 0))) := ⟨by
   have hb:Below w4.heap.size w4 w5:=by rw[hw5];exact below_al2 w4 _ _
   exact ⟨below_step H5.out.1 hb,Kd.R_below H5.out.2.1 hb,Kd.R_below H5.out.2.2.1 hb,Kd.R_below H5.out.2.2.2.1 hb,hb.size,by rw[hw5];exact ⟨(two_blocks w4 _ _).1,(two_blocks w4 _ _).2⟩⟩⟩
 rw[←HW5.out];clear hw5 HW5;go_upto_region 6 with (go_at_call 73;refine (rdec_req_law _ A c b (In.below HI.out.1 H6.out.1) HYP.out).mono ?_;rintro e w6 ⟨rfl,hb⟩;have H7:Aside0 (Below w.heap.size w w6∧Kd.R (Kd.int .u8) 5 w6 w.heap.size (fun k=>wa.heap.size≤k∧k<w1.heap.size) (.slice Ap pb.length cp) pb∧Kd.R (Kd.int .u8) 5 w6 w.heap.size (fun k=>w1.heap.size≤k∧k<w2.heap.size) (.slice Aq pb.length cq) pb∧Kd.R (Kd.int .u8) 5 w6 w.heap.size (fun k=>w2.heap.size≤k∧k<w3.heap.size) (.slice Ab (b.length+2) cb) (b++[165,90])∧w5.heap.size≤w6.heap.size∧w6.heap[w4.heap.size]?=some (.cells #[.int .i64 y.f0,.int .i64 y.f1] 27 (0,0))∧w6.heap[w4.heap.size+1]?=some (.cells #[.int .i64 u.kind,.string u.name,.int .i64 u.a,.int .i64 u.b] 29 (0,0))):=⟨below_step H6.out.1 hb,Kd.R_below H6.out.2.1 hb,Kd.R_below H6.out.2.2.1 hb,Kd.R_below H6.out.2.2.2.1 hb,hb.size,blk_keep hb H6.out.2.2.2.2.2.1,blk_keep hb H6.out.2.2.2.2.2.2⟩;clear hb)
 obtain ⟨w7,hw7⟩:∃ w7,w7=(w6.alloc (.cells #[.int .i64 y.f0,.int .i64 y.f1] 27 (0,0))).alloc (.cells #[.int .i64 u.kind,.string u.name,.int .i64 u.a,.int .i64 u.b] 29 (0,0)):=⟨_,rfl⟩;have HW7:=Aside0.mk hw7
 have H8 : Aside0 (Below w.heap.size w w7 ∧ Kd.R (Kd.int .u8) 5 w7 w.heap.size (fun k => wa.heap.size ≤ k ∧ k < w1.heap.size) (.slice Ap pb.length cp) pb ∧ Kd.R (Kd.int .u8) 5 w7 w.heap.size (fun k => w1.heap.size ≤ k ∧ k < w2.heap.size) (.slice Aq pb.length cq) pb ∧ Kd.R (Kd.int .u8) 5 w7 w.heap.size (fun k => w2.heap.size ≤ k ∧ k < w3.heap.size) (.slice Ab (b.length + 2) cb) (b ++ [165, 90]) ∧ (w3.heap.size ≤ w4.heap.size ∧ w4.heap.size ≤ w5.heap.size ∧ w5.heap.size ≤ w6.heap.size ∧ w.heap.size ≤ w2.heap.size ∧ w1.heap.size ≤ w2.heap.size) ∧ w7.heap[w4.heap.size]? = some (.cells #[.int .i64 y.f0, .int .i64 y.f1] 27 (0, 0)) ∧ w7.heap[w4.heap.size + 1]? = some (.cells #[.int .i64 u.kind, .string u.name, .int .i64 u.a, .int .i64 u.b] 29 (0, 0)) ∧ w7.heap[w6.heap.size]? = some (.cells #[.int .i64 y.f0, .int .i64 y.f1] 27 (0, 0)) ∧ w7.heap[w6.heap.size + 1]? = some (.cells #[.int .i64 u.kind, .string u.name, .int .i64 u.a, .int .i64 u.b] 29 (0, 0))) := ⟨by
   have hb:Below w6.heap.size w6 w7:=by rw[hw7];exact below_al2 w6 _ _
   exact ⟨below_step H7.out.1 hb,Kd.R_below H7.out.2.1 hb,Kd.R_below H7.out.2.2.1 hb,Kd.R_below H7.out.2.2.2.1 hb,⟨H5.out.2.2.2.2,H6.out.2.2.2.2.1,H7.out.2.2.2.2.1,H3.out.2.2.2⟩,blk_keep hb H7.out.2.2.2.2.2.1,blk_keep hb H7.out.2.2.2.2.2.2,by rw[hw7];exact ⟨(two_blocks w6 _ _).1,(two_blocks w6 _ _).2⟩⟩⟩
 rw[←HW7.out];clear hw7 HW7 H3 H4 H5 H6 H7
 go_wp2_with (first
  | (go_at_call 42;refine (back_law w _ _ b w2.heap.size w3.heap.size H8.out.1 H8.out.2.2.2.2.1.2.2.2.1 H8.out.2.2.2.1 A c HI.out.1 HI.out.2).mono ?_;rintro e w8 ⟨rfl,hb,hk⟩;have H9:Aside0 (Below w.heap.size w w8∧In w8 Ap cp pb∧In w8 Aq cq pb∧w8.heap[w4.heap.size]?=some (.cells #[.int .i64 y.f0,.int .i64 y.f1] 27 (0,0))∧w8.heap[w4.heap.size+1]?=some (.cells #[.int .i64 u.kind,.string u.name,.int .i64 u.a,.int .i64 u.b] 29 (0,0))∧w8.heap[w6.heap.size]?=some (.cells #[.int .i64 y.f0,.int .i64 y.f1] 27 (0,0))∧w8.heap[w6.heap.size+1]?=some (.cells #[.int .i64 u.kind,.string u.name,.int .i64 u.a,.int .i64 u.b] 29 (0,0))):=⟨hb,in_row (row_ahead H8.out.2.1 hk H8.out.2.2.2.2.1.2.2.2.2) HPB.out,in_row (row_ahead H8.out.2.2.1 hk (Nat.le_refl _)) HPB.out,blk_kept H8.out.2.2.2.2.2.1 hk (by have:=H8.out.2.2.2.2.1;omega),blk_kept H8.out.2.2.2.2.2.2.1 hk (by have:=H8.out.2.2.2.2.1;omega),blk_kept H8.out.2.2.2.2.2.2.2.1 hk (by have:=H8.out.2.2.2.2.1;omega),blk_kept H8.out.2.2.2.2.2.2.2.2 hk (by have:=H8.out.2.2.2.2.1;omega)⟩;clear hb hk H8)
  | (go_at_call 37;refine (alike_ex Ap cp Aq cq pb _ rfl _ H9.out.2.1 H9.out.2.2.1).mono ?_;rintro e w9 ⟨rfl,hb⟩;have HE:=Aside0.mk (below_step H9.out.1 hb);have HD:Aside0 (w9.heap[w4.heap.size]?=some (.cells #[.int .i64 y.f0,.int .i64 y.f1] 27 (0,0))∧w9.heap[w4.heap.size+1]?=some (.cells #[.int .i64 u.kind,.string u.name,.int .i64 u.a,.int .i64 u.b] 29 (0,0))∧w9.heap[w6.heap.size]?=some (.cells #[.int .i64 y.f0,.int .i64 y.f1] 27 (0,0))∧w9.heap[w6.heap.size+1]?=some (.cells #[.int .i64 u.kind,.string u.name,.int .i64 u.a,.int .i64 u.b] 29 (0,0))):=⟨⟨blk_keep hb H9.out.2.2.2.1,blk_keep hb H9.out.2.2.2.2.1,blk_keep hb H9.out.2.2.2.2.2.1,blk_keep hb H9.out.2.2.2.2.2.2⟩⟩;clear hb H9;have dc0:w9.cell? ⟨w4.heap.size,0,none⟩=some (.int .i64 y.f0):=(blk_cell HD.out.1 0).trans rfl;have dc1:w9.cell? ⟨w4.heap.size,1,none⟩=some (.int .i64 y.f1):=(blk_cell HD.out.1 1).trans rfl;have do0:w9.cell? ⟨w4.heap.size+1,0,none⟩=some (.int .i64 u.kind):=(blk_cell HD.out.2.1 0).trans rfl;have do1:w9.cell? ⟨w4.heap.size+1,1,none⟩=some (.string u.name):=(blk_cell HD.out.2.1 1).trans rfl;have do2:w9.cell? ⟨w4.heap.size+1,2,none⟩=some (.int .i64 u.a):=(blk_cell HD.out.2.1 2).trans rfl;have do3:w9.cell? ⟨w4.heap.size+1,3,none⟩=some (.int .i64 u.b):=(blk_cell HD.out.2.1 3).trans rfl;have ec0:w9.cell? ⟨w6.heap.size,0,none⟩=some (.int .i64 y.f0):=(blk_cell HD.out.2.2.1 0).trans rfl;have ec1:w9.cell? ⟨w6.heap.size,1,none⟩=some (.int .i64 y.f1):=(blk_cell HD.out.2.2.1 1).trans rfl;have eo0:w9.cell? ⟨w6.heap.size+1,0,none⟩=some (.int .i64 u.kind):=(blk_cell HD.out.2.2.2 0).trans rfl;have eo1:w9.cell? ⟨w6.heap.size+1,1,none⟩=some (.string u.name):=(blk_cell HD.out.2.2.2 1).trans rfl;have eo2:w9.cell? ⟨w6.heap.size+1,2,none⟩=some (.int .i64 u.a):=(blk_cell HD.out.2.2.2 2).trans rfl;have eo3:w9.cell? ⟨w6.heap.size+1,3,none⟩=some (.int .i64 u.b):=(blk_cell HD.out.2.2.2 3).trans rfl))
 go_ret
 exact ⟨rfl,HE.out⟩
theorem replies_calls (w:World) (r:Rep) (A:Option Addr) (c:Nat) (b:List Int) (ho:isI r.value) (hb:In w A c b) (hbl:b.length≤140737488351232):
  Calls Try.prog 24 #[.agg #[.int .i64 r.call.f0,.int .i64 r.call.f1,.int .i64 r.err,.int .i64 r.value],.slice A b.length c] w fun e w'=>e = .returned (.bool true)∧Below w.heap.size w w':=by
 have HO:=Aside0.mk ho;have HI:=Aside0.mk (And.intro hb hbl);have hbI:(b.length:Int)≤9223372036854775807:=by omega
 have hb0:(0:Int)≤(b.length:Int):=by omega
 clear ho hb hbl;have hu27:=Try.underlying27;have hu29:=Try.underlying29;have hu50:=Try.underlying50;obtain ⟨wa,hwa⟩:∃ wa,wa=w.alloc (.cells #[.int .i64 r.call.f0,.int .i64 r.call.f1,.int .i64 r.err,.int .i64 r.value] 50 (0,0)):=⟨_,rfl⟩;have HWA:=Aside0.mk hwa;have H0:Aside0 (Below w.heap.size w wa∧wa.heap[w.heap.size]?=some (.cells #[.int .i64 r.call.f0,.int .i64 r.call.f1,.int .i64 r.err,.int .i64 r.value] 50 (0,0))):=⟨by rw[hwa];exact ⟨al_below w _,heap_alloc_new w _⟩⟩;clear hwa;go_enter Try.func24,Try.ntmps24
 go_upto_region 1 with fail
 rw[←HWA.out];have kr0:wa.cell? ⟨w.heap.size,0,none⟩=some (.int .i64 r.call.f0):=(blk_cell H0.out.2 0).trans rfl;have kr1:wa.cell? ⟨w.heap.size,1,none⟩=some (.int .i64 r.call.f1):=(blk_cell H0.out.2 1).trans rfl;have kr2:wa.cell? ⟨w.heap.size,2,none⟩=some (.int .i64 r.err):=(blk_cell H0.out.2 2).trans rfl;have kr3:wa.cell? ⟨w.heap.size,3,none⟩=some (.int .i64 r.value):=(blk_cell H0.out.2 3).trans rfl
 go_upto_region 3 with (first
  | (go_at_call 34;refine (enc_rep_law r _ HO.out).mono ?_;rintro e w1 ⟨Ap,cp,rfl,hR,hb⟩;have H1:Aside0 (Below w.heap.size w w1∧Kd.R (Kd.int .u8) 5 w1 w.heap.size (fun k=>wa.heap.size≤k∧k<w1.heap.size) (.slice Ap (lay repB repV r).1.length cp) (lay repB repV r).1∧w1.heap[w.heap.size]?=some (.cells #[.int .i64 r.call.f0,.int .i64 r.call.f1,.int .i64 r.err,.int .i64 r.value] 50 (0,0))):=⟨below_step H0.out.1 hb,lent_in hR H0.out.1.size,blk_keep hb H0.out.2⟩;clear hR hb kr0 kr1 kr2 kr3;have kr0:w1.cell? ⟨w.heap.size,0,none⟩=some (.int .i64 r.call.f0):=(blk_cell H1.out.2.2 0).trans rfl;have kr1:w1.cell? ⟨w.heap.size,1,none⟩=some (.int .i64 r.call.f1):=(blk_cell H1.out.2.2 1).trans rfl;have kr2:w1.cell? ⟨w.heap.size,2,none⟩=some (.int .i64 r.err):=(blk_cell H1.out.2.2 2).trans rfl;have kr3:w1.cell? ⟨w.heap.size,3,none⟩=some (.int .i64 r.value):=(blk_cell H1.out.2.2 3).trans rfl)
  | (go_at_call 74;refine (renc_rep_law r _ HO.out).mono ?_;rintro e w2 ⟨Aq,cq,rfl,hR,hb⟩;have H2:Aside0 (Below w.heap.size w w2∧Kd.R (Kd.int .u8) 5 w2 w.heap.size (fun k=>wa.heap.size≤k∧k<w1.heap.size) (.slice Ap (lay repB repV r).1.length cp) (lay repB repV r).1∧Kd.R (Kd.int .u8) 5 w2 w.heap.size (fun k=>w1.heap.size≤k∧k<w2.heap.size) (.slice Aq (lay repB repV r).1.length cq) (lay repB repV r).1∧w.heap.size≤w2.heap.size∧w1.heap.size≤w2.heap.size):=⟨below_step H1.out.1 hb,Kd.R_below H1.out.2.1 hb,lent_in hR H1.out.1.size,Nat.le_trans H1.out.1.size hb.size,hb.size⟩;clear hR hb kr0 kr1 kr2 kr3))
 clear H0 H1 HWA;obtain ⟨pb,er0,hpb⟩:∃ pb er0,lay repB repV r=(pb,er0):=⟨_,_,rfl⟩;have HPB:Aside0 (IsB pb):=⟨by have:=lay_isB (v:=repV) (b_rep r);rwa [hpb] at this⟩;have H3:=H2;rw[hpb] at H3;rw[hpb];clear hpb H2;obtain ⟨y,p,er,hyp⟩:∃ y p er,whole zRep repP b=(y,p,er):=⟨_,_,_,rfl⟩;have HYP:=Aside0.mk hyp;clear hyp;go_upto_region 4 with (go_at_call 19;refine (lent_calls A c b _ (In.below HI.out.1 H3.out.1).row HI.out.2).mono ?_;rintro e w3 ⟨v,rfl,hR,hb⟩;obtain ⟨Ab,cb,rfl,hcv,hin⟩:=lent_cut hR HI.out.1.isB;have hcB:(b.length:Int)≤(cb:Int):=(by omega);clear hcv hin;have H4:Aside0 (Below w.heap.size w w3∧Kd.R (Kd.int .u8) 5 w3 w.heap.size (fun k=>wa.heap.size≤k∧k<w1.heap.size) (.slice Ap pb.length cp) pb∧Kd.R (Kd.int .u8) 5 w3 w.heap.size (fun k=>w1.heap.size≤k∧k<w2.heap.size) (.slice Aq pb.length cq) pb∧Kd.R (Kd.int .u8) 5 w3 w.heap.size (fun k=>w2.heap.size≤k∧k<w3.heap.size) (.slice Ab (b.length+2) cb) (b++[165,90])):=⟨below_step H3.out.1 hb,Kd.R_below H3.out.2.1 hb,Kd.R_below H3.out.2.2.1 hb,lent_in hR H3.out.1.size⟩;clear hR hb)
 go_upto_region 5 with (go_at_call 35;refine (dec_rep_law _ Ab cb b (in_cut H4.out.2.2.2 HI.out.1.isB) HYP.out).mono ?_;rintro e w4 ⟨rfl,hb⟩;have H5:Aside0 (Below w.heap.size w w4∧Kd.R (Kd.int .u8) 5 w4 w.heap.size (fun k=>wa.heap.size≤k∧k<w1.heap.size) (.slice Ap pb.length cp) pb∧Kd.R (Kd.int .u8) 5 w4 w.heap.size (fun k=>w1.heap.size≤k∧k<w2.heap.size) (.slice Aq pb.length cq) pb∧Kd.R (Kd.int .u8) 5 w4 w.heap.size (fun k=>w2.heap.size≤k∧k<w3.heap.size) (.slice Ab (b.length+2) cb) (b++[165,90])∧w3.heap.size≤w4.heap.size):=⟨below_step H4.out.1 hb,Kd.R_below H4.out.2.1 hb,Kd.R_below H4.out.2.2.1 hb,Kd.R_below H4.out.2.2.2 hb,hb.size⟩;clear hb)
 obtain ⟨w5,hw5⟩:∃ w5,w5=w4.alloc (.cells #[.int .i64 y.call.f0,.int .i64 y.call.f1,.int .i64 y.err,.int .i64 y.value] 50 (0,0)):=⟨_,rfl⟩;have HW5:=Aside0.mk hw5
 have H6 : Aside0 (Below w.heap.size w w5 ∧ Kd.R (Kd.int .u8) 5 w5 w.heap.size (fun k => wa.heap.size ≤ k ∧ k < w1.heap.size) (.slice Ap pb.length cp) pb ∧ Kd.R (Kd.int .u8) 5 w5 w.heap.size (fun k => w1.heap.size ≤ k ∧ k < w2.heap.size) (.slice Aq pb.length cq) pb ∧ Kd.R (Kd.int .u8) 5 w5 w.heap.size (fun k => w2.heap.size ≤ k ∧ k < w3.heap.size) (.slice Ab (b.length + 2) cb) (b ++ [165, 90]) ∧ w4.heap.size ≤ w5.heap.size ∧ w5.heap[w4.heap.size]? = some (.cells #[.int .i64 y.call.f0, .int .i64 y.call.f1, .int .i64 y.err, .int .i64 y.value] 50 (0, 0))) := ⟨by
   have hb:Below w4.heap.size w4 w5:=by rw[hw5];exact al_below w4 _
   exact ⟨below_step H5.out.1 hb,Kd.R_below H5.out.2.1 hb,Kd.R_below H5.out.2.2.1 hb,Kd.R_below H5.out.2.2.2.1 hb,hb.size,by rw[hw5];exact heap_alloc_new w4 _⟩⟩
 rw[←HW5.out];clear hw5 HW5;go_upto_region 6 with (go_at_call 75;refine (rdec_rep_law _ A c b (In.below HI.out.1 H6.out.1) HYP.out).mono ?_;rintro e w6 ⟨rfl,hb⟩;have H7:Aside0 (Below w.heap.size w w6∧Kd.R (Kd.int .u8) 5 w6 w.heap.size (fun k=>wa.heap.size≤k∧k<w1.heap.size) (.slice Ap pb.length cp) pb∧Kd.R (Kd.int .u8) 5 w6 w.heap.size (fun k=>w1.heap.size≤k∧k<w2.heap.size) (.slice Aq pb.length cq) pb∧Kd.R (Kd.int .u8) 5 w6 w.heap.size (fun k=>w2.heap.size≤k∧k<w3.heap.size) (.slice Ab (b.length+2) cb) (b++[165,90])∧w5.heap.size≤w6.heap.size∧w6.heap[w4.heap.size]?=some (.cells #[.int .i64 y.call.f0,.int .i64 y.call.f1,.int .i64 y.err,.int .i64 y.value] 50 (0,0))):=⟨below_step H6.out.1 hb,Kd.R_below H6.out.2.1 hb,Kd.R_below H6.out.2.2.1 hb,Kd.R_below H6.out.2.2.2.1 hb,hb.size,blk_keep hb H6.out.2.2.2.2.2⟩;clear hb)
 obtain ⟨w7,hw7⟩:∃ w7,w7=w6.alloc (.cells #[.int .i64 y.call.f0,.int .i64 y.call.f1,.int .i64 y.err,.int .i64 y.value] 50 (0,0)):=⟨_,rfl⟩;have HW7:=Aside0.mk hw7
 have H8 : Aside0 (Below w.heap.size w w7 ∧ Kd.R (Kd.int .u8) 5 w7 w.heap.size (fun k => wa.heap.size ≤ k ∧ k < w1.heap.size) (.slice Ap pb.length cp) pb ∧ Kd.R (Kd.int .u8) 5 w7 w.heap.size (fun k => w1.heap.size ≤ k ∧ k < w2.heap.size) (.slice Aq pb.length cq) pb ∧ Kd.R (Kd.int .u8) 5 w7 w.heap.size (fun k => w2.heap.size ≤ k ∧ k < w3.heap.size) (.slice Ab (b.length + 2) cb) (b ++ [165, 90]) ∧ (w3.heap.size ≤ w4.heap.size ∧ w4.heap.size ≤ w5.heap.size ∧ w5.heap.size ≤ w6.heap.size ∧ w.heap.size ≤ w2.heap.size ∧ w1.heap.size ≤ w2.heap.size) ∧ w7.heap[w4.heap.size]? = some (.cells #[.int .i64 y.call.f0, .int .i64 y.call.f1, .int .i64 y.err, .int .i64 y.value] 50 (0, 0)) ∧ w7.heap[w6.heap.size]? = some (.cells #[.int .i64 y.call.f0, .int .i64 y.call.f1, .int .i64 y.err, .int .i64 y.value] 50 (0, 0))) := ⟨by
   have hb:Below w6.heap.size w6 w7:=by rw[hw7];exact al_below w6 _
   exact ⟨below_step H7.out.1 hb,Kd.R_below H7.out.2.1 hb,Kd.R_below H7.out.2.2.1 hb,Kd.R_below H7.out.2.2.2.1 hb,⟨H5.out.2.2.2.2,H6.out.2.2.2.2.1,H7.out.2.2.2.2.1,H3.out.2.2.2⟩,blk_keep hb H7.out.2.2.2.2.2,by rw[hw7];exact heap_alloc_new w6 _⟩⟩
 rw[←HW7.out];clear hw7 HW7 H3 H4 H5 H6 H7
 go_wp2_with (first
  | (go_at_call 42;refine (back_law w _ _ b w2.heap.size w3.heap.size H8.out.1 H8.out.2.2.2.2.1.2.2.2.1 H8.out.2.2.2.1 A c HI.out.1 HI.out.2).mono ?_;rintro e w8 ⟨rfl,hb,hk⟩;have H9:Aside0 (Below w.heap.size w w8∧In w8 Ap cp pb∧In w8 Aq cq pb∧w8.heap[w4.heap.size]?=some (.cells #[.int .i64 y.call.f0,.int .i64 y.call.f1,.int .i64 y.err,.int .i64 y.value] 50 (0,0))∧w8.heap[w6.heap.size]?=some (.cells #[.int .i64 y.call.f0,.int .i64 y.call.f1,.int .i64 y.err,.int .i64 y.value] 50 (0,0))):=⟨hb,in_row (row_ahead H8.out.2.1 hk H8.out.2.2.2.2.1.2.2.2.2) HPB.out,in_row (row_ahead H8.out.2.2.1 hk (Nat.le_refl _)) HPB.out,blk_kept H8.out.2.2.2.2.2.1 hk (by have:=H8.out.2.2.2.2.1;omega),blk_kept H8.out.2.2.2.2.2.2 hk (by have:=H8.out.2.2.2.2.1;omega)⟩;clear hb hk H8)
  | (go_at_call 37;refine (alike_ex Ap cp Aq cq pb _ rfl _ H9.out.2.1 H9.out.2.2.1).mono ?_;rintro e w9 ⟨rfl,hb⟩;have HE:=Aside0.mk (below_step H9.out.1 hb);have HD:Aside0 (w9.heap[w4.heap.size]?=some (.cells #[.int .i64 y.call.f0,.int .i64 y.call.f1,.int .i64 y.err,.int .i64 y.value] 50 (0,0))∧w9.heap[w6.heap.size]?=some (.cells #[.int .i64 y.call.f0,.int .i64 y.call.f1,.int .i64 y.err,.int .i64 y.value] 50 (0,0))):=⟨⟨blk_keep hb H9.out.2.2.2.1,blk_keep hb H9.out.2.2.2.2⟩⟩;clear hb H9;have dr0:w9.cell? ⟨w4.heap.size,0,none⟩=some (.int .i64 y.call.f0):=(blk_cell HD.out.1 0).trans rfl;have dr1:w9.cell? ⟨w4.heap.size,1,none⟩=some (.int .i64 y.call.f1):=(blk_cell HD.out.1 1).trans rfl;have dr2:w9.cell? ⟨w4.heap.size,2,none⟩=some (.int .i64 y.err):=(blk_cell HD.out.1 2).trans rfl;have dr3:w9.cell? ⟨w4.heap.size,3,none⟩=some (.int .i64 y.value):=(blk_cell HD.out.1 3).trans rfl;have er0:w9.cell? ⟨w6.heap.size,0,none⟩=some (.int .i64 y.call.f0):=(blk_cell HD.out.2 0).trans rfl;have er1:w9.cell? ⟨w6.heap.size,1,none⟩=some (.int .i64 y.call.f1):=(blk_cell HD.out.2 1).trans rfl;have er2:w9.cell? ⟨w6.heap.size,2,none⟩=some (.int .i64 y.err):=(blk_cell HD.out.2 2).trans rfl;have er3:w9.cell? ⟨w6.heap.size,3,none⟩=some (.int .i64 y.value):=(blk_cell HD.out.2 3).trans rfl))
 go_ret
 exact ⟨rfl,HE.out⟩
end Go.Proofs.Ytpgdmmjbhjbbhaa.Lw
end
