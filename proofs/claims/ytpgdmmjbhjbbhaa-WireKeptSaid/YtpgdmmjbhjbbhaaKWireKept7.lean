/- texts that the proof needs, laid together by a program of this session. -/
import Derived.Deep.RegionLaw
import Derived.Deep.Cut
import Derived.Laws.Bits64b
import Derived.WalkSmall
import Derived.Test.YtpgdmmjbhjbbhaaKWireKept6
set_option maxRecDepth 100000
set_option maxHeartbeats 16000000
set_option linter.unusedVariables false
set_option linter.unusedSimpArgs false
section
namespace Go.Proofs.Ytpgdmmjbhjbbhaa.Wr
open Go Go.RowKit P Sp YtpgdmmjbhjbbhaaW.PrintWords YtpgdmmjbhjbbhaaW.PrintLast YtpgdmmjbhjbbhaaW.PrintMore
theorem viewsB_take (l:List S87) (i:Nat) (hi:i<l.length):viewsB (l.take (i+1))=viewsB (l.take i)++viewB (rd_T87 l i):=by
 unfold viewsB;rw[List.take_add_one,List.getElem?_eq_getElem hi,List.flatMap_append];simp[rd_T87,List.getD_eq_getElem?_getD,List.getElem?_eq_getElem hi]
theorem viewsB_le (l:List S87) (i:Nat):(viewsB (l.take i)).length≤(viewsB l).length:=by
 unfold viewsB
 conv=>rhs;rw[←List.take_append_drop i l,List.flatMap_append,List.length_append]
 omega
theorem views_calls (w0 w : World) (g : Nat) (bs : List Int) (v : Value) (A : Option Addr) (c : Nat) (l : List S87) (hr : Kd.C k87 w0 A l.length l) (hl : l.length ≤ 1000) (hS : WS w0 w g bs v) (hb : bs.length + (listB l).length ≤ 1099511627776) :
    Calls Try.prog 56 #[.pointer (some ⟨g,0,none⟩),.slice A l.length c] w fun e w'=>e = .returned (.tuple #[])∧∃ v',WS w0 w' g (bs++listB l) v'∧Stay w w':=by
  have HS:=Aside0.mk hS;have HR:=Aside0.mk hr;have HB:Aside0 (bs.length+(intB l.length).length+(viewsB l).length≤1099511627776):=⟨by simp only[listB,List.length_append] at hb;omega⟩;clear hS hb hr;have hlI:(l.length:Int)≤1000:=by omega
  have hu87:=Try.underlying87;have hu25:=Try.underlying25;have HL:Aside0 (IsL (w.alloc (.cells #[.int .i64 (l.length:Int)] 3 (0,0))) w.heap.size [(l.length:Int)]):=⟨heap_alloc_new w _⟩;have HB1:Aside0 (bs.length+(numsB [(l.length:Int)]).length≤1099511627776):=⟨by rw[numsB1];have:=HB.out;omega⟩;go_enter Try.func56,Try.ntmps56
  go_upto_region 1 with (go_at_call 53;refine (nums_calls w0 _ g _ v _ [(l.length:Int)] _ _ rfl (HS.out.below (al_below w _)) HL.out HB1.out (by simp)).mono ?_;rintro e w1 ⟨rfl,v1,hS1,hst⟩;rw[numsB1] at hS1;have HS1:=Aside0.mk hS1;have HST1:Aside0 (Stay w w1):=⟨(Stay.below (al_below w _)).trans hst⟩;clear hS1 hst)
  go_wp2_with fail
  go_loopw [13] (fun v13 wr=>∃ (i:Nat) (v:Value),v13 = .int .i64 (i:Int)∧Aside0 (i≤l.length∧WS w0 wr g (bs++intB l.length++viewsB (l.take i)) v∧Stay w wr)) (fun v13 _=>l.length - (intOf v13).toNat)
  case atStart=>exact ⟨0,v1,rfl,⟨Nat.zero_le _,by simpa [viewsB] using HS1.out,HST1.out⟩⟩
  case round=>
   obtain ⟨i,v2,rfl,HQ⟩:=hrel;by_cases hlt:i<l.length
   ·have hi0:(0:Int)≤(i:Int):=by omega
    have hi1:(i:Int)<(l.length:Int):=by omega
    have HLT:=Aside0.mk hlt;obtain ⟨ad,rfl,c0,c1,c2,c3,c4,c5,c6⟩:=at_T87 (Kd.C_below HR.out HQ.out.2.1.bel) (i:Int) hi0 hi1;obtain ⟨x,hx⟩:∃ x,x=rd_T87 l (i:Int):=⟨_,rfl⟩;have HX:=Aside0.mk hx;rw[←hx] at c0 c1 c2 c3 c4 c5 c6;simp only[Int.toNat_natCast] at c0 c1 c2 c3 c4 c5 c6;clear hx;obtain ⟨wa,hwa⟩:∃ wa,wa=wr.alloc (.cells #[.string x.f0,.int .i64 x.f1,.int .i64 x.f2,.int .i64 x.f3,.int .i64 x.f4.f0,.int .i64 x.f4.f1,.int .i64 x.f5] 87 (0,0)):=⟨_,rfl⟩;have HWA:=Aside0.mk hwa;have HBX:Aside0 (wa.heap[wr.heap.size]?=some (.cells #[.string x.f0,.int .i64 x.f1,.int .i64 x.f2,.int .i64 x.f3,.int .i64 x.f4.f0,.int .i64 x.f4.f1,.int .i64 x.f5] 87 (0,0))):=⟨by rw[hwa];exact heap_alloc_new wr _⟩;have HSA:Aside0 (WS w0 wa g (bs++intB l.length++viewsB (l.take i)) v2∧Stay w wa):=⟨by rw[hwa];exact HQ.out.2.1.below (al_below wr _),by rw[hwa];exact HQ.out.2.2.trans (Stay.below (al_below wr _))⟩;clear hwa;have HT:Aside0 (bs++intB l.length++viewsB (l.take (i+1))=(bs++intB l.length++viewsB (l.take i))++textB x.f0++numsB [x.f1,x.f2,x.f3,x.f4.f0,x.f4.f1,x.f5]):=⟨by rw[viewsB_take l i hlt,←HX.out];simp[viewB,numsB,pairB]⟩
    have HTL:Aside0 ((bs++intB l.length++viewsB (l.take i)).length+(textB x.f0).length+(numsB [x.f1,x.f2,x.f3,x.f4.f0,x.f4.f1,x.f5]).length≤1099511627776):=⟨by
     have h1:=congrArg List.length HT.out;have h2:=viewsB_le l (i+1);have h3:=HB.out;simp only[List.length_append] at h1 ⊢;omega⟩
    have HB2:Aside0 ((bs++intB l.length++viewsB (l.take i)).length+(textB x.f0).length≤1099511627776):=⟨by have:=HTL.out;omega⟩;have HB3:Aside0 ((bs++intB l.length++viewsB (l.take i)++textB x.f0).length+(numsB [x.f1,x.f2,x.f3,x.f4.f0,x.f4.f1,x.f5]).length≤1099511627776):=⟨by rw[List.length_append];have:=HTL.out;omega⟩;go_upto_region 5 with (rw[←HWA.out];go_at_call 57;refine (text_calls w0 _ g _ v2 x.f0 HSA.out.1 HB2.out).mono ?_;rintro e w3 ⟨rfl,v3,hS3,hst⟩;have HS3:=Aside0.mk hS3;have HST3:Aside0 (Stay wa w3):=⟨hst⟩;clear hS3 hst)
    clear c0 c1 c2 c3 c4 c5 c6;have k1:=box_stay HBX.out (by decide) (by decide) HST3.out 1;have k2:=box_stay HBX.out (by decide) (by decide) HST3.out 2;have k3:=box_stay HBX.out (by decide) (by decide) HST3.out 3;have k4:=box_stay HBX.out (by decide) (by decide) HST3.out 4;have k5:=box_stay HBX.out (by decide) (by decide) HST3.out 5;have k6:=box_stay HBX.out (by decide) (by decide) HST3.out 6;have HL4:Aside0 (IsL (w3.alloc (.cells #[.int .i64 x.f1,.int .i64 x.f2,.int .i64 x.f3,.int .i64 x.f4.f0,.int .i64 x.f4.f1,.int .i64 x.f5] 3 (0,0))) w3.heap.size [x.f1,x.f2,x.f3,x.f4.f0,x.f4.f1,x.f5]):=⟨heap_alloc_new w3 _⟩;go_wp2_with (go_at_call 53;refine (nums_calls w0 _ g _ v3 _ [x.f1,x.f2,x.f3,x.f4.f0,x.f4.f1,x.f5] _ _ rfl (HS3.out.below (al_below w3 _)) HL4.out HB3.out (by simp)).mono ?_;rintro e w4 ⟨rfl,v4,hS4,hst⟩;rw[←HT.out] at hS4;have HS4:=Aside0.mk hS4;have HST4:Aside0 (Stay wa w4):=⟨HST3.out.trans ((Stay.below (al_below w3 _)).trans hst)⟩;clear hS4 hst k1 k2 k3 k4 k5 k6)
    go_roundw
    case rel=>exact ⟨i+1,v4,by go_num,⟨by have:=HLT.out;omega,HS4.out,HSA.out.2.trans HST4.out⟩⟩
    case measure=>simp only[intOf];have:=HLT.out;first|omega|(go_num;omega)|(simp;omega)
   ·have hi1:¬((i:Int)<(l.length:Int)):=by omega
    have HI:Aside0 (l.take i=l):=⟨List.take_of_length_le (by omega)⟩;go_wp2_with fail
    (first|go_end0|((try simp only[Exit.inBlock,Exit.then]);refine bodyPost_ret (results_none rfl _ _ _) rfl ?_))
    have h1:=HQ.out.2.1;rw[HI.out,show bs++intB l.length++viewsB l=bs++listB l from by simp[listB]] at h1
    first|exact ⟨rfl,_,h1,HQ.out.2.2⟩|exact ⟨⟨_,h1⟩,HQ.out.2.2⟩|exact ⟨rfl,⟨_,h1⟩,HQ.out.2.2⟩
end Go.Proofs.Ytpgdmmjbhjbbhaa.Wr
end
section
namespace Go.Proofs.Ytpgdmmjbhjbbhaa.Sp
open Go Go.RowKit P YtpgdmmjbhjbbhaaW.PrintWords YtpgdmmjbhjbbhaaW.PrintLast YtpgdmmjbhjbbhaaW.PrintMore
theorem intB_len (d:Nat) {n:Int} (h0:0≤n) (h1:n<((128 ^ (d+1):Nat):Int)) (h2:n<18446744073709551616):(intB n).length≤d+1:=by
 rw[intB_of h0 h2];exact numB_len d _ (by omega)
theorem int1 {n:Int} (h0:0≤n) (h1:n≤127):(intB n).length≤1:=intB_len 0 h0 (by omega) (by omega)
theorem int2 {n:Int} (h0:0≤n) (h1:n≤16383):(intB n).length≤2:=intB_len 1 h0 (by omega) (by omega)
theorem int6 {n:Int} (h0:0≤n) (h1:n≤big):(intB n).length≤6:=intB_len 5 h0 (by unfold big at h1;omega) (by unfold big at h1;omega)
theorem sign10 {n:Int} (h:isI n):(signB n).length≤10:=numB_len10 (by unfold isI at h;unfold signN;split<;>omega)
theorem text17 {s:ByteArray} (h:nameOk (bytesOf s)):(textB s).length≤17:=by
 have h1:=h.1;have h2:=h.2.1;rw[bytesOf_length] at h1 h2;unfold textB;rw[List.length_append,bytesOf_length];have:=int1 (n:=(s.size:Int)) (by omega) (by omega);omega
theorem pair12 {x:S25} (h0:0≤x.f0∧x.f0≤big) (h1:0≤x.f1∧x.f1≤big):(pairB x).length≤12:=by
 unfold pairB;rw[List.length_append];have:=int6 h0.1 h0.2;have:=int6 h1.1 h1.2;omega
theorem call12 {x:S25} (h:callV x):(pairB x).length≤12:=pair12 ⟨h.1.1,by have:=h.1.2;unfold big;omega⟩ ⟨by have:=h.2.1;omega,h.2.2⟩
theorem epoch12 {x:S25} (h:epochV x):(pairB x).length≤12:=pair12 ⟨by have:=h.1.1;omega,h.1.2⟩ ⟨h.2.1,by have:=h.2.2;unfold big;omega⟩
theorem rights12 {x:S25} (h:rightsV x):(pairB x).length≤12:=pair12 h.1 h.2
theorem cap12 {x:S25} (h:capV x):(pairB x).length≤12:=pair12 ⟨by have:=h.1.1;omega,h.1.2⟩ h.2
theorem op_len {o:Op} (h:opV o):(opB o).length≤38:=by
 unfold opB;simp only[List.length_append];have:=int1 (n:=o.kind) (by have:=h.1.1;omega) (by have:=h.1.2;omega);have:=text17 h.2.1.1;have:=sign10 h.2.2.1;have:=sign10 h.2.2.2;omega
theorem view_len {a:ByteArray} {v:S87} (h:viewV a v):(viewB v).length≤53:=by
 unfold viewB;simp only[List.length_append];have:=text17 h.1.1;have:=cap12 h.2.1;have:=int6 h.2.2.1.1 h.2.2.1.2;have:=rights12 h.2.2.2.1;have:=int6 h.2.2.2.2.1 h.2.2.2.2.2;omega
theorem views_len:∀ (l:List S87) (a:ByteArray),viewsV a l→(viewsB l).length≤53 * l.length:=by
 intro l
 induction l with
 | nil=>intro a _;simp[viewsB]
 | cons v r ih=>
  intro a h;have h1:=view_len h.1;have h2:=ih _ h.2;unfold viewsB at h2 ⊢;rw[List.flatMap_cons,List.length_append,List.length_cons];omega
theorem list_len {l:List S87} (h:listV l):(listB l).length≤3393:=by
 unfold listB;rw[List.length_append];have:=int1 (n:=(l.length:Int)) (by omega) (by have:=h.1;omega);have:=views_len l _ h.2;have:=h.1;omega
theorem opt_len {α:Type} (c:Prop) [Decidable c] (z:α) {e:α→List Int} {v:α→Prop} {x:α} (k:Nat) (h:optV c z v x) (he:v x→(e x).length≤k):(optB c e x).length≤k:=by
 unfold optB;unfold optV at h;by_cases hc:c
 ·rw[if_pos hc] at h ⊢;exact he h
 ·rw[if_neg hc];simp
theorem msg_len {m : Msg} (h : msgV m) : (msgB m).length ≤ 3394 := by
  unfold msgB restB;have hk:=int1 (n:=m.kind) (by have:=h.1.1;omega) (by have:=h.1.2;omega);have hr:=h.2;unfold restV at hr;rw[List.length_append]
  split
  ·rename_i h1;rw[if_pos h1] at hr;rw[List.length_append];have:=call12 hr.1;have:=op_len hr.2.1;omega
  ·rename_i h1;rw[if_neg h1] at hr
   split
   ·rename_i h2;rw[if_pos h2] at hr;simp only[List.length_append];have:=call12 hr.1;have:=text17 hr.2.1.1;have:=int2 (n:=m.err) hr.2.2.1.1 (by have:=hr.2.2.1.2;omega);have:=opt_len (capped m.err) z25 12 hr.2.2.2.1 (e:=pairB) cap12;omega
   ·rename_i h2;rw[if_neg h2] at hr
    split
    ·rename_i h3;rw[if_pos h3] at hr;have:=list_len hr.1;omega
    ·rename_i h3;rw[if_neg h3] at hr;simp only[List.length_append];have:=text17 hr.1.1;have:=cap12 hr.2.1;have:=opt_len (hasEp m.kind) z25 12 hr.2.2.1 (e:=pairB) epoch12;have:=opt_len (m.kind=7) z25 12 hr.2.2.2.1 (e:=pairB) epoch12;have:=opt_len (hasRt m.kind) z25 12 hr.2.2.2.2.1 (e:=pairB) rights12;have:=opt_len (m.kind=4) 0 6 hr.2.2.2.2.2.1 (e:=intB) (fun hh=>int6 hh.1 hh.2);omega
theorem seg_len {s:Seg} (h:segV s):(segB s).length≤4016:=by
 unfold segB;simp only[List.length_append];have:=int1 (n:=s.src) h.1.1 (by have:=h.1.2;omega);have:=int1 (n:=s.dst) h.2.1.1 (by have:=h.2.1.2;omega);have:=int6 h.2.2.1.1 h.2.2.1.2;have:=int6 h.2.2.2.1.1 h.2.2.2.1.2;have hd:s.data.length≤4000:=by have:=h.2.2.2.2.1.2;split at this<;>omega
 have:=int2 (n:=(s.data.length:Int)) (by omega) (by omega);omega
end Go.Proofs.Ytpgdmmjbhjbbhaa.Sp
end
section
namespace Go.Proofs.Ytpgdmmjbhjbbhaa.En
open Go Go.RowKit P Sp Vd Wr YtpgdmmjbhjbbhaaW.PrintWords YtpgdmmjbhjbbhaaW.PrintLast YtpgdmmjbhjbbhaaW.PrintMore
theorem mcells {W:World} {g:Nat} {m:Msg} {A:Option Addr} {c:Nat} (h:W.heap[g]?=some (.cells (MVc m A c) 33 (0,0))):W.cell? ⟨g,0,none⟩=some (.int .i64 m.kind)∧W.cell? ⟨g,1,none⟩=some (.string m.name)∧W.cell? ⟨g,2,none⟩=some (.int .i64 m.cap)∧W.cell? ⟨g,3,none⟩=some (.int .i64 m.recaps)∧W.cell? ⟨g,4,none⟩=some (.int .i64 m.epoch.f0)∧W.cell? ⟨g,5,none⟩=some (.int .i64 m.epoch.f1)∧W.cell? ⟨g,6,none⟩=some (.int .i64 m.over.f0)∧W.cell? ⟨g,7,none⟩=some (.int .i64 m.over.f1)∧W.cell? ⟨g,8,none⟩=some (.int .i64 m.rights.f0)∧W.cell? ⟨g,9,none⟩=some (.int .i64 m.rights.f1)∧W.cell? ⟨g,10,none⟩=some (.int .i64 m.held)∧W.cell? ⟨g,11,none⟩=some (.int .i64 m.call.f0)∧W.cell? ⟨g,12,none⟩=some (.int .i64 m.call.f1)∧W.cell? ⟨g,13,none⟩=some (.int .i64 m.op.kind)∧W.cell? ⟨g,14,none⟩=some (.string m.op.name)∧W.cell? ⟨g,15,none⟩=some (.int .i64 m.op.a)∧W.cell? ⟨g,16,none⟩=some (.int .i64 m.op.b)∧W.cell? ⟨g,17,none⟩=some (.int .i64 m.err)∧W.cell? ⟨g,18,none⟩=some (.int .i64 m.value)∧W.cell? ⟨g,19,none⟩=some (.slice A m.views.length c):=⟨(blk_cell h 0).trans rfl,(blk_cell h 1).trans rfl,(blk_cell h 2).trans rfl,(blk_cell h 3).trans rfl,(blk_cell h 4).trans rfl,(blk_cell h 5).trans rfl,(blk_cell h 6).trans rfl,(blk_cell h 7).trans rfl,(blk_cell h 8).trans rfl,(blk_cell h 9).trans rfl,(blk_cell h 10).trans rfl,(blk_cell h 11).trans rfl,(blk_cell h 12).trans rfl,(blk_cell h 13).trans rfl,(blk_cell h 14).trans rfl,(blk_cell h 15).trans rfl,(blk_cell h 16).trans rfl,(blk_cell h 17).trans rfl,(blk_cell h 18).trans rfl,(blk_cell h 19).trans rfl⟩
structure EW (w W:World) (g:Nat) (m:Msg) (A:Option Addr) (c:Nat) (xs:List Int) (K:Nat):Prop where
 ws:∃ v,WS w W g xs v
 box:W.heap[w.heap.size]?=some (.cells (MVc m A c) 33 (0,0))
 len:xs.length≤K
section
variable {w W W':World} {g:Nat} {m:Msg} {A:Option Addr} {c:Nat} {xs ys:List Int} {K n:Nat}
theorem EW.below (h:EW w W g m A c xs K) (k:Below W.heap.size W W'):EW w W' g m A c xs K:=⟨h.ws.imp fun v hv=>hv.below k,blk_keep k h.box,h.len⟩
theorem EW.new (h:EW w W g m A c xs K) (o:Obj):EW w (W.alloc o) g m A c xs K:=h.below (below_alloc (Below.refl _ _) o)
theorem EW.step (h:EW w W g m A c xs K) (hv:∃ v,WS w W' g (xs++ys) v∧Stay W W') (hn:ys.length≤n):EW w W' g m A c (xs++ys) (K+n):=by
 obtain ⟨v,h1,h2⟩:=hv;exact ⟨⟨v,h1⟩,h2 _ _ _ (by decide) (by decide) h.box,by rw[List.length_append];have:=h.len;omega⟩
theorem intB_le (n:Int):(intB n).length≤10:=numB_len10 (u64_nat n).2
theorem nums1_ew (h:EW w W g m A c xs K) (B:Nat) (a:Int) (hB:W.heap[B]?=some (.cells #[.int .i64 a] 3 (0,0))) (hK:K≤1000000):
  Calls Try.prog 53 #[.pointer (some ⟨g,0,none⟩),.slice (some ⟨B,0,none⟩) 1 1] W fun e W'=>e = .returned (.tuple #[])∧EW w W' g m A c (xs++numsB [a]) (K+10):=by
 have hl:(numsB [a]).length≤10:=by simpa [numsB] using intB_le a
 obtain ⟨v,hv⟩:=h.ws;have:=h.len;exact (nums_calls w W g xs v B [a] 1 1 rfl hv hB (by omega) (by simp)).mono fun e W' k=>⟨k.1,h.step k.2 hl⟩
theorem nums2_ew (h:EW w W g m A c xs K) (B:Nat) (a b:Int) (hB:W.heap[B]?=some (.cells #[.int .i64 a,.int .i64 b] 3 (0,0))) (hK:K≤1000000):
  Calls Try.prog 53 #[.pointer (some ⟨g,0,none⟩),.slice (some ⟨B,0,none⟩) 2 2] W fun e W'=>e = .returned (.tuple #[])∧EW w W' g m A c (xs++numsB [a,b]) (K+20):=by
 have hl:(numsB [a,b]).length≤20:=by have h1:=intB_le a;have h2:=intB_le b;simp[numsB];omega
 obtain ⟨v,hv⟩:=h.ws;have:=h.len;exact (nums_calls w W g xs v B [a,b] 2 2 rfl hv hB (by omega) (by simp)).mono fun e W' k=>⟨k.1,h.step k.2 hl⟩
theorem text_ew (h:EW w W g m A c xs K) (s:ByteArray) (hs:s.size≤100) (hK:K≤1000000):
  Calls Try.prog 57 #[.pointer (some ⟨g,0,none⟩),.string s] W fun e W'=>e = .returned (.tuple #[])∧EW w W' g m A c (xs++textB s) (K+110):=by
 have hl:(textB s).length≤110:=by have:=intB_le s.size;unfold textB;rw[List.length_append,bytesOf_length];omega
 obtain ⟨v,hv⟩:=h.ws;have:=h.len;exact (text_calls w W g xs v s hv (by omega)).mono fun e W' k=>⟨k.1,h.step k.2 hl⟩
theorem call_ew (h:EW w W g m A c xs K) (x:S25) (hK:K≤1000000):
  Calls Try.prog 54 #[.pointer (some ⟨g,0,none⟩),.agg #[.int .i64 x.f0,.int .i64 x.f1]] W fun e W'=>e = .returned (.tuple #[])∧EW w W' g m A c (xs++pairB x) (K+20):=by
 have hl:(pairB x).length≤20:=by have h1:=intB_le x.f0;have h2:=intB_le x.f1;unfold pairB;rw[List.length_append];omega
 obtain ⟨v,hv⟩:=h.ws;have:=h.len;exact (call_calls w W g xs v x hv (by omega)).mono fun e W' k=>⟨k.1,h.step k.2 hl⟩
theorem op_ew (h:EW w W g m A c xs K) (o:Sp.Op) (ho:isI o.a∧isI o.b) (hl:(opB o).length≤100000) (hK:K≤1000000):
  Calls Try.prog 55 #[.pointer (some ⟨g,0,none⟩),.agg #[.int .i64 o.kind,.string o.name,.int .i64 o.a,.int .i64 o.b]] W fun e W'=>e = .returned (.tuple #[])∧EW w W' g m A c (xs++opB o) (K+100000):=by
 obtain ⟨v,hv⟩:=h.ws;have:=h.len;exact (op_calls w W g xs v o ho hv (by omega)).mono fun e W' k=>⟨k.1,h.step k.2 hl⟩
theorem views_ew (h:EW w W g m A c xs K) (A1:Option Addr) (c1:Nat) (l:List S87) (hr:Kd.C k87 w A1 l.length l) (hl0:l.length≤1000) (hl:(listB l).length≤100000) (hK:K≤1000000):
  Calls Try.prog 56 #[.pointer (some ⟨g,0,none⟩),.slice A1 l.length c1] W fun e W'=>e = .returned (.tuple #[])∧EW w W' g m A c (xs++listB l) (K+100000):=by
 obtain ⟨v,hv⟩:=h.ws;have:=h.len;exact (views_calls w W g xs v A1 c1 l hr hl0 hv (by omega)).mono fun e W' k=>⟨k.1,h.step k.2 hl⟩
end
theorem sizes_le {m : Msg} (hv : msgV m) : m.name.size ≤ 100 ∧ (opB m.op).length ≤ 100000 ∧ m.views.length ≤ 1000 ∧ (listB m.views).length ≤ 100000 := by
  have nm:∀ {s:ByteArray},nameOk (bytesOf s)→s.size≤100:=fun h=>by have:=h.2.1;rw[bytesOf_length] at this;omega
  have hlen:=msg_len hv;have h2:=hv.2;unfold msgB restB at hlen;unfold restV at h2
  have oz:(opB zMsg.op).length≤100000:=by
   have h1:=intB_le zMsg.op.kind;have h3:=intB_le (zMsg.op.name.size:Int);have h4:(signB zMsg.op.a).length≤10:=numB_len10 (by decide);have h5:(signB zMsg.op.b).length≤10:=numB_len10 (by decide);unfold opB textB;simp only[List.length_append,bytesOf_length];have:zMsg.op.name.size=0:=rfl;omega
  have lz:(listB []).length≤100000:=by have h1:=intB_le (([]:List S87).length:Int);simp[listB,viewsB] at *;omega
  split at h2
  ·rename_i hk;rw[if_pos hk] at hlen;simp only[List.length_append] at hlen;have e:=h2.2.2;exact ⟨by rw[e];exact Nat.zero_le _,by omega,by rw[e];exact Nat.zero_le _,by rw[e];exact lz⟩
  ·split at h2
   ·have e:=h2.2.2.2.2;exact ⟨nm h2.2.1.1,by rw[e];exact oz,by rw[e];exact Nat.zero_le _,by rw[e];exact lz⟩
   ·split at h2
    ·rename_i h1 h3 hk;rw[if_neg h1,if_neg h3,if_pos hk] at hlen;simp only[List.length_append] at hlen;have e:=h2.2;exact ⟨by rw[e];exact Nat.zero_le _,by rw[e];exact oz,by have:=h2.1.1;omega,by omega⟩
    ·have e:=h2.2.2.2.2.2.2;exact ⟨nm h2.1.1,by rw[e];exact oz,by rw[e];exact Nat.zero_le _,by rw[e];exact lz⟩
theorem enck_calls (m:Msg) (h:isI m.op.a∧isI m.op.b) (A:Option Addr) (c:Nat) (w:World) (hr:Kd.C k87 w A m.views.length m.views) (hc:m.views.length≤c) (hv:msgV m):
  Calls Try.prog 16 #[.agg (MVc m A c)] w fun e w'=>∃ v,e = .returned (.tuple #[v,.int .i64 0])∧Kd.R (Kd.int .u8) 5 w' w.heap.size (fun _=>True) v (msgB m)∧Below w.heap.size w w':=by
 have HN:=Aside0.mk (sizes_le hv);have HV:=Aside0.mk hv;have HR:=Aside0.mk (And.intro hr hc);have HI:=Aside0.mk h;obtain ⟨cb,hcb⟩:∃ cb,dcd (capped m.err)=cb:=⟨_,rfl⟩;have HCB:=Aside0.mk hcb;have HKS:Aside0 (m.kind=1∨(m.kind=2∧cb=true)∨(m.kind=2∧cb=false)∨m.kind=3∨m.kind=4∨m.kind=5∨m.kind=6∨m.kind=7∨m.kind=8∨m.kind=9∨m.kind=10):=⟨by have:=hv.1;cases cb<;>simp<;>omega⟩;clear hv hr hc h hcb;have hu33:=Try.underlying33;have hu23:=Try.underlying23;have hu25:=Try.underlying25;have hu27:=Try.underlying27;have hu29:=Try.underlying29;obtain ⟨wa,hwa⟩:∃ wa,wa=w.alloc (.cells (MVc m A c) 33 (0,0)):=⟨_,rfl⟩;have HWA:=Aside0.mk hwa;have H0:Aside0 (Below w.heap.size w wa∧wa.heap[w.heap.size]?=some (.cells (MVc m A c) 33 (0,0))):=⟨by rw[hwa];exact ⟨(Below.refl _ _).alloc (Nat.le_refl _) _,heap_alloc_new w _⟩⟩;clear hwa;go_enter Try.func16,Try.ntmps16
 go_upto_region 1 with fail
 rw[←HWA.out]
 go_upto_region 3 with (first
  | ((with_reducible refine gate_dst (N:=5) rfl ?_);refine wpList_load_row rfl 33 (.tmp 1) rfl w.heap.size (by rfl) 33 (MVc m A c) (0,0) _ H0.out.2 hu33 rfl inf33 ?_)
  | (go_at_call 21;refine (valid_calls m HI.out A c _ (Kd.C_below HR.out.1 H0.out.1) HR.out.2).mono ?_;rintro e w0 ⟨rfl,hb⟩;rw[dcd_pos HV.out];have H1:=Aside0.mk (And.intro (below_step H0.out.1 hb) (blk_keep hb H0.out.2));clear hb))
 obtain ⟨w1,hw1⟩:∃ w1,w1=w0.alloc (.cells #[.slice none 0 0] 99 (0,0)):=⟨_,rfl⟩;have HW1:=Aside0.mk hw1;have E1:Aside0 (EW w w1 w0.heap.size m A c [] 0):=⟨by rw[hw1];exact ⟨⟨_,heap_alloc_new w0 _,H1.out.1.size,Kd.R_nil _ _ _ _ _,below_alloc H1.out.1 _⟩,blk_keep (al_below w0 _) H1.out.2,Nat.le_refl _⟩⟩;clear hw1 H0 H1;go_upto_region 4 with fail
 rw[←HW1.out];obtain ⟨kz0,kz1,kz2,kz3,kz4,kz5,kz6,kz7,kz8,kz9,kz10,kz11,kz12,kz13,kz14,kz15,kz16,kz17,kz18,kz19⟩:=mcells E1.out.box;go_upto_region 6 with (go_at_call 53;(with_reducible refine (nums1_ew (E1.out.new _) _ _ (heap_alloc_new _ _) (by omega)).mono ?_);rintro e wn ⟨rfl,hE⟩;have n0_:=Aside0.mk hE;clear E1 hE kz0 kz1 kz2 kz3 kz4 kz5 kz6 kz7 kz8 kz9 kz10 kz11 kz12 kz13 kz14 kz15 kz16 kz17 kz18 kz19;(try clear kw HW);have E1:=n0_;clear n0_;obtain ⟨kz0,kz1,kz2,kz3,kz4,kz5,kz6,kz7,kz8,kz9,kz10,kz11,kz12,kz13,kz14,kz15,kz16,kz17,kz18,kz19⟩:=mcells E1.out.box;obtain ⟨vz,hws⟩:=E1.out.ws;obtain ⟨Az,nz,cz,rfl⟩:=R_sl hws.row;have kw:wn.cell? ⟨w0.heap.size,0,none⟩=some (.slice Az nz cz):=(blk_cell hws.blk 0).trans rfl;have HW:=Aside0.mk hws;clear hws)
 rcases HKS.out with hk|⟨hk,rfl⟩|⟨hk,rfl⟩|hk|hk|hk|hk|hk|hk|hk|hk
 all_goals
  (first|have t1:(m.kind == 1)=true:=by simp[hk]|have t1:(m.kind == 1)=false:=by simp[hk])
  (first|have t2:(m.kind == 2)=true:=by simp[hk]|have t2:(m.kind == 2)=false:=by simp[hk])
  (first|have t3:(m.kind == 3)=true:=by simp[hk]|have t3:(m.kind == 3)=false:=by simp[hk])
  (first|have t4:(m.kind == 4)=true:=by simp[hk]|have t4:(m.kind == 4)=false:=by simp[hk])
  (first|have t5:(m.kind == 5)=true:=by simp[hk]|have t5:(m.kind == 5)=false:=by simp[hk])
  (first|have t6:(m.kind == 6)=true:=by simp[hk]|have t6:(m.kind == 6)=false:=by simp[hk])
  (first|have t7:(m.kind == 7)=true:=by simp[hk]|have t7:(m.kind == 7)=false:=by simp[hk])
  (first|have t10:(m.kind == 10)=true:=by simp[hk]|have t10:(m.kind == 10)=false:=by simp[hk])
  have HKK:=Aside0.mk hk;clear hk HWA HW1 HKS
  go_wp2_with (first
   | (go_at_call 53;(with_reducible refine (nums2_ew (E1.out.new _) _ _ _ (heap_alloc_new _ _) (by omega)).mono ?_);rintro e wn ⟨rfl,hE⟩;have n0_:=Aside0.mk hE;clear E1 hE kz0 kz1 kz2 kz3 kz4 kz5 kz6 kz7 kz8 kz9 kz10 kz11 kz12 kz13 kz14 kz15 kz16 kz17 kz18 kz19;(try clear kw HW);have E1:=n0_;clear n0_;obtain ⟨kz0,kz1,kz2,kz3,kz4,kz5,kz6,kz7,kz8,kz9,kz10,kz11,kz12,kz13,kz14,kz15,kz16,kz17,kz18,kz19⟩:=mcells E1.out.box;obtain ⟨vz,hws⟩:=E1.out.ws;obtain ⟨Az,nz,cz,rfl⟩:=R_sl hws.row;have kw:wn.cell? ⟨w0.heap.size,0,none⟩=some (.slice Az nz cz):=(blk_cell hws.blk 0).trans rfl;have HW:=Aside0.mk hws;clear hws)
   | (go_at_call 53;(with_reducible refine (nums1_ew (E1.out.new _) _ _ (heap_alloc_new _ _) (by omega)).mono ?_);rintro e wn ⟨rfl,hE⟩;have n0_:=Aside0.mk hE;clear E1 hE kz0 kz1 kz2 kz3 kz4 kz5 kz6 kz7 kz8 kz9 kz10 kz11 kz12 kz13 kz14 kz15 kz16 kz17 kz18 kz19;(try clear kw HW);have E1:=n0_;clear n0_;obtain ⟨kz0,kz1,kz2,kz3,kz4,kz5,kz6,kz7,kz8,kz9,kz10,kz11,kz12,kz13,kz14,kz15,kz16,kz17,kz18,kz19⟩:=mcells E1.out.box;obtain ⟨vz,hws⟩:=E1.out.ws;obtain ⟨Az,nz,cz,rfl⟩:=R_sl hws.row;have kw:wn.cell? ⟨w0.heap.size,0,none⟩=some (.slice Az nz cz):=(blk_cell hws.blk 0).trans rfl;have HW:=Aside0.mk hws;clear hws)
   | (go_at_call 57;(with_reducible refine (text_ew E1.out m.name HN.out.1 (by omega)).mono ?_);rintro e wn ⟨rfl,hE⟩;have n0_:=Aside0.mk hE;clear E1 hE kz0 kz1 kz2 kz3 kz4 kz5 kz6 kz7 kz8 kz9 kz10 kz11 kz12 kz13 kz14 kz15 kz16 kz17 kz18 kz19;(try clear kw HW);have E1:=n0_;clear n0_;obtain ⟨kz0,kz1,kz2,kz3,kz4,kz5,kz6,kz7,kz8,kz9,kz10,kz11,kz12,kz13,kz14,kz15,kz16,kz17,kz18,kz19⟩:=mcells E1.out.box;obtain ⟨vz,hws⟩:=E1.out.ws;obtain ⟨Az,nz,cz,rfl⟩:=R_sl hws.row;have kw:wn.cell? ⟨w0.heap.size,0,none⟩=some (.slice Az nz cz):=(blk_cell hws.blk 0).trans rfl;have HW:=Aside0.mk hws;clear hws)
   | (go_at_call 54;(with_reducible refine (call_ew E1.out m.call (by omega)).mono ?_);rintro e wn ⟨rfl,hE⟩;have n0_:=Aside0.mk hE;clear E1 hE kz0 kz1 kz2 kz3 kz4 kz5 kz6 kz7 kz8 kz9 kz10 kz11 kz12 kz13 kz14 kz15 kz16 kz17 kz18 kz19;(try clear kw HW);have E1:=n0_;clear n0_;obtain ⟨kz0,kz1,kz2,kz3,kz4,kz5,kz6,kz7,kz8,kz9,kz10,kz11,kz12,kz13,kz14,kz15,kz16,kz17,kz18,kz19⟩:=mcells E1.out.box;obtain ⟨vz,hws⟩:=E1.out.ws;obtain ⟨Az,nz,cz,rfl⟩:=R_sl hws.row;have kw:wn.cell? ⟨w0.heap.size,0,none⟩=some (.slice Az nz cz):=(blk_cell hws.blk 0).trans rfl;have HW:=Aside0.mk hws;clear hws)
   | (go_at_call 55;(with_reducible refine (op_ew E1.out m.op HI.out HN.out.2.1 (by omega)).mono ?_);rintro e wn ⟨rfl,hE⟩;have n0_:=Aside0.mk hE;clear E1 hE kz0 kz1 kz2 kz3 kz4 kz5 kz6 kz7 kz8 kz9 kz10 kz11 kz12 kz13 kz14 kz15 kz16 kz17 kz18 kz19;(try clear kw HW);have E1:=n0_;clear n0_;obtain ⟨kz0,kz1,kz2,kz3,kz4,kz5,kz6,kz7,kz8,kz9,kz10,kz11,kz12,kz13,kz14,kz15,kz16,kz17,kz18,kz19⟩:=mcells E1.out.box;obtain ⟨vz,hws⟩:=E1.out.ws;obtain ⟨Az,nz,cz,rfl⟩:=R_sl hws.row;have kw:wn.cell? ⟨w0.heap.size,0,none⟩=some (.slice Az nz cz):=(blk_cell hws.blk 0).trans rfl;have HW:=Aside0.mk hws;clear hws)
   | (go_at_call 56;(with_reducible refine (views_ew E1.out A c m.views HR.out.1 HN.out.2.2.1 HN.out.2.2.2 (by omega)).mono ?_);rintro e wn ⟨rfl,hE⟩;have n0_:=Aside0.mk hE;clear E1 hE kz0 kz1 kz2 kz3 kz4 kz5 kz6 kz7 kz8 kz9 kz10 kz11 kz12 kz13 kz14 kz15 kz16 kz17 kz18 kz19;(try clear kw HW);have E1:=n0_;clear n0_;obtain ⟨kz0,kz1,kz2,kz3,kz4,kz5,kz6,kz7,kz8,kz9,kz10,kz11,kz12,kz13,kz14,kz15,kz16,kz17,kz18,kz19⟩:=mcells E1.out.box;obtain ⟨vz,hws⟩:=E1.out.ws;obtain ⟨Az,nz,cz,rfl⟩:=R_sl hws.row;have kw:wn.cell? ⟨w0.heap.size,0,none⟩=some (.slice Az nz cz):=(blk_cell hws.blk 0).trans rfl;have HW:=Aside0.mk hws;clear hws)
   | (go_at_call 58;refine (capped_calls _ _).mono ?_;rintro e wn ⟨rfl,hb⟩;rw[HCB.out];have hE:=E1.out.below hb;clear hb;have n0_:=Aside0.mk hE;clear E1 hE kz0 kz1 kz2 kz3 kz4 kz5 kz6 kz7 kz8 kz9 kz10 kz11 kz12 kz13 kz14 kz15 kz16 kz17 kz18 kz19;(try clear kw HW);have E1:=n0_;clear n0_;obtain ⟨kz0,kz1,kz2,kz3,kz4,kz5,kz6,kz7,kz8,kz9,kz10,kz11,kz12,kz13,kz14,kz15,kz16,kz17,kz18,kz19⟩:=mcells E1.out.box;obtain ⟨vz,hws⟩:=E1.out.ws;obtain ⟨Az,nz,cz,rfl⟩:=R_sl hws.row;have kw:wn.cell? ⟨w0.heap.size,0,none⟩=some (.slice Az nz cz):=(blk_cell hws.blk 0).trans rfl;have HW:=Aside0.mk hws;clear hws))
  go_ret2
  refine ⟨.slice Az nz cz,rfl,?_,HW.out.bel⟩;have hrow:=HW.out.row;have hcc:=HCB.out;unfold msgB restB
  (first|(simpa [HKK.out,optB,hasEp,hasRt,numsB,pairB,capOf] using hrow)|(have hcp:capped m.err:=dcd_iff.mp hcc;simpa [HKK.out,optB,hasEp,hasRt,numsB,pairB,capOf,hcp] using hrow)|(have hcp:¬capped m.err:=fun hh=>Bool.noConfusion ((dcd_pos hh).symm.trans hcc);simpa [HKK.out,optB,hasEp,hasRt,numsB,pairB,capOf,hcp] using hrow))
end Go.Proofs.Ytpgdmmjbhjbbhaa.En
end
section
namespace Go.Proofs.Ytpgdmmjbhjbbhaa.En
open Go Go.RowKit P Sp Vd Wr YtpgdmmjbhjbbhaaW.PrintWords YtpgdmmjbhjbbhaaW.PrintLast YtpgdmmjbhjbbhaaW.PrintMore
theorem lay_ok {α:Type} {e:α→List Int} {v:α→Prop} {x:α} (h:v x):lay e v x=(e x,0):=by unfold lay;rw[if_pos (dcd_pos h)]
theorem lay_no {α:Type} {e:α→List Int} {v:α→Prop} {x:α} (h:¬v x):lay e v x=([],21):=by unfold lay;rw[if_neg (by rw[dcd_neg h];decide)]
theorem enc0_calls (m:Msg) (h:isI m.op.a∧isI m.op.b) (A:Option Addr) (c:Nat) (w:World) (hr:Kd.C k87 w A m.views.length m.views) (hc:m.views.length≤c) (hv:¬msgV m):
  Calls Try.prog 16 #[MV m A c] w fun e w'=>e = .returned (.tuple #[.slice none 0 0,.int .i64 21])∧Below w.heap.size w w':=by
 have HV:=Aside0.mk hv;have HR:=Aside0.mk hr;have HC:=Aside0.mk hc;have HI:=Aside0.mk h;clear hv hr hc h;have hu33:=Try.underlying33;obtain ⟨wa,hwa⟩:∃ wa,wa=w.alloc (.cells (MVc m A c) 33 (0,0)):=⟨_,rfl⟩;have HWA:=Aside0.mk hwa;have HB:Aside0 (Below w.heap.size w wa):=⟨by rw[hwa];exact (Below.refl _ _).alloc (Nat.le_refl _) _⟩;have BK:Aside0 (wa.heap[w.heap.size]?=some (.cells (MVc m A c) 33 (0,0))):=⟨by rw[hwa];exact heap_alloc_new w _⟩;clear hwa;go_enter Try.func16,Try.ntmps16
 unfold MV;go_upto_region 1 with fail
 rw[←HWA.out];go_wp2_with (first|((with_reducible refine gate_dst (N:=5) rfl ?_);refine wpList_load_row rfl 33 (.tmp 1) rfl w.heap.size (by rfl) 33 (MVc m A c) (0,0) _ BK.out Try.underlying33 rfl inf33 ?_)|(go_at_call 21;refine (valid_calls m HI.out A c _ (Kd.C_below HR.out HB.out) HC.out).mono ?_;rintro e w0 ⟨rfl,hb⟩;rw[dcd_neg HV.out];have n0_:=Aside0.mk (below_step HB.out hb);clear HB BK hb;have HB:=n0_;clear n0_))
 go_ret2
 exact ⟨rfl,HB.out⟩
theorem encode_calls (m:Msg) (h:isI m.op.a∧isI m.op.b) (A:Option Addr) (c:Nat) (w:World) (hr:Kd.C k87 w A m.views.length m.views) (hc:m.views.length≤c):
  Calls Try.prog 16 #[MV m A c] w fun e w'=>∃ v,e = .returned (.tuple #[v,.int .i64 (lay msgB msgV m).2])∧Kd.R (Kd.int .u8) 5 w' w.heap.size (fun _=>True) v (lay msgB msgV m).1∧Below w.heap.size w w':=by
 by_cases hv:msgV m
 ·rw[lay_ok hv];exact enck_calls m h A c w hr hc hv
 ·rw[lay_no hv];refine (enc0_calls m h A c w hr hc hv).mono ?_;rintro e w' ⟨rfl,hb⟩;exact ⟨_,rfl,Kd.R_nil _ _ _ _ _,hb⟩
theorem inf27:(Try.prog.info? 27).map (·.size)=some 2:=by kernel_rfl
theorem inf29:(Try.prog.info? 29).map (·.size)=some 4:=by kernel_rfl
theorem below_al2 (w:World) (o p:Obj):Below w.heap.size w ((w.alloc o).alloc p):=(al_below w o).alloc (by simp) p
theorem encreq1_calls (x:S25) (o:Sp.Op) (w:World) (h1:callV x) (h2:opV o):
  Calls Try.prog 32 #[.agg #[.int .i64 x.f0,.int .i64 x.f1],.agg #[.int .i64 o.kind,.string o.name,.int .i64 o.a,.int .i64 o.b]] w fun e w'=>∃ v,e = .returned (.tuple #[v,.int .i64 0])∧Kd.R (Kd.int .u8) 5 w' w.heap.size (fun _=>True) v (reqB (x,o))∧Below w.heap.size w w':=by
 have hb1:=dcd_pos (p:=callV ⟨x.f0,x.f1⟩) h1;have hb2:=(oB_iff o h2.2.2).mpr h2;have HLEN:Aside0 ((pairB x).length≤12∧(opB o).length≤38):=⟨call12 h1,op_len h2⟩;have HI:=Aside0.mk h2.2.2;clear h1 h2;obtain ⟨wa,hwa⟩:∃ wa,wa=(w.alloc (.cells #[.int .i64 x.f0,.int .i64 x.f1] 27 (0,0))).alloc (.cells #[.int .i64 o.kind,.string o.name,.int .i64 o.a,.int .i64 o.b] 29 (0,0)):=⟨_,rfl⟩;have HWA:=Aside0.mk hwa;have HB:Aside0 (Below w.heap.size w wa):=⟨by rw[hwa];exact below_al2 w _ _⟩;have BK1:Aside0 (wa.heap[w.heap.size]?=some (.cells #[.int .i64 x.f0,.int .i64 x.f1] 27 (0,0))):=⟨by rw[hwa];exact (Below.heap_alloc _ _ _ (by simp)).trans (heap_alloc_new w _)⟩;have BK2:Aside0 (wa.heap[w.heap.size+1]?=some (.cells #[.int .i64 o.kind,.string o.name,.int .i64 o.a,.int .i64 o.b] 29 (0,0))):=⟨by rw[hwa];have:=heap_alloc_new (w.alloc (.cells #[.int .i64 x.f0,.int .i64 x.f1] 27 (0,0))) (.cells #[.int .i64 o.kind,.string o.name,.int .i64 o.a,.int .i64 o.b] 29 (0,0));simpa using this⟩;clear hwa;go_enter Try.func32,Try.ntmps32
 go_upto_region 1 with fail
 rw[←HWA.out];go_upto_region 3 with (first|((with_reducible refine gate_dst (N:=7) rfl ?_);refine wpList_load_row rfl 27 (.tmp 2) rfl w.heap.size (by rfl) 27 _ (0,0) _ BK1.out Try.underlying27 rfl inf27 ?_)|((with_reducible refine gate_dst (N:=11) rfl ?_);refine gate_guard (by kernel_rfl) ?_;refine wpList_load_row rfl 29 (.tmp 3) rfl (w.heap.size+1) (by rfl) 29 _ (0,0) _ BK2.out Try.underlying29 rfl inf29 ?_)|(go_at_call 63;refine (rightCall_calls _ x.f0 x.f1).mono ?_;rintro e w1 ⟨rfl,hb⟩;have n0_:=Aside0.mk (below_step HB.out hb);have n1_:=Aside0.mk (blk_keep hb BK1.out);have n2_:=Aside0.mk (blk_keep hb BK2.out);clear HB BK1 BK2 hb;have HB:=n0_;have BK1:=n1_;have BK2:=n2_;clear n0_ n1_ n2_;rw[hb1])|(go_at_call 64;refine (rightOp_calls _ o.kind o.name o.a o.b).mono ?_;rintro e w0 ⟨rfl,hb⟩;have n0_:=Aside0.mk (below_step HB.out hb);have n1_:=Aside0.mk (blk_keep hb BK1.out);have n2_:=Aside0.mk (blk_keep hb BK2.out);clear HB BK1 BK2 hb;have HB:=n0_;have BK1:=n1_;have BK2:=n2_;clear n0_ n1_ n2_;rw[hb2]))
 obtain ⟨w1,hw1⟩:∃ w1,w1=w0.alloc (.cells #[.slice none 0 0] 99 (0,0)):=⟨_,rfl⟩;have HW1:=Aside0.mk hw1;have HS0:Aside0 (WS w w1 w0.heap.size [] (.slice none 0 0)):=⟨by rw[hw1];exact ⟨heap_alloc_new w0 _,HB.out.size,Kd.R_nil _ _ _ _ _,below_alloc HB.out _⟩⟩;have HX1:Aside0 (w1.heap[w.heap.size]?=some (.cells #[.int .i64 x.f0,.int .i64 x.f1] 27 (0,0))):=⟨by rw[hw1];exact blk_keep (al_below w0 _) BK1.out⟩;have HX2:Aside0 (w1.heap[w.heap.size+1]?=some (.cells #[.int .i64 o.kind,.string o.name,.int .i64 o.a,.int .i64 o.b] 29 (0,0))):=⟨by rw[hw1];exact blk_keep (al_below w0 _) BK2.out⟩;clear hw1;go_upto_region 4 with fail
 rw[←HW1.out];have HB0:Aside0 (([]:List Int).length+(pairB x).length≤1099511627776):=⟨by have:=HLEN.out.1;simp only[List.length_nil];omega⟩;go_upto_region 5 with (first|((with_reducible refine gate_dst (N:=18) rfl ?_);refine wpList_load_row rfl 27 (.tmp 2) rfl w.heap.size (by rfl) 27 _ (0,0) _ HX1.out Try.underlying27 rfl inf27 ?_)|(go_at_call 54;refine (call_calls w _ _ [] (.slice none 0 0) x HS0.out HB0.out).mono ?_;rintro e w2 ⟨rfl,v2,hS1,hst⟩;have HS1:=Aside0.mk hS1;have HX3:=Aside0.mk (hst _ _ _ (by decide) (by decide) HX2.out);clear hS1 hst))
 have HB1:Aside0 (([]++pairB x).length+(opB o).length≤1099511627776):=⟨by have:=HLEN.out;simp only[List.length_append,List.length_nil];omega⟩;go_upto_region 6 with (first|((with_reducible refine gate_dst (N:=21) rfl ?_);refine wpList_load_row rfl 29 (.tmp 3) rfl (w.heap.size+1) (by rfl) 29 _ (0,0) _ HX3.out Try.underlying29 rfl inf29 ?_)|(go_at_call 55;refine (op_calls w _ _ ([]++pairB x) v2 o HI.out HS1.out HB1.out).mono ?_;rintro e w3 ⟨rfl,v3,hS1,hst⟩;have HS2:=Aside0.mk hS1;clear hS1 hst))
 obtain ⟨Az,nz,cz,rfl⟩:=R_sl HS2.out.row;have kw:w3.cell? ⟨w0.heap.size,0,none⟩=some (.slice Az nz cz):=(blk_cell HS2.out.blk 0).trans rfl;go_wp2_with fail
 go_ret2
 refine ⟨.slice Az nz cz,rfl,?_,HS2.out.bel⟩;have hrow:=HS2.out.row;rw[show []++pairB x++opB o=reqB (x,o) from rfl] at hrow;exact hrow
theorem encreq0_calls (x:S25) (o:Sp.Op) (w:World) (h:¬(dcd (callV ⟨x.f0,x.f1⟩)=true∧oB o.kind o.name=true)):
  Calls Try.prog 32 #[.agg #[.int .i64 x.f0,.int .i64 x.f1],.agg #[.int .i64 o.kind,.string o.name,.int .i64 o.a,.int .i64 o.b]] w fun e w'=>e = .returned (.tuple #[.slice none 0 0,.int .i64 21])∧Below w.heap.size w w':=by
 obtain ⟨wa,hwa⟩:∃ wa,wa=(w.alloc (.cells #[.int .i64 x.f0,.int .i64 x.f1] 27 (0,0))).alloc (.cells #[.int .i64 o.kind,.string o.name,.int .i64 o.a,.int .i64 o.b] 29 (0,0)):=⟨_,rfl⟩;have HWA:=Aside0.mk hwa;have HB:Aside0 (Below w.heap.size w wa):=⟨by rw[hwa];exact below_al2 w _ _⟩;have BK1:Aside0 (wa.heap[w.heap.size]?=some (.cells #[.int .i64 x.f0,.int .i64 x.f1] 27 (0,0))):=⟨by rw[hwa];exact (Below.heap_alloc _ _ _ (by simp)).trans (heap_alloc_new w _)⟩;have BK2:Aside0 (wa.heap[w.heap.size+1]?=some (.cells #[.int .i64 o.kind,.string o.name,.int .i64 o.a,.int .i64 o.b] 29 (0,0))):=⟨by rw[hwa];have:=heap_alloc_new (w.alloc (.cells #[.int .i64 x.f0,.int .i64 x.f1] 27 (0,0))) (.cells #[.int .i64 o.kind,.string o.name,.int .i64 o.a,.int .i64 o.b] 29 (0,0));simpa using this⟩;clear hwa;go_enter Try.func32,Try.ntmps32
 go_upto_region 1 with fail
 rw[←HWA.out];by_cases hb1:dcd (callV ⟨x.f0,x.f1⟩)=true
 ·have hb2:oB o.kind o.name=false:=by cases hh:oB o.kind o.name with|false=>rfl|true=>exact absurd ⟨hb1,hh⟩ h
  clear h;go_wp2_with (first|((with_reducible refine gate_dst (N:=7) rfl ?_);refine wpList_load_row rfl 27 (.tmp 2) rfl w.heap.size (by rfl) 27 _ (0,0) _ BK1.out Try.underlying27 rfl inf27 ?_)|((with_reducible refine gate_dst (N:=11) rfl ?_);refine gate_guard (by kernel_rfl) ?_;refine wpList_load_row rfl 29 (.tmp 3) rfl (w.heap.size+1) (by rfl) 29 _ (0,0) _ BK2.out Try.underlying29 rfl inf29 ?_)|(go_at_call 63;refine (rightCall_calls _ x.f0 x.f1).mono ?_;rintro e w1 ⟨rfl,hb⟩;have n0_:=Aside0.mk (below_step HB.out hb);have n1_:=Aside0.mk (blk_keep hb BK1.out);have n2_:=Aside0.mk (blk_keep hb BK2.out);clear HB BK1 BK2 hb;have HB:=n0_;have BK1:=n1_;have BK2:=n2_;clear n0_ n1_ n2_;rw[hb1])|(go_at_call 64;refine (rightOp_calls _ o.kind o.name o.a o.b).mono ?_;rintro e w0 ⟨rfl,hb⟩;have n0_:=Aside0.mk (below_step HB.out hb);have n1_:=Aside0.mk (blk_keep hb BK1.out);have n2_:=Aside0.mk (blk_keep hb BK2.out);clear HB BK1 BK2 hb;have HB:=n0_;have BK1:=n1_;have BK2:=n2_;clear n0_ n1_ n2_;rw[hb2]))
  go_ret2
  exact ⟨rfl,HB.out⟩
 ·replace hb1:dcd (callV ⟨x.f0,x.f1⟩)=false:=by cases hh:dcd (callV ⟨x.f0,x.f1⟩) with|false=>rfl|true=>exact absurd hh hb1
  clear h;go_wp2_with (first|((with_reducible refine gate_dst (N:=7) rfl ?_);refine wpList_load_row rfl 27 (.tmp 2) rfl w.heap.size (by rfl) 27 _ (0,0) _ BK1.out Try.underlying27 rfl inf27 ?_)|(go_at_call 63;refine (rightCall_calls _ x.f0 x.f1).mono ?_;rintro e w1 ⟨rfl,hb⟩;have n0_:=Aside0.mk (below_step HB.out hb);have n1_:=Aside0.mk (blk_keep hb BK1.out);have n2_:=Aside0.mk (blk_keep hb BK2.out);clear HB BK1 BK2 hb;have HB:=n0_;have BK1:=n1_;have BK2:=n2_;clear n0_ n1_ n2_;rw[hb1]))
  go_ret2
  exact ⟨rfl,HB.out⟩
theorem encrep1_calls (r:Rep) (w:World) (h:repV r):
  Calls Try.prog 34 #[.agg #[.int .i64 r.call.f0,.int .i64 r.call.f1,.int .i64 r.err,.int .i64 r.value]] w fun e w'=>∃ v,e = .returned (.tuple #[v,.int .i64 0])∧Kd.R (Kd.int .u8) 5 w' w.heap.size (fun _=>True) v (repB r)∧Below w.heap.size w w':=by
 have hb1:=dcd_pos (p:=callV ⟨r.call.f0,r.call.f1⟩) h.1;have hb2:bB r.err 0 255=true:=dcd_pos h.2.1;have HLEN:Aside0 ((pairB r.call).length≤12∧(intB r.err).length≤2∧(signB r.value).length≤10):=⟨call12 h.1,int2 h.2.1.1 (by have:=h.2.1.2;omega),sign10 h.2.2⟩;have HI:=Aside0.mk h.2.2;clear h;have hu50:=Try.underlying50;have hu27:=Try.underlying27;obtain ⟨wa,hwa⟩:∃ wa,wa=w.alloc (.cells #[.int .i64 r.call.f0,.int .i64 r.call.f1,.int .i64 r.err,.int .i64 r.value] 50 (0,0)):=⟨_,rfl⟩;have HWA:=Aside0.mk hwa;have HB:Aside0 (Below w.heap.size w wa):=⟨by rw[hwa];exact al_below w _⟩;have BK1:Aside0 (wa.heap[w.heap.size]?=some (.cells #[.int .i64 r.call.f0,.int .i64 r.call.f1,.int .i64 r.err,.int .i64 r.value] 50 (0,0))):=⟨by rw[hwa];exact heap_alloc_new w _⟩;clear hwa;have kz0:wa.cell? ⟨w.heap.size,0,none⟩=some (.int .i64 r.call.f0):=(blk_cell BK1.out 0).trans rfl;have kz1:wa.cell? ⟨w.heap.size,1,none⟩=some (.int .i64 r.call.f1):=(blk_cell BK1.out 1).trans rfl;have kz2:wa.cell? ⟨w.heap.size,2,none⟩=some (.int .i64 r.err):=(blk_cell BK1.out 2).trans rfl;go_enter Try.func34,Try.ntmps34
 go_upto_region 1 with fail
 rw[←HWA.out];go_upto_region 3 with (first|(go_at_call 63;refine (rightCall_calls _ r.call.f0 r.call.f1).mono ?_;rintro e w1 ⟨rfl,hb⟩;have n0_:=Aside0.mk (below_step HB.out hb);have n1_:=Aside0.mk (blk_keep hb BK1.out);clear HB BK1 hb;have HB:=n0_;have BK1:=n1_;clear n0_ n1_;rw[hb1];have kz2:w1.cell? ⟨w.heap.size,2,none⟩=some (.int .i64 r.err):=(blk_cell BK1.out 2).trans rfl)|(go_at_call 66;refine (between_calls _ r.err 0 255).mono ?_;rintro e w0 ⟨rfl,hb⟩;have n0_:=Aside0.mk (below_step HB.out hb);have n1_:=Aside0.mk (blk_keep hb BK1.out);clear HB BK1 hb;have HB:=n0_;have BK1:=n1_;clear n0_ n1_;rw[hb2]))
 obtain ⟨w1,hw1⟩:∃ w1,w1=w0.alloc (.cells #[.slice none 0 0] 99 (0,0)):=⟨_,rfl⟩;have HW1:=Aside0.mk hw1;have HS0:Aside0 (WS w w1 w0.heap.size [] (.slice none 0 0)):=⟨by rw[hw1];exact ⟨heap_alloc_new w0 _,HB.out.size,Kd.R_nil _ _ _ _ _,below_alloc HB.out _⟩⟩;have HX1:Aside0 (w1.heap[w.heap.size]?=some (.cells #[.int .i64 r.call.f0,.int .i64 r.call.f1,.int .i64 r.err,.int .i64 r.value] 50 (0,0))):=⟨by rw[hw1];exact blk_keep (al_below w0 _) BK1.out⟩;clear hw1;go_upto_region 4 with fail
 rw[←HW1.out];have HB0:Aside0 (([]:List Int).length+(pairB r.call).length≤1099511627776):=⟨by have:=HLEN.out.1;simp only[List.length_nil];omega⟩;have ky0:w1.cell? ⟨w.heap.size,0,none⟩=some (.int .i64 r.call.f0):=(blk_cell HX1.out 0).trans rfl;have ky1:w1.cell? ⟨w.heap.size,1,none⟩=some (.int .i64 r.call.f1):=(blk_cell HX1.out 1).trans rfl;go_upto_region 5 with (go_at_call 54;refine (call_calls w _ _ [] (.slice none 0 0) r.call HS0.out HB0.out).mono ?_;rintro e w2 ⟨rfl,v2,hS1,hst⟩;have HS1:=Aside0.mk hS1;have HST1:=Aside0.mk hst;clear hS1 hst ky0 ky1)
 have kx2:w2.cell? ⟨w.heap.size,2,none⟩=some (.int .i64 r.err):=(box_stay HX1.out (by decide) (by decide) HST1.out 2).trans rfl;have HL1:Aside0 (IsL (w2.alloc (.cells #[.int .i64 r.err] 3 (0,0))) w2.heap.size [r.err]):=⟨heap_alloc_new w2 _⟩;have HB1:Aside0 (([]++pairB r.call).length+(numsB [r.err]).length≤1099511627776):=⟨by rw[numsB1];have:=HLEN.out;simp only[List.length_append,List.length_nil];omega⟩;go_upto_region 6 with (go_at_call 53;refine (nums_calls w _ _ ([]++pairB r.call) v2 _ [r.err] _ _ rfl (HS1.out.below (al_below w2 _)) HL1.out HB1.out (by simp)).mono ?_;rintro e w3 ⟨rfl,v3,hS1,hst⟩;rw[numsB1] at hS1;have HS2:=Aside0.mk hS1;have HST2:Aside0 (Stay w1 w3):=⟨HST1.out.trans ((Stay.below (al_below w2 _)).trans hst)⟩;clear hS1 hst kx2)
 have kx3:w3.cell? ⟨w.heap.size,3,none⟩=some (.int .i64 r.value):=(box_stay HX1.out (by decide) (by decide) HST2.out 3).trans rfl;have HB2:Aside0 (([]++pairB r.call++intB r.err).length+(signB r.value).length≤1099511627776):=⟨by have:=HLEN.out;simp only[List.length_append,List.length_nil];omega⟩;go_upto_region 7 with (go_at_call 85;refine (signed_calls w _ _ ([]++pairB r.call++intB r.err) v3 r.value HI.out HS2.out HB2.out).mono ?_;rintro e w4 ⟨rfl,v4,hS1,hst⟩;have HS3:=Aside0.mk hS1;clear hS1 hst kx3)
 obtain ⟨Az,nz,cz,rfl⟩:=R_sl HS3.out.row;have kw:w4.cell? ⟨w0.heap.size,0,none⟩=some (.slice Az nz cz):=(blk_cell HS3.out.blk 0).trans rfl;go_wp2_with fail
 go_ret2
 refine ⟨.slice Az nz cz,rfl,?_,HS3.out.bel⟩;have hrow:=HS3.out.row;rw[show []++pairB r.call++intB r.err++signB r.value=repB r from by simp[repB]] at hrow;exact hrow
theorem encrep0_calls (r:Rep) (w:World) (h:¬(dcd (callV ⟨r.call.f0,r.call.f1⟩)=true∧bB r.err 0 255=true)):
  Calls Try.prog 34 #[.agg #[.int .i64 r.call.f0,.int .i64 r.call.f1,.int .i64 r.err,.int .i64 r.value]] w fun e w'=>e = .returned (.tuple #[.slice none 0 0,.int .i64 21])∧Below w.heap.size w w':=by
 have hu50:=Try.underlying50;have hu27:=Try.underlying27;obtain ⟨wa,hwa⟩:∃ wa,wa=w.alloc (.cells #[.int .i64 r.call.f0,.int .i64 r.call.f1,.int .i64 r.err,.int .i64 r.value] 50 (0,0)):=⟨_,rfl⟩;have HWA:=Aside0.mk hwa;have HB:Aside0 (Below w.heap.size w wa):=⟨by rw[hwa];exact al_below w _⟩;have BK1:Aside0 (wa.heap[w.heap.size]?=some (.cells #[.int .i64 r.call.f0,.int .i64 r.call.f1,.int .i64 r.err,.int .i64 r.value] 50 (0,0))):=⟨by rw[hwa];exact heap_alloc_new w _⟩;clear hwa;have kz0:wa.cell? ⟨w.heap.size,0,none⟩=some (.int .i64 r.call.f0):=(blk_cell BK1.out 0).trans rfl;have kz1:wa.cell? ⟨w.heap.size,1,none⟩=some (.int .i64 r.call.f1):=(blk_cell BK1.out 1).trans rfl;have kz2:wa.cell? ⟨w.heap.size,2,none⟩=some (.int .i64 r.err):=(blk_cell BK1.out 2).trans rfl;go_enter Try.func34,Try.ntmps34
 go_upto_region 1 with fail
 rw[←HWA.out];by_cases hb1:dcd (callV ⟨r.call.f0,r.call.f1⟩)=true
 ·have hb2:bB r.err 0 255=false:=by cases hh:bB r.err 0 255 with|false=>rfl|true=>exact absurd ⟨hb1,hh⟩ h
  clear h;go_wp2_with (first|(go_at_call 63;refine (rightCall_calls _ r.call.f0 r.call.f1).mono ?_;rintro e w1 ⟨rfl,hb⟩;have n0_:=Aside0.mk (below_step HB.out hb);have n1_:=Aside0.mk (blk_keep hb BK1.out);clear HB BK1 hb;have HB:=n0_;have BK1:=n1_;clear n0_ n1_;rw[hb1];have kz2:w1.cell? ⟨w.heap.size,2,none⟩=some (.int .i64 r.err):=(blk_cell BK1.out 2).trans rfl)|(go_at_call 66;refine (between_calls _ r.err 0 255).mono ?_;rintro e w0 ⟨rfl,hb⟩;have n0_:=Aside0.mk (below_step HB.out hb);have n1_:=Aside0.mk (blk_keep hb BK1.out);clear HB BK1 hb;have HB:=n0_;have BK1:=n1_;clear n0_ n1_;rw[hb2]))
  go_ret2
  exact ⟨rfl,HB.out⟩
 ·replace hb1:dcd (callV ⟨r.call.f0,r.call.f1⟩)=false:=by cases hh:dcd (callV ⟨r.call.f0,r.call.f1⟩) with|false=>rfl|true=>exact absurd hh hb1
  clear h;go_wp2_with (go_at_call 63;refine (rightCall_calls _ r.call.f0 r.call.f1).mono ?_;rintro e w1 ⟨rfl,hb⟩;have n0_:=Aside0.mk (below_step HB.out hb);have n1_:=Aside0.mk (blk_keep hb BK1.out);clear HB BK1 hb;have HB:=n0_;have BK1:=n1_;clear n0_ n1_;rw[hb1];have kz2:w1.cell? ⟨w.heap.size,2,none⟩=some (.int .i64 r.err):=(blk_cell BK1.out 2).trans rfl)
  go_ret2
  exact ⟨rfl,HB.out⟩
theorem encreq_calls (x:S25) (o:Sp.Op) (w:World) (h:isI o.a∧isI o.b):
  Calls Try.prog 32 #[.agg #[.int .i64 x.f0,.int .i64 x.f1],.agg #[.int .i64 o.kind,.string o.name,.int .i64 o.a,.int .i64 o.b]] w fun e w'=>∃ v,e = .returned (.tuple #[v,.int .i64 (lay reqB reqV (x,o)).2])∧Kd.R (Kd.int .u8) 5 w' w.heap.size (fun _=>True) v (lay reqB reqV (x,o)).1∧Below w.heap.size w w':=by
 by_cases hv:reqV (x,o)
 ·rw[lay_ok hv];exact encreq1_calls x o w hv.1 hv.2
 ·rw[lay_no hv];refine (encreq0_calls x o w (fun hh=>hv ⟨dcd_iff.mp hh.1,(oB_iff o h).mp hh.2⟩)).mono ?_;rintro e w' ⟨rfl,hb⟩;exact ⟨_,rfl,Kd.R_nil _ _ _ _ _,hb⟩
theorem encrep_calls (r:Rep) (w:World) (h:isI r.value):
  Calls Try.prog 34 #[.agg #[.int .i64 r.call.f0,.int .i64 r.call.f1,.int .i64 r.err,.int .i64 r.value]] w fun e w'=>∃ v,e = .returned (.tuple #[v,.int .i64 (lay repB repV r).2])∧Kd.R (Kd.int .u8) 5 w' w.heap.size (fun _=>True) v (lay repB repV r).1∧Below w.heap.size w w':=by
 by_cases hv:repV r
 ·rw[lay_ok hv];exact encrep1_calls r w hv
 ·rw[lay_no hv];refine (encrep0_calls r w (fun hh=>hv ⟨dcd_iff.mp hh.1,dcd_iff.mp hh.2,h⟩)).mono ?_;rintro e w' ⟨rfl,hb⟩;exact ⟨_,rfl,Kd.R_nil _ _ _ _ _,hb⟩
def SVc (s:Seg) (A:Option Addr) (c:Nat):Array Value := #[.int .i64 s.src,.int .i64 s.dst,.int .i64 s.seq,.int .i64 s.ack,.slice A s.data.length c]
def SV (s:Seg) (A:Option Addr) (c:Nat):Value := .agg (SVc s A c)
theorem kM8 {W:World} {base:Nat}:∀ (x:Int) (cs:List Value),(Kd.int .u8).K W x cs→(Kd.int .u8).M W base (fun _=>False) x cs:=fun x cs h=>h
noncomputable def sgB (s:Seg):Bool:=bB s.src 0 15 && bB s.dst 0 15 && bB s.seq 0 1099511627776 && bB s.ack 0 1099511627776
theorem sg_iff (s:Seg) (h:IsB s.data):segV s ↔ sgB s=true∧s.data.length≤4000∧((s.seq == 0)=((s.data.length:Int) == 0)):=by
 unfold segV sgB;simp only[Bool.and_eq_true,bB_iff]
 have h2:((s.seq == 0)=((s.data.length:Int) == 0)) ↔ (s.seq=0 ↔ (s.data.length:Int)=0):=by
  rw[Bool.eq_iff_iff,beq_iff_eq,beq_iff_eq]
 rw[h2];constructor
 ·rintro ⟨a,b,c,d,e,f⟩;refine ⟨⟨⟨⟨a,b⟩,c⟩,d⟩,by split at e<;>omega,by split at e<;>omega⟩
 ·rintro ⟨⟨⟨⟨a,b⟩,c⟩,d⟩,e,f⟩;refine ⟨a,b,c,d,?_,h⟩
  split<;>omega
theorem encseg1_calls (s:Seg) (A:Option Addr) (c:Nat) (w:World) (hr:Kd.C (Kd.int .u8) w A s.data.length s.data) (hc:s.data.length≤c) (z:Bool) (hz1:(s.seq == 0)=z) (hz2:((s.data.length:Int) == 0)=z) (hv:segV s):
  Calls Try.prog 27 #[SV s A c] w fun e w'=>∃ v,e = .returned (.tuple #[v,.int .i64 0])∧Kd.R (Kd.int .u8) 5 w' w.heap.size (fun _=>True) v (segB s)∧Below w.heap.size w w':=by
 have hg:=((sg_iff s hv.2.2.2.2.2).mp hv).1;unfold sgB at hg;simp only[Bool.and_eq_true] at hg;obtain ⟨⟨⟨hb1,hb2⟩,hb3⟩,hb4⟩:=hg;have hl:(s.data.length:Int)≤4000:=by have:=((sg_iff s hv.2.2.2.2.2).mp hv).2.1;omega
 have hl2:¬((s.data.length:Int) > 4000):=by omega
 have HLEN:=Aside0.mk (seg_len hv);have HR:=Aside0.mk hr;clear hv hr hc;have hu47:=Try.underlying47;obtain ⟨wa,hwa⟩:∃ wa,wa=w.alloc (.cells (SVc s A c) 47 (0,0)):=⟨_,rfl⟩;have HWA:=Aside0.mk hwa;have HB:Aside0 (Below w.heap.size w wa):=⟨by rw[hwa];exact al_below w _⟩;have BK:Aside0 (wa.heap[w.heap.size]?=some (.cells (SVc s A c) 47 (0,0))):=⟨by rw[hwa];exact heap_alloc_new w _⟩;clear hwa;have kz0:wa.cell? ⟨w.heap.size,0,none⟩=some (.int .i64 s.src):=(blk_cell BK.out 0).trans rfl;have kz1:wa.cell? ⟨w.heap.size,1,none⟩=some (.int .i64 s.dst):=(blk_cell BK.out 1).trans rfl;have kz2:wa.cell? ⟨w.heap.size,2,none⟩=some (.int .i64 s.seq):=(blk_cell BK.out 2).trans rfl;have kz3:wa.cell? ⟨w.heap.size,3,none⟩=some (.int .i64 s.ack):=(blk_cell BK.out 3).trans rfl;go_enter Try.func27,Try.ntmps27
 unfold SV;go_upto_region 1 with fail
 rw[←HWA.out];go_upto_region 2 with (go_at_call 66;refine (between_calls _ _ _ _).mono ?_;rintro e w0 ⟨rfl,hb⟩;have n0_:=Aside0.mk (below_step HB.out hb);have n1_:=Aside0.mk (blk_keep hb BK.out);clear HB BK hb kz0 kz1 kz2 kz3;have HB:=n0_;have BK:=n1_;clear n0_ n1_;(first|rw[hb1]|rw[hb2]|rw[hb3]|rw[hb4]);have kz0:w0.cell? ⟨w.heap.size,0,none⟩=some (.int .i64 s.src):=(blk_cell BK.out 0).trans rfl;have kz1:w0.cell? ⟨w.heap.size,1,none⟩=some (.int .i64 s.dst):=(blk_cell BK.out 1).trans rfl;have kz2:w0.cell? ⟨w.heap.size,2,none⟩=some (.int .i64 s.seq):=(blk_cell BK.out 2).trans rfl;have kz3:w0.cell? ⟨w.heap.size,3,none⟩=some (.int .i64 s.ack):=(blk_cell BK.out 3).trans rfl)
 have kz4:w0.cell? ⟨w.heap.size,4,none⟩=some (.slice A s.data.length c):=(blk_cell BK.out 4).trans rfl;go_upto_region 4 with fail
 clear kz0 kz1 kz2 kz3 kz4;obtain ⟨w1,hw1⟩:∃ w1,w1=w0.alloc (.cells #[.slice none 0 0] 99 (0,0)):=⟨_,rfl⟩;have HW1:=Aside0.mk hw1;have HS0:Aside0 (WS w w1 w0.heap.size [] (.slice none 0 0)):=⟨by rw[hw1];exact ⟨heap_alloc_new w0 _,HB.out.size,Kd.R_nil _ _ _ _ _,below_alloc HB.out _⟩⟩;have HX1:Aside0 (w1.heap[w.heap.size]?=some (.cells (SVc s A c) 47 (0,0))):=⟨by rw[hw1];exact blk_keep (al_below w0 _) BK.out⟩;clear hw1;go_upto_region 5 with fail
 rw[←HW1.out];have kz0:w1.cell? ⟨w.heap.size,0,none⟩=some (.int .i64 s.src):=(blk_cell HX1.out 0).trans rfl;have kz1:w1.cell? ⟨w.heap.size,1,none⟩=some (.int .i64 s.dst):=(blk_cell HX1.out 1).trans rfl;have kz2:w1.cell? ⟨w.heap.size,2,none⟩=some (.int .i64 s.seq):=(blk_cell HX1.out 2).trans rfl;have kz3:w1.cell? ⟨w.heap.size,3,none⟩=some (.int .i64 s.ack):=(blk_cell HX1.out 3).trans rfl;have kz4:w1.cell? ⟨w.heap.size,4,none⟩=some (.slice A s.data.length c):=(blk_cell HX1.out 4).trans rfl;have HT:Aside0 (segB s=numsB [s.src,s.dst,s.seq,s.ack,(s.data.length:Int)]++s.data):=⟨by simp[segB,numsB]⟩;have HB0:Aside0 (([]:List Int).length+(numsB [s.src,s.dst,s.seq,s.ack,(s.data.length:Int)]).length≤1099511627776):=⟨by have h1:=congrArg List.length HT.out;have:=HLEN.out;rw[List.length_append] at h1;rw[List.length_nil];omega⟩;have HL0:Aside0 (IsL (w1.alloc (.cells #[.int .i64 s.src,.int .i64 s.dst,.int .i64 s.seq,.int .i64 s.ack,.int .i64 (s.data.length:Int)] 3 (0,0))) w1.heap.size [s.src,s.dst,s.seq,s.ack,(s.data.length:Int)]):=⟨heap_alloc_new w1 _⟩;go_upto_region 6 with (go_at_call 53;refine (nums_calls w _ _ [] (.slice none 0 0) _ [s.src,s.dst,s.seq,s.ack,(s.data.length:Int)] _ _ rfl (HS0.out.below (al_below w1 _)) HL0.out HB0.out (by simp)).mono ?_;rintro e w2 ⟨rfl,v2,hS1,hst⟩;have HS1:=Aside0.mk hS1;have HST1:Aside0 (Stay w1 w2):=⟨(Stay.below (al_below w1 _)).trans hst⟩;clear hS1 hst kz0 kz1 kz2 kz3 kz4)
 obtain ⟨Az,nz,cz,rfl⟩:=R_sl HS1.out.row;have HBD:Aside0 (Below w2.heap.size w2 w2.drew):=⟨(Below.refl _ _).drew⟩;have kw:w2.drew.cell? ⟨w0.heap.size,0,none⟩=some (.slice Az nz cz):=(blk_cell (blk_keep HBD.out HS1.out.blk) 0).trans rfl;have kz4:w2.drew.cell? ⟨w.heap.size,4,none⟩=some (.slice A s.data.length c):=(blk_cell (blk_keep HBD.out (HST1.out _ _ _ (by decide) (by decide) HX1.out)) 4).trans rfl;have HR2:Aside0 (Kd.R (Kd.int .u8) 5 w2.drew w.heap.size (fun _=>True) (.slice Az nz cz) ([]++numsB [s.src,s.dst,s.seq,s.ack,(s.data.length:Int)])):=⟨Kd.R_below HS1.out.row HBD.out⟩;have HB2:Aside0 (Below w.heap.size w w2.drew):=⟨HS1.out.bel.drew⟩;have HC2:Aside0 (Kd.C (Kd.int .u8) w2.drew A s.data.length s.data):=⟨Kd.C_below HR.out HB2.out⟩;have HZ2:Aside0 ((([]++numsB [s.src,s.dst,s.seq,s.ack,(s.data.length:Int)]).length+s.data.length) * 1≤140737488355328):=⟨by have h1:=congrArg List.length HT.out;have:=HLEN.out;rw[List.length_append] at h1;rw[List.nil_append];omega⟩;go_region_law (refine Kd.R_append_rows_step (Kd.int .u8) (Rr:=Kd.K (Kd.int .u8) w2.drew) (w0:=w) w.heap.size rfl (.tmp 61) (.tmp 63) 36 5 (.int .u8 0) 1 (by rfl) Try.underlying36 inf8 rfl (by decide) (by decide) (.slice Az nz cz) _ s.data A s.data.length c (fun _=>True) (fun _=>False) (by rfl) (by simp[Act.eval,Act.put]) HR2.out HC2.out kM8 (fun _ hk=>hk.elim) (fun _ _=>trivial) HB2.out HB2.out.size HZ2.out ?_;intro v3 w3 hR3 hB3 hg3 hat3;have HR3:=Aside0.mk hR3;have HB3:=Aside0.mk hB3;clear hR3 hB3 hg3 hat3)
 all_goals (go_wp2_with fail)
 all_goals go_ret2
 all_goals (refine ⟨v3,rfl,?_,HB3.out⟩;have h3:=HR3.out;rw[List.nil_append,←HT.out] at h3;exact h3)
theorem encseg0_calls (s : Seg) (A : Option Addr) (c : Nat) (w : World) (hr : Kd.C (Kd.int .u8) w A s.data.length s.data) (hd : IsB s.data) (hv : ¬ segV s) :
    Calls Try.prog 27 #[SV s A c] w fun e w'=>e = .returned (.tuple #[.slice none 0 0,.int .i64 21])∧Below w.heap.size w w':=by
  have hvv:¬(sgB s=true∧s.data.length≤4000∧((s.seq == 0)=((s.data.length:Int) == 0))):=fun h=>hv ((sg_iff s hd).mpr h);have HV:=Aside0.mk hvv;have HR:=Aside0.mk hr;clear hv hvv hr hd;have hu47:=Try.underlying47;obtain ⟨wa,hwa⟩:∃ wa,wa=w.alloc (.cells (SVc s A c) 47 (0,0)):=⟨_,rfl⟩;have HWA:=Aside0.mk hwa;have HB:Aside0 (Below w.heap.size w wa):=⟨by rw[hwa];exact al_below w _⟩;have BK:Aside0 (wa.heap[w.heap.size]?=some (.cells (SVc s A c) 47 (0,0))):=⟨by rw[hwa];exact heap_alloc_new w _⟩;clear hwa;have kz0:wa.cell? ⟨w.heap.size,0,none⟩=some (.int .i64 s.src):=(blk_cell BK.out 0).trans rfl;have kz1:wa.cell? ⟨w.heap.size,1,none⟩=some (.int .i64 s.dst):=(blk_cell BK.out 1).trans rfl;have kz2:wa.cell? ⟨w.heap.size,2,none⟩=some (.int .i64 s.seq):=(blk_cell BK.out 2).trans rfl;have kz3:wa.cell? ⟨w.heap.size,3,none⟩=some (.int .i64 s.ack):=(blk_cell BK.out 3).trans rfl;go_enter Try.func27,Try.ntmps27
  unfold SV;go_upto_region 1 with fail
  rw[←HWA.out];go_cut [4] from 6 (fun v4 wx=>v4 = .bool (sgB s)∧Aside0 (Below w.heap.size w wx∧wx.heap[w.heap.size]?=some (.cells (SVc s A c) 47 (0,0))))
  case first =>
    go_wp2_with (go_at_call 66;refine (between_calls _ _ _ _).mono ?_;rintro e w0 ⟨rfl,hb⟩;have n0_:=Aside0.mk (below_step HB.out hb);have n1_:=Aside0.mk (blk_keep hb BK.out);clear HB BK hb kz0 kz1 kz2 kz3;have HB:=n0_;have BK:=n1_;clear n0_ n1_;have kz0:w0.cell? ⟨w.heap.size,0,none⟩=some (.int .i64 s.src):=(blk_cell BK.out 0).trans rfl;have kz1:w0.cell? ⟨w.heap.size,1,none⟩=some (.int .i64 s.dst):=(blk_cell BK.out 1).trans rfl;have kz2:w0.cell? ⟨w.heap.size,2,none⟩=some (.int .i64 s.seq):=(blk_cell BK.out 2).trans rfl;have kz3:w0.cell? ⟨w.heap.size,3,none⟩=some (.int .i64 s.ack):=(blk_cell BK.out 3).trans rfl)
    all_goals go_meet
    all_goals exact ⟨congrArg Value.bool (by first|(simp[sgB, *];done)|(simp_all[sgB];done)),⟨HB.out,BK.out⟩⟩
  case rest=>
   obtain ⟨rfl,HH⟩:=hcut;have HB2:=Aside0.mk HH.out.1;have BK2:=Aside0.mk HH.out.2;clear HH HB BK kz0 kz1 kz2 kz3;have kz2:wc.cell? ⟨w.heap.size,2,none⟩=some (.int .i64 s.seq):=(blk_cell BK2.out 2).trans rfl;have kz4:wc.cell? ⟨w.heap.size,4,none⟩=some (.slice A s.data.length c):=(blk_cell BK2.out 4).trans rfl;obtain ⟨q,hq⟩:∃ q,q=sgB s:=⟨_,rfl⟩;rw[←hq];have HQ:=Aside0.mk hq;clear hq;obtain rfl|rfl:q=true∨q=false:=by cases q<;>simp
   ·by_cases hl:(s.data.length:Int) > 4000
    ·go_wp2_with fail
     go_ret2
     exact ⟨rfl,HB2.out⟩
    ·obtain ⟨z,hz⟩:∃ z,z=(s.seq == 0):=⟨_,rfl⟩;obtain ⟨y,hy⟩:∃ y,y=((s.data.length:Int) == 0):=⟨_,rfl⟩;have hne:z≠y:=fun e=>HV.out ⟨HQ.out.symm,by omega,by rw[←hz,←hy];exact e⟩;have hz1:=hz.symm;have hy1:=hy.symm;clear hz hy;obtain rfl|rfl:z=true∨z=false:=by cases z<;>simp
     ·obtain rfl:y=false:=by cases y<;>simp_all
      clear hne;go_wp2_with fail
      go_ret2
      exact ⟨rfl,HB2.out⟩
     ·obtain rfl:y=true:=by cases y<;>simp_all
      clear hne;go_wp2_with fail
      go_ret2
      exact ⟨rfl,HB2.out⟩
   ·go_wp2_with fail
    go_ret2
    exact ⟨rfl,HB2.out⟩
theorem encseg_calls (s:Seg) (A:Option Addr) (c:Nat) (w:World) (hr:Kd.C (Kd.int .u8) w A s.data.length s.data) (hc:s.data.length≤c) (hd:IsB s.data):
  Calls Try.prog 27 #[SV s A c] w fun e w'=>∃ v,e = .returned (.tuple #[v,.int .i64 (lay segB segV s).2])∧Kd.R (Kd.int .u8) 5 w' w.heap.size (fun _=>True) v (lay segB segV s).1∧Below w.heap.size w w':=by
 by_cases hv:segV s
 ·rw[lay_ok hv];exact encseg1_calls s A c w hr hc (s.seq == 0) rfl ((sg_iff s hd).mp hv).2.2.symm hv
 ·rw[lay_no hv];refine (encseg0_calls s A c w hr hd hv).mono ?_;rintro e w' ⟨rfl,hb⟩;exact ⟨_,rfl,Kd.R_nil _ _ _ _ _,hb⟩
end Go.Proofs.Ytpgdmmjbhjbbhaa.En
end
section
namespace Go.Proofs.Ytpgdmmjbhjbbhaa.Sp
open Go Go.RowKit P YtpgdmmjbhjbbhaaW.PrintWords YtpgdmmjbhjbbhaaW.PrintLast YtpgdmmjbhjbbhaaW.PrintMore
theorem and127f:∀ y:Fin 256,bits BinOp.and IntKind.u8 (y.val:Int) 127=((y.val % 128:Nat):Int):=by decide +kernel
theorem and127 (x:Int) (h0:0≤x) (h1:x≤255):bits BinOp.and IntKind.u8 x 127=((x.toNat % 128:Nat):Int):=by
 have h:=and127f ⟨x.toNat,by omega⟩;simp only at h
 rwa [Int.toNat_of_nonneg h0] at h
theorem pow128 (k:Nat):128 ^ k=2 ^ (7 * k):=by rw[Nat.pow_mul]
theorem or_step (acc y k:Nat) (hk:k≤9) (hacc:acc<128 ^ k) (hy:y<128) (h9:k=9→y≤1):bits BinOp.or IntKind.u64 (acc:Int) (((y * 2 ^ (7 * k)) % 18446744073709551616:Nat):Int)=((acc+128 ^ k * y:Nat):Int):=by
 have hp:y * 2 ^ (7 * k)<18446744073709551616:=by
  rcases Nat.lt_or_ge k 9 with h|h
  ·have h2:2 ^ (7 * k)≤2 ^ 56:=Nat.pow_le_pow_right (by decide) (by omega);have h3:y * 2 ^ (7 * k)≤127 * 2 ^ 56:=Nat.mul_le_mul (by omega) h2;omega
  ·have:k=9:=by omega
   subst this;have:=h9 rfl;have h3:y * 2 ^ (7 * 9)≤1 * 2 ^ 63:=Nat.mul_le_mul this (Nat.le_refl _);omega
 rw[Nat.mod_eq_of_lt hp];have ha:acc<2 ^ (7 * k):=by rw[←pow128];exact hacc
 have ha2:acc<18446744073709551616:=by
  have h2:2 ^ (7 * k)≤2 ^ 63:=Nat.pow_le_pow_right (by decide) (by omega);omega
 rw[bits_or_u64_nat _ _ ha2 hp,Nat.or_comm,←Nat.shiftLeft_eq,←Nat.shiftLeft_add_eq_or_of_lt ha,Nat.shiftLeft_eq,pow128,Nat.mul_comm y,Nat.add_comm]
theorem and1 (n:Nat) (h:n<18446744073709551616):bits BinOp.and IntKind.u64 (n:Int) 1=((n % 2:Nat):Int):=by
 have:=u64_and_nat n 1 h (by decide);rw[Nat.and_one_is_mod] at this;exact this
theorem ofInt_u64' (a:Nat) (h:a<18446744073709551616):(BitVec.ofInt 64 (a:Int)).toNat=a:=by
 rw[BitVec.toNat_ofInt];omega
theorem i64_xor0 (a:Nat) (ha:a<9223372036854775808):bits .xor .i64 (a:Int) 0=(a:Int):=by
 show IntKind.i64.wrap ((BitVec.ofInt 64 (a:Int) ^^^ BitVec.ofInt 64 0).toNat:Int)=_
 have h1:BitVec.ofInt 64 0=0#64:=by decide
 rw[h1,BitVec.xor_zero,ofInt_u64' a (by omega)];simp[IntKind.wrap,IntKind.bits,IntKind.signed];omega
theorem i64_xor1 (a:Nat) (ha:a<9223372036854775808):bits .xor .i64 (a:Int) (-1) = -1 - (a:Int):=by
 show IntKind.i64.wrap ((BitVec.ofInt 64 (a:Int) ^^^ BitVec.ofInt 64 (-1)).toNat:Int)=_
 have h1:BitVec.ofInt 64 (-1)=BitVec.allOnes 64:=by decide
 rw[h1,BitVec.xor_allOnes,BitVec.toNat_not,ofInt_u64' a (by omega)];simp[IntKind.wrap,IntKind.bits,IntKind.signed];omega
theorem sign_read (n:Nat) (h:n<18446744073709551616):bits BinOp.xor IntKind.i64 ((n:Int) / 2) (wrap64 (-wrap64 (bits BinOp.and IntKind.u64 (n:Int) 1)))=unsign n:=by
 rw[and1 n h,show ((n:Int) / 2)=((n / 2:Nat):Int) from by omega];unfold unsign;by_cases h2:n % 2=0
 ·rw[h2,if_pos rfl,show wrap64 (-wrap64 ((0:Nat):Int))=0 from by unfold wrap64;omega];exact i64_xor0 _ (by omega)
 ·rw[show n % 2=1 from by omega,if_neg (by decide),show wrap64 (-wrap64 ((1:Nat):Int)) = -1 from by unfold wrap64;omega,i64_xor1 _ (by omega)];omega
end Go.Proofs.Ytpgdmmjbhjbbhaa.Sp
end
section
namespace Go.Proofs.Ytpgdmmjbhjbbhaa.Rd
open Go Go.RowKit P Sp Vd Wr YtpgdmmjbhjbbhaaW.PrintWords YtpgdmmjbhjbbhaaW.PrintLast YtpgdmmjbhjbbhaaW.PrintMore
structure Kb (g:Nat) (w w1:World):Prop where
 size:w.heap.size≤w1.heap.size
 block:∀ k,k<w.heap.size→k≠g→w1.heap[k]?=w.heap[k]?
theorem Kb.refl (g:Nat) (w:World):Kb g w w:=⟨Nat.le_refl _,fun _ _ _=>rfl⟩
theorem Kb.trans {g:Nat} {a b c:World} (h:Kb g a b) (k:Kb g b c):Kb g a c:=⟨Nat.le_trans h.size k.size,fun i hi hg=>(k.block i (Nat.lt_of_lt_of_le hi h.size) hg).trans (h.block i hi hg)⟩
theorem Kb.below {g:Nat} {a b:World} (h:Below a.heap.size a b):Kb g a b:=⟨h.size,fun i hi _=>h.block i hi⟩
theorem Kb.set (g i:Nat) (w:World) (v:Value):Kb g w (w.setCell ⟨g,i,none⟩ v):=⟨Nat.le_of_eq (by first|rw[World.size_setCell]|simp),fun k _ hk=>Below.heap_setCell w ⟨g,i,none⟩ v k hk⟩
structure In (w0:World) (A:Option Addr) (c:Nat) (b:List Int):Prop where
 row:Kd.C (Kd.int .u8) w0 A b.length b
 isB:IsB b
 cap:b.length≤c
theorem In.len {w0:World} {A:Option Addr} {c:Nat} {b:List Int} (h:In w0 A c b):b.length≤9223372036854775807:=by have:=h.row.2.1;omega
def pl (b l:List Int):Int:=(b.length:Int) - l.length
structure RS (w0 w:World) (g:Nat) (A:Option Addr) (c:Nat) (b l:List Int):Prop where
 blk:w.heap[g]?=some (.cells #[.slice A b.length c,.int .i64 (pl b l)] 141 (0,0))
 ge:w0.heap.size≤g
 bel:Below w0.heap.size w0 w
 suf:∃ pre,b=pre++l
theorem RS.below {w0 w w1:World} {g:Nat} {A:Option Addr} {c:Nat} {b l:List Int} (h:RS w0 w g A c b l) (hb:Below w.heap.size w w1):RS w0 w1 g A c b l:=
 ⟨(hb.block g (blk_lt h.blk)).trans h.blk,h.ge,h.bel.trans (hb.mono h.bel.size),h.suf⟩
theorem RS.kb {w0 w w1:World} {g g2:Nat} {A:Option Addr} {c:Nat} {b l:List Int} (h:RS w0 w g A c b l) (k:Kb g2 w w1) (hne:g≠g2) (hb:Below w0.heap.size w0 w1):RS w0 w1 g A c b l:=
 ⟨(k.block g (blk_lt h.blk) hne).trans h.blk,h.ge,hb,h.suf⟩
theorem RS.le {w0 w:World} {g:Nat} {A:Option Addr} {c:Nat} {b l:List Int} (h:RS w0 w g A c b l):l.length≤b.length:=by
 obtain ⟨pre,hp⟩:=h.suf;rw[hp,List.length_append];omega
theorem RS.isB {w0 w:World} {g:Nat} {A:Option Addr} {c:Nat} {b l:List Int} (h:RS w0 w g A c b l) (hi:IsB b):IsB l:=by
 obtain ⟨pre,hp⟩:=h.suf;rw[hp] at hi;exact (IsB.append.mp hi).2
theorem rd_pl {b l:List Int} {x:Int} {r:List Int} (h:∃ pre,b=pre++l) (hl:l=x::r):rd b (pl b l)=x∧0≤pl b l∧pl b l<(b.length:Int)∧pl b r=pl b l+1:=by
 obtain ⟨pre,rfl⟩:=h;subst hl;have h1:pl (pre++x::r) (x::r)=(pre.length:Int):=by unfold pl;rw[List.length_append];omega
 refine ⟨?_,by rw[h1];omega,by rw[h1,List.length_append,List.length_cons];omega,?_⟩
 ·rw[h1];unfold rd;rw[Int.toNat_natCast,List.getD_eq_getElem?_getD];simp
 ·unfold pl;rw[List.length_cons];omega
theorem RS.put {w0 w:World} {g:Nat} {A:Option Addr} {c:Nat} {b l r:List Int} (h:RS w0 w g A c b l) (n:Int) (hn:n=pl b r) (hs:∃ pre,b=pre++r):RS w0 (w.setCell ⟨g,1,none⟩ (.int .i64 n)) g A c b r:=by
 subst hn;exact ⟨blk_set h.blk 1 _,h.ge,h.bel.setCell h.ge _,hs⟩
def pan (n:Int):Ending := .panicked [{ v := .iface 138 (.int .i64 n),recovered:=false }]
def Left {α : Type} (w0 w : World) (g : Nat) (A : Option Addr) (c : Nat) (b : List Int) (enc : α → Value) (r : R α) (e : Ending) (w1 : World) : Prop :=
  Kb g w w1 ∧ Below w0.heap.size w0 w1 ∧ match r with
    | .bad n=>e=pan ((b.length:Int) - n)
    | .ok x l=>e = .returned (enc x)∧RS w0 w1 g A c b l
def bigP:Rdr (Nat×Nat):=fun l=>match rawP l with
 | .bad n => .bad n
 | .ok n r => .ok (n,l.length) r
def ext (acc k:Nat):NR→NR
 | .cut => .cut
 | .bad => .bad
 | .ok n r => .ok (acc+128 ^ k * n) r
theorem ext0 (x:NR):ext 0 0 x=x:=by cases x<;>simp[ext]
theorem big_calls (w0 w : World) (g : Nat) (A : Option Addr) (c : Nat) (b l : List Int) (hi : In w0 A c b) (h : RS w0 w g A c b l) :
    Calls Try.prog 113 #[.pointer (some ⟨g,0,none⟩)] w fun e w'=>Left w0 w g A c b (fun x:Nat×Nat => .tuple #[.int .u64 (x.1:Int),.int .i64 ((b.length:Int) - x.2)]) (bigP l) e w':=by
  have HI:=Aside0.mk hi;have HS:=Aside0.mk h;clear hi h;have kz1:w.cell? ⟨g,1,none⟩=some (.int .i64 (pl b l)):=(blk_cell HS.out.blk 1).trans rfl;go_enter Try.func113,Try.ntmps113
  go_wp2_with fail
  go_loopw [5,6] (fun v5 v6 wr=>∃ (k acc:Nat) (l':List Int),v5 = .int .u64 (acc:Int)∧v6 = .int .i64 ((7 * k:Nat):Int)∧Aside0 (k≤9∧acc<128 ^ k∧numGo 0 l=ext acc k (numGo k l')∧RS w0 wr g A c b l'∧Kb g w wr)) (fun _ v6 _=>70 - (intOf v6).toNat)
  case atStart=>exact ⟨0,0,l,rfl,rfl,⟨Nat.zero_le _,by decide,by rw[ext0],HS.out,Kb.refl _ _⟩⟩
  case round=>
   obtain ⟨k,acc,l',rfl,rfl,HR⟩:=hrel;clear kz1;have kz0:wr.cell? ⟨g,0,none⟩=some (.slice A b.length c):=(blk_cell HR.out.2.2.2.1.blk 0).trans rfl;have kz1:wr.cell? ⟨g,1,none⟩=some (.int .i64 (pl b l')):=(blk_cell HR.out.2.2.2.1.blk 1).trans rfl;rcases hl':l' with _|⟨x,r⟩
   ·have hpl:pl b l'=(b.length:Int):=by rw[hl'];unfold pl;simp
    rw[hpl] at kz1;have HL:=Aside0.mk hl';go_wp2_with fail
    go_quiet (fail)
    go_wp2_with fail
    refine ⟨rfl,?_⟩;have hb2:Below wr.heap.size wr (wr.drewN nq):=pw_below_drewN (Below.refl _ _) nq;refine ⟨HR.out.2.2.2.2.trans (Kb.below hb2),HR.out.2.2.2.1.bel.trans (hb2.mono HR.out.2.2.2.1.bel.size),?_⟩;have h1:=HR.out.2.2.1;rw[HL.out] at h1;have h2:bigP l = .bad 0:=by unfold bigP rawP;rw[h1];rfl
    rw[h2];simp[pan]
   · obtain ⟨j, hj⟩ : ∃ j, j = pl b l' := ⟨_, rfl⟩
     rw[←hj] at kz1;obtain ⟨hx1,hx2,hx3,hx4⟩:=rd_pl HR.out.2.2.2.1.suf hl';rw[←hj] at hx1 hx2 hx3 hx4;have HL:=Aside0.mk hl';have HJ:=Aside0.mk hj;have HX4:=Aside0.mk hx4;clear hl' hj hx4;have hjne:¬(j=(b.length:Int)):=by omega
     obtain ⟨ad,rfl,kx⟩:=Kd.at_int (Kd.C_below HI.out.row HR.out.2.2.2.1.bel) j hx2 hx3;rw[hx1] at kx;clear hx1;go_wp2_with fail
     go_quiet (fail)
     have hf1:=frozen_of_row wr g 1 _ _ HR.out.2.2.2.1.blk
     have hxb:0≤x∧x≤255:=by
      have:=HR.out.2.2.2.1.isB HI.out.isB;rw[HL.out] at this;exact (IsB.cons.mp this).1
     obtain ⟨y,hy⟩:∃ y:Nat,y=x.toNat % 128:=⟨_,rfl⟩;have hand:bits BinOp.and IntKind.u8 x 127=(y:Int):=by rw[hy];exact and127 x hxb.1 hxb.2
     have hyw:IntKind.u64.wrap (y:Int)=(y:Int):=by rw[u64_wrap];omega
     obtain ⟨N,hN⟩:∃ N:Int,bits BinOp.or IntKind.u64 (acc:Int) (IntKind.u64.wrap ((y:Int) * 2 ^ (7 * k)))=N:=⟨_,rfl⟩
     have HN:Aside0 ((k=9→y≤1)→N=((acc+128 ^ k * y:Nat):Int)):=⟨fun h9=>by
      rw[←hN,u64_wrap,show ((y:Int) * 2 ^ (7 * k)) % 18446744073709551616=(((y * 2 ^ (7 * k)) % 18446744073709551616:Nat):Int) from by rw[Int.natCast_emod,Int.natCast_mul,Int.natCast_pow];rfl];exact or_step acc y k HR.out.1 HR.out.2.1 (by omega) h9⟩
     have HY:=Aside0.mk hy;have HXB:=Aside0.mk hxb;clear hy;have hjw:wrap64 (j+1)=j+1:=by have:=HI.out.len;unfold wrap64;omega
     have HW:Aside0 (∀ nd,RS w0 ((wr.drewN nd).setCell ⟨g,1,none⟩ (.int .i64 (j+1))) g (some ad) c b r∧Kb g w ((wr.drewN nd).setCell ⟨g,1,none⟩ (.int .i64 (j+1)))):=⟨fun nd=>by
      have hb2:Below wr.heap.size wr (wr.drewN nd):=pw_below_drewN (Below.refl _ _) nd;refine ⟨(HR.out.2.2.2.1.below hb2).put _ HX4.out.symm ?_,HR.out.2.2.2.2.trans ((Kb.below hb2).trans (Kb.set g 1 _ _))⟩;obtain ⟨pre,hp⟩:=HR.out.2.2.2.1.suf;exact ⟨pre++[x],by rw[hp,HL.out,List.append_assoc];rfl⟩⟩
     have HG:Aside0 (numGo 0 l=ext acc k (numGo k (x::r))):=⟨by rw[HR.out.2.2.1,HL.out]⟩;have hbad:numGo k (x::r) = .bad→bigP l = .bad l.length:=fun h=>by unfold bigP rawP;rw[HG.out,h];rfl
     have HBAD:=Aside0.mk hbad;have hk9:=HR.out.1;clear hbad;go_wp2_with fail
     go_quiet (fail)
     go_upto_region 11 with fail
     clear kz0 kz1 kx hf1 hand hyw hN hjw;by_cases hx:x<128
     ·by_cases h1:(k=0∨0<x)∧(k<9∨x=1)
      ·have HOK:Aside0 (bigP l = .ok ((acc+128 ^ k * x.toNat),l.length) r):=⟨by
        unfold bigP rawP;rw[HG.out];simp only[numGo];rw[if_pos hx,if_pos h1];rfl⟩
       have HNN:Aside0 (N=((acc+128 ^ k * x.toNat:Nat):Int)):=⟨by rw[HN.out (fun h=>by rw[HY.out];omega),HY.out,Nat.mod_eq_of_lt (by omega)]⟩
       have hfin : ∀ wx, (∃ nd, wx = (wr.drewN nd).setCell ⟨g, 1, none⟩ (.int .i64 (j + 1))) → Left w0 w g (some ad) c b (fun x : Nat × Nat => .tuple #[.int .u64 (x.1 : Int), .int .i64 ((b.length : Int) - x.2)]) (bigP l) (.returned (.tuple #[.int .u64 N, .int .i64 (pl b l)])) wx := by
         rintro wx ⟨nd,rfl⟩;refine ⟨(HW.out nd).2,(HW.out nd).1.bel,?_⟩;rw[HOK.out,HNN.out];exact ⟨rfl,(HW.out nd).1⟩
       have HFIN:=Aside0.mk hfin;clear hfin;rcases Nat.eq_zero_or_pos k with h0|h0
       ·subst h0;by_cases hx0:x > 0
        ·go_wp2_with fail
         go_ret2
         exact HFIN.out _ ⟨_,rfl⟩
        ·go_wp2_with fail
         go_ret2
         exact HFIN.out _ ⟨_,rfl⟩
       ·have hx0:x > 0:=by omega
        have hk0:(7 * (k:Int) == 0)=false:=by rw[beq_eq_false_iff_ne];omega
        by_cases h9:k=9
        ·subst h9;obtain rfl:x=1:=by omega
         go_wp2_with fail
         go_ret2
         exact HFIN.out _ ⟨_,rfl⟩
        ·have hk63:(7 * (k:Int) == 63)=false:=by rw[beq_eq_false_iff_ne];omega
         go_wp2_with fail
         go_ret2
         exact HFIN.out _ ⟨_,rfl⟩
      ·have hb3:bigP l = .bad l.length:=HBAD.out (by simp only[numGo];rw[if_pos hx,if_neg h1])
       have hfin : ∀ wx, (∃ nd, wx = (wr.drewN nd).setCell ⟨g, 1, none⟩ (.int .i64 (j + 1))) → Left w0 w g (some ad) c b (fun x : Nat × Nat => .tuple #[.int .u64 (x.1 : Int), .int .i64 ((b.length : Int) - x.2)]) (bigP l) (.panicked [{ v := .iface 138 (.int .i64 (pl b l)), recovered := false }]) wx := by
         rintro wx ⟨nd,rfl⟩;refine ⟨(HW.out nd).2,(HW.out nd).1.bel,?_⟩;rw[hb3];rfl
       have HFIN:=Aside0.mk hfin;clear hfin hb3;have hk0:(7 * (k:Int) == 0)=false:=by rw[beq_eq_false_iff_ne];omega
       by_cases hx0:x > 0
       ·have h9:k=9:=by omega
        subst h9;have hx1:(x == 1)=false:=by rw[beq_eq_false_iff_ne];omega
        have hx2:¬(x=1):=by omega
        go_wp2_with fail
        exact ⟨rfl,HFIN.out _ ⟨_,rfl⟩⟩
       ·by_cases h9:k=9
        ·subst h9;go_wp2_with fail
         exact ⟨rfl,HFIN.out _ ⟨_,rfl⟩⟩
        ·have hk63:(7 * (k:Int) == 63)=false:=by rw[beq_eq_false_iff_ne];omega
         go_wp2_with fail
         exact ⟨rfl,HFIN.out _ ⟨_,rfl⟩⟩
     ·by_cases h9:9≤k
      ·have hb3:bigP l = .bad l.length:=HBAD.out (by simp only[numGo];rw[if_neg hx,if_pos h9])
       have hfin : ∀ wx, (∃ nd, wx = (wr.drewN nd).setCell ⟨g, 1, none⟩ (.int .i64 (j + 1))) → Left w0 w g (some ad) c b (fun x : Nat × Nat => .tuple #[.int .u64 (x.1 : Int), .int .i64 ((b.length : Int) - x.2)]) (bigP l) (.panicked [{ v := .iface 138 (.int .i64 (pl b l)), recovered := false }]) wx := by
         rintro wx ⟨nd,rfl⟩;refine ⟨(HW.out nd).2,(HW.out nd).1.bel,?_⟩;rw[hb3];rfl
       have HFIN:=Aside0.mk hfin;clear hfin hb3;obtain rfl:k=9:=by omega
       go_wp2_with fail
       exact ⟨rfl,HFIN.out _ ⟨_,rfl⟩⟩
      ·have HN2:Aside0 (N=((acc+128 ^ k * y:Nat):Int)):=⟨HN.out (fun h=>by omega)⟩
       have HA2:Aside0 (acc+128 ^ k * y<128 ^ (k+1)):=⟨by
        have h1:y≤127:=by rw[HY.out];omega
        have h2:128 ^ k * y≤128 ^ k * 127:=Nat.mul_le_mul (Nat.le_refl _) h1;have:=HR.out.2.1;rw[Nat.pow_succ];omega⟩
       have HG2:Aside0 (numGo 0 l=ext (acc+128 ^ k * y) (k+1) (numGo (k+1) r)):=⟨by
        rw[HG.out];simp only[numGo];rw[if_neg hx,if_neg h9];cases numGo (k+1) r with
        | cut=>rfl
        | bad=>rfl
        | ok n r'=>
         simp only[ext];rw[HY.out,Nat.pow_succ,Nat.mul_add,←Nat.mul_assoc,Nat.add_assoc]⟩
       have hk63:(7 * (k:Int) == 63)=false:=by rw[beq_eq_false_iff_ne];omega
       have HK9:Aside0 (¬9≤k):=⟨h9⟩;go_wp2_with fail
       go_roundw
       case rel=>exact ⟨k+1,acc+128 ^ k * y,r,by rw[HN2.out],by go_num,⟨by have:=HK9.out;omega,HA2.out,HG2.out,(HW.out _).1,(HW.out _).2⟩⟩
       case measure=>simp only[intOf];have:=HK9.out;first|omega|(go_num;omega)|(simp;omega)
theorem bigP_bad {l:List Int} {n:Nat} (h:rawP l = .bad n):bigP l = .bad n:=by unfold bigP;rw[h]
theorem bigP_ok {l r:List Int} {n:Nat} (h:rawP l = .ok n r):bigP l = .ok (n,l.length) r:=by unfold bigP;rw[h]
theorem numP_bad {lo hi:Int} {l:List Int} {n:Nat} (h:rawP l = .bad n):numP lo hi l = .bad n:=by unfold numP;rw[h]
theorem numP_ok {lo hi:Int} {l r:List Int} {n:Nat} (h:rawP l = .ok n r) (hb:lo≤(n:Int)∧(n:Int)≤hi):numP lo hi l = .ok (n:Int) r:=by unfold numP;rw[h];exact if_pos hb
theorem numP_no {lo hi:Int} {l r:List Int} {n:Nat} (h:rawP l = .ok n r) (hb:¬(lo≤(n:Int)∧(n:Int)≤hi)):numP lo hi l = .bad l.length:=by unfold numP;rw[h];exact if_neg hb
theorem num_calls (w0 w : World) (g : Nat) (A : Option Addr) (c : Nat) (b l : List Int) (lo hi : Int) (h0 : 0 ≤ lo) (h1 : lo ≤ hi) (h2 : hi ≤ 9223372036854775807) (hi_ : In w0 A c b) (h : RS w0 w g A c b l) :
    Calls Try.prog 80 #[.pointer (some ⟨g,0,none⟩),.int .i64 lo,.int .i64 hi] w fun e w'=>Left w0 w g A c b (fun x:Int => .int .i64 x) (numP lo hi l) e w':=by
  have HI:=Aside0.mk hi_;have HS:=Aside0.mk h;clear hi_ h;have hlo:IntKind.u64.wrap lo=lo:=by rw[u64_wrap];omega
  have hhi:IntKind.u64.wrap hi=hi:=by rw[u64_wrap];omega
  go_enter Try.func80,Try.ntmps80
  rcases hp:rawP l with n|⟨n,r⟩
  ·have hq:=bigP_bad hp;have HQ:Aside0 (numP lo hi l = .bad n):=⟨numP_bad hp⟩;clear hp;go_wp2_with (go_at_call 113;refine (big_calls w0 _ g A c b l HI.out HS.out).mono ?_;rintro e w1 ⟨hk,hb,hm⟩;simp only[hq,pan] at hm;subst hm;have HK:=Aside0.mk (And.intro hk hb);clear hk hb)
   refine ⟨rfl,HK.out.1,HK.out.2,?_⟩;rw[HQ.out];rfl
  ·have hq:=bigP_ok hp;have hn:n<18446744073709551616:=(rawP_codec.one l n r (HS.out.isB HI.out.isB) hp).1;by_cases hb:lo≤(n:Int)∧(n:Int)≤hi
   ·have HQ:Aside0 (numP lo hi l = .ok (n:Int) r):=⟨numP_ok hp hb⟩;have hn1:¬((n:Int)<lo):=by omega
    have hn2:¬((n:Int) > hi):=by omega
    have hn3:IntKind.i64.wrap (n:Int)=(n:Int):=by simp[IntKind.wrap,IntKind.bits,IntKind.signed];omega
    clear hp hb;go_wp2_with (go_at_call 113;refine (big_calls w0 _ g A c b l HI.out HS.out).mono ?_;rintro e w1 ⟨hk,hb,hm⟩;simp only[hq] at hm;obtain ⟨rfl,hs1⟩:=hm;have HK:=Aside0.mk (And.intro hk (And.intro hb hs1));clear hk hb hs1)
    go_ret
    refine ⟨HK.out.1,HK.out.2.1,?_⟩;rw[HQ.out];exact ⟨rfl,HK.out.2.2⟩
   ·have HQ:Aside0 (numP lo hi l = .bad l.length):=⟨numP_no hp hb⟩;by_cases hn1:(n:Int)<lo
    ·clear hp hb;go_wp2_with (go_at_call 113;refine (big_calls w0 _ g A c b l HI.out HS.out).mono ?_;rintro e w1 ⟨hk,hb,hm⟩;simp only[hq] at hm;obtain ⟨rfl,hs1⟩:=hm;have HK:=Aside0.mk (And.intro hk (And.intro hb hs1));clear hk hb hs1)
     refine ⟨rfl,HK.out.1,HK.out.2.1,?_⟩;rw[HQ.out];rfl
    ·have hn2:(n:Int) > hi:=by omega
     clear hp hb;go_wp2_with (go_at_call 113;refine (big_calls w0 _ g A c b l HI.out HS.out).mono ?_;rintro e w1 ⟨hk,hb,hm⟩;simp only[hq] at hm;obtain ⟨rfl,hs1⟩:=hm;have HK:=Aside0.mk (And.intro hk (And.intro hb hs1));clear hk hb hs1)
     refine ⟨rfl,HK.out.1,HK.out.2.1,?_⟩;rw[HQ.out];rfl
theorem signP_bad {l:List Int} {n:Nat} (h:rawP l = .bad n):signP l = .bad n:=by unfold signP;rw[h]
theorem signP_ok {l r:List Int} {n:Nat} (h:rawP l = .ok n r):signP l = .ok (unsign n) r:=by unfold signP;rw[h]
theorem signed_calls (w0 w:World) (g:Nat) (A:Option Addr) (c:Nat) (b l:List Int) (hi_:In w0 A c b) (h:RS w0 w g A c b l):
  Calls Try.prog 87 #[.pointer (some ⟨g,0,none⟩)] w fun e w'=>Left w0 w g A c b (fun x:Int => .int .i64 x) (signP l) e w':=by
 have HI:=Aside0.mk hi_;have HS:=Aside0.mk h;clear hi_ h;go_enter Try.func87,Try.ntmps87
 rcases hp:rawP l with n|⟨n,r⟩
 ·have hq:=bigP_bad hp;have HQ:Aside0 (signP l = .bad n):=⟨signP_bad hp⟩;clear hp;go_wp2_with (go_at_call 113;refine (big_calls w0 _ g A c b l HI.out HS.out).mono ?_;rintro e w1 ⟨hk,hb,hm⟩;simp only[hq,pan] at hm;subst hm;have HK:=Aside0.mk (And.intro hk hb);clear hk hb)
  refine ⟨rfl,HK.out.1,HK.out.2,?_⟩;rw[HQ.out];rfl
 ·have hq:=bigP_ok hp;have hn:n<18446744073709551616:=(rawP_codec.one l n r (HS.out.isB HI.out.isB) hp).1;have HQ:Aside0 (signP l = .ok (unsign n) r):=⟨signP_ok hp⟩;clear hp;go_wp2_with (go_at_call 113;refine (big_calls w0 _ g A c b l HI.out HS.out).mono ?_;rintro e w1 ⟨hk,hb,hm⟩;simp only[hq] at hm;obtain ⟨rfl,hs1⟩:=hm;have HK:=Aside0.mk (And.intro hk (And.intro hb hs1));clear hk hb hs1)
  go_ret
  refine ⟨HK.out.1,HK.out.2.1,?_⟩;rw[HQ.out];refine ⟨?_,HK.out.2.2⟩
  show Ending.returned (Value.int .i64 (bits BinOp.xor IntKind.i64 ((n:Int) / 2) (wrap64 (-wrap64 (bits BinOp.and IntKind.u64 (n:Int) 1)))))=_
  rw[sign_read n hn]
def LeftB (w0 w : World) (g : Nat) (A : Option Addr) (c : Nat) (b l : List Int) (r : R (List Int)) (e : Ending) (w1 : World) : Prop :=
  Kb g w w1 ∧ Below w0.heap.size w0 w1 ∧ match r with
    | .bad k=>e=pan ((b.length:Int) - k)
    | .ok x r=>(∃ A1 c1,e = .returned (.tuple #[.slice A1 x.length c1,.int .i64 (pl b l)])∧x.length≤c1∧Kd.C (Kd.int .u8) w0 A1 x.length x)∧RS w0 w1 g A c b r
theorem inf8f:Try.prog.info? 5=some (Try.prog.info? 5).get! := by kernel_rfl
theorem inf8s:((Try.prog.info? 5).get!).size=1:=by kernel_rfl
theorem bytes_calls (w0 w : World) (g : Nat) (A : Option Addr) (c : Nat) (b l : List Int) (n : Nat) (hn : n ≤ 1000000) (hi_ : In w0 A c b) (h : RS w0 w g A c b l) :
    Calls Try.prog 81 #[.pointer (some ⟨g,0,none⟩),.int .i64 (n:Int)] w fun e w'=>LeftB w0 w g A c b l (takeP n l) e w':=by
  have HI:=Aside0.mk hi_;have HS:=Aside0.mk h;have hnI:(n:Int)≤1000000:=by omega
  have hbl:(b.length:Int)≤9223372036854775807:=by have:=hi_.len;omega
  have hle:=h.le;have hpl0:0≤pl b l∧pl b l≤(b.length:Int):=by unfold pl;omega
  have hpl1:(b.length:Int) - pl b l=(l.length:Int):=by unfold pl;omega
  clear hi_ h;obtain ⟨j,hj⟩:∃ j,j=pl b l:=⟨_,rfl⟩;rw[←hj] at hpl0 hpl1;have kz0:w.cell? ⟨g,0,none⟩=some (.slice A b.length c):=(blk_cell HS.out.blk 0).trans rfl;have kz1:w.cell? ⟨g,1,none⟩=some (.int .i64 j):=(blk_cell HS.out.blk 1).trans (by rw[hj];rfl);have hf1:=frozen_of_row w g 1 _ _ HS.out.blk;have HJ:=Aside0.mk hj;clear hj;have hw:wrap64 ((b.length:Int) - j)=(l.length:Int):=by rw[hpl1];unfold wrap64;omega
  go_enter Try.func81,Try.ntmps81
  by_cases hs:l.length<n
  ·have HQ:Aside0 (takeP n l = .bad 0):=⟨by unfold takeP;rw[if_pos hs]⟩;have hlt:(l.length:Int)<(n:Int):=by omega
   go_wp2_with fail
   refine ⟨rfl,Kb.refl _ _,HS.out.bel,?_⟩;rw[HQ.out];simp[pan]
  ·have HQ:Aside0 (takeP n l = .ok (l.take n) (l.drop n)):=⟨by unfold takeP;rw[if_neg hs]⟩;have hlt:¬((l.length:Int)<(n:Int)):=by omega
   have hjn:wrap64 (j+(n:Int))=j+(n:Int):=by unfold wrap64;omega
   have HW:Aside0 (∀ nd,RS w0 ((w.setCell ⟨g,1,none⟩ (.int .i64 (j+(n:Int)))).drewN nd) g A c b (l.drop n)∧Kb g w ((w.setCell ⟨g,1,none⟩ (.int .i64 (j+(n:Int)))).drewN nd)):=⟨fun nd=>by
    have h1 : RS w0 (w.setCell ⟨g, 1, none⟩ (.int .i64 (j + (n : Int)))) g A c b (l.drop n) := HS.out.put _ (by rw [HJ.out]; unfold pl; rw [List.length_drop]; omega) (by
      obtain ⟨pre,hp⟩:=HS.out.suf;exact ⟨pre++l.take n,by rw[hp,List.append_assoc,List.take_append_drop]⟩)
    have hb2:=pw_below_drewN (Below.refl (w.setCell ⟨g,1,none⟩ (.int .i64 (j+(n:Int)))).heap.size (w.setCell ⟨g,1,none⟩ (.int .i64 (j+(n:Int))))) nd;exact ⟨h1.below hb2,(Kb.set g 1 w _).trans (Kb.below hb2)⟩⟩
   have hcut:=cut_mid (P:=Try.prog) 36 5 .i64 .i64 Try.underlying36 inf8f 1 inf8s A b.length c j (j+(n:Int)) hpl0.1 (by omega) (by omega) HI.out.cap
   have HCUT : Aside0 ((l.take n).length = (j + (n : Int)).toNat - j.toNat ∧ (l.take n).length ≤ c - j.toNat ∧ Kd.C (Kd.int .u8) w0 (if c = j.toNat then A else A.map (·.add (j.toNat * 1))) (l.take n).length (l.take n)) := ⟨by
     obtain ⟨pre,hp⟩:=HS.out.suf;have hpj:j.toNat=pre.length:=by rw[HJ.out];unfold pl;rw[hp,List.length_append];omega
     have hx:(b.take (j.toNat+n)).drop j.toNat=l.take n:=by
      rw[hpj,hp,List.take_append,List.drop_append];simp
     have hm:=Kd.C_mid (k:=Kd.int .u8) (lo:=j.toNat) (hi:=j.toNat+n) HI.out.row (by omega) (by omega) HI.out.cap;rw[hx] at hm;have hl3:(l.take n).length=n:=by rw[List.length_take];omega
     refine ⟨by rw[hl3];omega,by rw[hl3];have:=HI.out.cap;omega,hm⟩⟩
   obtain ⟨A1,hA1⟩:∃ A1,A1=(if c=j.toNat then A else A.map (·.add (j.toNat * 1))):=⟨_,rfl⟩;rw[←hA1] at hcut HCUT;obtain ⟨n1,hn1⟩:∃ n1,n1=(j+(n:Int)).toNat - j.toNat:=⟨_,rfl⟩;rw[←hn1] at hcut HCUT;obtain ⟨c1,hc1⟩:∃ c1,c1=c - j.toNat:=⟨_,rfl⟩;rw[←hc1] at hcut HCUT;clear hA1 hn1 hc1;go_wp2_with fail
   go_quiet (fail)
   go_wp2_with fail
   go_ret2
   refine ⟨(HW.out _).2,(HW.out _).1.bel,?_⟩;rw[HQ.out];refine ⟨⟨A1,c1,?_,HCUT.out.2.1,HCUT.out.2.2⟩,(HW.out _).1⟩;rw[HCUT.out.1,←HJ.out];rfl
end Go.Proofs.Ytpgdmmjbhjbbhaa.Rd
end
section
namespace Go.Proofs.Ytpgdmmjbhjbbhaa.Rd
open Go Go.RowKit P Sp Vd Wr YtpgdmmjbhjbbhaaW.PrintWords YtpgdmmjbhjbbhaaW.PrintLast YtpgdmmjbhjbbhaaW.PrintMore
attribute [local go_sem] Go.Proofs.Ytpgdmmjbhjbbhaa.StrLe.leq_str Go.Proofs.Ytpgdmmjbhjbbhaa.StrLe.gtr_str
theorem nameP_bad {a:ByteArray} {l:List Int} {n:Nat} (h:numP 1 16 l = .bad n):nameP a l = .bad n:=by unfold nameP;rw[bnd_bad h]
theorem nameP_next {a:ByteArray} {l r:List Int} {n:Int} (h:numP 1 16 l = .ok n r):nameP a l=nameIn a n.toNat r:=by unfold nameP;rw[bnd_ok h]
theorem nameIn_bad {a:ByteArray} {l:List Int} {n k:Nat} (h:takeP n l = .bad k):nameIn a n l = .bad k:=by unfold nameIn;rw[h]
theorem nameIn_ok {a:ByteArray} {l x r:List Int} {n:Nat} (h:takeP n l = .ok x r) (hv:nameOk x∧above a (strOfNums x)):nameIn a n l = .ok (strOfNums x) r:=by unfold nameIn;rw[h];exact if_pos (dcd_pos hv)
theorem nameIn_no {a:ByteArray} {l x r:List Int} {n:Nat} (h:takeP n l = .ok x r) (hv:¬(nameOk x∧above a (strOfNums x))):nameIn a n l = .bad l.length:=by unfold nameIn;rw[h];exact if_neg (by rw[dcd_neg hv];decide)
theorem takeP_isB {n:Nat} {l x r:List Int} (h:takeP n l = .ok x r) (hl:IsB l):IsB x:=((takeP_codec n).one l x r hl h).1.2
theorem name_calls (w0 w : World) (g : Nat) (A : Option Addr) (c : Nat) (b l : List Int) (a : ByteArray) (hi_ : In w0 A c b) (h : RS w0 w g A c b l) :
    Calls Try.prog 97 #[.pointer (some ⟨g,0,none⟩),.string a] w fun e w'=>Left w0 w g A c b (fun s:ByteArray => .string s) (nameP a l) e w':=by
  have HI:=Aside0.mk hi_;have HS:=Aside0.mk h;clear hi_ h;go_enter Try.func97,Try.ntmps97
  rcases hp:numP 1 16 l with n|⟨n,r⟩
  ·have HQ:Aside0 (nameP a l = .bad n):=⟨nameP_bad hp⟩;go_wp2_with (go_at_call 80;refine (num_calls w0 _ g A c b l 1 16 (by decide) (by decide) (by decide) HI.out HS.out).mono ?_;rintro e w1 ⟨hk,hb,hm⟩;simp only[hp,pan] at hm;subst hm;have HK:=Aside0.mk (And.intro hk hb);clear hk hb)
   refine ⟨rfl,HK.out.1,HK.out.2,?_⟩;rw[HQ.out];rfl
  · have hc := (numP_codec 1 16 (by decide) (by decide)).one l n r (HS.out.isB HI.out.isB) hp
    have HN:Aside0 (nameP a l=nameIn a n.toNat r):=⟨nameP_next hp⟩;obtain ⟨m,rfl⟩:∃ m:Nat,n=(m:Int):=⟨n.toNat,by omega⟩;rw[Int.toNat_natCast] at HN;have HM:Aside0 (m≤1000000):=⟨by omega⟩;have HBR:Aside0 (IsB r):=⟨by have:=HS.out.isB HI.out.isB;rw[hc.2] at this;exact (IsB.append.mp this).2⟩;clear hc;rcases ht:takeP m r with k|⟨x,r2⟩
    ·have HQ:Aside0 (nameP a l = .bad k):=⟨by rw[HN.out];exact nameIn_bad ht⟩
     go_wp2_with (first
      | (go_at_call 80;refine (num_calls w0 _ g A c b l 1 16 (by decide) (by decide) (by decide) HI.out HS.out).mono ?_;rintro e w1 ⟨hk,hb,hm⟩;simp only[hp] at hm;obtain ⟨rfl,hs1⟩:=hm;have HK:=Aside0.mk (And.intro hk (And.intro hb hs1));clear hk hb hs1)
      | (go_at_call 81;refine (bytes_calls w0 _ g A c b r m HM.out HI.out HK.out.2.2).mono ?_;rintro e w2 ⟨hk,hb,hm⟩;simp only[ht,pan] at hm;subst hm;have HK2:=Aside0.mk (And.intro (HK.out.1.trans hk) hb);clear hk hb))
     refine ⟨rfl,HK2.out.1,HK2.out.2,?_⟩;rw[HQ.out];rfl
    ·have hbx:=takeP_isB ht HBR.out;obtain ⟨s,hs⟩:∃ s,s=strOfNums x:=⟨_,rfl⟩;have hnb:nB s=dcd (nameOk x):=by unfold nB;rw[hs,bytesOf_strOf hbx]
     have HSX:=Aside0.mk hs;clear hbx;by_cases hv:nameOk x∧above a s
     ·have HQ:Aside0 (nameP a l = .ok s r2):=⟨by rw[HN.out,hs];exact nameIn_ok ht (by rw[←hs];exact hv)⟩;have hn1:nB s=true:=by rw[hnb];exact dcd_pos hv.1
      have hab:Go.Op.bytesLess a.toList s.toList=true:=hv.2;clear hv hnb hs
      go_wp2_with (first
       | (go_at_call 80;refine (num_calls w0 _ g A c b l 1 16 (by decide) (by decide) (by decide) HI.out HS.out).mono ?_;rintro e w1 ⟨hk,hb,hm⟩;simp only[hp] at hm;obtain ⟨rfl,hs1⟩:=hm;have HK:=Aside0.mk (And.intro hk (And.intro hb hs1));clear hk hb hs1)
       | (go_at_call 81;refine (bytes_calls w0 _ g A c b r m HM.out HI.out HK.out.2.2).mono ?_;rintro e w2 ⟨hk,hb,hm⟩;simp only[ht] at hm;obtain ⟨⟨A1,c1,rfl,hc1,hC⟩,hs2⟩:=hm;have hcv:=Kd.C_string (P:=Try.prog) (A:=A1) (c:=c1) Try.underlying36 Try.underlying5 Try.underlying9 (Kd.C_below hC hb);rw[←HSX.out] at hcv;have HK2:=Aside0.mk (And.intro (HK.out.1.trans hk) (And.intro hb hs2));clear hk hb hs2 hC hc1)
       | (go_at_call 65;refine (named_calls _ s).mono ?_;rintro e w3 ⟨rfl,hb⟩;rw[hn1];have HK3:=Aside0.mk (And.intro (HK2.out.1.trans (Kb.below hb)) (And.intro (HK2.out.2.1.trans (hb.mono HK2.out.2.1.size)) (HK2.out.2.2.below hb)));clear hb hcv))
      go_ret
      refine ⟨HK3.out.1,HK3.out.2.1,?_⟩;rw[HQ.out];exact ⟨rfl,HK3.out.2.2⟩
     ·have HQ:Aside0 (nameP a l = .bad r.length):=⟨by rw[HN.out];exact nameIn_no ht (by rw[←hs];exact hv)⟩;by_cases hn:nameOk x
      ·have hn1:nB s=true:=by rw[hnb];exact dcd_pos hn
       have hab:Go.Op.bytesLess a.toList s.toList=false:=by
        cases hh:Go.Op.bytesLess a.toList s.toList with
        | false=>rfl
        | true=>exact absurd ⟨hn,hh⟩ hv
       clear hv hnb hs hn
       go_wp2_with (first
        | (go_at_call 80;refine (num_calls w0 _ g A c b l 1 16 (by decide) (by decide) (by decide) HI.out HS.out).mono ?_;rintro e w1 ⟨hk,hb,hm⟩;simp only[hp] at hm;obtain ⟨rfl,hs1⟩:=hm;have HK:=Aside0.mk (And.intro hk (And.intro hb hs1));clear hk hb hs1)
        | (go_at_call 81;refine (bytes_calls w0 _ g A c b r m HM.out HI.out HK.out.2.2).mono ?_;rintro e w2 ⟨hk,hb,hm⟩;simp only[ht] at hm;obtain ⟨⟨A1,c1,rfl,hc1,hC⟩,hs2⟩:=hm;have hcv:=Kd.C_string (P:=Try.prog) (A:=A1) (c:=c1) Try.underlying36 Try.underlying5 Try.underlying9 (Kd.C_below hC hb);rw[←HSX.out] at hcv;have HK2:=Aside0.mk (And.intro (HK.out.1.trans hk) (And.intro hb hs2));clear hk hb hs2 hC hc1)
        | (go_at_call 65;refine (named_calls _ s).mono ?_;rintro e w3 ⟨rfl,hb⟩;rw[hn1];have HK3:=Aside0.mk (And.intro (HK2.out.1.trans (Kb.below hb)) (HK2.out.2.1.trans (hb.mono HK2.out.2.1.size)));clear hb hcv))
       refine ⟨rfl,HK3.out.1,HK3.out.2,?_⟩;rw[HQ.out];rfl
      ·have hn1:nB s=false:=by rw[hnb];exact dcd_neg hn
       clear hv hnb hs hn
       go_wp2_with (first
        | (go_at_call 80;refine (num_calls w0 _ g A c b l 1 16 (by decide) (by decide) (by decide) HI.out HS.out).mono ?_;rintro e w1 ⟨hk,hb,hm⟩;simp only[hp] at hm;obtain ⟨rfl,hs1⟩:=hm;have HK:=Aside0.mk (And.intro hk (And.intro hb hs1));clear hk hb hs1)
        | (go_at_call 81;refine (bytes_calls w0 _ g A c b r m HM.out HI.out HK.out.2.2).mono ?_;rintro e w2 ⟨hk,hb,hm⟩;simp only[ht] at hm;obtain ⟨⟨A1,c1,rfl,hc1,hC⟩,hs2⟩:=hm;have hcv:=Kd.C_string (P:=Try.prog) (A:=A1) (c:=c1) Try.underlying36 Try.underlying5 Try.underlying9 (Kd.C_below hC hb);rw[←HSX.out] at hcv;have HK2:=Aside0.mk (And.intro (HK.out.1.trans hk) (And.intro hb hs2));clear hk hb hs2 hC hc1)
        | (go_at_call 65;refine (named_calls _ s).mono ?_;rintro e w3 ⟨rfl,hb⟩;rw[hn1];have HK3:=Aside0.mk (And.intro (HK2.out.1.trans (Kb.below hb)) (HK2.out.2.1.trans (hb.mono HK2.out.2.1.size)));clear hb hcv))
       refine ⟨rfl,HK3.out.1,HK3.out.2,?_⟩;rw[HQ.out];rfl
end Go.Proofs.Ytpgdmmjbhjbbhaa.Rd
end
