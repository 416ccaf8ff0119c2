/- texts that the proof needs, laid together by a program of this session. -/
import Derived.Deep.AppendLies
import Derived.Laws.Bits64
import Derived.Laws.BitsAllLaws
import Derived.Deep.RegionLaw
import Derived.Deep.Cut
import Derived.Laws.Bits64b
import Derived.Test.YtpgdmmjbhjbbhaaKWireAll6
set_option maxRecDepth 100000
set_option maxHeartbeats 16000000
set_option linter.unusedVariables false
set_option linter.unusedSimpArgs false
section
namespace Go.Proofs.Ytpgdmmjbhjbbhaa.Vd
open Go Go.RowKit P Sp YtpgdmmjbhjbbhaaW.PrintWords YtpgdmmjbhjbbhaaW.PrintLast YtpgdmmjbhjbbhaaW.PrintMore
def MVc (m:Msg) (A:Option Addr) (c:Nat):Array Value := #[.int .i64 m.kind,.string m.name,.int .i64 m.cap,.int .i64 m.recaps,.int .i64 m.epoch.f0,.int .i64 m.epoch.f1,.int .i64 m.over.f0,.int .i64 m.over.f1,.int .i64 m.rights.f0,.int .i64 m.rights.f1,.int .i64 m.held,.int .i64 m.call.f0,.int .i64 m.call.f1,.int .i64 m.op.kind,.string m.op.name,.int .i64 m.op.a,.int .i64 m.op.b,.int .i64 m.err,.int .i64 m.value,.slice A m.views.length c]
def MV (m:Msg) (A:Option Addr) (c:Nat):Value := .agg (MVc m A c)
theorem nil_iff (s:ByteArray):s.toList=[] ↔ s=eB:=by
 rw[ByteArray.toList_eq];constructor
 ·intro h;cases s with
  | mk d=>
   have h2:d = #[]:=Array.toList_eq_nil_iff.mp h;rw[h2];rfl
 ·rintro rfl;rfl
theorem nB_iff (s:ByteArray):nB s=true ↔ nameV eB s:=dcd_iff.trans nameV_nil.symm
theorem bB_iff (n lo hi:Int):bB n lo hi=true ↔ lo≤n∧n≤hi:=dcd_iff
theorem oB_iff (o:Sp.Op) (h:isI o.a∧isI o.b):oB o.kind o.name=true ↔ opV o:=by
 unfold oB opV;rw[Bool.and_eq_true,bB_iff,nB_iff];exact ⟨fun k=>⟨k.1,k.2,h⟩,fun k=>⟨k.1,k.2.1⟩⟩
theorem em_iff (a1:ByteArray) (a2 a3 a4 a5 a6 a7 a8 a9 a10 a11 a12 a13:Int) (a14:ByteArray) (a15 a16 a17 a18:Int) (l:List S87):emB a1 a2 a3 a4 a5 a6 a7 a8 a9 a10 a11 a12 a13 a14 a15 a16 a17 a18 l=true ↔
  l=[]∧a1=eB∧a2=0∧a3=0∧a4=0∧a5=0∧a6=0∧a7=0∧a8=0∧a9=0∧a10=0∧a11=0∧a12=0∧a13=0∧a14=eB∧a15=0∧a16=0∧a17=0∧a18=0:=by
 unfold emB;simp only[Bool.and_eq_true,decide_eq_true_eq,nil_iff,and_assoc];constructor
 ·rintro ⟨h,r⟩;exact ⟨List.length_eq_zero_iff.mp (by omega),r⟩
 ·rintro ⟨rfl,r⟩;exact ⟨rfl,r⟩
theorem capV_iff (a b:Int):capV ⟨a,b⟩ ↔ (1≤a∧a≤1099511627776)∧0≤b∧b≤1099511627776:=Iff.rfl
theorem bool_dcd {b:Bool} {p:Prop} (h:b=true ↔ p):b=dcd p:=by
 cases hb:b with
 | false=>exact (dcd_neg (fun hp=>by rw[h.mpr hp] at hb;cases hb)).symm
 | true=>exact (dcd_pos (h.mp hb)).symm
theorem eB_mk:(⟨#[]⟩:ByteArray)=eB:=rfl
theorem vp1_iff (m:Msg) (hk:m.kind=1) (h:isI m.op.a∧isI m.op.b):vp1 m=true ↔ restV m:=by
 obtain ⟨kind,name,cap,recaps,⟨e0,e1⟩,⟨o0,o1⟩,⟨r0,r1⟩,held,⟨c0,c1⟩,⟨ok,on,oa,ob⟩,err,value,views⟩:=m;simp only at hk h;subst hk;have ho:=oB_iff ⟨ok,on,oa,ob⟩ h;simp only at ho;unfold vp1 restV;simp only[Bool.and_eq_true,em_iff,dcd_iff,nB_iff,bB_iff,ho,capOf,optV,hasEp,hasRt,mAsk,mDig,mTold,mOf,zMsg,zOp,z25,Msg.mk.injEq,S25.mk.injEq,Sp.Op.mk.injEq,eB_mk,capV_iff,big];simp;exact ⟨fun hh=>by simp[hh],fun hh=>by simp[hh]⟩
theorem vp2_iff (m:Msg) (hk:m.kind=2) (h:isI m.op.a∧isI m.op.b):vp2 m=true ↔ restV m:=by
 obtain ⟨kind,name,cap,recaps,⟨e0,e1⟩,⟨o0,o1⟩,⟨r0,r1⟩,held,⟨c0,c1⟩,⟨ok,on,oa,ob⟩,err,value,views⟩:=m;simp only at hk h;subst hk;have ho:=oB_iff ⟨ok,on,oa,ob⟩ h;simp only at ho;unfold vp2 restV;simp only[Bool.and_eq_true,em_iff,dcd_iff,nB_iff,bB_iff,ho,capOf,optV,hasEp,hasRt,mAsk,mDig,mTold,mOf,zMsg,zOp,z25,Msg.mk.injEq,S25.mk.injEq,Sp.Op.mk.injEq,eB_mk,capV_iff,big];by_cases hc:capped err<;>simp[hc,dcd_iff,Bool.and_eq_true,em_iff,nB_iff,bB_iff,eB_mk,dcd_pos,dcd_neg,capV_iff,big];all_goals exact ⟨fun hh=>by simp[hh],fun hh=>by simp[hh]⟩
theorem vp3_iff (m:Msg) (hk:m.kind=3) (h:isI m.op.a∧isI m.op.b):vp3 m=true ↔ restV m:=by
 obtain ⟨kind,name,cap,recaps,⟨e0,e1⟩,⟨o0,o1⟩,⟨r0,r1⟩,held,⟨c0,c1⟩,⟨ok,on,oa,ob⟩,err,value,views⟩:=m;simp only at hk h;subst hk;have ho:=oB_iff ⟨ok,on,oa,ob⟩ h;simp only at ho;unfold vp3 restV;simp only[Bool.and_eq_true,em_iff,dcd_iff,nB_iff,bB_iff,ho,capOf,optV,hasEp,hasRt,mAsk,mDig,mTold,mOf,zMsg,zOp,z25,Msg.mk.injEq,S25.mk.injEq,Sp.Op.mk.injEq,eB_mk,capV_iff,big];simp;exact ⟨fun hh=>by simp[hh],fun hh=>by simp[hh]⟩
theorem vp4_iff (m:Msg) (hk:m.kind=4) (h:isI m.op.a∧isI m.op.b):vp4 m=true ↔ restV m:=by
 obtain ⟨kind,name,cap,recaps,⟨e0,e1⟩,⟨o0,o1⟩,⟨r0,r1⟩,held,⟨c0,c1⟩,⟨ok,on,oa,ob⟩,err,value,views⟩:=m;simp only at hk h;subst hk;have ho:=oB_iff ⟨ok,on,oa,ob⟩ h;simp only at ho;unfold vp4 restV;simp only[Bool.and_eq_true,em_iff,dcd_iff,nB_iff,bB_iff,ho,capOf,optV,hasEp,hasRt,mAsk,mDig,mTold,mOf,zMsg,zOp,z25,Msg.mk.injEq,S25.mk.injEq,Sp.Op.mk.injEq,eB_mk,capV_iff,big];simp;exact ⟨fun hh=>by simp[hh],fun hh=>by simp[hh]⟩
theorem vp5_iff (m:Msg) (hk:m.kind=5) (h:isI m.op.a∧isI m.op.b):vp5 m=true ↔ restV m:=by
 obtain ⟨kind,name,cap,recaps,⟨e0,e1⟩,⟨o0,o1⟩,⟨r0,r1⟩,held,⟨c0,c1⟩,⟨ok,on,oa,ob⟩,err,value,views⟩:=m;simp only at hk h;subst hk;have ho:=oB_iff ⟨ok,on,oa,ob⟩ h;simp only at ho;unfold vp5 restV;simp only[Bool.and_eq_true,em_iff,dcd_iff,nB_iff,bB_iff,ho,capOf,optV,hasEp,hasRt,mAsk,mDig,mTold,mOf,zMsg,zOp,z25,Msg.mk.injEq,S25.mk.injEq,Sp.Op.mk.injEq,eB_mk,capV_iff,big];simp;exact ⟨fun hh=>by simp[hh],fun hh=>by simp[hh]⟩
theorem vp6_iff (m:Msg) (hk:m.kind=6) (h:isI m.op.a∧isI m.op.b):vp6 m=true ↔ restV m:=by
 obtain ⟨kind,name,cap,recaps,⟨e0,e1⟩,⟨o0,o1⟩,⟨r0,r1⟩,held,⟨c0,c1⟩,⟨ok,on,oa,ob⟩,err,value,views⟩:=m;simp only at hk h;subst hk;have ho:=oB_iff ⟨ok,on,oa,ob⟩ h;simp only at ho;unfold vp6 restV;simp only[Bool.and_eq_true,em_iff,dcd_iff,nB_iff,bB_iff,ho,capOf,optV,hasEp,hasRt,mAsk,mDig,mTold,mOf,zMsg,zOp,z25,Msg.mk.injEq,S25.mk.injEq,Sp.Op.mk.injEq,eB_mk,capV_iff,big];simp;exact ⟨fun hh=>by simp[hh],fun hh=>by simp[hh]⟩
theorem vp7_iff (m:Msg) (hk:m.kind=7) (h:isI m.op.a∧isI m.op.b):vp7 m=true ↔ restV m:=by
 obtain ⟨kind,name,cap,recaps,⟨e0,e1⟩,⟨o0,o1⟩,⟨r0,r1⟩,held,⟨c0,c1⟩,⟨ok,on,oa,ob⟩,err,value,views⟩:=m;simp only at hk h;subst hk;have ho:=oB_iff ⟨ok,on,oa,ob⟩ h;simp only at ho;unfold vp7 restV;simp only[Bool.and_eq_true,em_iff,dcd_iff,nB_iff,bB_iff,ho,capOf,optV,hasEp,hasRt,mAsk,mDig,mTold,mOf,zMsg,zOp,z25,Msg.mk.injEq,S25.mk.injEq,Sp.Op.mk.injEq,eB_mk,capV_iff,big];simp;exact ⟨fun hh=>by simp[hh],fun hh=>by simp[hh]⟩
theorem vp8_iff (m:Msg) (hk:m.kind=8) (h:isI m.op.a∧isI m.op.b):vp8 m=true ↔ restV m:=by
 obtain ⟨kind,name,cap,recaps,⟨e0,e1⟩,⟨o0,o1⟩,⟨r0,r1⟩,held,⟨c0,c1⟩,⟨ok,on,oa,ob⟩,err,value,views⟩:=m;simp only at hk h;subst hk;have ho:=oB_iff ⟨ok,on,oa,ob⟩ h;simp only at ho;unfold vp8 restV;simp only[Bool.and_eq_true,em_iff,dcd_iff,nB_iff,bB_iff,ho,capOf,optV,hasEp,hasRt,mAsk,mDig,mTold,mOf,zMsg,zOp,z25,Msg.mk.injEq,S25.mk.injEq,Sp.Op.mk.injEq,eB_mk,capV_iff,big];simp;exact ⟨fun hh=>by simp[hh],fun hh=>by simp[hh]⟩
theorem vp9_iff (m:Msg) (hk:m.kind=9) (h:isI m.op.a∧isI m.op.b):vp9 m=true ↔ restV m:=by
 obtain ⟨kind,name,cap,recaps,⟨e0,e1⟩,⟨o0,o1⟩,⟨r0,r1⟩,held,⟨c0,c1⟩,⟨ok,on,oa,ob⟩,err,value,views⟩:=m;simp only at hk h;subst hk;have ho:=oB_iff ⟨ok,on,oa,ob⟩ h;simp only at ho;unfold vp9 restV;simp only[Bool.and_eq_true,em_iff,dcd_iff,nB_iff,bB_iff,ho,capOf,optV,hasEp,hasRt,mAsk,mDig,mTold,mOf,zMsg,zOp,z25,Msg.mk.injEq,S25.mk.injEq,Sp.Op.mk.injEq,eB_mk,capV_iff,big];simp;exact ⟨fun hh=>by simp[hh],fun hh=>by simp[hh]⟩
theorem vp10_iff (m:Msg) (hk:m.kind=10) (h:isI m.op.a∧isI m.op.b):vp10 m=true ↔ restV m:=by
 obtain ⟨kind,name,cap,recaps,⟨e0,e1⟩,⟨o0,o1⟩,⟨r0,r1⟩,held,⟨c0,c1⟩,⟨ok,on,oa,ob⟩,err,value,views⟩:=m;simp only at hk h;subst hk;have ho:=oB_iff ⟨ok,on,oa,ob⟩ h;simp only at ho;unfold vp10 restV;simp only[Bool.and_eq_true,em_iff,dcd_iff,nB_iff,bB_iff,ho,capOf,optV,hasEp,hasRt,mAsk,mDig,mTold,mOf,zMsg,zOp,z25,Msg.mk.injEq,S25.mk.injEq,Sp.Op.mk.injEq,eB_mk,capV_iff,big];simp;intro h1 h2 h3 h4;exact ⟨fun hh=>by simp[hh],fun hh=>by simp[hh]⟩
theorem valid0_calls (m:Msg) (A:Option Addr) (c:Nat) (w:World) (hk:¬(1≤m.kind∧m.kind≤10)):
  Calls Try.prog 21 #[MV m A c] w fun e w'=>e = .returned (.bool false)∧Below w.heap.size w w':=by
 unfold MV;obtain ⟨wa,hwa⟩:∃ wa,wa=w.alloc (.cells (MVc m A c) 33 (0,0)):=⟨_,rfl⟩;have HWA:=Aside0.mk hwa;have HB:Aside0 (Below w.heap.size w wa):=⟨by rw[hwa];exact (Below.refl _ _).alloc (Nat.le_refl _) _⟩;have BK:Aside0 (wa.heap[w.heap.size]?=some (.cells (MVc m A c) 33 (0,0))):=⟨by rw[hwa];exact heap_alloc_new w _⟩;clear hwa;have hcz_0:wa.cell? ⟨w.heap.size,0,none⟩=some (.int .i64 m.kind):=(blk_cell BK.out 0).trans rfl;have hk1:(m.kind == 1)=false:=beq_eq_false_iff_ne.mpr (fun e=>hk ⟨by omega,by omega⟩);have hk2:(m.kind == 2)=false:=beq_eq_false_iff_ne.mpr (fun e=>hk ⟨by omega,by omega⟩);have hk3:(m.kind == 3)=false:=beq_eq_false_iff_ne.mpr (fun e=>hk ⟨by omega,by omega⟩);have hk4:(m.kind == 4)=false:=beq_eq_false_iff_ne.mpr (fun e=>hk ⟨by omega,by omega⟩);have hk5:(m.kind == 5)=false:=beq_eq_false_iff_ne.mpr (fun e=>hk ⟨by omega,by omega⟩);have hk6:(m.kind == 6)=false:=beq_eq_false_iff_ne.mpr (fun e=>hk ⟨by omega,by omega⟩);have hk7:(m.kind == 7)=false:=beq_eq_false_iff_ne.mpr (fun e=>hk ⟨by omega,by omega⟩);have hk8:(m.kind == 8)=false:=beq_eq_false_iff_ne.mpr (fun e=>hk ⟨by omega,by omega⟩);have hk9:(m.kind == 9)=false:=beq_eq_false_iff_ne.mpr (fun e=>hk ⟨by omega,by omega⟩);have hk10:(m.kind == 10)=false:=beq_eq_false_iff_ne.mpr (fun e=>hk ⟨by omega,by omega⟩);have hu33:=Try.underlying33;go_enter Try.func21,Try.ntmps21
 go_upto_region 1 with fail
 rw[←HWA.out];go_wp2_with fail
 go_ret
 exact ⟨rfl,HB.out⟩
theorem valid_calls (m:Msg) (h:isI m.op.a∧isI m.op.b) (A:Option Addr) (c:Nat) (w:World) (hr:Kd.C k87 w A m.views.length m.views) (hc:m.views.length≤c):
  Calls Try.prog 21 #[MV m A c] w fun e w'=>e = .returned (.bool (dcd (msgV m)))∧Below w.heap.size w w':=by
 by_cases hk:1≤m.kind∧m.kind≤10
 ·have hm:∀ b,(b=true ↔ restV m)→b=dcd (msgV m):=fun b hb=>bool_dcd (hb.trans ⟨fun h=>⟨hk,h⟩,fun h=>h.2⟩);have hs:m.kind=1∨m.kind=2∨m.kind=3∨m.kind=4∨m.kind=5∨m.kind=6∨m.kind=7∨m.kind=8∨m.kind=9∨m.kind=10:=by omega
  unfold MV MVc;rcases hs with h1|h2|h3|h4|h5|h6|h7|h8|h9|h10
  ·rw[h1];exact (valid1_calls m A c w hr hc).mono fun e w' hh=>by obtain ⟨r,rfl,rfl,hb⟩:=hh;exact ⟨by rw[hm _ (vp1_iff m h1 h)],hb⟩
  ·rw[h2];exact (valid2_calls m A c w hr hc).mono fun e w' hh=>by obtain ⟨r,rfl,rfl,hb⟩:=hh;exact ⟨by rw[hm _ (vp2_iff m h2 h)],hb⟩
  ·rw[h3];exact (valid3_calls m A c w hr hc).mono fun e w' hh=>by obtain ⟨r,rfl,rfl,hb⟩:=hh;exact ⟨by rw[hm _ (vp3_iff m h3 h)],hb⟩
  ·rw[h4];exact (valid4_calls m A c w hr hc).mono fun e w' hh=>by obtain ⟨r,rfl,rfl,hb⟩:=hh;exact ⟨by rw[hm _ (vp4_iff m h4 h)],hb⟩
  ·rw[h5];exact (valid5_calls m A c w hr hc).mono fun e w' hh=>by obtain ⟨r,rfl,rfl,hb⟩:=hh;exact ⟨by rw[hm _ (vp5_iff m h5 h)],hb⟩
  ·rw[h6];exact (valid6_calls m A c w hr hc).mono fun e w' hh=>by obtain ⟨r,rfl,rfl,hb⟩:=hh;exact ⟨by rw[hm _ (vp6_iff m h6 h)],hb⟩
  ·rw[h7];exact (valid7_calls m A c w hr hc).mono fun e w' hh=>by obtain ⟨r,rfl,rfl,hb⟩:=hh;exact ⟨by rw[hm _ (vp7_iff m h7 h)],hb⟩
  ·rw[h8];exact (valid8_calls m A c w hr hc).mono fun e w' hh=>by obtain ⟨r,rfl,rfl,hb⟩:=hh;exact ⟨by rw[hm _ (vp8_iff m h8 h)],hb⟩
  ·rw[h9];exact (valid9_calls m A c w hr hc).mono fun e w' hh=>by obtain ⟨r,rfl,rfl,hb⟩:=hh;exact ⟨by rw[hm _ (vp9_iff m h9 h)],hb⟩
  ·rw[h10];exact (valid10_calls m A c w hr hc).mono fun e w' hh=>by obtain ⟨r,rfl,rfl,hb⟩:=hh;exact ⟨by rw[hm _ (vp10_iff m h10 h)],hb⟩
 ·rw[dcd_neg (fun h=>hk h.1)];exact valid0_calls m A c w hk
end Go.Proofs.Ytpgdmmjbhjbbhaa.Vd
end
section
namespace Go.Proofs.Ytpgdmmjbhjbbhaa.Wr
open Go Go.RowKit P Sp YtpgdmmjbhjbbhaaW.PrintWords YtpgdmmjbhjbbhaaW.PrintLast YtpgdmmjbhjbbhaaW.PrintMore
def Stay (w w1:World):Prop:=∀ (k:Nat) (cs:Array Value) (t:TypeId),t≠5→t≠99→w.heap[k]?=some (Obj.cells cs t (0,0))→w1.heap[k]?=some (Obj.cells cs t (0,0))
theorem Stay.refl (w:World):Stay w w:=fun _ _ _ _ _ h=>h
theorem Stay.trans {a b c:World} (h:Stay a b) (k:Stay b c):Stay a c:=fun i cs t h1 h2 hi=>k i cs t h1 h2 (h i cs t h1 h2 hi)
theorem Stay.below {a b:World} (h:Below a.heap.size a b):Stay a b:=fun i cs t _ _ hi=>(h.block i (blk_lt hi)).trans hi
theorem R_sl {α:Type} {d:Kd α} {e base:Nat} {ok:Nat→Prop} {w:World} {v:Value} {xs:List α} (h:d.R e w base ok v xs):∃ A n c,v = .slice A n c:=by
 obtain ⟨A,c,rfl⟩:=Kd.R_slice h;exact ⟨A,_,c,rfl⟩
structure WS (w0 w:World) (g:Nat) (bs:List Int) (v:Value):Prop where
 blk:w.heap[g]?=some (.cells #[v] 99 (0,0))
 ge:w0.heap.size≤g
 row:Kd.R (Kd.int .u8) 5 w w0.heap.size (fun _=>True) v bs
 bel:Below w0.heap.size w0 w
theorem WS.below {w0 w w1:World} {g:Nat} {bs:List Int} {v:Value} (h:WS w0 w g bs v) (hb:Below w.heap.size w w1):WS w0 w1 g bs v:=
 ⟨(hb.block g (blk_lt h.blk)).trans h.blk,h.ge,Kd.R_below h.row hb,h.bel.trans (hb.mono h.bel.size)⟩
theorem WS.store {w0 w w1:World} {g:Nat} {bs cs:List Int} {v v1:Value} (h:WS w0 w g bs v) (hr:Kd.R (Kd.int .u8) 5 w1 w0.heap.size (fun _=>True) v1 cs) (hb:Below w0.heap.size w0 w1) (hg:w.grownBy w1 v.ownBlock):
  WS w0 (w1.setCell ⟨g,0,none⟩ v1) g cs v1∧Stay w (w1.setCell ⟨g,0,none⟩ v1)∧w1.frozen? ⟨g,0,none⟩=false∧w1.cell? ⟨g,0,none⟩=some v:=by
 have hne:some g≠v.ownBlock:=Kd.R_ne h.row h.blk (by decide);have hgl:=blk_lt h.blk;have hb1:w1.heap[g]?=some (.cells #[v] 99 (0,0)):=(hg.block g hgl hne).trans h.blk;have hne1:some g≠v1.ownBlock:=Kd.R_ne hr hb1 (by decide);refine ⟨⟨one_setCell hb1,h.ge,Kd.R_far (Kd.R_reok (ok:=fun k=>some k=v1.ownBlock) rfl hr (fun k hk=>hk.symm)) (fun k hk e=>hne1 (by rw[←hk];exact congrArg some e.symm)) v1 |> fun x=>Kd.R_mono x (fun _ _=>trivial),hb.setCell h.ge v1⟩,fun k c t ht1 ht2 hk=>?_,frozen_of_row w1 g 0 _ _ hb1,by rw[cell_of_row w1 g 0 _ _ (0,0) hb1];rfl⟩;have hkg:k≠g:=fun e=>by rw[e,h.blk] at hk;injection hk with h2;injection h2 with h3 h4;exact absurd h4.symm ht2
 have hkv : some k ≠ v.ownBlock := fun e => by
   exact Kd.R_ne h.row hk ht1.symm e
 exact (Below.heap_setCell w1 ⟨g,0,none⟩ v1 k hkg).trans ((hg.block k (blk_lt hk) hkv).trans hk)
theorem inf8:(Try.prog.info? 5).map (fun i=>(i.zero,i.size,i.bytes))=some (some (.int .u8 0),1,1):=by kernel_rfl
theorem one_row (k:IntKind) (x:Int) (w:World) (b:Nat) (t:TypeId) (h:w.heap[b]?=some (.cells #[.int k x] t (0,0))):Kd.C (Kd.int k) w (some ⟨b,0,none⟩) 1 [x]:=by
 refine Kd.C_of_reads (d:=(0:Int)) (h1:=fun _=>rfl) ⟨rfl,by omega,fun _=>⟨_,rfl,fun j hj=>?_⟩⟩;rw[add_plain,cell_of_row _ b j _ t (0,0) h];obtain rfl:j=0:=by omega
 rfl
theorem or128f:∀ y:Fin 256,bits BinOp.or IntKind.u8 (y.val:Int) 128=((y.val % 128+128:Nat):Int):=by decide +kernel
theorem or128 (m:Nat):bits BinOp.or IntKind.u8 ((m:Int) % 256) 128=((m % 128+128:Nat):Int):=by
 have h:=or128f ⟨m % 256,Nat.mod_lt _ (by decide)⟩;simp only[Int.natCast_emod] at h ⊢;rw[show ((m:Int) % 256)=((m:Int) % ((256:Nat):Int)) from rfl,h];omega
theorem big_calls (w0 w:World) (g:Nat) (bs:List Int) (v:Value) (n:Nat) (hn:n<18446744073709551616) (hS:WS w0 w g bs v) (hb:bs.length+(numB n).length≤1099511627776):
  Calls Try.prog 95 #[.pointer (some ⟨g,0,none⟩),.int .u64 (n:Int)] w fun e w'=>e = .returned (.tuple #[])∧∃ v',WS w0 w' g (bs++numB n) v'∧Stay w w':=by
 have HS:=Aside0.mk hS;have HB:=Aside0.mk hb;have HN:=Aside0.mk hn;clear hS hb hn;go_enter Try.func95,Try.ntmps95
 go_wp2_with fail
 go_loopw [1] (fun v1 wr=>∃ (m:Nat) (cs:List Int) (v:Value),v1 = .int .u64 (m:Int)∧Aside0 (WS w0 wr g cs v∧cs++numB m=bs++numB n∧m<18446744073709551616∧Stay w wr)) (fun v1 _=>(intOf v1).toNat)
 case atStart=>exact ⟨n,bs,v,rfl,⟨HS.out,rfl,HN.out,Stay.refl _⟩⟩
 case round=>
  obtain ⟨m,cs,v,rfl,HR⟩:=hrel;have HL:Aside0 ((cs.length+1) * 1≤140737488355328):=⟨by have:=congrArg List.length HR.out.2.1;rw[List.length_append,List.length_append] at this;have:=HB.out;omega⟩;obtain ⟨A,c,rfl⟩:=Kd.R_slice HR.out.1.row;have hk0:=frozen_of_row wr g 0 _ _ HR.out.1.blk;have hk1:wr.cell? ⟨g,0,none⟩=some (.slice A cs.length c):=by rw[cell_of_row wr g 0 _ _ (0,0) HR.out.1.blk];rfl
  by_cases hlt:m<128
  ·have hc:¬((m:Int) > 127):=by omega
   have HA:Aside0 (WS w0 (wr.alloc (.cells #[.int .u8 (m:Int)] 5 (0,0))) g cs (.slice A cs.length c)):=⟨HR.out.1.below ((Below.refl _ _).alloc (Nat.le_refl _) _)⟩;have HX:Aside0 (Kd.C (Kd.int .u8) (wr.alloc (.cells #[.int .u8 (m:Int)] 5 (0,0))) (some ⟨wr.heap.size,0,none⟩) 1 [(m:Int)]):=⟨one_row .u8 _ _ _ _ (heap_alloc_new wr _)⟩;have HE:Aside0 (cs++[(m:Int)]=bs++numB n):=⟨by rw[←HR.out.2.1,numB_lt hlt]⟩;go_wp2_with (refine Kd.R_append_row (Value.int .u8) (0:Int) (h1:=fun _=>rfl) (w0:=w0) w0.heap.size rfl (.tmp 24) (.tmp 27) 36 5 (.int .u8 0) 1 rfl Try.underlying36 inf8 rfl (by omega) (.slice A cs.length c) cs [(m:Int)] (some ⟨wr.heap.size,0,none⟩) 1 1 (fun _=>True) rfl rfl (fun _ _=>trivial) HA.out.row HX.out HA.out.bel HA.out.bel.size HL.out ?_;intro v1 w1 hR1 hB1 hg1 hat1;obtain ⟨A1,c1,rfl⟩:=Kd.R_slice hR1;have hst:=HA.out.store hR1 hB1 hg1;simp only[List.length_append,List.length_cons,List.length_nil,Nat.zero_add] at hst;have hf:=hst.2.2.1;have hcl:=hst.2.2.2;have HST:=Aside0.mk (And.intro hst.1 hst.2.1);clear hst hR1 hB1 hg1 hat1 hk0 hk1)
   (first|go_end0|((try simp only[Exit.inBlock,Exit.then]);refine bodyPost_ret (results_none rfl _ _ _) rfl ?_))
   rw[←HE.out]
   first|exact ⟨rfl,⟨_,HST.out.1⟩,HR.out.2.2.2.trans ((Stay.below ((Below.refl _ _).alloc (Nat.le_refl _) _)).trans HST.out.2)⟩|exact ⟨⟨_,HST.out.1⟩,HR.out.2.2.2.trans ((Stay.below ((Below.refl _ _).alloc (Nat.le_refl _) _)).trans HST.out.2)⟩|exact ⟨rfl,_,HST.out.1,HR.out.2.2.2.trans ((Stay.below ((Below.refl _ _).alloc (Nat.le_refl _) _)).trans HST.out.2)⟩
  ·have hc:(m:Int) > 127:=by omega
   obtain ⟨x,hx⟩:∃ x:Int,x=((m % 128+128:Nat):Int):=⟨_,rfl⟩;have hbit:bits BinOp.or IntKind.u8 ((m:Int) % 256) 128=x:=by rw[hx];exact or128 m
   have HXX:=Aside0.mk hx;clear hx;have HA:Aside0 (WS w0 (wr.alloc (.cells #[.int .u8 x] 5 (0,0))) g cs (.slice A cs.length c)):=⟨HR.out.1.below ((Below.refl _ _).alloc (Nat.le_refl _) _)⟩;have HX:Aside0 (Kd.C (Kd.int .u8) (wr.alloc (.cells #[.int .u8 x] 5 (0,0))) (some ⟨wr.heap.size,0,none⟩) 1 [x]):=⟨one_row .u8 _ _ _ _ (heap_alloc_new wr _)⟩;have HE:Aside0 ((cs++[x])++numB (m / 128)=bs++numB n):=⟨by rw[←HR.out.2.1,numB_ge hlt,List.append_assoc,HXX.out];rfl⟩;go_wp2_with (refine Kd.R_append_row (Value.int .u8) (0:Int) (h1:=fun _=>rfl) (w0:=w0) w0.heap.size rfl (.tmp 12) (.tmp 16) 36 5 (.int .u8 0) 1 rfl Try.underlying36 inf8 rfl (by omega) (.slice A cs.length c) cs [x] (some ⟨wr.heap.size,0,none⟩) 1 1 (fun _=>True) rfl rfl (fun _ _=>trivial) HA.out.row HX.out HA.out.bel HA.out.bel.size HL.out ?_;intro v1 w1 hR1 hB1 hg1 hat1;obtain ⟨A1,c1,rfl⟩:=Kd.R_slice hR1;have hst:=HA.out.store hR1 hB1 hg1;simp only[List.length_append,List.length_cons,List.length_nil,Nat.zero_add] at hst;have hf:=hst.2.2.1;have hcl:=hst.2.2.2;have HST:=Aside0.mk (And.intro hst.1 hst.2.1);clear hst hR1 hB1 hg1 hat1 hk0 hk1)
   go_roundw
   case rel=>exact ⟨m / 128,_,_,by go_num,⟨HST.out.1,HE.out,by have:=HR.out.2.2.1;omega,HR.out.2.2.2.trans ((Stay.below ((Below.refl _ _).alloc (Nat.le_refl _) _)).trans HST.out.2)⟩⟩
   case measure=>simp only[intOf];first|omega|(go_num;omega)|(simp;omega)
end Go.Proofs.Ytpgdmmjbhjbbhaa.Wr
end
section
namespace Go.Proofs.Ytpgdmmjbhjbbhaa.Sp
open Go Go.RowKit P YtpgdmmjbhjbbhaaW.PrintWords YtpgdmmjbhjbbhaaW.PrintLast YtpgdmmjbhjbbhaaW.PrintMore
theorem xor_ones (x:Nat) (h:x<18446744073709551616):x ^^^ 18446744073709551615=18446744073709551615 - x:=by
 have h1:=congrArg BitVec.toNat (BitVec.xor_allOnes (x:=BitVec.ofNat 64 x));rw[BitVec.toNat_xor,BitVec.toNat_not,BitVec.toNat_allOnes,BitVec.toNat_ofNat,Nat.mod_eq_of_lt h] at h1;exact h1
theorem u64_wrap (n:Int):IntKind.u64.wrap n=n % 18446744073709551616:=by simp[IntKind.wrap,IntKind.bits,IntKind.signed]
theorem sign_bits (n:Int) (h:isI n):bits BinOp.xor IntKind.u64 (IntKind.u64.wrap (IntKind.u64.wrap n * 2)) (IntKind.u64.wrap (n / 9223372036854775808))=((signN n:Nat):Int):=by
 unfold isI at h;rw[u64_wrap,u64_wrap,u64_wrap];unfold signN;by_cases h0:0≤n
 ·rw[if_pos h0];obtain ⟨a,ha⟩:∃ a:Nat,(a:Int)=n % 18446744073709551616 * 2 % 18446744073709551616:=⟨(n % 18446744073709551616 * 2 % 18446744073709551616).toNat,by omega⟩;rw[show n / 9223372036854775808 % 18446744073709551616=((0:Nat):Int) from by omega,←ha,bits_xor_u64_nat a 0 (by omega) (by omega),Nat.xor_zero];omega
 ·rw[if_neg h0];obtain ⟨a,ha⟩:∃ a:Nat,(a:Int)=n % 18446744073709551616 * 2 % 18446744073709551616:=⟨(n % 18446744073709551616 * 2 % 18446744073709551616).toNat,by omega⟩;rw[show n / 9223372036854775808 % 18446744073709551616=((18446744073709551615:Nat):Int) from by omega,←ha,bits_xor_u64_nat a _ (by omega) (by omega),xor_ones a (by omega)];omega
theorem signN_lt (n:Int) (h:isI n):signN n<18446744073709551616:=by unfold isI at h;unfold signN;split<;>omega
end Go.Proofs.Ytpgdmmjbhjbbhaa.Sp
end
section
namespace Go.Proofs.Ytpgdmmjbhjbbhaa.Wr
open Go Go.RowKit P Sp YtpgdmmjbhjbbhaaW.PrintWords YtpgdmmjbhjbbhaaW.PrintLast YtpgdmmjbhjbbhaaW.PrintMore
def IsL (w:World) (B:Nat) (l:List Int):Prop:=w.heap[B]?=some (.cells (l.map (Value.int .i64)).toArray 3 (0,0))
theorem IsL.stay {w w1:World} {B:Nat} {l:List Int} (h:IsL w B l) (k:Stay w w1):IsL w1 B l:=k _ _ _ (by decide) (by decide) h
theorem IsL.cell {w:World} {B:Nat} {l:List Int} (h:IsL w B l) (i:Nat) (hi:i<l.length):w.cell? ⟨B,i,none⟩=some (.int .i64 (rd l i)):=by
 rw[cell_of_row w B i _ _ (0,0) h];simp[rd,List.getD_eq_getElem?_getD,List.getElem?_eq_getElem hi,hi]
def numsB (l:List Int):List Int:=l.flatMap intB
theorem numsB_take (l:List Int) (i:Nat) (hi:i<l.length):numsB (l.take (i+1))=numsB (l.take i)++intB (rd l i):=by
 unfold numsB;rw[List.take_add_one,List.getElem?_eq_getElem hi,List.flatMap_append];simp[rd,List.getD_eq_getElem?_getD,List.getElem?_eq_getElem hi]
theorem numsB_le (l:List Int) (i:Nat):(numsB (l.take i)).length≤(numsB l).length:=by
 unfold numsB
 conv=>rhs;rw[←List.take_append_drop i l,List.flatMap_append,List.length_append]
 omega
theorem u64_nat (n:Int):((IntKind.u64.wrap n).toNat:Int)=IntKind.u64.wrap n∧(IntKind.u64.wrap n).toNat<18446744073709551616:=by
 have h:IntKind.u64.wrap n=n % 18446744073709551616:=by simp[IntKind.wrap,IntKind.bits,IntKind.signed]
 omega
theorem nums_calls (w0 w:World) (g:Nat) (bs:List Int) (v:Value) (B:Nat) (l:List Int) (n c:Nat) (hn:n=l.length) (hS:WS w0 w g bs v) (hB:IsL w B l) (hb:bs.length+(numsB l).length≤1099511627776) (hl:l.length≤1000):
  Calls Try.prog 53 #[.pointer (some ⟨g,0,none⟩),.slice (some ⟨B,0,none⟩) n c] w fun e w'=>e = .returned (.tuple #[])∧∃ v',WS w0 w' g (bs++numsB l) v'∧Stay w w':=by
 subst hn;have HS:=Aside0.mk hS;have HL:=Aside0.mk hB;have HB:=Aside0.mk hb;clear hS hB hb;have hlI:(l.length:Int)≤1000:=by omega
 go_enter Try.func53,Try.ntmps53
 go_wp2_with fail
 go_loopw [8] (fun v8 wr=>∃ (i:Nat) (v:Value),v8 = .int .i64 (i:Int)∧Aside0 (i≤l.length∧WS w0 wr g (bs++numsB (l.take i)) v∧Stay w wr)) (fun v8 _=>l.length - (intOf v8).toNat)
 case atStart=>exact ⟨0,v,rfl,⟨Nat.zero_le _,by simpa [numsB] using HS.out,Stay.refl _⟩⟩
 case round=>
  obtain ⟨i,v,rfl,HR⟩:=hrel;by_cases hlt:i<l.length
  ·have hi0:(0:Int)≤(i:Int):=by omega
   have hi1:(i:Int)<(l.length:Int):=by omega
   have hc:=(HL.out.stay HR.out.2.2).cell i hlt;obtain ⟨x,hx⟩:∃ x:Nat,x=(IntKind.u64.wrap (rd l i)).toNat:=⟨_,rfl⟩;have hx2:=(u64_nat (rd l i)).1;rw[←hx] at hx2;have HX:Aside0 (x<18446744073709551616∧intB (rd l i)=numB x):=⟨by rw[hx];exact (u64_nat _).2,by rw[intB,hx]⟩;have HT:Aside0 (bs++numsB (l.take (i+1))=(bs++numsB (l.take i))++numB x):=⟨by rw[numsB_take l i hlt,HX.out.2,List.append_assoc]⟩;have HT2:Aside0 ((bs++numsB (l.take i)).length+(numB x).length≤1099511627776):=⟨by rw[←List.length_append,←HT.out,List.length_append];have:=numsB_le l (i+1);have:=HB.out;omega⟩;have hx3:=hx2.symm;clear hx hx2;have HLT:=Aside0.mk hlt;go_wp2_with (go_at_call 95;refine (big_calls w0 _ g _ v x HX.out.1 HR.out.2.1 HT2.out).mono ?_;rintro e w1 ⟨rfl,v1,hS1,hst⟩;have HS1:=Aside0.mk hS1;have HST:=Aside0.mk hst;clear hS1 hst)
   go_roundw
   case rel=>exact ⟨i+1,v1,by go_num,⟨by have:=HLT.out;omega,HT.out ▸ HS1.out,HR.out.2.2.trans HST.out⟩⟩
   case measure=>simp only[intOf];have:=HLT.out;first|omega|(go_num;omega)|(simp;omega)
  ·have hi1:¬((i:Int)<(l.length:Int)):=by omega
   have HI:Aside0 (l.take i=l):=⟨List.take_of_length_le (by omega)⟩;go_wp2_with fail
   (first|go_end0|((try simp only[Exit.inBlock,Exit.then]);refine bodyPost_ret (results_none rfl _ _ _) rfl ?_))
   have h1:=HR.out.2.1;rw[HI.out] at h1
   first|exact ⟨rfl,v,h1,HR.out.2.2⟩|exact ⟨⟨v,h1⟩,HR.out.2.2⟩|exact ⟨rfl,⟨v,h1⟩,HR.out.2.2⟩
theorem signed_calls (w0 w:World) (g:Nat) (bs:List Int) (v:Value) (n:Int) (hn:isI n) (hS:WS w0 w g bs v) (hb:bs.length+(signB n).length≤1099511627776):
  Calls Try.prog 85 #[.pointer (some ⟨g,0,none⟩),.int .i64 n] w fun e w'=>e = .returned (.tuple #[])∧∃ v',WS w0 w' g (bs++signB n) v'∧Stay w w':=by
 have HS:=Aside0.mk hS;have HB:=Aside0.mk hb;clear hS hb;have HI:=Aside0.mk hn;have hn0:=hn.1;have hn1:=hn.2;have hbit:=sign_bits n hn;go_enter Try.func85,Try.ntmps85
 go_wp2_with (go_at_call 95;refine (big_calls w0 _ g bs v _ (signN_lt n HI.out) HS.out HB.out).mono ?_;rintro e w1 ⟨rfl,v1,hS1,hst⟩;have HS1:=Aside0.mk hS1;have HST:=Aside0.mk hst;clear hS1 hst)
 (first|go_end0|((try simp only[Exit.inBlock,Exit.then]);refine bodyPost_ret (results_none rfl _ _ _) rfl ?_))
 first|exact ⟨rfl,v1,HS1.out,HST.out⟩|exact ⟨⟨v1,HS1.out⟩,HST.out⟩|exact ⟨rfl,⟨v1,HS1.out⟩,HST.out⟩
theorem text_calls (w0 w:World) (g:Nat) (bs:List Int) (v:Value) (s:ByteArray) (hS:WS w0 w g bs v) (hb:bs.length+(textB s).length≤1099511627776):
  Calls Try.prog 57 #[.pointer (some ⟨g,0,none⟩),.string s] w fun e w'=>e = .returned (.tuple #[])∧∃ v',WS w0 w' g (bs++textB s) v'∧Stay w w':=by
 have HS:=Aside0.mk hS;have HB:=Aside0.mk hb;clear hS hb;have HA:Aside0 (WS w0 (w.alloc (.cells #[.int .i64 (s.size:Int)] 3 (0,0))) g bs v):=⟨HS.out.below ((Below.refl _ _).alloc (Nat.le_refl _) _)⟩;have HL:Aside0 (IsL (w.alloc (.cells #[.int .i64 (s.size:Int)] 3 (0,0))) w.heap.size [(s.size:Int)]):=⟨heap_alloc_new w _⟩;have HE:Aside0 (numsB [(s.size:Int)]=intB s.size∧(bs++numsB [(s.size:Int)])++bytesOf s=bs++textB s):=⟨by simp[numsB],by simp[numsB,textB]⟩;have HB1:Aside0 (bs.length+(numsB [(s.size:Int)]).length≤1099511627776):=⟨by rw[HE.out.1];have:=HB.out;unfold textB at this;rw[List.length_append] at this;omega⟩;have HB2:Aside0 ((bs++numsB [(s.size:Int)]).length+s.size≤140737488355328):=⟨by have h1:=HB1.out;have h2:=HB.out;unfold textB at h2;rw[List.length_append,bytesOf_length] at h2;rw[List.length_append];omega⟩;go_enter Try.func57,Try.ntmps57
 go_upto_region 1 with (go_at_call 53;refine (nums_calls w0 _ g _ v _ [(s.size:Int)] _ _ rfl HA.out HL.out HB1.out (by simp)).mono ?_;rintro e w1 ⟨rfl,v1,hS1,hst⟩;have HS1:=Aside0.mk hS1;have HST:=Aside0.mk hst;clear hS1 hst)
 obtain ⟨A,c,rfl⟩:=Kd.R_slice HS1.out.row;have hk0:=frozen_of_row w1 g 0 _ _ HS1.out.blk;have hk1:w1.cell? ⟨g,0,none⟩=some (.slice A (bs++numsB [(s.size:Int)]).length c):=by rw[cell_of_row w1 g 0 _ _ (0,0) HS1.out.blk];rfl
 have HB3:Aside0 (Below w0.heap.size w0 w1):=⟨HS1.out.bel⟩;go_wp2_with (at_builtin;refine print_append_str (w0:=w0) w0.heap.size rfl (.tmp 13) (.tmp 14) 36 9 5 rfl Try.underlying36 Try.underlying9 inf8 (.slice A (bs++numsB [(s.size:Int)]).length c) (bs++numsB [(s.size:Int)]) s (by simp[Act.eval]) rfl (Kd.own_of_R HS1.out.row) HB3.out HB3.out.size HB2.out ?_;intro v2 w2 ho hb2 hg2;have hR2:=Kd.R_of_own (h1:=fun _=>rfl) (ok:=fun _=>True) ho (fun _ _=>trivial);obtain ⟨A2,n2,c2,rfl⟩:=R_sl hR2;have hst:=HS1.out.store hR2 hb2 hg2;simp only[HE.out.2] at hst;have hf:=hst.2.2.1;have hcl:=hst.2.2.2;have HST2:=Aside0.mk (And.intro hst.1 hst.2.1);clear hst hR2 ho hb2 hg2 hk0 hk1)
 (first|go_end0|((try simp only[Exit.inBlock,Exit.then]);refine bodyPost_ret (results_none rfl _ _ _) rfl ?_))
 have hfin:Stay w _:=(Stay.below ((Below.refl _ _).alloc (Nat.le_refl _) _)).trans (HST.out.trans HST2.out.2)
 first|exact ⟨rfl,_,HST2.out.1,hfin⟩|exact ⟨⟨_,HST2.out.1⟩,hfin⟩|exact ⟨rfl,⟨_,HST2.out.1⟩,hfin⟩
theorem numsB2 (x:S25):numsB [x.f0,x.f1]=pairB x:=by simp[numsB,pairB]
theorem numsB1 (n:Int):numsB [n]=intB n:=by simp[numsB]
theorem al_below (w:World) (o:Obj):Below w.heap.size w (w.alloc o):=(Below.refl _ _).alloc (Nat.le_refl _) o
theorem box_stay {w w1:World} {B:Nat} {cs:Array Value} {t:TypeId} (h:w.heap[B]?=some (.cells cs t (0,0))) (h1:t≠5) (h2:t≠99) (k:Stay w w1) (i:Nat):w1.cell? ⟨B,i,none⟩=cs[i]?:=cell_of_row w1 B i _ t (0,0) (k B cs t h1 h2 h)
theorem call_calls (w0 w:World) (g:Nat) (bs:List Int) (v:Value) (x:S25) (hS:WS w0 w g bs v) (hb:bs.length+(pairB x).length≤1099511627776):
  Calls Try.prog 54 #[.pointer (some ⟨g,0,none⟩),.agg #[.int .i64 x.f0,.int .i64 x.f1]] w fun e w'=>e = .returned (.tuple #[])∧∃ v',WS w0 w' g (bs++pairB x) v'∧Stay w w':=by
 have HS:=Aside0.mk hS;have HB:=Aside0.mk hb;clear hS hb;have HBX:Aside0 (Below w.heap.size w ((w.alloc (.cells #[.int .i64 x.f0,.int .i64 x.f1] 27 (0,0))).alloc (.cells #[.int .i64 x.f0,.int .i64 x.f1] 3 (0,0)))):=⟨(al_below w _).alloc (by simp) _⟩
 have HL:Aside0 (IsL ((w.alloc (.cells #[.int .i64 x.f0,.int .i64 x.f1] 27 (0,0))).alloc (.cells #[.int .i64 x.f0,.int .i64 x.f1] 3 (0,0))) (w.heap.size+1) [x.f0,x.f1]):=⟨by
  have:=heap_alloc_new (w.alloc (.cells #[.int .i64 x.f0,.int .i64 x.f1] 27 (0,0))) (.cells #[.int .i64 x.f0,.int .i64 x.f1] 3 (0,0))
  simpa [IsL] using this⟩
 have HB1:Aside0 (bs.length+(numsB [x.f0,x.f1]).length≤1099511627776):=⟨by rw[numsB2];exact HB.out⟩;go_enter Try.func54,Try.ntmps54
 go_wp2_with (go_at_call 53;refine (nums_calls w0 _ g _ v _ [x.f0,x.f1] _ _ rfl (HS.out.below HBX.out) HL.out HB1.out (by simp)).mono ?_;rintro e w1 ⟨rfl,v1,hS1,hst⟩;rw[numsB2] at hS1;have HS1:=Aside0.mk hS1;have HST:=Aside0.mk hst;clear hS1 hst)
 (first|go_end0|((try simp only[Exit.inBlock,Exit.then]);refine bodyPost_ret (results_none rfl _ _ _) rfl ?_))
 have hfin:Stay w _:=(Stay.below HBX.out).trans HST.out
 first|exact ⟨rfl,_,HS1.out,hfin⟩|exact ⟨⟨_,HS1.out⟩,hfin⟩|exact ⟨rfl,⟨_,HS1.out⟩,hfin⟩
theorem op_calls (w0 w:World) (g:Nat) (bs:List Int) (v:Value) (o:Sp.Op) (ho:isI o.a∧isI o.b) (hS:WS w0 w g bs v) (hb:bs.length+(opB o).length≤1099511627776):
  Calls Try.prog 55 #[.pointer (some ⟨g,0,none⟩),.agg #[.int .i64 o.kind,.string o.name,.int .i64 o.a,.int .i64 o.b]] w fun e w'=>e = .returned (.tuple #[])∧∃ v',WS w0 w' g (bs++opB o) v'∧Stay w w':=by
 have HS:=Aside0.mk hS;have HI:=Aside0.mk ho;have HB:Aside0 (bs.length+(intB o.kind).length+(textB o.name).length+(signB o.a).length+(signB o.b).length≤1099511627776):=⟨by simp only[opB,List.length_append] at hb;omega⟩;clear hS hb ho;obtain ⟨wa,hwa⟩:∃ wa,wa=w.alloc (.cells #[.int .i64 o.kind,.string o.name,.int .i64 o.a,.int .i64 o.b] 29 (0,0)):=⟨_,rfl⟩;have HWA:=Aside0.mk hwa;have HBX:Aside0 (wa.heap[w.heap.size]?=some (.cells #[.int .i64 o.kind,.string o.name,.int .i64 o.a,.int .i64 o.b] 29 (0,0))):=⟨by rw[hwa];exact heap_alloc_new w _⟩;have HSA:Aside0 (WS w0 wa g bs v∧Stay w wa):=⟨by rw[hwa];exact HS.out.below (al_below w _),by rw[hwa];exact Stay.below (al_below w _)⟩;clear hwa;have k0:=box_stay HBX.out (by decide) (by decide) (Stay.refl wa) 0;have HL:Aside0 (IsL (wa.alloc (.cells #[.int .i64 o.kind] 3 (0,0))) wa.heap.size [o.kind]):=⟨heap_alloc_new wa _⟩;have HB1:Aside0 (bs.length+(numsB [o.kind]).length≤1099511627776):=⟨by rw[numsB1];have:=HB.out;omega⟩;go_enter Try.func55,Try.ntmps55
 go_upto_region 1 with fail
 rw[←HWA.out];go_upto_region 2 with (go_at_call 53;refine (nums_calls w0 _ g _ v _ [o.kind] _ _ rfl (HSA.out.1.below (al_below wa _)) HL.out HB1.out (by simp)).mono ?_;rintro e w1 ⟨rfl,v1,hS1,hst⟩;rw[numsB1] at hS1;have HS1:=Aside0.mk hS1;have HST1:Aside0 (Stay wa w1):=⟨(Stay.below (al_below wa _)).trans hst⟩;clear hS1 hst)
 have k1:=box_stay HBX.out (by decide) (by decide) HST1.out 1;have HB2:Aside0 ((bs++intB o.kind).length+(textB o.name).length≤1099511627776):=⟨by rw[List.length_append];have:=HB.out;omega⟩;go_upto_region 3 with (go_at_call 57;refine (text_calls w0 _ g _ v1 o.name HS1.out HB2.out).mono ?_;rintro e w2 ⟨rfl,v2,hS2,hst⟩;have HS2:=Aside0.mk hS2;have HST2:Aside0 (Stay wa w2):=⟨HST1.out.trans hst⟩;clear hS2 hst k1)
 have k2:=box_stay HBX.out (by decide) (by decide) HST2.out 2;have HB3:Aside0 ((bs++intB o.kind++textB o.name).length+(signB o.a).length≤1099511627776):=⟨by rw[List.length_append,List.length_append];have:=HB.out;omega⟩;go_upto_region 4 with (go_at_call 85;refine (signed_calls w0 _ g _ v2 o.a HI.out.1 HS2.out HB3.out).mono ?_;rintro e w3 ⟨rfl,v3,hS3,hst⟩;have HS3:=Aside0.mk hS3;have HST3:Aside0 (Stay wa w3):=⟨HST2.out.trans hst⟩;clear hS3 hst k2)
 have k3:=box_stay HBX.out (by decide) (by decide) HST3.out 3;have HB4:Aside0 ((bs++intB o.kind++textB o.name++signB o.a).length+(signB o.b).length≤1099511627776):=⟨by rw[List.length_append,List.length_append,List.length_append];have:=HB.out;omega⟩;go_wp2_with (go_at_call 85;refine (signed_calls w0 _ g _ v3 o.b HI.out.2 HS3.out HB4.out).mono ?_;rintro e w4 ⟨rfl,v4,hS4,hst⟩;have HS4:=Aside0.mk hS4;have HST4:Aside0 (Stay wa w4):=⟨HST3.out.trans hst⟩;clear hS4 hst k3)
 (first|go_end0|((try simp only[Exit.inBlock,Exit.then]);refine bodyPost_ret (results_none rfl _ _ _) rfl ?_))
 have hfin:Stay w _:=HSA.out.2.trans HST4.out;have h4:=HS4.out;rw[show bs++intB o.kind++textB o.name++signB o.a++signB o.b=bs++opB o from by simp[opB]] at h4
 first|exact ⟨rfl,_,h4,hfin⟩|exact ⟨⟨_,h4⟩,hfin⟩|exact ⟨rfl,⟨_,h4⟩,hfin⟩
theorem viewsB_take (l:List S87) (i:Nat) (hi:i<l.length):viewsB (l.take (i+1))=viewsB (l.take i)++viewB (rd_T87 l i):=by
 unfold viewsB;rw[List.take_add_one,List.getElem?_eq_getElem hi,List.flatMap_append];simp[rd_T87,List.getD_eq_getElem?_getD,List.getElem?_eq_getElem hi]
theorem viewsB_le (l:List S87) (i:Nat):(viewsB (l.take i)).length≤(viewsB l).length:=by
 unfold viewsB
 conv=>rhs;rw[←List.take_append_drop i l,List.flatMap_append,List.length_append]
 omega
theorem views_calls (w0 w : World) (g : Nat) (bs : List Int) (v : Value) (A : Option Addr) (c : Nat) (l : List S87) (hr : Kd.C k87 w0 A l.length l) (hl : l.length ≤ 1000) (hS : WS w0 w g bs v) (hb : bs.length + (listB l).length ≤ 1099511627776) :
    Calls Try.prog 56 #[.pointer (some ⟨g,0,none⟩),.slice A l.length c] w fun e w'=>e = .returned (.tuple #[])∧∃ v',WS w0 w' g (bs++listB l) v'∧Stay w w':=by
  have HS:=Aside0.mk hS;have HR:=Aside0.mk hr;have HB:Aside0 (bs.length+(intB l.length).length+(viewsB l).length≤1099511627776):=⟨by simp only[listB,List.length_append] at hb;omega⟩;clear hS hb hr;have hlI:(l.length:Int)≤1000:=by omega
  have hu87:=Try.underlying87;have hu25:=Try.underlying25;have HL:Aside0 (IsL (w.alloc (.cells #[.int .i64 (l.length:Int)] 3 (0,0))) w.heap.size [(l.length:Int)]):=⟨heap_alloc_new w _⟩;have HB1:Aside0 (bs.length+(numsB [(l.length:Int)]).length≤1099511627776):=⟨by rw[numsB1];have:=HB.out;omega⟩;go_enter Try.func56,Try.ntmps56
  go_upto_region 1 with (go_at_call 53;refine (nums_calls w0 _ g _ v _ [(l.length:Int)] _ _ rfl (HS.out.below (al_below w _)) HL.out HB1.out (by simp)).mono ?_;rintro e w1 ⟨rfl,v1,hS1,hst⟩;rw[numsB1] at hS1;have HS1:=Aside0.mk hS1;have HST1:Aside0 (Stay w w1):=⟨(Stay.below (al_below w _)).trans hst⟩;clear hS1 hst)
  go_wp2_with fail
  go_loopw [13] (fun v13 wr=>∃ (i:Nat) (v:Value),v13 = .int .i64 (i:Int)∧Aside0 (i≤l.length∧WS w0 wr g (bs++intB l.length++viewsB (l.take i)) v∧Stay w wr)) (fun v13 _=>l.length - (intOf v13).toNat)
  case atStart=>exact ⟨0,v1,rfl,⟨Nat.zero_le _,by simpa [viewsB] using HS1.out,HST1.out⟩⟩
  case round=>
   obtain ⟨i,v2,rfl,HQ⟩:=hrel;by_cases hlt:i<l.length
   ·have hi0:(0:Int)≤(i:Int):=by omega
    have hi1:(i:Int)<(l.length:Int):=by omega
    have HLT:=Aside0.mk hlt;obtain ⟨ad,rfl,c0,c1,c2,c3,c4,c5,c6⟩:=at_T87 (Kd.C_below HR.out HQ.out.2.1.bel) (i:Int) hi0 hi1;obtain ⟨x,hx⟩:∃ x,x=rd_T87 l (i:Int):=⟨_,rfl⟩;have HX:=Aside0.mk hx;rw[←hx] at c0 c1 c2 c3 c4 c5 c6;simp only[Int.toNat_natCast] at c0 c1 c2 c3 c4 c5 c6;clear hx;obtain ⟨wa,hwa⟩:∃ wa,wa=wr.alloc (.cells #[.string x.f0,.int .i64 x.f1,.int .i64 x.f2,.int .i64 x.f3,.int .i64 x.f4.f0,.int .i64 x.f4.f1,.int .i64 x.f5] 87 (0,0)):=⟨_,rfl⟩;have HWA:=Aside0.mk hwa;have HBX:Aside0 (wa.heap[wr.heap.size]?=some (.cells #[.string x.f0,.int .i64 x.f1,.int .i64 x.f2,.int .i64 x.f3,.int .i64 x.f4.f0,.int .i64 x.f4.f1,.int .i64 x.f5] 87 (0,0))):=⟨by rw[hwa];exact heap_alloc_new wr _⟩;have HSA:Aside0 (WS w0 wa g (bs++intB l.length++viewsB (l.take i)) v2∧Stay w wa):=⟨by rw[hwa];exact HQ.out.2.1.below (al_below wr _),by rw[hwa];exact HQ.out.2.2.trans (Stay.below (al_below wr _))⟩;clear hwa;have HT:Aside0 (bs++intB l.length++viewsB (l.take (i+1))=(bs++intB l.length++viewsB (l.take i))++textB x.f0++numsB [x.f1,x.f2,x.f3,x.f4.f0,x.f4.f1,x.f5]):=⟨by rw[viewsB_take l i hlt,←HX.out];simp[viewB,numsB,pairB]⟩
    have HTL:Aside0 ((bs++intB l.length++viewsB (l.take i)).length+(textB x.f0).length+(numsB [x.f1,x.f2,x.f3,x.f4.f0,x.f4.f1,x.f5]).length≤1099511627776):=⟨by
     have h1:=congrArg List.length HT.out;have h2:=viewsB_le l (i+1);have h3:=HB.out;simp only[List.length_append] at h1 ⊢;omega⟩
    have HB2:Aside0 ((bs++intB l.length++viewsB (l.take i)).length+(textB x.f0).length≤1099511627776):=⟨by have:=HTL.out;omega⟩;have HB3:Aside0 ((bs++intB l.length++viewsB (l.take i)++textB x.f0).length+(numsB [x.f1,x.f2,x.f3,x.f4.f0,x.f4.f1,x.f5]).length≤1099511627776):=⟨by rw[List.length_append];have:=HTL.out;omega⟩;go_upto_region 5 with (rw[←HWA.out];go_at_call 57;refine (text_calls w0 _ g _ v2 x.f0 HSA.out.1 HB2.out).mono ?_;rintro e w3 ⟨rfl,v3,hS3,hst⟩;have HS3:=Aside0.mk hS3;have HST3:Aside0 (Stay wa w3):=⟨hst⟩;clear hS3 hst)
    clear c0 c1 c2 c3 c4 c5 c6;have k1:=box_stay HBX.out (by decide) (by decide) HST3.out 1;have k2:=box_stay HBX.out (by decide) (by decide) HST3.out 2;have k3:=box_stay HBX.out (by decide) (by decide) HST3.out 3;have k4:=box_stay HBX.out (by decide) (by decide) HST3.out 4;have k5:=box_stay HBX.out (by decide) (by decide) HST3.out 5;have k6:=box_stay HBX.out (by decide) (by decide) HST3.out 6;have HL4:Aside0 (IsL (w3.alloc (.cells #[.int .i64 x.f1,.int .i64 x.f2,.int .i64 x.f3,.int .i64 x.f4.f0,.int .i64 x.f4.f1,.int .i64 x.f5] 3 (0,0))) w3.heap.size [x.f1,x.f2,x.f3,x.f4.f0,x.f4.f1,x.f5]):=⟨heap_alloc_new w3 _⟩;go_wp2_with (go_at_call 53;refine (nums_calls w0 _ g _ v3 _ [x.f1,x.f2,x.f3,x.f4.f0,x.f4.f1,x.f5] _ _ rfl (HS3.out.below (al_below w3 _)) HL4.out HB3.out (by simp)).mono ?_;rintro e w4 ⟨rfl,v4,hS4,hst⟩;rw[←HT.out] at hS4;have HS4:=Aside0.mk hS4;have HST4:Aside0 (Stay wa w4):=⟨HST3.out.trans ((Stay.below (al_below w3 _)).trans hst)⟩;clear hS4 hst k1 k2 k3 k4 k5 k6)
    go_roundw
    case rel=>exact ⟨i+1,v4,by go_num,⟨by have:=HLT.out;omega,HS4.out,HSA.out.2.trans HST4.out⟩⟩
    case measure=>simp only[intOf];have:=HLT.out;first|omega|(go_num;omega)|(simp;omega)
   ·have hi1:¬((i:Int)<(l.length:Int)):=by omega
    have HI:Aside0 (l.take i=l):=⟨List.take_of_length_le (by omega)⟩;go_wp2_with fail
    (first|go_end0|((try simp only[Exit.inBlock,Exit.then]);refine bodyPost_ret (results_none rfl _ _ _) rfl ?_))
    have h1:=HQ.out.2.1;rw[HI.out,show bs++intB l.length++viewsB l=bs++listB l from by simp[listB]] at h1
    first|exact ⟨rfl,_,h1,HQ.out.2.2⟩|exact ⟨⟨_,h1⟩,HQ.out.2.2⟩|exact ⟨rfl,⟨_,h1⟩,HQ.out.2.2⟩
end Go.Proofs.Ytpgdmmjbhjbbhaa.Wr
end
section
namespace Go.Proofs.Ytpgdmmjbhjbbhaa.Sp
open Go Go.RowKit P YtpgdmmjbhjbbhaaW.PrintWords YtpgdmmjbhjbbhaaW.PrintLast YtpgdmmjbhjbbhaaW.PrintMore
theorem intB_len (d:Nat) {n:Int} (h0:0≤n) (h1:n<((128 ^ (d+1):Nat):Int)) (h2:n<18446744073709551616):(intB n).length≤d+1:=by
 rw[intB_of h0 h2];exact numB_len d _ (by omega)
theorem int1 {n:Int} (h0:0≤n) (h1:n≤127):(intB n).length≤1:=intB_len 0 h0 (by omega) (by omega)
theorem int2 {n:Int} (h0:0≤n) (h1:n≤16383):(intB n).length≤2:=intB_len 1 h0 (by omega) (by omega)
theorem int6 {n:Int} (h0:0≤n) (h1:n≤big):(intB n).length≤6:=intB_len 5 h0 (by unfold big at h1;omega) (by unfold big at h1;omega)
theorem sign10 {n:Int} (h:isI n):(signB n).length≤10:=numB_len10 (by unfold isI at h;unfold signN;split<;>omega)
theorem text17 {s:ByteArray} (h:nameOk (bytesOf s)):(textB s).length≤17:=by
 have h1:=h.1;have h2:=h.2.1;rw[bytesOf_length] at h1 h2;unfold textB;rw[List.length_append,bytesOf_length];have:=int1 (n:=(s.size:Int)) (by omega) (by omega);omega
theorem pair12 {x:S25} (h0:0≤x.f0∧x.f0≤big) (h1:0≤x.f1∧x.f1≤big):(pairB x).length≤12:=by
 unfold pairB;rw[List.length_append];have:=int6 h0.1 h0.2;have:=int6 h1.1 h1.2;omega
theorem call12 {x:S25} (h:callV x):(pairB x).length≤12:=pair12 ⟨h.1.1,by have:=h.1.2;unfold big;omega⟩ ⟨by have:=h.2.1;omega,h.2.2⟩
theorem epoch12 {x:S25} (h:epochV x):(pairB x).length≤12:=pair12 ⟨by have:=h.1.1;omega,h.1.2⟩ ⟨h.2.1,by have:=h.2.2;unfold big;omega⟩
theorem rights12 {x:S25} (h:rightsV x):(pairB x).length≤12:=pair12 h.1 h.2
theorem cap12 {x:S25} (h:capV x):(pairB x).length≤12:=pair12 ⟨by have:=h.1.1;omega,h.1.2⟩ h.2
theorem op_len {o:Op} (h:opV o):(opB o).length≤38:=by
 unfold opB;simp only[List.length_append];have:=int1 (n:=o.kind) (by have:=h.1.1;omega) (by have:=h.1.2;omega);have:=text17 h.2.1.1;have:=sign10 h.2.2.1;have:=sign10 h.2.2.2;omega
theorem view_len {a:ByteArray} {v:S87} (h:viewV a v):(viewB v).length≤53:=by
 unfold viewB;simp only[List.length_append];have:=text17 h.1.1;have:=cap12 h.2.1;have:=int6 h.2.2.1.1 h.2.2.1.2;have:=rights12 h.2.2.2.1;have:=int6 h.2.2.2.2.1 h.2.2.2.2.2;omega
theorem views_len:∀ (l:List S87) (a:ByteArray),viewsV a l→(viewsB l).length≤53 * l.length:=by
 intro l
 induction l with
 | nil=>intro a _;simp[viewsB]
 | cons v r ih=>
  intro a h;have h1:=view_len h.1;have h2:=ih _ h.2;unfold viewsB at h2 ⊢;rw[List.flatMap_cons,List.length_append,List.length_cons];omega
theorem list_len {l:List S87} (h:listV l):(listB l).length≤3393:=by
 unfold listB;rw[List.length_append];have:=int1 (n:=(l.length:Int)) (by omega) (by have:=h.1;omega);have:=views_len l _ h.2;have:=h.1;omega
theorem opt_len {α:Type} (c:Prop) [Decidable c] (z:α) {e:α→List Int} {v:α→Prop} {x:α} (k:Nat) (h:optV c z v x) (he:v x→(e x).length≤k):(optB c e x).length≤k:=by
 unfold optB;unfold optV at h;by_cases hc:c
 ·rw[if_pos hc] at h ⊢;exact he h
 ·rw[if_neg hc];simp
theorem msg_len {m : Msg} (h : msgV m) : (msgB m).length ≤ 3394 := by
  unfold msgB restB;have hk:=int1 (n:=m.kind) (by have:=h.1.1;omega) (by have:=h.1.2;omega);have hr:=h.2;unfold restV at hr;rw[List.length_append]
  split
  ·rename_i h1;rw[if_pos h1] at hr;rw[List.length_append];have:=call12 hr.1;have:=op_len hr.2.1;omega
  ·rename_i h1;rw[if_neg h1] at hr
   split
   ·rename_i h2;rw[if_pos h2] at hr;simp only[List.length_append];have:=call12 hr.1;have:=text17 hr.2.1.1;have:=int2 (n:=m.err) hr.2.2.1.1 (by have:=hr.2.2.1.2;omega);have:=opt_len (capped m.err) z25 12 hr.2.2.2.1 (e:=pairB) cap12;omega
   ·rename_i h2;rw[if_neg h2] at hr
    split
    ·rename_i h3;rw[if_pos h3] at hr;have:=list_len hr.1;omega
    ·rename_i h3;rw[if_neg h3] at hr;simp only[List.length_append];have:=text17 hr.1.1;have:=cap12 hr.2.1;have:=opt_len (hasEp m.kind) z25 12 hr.2.2.1 (e:=pairB) epoch12;have:=opt_len (m.kind=7) z25 12 hr.2.2.2.1 (e:=pairB) epoch12;have:=opt_len (hasRt m.kind) z25 12 hr.2.2.2.2.1 (e:=pairB) rights12;have:=opt_len (m.kind=4) 0 6 hr.2.2.2.2.2.1 (e:=intB) (fun hh=>int6 hh.1 hh.2);omega
theorem seg_len {s:Seg} (h:segV s):(segB s).length≤4016:=by
 unfold segB;simp only[List.length_append];have:=int1 (n:=s.src) h.1.1 (by have:=h.1.2;omega);have:=int1 (n:=s.dst) h.2.1.1 (by have:=h.2.1.2;omega);have:=int6 h.2.2.1.1 h.2.2.1.2;have:=int6 h.2.2.2.1.1 h.2.2.2.1.2;have hd:s.data.length≤4000:=by have:=h.2.2.2.2.1.2;split at this<;>omega
 have:=int2 (n:=(s.data.length:Int)) (by omega) (by omega);omega
end Go.Proofs.Ytpgdmmjbhjbbhaa.Sp
end
section
namespace Go.Proofs.Ytpgdmmjbhjbbhaa.En
open Go Go.RowKit P Sp Vd Wr YtpgdmmjbhjbbhaaW.PrintWords YtpgdmmjbhjbbhaaW.PrintLast YtpgdmmjbhjbbhaaW.PrintMore
theorem mcells {W:World} {g:Nat} {m:Msg} {A:Option Addr} {c:Nat} (h:W.heap[g]?=some (.cells (MVc m A c) 33 (0,0))):W.cell? ⟨g,0,none⟩=some (.int .i64 m.kind)∧W.cell? ⟨g,1,none⟩=some (.string m.name)∧W.cell? ⟨g,2,none⟩=some (.int .i64 m.cap)∧W.cell? ⟨g,3,none⟩=some (.int .i64 m.recaps)∧W.cell? ⟨g,4,none⟩=some (.int .i64 m.epoch.f0)∧W.cell? ⟨g,5,none⟩=some (.int .i64 m.epoch.f1)∧W.cell? ⟨g,6,none⟩=some (.int .i64 m.over.f0)∧W.cell? ⟨g,7,none⟩=some (.int .i64 m.over.f1)∧W.cell? ⟨g,8,none⟩=some (.int .i64 m.rights.f0)∧W.cell? ⟨g,9,none⟩=some (.int .i64 m.rights.f1)∧W.cell? ⟨g,10,none⟩=some (.int .i64 m.held)∧W.cell? ⟨g,11,none⟩=some (.int .i64 m.call.f0)∧W.cell? ⟨g,12,none⟩=some (.int .i64 m.call.f1)∧W.cell? ⟨g,13,none⟩=some (.int .i64 m.op.kind)∧W.cell? ⟨g,14,none⟩=some (.string m.op.name)∧W.cell? ⟨g,15,none⟩=some (.int .i64 m.op.a)∧W.cell? ⟨g,16,none⟩=some (.int .i64 m.op.b)∧W.cell? ⟨g,17,none⟩=some (.int .i64 m.err)∧W.cell? ⟨g,18,none⟩=some (.int .i64 m.value)∧W.cell? ⟨g,19,none⟩=some (.slice A m.views.length c):=⟨(blk_cell h 0).trans rfl,(blk_cell h 1).trans rfl,(blk_cell h 2).trans rfl,(blk_cell h 3).trans rfl,(blk_cell h 4).trans rfl,(blk_cell h 5).trans rfl,(blk_cell h 6).trans rfl,(blk_cell h 7).trans rfl,(blk_cell h 8).trans rfl,(blk_cell h 9).trans rfl,(blk_cell h 10).trans rfl,(blk_cell h 11).trans rfl,(blk_cell h 12).trans rfl,(blk_cell h 13).trans rfl,(blk_cell h 14).trans rfl,(blk_cell h 15).trans rfl,(blk_cell h 16).trans rfl,(blk_cell h 17).trans rfl,(blk_cell h 18).trans rfl,(blk_cell h 19).trans rfl⟩
structure EW (w W:World) (g:Nat) (m:Msg) (A:Option Addr) (c:Nat) (xs:List Int) (K:Nat):Prop where
 ws:∃ v,WS w W g xs v
 box:W.heap[w.heap.size]?=some (.cells (MVc m A c) 33 (0,0))
 len:xs.length≤K
section
variable {w W W':World} {g:Nat} {m:Msg} {A:Option Addr} {c:Nat} {xs ys:List Int} {K n:Nat}
theorem EW.below (h:EW w W g m A c xs K) (k:Below W.heap.size W W'):EW w W' g m A c xs K:=⟨h.ws.imp fun v hv=>hv.below k,blk_keep k h.box,h.len⟩
theorem EW.new (h:EW w W g m A c xs K) (o:Obj):EW w (W.alloc o) g m A c xs K:=h.below (below_alloc (Below.refl _ _) o)
theorem EW.step (h:EW w W g m A c xs K) (hv:∃ v,WS w W' g (xs++ys) v∧Stay W W') (hn:ys.length≤n):EW w W' g m A c (xs++ys) (K+n):=by
 obtain ⟨v,h1,h2⟩:=hv;exact ⟨⟨v,h1⟩,h2 _ _ _ (by decide) (by decide) h.box,by rw[List.length_append];have:=h.len;omega⟩
theorem intB_le (n:Int):(intB n).length≤10:=numB_len10 (u64_nat n).2
theorem nums1_ew (h:EW w W g m A c xs K) (B:Nat) (a:Int) (hB:W.heap[B]?=some (.cells #[.int .i64 a] 3 (0,0))) (hK:K≤1000000):
  Calls Try.prog 53 #[.pointer (some ⟨g,0,none⟩),.slice (some ⟨B,0,none⟩) 1 1] W fun e W'=>e = .returned (.tuple #[])∧EW w W' g m A c (xs++numsB [a]) (K+10):=by
 have hl:(numsB [a]).length≤10:=by simpa [numsB] using intB_le a
 obtain ⟨v,hv⟩:=h.ws;have:=h.len;exact (nums_calls w W g xs v B [a] 1 1 rfl hv hB (by omega) (by simp)).mono fun e W' k=>⟨k.1,h.step k.2 hl⟩
theorem nums2_ew (h:EW w W g m A c xs K) (B:Nat) (a b:Int) (hB:W.heap[B]?=some (.cells #[.int .i64 a,.int .i64 b] 3 (0,0))) (hK:K≤1000000):
  Calls Try.prog 53 #[.pointer (some ⟨g,0,none⟩),.slice (some ⟨B,0,none⟩) 2 2] W fun e W'=>e = .returned (.tuple #[])∧EW w W' g m A c (xs++numsB [a,b]) (K+20):=by
 have hl:(numsB [a,b]).length≤20:=by have h1:=intB_le a;have h2:=intB_le b;simp[numsB];omega
 obtain ⟨v,hv⟩:=h.ws;have:=h.len;exact (nums_calls w W g xs v B [a,b] 2 2 rfl hv hB (by omega) (by simp)).mono fun e W' k=>⟨k.1,h.step k.2 hl⟩
theorem text_ew (h:EW w W g m A c xs K) (s:ByteArray) (hs:s.size≤100) (hK:K≤1000000):
  Calls Try.prog 57 #[.pointer (some ⟨g,0,none⟩),.string s] W fun e W'=>e = .returned (.tuple #[])∧EW w W' g m A c (xs++textB s) (K+110):=by
 have hl:(textB s).length≤110:=by have:=intB_le s.size;unfold textB;rw[List.length_append,bytesOf_length];omega
 obtain ⟨v,hv⟩:=h.ws;have:=h.len;exact (text_calls w W g xs v s hv (by omega)).mono fun e W' k=>⟨k.1,h.step k.2 hl⟩
theorem call_ew (h:EW w W g m A c xs K) (x:S25) (hK:K≤1000000):
  Calls Try.prog 54 #[.pointer (some ⟨g,0,none⟩),.agg #[.int .i64 x.f0,.int .i64 x.f1]] W fun e W'=>e = .returned (.tuple #[])∧EW w W' g m A c (xs++pairB x) (K+20):=by
 have hl:(pairB x).length≤20:=by have h1:=intB_le x.f0;have h2:=intB_le x.f1;unfold pairB;rw[List.length_append];omega
 obtain ⟨v,hv⟩:=h.ws;have:=h.len;exact (call_calls w W g xs v x hv (by omega)).mono fun e W' k=>⟨k.1,h.step k.2 hl⟩
theorem op_ew (h:EW w W g m A c xs K) (o:Sp.Op) (ho:isI o.a∧isI o.b) (hl:(opB o).length≤100000) (hK:K≤1000000):
  Calls Try.prog 55 #[.pointer (some ⟨g,0,none⟩),.agg #[.int .i64 o.kind,.string o.name,.int .i64 o.a,.int .i64 o.b]] W fun e W'=>e = .returned (.tuple #[])∧EW w W' g m A c (xs++opB o) (K+100000):=by
 obtain ⟨v,hv⟩:=h.ws;have:=h.len;exact (op_calls w W g xs v o ho hv (by omega)).mono fun e W' k=>⟨k.1,h.step k.2 hl⟩
theorem views_ew (h:EW w W g m A c xs K) (A1:Option Addr) (c1:Nat) (l:List S87) (hr:Kd.C k87 w A1 l.length l) (hl0:l.length≤1000) (hl:(listB l).length≤100000) (hK:K≤1000000):
  Calls Try.prog 56 #[.pointer (some ⟨g,0,none⟩),.slice A1 l.length c1] W fun e W'=>e = .returned (.tuple #[])∧EW w W' g m A c (xs++listB l) (K+100000):=by
 obtain ⟨v,hv⟩:=h.ws;have:=h.len;exact (views_calls w W g xs v A1 c1 l hr hl0 hv (by omega)).mono fun e W' k=>⟨k.1,h.step k.2 hl⟩
end
theorem sizes_le {m : Msg} (hv : msgV m) : m.name.size ≤ 100 ∧ (opB m.op).length ≤ 100000 ∧ m.views.length ≤ 1000 ∧ (listB m.views).length ≤ 100000 := by
  have nm:∀ {s:ByteArray},nameOk (bytesOf s)→s.size≤100:=fun h=>by have:=h.2.1;rw[bytesOf_length] at this;omega
  have hlen:=msg_len hv;have h2:=hv.2;unfold msgB restB at hlen;unfold restV at h2
  have oz:(opB zMsg.op).length≤100000:=by
   have h1:=intB_le zMsg.op.kind;have h3:=intB_le (zMsg.op.name.size:Int);have h4:(signB zMsg.op.a).length≤10:=numB_len10 (by decide);have h5:(signB zMsg.op.b).length≤10:=numB_len10 (by decide);unfold opB textB;simp only[List.length_append,bytesOf_length];have:zMsg.op.name.size=0:=rfl;omega
  have lz:(listB []).length≤100000:=by have h1:=intB_le (([]:List S87).length:Int);simp[listB,viewsB] at *;omega
  split at h2
  ·rename_i hk;rw[if_pos hk] at hlen;simp only[List.length_append] at hlen;have e:=h2.2.2;exact ⟨by rw[e];exact Nat.zero_le _,by omega,by rw[e];exact Nat.zero_le _,by rw[e];exact lz⟩
  ·split at h2
   ·have e:=h2.2.2.2.2;exact ⟨nm h2.2.1.1,by rw[e];exact oz,by rw[e];exact Nat.zero_le _,by rw[e];exact lz⟩
   ·split at h2
    ·rename_i h1 h3 hk;rw[if_neg h1,if_neg h3,if_pos hk] at hlen;simp only[List.length_append] at hlen;have e:=h2.2;exact ⟨by rw[e];exact Nat.zero_le _,by rw[e];exact oz,by have:=h2.1.1;omega,by omega⟩
    ·have e:=h2.2.2.2.2.2.2;exact ⟨nm h2.1.1,by rw[e];exact oz,by rw[e];exact Nat.zero_le _,by rw[e];exact lz⟩
theorem enck_calls (m:Msg) (h:isI m.op.a∧isI m.op.b) (A:Option Addr) (c:Nat) (w:World) (hr:Kd.C k87 w A m.views.length m.views) (hc:m.views.length≤c) (hv:msgV m):
  Calls Try.prog 16 #[.agg (MVc m A c)] w fun e w'=>∃ v,e = .returned (.tuple #[v,.int .i64 0])∧Kd.R (Kd.int .u8) 5 w' w.heap.size (fun _=>True) v (msgB m)∧Below w.heap.size w w':=by
 have HN:=Aside0.mk (sizes_le hv);have HV:=Aside0.mk hv;have HR:=Aside0.mk (And.intro hr hc);have HI:=Aside0.mk h;obtain ⟨cb,hcb⟩:∃ cb,dcd (capped m.err)=cb:=⟨_,rfl⟩;have HCB:=Aside0.mk hcb;have HKS:Aside0 (m.kind=1∨(m.kind=2∧cb=true)∨(m.kind=2∧cb=false)∨m.kind=3∨m.kind=4∨m.kind=5∨m.kind=6∨m.kind=7∨m.kind=8∨m.kind=9∨m.kind=10):=⟨by have:=hv.1;cases cb<;>simp<;>omega⟩;clear hv hr hc h hcb;have hu33:=Try.underlying33;have hu23:=Try.underlying23;have hu25:=Try.underlying25;have hu27:=Try.underlying27;have hu29:=Try.underlying29;obtain ⟨wa,hwa⟩:∃ wa,wa=w.alloc (.cells (MVc m A c) 33 (0,0)):=⟨_,rfl⟩;have HWA:=Aside0.mk hwa;have H0:Aside0 (Below w.heap.size w wa∧wa.heap[w.heap.size]?=some (.cells (MVc m A c) 33 (0,0))):=⟨by rw[hwa];exact ⟨(Below.refl _ _).alloc (Nat.le_refl _) _,heap_alloc_new w _⟩⟩;clear hwa;go_enter Try.func16,Try.ntmps16
 go_upto_region 1 with fail
 rw[←HWA.out]
 go_upto_region 3 with (first
  | ((with_reducible refine gate_dst (N:=5) rfl ?_);refine wpList_load_row rfl 33 (.tmp 1) rfl w.heap.size (by rfl) 33 (MVc m A c) (0,0) _ H0.out.2 hu33 rfl inf33 ?_)
  | (go_at_call 21;refine (valid_calls m HI.out A c _ (Kd.C_below HR.out.1 H0.out.1) HR.out.2).mono ?_;rintro e w0 ⟨rfl,hb⟩;rw[dcd_pos HV.out];have H1:=Aside0.mk (And.intro (below_step H0.out.1 hb) (blk_keep hb H0.out.2));clear hb))
 obtain ⟨w1,hw1⟩:∃ w1,w1=w0.alloc (.cells #[.slice none 0 0] 99 (0,0)):=⟨_,rfl⟩;have HW1:=Aside0.mk hw1;have E1:Aside0 (EW w w1 w0.heap.size m A c [] 0):=⟨by rw[hw1];exact ⟨⟨_,heap_alloc_new w0 _,H1.out.1.size,Kd.R_nil _ _ _ _ _,below_alloc H1.out.1 _⟩,blk_keep (al_below w0 _) H1.out.2,Nat.le_refl _⟩⟩;clear hw1 H0 H1;go_upto_region 4 with fail
 rw[←HW1.out];obtain ⟨kz0,kz1,kz2,kz3,kz4,kz5,kz6,kz7,kz8,kz9,kz10,kz11,kz12,kz13,kz14,kz15,kz16,kz17,kz18,kz19⟩:=mcells E1.out.box;go_upto_region 6 with (go_at_call 53;(with_reducible refine (nums1_ew (E1.out.new _) _ _ (heap_alloc_new _ _) (by omega)).mono ?_);rintro e wn ⟨rfl,hE⟩;have n0_:=Aside0.mk hE;clear E1 hE kz0 kz1 kz2 kz3 kz4 kz5 kz6 kz7 kz8 kz9 kz10 kz11 kz12 kz13 kz14 kz15 kz16 kz17 kz18 kz19;(try clear kw HW);have E1:=n0_;clear n0_;obtain ⟨kz0,kz1,kz2,kz3,kz4,kz5,kz6,kz7,kz8,kz9,kz10,kz11,kz12,kz13,kz14,kz15,kz16,kz17,kz18,kz19⟩:=mcells E1.out.box;obtain ⟨vz,hws⟩:=E1.out.ws;obtain ⟨Az,nz,cz,rfl⟩:=R_sl hws.row;have kw:wn.cell? ⟨w0.heap.size,0,none⟩=some (.slice Az nz cz):=(blk_cell hws.blk 0).trans rfl;have HW:=Aside0.mk hws;clear hws)
 rcases HKS.out with hk|⟨hk,rfl⟩|⟨hk,rfl⟩|hk|hk|hk|hk|hk|hk|hk|hk
 all_goals
  (first|have t1:(m.kind == 1)=true:=by simp[hk]|have t1:(m.kind == 1)=false:=by simp[hk])
  (first|have t2:(m.kind == 2)=true:=by simp[hk]|have t2:(m.kind == 2)=false:=by simp[hk])
  (first|have t3:(m.kind == 3)=true:=by simp[hk]|have t3:(m.kind == 3)=false:=by simp[hk])
  (first|have t4:(m.kind == 4)=true:=by simp[hk]|have t4:(m.kind == 4)=false:=by simp[hk])
  (first|have t5:(m.kind == 5)=true:=by simp[hk]|have t5:(m.kind == 5)=false:=by simp[hk])
  (first|have t6:(m.kind == 6)=true:=by simp[hk]|have t6:(m.kind == 6)=false:=by simp[hk])
  (first|have t7:(m.kind == 7)=true:=by simp[hk]|have t7:(m.kind == 7)=false:=by simp[hk])
  (first|have t10:(m.kind == 10)=true:=by simp[hk]|have t10:(m.kind == 10)=false:=by simp[hk])
  have HKK:=Aside0.mk hk;clear hk HWA HW1 HKS
  go_wp2_with (first
   | (go_at_call 53;(with_reducible refine (nums2_ew (E1.out.new _) _ _ _ (heap_alloc_new _ _) (by omega)).mono ?_);rintro e wn ⟨rfl,hE⟩;have n0_:=Aside0.mk hE;clear E1 hE kz0 kz1 kz2 kz3 kz4 kz5 kz6 kz7 kz8 kz9 kz10 kz11 kz12 kz13 kz14 kz15 kz16 kz17 kz18 kz19;(try clear kw HW);have E1:=n0_;clear n0_;obtain ⟨kz0,kz1,kz2,kz3,kz4,kz5,kz6,kz7,kz8,kz9,kz10,kz11,kz12,kz13,kz14,kz15,kz16,kz17,kz18,kz19⟩:=mcells E1.out.box;obtain ⟨vz,hws⟩:=E1.out.ws;obtain ⟨Az,nz,cz,rfl⟩:=R_sl hws.row;have kw:wn.cell? ⟨w0.heap.size,0,none⟩=some (.slice Az nz cz):=(blk_cell hws.blk 0).trans rfl;have HW:=Aside0.mk hws;clear hws)
   | (go_at_call 53;(with_reducible refine (nums1_ew (E1.out.new _) _ _ (heap_alloc_new _ _) (by omega)).mono ?_);rintro e wn ⟨rfl,hE⟩;have n0_:=Aside0.mk hE;clear E1 hE kz0 kz1 kz2 kz3 kz4 kz5 kz6 kz7 kz8 kz9 kz10 kz11 kz12 kz13 kz14 kz15 kz16 kz17 kz18 kz19;(try clear kw HW);have E1:=n0_;clear n0_;obtain ⟨kz0,kz1,kz2,kz3,kz4,kz5,kz6,kz7,kz8,kz9,kz10,kz11,kz12,kz13,kz14,kz15,kz16,kz17,kz18,kz19⟩:=mcells E1.out.box;obtain ⟨vz,hws⟩:=E1.out.ws;obtain ⟨Az,nz,cz,rfl⟩:=R_sl hws.row;have kw:wn.cell? ⟨w0.heap.size,0,none⟩=some (.slice Az nz cz):=(blk_cell hws.blk 0).trans rfl;have HW:=Aside0.mk hws;clear hws)
   | (go_at_call 57;(with_reducible refine (text_ew E1.out m.name HN.out.1 (by omega)).mono ?_);rintro e wn ⟨rfl,hE⟩;have n0_:=Aside0.mk hE;clear E1 hE kz0 kz1 kz2 kz3 kz4 kz5 kz6 kz7 kz8 kz9 kz10 kz11 kz12 kz13 kz14 kz15 kz16 kz17 kz18 kz19;(try clear kw HW);have E1:=n0_;clear n0_;obtain ⟨kz0,kz1,kz2,kz3,kz4,kz5,kz6,kz7,kz8,kz9,kz10,kz11,kz12,kz13,kz14,kz15,kz16,kz17,kz18,kz19⟩:=mcells E1.out.box;obtain ⟨vz,hws⟩:=E1.out.ws;obtain ⟨Az,nz,cz,rfl⟩:=R_sl hws.row;have kw:wn.cell? ⟨w0.heap.size,0,none⟩=some (.slice Az nz cz):=(blk_cell hws.blk 0).trans rfl;have HW:=Aside0.mk hws;clear hws)
   | (go_at_call 54;(with_reducible refine (call_ew E1.out m.call (by omega)).mono ?_);rintro e wn ⟨rfl,hE⟩;have n0_:=Aside0.mk hE;clear E1 hE kz0 kz1 kz2 kz3 kz4 kz5 kz6 kz7 kz8 kz9 kz10 kz11 kz12 kz13 kz14 kz15 kz16 kz17 kz18 kz19;(try clear kw HW);have E1:=n0_;clear n0_;obtain ⟨kz0,kz1,kz2,kz3,kz4,kz5,kz6,kz7,kz8,kz9,kz10,kz11,kz12,kz13,kz14,kz15,kz16,kz17,kz18,kz19⟩:=mcells E1.out.box;obtain ⟨vz,hws⟩:=E1.out.ws;obtain ⟨Az,nz,cz,rfl⟩:=R_sl hws.row;have kw:wn.cell? ⟨w0.heap.size,0,none⟩=some (.slice Az nz cz):=(blk_cell hws.blk 0).trans rfl;have HW:=Aside0.mk hws;clear hws)
   | (go_at_call 55;(with_reducible refine (op_ew E1.out m.op HI.out HN.out.2.1 (by omega)).mono ?_);rintro e wn ⟨rfl,hE⟩;have n0_:=Aside0.mk hE;clear E1 hE kz0 kz1 kz2 kz3 kz4 kz5 kz6 kz7 kz8 kz9 kz10 kz11 kz12 kz13 kz14 kz15 kz16 kz17 kz18 kz19;(try clear kw HW);have E1:=n0_;clear n0_;obtain ⟨kz0,kz1,kz2,kz3,kz4,kz5,kz6,kz7,kz8,kz9,kz10,kz11,kz12,kz13,kz14,kz15,kz16,kz17,kz18,kz19⟩:=mcells E1.out.box;obtain ⟨vz,hws⟩:=E1.out.ws;obtain ⟨Az,nz,cz,rfl⟩:=R_sl hws.row;have kw:wn.cell? ⟨w0.heap.size,0,none⟩=some (.slice Az nz cz):=(blk_cell hws.blk 0).trans rfl;have HW:=Aside0.mk hws;clear hws)
   | (go_at_call 56;(with_reducible refine (views_ew E1.out A c m.views HR.out.1 HN.out.2.2.1 HN.out.2.2.2 (by omega)).mono ?_);rintro e wn ⟨rfl,hE⟩;have n0_:=Aside0.mk hE;clear E1 hE kz0 kz1 kz2 kz3 kz4 kz5 kz6 kz7 kz8 kz9 kz10 kz11 kz12 kz13 kz14 kz15 kz16 kz17 kz18 kz19;(try clear kw HW);have E1:=n0_;clear n0_;obtain ⟨kz0,kz1,kz2,kz3,kz4,kz5,kz6,kz7,kz8,kz9,kz10,kz11,kz12,kz13,kz14,kz15,kz16,kz17,kz18,kz19⟩:=mcells E1.out.box;obtain ⟨vz,hws⟩:=E1.out.ws;obtain ⟨Az,nz,cz,rfl⟩:=R_sl hws.row;have kw:wn.cell? ⟨w0.heap.size,0,none⟩=some (.slice Az nz cz):=(blk_cell hws.blk 0).trans rfl;have HW:=Aside0.mk hws;clear hws)
   | (go_at_call 58;refine (capped_calls _ _).mono ?_;rintro e wn ⟨rfl,hb⟩;rw[HCB.out];have hE:=E1.out.below hb;clear hb;have n0_:=Aside0.mk hE;clear E1 hE kz0 kz1 kz2 kz3 kz4 kz5 kz6 kz7 kz8 kz9 kz10 kz11 kz12 kz13 kz14 kz15 kz16 kz17 kz18 kz19;(try clear kw HW);have E1:=n0_;clear n0_;obtain ⟨kz0,kz1,kz2,kz3,kz4,kz5,kz6,kz7,kz8,kz9,kz10,kz11,kz12,kz13,kz14,kz15,kz16,kz17,kz18,kz19⟩:=mcells E1.out.box;obtain ⟨vz,hws⟩:=E1.out.ws;obtain ⟨Az,nz,cz,rfl⟩:=R_sl hws.row;have kw:wn.cell? ⟨w0.heap.size,0,none⟩=some (.slice Az nz cz):=(blk_cell hws.blk 0).trans rfl;have HW:=Aside0.mk hws;clear hws))
  go_ret2
  refine ⟨.slice Az nz cz,rfl,?_,HW.out.bel⟩;have hrow:=HW.out.row;have hcc:=HCB.out;unfold msgB restB
  (first|(simpa [HKK.out,optB,hasEp,hasRt,numsB,pairB,capOf] using hrow)|(have hcp:capped m.err:=dcd_iff.mp hcc;simpa [HKK.out,optB,hasEp,hasRt,numsB,pairB,capOf,hcp] using hrow)|(have hcp:¬capped m.err:=fun hh=>Bool.noConfusion ((dcd_pos hh).symm.trans hcc);simpa [HKK.out,optB,hasEp,hasRt,numsB,pairB,capOf,hcp] using hrow))
end Go.Proofs.Ytpgdmmjbhjbbhaa.En
end
section
namespace Go.Proofs.Ytpgdmmjbhjbbhaa.En
open Go Go.RowKit P Sp Vd Wr YtpgdmmjbhjbbhaaW.PrintWords YtpgdmmjbhjbbhaaW.PrintLast YtpgdmmjbhjbbhaaW.PrintMore
theorem lay_ok {α:Type} {e:α→List Int} {v:α→Prop} {x:α} (h:v x):lay e v x=(e x,0):=by unfold lay;rw[if_pos (dcd_pos h)]
theorem lay_no {α:Type} {e:α→List Int} {v:α→Prop} {x:α} (h:¬v x):lay e v x=([],21):=by unfold lay;rw[if_neg (by rw[dcd_neg h];decide)]
theorem enc0_calls (m:Msg) (h:isI m.op.a∧isI m.op.b) (A:Option Addr) (c:Nat) (w:World) (hr:Kd.C k87 w A m.views.length m.views) (hc:m.views.length≤c) (hv:¬msgV m):
  Calls Try.prog 16 #[MV m A c] w fun e w'=>e = .returned (.tuple #[.slice none 0 0,.int .i64 21])∧Below w.heap.size w w':=by
 have HV:=Aside0.mk hv;have HR:=Aside0.mk hr;have HC:=Aside0.mk hc;have HI:=Aside0.mk h;clear hv hr hc h;have hu33:=Try.underlying33;obtain ⟨wa,hwa⟩:∃ wa,wa=w.alloc (.cells (MVc m A c) 33 (0,0)):=⟨_,rfl⟩;have HWA:=Aside0.mk hwa;have HB:Aside0 (Below w.heap.size w wa):=⟨by rw[hwa];exact (Below.refl _ _).alloc (Nat.le_refl _) _⟩;have BK:Aside0 (wa.heap[w.heap.size]?=some (.cells (MVc m A c) 33 (0,0))):=⟨by rw[hwa];exact heap_alloc_new w _⟩;clear hwa;go_enter Try.func16,Try.ntmps16
 unfold MV;go_upto_region 1 with fail
 rw[←HWA.out];go_wp2_with (first|((with_reducible refine gate_dst (N:=5) rfl ?_);refine wpList_load_row rfl 33 (.tmp 1) rfl w.heap.size (by rfl) 33 (MVc m A c) (0,0) _ BK.out Try.underlying33 rfl inf33 ?_)|(go_at_call 21;refine (valid_calls m HI.out A c _ (Kd.C_below HR.out HB.out) HC.out).mono ?_;rintro e w0 ⟨rfl,hb⟩;rw[dcd_neg HV.out];have n0_:=Aside0.mk (below_step HB.out hb);clear HB BK hb;have HB:=n0_;clear n0_))
 go_ret2
 exact ⟨rfl,HB.out⟩
theorem encode_calls (m:Msg) (h:isI m.op.a∧isI m.op.b) (A:Option Addr) (c:Nat) (w:World) (hr:Kd.C k87 w A m.views.length m.views) (hc:m.views.length≤c):
  Calls Try.prog 16 #[MV m A c] w fun e w'=>∃ v,e = .returned (.tuple #[v,.int .i64 (lay msgB msgV m).2])∧Kd.R (Kd.int .u8) 5 w' w.heap.size (fun _=>True) v (lay msgB msgV m).1∧Below w.heap.size w w':=by
 by_cases hv:msgV m
 ·rw[lay_ok hv];exact enck_calls m h A c w hr hc hv
 ·rw[lay_no hv];refine (enc0_calls m h A c w hr hc hv).mono ?_;rintro e w' ⟨rfl,hb⟩;exact ⟨_,rfl,Kd.R_nil _ _ _ _ _,hb⟩
theorem inf27:(Try.prog.info? 27).map (·.size)=some 2:=by kernel_rfl
theorem inf29:(Try.prog.info? 29).map (·.size)=some 4:=by kernel_rfl
theorem below_al2 (w:World) (o p:Obj):Below w.heap.size w ((w.alloc o).alloc p):=(al_below w o).alloc (by simp) p
theorem encreq1_calls (x:S25) (o:Sp.Op) (w:World) (h1:callV x) (h2:opV o):
  Calls Try.prog 32 #[.agg #[.int .i64 x.f0,.int .i64 x.f1],.agg #[.int .i64 o.kind,.string o.name,.int .i64 o.a,.int .i64 o.b]] w fun e w'=>∃ v,e = .returned (.tuple #[v,.int .i64 0])∧Kd.R (Kd.int .u8) 5 w' w.heap.size (fun _=>True) v (reqB (x,o))∧Below w.heap.size w w':=by
 have hb1:=dcd_pos (p:=callV ⟨x.f0,x.f1⟩) h1;have hb2:=(oB_iff o h2.2.2).mpr h2;have HLEN:Aside0 ((pairB x).length≤12∧(opB o).length≤38):=⟨call12 h1,op_len h2⟩;have HI:=Aside0.mk h2.2.2;clear h1 h2;obtain ⟨wa,hwa⟩:∃ wa,wa=(w.alloc (.cells #[.int .i64 x.f0,.int .i64 x.f1] 27 (0,0))).alloc (.cells #[.int .i64 o.kind,.string o.name,.int .i64 o.a,.int .i64 o.b] 29 (0,0)):=⟨_,rfl⟩;have HWA:=Aside0.mk hwa;have HB:Aside0 (Below w.heap.size w wa):=⟨by rw[hwa];exact below_al2 w _ _⟩;have BK1:Aside0 (wa.heap[w.heap.size]?=some (.cells #[.int .i64 x.f0,.int .i64 x.f1] 27 (0,0))):=⟨by rw[hwa];exact (Below.heap_alloc _ _ _ (by simp)).trans (heap_alloc_new w _)⟩;have BK2:Aside0 (wa.heap[w.heap.size+1]?=some (.cells #[.int .i64 o.kind,.string o.name,.int .i64 o.a,.int .i64 o.b] 29 (0,0))):=⟨by rw[hwa];have:=heap_alloc_new (w.alloc (.cells #[.int .i64 x.f0,.int .i64 x.f1] 27 (0,0))) (.cells #[.int .i64 o.kind,.string o.name,.int .i64 o.a,.int .i64 o.b] 29 (0,0));simpa using this⟩;clear hwa;go_enter Try.func32,Try.ntmps32
 go_upto_region 1 with fail
 rw[←HWA.out];go_upto_region 3 with (first|((with_reducible refine gate_dst (N:=7) rfl ?_);refine wpList_load_row rfl 27 (.tmp 2) rfl w.heap.size (by rfl) 27 _ (0,0) _ BK1.out Try.underlying27 rfl inf27 ?_)|((with_reducible refine gate_dst (N:=11) rfl ?_);refine gate_guard (by kernel_rfl) ?_;refine wpList_load_row rfl 29 (.tmp 3) rfl (w.heap.size+1) (by rfl) 29 _ (0,0) _ BK2.out Try.underlying29 rfl inf29 ?_)|(go_at_call 63;refine (rightCall_calls _ x.f0 x.f1).mono ?_;rintro e w1 ⟨rfl,hb⟩;have n0_:=Aside0.mk (below_step HB.out hb);have n1_:=Aside0.mk (blk_keep hb BK1.out);have n2_:=Aside0.mk (blk_keep hb BK2.out);clear HB BK1 BK2 hb;have HB:=n0_;have BK1:=n1_;have BK2:=n2_;clear n0_ n1_ n2_;rw[hb1])|(go_at_call 64;refine (rightOp_calls _ o.kind o.name o.a o.b).mono ?_;rintro e w0 ⟨rfl,hb⟩;have n0_:=Aside0.mk (below_step HB.out hb);have n1_:=Aside0.mk (blk_keep hb BK1.out);have n2_:=Aside0.mk (blk_keep hb BK2.out);clear HB BK1 BK2 hb;have HB:=n0_;have BK1:=n1_;have BK2:=n2_;clear n0_ n1_ n2_;rw[hb2]))
 obtain ⟨w1,hw1⟩:∃ w1,w1=w0.alloc (.cells #[.slice none 0 0] 99 (0,0)):=⟨_,rfl⟩;have HW1:=Aside0.mk hw1;have HS0:Aside0 (WS w w1 w0.heap.size [] (.slice none 0 0)):=⟨by rw[hw1];exact ⟨heap_alloc_new w0 _,HB.out.size,Kd.R_nil _ _ _ _ _,below_alloc HB.out _⟩⟩;have HX1:Aside0 (w1.heap[w.heap.size]?=some (.cells #[.int .i64 x.f0,.int .i64 x.f1] 27 (0,0))):=⟨by rw[hw1];exact blk_keep (al_below w0 _) BK1.out⟩;have HX2:Aside0 (w1.heap[w.heap.size+1]?=some (.cells #[.int .i64 o.kind,.string o.name,.int .i64 o.a,.int .i64 o.b] 29 (0,0))):=⟨by rw[hw1];exact blk_keep (al_below w0 _) BK2.out⟩;clear hw1;go_upto_region 4 with fail
 rw[←HW1.out];have HB0:Aside0 (([]:List Int).length+(pairB x).length≤1099511627776):=⟨by have:=HLEN.out.1;simp only[List.length_nil];omega⟩;go_upto_region 5 with (first|((with_reducible refine gate_dst (N:=18) rfl ?_);refine wpList_load_row rfl 27 (.tmp 2) rfl w.heap.size (by rfl) 27 _ (0,0) _ HX1.out Try.underlying27 rfl inf27 ?_)|(go_at_call 54;refine (call_calls w _ _ [] (.slice none 0 0) x HS0.out HB0.out).mono ?_;rintro e w2 ⟨rfl,v2,hS1,hst⟩;have HS1:=Aside0.mk hS1;have HX3:=Aside0.mk (hst _ _ _ (by decide) (by decide) HX2.out);clear hS1 hst))
 have HB1:Aside0 (([]++pairB x).length+(opB o).length≤1099511627776):=⟨by have:=HLEN.out;simp only[List.length_append,List.length_nil];omega⟩;go_upto_region 6 with (first|((with_reducible refine gate_dst (N:=21) rfl ?_);refine wpList_load_row rfl 29 (.tmp 3) rfl (w.heap.size+1) (by rfl) 29 _ (0,0) _ HX3.out Try.underlying29 rfl inf29 ?_)|(go_at_call 55;refine (op_calls w _ _ ([]++pairB x) v2 o HI.out HS1.out HB1.out).mono ?_;rintro e w3 ⟨rfl,v3,hS1,hst⟩;have HS2:=Aside0.mk hS1;clear hS1 hst))
 obtain ⟨Az,nz,cz,rfl⟩:=R_sl HS2.out.row;have kw:w3.cell? ⟨w0.heap.size,0,none⟩=some (.slice Az nz cz):=(blk_cell HS2.out.blk 0).trans rfl;go_wp2_with fail
 go_ret2
 refine ⟨.slice Az nz cz,rfl,?_,HS2.out.bel⟩;have hrow:=HS2.out.row;rw[show []++pairB x++opB o=reqB (x,o) from rfl] at hrow;exact hrow
theorem encreq0_calls (x:S25) (o:Sp.Op) (w:World) (h:¬(dcd (callV ⟨x.f0,x.f1⟩)=true∧oB o.kind o.name=true)):
  Calls Try.prog 32 #[.agg #[.int .i64 x.f0,.int .i64 x.f1],.agg #[.int .i64 o.kind,.string o.name,.int .i64 o.a,.int .i64 o.b]] w fun e w'=>e = .returned (.tuple #[.slice none 0 0,.int .i64 21])∧Below w.heap.size w w':=by
 obtain ⟨wa,hwa⟩:∃ wa,wa=(w.alloc (.cells #[.int .i64 x.f0,.int .i64 x.f1] 27 (0,0))).alloc (.cells #[.int .i64 o.kind,.string o.name,.int .i64 o.a,.int .i64 o.b] 29 (0,0)):=⟨_,rfl⟩;have HWA:=Aside0.mk hwa;have HB:Aside0 (Below w.heap.size w wa):=⟨by rw[hwa];exact below_al2 w _ _⟩;have BK1:Aside0 (wa.heap[w.heap.size]?=some (.cells #[.int .i64 x.f0,.int .i64 x.f1] 27 (0,0))):=⟨by rw[hwa];exact (Below.heap_alloc _ _ _ (by simp)).trans (heap_alloc_new w _)⟩;have BK2:Aside0 (wa.heap[w.heap.size+1]?=some (.cells #[.int .i64 o.kind,.string o.name,.int .i64 o.a,.int .i64 o.b] 29 (0,0))):=⟨by rw[hwa];have:=heap_alloc_new (w.alloc (.cells #[.int .i64 x.f0,.int .i64 x.f1] 27 (0,0))) (.cells #[.int .i64 o.kind,.string o.name,.int .i64 o.a,.int .i64 o.b] 29 (0,0));simpa using this⟩;clear hwa;go_enter Try.func32,Try.ntmps32
 go_upto_region 1 with fail
 rw[←HWA.out];by_cases hb1:dcd (callV ⟨x.f0,x.f1⟩)=true
 ·have hb2:oB o.kind o.name=false:=by cases hh:oB o.kind o.name with|false=>rfl|true=>exact absurd ⟨hb1,hh⟩ h
  clear h;go_wp2_with (first|((with_reducible refine gate_dst (N:=7) rfl ?_);refine wpList_load_row rfl 27 (.tmp 2) rfl w.heap.size (by rfl) 27 _ (0,0) _ BK1.out Try.underlying27 rfl inf27 ?_)|((with_reducible refine gate_dst (N:=11) rfl ?_);refine gate_guard (by kernel_rfl) ?_;refine wpList_load_row rfl 29 (.tmp 3) rfl (w.heap.size+1) (by rfl) 29 _ (0,0) _ BK2.out Try.underlying29 rfl inf29 ?_)|(go_at_call 63;refine (rightCall_calls _ x.f0 x.f1).mono ?_;rintro e w1 ⟨rfl,hb⟩;have n0_:=Aside0.mk (below_step HB.out hb);have n1_:=Aside0.mk (blk_keep hb BK1.out);have n2_:=Aside0.mk (blk_keep hb BK2.out);clear HB BK1 BK2 hb;have HB:=n0_;have BK1:=n1_;have BK2:=n2_;clear n0_ n1_ n2_;rw[hb1])|(go_at_call 64;refine (rightOp_calls _ o.kind o.name o.a o.b).mono ?_;rintro e w0 ⟨rfl,hb⟩;have n0_:=Aside0.mk (below_step HB.out hb);have n1_:=Aside0.mk (blk_keep hb BK1.out);have n2_:=Aside0.mk (blk_keep hb BK2.out);clear HB BK1 BK2 hb;have HB:=n0_;have BK1:=n1_;have BK2:=n2_;clear n0_ n1_ n2_;rw[hb2]))
  go_ret2
  exact ⟨rfl,HB.out⟩
 ·replace hb1:dcd (callV ⟨x.f0,x.f1⟩)=false:=by cases hh:dcd (callV ⟨x.f0,x.f1⟩) with|false=>rfl|true=>exact absurd hh hb1
  clear h;go_wp2_with (first|((with_reducible refine gate_dst (N:=7) rfl ?_);refine wpList_load_row rfl 27 (.tmp 2) rfl w.heap.size (by rfl) 27 _ (0,0) _ BK1.out Try.underlying27 rfl inf27 ?_)|(go_at_call 63;refine (rightCall_calls _ x.f0 x.f1).mono ?_;rintro e w1 ⟨rfl,hb⟩;have n0_:=Aside0.mk (below_step HB.out hb);have n1_:=Aside0.mk (blk_keep hb BK1.out);have n2_:=Aside0.mk (blk_keep hb BK2.out);clear HB BK1 BK2 hb;have HB:=n0_;have BK1:=n1_;have BK2:=n2_;clear n0_ n1_ n2_;rw[hb1]))
  go_ret2
  exact ⟨rfl,HB.out⟩
theorem encrep1_calls (r:Rep) (w:World) (h:repV r):
  Calls Try.prog 34 #[.agg #[.int .i64 r.call.f0,.int .i64 r.call.f1,.int .i64 r.err,.int .i64 r.value]] w fun e w'=>∃ v,e = .returned (.tuple #[v,.int .i64 0])∧Kd.R (Kd.int .u8) 5 w' w.heap.size (fun _=>True) v (repB r)∧Below w.heap.size w w':=by
 have hb1:=dcd_pos (p:=callV ⟨r.call.f0,r.call.f1⟩) h.1;have hb2:bB r.err 0 255=true:=dcd_pos h.2.1;have HLEN:Aside0 ((pairB r.call).length≤12∧(intB r.err).length≤2∧(signB r.value).length≤10):=⟨call12 h.1,int2 h.2.1.1 (by have:=h.2.1.2;omega),sign10 h.2.2⟩;have HI:=Aside0.mk h.2.2;clear h;have hu50:=Try.underlying50;have hu27:=Try.underlying27;obtain ⟨wa,hwa⟩:∃ wa,wa=w.alloc (.cells #[.int .i64 r.call.f0,.int .i64 r.call.f1,.int .i64 r.err,.int .i64 r.value] 50 (0,0)):=⟨_,rfl⟩;have HWA:=Aside0.mk hwa;have HB:Aside0 (Below w.heap.size w wa):=⟨by rw[hwa];exact al_below w _⟩;have BK1:Aside0 (wa.heap[w.heap.size]?=some (.cells #[.int .i64 r.call.f0,.int .i64 r.call.f1,.int .i64 r.err,.int .i64 r.value] 50 (0,0))):=⟨by rw[hwa];exact heap_alloc_new w _⟩;clear hwa;have kz0:wa.cell? ⟨w.heap.size,0,none⟩=some (.int .i64 r.call.f0):=(blk_cell BK1.out 0).trans rfl;have kz1:wa.cell? ⟨w.heap.size,1,none⟩=some (.int .i64 r.call.f1):=(blk_cell BK1.out 1).trans rfl;have kz2:wa.cell? ⟨w.heap.size,2,none⟩=some (.int .i64 r.err):=(blk_cell BK1.out 2).trans rfl;go_enter Try.func34,Try.ntmps34
 go_upto_region 1 with fail
 rw[←HWA.out];go_upto_region 3 with (first|(go_at_call 63;refine (rightCall_calls _ r.call.f0 r.call.f1).mono ?_;rintro e w1 ⟨rfl,hb⟩;have n0_:=Aside0.mk (below_step HB.out hb);have n1_:=Aside0.mk (blk_keep hb BK1.out);clear HB BK1 hb;have HB:=n0_;have BK1:=n1_;clear n0_ n1_;rw[hb1];have kz2:w1.cell? ⟨w.heap.size,2,none⟩=some (.int .i64 r.err):=(blk_cell BK1.out 2).trans rfl)|(go_at_call 66;refine (between_calls _ r.err 0 255).mono ?_;rintro e w0 ⟨rfl,hb⟩;have n0_:=Aside0.mk (below_step HB.out hb);have n1_:=Aside0.mk (blk_keep hb BK1.out);clear HB BK1 hb;have HB:=n0_;have BK1:=n1_;clear n0_ n1_;rw[hb2]))
 obtain ⟨w1,hw1⟩:∃ w1,w1=w0.alloc (.cells #[.slice none 0 0] 99 (0,0)):=⟨_,rfl⟩;have HW1:=Aside0.mk hw1;have HS0:Aside0 (WS w w1 w0.heap.size [] (.slice none 0 0)):=⟨by rw[hw1];exact ⟨heap_alloc_new w0 _,HB.out.size,Kd.R_nil _ _ _ _ _,below_alloc HB.out _⟩⟩;have HX1:Aside0 (w1.heap[w.heap.size]?=some (.cells #[.int .i64 r.call.f0,.int .i64 r.call.f1,.int .i64 r.err,.int .i64 r.value] 50 (0,0))):=⟨by rw[hw1];exact blk_keep (al_below w0 _) BK1.out⟩;clear hw1;go_upto_region 4 with fail
 rw[←HW1.out];have HB0:Aside0 (([]:List Int).length+(pairB r.call).length≤1099511627776):=⟨by have:=HLEN.out.1;simp only[List.length_nil];omega⟩;have ky0:w1.cell? ⟨w.heap.size,0,none⟩=some (.int .i64 r.call.f0):=(blk_cell HX1.out 0).trans rfl;have ky1:w1.cell? ⟨w.heap.size,1,none⟩=some (.int .i64 r.call.f1):=(blk_cell HX1.out 1).trans rfl;go_upto_region 5 with (go_at_call 54;refine (call_calls w _ _ [] (.slice none 0 0) r.call HS0.out HB0.out).mono ?_;rintro e w2 ⟨rfl,v2,hS1,hst⟩;have HS1:=Aside0.mk hS1;have HST1:=Aside0.mk hst;clear hS1 hst ky0 ky1)
 have kx2:w2.cell? ⟨w.heap.size,2,none⟩=some (.int .i64 r.err):=(box_stay HX1.out (by decide) (by decide) HST1.out 2).trans rfl;have HL1:Aside0 (IsL (w2.alloc (.cells #[.int .i64 r.err] 3 (0,0))) w2.heap.size [r.err]):=⟨heap_alloc_new w2 _⟩;have HB1:Aside0 (([]++pairB r.call).length+(numsB [r.err]).length≤1099511627776):=⟨by rw[numsB1];have:=HLEN.out;simp only[List.length_append,List.length_nil];omega⟩;go_upto_region 6 with (go_at_call 53;refine (nums_calls w _ _ ([]++pairB r.call) v2 _ [r.err] _ _ rfl (HS1.out.below (al_below w2 _)) HL1.out HB1.out (by simp)).mono ?_;rintro e w3 ⟨rfl,v3,hS1,hst⟩;rw[numsB1] at hS1;have HS2:=Aside0.mk hS1;have HST2:Aside0 (Stay w1 w3):=⟨HST1.out.trans ((Stay.below (al_below w2 _)).trans hst)⟩;clear hS1 hst kx2)
 have kx3:w3.cell? ⟨w.heap.size,3,none⟩=some (.int .i64 r.value):=(box_stay HX1.out (by decide) (by decide) HST2.out 3).trans rfl;have HB2:Aside0 (([]++pairB r.call++intB r.err).length+(signB r.value).length≤1099511627776):=⟨by have:=HLEN.out;simp only[List.length_append,List.length_nil];omega⟩;go_upto_region 7 with (go_at_call 85;refine (signed_calls w _ _ ([]++pairB r.call++intB r.err) v3 r.value HI.out HS2.out HB2.out).mono ?_;rintro e w4 ⟨rfl,v4,hS1,hst⟩;have HS3:=Aside0.mk hS1;clear hS1 hst kx3)
 obtain ⟨Az,nz,cz,rfl⟩:=R_sl HS3.out.row;have kw:w4.cell? ⟨w0.heap.size,0,none⟩=some (.slice Az nz cz):=(blk_cell HS3.out.blk 0).trans rfl;go_wp2_with fail
 go_ret2
 refine ⟨.slice Az nz cz,rfl,?_,HS3.out.bel⟩;have hrow:=HS3.out.row;rw[show []++pairB r.call++intB r.err++signB r.value=repB r from by simp[repB]] at hrow;exact hrow
theorem encrep0_calls (r:Rep) (w:World) (h:¬(dcd (callV ⟨r.call.f0,r.call.f1⟩)=true∧bB r.err 0 255=true)):
  Calls Try.prog 34 #[.agg #[.int .i64 r.call.f0,.int .i64 r.call.f1,.int .i64 r.err,.int .i64 r.value]] w fun e w'=>e = .returned (.tuple #[.slice none 0 0,.int .i64 21])∧Below w.heap.size w w':=by
 have hu50:=Try.underlying50;have hu27:=Try.underlying27;obtain ⟨wa,hwa⟩:∃ wa,wa=w.alloc (.cells #[.int .i64 r.call.f0,.int .i64 r.call.f1,.int .i64 r.err,.int .i64 r.value] 50 (0,0)):=⟨_,rfl⟩;have HWA:=Aside0.mk hwa;have HB:Aside0 (Below w.heap.size w wa):=⟨by rw[hwa];exact al_below w _⟩;have BK1:Aside0 (wa.heap[w.heap.size]?=some (.cells #[.int .i64 r.call.f0,.int .i64 r.call.f1,.int .i64 r.err,.int .i64 r.value] 50 (0,0))):=⟨by rw[hwa];exact heap_alloc_new w _⟩;clear hwa;have kz0:wa.cell? ⟨w.heap.size,0,none⟩=some (.int .i64 r.call.f0):=(blk_cell BK1.out 0).trans rfl;have kz1:wa.cell? ⟨w.heap.size,1,none⟩=some (.int .i64 r.call.f1):=(blk_cell BK1.out 1).trans rfl;have kz2:wa.cell? ⟨w.heap.size,2,none⟩=some (.int .i64 r.err):=(blk_cell BK1.out 2).trans rfl;go_enter Try.func34,Try.ntmps34
 go_upto_region 1 with fail
 rw[←HWA.out];by_cases hb1:dcd (callV ⟨r.call.f0,r.call.f1⟩)=true
 ·have hb2:bB r.err 0 255=false:=by cases hh:bB r.err 0 255 with|false=>rfl|true=>exact absurd ⟨hb1,hh⟩ h
  clear h;go_wp2_with (first|(go_at_call 63;refine (rightCall_calls _ r.call.f0 r.call.f1).mono ?_;rintro e w1 ⟨rfl,hb⟩;have n0_:=Aside0.mk (below_step HB.out hb);have n1_:=Aside0.mk (blk_keep hb BK1.out);clear HB BK1 hb;have HB:=n0_;have BK1:=n1_;clear n0_ n1_;rw[hb1];have kz2:w1.cell? ⟨w.heap.size,2,none⟩=some (.int .i64 r.err):=(blk_cell BK1.out 2).trans rfl)|(go_at_call 66;refine (between_calls _ r.err 0 255).mono ?_;rintro e w0 ⟨rfl,hb⟩;have n0_:=Aside0.mk (below_step HB.out hb);have n1_:=Aside0.mk (blk_keep hb BK1.out);clear HB BK1 hb;have HB:=n0_;have BK1:=n1_;clear n0_ n1_;rw[hb2]))
  go_ret2
  exact ⟨rfl,HB.out⟩
 ·replace hb1:dcd (callV ⟨r.call.f0,r.call.f1⟩)=false:=by cases hh:dcd (callV ⟨r.call.f0,r.call.f1⟩) with|false=>rfl|true=>exact absurd hh hb1
  clear h;go_wp2_with (go_at_call 63;refine (rightCall_calls _ r.call.f0 r.call.f1).mono ?_;rintro e w1 ⟨rfl,hb⟩;have n0_:=Aside0.mk (below_step HB.out hb);have n1_:=Aside0.mk (blk_keep hb BK1.out);clear HB BK1 hb;have HB:=n0_;have BK1:=n1_;clear n0_ n1_;rw[hb1];have kz2:w1.cell? ⟨w.heap.size,2,none⟩=some (.int .i64 r.err):=(blk_cell BK1.out 2).trans rfl)
  go_ret2
  exact ⟨rfl,HB.out⟩
theorem encreq_calls (x:S25) (o:Sp.Op) (w:World) (h:isI o.a∧isI o.b):
  Calls Try.prog 32 #[.agg #[.int .i64 x.f0,.int .i64 x.f1],.agg #[.int .i64 o.kind,.string o.name,.int .i64 o.a,.int .i64 o.b]] w fun e w'=>∃ v,e = .returned (.tuple #[v,.int .i64 (lay reqB reqV (x,o)).2])∧Kd.R (Kd.int .u8) 5 w' w.heap.size (fun _=>True) v (lay reqB reqV (x,o)).1∧Below w.heap.size w w':=by
 by_cases hv:reqV (x,o)
 ·rw[lay_ok hv];exact encreq1_calls x o w hv.1 hv.2
 ·rw[lay_no hv];refine (encreq0_calls x o w (fun hh=>hv ⟨dcd_iff.mp hh.1,(oB_iff o h).mp hh.2⟩)).mono ?_;rintro e w' ⟨rfl,hb⟩;exact ⟨_,rfl,Kd.R_nil _ _ _ _ _,hb⟩
theorem encrep_calls (r:Rep) (w:World) (h:isI r.value):
  Calls Try.prog 34 #[.agg #[.int .i64 r.call.f0,.int .i64 r.call.f1,.int .i64 r.err,.int .i64 r.value]] w fun e w'=>∃ v,e = .returned (.tuple #[v,.int .i64 (lay repB repV r).2])∧Kd.R (Kd.int .u8) 5 w' w.heap.size (fun _=>True) v (lay repB repV r).1∧Below w.heap.size w w':=by
 by_cases hv:repV r
 ·rw[lay_ok hv];exact encrep1_calls r w hv
 ·rw[lay_no hv];refine (encrep0_calls r w (fun hh=>hv ⟨dcd_iff.mp hh.1,dcd_iff.mp hh.2,h⟩)).mono ?_;rintro e w' ⟨rfl,hb⟩;exact ⟨_,rfl,Kd.R_nil _ _ _ _ _,hb⟩
def SVc (s:Seg) (A:Option Addr) (c:Nat):Array Value := #[.int .i64 s.src,.int .i64 s.dst,.int .i64 s.seq,.int .i64 s.ack,.slice A s.data.length c]
def SV (s:Seg) (A:Option Addr) (c:Nat):Value := .agg (SVc s A c)
theorem kM8 {W:World} {base:Nat}:∀ (x:Int) (cs:List Value),(Kd.int .u8).K W x cs→(Kd.int .u8).M W base (fun _=>False) x cs:=fun x cs h=>h
noncomputable def sgB (s:Seg):Bool:=bB s.src 0 15 && bB s.dst 0 15 && bB s.seq 0 1099511627776 && bB s.ack 0 1099511627776
theorem sg_iff (s:Seg) (h:IsB s.data):segV s ↔ sgB s=true∧s.data.length≤4000∧((s.seq == 0)=((s.data.length:Int) == 0)):=by
 unfold segV sgB;simp only[Bool.and_eq_true,bB_iff]
 have h2:((s.seq == 0)=((s.data.length:Int) == 0)) ↔ (s.seq=0 ↔ (s.data.length:Int)=0):=by
  rw[Bool.eq_iff_iff,beq_iff_eq,beq_iff_eq]
 rw[h2];constructor
 ·rintro ⟨a,b,c,d,e,f⟩;refine ⟨⟨⟨⟨a,b⟩,c⟩,d⟩,by split at e<;>omega,by split at e<;>omega⟩
 ·rintro ⟨⟨⟨⟨a,b⟩,c⟩,d⟩,e,f⟩;refine ⟨a,b,c,d,?_,h⟩
  split<;>omega
theorem encseg1_calls (s:Seg) (A:Option Addr) (c:Nat) (w:World) (hr:Kd.C (Kd.int .u8) w A s.data.length s.data) (hc:s.data.length≤c) (z:Bool) (hz1:(s.seq == 0)=z) (hz2:((s.data.length:Int) == 0)=z) (hv:segV s):
  Calls Try.prog 27 #[SV s A c] w fun e w'=>∃ v,e = .returned (.tuple #[v,.int .i64 0])∧Kd.R (Kd.int .u8) 5 w' w.heap.size (fun _=>True) v (segB s)∧Below w.heap.size w w':=by
 have hg:=((sg_iff s hv.2.2.2.2.2).mp hv).1;unfold sgB at hg;simp only[Bool.and_eq_true] at hg;obtain ⟨⟨⟨hb1,hb2⟩,hb3⟩,hb4⟩:=hg;have hl:(s.data.length:Int)≤4000:=by have:=((sg_iff s hv.2.2.2.2.2).mp hv).2.1;omega
 have hl2:¬((s.data.length:Int) > 4000):=by omega
 have HLEN:=Aside0.mk (seg_len hv);have HR:=Aside0.mk hr;clear hv hr hc;have hu47:=Try.underlying47;obtain ⟨wa,hwa⟩:∃ wa,wa=w.alloc (.cells (SVc s A c) 47 (0,0)):=⟨_,rfl⟩;have HWA:=Aside0.mk hwa;have HB:Aside0 (Below w.heap.size w wa):=⟨by rw[hwa];exact al_below w _⟩;have BK:Aside0 (wa.heap[w.heap.size]?=some (.cells (SVc s A c) 47 (0,0))):=⟨by rw[hwa];exact heap_alloc_new w _⟩;clear hwa;have kz0:wa.cell? ⟨w.heap.size,0,none⟩=some (.int .i64 s.src):=(blk_cell BK.out 0).trans rfl;have kz1:wa.cell? ⟨w.heap.size,1,none⟩=some (.int .i64 s.dst):=(blk_cell BK.out 1).trans rfl;have kz2:wa.cell? ⟨w.heap.size,2,none⟩=some (.int .i64 s.seq):=(blk_cell BK.out 2).trans rfl;have kz3:wa.cell? ⟨w.heap.size,3,none⟩=some (.int .i64 s.ack):=(blk_cell BK.out 3).trans rfl;go_enter Try.func27,Try.ntmps27
 unfold SV;go_upto_region 1 with fail
 rw[←HWA.out];go_upto_region 2 with (go_at_call 66;refine (between_calls _ _ _ _).mono ?_;rintro e w0 ⟨rfl,hb⟩;have n0_:=Aside0.mk (below_step HB.out hb);have n1_:=Aside0.mk (blk_keep hb BK.out);clear HB BK hb kz0 kz1 kz2 kz3;have HB:=n0_;have BK:=n1_;clear n0_ n1_;(first|rw[hb1]|rw[hb2]|rw[hb3]|rw[hb4]);have kz0:w0.cell? ⟨w.heap.size,0,none⟩=some (.int .i64 s.src):=(blk_cell BK.out 0).trans rfl;have kz1:w0.cell? ⟨w.heap.size,1,none⟩=some (.int .i64 s.dst):=(blk_cell BK.out 1).trans rfl;have kz2:w0.cell? ⟨w.heap.size,2,none⟩=some (.int .i64 s.seq):=(blk_cell BK.out 2).trans rfl;have kz3:w0.cell? ⟨w.heap.size,3,none⟩=some (.int .i64 s.ack):=(blk_cell BK.out 3).trans rfl)
 have kz4:w0.cell? ⟨w.heap.size,4,none⟩=some (.slice A s.data.length c):=(blk_cell BK.out 4).trans rfl;go_upto_region 4 with fail
 clear kz0 kz1 kz2 kz3 kz4;obtain ⟨w1,hw1⟩:∃ w1,w1=w0.alloc (.cells #[.slice none 0 0] 99 (0,0)):=⟨_,rfl⟩;have HW1:=Aside0.mk hw1;have HS0:Aside0 (WS w w1 w0.heap.size [] (.slice none 0 0)):=⟨by rw[hw1];exact ⟨heap_alloc_new w0 _,HB.out.size,Kd.R_nil _ _ _ _ _,below_alloc HB.out _⟩⟩;have HX1:Aside0 (w1.heap[w.heap.size]?=some (.cells (SVc s A c) 47 (0,0))):=⟨by rw[hw1];exact blk_keep (al_below w0 _) BK.out⟩;clear hw1;go_upto_region 5 with fail
 rw[←HW1.out];have kz0:w1.cell? ⟨w.heap.size,0,none⟩=some (.int .i64 s.src):=(blk_cell HX1.out 0).trans rfl;have kz1:w1.cell? ⟨w.heap.size,1,none⟩=some (.int .i64 s.dst):=(blk_cell HX1.out 1).trans rfl;have kz2:w1.cell? ⟨w.heap.size,2,none⟩=some (.int .i64 s.seq):=(blk_cell HX1.out 2).trans rfl;have kz3:w1.cell? ⟨w.heap.size,3,none⟩=some (.int .i64 s.ack):=(blk_cell HX1.out 3).trans rfl;have kz4:w1.cell? ⟨w.heap.size,4,none⟩=some (.slice A s.data.length c):=(blk_cell HX1.out 4).trans rfl;have HT:Aside0 (segB s=numsB [s.src,s.dst,s.seq,s.ack,(s.data.length:Int)]++s.data):=⟨by simp[segB,numsB]⟩;have HB0:Aside0 (([]:List Int).length+(numsB [s.src,s.dst,s.seq,s.ack,(s.data.length:Int)]).length≤1099511627776):=⟨by have h1:=congrArg List.length HT.out;have:=HLEN.out;rw[List.length_append] at h1;rw[List.length_nil];omega⟩;have HL0:Aside0 (IsL (w1.alloc (.cells #[.int .i64 s.src,.int .i64 s.dst,.int .i64 s.seq,.int .i64 s.ack,.int .i64 (s.data.length:Int)] 3 (0,0))) w1.heap.size [s.src,s.dst,s.seq,s.ack,(s.data.length:Int)]):=⟨heap_alloc_new w1 _⟩;go_upto_region 6 with (go_at_call 53;refine (nums_calls w _ _ [] (.slice none 0 0) _ [s.src,s.dst,s.seq,s.ack,(s.data.length:Int)] _ _ rfl (HS0.out.below (al_below w1 _)) HL0.out HB0.out (by simp)).mono ?_;rintro e w2 ⟨rfl,v2,hS1,hst⟩;have HS1:=Aside0.mk hS1;have HST1:Aside0 (Stay w1 w2):=⟨(Stay.below (al_below w1 _)).trans hst⟩;clear hS1 hst kz0 kz1 kz2 kz3 kz4)
 obtain ⟨Az,nz,cz,rfl⟩:=R_sl HS1.out.row;have HBD:Aside0 (Below w2.heap.size w2 w2.drew):=⟨(Below.refl _ _).drew⟩;have kw:w2.drew.cell? ⟨w0.heap.size,0,none⟩=some (.slice Az nz cz):=(blk_cell (blk_keep HBD.out HS1.out.blk) 0).trans rfl;have kz4:w2.drew.cell? ⟨w.heap.size,4,none⟩=some (.slice A s.data.length c):=(blk_cell (blk_keep HBD.out (HST1.out _ _ _ (by decide) (by decide) HX1.out)) 4).trans rfl;have HR2:Aside0 (Kd.R (Kd.int .u8) 5 w2.drew w.heap.size (fun _=>True) (.slice Az nz cz) ([]++numsB [s.src,s.dst,s.seq,s.ack,(s.data.length:Int)])):=⟨Kd.R_below HS1.out.row HBD.out⟩;have HB2:Aside0 (Below w.heap.size w w2.drew):=⟨HS1.out.bel.drew⟩;have HC2:Aside0 (Kd.C (Kd.int .u8) w2.drew A s.data.length s.data):=⟨Kd.C_below HR.out HB2.out⟩;have HZ2:Aside0 ((([]++numsB [s.src,s.dst,s.seq,s.ack,(s.data.length:Int)]).length+s.data.length) * 1≤140737488355328):=⟨by have h1:=congrArg List.length HT.out;have:=HLEN.out;rw[List.length_append] at h1;rw[List.nil_append];omega⟩;go_region_law (refine Kd.R_append_rows_step (Kd.int .u8) (Rr:=Kd.K (Kd.int .u8) w2.drew) (w0:=w) w.heap.size rfl (.tmp 61) (.tmp 63) 36 5 (.int .u8 0) 1 (by rfl) Try.underlying36 inf8 rfl (by decide) (by decide) (.slice Az nz cz) _ s.data A s.data.length c (fun _=>True) (fun _=>False) (by rfl) (by simp[Act.eval,Act.put]) HR2.out HC2.out kM8 (fun _ hk=>hk.elim) (fun _ _=>trivial) HB2.out HB2.out.size HZ2.out ?_;intro v3 w3 hR3 hB3 hg3 hat3;have HR3:=Aside0.mk hR3;have HB3:=Aside0.mk hB3;clear hR3 hB3 hg3 hat3)
 all_goals (go_wp2_with fail)
 all_goals go_ret2
 all_goals (refine ⟨v3,rfl,?_,HB3.out⟩;have h3:=HR3.out;rw[List.nil_append,←HT.out] at h3;exact h3)
theorem encseg0_calls (s : Seg) (A : Option Addr) (c : Nat) (w : World) (hr : Kd.C (Kd.int .u8) w A s.data.length s.data) (hd : IsB s.data) (hv : ¬ segV s) :
    Calls Try.prog 27 #[SV s A c] w fun e w'=>e = .returned (.tuple #[.slice none 0 0,.int .i64 21])∧Below w.heap.size w w':=by
  have hvv:¬(sgB s=true∧s.data.length≤4000∧((s.seq == 0)=((s.data.length:Int) == 0))):=fun h=>hv ((sg_iff s hd).mpr h);have HV:=Aside0.mk hvv;have HR:=Aside0.mk hr;clear hv hvv hr hd;have hu47:=Try.underlying47;obtain ⟨wa,hwa⟩:∃ wa,wa=w.alloc (.cells (SVc s A c) 47 (0,0)):=⟨_,rfl⟩;have HWA:=Aside0.mk hwa;have HB:Aside0 (Below w.heap.size w wa):=⟨by rw[hwa];exact al_below w _⟩;have BK:Aside0 (wa.heap[w.heap.size]?=some (.cells (SVc s A c) 47 (0,0))):=⟨by rw[hwa];exact heap_alloc_new w _⟩;clear hwa;have kz0:wa.cell? ⟨w.heap.size,0,none⟩=some (.int .i64 s.src):=(blk_cell BK.out 0).trans rfl;have kz1:wa.cell? ⟨w.heap.size,1,none⟩=some (.int .i64 s.dst):=(blk_cell BK.out 1).trans rfl;have kz2:wa.cell? ⟨w.heap.size,2,none⟩=some (.int .i64 s.seq):=(blk_cell BK.out 2).trans rfl;have kz3:wa.cell? ⟨w.heap.size,3,none⟩=some (.int .i64 s.ack):=(blk_cell BK.out 3).trans rfl;go_enter Try.func27,Try.ntmps27
  unfold SV;go_upto_region 1 with fail
  rw[←HWA.out];go_cut [4] from 6 (fun v4 wx=>v4 = .bool (sgB s)∧Aside0 (Below w.heap.size w wx∧wx.heap[w.heap.size]?=some (.cells (SVc s A c) 47 (0,0))))
  case first =>
    go_wp2_with (go_at_call 66;refine (between_calls _ _ _ _).mono ?_;rintro e w0 ⟨rfl,hb⟩;have n0_:=Aside0.mk (below_step HB.out hb);have n1_:=Aside0.mk (blk_keep hb BK.out);clear HB BK hb kz0 kz1 kz2 kz3;have HB:=n0_;have BK:=n1_;clear n0_ n1_;have kz0:w0.cell? ⟨w.heap.size,0,none⟩=some (.int .i64 s.src):=(blk_cell BK.out 0).trans rfl;have kz1:w0.cell? ⟨w.heap.size,1,none⟩=some (.int .i64 s.dst):=(blk_cell BK.out 1).trans rfl;have kz2:w0.cell? ⟨w.heap.size,2,none⟩=some (.int .i64 s.seq):=(blk_cell BK.out 2).trans rfl;have kz3:w0.cell? ⟨w.heap.size,3,none⟩=some (.int .i64 s.ack):=(blk_cell BK.out 3).trans rfl)
    all_goals go_meet
    all_goals exact ⟨congrArg Value.bool (by first|(simp[sgB, *];done)|(simp_all[sgB];done)),⟨HB.out,BK.out⟩⟩
  case rest=>
   obtain ⟨rfl,HH⟩:=hcut;have HB2:=Aside0.mk HH.out.1;have BK2:=Aside0.mk HH.out.2;clear HH HB BK kz0 kz1 kz2 kz3;have kz2:wc.cell? ⟨w.heap.size,2,none⟩=some (.int .i64 s.seq):=(blk_cell BK2.out 2).trans rfl;have kz4:wc.cell? ⟨w.heap.size,4,none⟩=some (.slice A s.data.length c):=(blk_cell BK2.out 4).trans rfl;obtain ⟨q,hq⟩:∃ q,q=sgB s:=⟨_,rfl⟩;rw[←hq];have HQ:=Aside0.mk hq;clear hq;obtain rfl|rfl:q=true∨q=false:=by cases q<;>simp
   ·by_cases hl:(s.data.length:Int) > 4000
    ·go_wp2_with fail
     go_ret2
     exact ⟨rfl,HB2.out⟩
    ·obtain ⟨z,hz⟩:∃ z,z=(s.seq == 0):=⟨_,rfl⟩;obtain ⟨y,hy⟩:∃ y,y=((s.data.length:Int) == 0):=⟨_,rfl⟩;have hne:z≠y:=fun e=>HV.out ⟨HQ.out.symm,by omega,by rw[←hz,←hy];exact e⟩;have hz1:=hz.symm;have hy1:=hy.symm;clear hz hy;obtain rfl|rfl:z=true∨z=false:=by cases z<;>simp
     ·obtain rfl:y=false:=by cases y<;>simp_all
      clear hne;go_wp2_with fail
      go_ret2
      exact ⟨rfl,HB2.out⟩
     ·obtain rfl:y=true:=by cases y<;>simp_all
      clear hne;go_wp2_with fail
      go_ret2
      exact ⟨rfl,HB2.out⟩
   ·go_wp2_with fail
    go_ret2
    exact ⟨rfl,HB2.out⟩
theorem encseg_calls (s:Seg) (A:Option Addr) (c:Nat) (w:World) (hr:Kd.C (Kd.int .u8) w A s.data.length s.data) (hc:s.data.length≤c) (hd:IsB s.data):
  Calls Try.prog 27 #[SV s A c] w fun e w'=>∃ v,e = .returned (.tuple #[v,.int .i64 (lay segB segV s).2])∧Kd.R (Kd.int .u8) 5 w' w.heap.size (fun _=>True) v (lay segB segV s).1∧Below w.heap.size w w':=by
 by_cases hv:segV s
 ·rw[lay_ok hv];exact encseg1_calls s A c w hr hc (s.seq == 0) rfl ((sg_iff s hd).mp hv).2.2.symm hv
 ·rw[lay_no hv];refine (encseg0_calls s A c w hr hd hv).mono ?_;rintro e w' ⟨rfl,hb⟩;exact ⟨_,rfl,Kd.R_nil _ _ _ _ _,hb⟩
end Go.Proofs.Ytpgdmmjbhjbbhaa.En
end
section
namespace Go.Proofs.Ytpgdmmjbhjbbhaa.Sp
open Go Go.RowKit P YtpgdmmjbhjbbhaaW.PrintWords YtpgdmmjbhjbbhaaW.PrintLast YtpgdmmjbhjbbhaaW.PrintMore
theorem and127f:∀ y:Fin 256,bits BinOp.and IntKind.u8 (y.val:Int) 127=((y.val % 128:Nat):Int):=by decide +kernel
theorem and127 (x:Int) (h0:0≤x) (h1:x≤255):bits BinOp.and IntKind.u8 x 127=((x.toNat % 128:Nat):Int):=by
 have h:=and127f ⟨x.toNat,by omega⟩;simp only at h
 rwa [Int.toNat_of_nonneg h0] at h
theorem pow128 (k:Nat):128 ^ k=2 ^ (7 * k):=by rw[Nat.pow_mul]
theorem or_step (acc y k:Nat) (hk:k≤9) (hacc:acc<128 ^ k) (hy:y<128) (h9:k=9→y≤1):bits BinOp.or IntKind.u64 (acc:Int) (((y * 2 ^ (7 * k)) % 18446744073709551616:Nat):Int)=((acc+128 ^ k * y:Nat):Int):=by
 have hp:y * 2 ^ (7 * k)<18446744073709551616:=by
  rcases Nat.lt_or_ge k 9 with h|h
  ·have h2:2 ^ (7 * k)≤2 ^ 56:=Nat.pow_le_pow_right (by decide) (by omega);have h3:y * 2 ^ (7 * k)≤127 * 2 ^ 56:=Nat.mul_le_mul (by omega) h2;omega
  ·have:k=9:=by omega
   subst this;have:=h9 rfl;have h3:y * 2 ^ (7 * 9)≤1 * 2 ^ 63:=Nat.mul_le_mul this (Nat.le_refl _);omega
 rw[Nat.mod_eq_of_lt hp];have ha:acc<2 ^ (7 * k):=by rw[←pow128];exact hacc
 have ha2:acc<18446744073709551616:=by
  have h2:2 ^ (7 * k)≤2 ^ 63:=Nat.pow_le_pow_right (by decide) (by omega);omega
 rw[bits_or_u64_nat _ _ ha2 hp,Nat.or_comm,←Nat.shiftLeft_eq,←Nat.shiftLeft_add_eq_or_of_lt ha,Nat.shiftLeft_eq,pow128,Nat.mul_comm y,Nat.add_comm]
theorem and1 (n:Nat) (h:n<18446744073709551616):bits BinOp.and IntKind.u64 (n:Int) 1=((n % 2:Nat):Int):=by
 have:=u64_and_nat n 1 h (by decide);rw[Nat.and_one_is_mod] at this;exact this
theorem ofInt_u64' (a:Nat) (h:a<18446744073709551616):(BitVec.ofInt 64 (a:Int)).toNat=a:=by
 rw[BitVec.toNat_ofInt];omega
theorem i64_xor0 (a:Nat) (ha:a<9223372036854775808):bits .xor .i64 (a:Int) 0=(a:Int):=by
 show IntKind.i64.wrap ((BitVec.ofInt 64 (a:Int) ^^^ BitVec.ofInt 64 0).toNat:Int)=_
 have h1:BitVec.ofInt 64 0=0#64:=by decide
 rw[h1,BitVec.xor_zero,ofInt_u64' a (by omega)];simp[IntKind.wrap,IntKind.bits,IntKind.signed];omega
theorem i64_xor1 (a:Nat) (ha:a<9223372036854775808):bits .xor .i64 (a:Int) (-1) = -1 - (a:Int):=by
 show IntKind.i64.wrap ((BitVec.ofInt 64 (a:Int) ^^^ BitVec.ofInt 64 (-1)).toNat:Int)=_
 have h1:BitVec.ofInt 64 (-1)=BitVec.allOnes 64:=by decide
 rw[h1,BitVec.xor_allOnes,BitVec.toNat_not,ofInt_u64' a (by omega)];simp[IntKind.wrap,IntKind.bits,IntKind.signed];omega
theorem sign_read (n:Nat) (h:n<18446744073709551616):bits BinOp.xor IntKind.i64 ((n:Int) / 2) (wrap64 (-wrap64 (bits BinOp.and IntKind.u64 (n:Int) 1)))=unsign n:=by
 rw[and1 n h,show ((n:Int) / 2)=((n / 2:Nat):Int) from by omega];unfold unsign;by_cases h2:n % 2=0
 ·rw[h2,if_pos rfl,show wrap64 (-wrap64 ((0:Nat):Int))=0 from by unfold wrap64;omega];exact i64_xor0 _ (by omega)
 ·rw[show n % 2=1 from by omega,if_neg (by decide),show wrap64 (-wrap64 ((1:Nat):Int)) = -1 from by unfold wrap64;omega,i64_xor1 _ (by omega)];omega
end Go.Proofs.Ytpgdmmjbhjbbhaa.Sp
end
