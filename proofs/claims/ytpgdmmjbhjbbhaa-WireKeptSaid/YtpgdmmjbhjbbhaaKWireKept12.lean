/- texts that the proof needs, laid together by a program of this session. -/
import Derived.Deep.RegionHeld3
import Derived.Deep.DrawnRows
import Derived.Deep.RegionLaw
import Derived.Test.YtpgdmmjbhjbbhaaKWireKept11
set_option maxRecDepth 100000
set_option maxHeartbeats 16000000
set_option linter.unusedVariables false
set_option linter.unusedSimpArgs false
section
namespace Go.Proofs.Ytpgdmmjbhjbbhaa.Lt
open Go.RowKit P YtpgdmmjbhjbbhaaW.PrintWords YtpgdmmjbhjbbhaaW.PrintLast YtpgdmmjbhjbbhaaW.PrintMore Gw Ks Hd Kr Pn
theorem step_grew {P:Program} (w:World) {ops:Array Oper} {o:Oper} {a:Act} {K:Act→World→Prop} {Q:Exit→Act→World→Prop} {X:Prop} (hgd:o.guard=none) (s x:Operand) (t:TypeId)
  (ho:o.op = .call { callee := .builtin .append,args := #[s,x],argTypes := #[t,t] })
  (e:TypeId) (z:Value) (size bytes:Nat) (ht:P.underlying t=some (.slice e)) (hinfo:(P.info? e).map (fun i=>(i.zero,i.size,i.bytes))=some (some z,size,bytes))
  (hzs:z.cells.size=size) (hsz:0<size) (hb0:0<bytes) (v:Value) (n:Nat) (xs:List Value) (hs:a.eval s=v) (hown:w.ownsRow 0 e size v n xs)
  (B c:Nat) (news:Array Value) (hx:a.eval x = .slice (some ⟨B,0,none⟩) 1 c) (hB:w.heap[B]?=some (.cells news e (0,0))) (hl:news.size=1 * size) (h1:∀ u ∈ news.toList,u.oneCell'=true)
  (hbytes:(n+1) * bytes≤140737488355328)
  (h:∀ v' w',Grew w w' e size v n xs news.toList v'→K (a.put o.dst v') w'):if Region.wanted o (yielded ops a.tmps)=true then Oper.wp P o a w K Q else X:=by
 have hw:Region.wanted o (yielded ops a.tmps)=true:=by simp[Region.wanted,hgd]
 rw[if_pos hw];obtain ⟨i,hi,hzz⟩:=Option.map_eq_some_iff.1 hinfo;simp only[Prod.mk.injEq] at hzz;obtain ⟨hz0,hz1,hz2⟩:=hzz;obtain ⟨v',w',hr,hgr⟩:=run_grew (P:=P) w t o.type e i z size bytes ht hi hz0 hz1 hz2 hzs hsz v n xs hown ⟨B,0,none⟩ c news.toList (by simpa using hl) (World.news_of_block hB) h1 hb0 hbytes;unfold Oper.wp execOp;simp only[ho,resolve,invoke,builtin,Sem.run_bind,Sem.run_pure,Result.andThen_ok,List.map_toArray,List.map_cons,List.map_nil,hs,hx,hr];exact h v' w' hgr
theorem below_of_grown_none2 {w w1:World} (h:w.drew.grownBy w1 (Value.slice none 0 0).ownBlock):Below w.heap.size w w1:=⟨h.os,h.tape,h.output,h.size,fun k hk=>h.block k hk (by simp[Value.ownBlock])⟩
theorem kMI {w w1:World} {base:Nat} {ok:Nat→Prop}:∀ (x:Int) (cs:List Value),(Kd.int .u8).K w x cs→(Kd.int .u8).M w1 base ok x cs:=fun x cs h=>h
theorem kMR {w w1:World} {base:Nat} {ok:Nat→Prop}:∀ (x:S87) (cs:List Value),k87.K w x cs→k87.M w1 base ok x cs:=fun x cs h=>by rw[k87_open h];exact k87_mkM _ _ _ _
theorem own_R1 {w:World} {ok:Nat→Prop} {v:Value} {xs:List Int} (h:Kd.R (Kd.int .u8) 5 w 0 ok v xs):w.ownsRow 0 5 1 v xs.length (xs.flatMap cell1):=by
 have h2:=Kd.own_of_R h
 have e:xs.flatMap cell1=encs (Value.int .u8) xs:=by
  unfold encs;clear h h2
  induction xs with
  | nil=>rfl
  | cons x xs ih=>rw[List.flatMap_cons,ih];rfl
 rw[e];exact h2
theorem putLI_calls {kb : Nat} {ρ : Nat → Nat} {n : Nat} {w : World} {v : Value} {xs : List Int} (hK : KL kb ρ n w) (hn : n ≤ 4194304) (hx : xs.length ≤ 100000) (hR : Kd.R (Kd.int .u8) 5 w 0 (fun _ => True) v xs) (hv : ∀ k, v.ownBlock = some k → ρ k = 0) :
    Calls Try.prog 76 #[.pointer (some ⟨kb,0,none⟩),v] w fun e w'=>e = .returned (.tuple #[])∧∃ ρ',KL kb ρ' (n+1) w'∧After ρ ρ' v w w':=by
  obtain ⟨vI,vW,vR,vX,E,EW,ER,EX,XI,YI,h⟩:=hK;have hown:=own_R1 hR;obtain ⟨A0,c0,rfl⟩:=own_slice hown;have hlab:=h.label (v := .slice A0 xs.length c0) 3 (by decide) hv (Ks.own_lt hown);have HR0:Aside0 (Kd.R (Kd.int .u8) 5 w 0 (fun k=>some k=(Value.slice A0 xs.length c0).ownBlock) (.slice A0 xs.length c0) xs):=⟨Kd.R_reok rfl hR (fun k hk=>hk.symm)⟩;have HOW:=Aside0.mk hown;have HL:=Aside0.mk hlab;have HV:=Aside0.mk hv;have HX:=Aside0.mk hx;have HZW:=Aside0.mk h.zer
  have HVY:Aside0 (∀ y ∈ E,∀ k,y.v.ownBlock=some k→some k≠(Value.slice A0 xs.length c0).ownBlock):=⟨fun y hy k hk e=>by
   have h1:=(h.e y hy).lab k hk;have h2:=hv k e.symm;omega⟩
  have hlen:E.length≤4194304∧EW.length=E.length:=⟨by have:=h.nE;omega,(conts_len h.cW).trans (conts_len h.cE).symm⟩;have HLEN:=Aside0.mk hlen;have HB1:Aside0 ((E.length+1) * 24≤140737488355328):=⟨by omega⟩;have HB2:Aside0 ((EW.length+1) * 24≤140737488355328):=⟨by omega⟩;have HB3:Aside0 ((0+xs.length) * 1≤140737488355328):=⟨by omega⟩;have q0:w.cell? ⟨kb,0,none⟩=some (.bool true):=by rw[cell_of_row w kb 0 _ _ (0,0) h.blk];rfl
  have q1:w.cell? ⟨kb,1,none⟩=some vI:=by rw[cell_of_row w kb 1 _ _ (0,0) h.blk];rfl
  have HA:Aside0 (RowR (lab0 ρ (.slice A0 xs.length c0) 3) (w.alloc (.cells #[.slice A0 xs.length c0] 36 (0,0))) 36 1 vI E.length (E.map (·.v)) 1):=⟨hlab.i.move fun k hk _=>⟨Below.heap_alloc _ _ k hk,rfl⟩⟩;have HKA:Aside0 (KLx kb (lab0 ρ (.slice A0 xs.length c0) 3) n (w.alloc (.cells #[.slice A0 xs.length c0] 36 (0,0))) vI vW vR vX E EW ER EX XI XI YI YI):=⟨hlab.move (fun k hk _=>Below.heap_alloc _ _ k hk) (by simp)⟩;clear h hown hlab hv hx hn hR hlen;go_enter Try.func76,Try.ntmps76
  go_upto_region 2 with (refine wpList_grew _ rfl (.tmp 13) (.tmp 15) 57 rfl 36 (.slice none 0 0) 1 24 Try.underlying57 infI rfl (by decide) (by decide) vI E.length (E.map (·.v)) (by simp[Act.eval,Act.put]) HA.out.own w.heap.size 1 #[.slice A0 xs.length c0] (by simp[Act.eval,Act.put]) (heap_alloc_new w _) rfl (one_slice _ _ _) HB1.out ?_;intro v1 w1 hg1;obtain ⟨Av,cv,rfl⟩:=own_slice hg1.own;have HG1:=Aside0.mk hg1;have hk1:=grown_kb HKA.out.blk HG1.out.grow HKA.out.lbl HA.out.lab (by decide) 1 _ (by rw[cell_of_row _ kb 1 _ _ (0,0) HKA.out.blk];rfl);have hk1a:=hk1.1;have hk1b:=hk1.2;clear hk1 hg1 q0 q1)
  obtain ⟨ρ1,s1,s2,s3,s4,s5,s6,s7⟩:=step_row (i:=1) HKA.out.zer HKA.out.lbl HKA.out.blk (by decide) HA.out HG1.out
  have HKB:Aside0 (KLx kb ρ1 (n+1) (w1.setCell ⟨kb,1,none⟩ (.slice Av (E.length+1) cv)) (.slice Av (E.length+1) cv) vW vR vX (E++[⟨.slice A0 xs.length c0,xs.length,xs.flatMap cell1⟩]) EW ER EX (XI++[xs]) XI YI YI):=⟨by
   have h:=HKA.out
   have g:∀ s,s≠0→s≠7→s≠1 → ∀ k,k<(w.alloc (.cells #[.slice A0 xs.length c0] 36 (0,0))).heap.size→lab0 ρ (.slice A0 xs.length c0) 3 k=s→(w1.setCell ⟨kb,1,none⟩ (.slice Av (E.length+1) cv)).heap[k]?=(w.alloc (.cells #[.slice A0 xs.length c0] 36 (0,0))).heap[k]?∧ρ1 k=lab0 ρ (.slice A0 xs.length c0) 3 k:=
    fun s h0 h7 hI k hk e=>⟨s6 k hk (by rw[e];exact hI) (by rw[e];exact h7),s1 k hk⟩
   have hnew:RowR ρ1 (w1.setCell ⟨kb,1,none⟩ (.slice Av (E.length+1) cv)) 5 1 (.slice A0 xs.length c0) xs.length (xs.flatMap cell1) 3:=
    RowR.move ⟨Ks.own_move HOW.out (fun k hk=>Below.heap_alloc _ _ k (Ks.own_lt HOW.out k hk)),fun k hk=>lab0_eq hk.symm⟩ (g 3 (by decide) (by decide) (by decide))
   exact { h with
    blk:=s4,lbl:=s3,zer:=s2
    iw:=h.iw.move (g 2 (by decide) (by decide) (by decide)),r:=h.r.move (g 4 (by decide) (by decide) (by decide)),rw_:=h.rw_.move (g 5 (by decide) (by decide) (by decide))
    ew:=fun x hx=>(h.ew x hx).move (g 8 (by decide) (by decide) (by decide)),f:=fun x hx=>(h.f x hx).move (g 6 (by decide) (by decide) (by decide)),fw:=fun x hx=>(h.fw x hx).move (g 9 (by decide) (by decide) (by decide))
    i:=by simpa using s5
    e := fun x hx => by
      rcases List.mem_append.1 hx with hx|hx
      ·exact (h.e x hx).move (g 3 (by decide) (by decide) (by decide))
      ·rw[List.mem_singleton.1 hx];exact hnew
    cE:=conts_snoc h.cE _ xs
    aE := h.aE.snoc _ (fun y hy he => by
      refine Classical.byContradiction fun hn=>?_;obtain ⟨k,hk⟩:=Option.ne_none_iff_exists'.1 hn;have h1:=(h.e y hy).lab k hk;have h2:some k=(Value.slice A0 xs.length c0).ownBlock:=hk.symm.trans he;exact HVY.out y hy k hk h2)
    lE := fun l hl => by
      rcases List.mem_append.1 hl with hl|hl
      ·exact h.lE l hl
      ·rw[List.mem_singleton.1 hl];exact HX.out
    nE:=by rw[List.length_append];have:=h.nE;simp;omega
    nR:=by have:=h.nR;omega }⟩
  have HAF1:Aside0 ((∀ k,k<w.heap.size→ρ1 k=ρ k∨some k=(Value.slice A0 xs.length c0).ownBlock)∧Below 0 w (w1.setCell ⟨kb,1,none⟩ (.slice Av (E.length+1) cv))∧∀ k,k<w.heap.size→ρ k=0→(w1.setCell ⟨kb,1,none⟩ (.slice Av (E.length+1) cv)).heap[k]?=w.heap[k]?):=⟨by
   have hs:w.heap.size<(w.alloc (.cells #[.slice A0 xs.length c0] 36 (0,0))).heap.size:=by simp
   refine ⟨fun k hk=>?_,((Below.refl 0 w).alloc (Nat.zero_le _) _).trans s7,fun k hk h0=>?_⟩
   ·by_cases e:some k=(Value.slice A0 xs.length c0).ownBlock
    ·exact .inr e
    ·exact .inl ((s1 k (by omega)).trans (lab0_ne e))
   ·have hl2:lab0 ρ (.slice A0 xs.length c0) 3 k=0∨lab0 ρ (.slice A0 xs.length c0) 3 k=3:=by
     by_cases e:some k=(Value.slice A0 xs.length c0).ownBlock
     ·exact .inr (lab0_eq e)
     ·exact .inl ((lab0_ne e).trans h0)
    exact (s6 k (by omega) (by omega) (by omega)).trans (Below.heap_alloc _ _ k hk)⟩
  have HR1:Aside0 (Kd.R (Kd.int .u8) 5 (w1.setCell ⟨kb,1,none⟩ (.slice Av (E.length+1) cv)) 0 (fun k=>some k=(Value.slice A0 xs.length c0).ownBlock) (.slice A0 xs.length c0) xs):=⟨Kd.R_step HR0.out (fun k hk hlt=>HAF1.out.2.2 k hlt (HV.out k hk.symm))⟩;clear HKA HA HG1 hk1a hk1b s1 s2 s3 s4 s5 s6 s7
  generalize w1.setCell ⟨kb,1,none⟩ (.slice Av (E.length+1) cv)=wx at HKB HAF1 HR1 ⊢
  have HC1:Aside0 (Kd.C (Kd.int .u8) wx.drew A0 xs.length xs):=⟨Kd.C_drew (Kd.R_reads' HR1.out).2.2⟩;have HN1:Aside0 (Kd.R (Kd.int .u8) 5 wx.drew 0 (fun _=>True) (.slice none 0 0) []):=⟨Kd.R_nil _ _ _ _ _⟩;have q2:wx.cell? ⟨kb,2,none⟩=some vW:=by rw[cell_of_row wx kb 2 _ _ (0,0) HKB.out.blk];rfl
  go_region_law (first
   | (refine Kd.R_append_rows_step (Kd.int .u8) (Rr:=Kd.K (Kd.int .u8) wx.drew) (w0:=wx.drew) 0 rfl (.const (.slice none 0 0)) (.tmp 24) 36 5 (.int .u8 0) 1 (by rfl) Try.underlying36 info5 rfl (by decide) (by decide) (.slice none 0 0) [] xs A0 xs.length c0 (fun _=>True) (fun _=>False) (by rfl) (by simp[Act.eval,Act.put]) HN1.out HC1.out (kMI) (fun _ hk=>hk.elim) (fun _ _=>trivial) (Below.refl _ _) (Nat.zero_le _) HB3.out ?_;intro v2 w2 hR2 hB2 hg2 hat2;have hb2:=below_of_grown_none2 hg2;have hR2x:Kd.R (Kd.int .u8) 5 w2 0 (fun _=>True) v2 xs:=hR2;obtain ⟨A5,c5,e5⟩:=Kd.R_slice hR2x;subst e5;have HR2:=Aside0.mk hR2x;have HAT:=Aside0.mk hat2;have HB5:=Aside0.mk hb2;have HKC:=Aside0.mk (HKB.out.move (w1:=w2.alloc (.cells #[.slice A5 xs.length c5] 36 (0,0))) (fun k hk _=>(Below.heap_alloc _ _ k (Nat.lt_of_lt_of_le hk hb2.size)).trans (hb2.block k hk)) (Nat.le_trans hb2.size (by simp)));have q5:=pw_cell_below hb2 q2;have q6:(w2.alloc (.cells #[.slice A5 xs.length c5] 36 (0,0))).cell? ⟨kb,2,none⟩=some vW:=(by rw[cell_of_row _ kb 2 _ _ (0,0) HKC.out.blk];rfl);clear hR2 hB2 hg2 hat2 hR2x hb2)
   | (refine step_grew _ rfl (.tmp 23) (.tmp 26) 57 (by rfl) 36 (.slice none 0 0) 1 24 Try.underlying57 infI rfl (by decide) (by decide) vW EW.length (EW.map (·.v)) (by simp[Act.eval,Act.put]) HKC.out.iw.own w2.heap.size 1 #[.slice A5 xs.length c5] (by simp[Act.eval,Act.put]) (heap_alloc_new w2 _) rfl (one_slice _ _ _) HB2.out ?_;intro v3 w3 hg3;obtain ⟨A6,c6,e6⟩:=own_slice hg3.own;subst e6;have HG3:=Aside0.mk hg3;have hk3:=grown_kb HKC.out.blk HG3.out.grow HKC.out.lbl HKC.out.iw.lab (by decide) 2 _ (by rw[cell_of_row _ kb 2 _ _ (0,0) HKC.out.blk];rfl);have hk3a:=hk3.1;have hk3b:=hk3.2;clear hk3 hg3))
  all_goals
   have hv5 : ∀ k, (Value.slice A5 xs.length c5).ownBlock = some k → wx.heap.size ≤ k := fun k hk => by
     rcases HAT.out with h|⟨b,h,hb⟩
     ·rw[h] at hk;simp[Value.ownBlock] at hk
     ·rw[h] at hk;have:b=k:=by simpa using hk
      have hb2:wx.heap.size≤b:=hb;omega
   have hz5 : ∀ k, (Value.slice A5 xs.length c5).ownBlock = some k → ρ1 k = 0 := fun k hk => Classical.not_not.1 fun h => by
     have:=HKB.out.zer k h;have:=hv5 k hk;omega
   have hown5:w2.ownsRow 0 5 1 (.slice A5 xs.length c5) xs.length (xs.flatMap cell1):=own_R1 HR2.out;have HLA:=HKC.out.label (v := .slice A5 xs.length c5) 8 (by decide) hz5 (fun k hk=>by have:=Ks.own_lt hown5 k hk;simp;omega);obtain ⟨ρ2,t1,t2,t3,t4,t5,t6,t7⟩:=step_row (i:=2) HLA.zer HLA.lbl HLA.blk (by decide) HLA.iw HG3.out
   have HKD:KLx kb ρ2 (n+1) (w3.setCell ⟨kb,2,none⟩ (.slice A6 (EW.length+1) c6)) (.slice Av (E.length+1) cv) (.slice A6 (EW.length+1) c6) vR vX (E++[⟨.slice A0 xs.length c0,xs.length,xs.flatMap cell1⟩]) (EW++[⟨.slice A5 xs.length c5,xs.length,xs.flatMap cell1⟩]) ER EX (XI++[xs]) (XI++[xs]) YI YI:=by
    have g:∀ s,s≠0→s≠7→s≠2 → ∀ k,k<(w2.alloc (.cells #[.slice A5 xs.length c5] 36 (0,0))).heap.size→lab0 ρ1 (.slice A5 xs.length c5) 8 k=s→(w3.setCell ⟨kb,2,none⟩ (.slice A6 (EW.length+1) c6)).heap[k]?=(w2.alloc (.cells #[.slice A5 xs.length c5] 36 (0,0))).heap[k]?∧ρ2 k=lab0 ρ1 (.slice A5 xs.length c5) 8 k:=
     fun s h0 h7 hI k hk e=>⟨t6 k hk (by rw[e];exact hI) (by rw[e];exact h7),t1 k hk⟩
    have hnew:RowR ρ2 (w3.setCell ⟨kb,2,none⟩ (.slice A6 (EW.length+1) c6)) 5 1 (.slice A5 xs.length c5) xs.length (xs.flatMap cell1) 8:=
     RowR.move ⟨Ks.own_move hown5 (fun k hk=>Below.heap_alloc _ _ k (Ks.own_lt hown5 k hk)),fun k hk=>lab0_eq hk.symm⟩ (g 8 (by decide) (by decide) (by decide))
    exact { HLA with
     blk:=t4,lbl:=t3,zer:=t2
     i:=HLA.i.move (g 1 (by decide) (by decide) (by decide)),r:=HLA.r.move (g 4 (by decide) (by decide) (by decide)),rw_:=HLA.rw_.move (g 5 (by decide) (by decide) (by decide))
     e:=fun x hx=>(HLA.e x hx).move (g 3 (by decide) (by decide) (by decide)),f:=fun x hx=>(HLA.f x hx).move (g 6 (by decide) (by decide) (by decide)),fw:=fun x hx=>(HLA.fw x hx).move (g 9 (by decide) (by decide) (by decide))
     iw:=by simpa using t5
     ew := fun x hx => by
       rcases List.mem_append.1 hx with hx|hx
       ·exact (HLA.ew x hx).move (g 8 (by decide) (by decide) (by decide))
       ·rw[List.mem_singleton.1 hx];exact hnew
     cW:=conts_snoc HLA.cW _ xs }
   have HAF:After ρ ρ2 (.slice A0 xs.length c0) w (w3.setCell ⟨kb,2,none⟩ (.slice A6 (EW.length+1) c6)):=by
    have hs1:=HAF1.out.2.1.size;have hs2:=HB5.out.size;have hlt:∀ k,k<w.heap.size→k<(w2.alloc (.cells #[.slice A5 xs.length c5] 36 (0,0))).heap.size:=fun k hk=>by simp;omega
    have hne:∀ k,k<w.heap.size→some k≠(Value.slice A5 xs.length c5).ownBlock:=fun k hk e=>by have:=hv5 k e.symm;omega
    refine ⟨fun k hk=>?_,((HAF1.out.2.1.trans (HB5.out.mono (Nat.zero_le _))).trans ((Below.refl 0 w2).alloc (Nat.zero_le _) _)).trans t7,fun k hk h0 hn=>?_⟩
    ·rw[t1 k (hlt k hk),lab0_ne (hne k hk)];exact HAF1.out.1 k hk
    ·have h1:ρ1 k=0:=by
      rcases HAF1.out.1 k hk with h|h
      ·exact h.trans h0
      ·exact absurd h hn
     refine (t6 k (hlt k hk) ?_ ?_).trans ((Below.heap_alloc _ _ k (by omega)).trans ((HB5.out.block k (by omega)).trans (HAF1.out.2.2 k hk h0)))<;>(rw[lab0_ne (hne k hk),h1];decide)
   have HKE:=Aside0.mk HKD;have HAE:=Aside0.mk HAF;clear HKD HAF HLA t1 t2 t3 t4 t5 t6 t7 hv5 hz5 hown5 q2 q5 q6 hk3a hk3b HG3 HKC HR2 HAT HB5;go_wp2_with fail
   first|go_end0|((try simp only[Exit.inBlock,Exit.then]);refine bodyPost_ret (results_none rfl _ _ _) rfl ?_)
   exact ⟨rfl,ρ2,⟨_,_,_,_,_,_,_,_,_,_,HKE.out⟩,HAE.out⟩
theorem putLR_calls {kb : Nat} {ρ : Nat → Nat} {n : Nat} {w : World} {v : Value} {xs : List S87} (hK : KL kb ρ n w) (hn : n ≤ 4194304) (hx : xs.length ≤ 100000) (hR : Kd.R k87 87 w 0 (fun _ => True) v xs) (hv : ∀ k, v.ownBlock = some k → ρ k = 0) :
    Calls Try.prog 77 #[.pointer (some ⟨kb,0,none⟩),v] w fun e w'=>e = .returned (.tuple #[])∧∃ ρ',KL kb ρ' (n+1) w'∧After ρ ρ' v w w':=by
  obtain ⟨vI,vW,vR,vX,E,EW,ER,EX,XI,YI,h⟩:=hK;have hown:=own_R2 hR;obtain ⟨A0,c0,rfl⟩:=own_slice hown;have hlab:=h.label (v := .slice A0 xs.length c0) 6 (by decide) hv (Ks.own_lt hown);have HR0:Aside0 (Kd.R k87 87 w 0 (fun k=>some k=(Value.slice A0 xs.length c0).ownBlock) (.slice A0 xs.length c0) xs):=⟨Kd.R_reok rfl hR (fun k hk=>hk.symm)⟩;have HOW:=Aside0.mk hown;have HL:=Aside0.mk hlab;have HV:=Aside0.mk hv;have HX:=Aside0.mk hx;have HZW:=Aside0.mk h.zer
  have HVY:Aside0 (∀ y ∈ ER,∀ k,y.v.ownBlock=some k→some k≠(Value.slice A0 xs.length c0).ownBlock):=⟨fun y hy k hk e=>by
   have h1:=(h.f y hy).lab k hk;have h2:=hv k e.symm;omega⟩
  have hlen:ER.length≤4194304∧EX.length=ER.length:=⟨by have:=h.nR;omega,(conts_len h.dW).trans (conts_len h.dE).symm⟩;have HLEN:=Aside0.mk hlen;have HB1:Aside0 ((ER.length+1) * 24≤140737488355328):=⟨by omega⟩;have HB2:Aside0 ((EX.length+1) * 24≤140737488355328):=⟨by omega⟩;have HB3:Aside0 ((0+xs.length) * 64≤140737488355328):=⟨by omega⟩;have q0:w.cell? ⟨kb,0,none⟩=some (.bool true):=by rw[cell_of_row w kb 0 _ _ (0,0) h.blk];rfl
  have q1:w.cell? ⟨kb,4,none⟩=some vR:=by rw[cell_of_row w kb 4 _ _ (0,0) h.blk];rfl
  have HA:Aside0 (RowR (lab0 ρ (.slice A0 xs.length c0) 6) (w.alloc (.cells #[.slice A0 xs.length c0] 31 (0,0))) 31 1 vR ER.length (ER.map (·.v)) 4):=⟨hlab.r.move fun k hk _=>⟨Below.heap_alloc _ _ k hk,rfl⟩⟩;have HKA:Aside0 (KLx kb (lab0 ρ (.slice A0 xs.length c0) 6) n (w.alloc (.cells #[.slice A0 xs.length c0] 31 (0,0))) vI vW vR vX E EW ER EX XI XI YI YI):=⟨hlab.move (fun k hk _=>Below.heap_alloc _ _ k hk) (by simp)⟩;clear h hown hlab hv hx hn hR hlen;go_enter Try.func77,Try.ntmps77
  go_upto_region 2 with (refine wpList_grew _ rfl (.tmp 13) (.tmp 15) 59 rfl 31 (.slice none 0 0) 1 24 Try.underlying59 infR rfl (by decide) (by decide) vR ER.length (ER.map (·.v)) (by simp[Act.eval,Act.put]) HA.out.own w.heap.size 1 #[.slice A0 xs.length c0] (by simp[Act.eval,Act.put]) (heap_alloc_new w _) rfl (one_slice _ _ _) HB1.out ?_;intro v1 w1 hg1;obtain ⟨Av,cv,rfl⟩:=own_slice hg1.own;have HG1:=Aside0.mk hg1;have hk1:=grown_kb HKA.out.blk HG1.out.grow HKA.out.lbl HA.out.lab (by decide) 4 _ (by rw[cell_of_row _ kb 4 _ _ (0,0) HKA.out.blk];rfl);have hk1a:=hk1.1;have hk1b:=hk1.2;clear hk1 hg1 q0 q1)
  obtain ⟨ρ1,s1,s2,s3,s4,s5,s6,s7⟩:=step_row (i:=4) HKA.out.zer HKA.out.lbl HKA.out.blk (by decide) HA.out HG1.out
  have HKB:Aside0 (KLx kb ρ1 (n+1) (w1.setCell ⟨kb,4,none⟩ (.slice Av (ER.length+1) cv)) vI vW (.slice Av (ER.length+1) cv) vX E EW (ER++[⟨.slice A0 xs.length c0,xs.length,xs.flatMap cell2⟩]) EX XI XI (YI++[xs]) YI):=⟨by
   have h:=HKA.out
   have g:∀ s,s≠0→s≠7→s≠4 → ∀ k,k<(w.alloc (.cells #[.slice A0 xs.length c0] 31 (0,0))).heap.size→lab0 ρ (.slice A0 xs.length c0) 6 k=s→(w1.setCell ⟨kb,4,none⟩ (.slice Av (ER.length+1) cv)).heap[k]?=(w.alloc (.cells #[.slice A0 xs.length c0] 31 (0,0))).heap[k]?∧ρ1 k=lab0 ρ (.slice A0 xs.length c0) 6 k:=
    fun s h0 h7 hI k hk e=>⟨s6 k hk (by rw[e];exact hI) (by rw[e];exact h7),s1 k hk⟩
   have hnew:RowR ρ1 (w1.setCell ⟨kb,4,none⟩ (.slice Av (ER.length+1) cv)) 87 7 (.slice A0 xs.length c0) xs.length (xs.flatMap cell2) 6:=
    RowR.move ⟨Ks.own_move HOW.out (fun k hk=>Below.heap_alloc _ _ k (Ks.own_lt HOW.out k hk)),fun k hk=>lab0_eq hk.symm⟩ (g 6 (by decide) (by decide) (by decide))
   exact { h with
    blk:=s4,lbl:=s3,zer:=s2
    i:=h.i.move (g 1 (by decide) (by decide) (by decide)),iw:=h.iw.move (g 2 (by decide) (by decide) (by decide)),rw_:=h.rw_.move (g 5 (by decide) (by decide) (by decide))
    e:=fun x hx=>(h.e x hx).move (g 3 (by decide) (by decide) (by decide)),ew:=fun x hx=>(h.ew x hx).move (g 8 (by decide) (by decide) (by decide)),fw:=fun x hx=>(h.fw x hx).move (g 9 (by decide) (by decide) (by decide))
    r:=by simpa using s5
    f := fun x hx => by
      rcases List.mem_append.1 hx with hx|hx
      ·exact (h.f x hx).move (g 6 (by decide) (by decide) (by decide))
      ·rw[List.mem_singleton.1 hx];exact hnew
    dE:=conts_snoc h.dE _ xs
    aR := h.aR.snoc _ (fun y hy he => by
      refine Classical.byContradiction fun hn=>?_;obtain ⟨k,hk⟩:=Option.ne_none_iff_exists'.1 hn;have h1:=(h.f y hy).lab k hk;have h2:some k=(Value.slice A0 xs.length c0).ownBlock:=hk.symm.trans he;exact HVY.out y hy k hk h2)
    lR := fun l hl => by
      rcases List.mem_append.1 hl with hl|hl
      ·exact h.lR l hl
      ·rw[List.mem_singleton.1 hl];exact HX.out
    nE:=by have:=h.nE;omega
    nR:=by rw[List.length_append];have:=h.nR;simp;omega }⟩
  have HAF1:Aside0 ((∀ k,k<w.heap.size→ρ1 k=ρ k∨some k=(Value.slice A0 xs.length c0).ownBlock)∧Below 0 w (w1.setCell ⟨kb,4,none⟩ (.slice Av (ER.length+1) cv))∧∀ k,k<w.heap.size→ρ k=0→(w1.setCell ⟨kb,4,none⟩ (.slice Av (ER.length+1) cv)).heap[k]?=w.heap[k]?):=⟨by
   have hs:w.heap.size<(w.alloc (.cells #[.slice A0 xs.length c0] 31 (0,0))).heap.size:=by simp
   refine ⟨fun k hk=>?_,((Below.refl 0 w).alloc (Nat.zero_le _) _).trans s7,fun k hk h0=>?_⟩
   ·by_cases e:some k=(Value.slice A0 xs.length c0).ownBlock
    ·exact .inr e
    ·exact .inl ((s1 k (by omega)).trans (lab0_ne e))
   ·have hl2:lab0 ρ (.slice A0 xs.length c0) 6 k=0∨lab0 ρ (.slice A0 xs.length c0) 6 k=6:=by
     by_cases e:some k=(Value.slice A0 xs.length c0).ownBlock
     ·exact .inr (lab0_eq e)
     ·exact .inl ((lab0_ne e).trans h0)
    exact (s6 k (by omega) (by omega) (by omega)).trans (Below.heap_alloc _ _ k hk)⟩
  have HR1:Aside0 (Kd.R k87 87 (w1.setCell ⟨kb,4,none⟩ (.slice Av (ER.length+1) cv)) 0 (fun k=>some k=(Value.slice A0 xs.length c0).ownBlock) (.slice A0 xs.length c0) xs):=⟨Kd.R_step HR0.out (fun k hk hlt=>HAF1.out.2.2 k hlt (HV.out k hk.symm))⟩;clear HKA HA HG1 hk1a hk1b s1 s2 s3 s4 s5 s6 s7
  generalize w1.setCell ⟨kb,4,none⟩ (.slice Av (ER.length+1) cv)=wx at HKB HAF1 HR1 ⊢
  have HC1:Aside0 (Kd.C k87 wx.drew A0 xs.length xs):=⟨Kd.C_drew (Kd.R_reads' HR1.out).2.2⟩;have HN1:Aside0 (Kd.R k87 87 wx.drew 0 (fun _=>True) (.slice none 0 0) []):=⟨Kd.R_nil _ _ _ _ _⟩;have q2:wx.cell? ⟨kb,5,none⟩=some vX:=by rw[cell_of_row wx kb 5 _ _ (0,0) HKB.out.blk];rfl
  go_region_law (first
   | (refine Kd.R_append_rows_step k87 (Rr:=Kd.K k87 wx.drew) (w0:=wx.drew) 0 rfl (.const (.slice none 0 0)) (.tmp 24) 31 87 (.agg #[.string ⟨#[]⟩,.int .i64 0,.int .i64 0,.int .i64 0,.int .i64 0,.int .i64 0,.int .i64 0]) 64 (by rfl) Try.underlying31 inf87 rfl (by decide) (by decide) (.slice none 0 0) [] xs A0 xs.length c0 (fun _=>True) (fun _=>False) (by rfl) (by simp[Act.eval,Act.put]) HN1.out HC1.out (kMR) (fun _ hk=>hk.elim) (fun _ _=>trivial) (Below.refl _ _) (Nat.zero_le _) HB3.out ?_;intro v2 w2 hR2 hB2 hg2 hat2;have hb2:=below_of_grown_none2 hg2;have hR2x:Kd.R k87 87 w2 0 (fun _=>True) v2 xs:=hR2;obtain ⟨A5,c5,e5⟩:=Kd.R_slice hR2x;subst e5;have HR2:=Aside0.mk hR2x;have HAT:=Aside0.mk hat2;have HB5:=Aside0.mk hb2;have HKC:=Aside0.mk (HKB.out.move (w1:=w2.alloc (.cells #[.slice A5 xs.length c5] 31 (0,0))) (fun k hk _=>(Below.heap_alloc _ _ k (Nat.lt_of_lt_of_le hk hb2.size)).trans (hb2.block k hk)) (Nat.le_trans hb2.size (by simp)));have q5:=pw_cell_below hb2 q2;have q6:(w2.alloc (.cells #[.slice A5 xs.length c5] 31 (0,0))).cell? ⟨kb,5,none⟩=some vX:=(by rw[cell_of_row _ kb 5 _ _ (0,0) HKC.out.blk];rfl);clear hR2 hB2 hg2 hat2 hR2x hb2)
   | (refine step_grew _ rfl (.tmp 23) (.tmp 26) 59 (by rfl) 31 (.slice none 0 0) 1 24 Try.underlying59 infR rfl (by decide) (by decide) vX EX.length (EX.map (·.v)) (by simp[Act.eval,Act.put]) HKC.out.rw_.own w2.heap.size 1 #[.slice A5 xs.length c5] (by simp[Act.eval,Act.put]) (heap_alloc_new w2 _) rfl (one_slice _ _ _) HB2.out ?_;intro v3 w3 hg3;obtain ⟨A6,c6,e6⟩:=own_slice hg3.own;subst e6;have HG3:=Aside0.mk hg3;have hk3:=grown_kb HKC.out.blk HG3.out.grow HKC.out.lbl HKC.out.rw_.lab (by decide) 5 _ (by rw[cell_of_row _ kb 5 _ _ (0,0) HKC.out.blk];rfl);have hk3a:=hk3.1;have hk3b:=hk3.2;clear hk3 hg3))
  all_goals
   have hv5 : ∀ k, (Value.slice A5 xs.length c5).ownBlock = some k → wx.heap.size ≤ k := fun k hk => by
     rcases HAT.out with h|⟨b,h,hb⟩
     ·rw[h] at hk;simp[Value.ownBlock] at hk
     ·rw[h] at hk;have:b=k:=by simpa using hk
      have hb2:wx.heap.size≤b:=hb;omega
   have hz5 : ∀ k, (Value.slice A5 xs.length c5).ownBlock = some k → ρ1 k = 0 := fun k hk => Classical.not_not.1 fun h => by
     have:=HKB.out.zer k h;have:=hv5 k hk;omega
   have hown5:w2.ownsRow 0 87 7 (.slice A5 xs.length c5) xs.length (xs.flatMap cell2):=own_R2 HR2.out;have HLA:=HKC.out.label (v := .slice A5 xs.length c5) 9 (by decide) hz5 (fun k hk=>by have:=Ks.own_lt hown5 k hk;simp;omega);obtain ⟨ρ2,t1,t2,t3,t4,t5,t6,t7⟩:=step_row (i:=5) HLA.zer HLA.lbl HLA.blk (by decide) HLA.rw_ HG3.out
   have HKD:KLx kb ρ2 (n+1) (w3.setCell ⟨kb,5,none⟩ (.slice A6 (EX.length+1) c6)) vI vW (.slice Av (ER.length+1) cv) (.slice A6 (EX.length+1) c6) E EW (ER++[⟨.slice A0 xs.length c0,xs.length,xs.flatMap cell2⟩]) (EX++[⟨.slice A5 xs.length c5,xs.length,xs.flatMap cell2⟩]) XI XI (YI++[xs]) (YI++[xs]):=by
    have g:∀ s,s≠0→s≠7→s≠5 → ∀ k,k<(w2.alloc (.cells #[.slice A5 xs.length c5] 31 (0,0))).heap.size→lab0 ρ1 (.slice A5 xs.length c5) 9 k=s→(w3.setCell ⟨kb,5,none⟩ (.slice A6 (EX.length+1) c6)).heap[k]?=(w2.alloc (.cells #[.slice A5 xs.length c5] 31 (0,0))).heap[k]?∧ρ2 k=lab0 ρ1 (.slice A5 xs.length c5) 9 k:=
     fun s h0 h7 hI k hk e=>⟨t6 k hk (by rw[e];exact hI) (by rw[e];exact h7),t1 k hk⟩
    have hnew:RowR ρ2 (w3.setCell ⟨kb,5,none⟩ (.slice A6 (EX.length+1) c6)) 87 7 (.slice A5 xs.length c5) xs.length (xs.flatMap cell2) 9:=
     RowR.move ⟨Ks.own_move hown5 (fun k hk=>Below.heap_alloc _ _ k (Ks.own_lt hown5 k hk)),fun k hk=>lab0_eq hk.symm⟩ (g 9 (by decide) (by decide) (by decide))
    exact { HLA with
     blk:=t4,lbl:=t3,zer:=t2
     i:=HLA.i.move (g 1 (by decide) (by decide) (by decide)),iw:=HLA.iw.move (g 2 (by decide) (by decide) (by decide)),r:=HLA.r.move (g 4 (by decide) (by decide) (by decide))
     e:=fun x hx=>(HLA.e x hx).move (g 3 (by decide) (by decide) (by decide)),ew:=fun x hx=>(HLA.ew x hx).move (g 8 (by decide) (by decide) (by decide)),f:=fun x hx=>(HLA.f x hx).move (g 6 (by decide) (by decide) (by decide))
     rw_:=by simpa using t5
     fw := fun x hx => by
       rcases List.mem_append.1 hx with hx|hx
       ·exact (HLA.fw x hx).move (g 9 (by decide) (by decide) (by decide))
       ·rw[List.mem_singleton.1 hx];exact hnew
     dW:=conts_snoc HLA.dW _ xs }
   have HAF:After ρ ρ2 (.slice A0 xs.length c0) w (w3.setCell ⟨kb,5,none⟩ (.slice A6 (EX.length+1) c6)):=by
    have hs1:=HAF1.out.2.1.size;have hs2:=HB5.out.size;have hlt:∀ k,k<w.heap.size→k<(w2.alloc (.cells #[.slice A5 xs.length c5] 31 (0,0))).heap.size:=fun k hk=>by simp;omega
    have hne:∀ k,k<w.heap.size→some k≠(Value.slice A5 xs.length c5).ownBlock:=fun k hk e=>by have:=hv5 k e.symm;omega
    refine ⟨fun k hk=>?_,((HAF1.out.2.1.trans (HB5.out.mono (Nat.zero_le _))).trans ((Below.refl 0 w2).alloc (Nat.zero_le _) _)).trans t7,fun k hk h0 hn=>?_⟩
    ·rw[t1 k (hlt k hk),lab0_ne (hne k hk)];exact HAF1.out.1 k hk
    ·have h1:ρ1 k=0:=by
      rcases HAF1.out.1 k hk with h|h
      ·exact h.trans h0
      ·exact absurd h hn
     refine (t6 k (hlt k hk) ?_ ?_).trans ((Below.heap_alloc _ _ k (by omega)).trans ((HB5.out.block k (by omega)).trans (HAF1.out.2.2 k hk h0)))<;>(rw[lab0_ne (hne k hk),h1];decide)
   have HKE:=Aside0.mk HKD;have HAE:=Aside0.mk HAF;clear HKD HAF HLA t1 t2 t3 t4 t5 t6 t7 hv5 hz5 hown5 q2 q5 q6 hk3a hk3b HG3 HKC HR2 HAT HB5;go_wp2_with fail
   first|go_end0|((try simp only[Exit.inBlock,Exit.then]);refine bodyPost_ret (results_none rfl _ _ _) rfl ?_)
   exact ⟨rfl,ρ2,⟨_,_,_,_,_,_,_,_,_,_,HKE.out⟩,HAE.out⟩
theorem keeperL (kb:Nat):Keeper kb (KL kb) where
 zer:=fun h=>by obtain ⟨vI,vW,vR,vX,E,EW,ER,EX,XI,YI,h⟩:=h;exact h.zer
 move:=fun h hm hs=>h.move hm hs
 put:=fun h hn hx hR hv=>putLI_calls h hn hx hR hv
 putR:=fun h hn hx hR hv=>putLR_calls h hn hx hR hv
end Go.Proofs.Ytpgdmmjbhjbbhaa.Lt
end
section
namespace Go.Proofs.Ytpgdmmjbhjbbhaa.Pn
open Go.RowKit P YtpgdmmjbhjbbhaaW.PrintWords YtpgdmmjbhjbbhaaW.PrintLast YtpgdmmjbhjbbhaaW.PrintMore Gw Ks Hd Kr
theorem row_cell {w:World} {e:TypeId} {sz n:Nat} {v:Value} {xs:List Value} (h:w.ownsRow 0 e sz v n xs) (hp:0<n):∃ g c,v = .slice (some ⟨g,0,none⟩) n c∧∀ j u,xs[j]?=some u→w.cell? ⟨g,j,none⟩=some u:=by
 rcases h.2 with ⟨_,h0⟩|⟨g,cap,cur,hv,hb,hg,hn,hm,hs,ht⟩
 ·omega
 ·refine ⟨g,cap,hv,fun j u hu=>?_⟩;rw[cell_of_row w g j _ _ (0,0) hg];rw[←ht] at hu;rw[List.getElem?_take] at hu;by_cases h3:j<n * sz
  ·rw[if_pos h3] at hu;simpa using hu
  ·rw[if_neg h3] at hu;cases hu
theorem own_max {w:World} {e:TypeId} {sz n:Nat} {v:Value} {xs:List Value} (h:w.ownsRow 0 e sz v n xs):(n:Int)≤9223372036854775807:=by
 rcases h.2 with ⟨_,h0⟩|⟨g,cap,cur,hv,hb,hg,hn,hm,hs,ht⟩
 ·omega
 ·simp only[maxLen] at hm;omega
theorem map_at {α β:Type} (f:α→β) (l:List α) (i:Nat) (h:i<l.length):(l.map f)[i]?=some (f l[i]):=by rw[List.getElem?_map,List.getElem?_eq_getElem h];rfl
theorem flat7 (pat:List Value) (hp:pat.length=7):∀ (n j i:Nat),j<n→i<7→(List.replicate n pat).flatten[j * 7+i]?=pat[i]?:=by
 intro n
 induction n with
 | zero=>intro j i h;omega
 | succ n ih=>
  intro j i h hi;rw[List.replicate_succ,List.flatten_cons];cases j with
  | zero=>rw[Nat.zero_mul,Nat.zero_add,List.getElem?_append_left (by omega)]
  | succ j=>rw[show (j+1) * 7+i=pat.length+(j * 7+i) from by omega,List.getElem?_append_right (by omega),Nat.add_sub_cancel_left];exact ih j i (by omega) hi
theorem flat1 (a:Value) (n j:Nat) (h:j<n):(List.replicate n [a]).flatten[j]?=some a:=by rw[flat_one,List.getElem?_replicate,if_pos h]
theorem whole_calls {kb : Nat} {ρ : Nat → Nat} {n : Nat} {w : World} (hK : KN kb ρ n w) (hn : n ≤ 4194304) :
    Calls Try.prog 78 #[.pointer (some ⟨kb,0,none⟩)] w fun e w'=>e = .returned (.bool true)∧Below w.heap.size w w':=by
  obtain ⟨vI,vM,vR,vN,E,ER,ms,mr,h⟩:=hK;obtain ⟨A1,c1,e1⟩:=own_slice h.fI.oI;obtain ⟨A3,c3,e3⟩:=own_slice h.fI.oM;obtain ⟨A4,c4,e4⟩:=own_slice h.fR.oI;obtain ⟨A6,c6,e6⟩:=own_slice h.fR.oM;have q0:w.cell? ⟨kb,0,none⟩=some (.bool false):=by rw[cell_of_row w kb 0 _ _ (0,0) h.blk];rfl
  have q1:w.cell? ⟨kb,1,none⟩=some (.slice A1 E.length c1):=by rw[cell_of_row w kb 1 _ _ (0,0) h.blk,←e1];rfl
  have q3:w.cell? ⟨kb,3,none⟩=some (.slice A3 ms.length c3):=by rw[cell_of_row w kb 3 _ _ (0,0) h.blk,←e3];rfl
  have q4:w.cell? ⟨kb,4,none⟩=some (.slice A4 ER.length c4):=by rw[cell_of_row w kb 4 _ _ (0,0) h.blk,←e4];rfl
  have q6:w.cell? ⟨kb,6,none⟩=some (.slice A6 mr.length c6):=by rw[cell_of_row w kb 6 _ _ (0,0) h.blk,←e6];rfl
  have HE1:=Aside0.mk e1;have HE3:=Aside0.mk e3;have HE4:=Aside0.mk e4;have HE6:=Aside0.mk e6;have H:=Aside0.mk h;have hb1:(E.length:Int)≤75497472:=by have:=h.nI;omega
  have hb4:(ER.length:Int)≤75497472:=by have:=h.nR;omega
  clear h e1 e3 e4 e6;go_enter Try.func78,Try.ntmps78
  go_wp2_with fail
  go_loopw [3] (fun v3 wr=>∃ i q:Nat,v3 = .int .i64 (i:Int)∧i≤E.length∧wr=w.drewN q) (fun v3 _=>E.length - (intOf v3).toNat)
  case atStart=>exact ⟨0,0,rfl,Nat.zero_le _,rfl⟩
  case round=>
   obtain ⟨i,q,rfl,hi,rfl⟩:=hrel;have HI:=Aside0.mk hi;by_cases hlt:i<E.length
   ·have hi0:(0:Int)≤(i:Int):=by omega
    have hi1:(i:Int)<(E.length:Int):=by omega
    have HLT:=Aside0.mk hlt;have hlm:i<ms.length:=by have:=H.out.mI.len;omega
    have hi2:(i:Int)<(ms.length:Int):=by omega
    obtain ⟨x,hx⟩:∃ x,E[i]=x:=⟨_,rfl⟩;obtain ⟨m,hm⟩:∃ m,ms[i]=m:=⟨_,rfl⟩;have hmem:x ∈ E:=by rw[←hx];exact List.getElem_mem hlt
    obtain ⟨gI,cI,f1,fc⟩:=row_cell H.out.fI.oI (Nat.lt_of_le_of_lt (Nat.zero_le _) hlt);rw[HE1.out] at f1
    injection f1 with f2 f3 f4
    have HCX:Aside0 (w.cell? ⟨gI,i,none⟩=some x.v):=⟨by rw[←hx];exact fc i _ (map_at _ _ _ hlt)⟩;obtain ⟨gM,cM,g1,gc⟩:=row_cell H.out.fI.oM (Nat.lt_of_le_of_lt (Nat.zero_le _) hlm);rw[HE3.out] at g1
    injection g1 with g2 g3 g4
    have cm:w.cell? ⟨gM,i,none⟩=some (.int .i64 m):=by rw[←hm];exact gc i _ (map_at _ _ _ hlm)
    have HEN:=Aside0.mk (H.out.fI.en x hmem);have hbd:=H.out.mI.bd m (by rw[←hm];exact List.getElem_mem hlm);have hm0:=hbd.1;have hm1:=hbd.2;have HFU:Aside0 (x.cs=(List.replicate x.n (patI m)).flatten):=⟨H.out.mI.full i x m (by rw[←hx];exact List.getElem?_eq_getElem hlt) (by rw[←hm];exact List.getElem?_eq_getElem hlm)⟩;obtain ⟨Ax,cx,ex⟩:=own_slice HEN.out.1;have HEX:=Aside0.mk ex;have hcx:=HCX.out;have hxn:=own_max HEN.out.1;rw[ex] at hcx;subst f2 g2;clear hx hm hmem fc gc ex f3 f4 g3 g4 hbd hlm hi;go_wp2_with fail
    go_loopw [4] (fun v4 wr=>∃ j q:Nat,v4 = .int .i64 (j:Int)∧j≤x.n∧wr=w.drewN q) (fun v4 _=>x.n - (intOf v4).toNat)
    case atStart=>exact ⟨0,q,rfl,Nat.zero_le _,rfl⟩
    case round=>
     obtain ⟨j,q2,rfl,hj,rfl⟩:=hrel;by_cases hlt2:j<x.n
     ·have hj0:(0:Int)≤(j:Int):=by omega
      have hj1:(j:Int)<(x.n:Int):=by omega
      obtain ⟨gx,cx2,x1,xc⟩:=row_cell HEN.out.1 (Nat.lt_of_le_of_lt (Nat.zero_le _) hlt2);rw[HEX.out] at x1
      injection x1 with x2 x3 x4
      subst x2;have cy:w.cell? ⟨gx,j,none⟩=some (.int .u8 (m % 250+1)):=xc j _ (by rw[HFU.out];exact flat1 _ _ _ hlt2);have HLT2:=Aside0.mk hlt2;clear x3 x4 xc;go_wp2_with fail
      go_region
      go_wp2_with fail
      go_roundw
      case rel=>exact ⟨j+1,_,by go_num,by have:=HLT2.out;omega,rfl⟩
      case measure=>simp only[intOf];have:=HLT2.out;first|omega|(go_num;omega)|(simp;omega)
     ·obtain rfl:j=x.n:=by omega
      go_wp2_with fail
      go_roundw
      case rel=>exact ⟨i+1,_,by go_num,by have:=HLT.out;omega,rfl⟩
      case measure=>simp only[intOf];have:=HLT.out;first|omega|(go_num;omega)|(simp;omega)
   ·obtain rfl:i=E.length:=by omega
    go_wp2_with fail
    go_loopw [5] (fun v3 wr=>∃ i q:Nat,v3 = .int .i64 (i:Int)∧i≤ER.length∧wr=w.drewN q) (fun v3 _=>ER.length - (intOf v3).toNat)
    case atStart=>exact ⟨0,_,rfl,Nat.zero_le _,rfl⟩
    case round=>
     obtain ⟨i,q,rfl,hi,rfl⟩:=hrel;have HI:=Aside0.mk hi;by_cases hlt:i<ER.length
     ·have hi0:(0:Int)≤(i:Int):=by omega
      have hi1:(i:Int)<(ER.length:Int):=by omega
      have HLT:=Aside0.mk hlt;have hlm:i<mr.length:=by have:=H.out.mR.len;omega
      have hi2:(i:Int)<(mr.length:Int):=by omega
      obtain ⟨x,hx⟩:∃ x,ER[i]=x:=⟨_,rfl⟩;obtain ⟨m,hm⟩:∃ m,mr[i]=m:=⟨_,rfl⟩;have hmem:x ∈ ER:=by rw[←hx];exact List.getElem_mem hlt
      obtain ⟨gI,cI,f1,fc⟩:=row_cell H.out.fR.oI (Nat.lt_of_le_of_lt (Nat.zero_le _) hlt);rw[HE4.out] at f1
      injection f1 with f2 f3 f4
      have HCX:Aside0 (w.cell? ⟨gI,i,none⟩=some x.v):=⟨by rw[←hx];exact fc i _ (map_at _ _ _ hlt)⟩;obtain ⟨gM,cM,g1,gc⟩:=row_cell H.out.fR.oM (Nat.lt_of_le_of_lt (Nat.zero_le _) hlm);rw[HE6.out] at g1
      injection g1 with g2 g3 g4
      have cm:w.cell? ⟨gM,i,none⟩=some (.int .i64 m):=by rw[←hm];exact gc i _ (map_at _ _ _ hlm)
      have HEN:=Aside0.mk (H.out.fR.en x hmem);have hbd:=H.out.mR.bd m (by rw[←hm];exact List.getElem_mem hlm);have hm0:=hbd.1;have hm1:=hbd.2;have HFU:Aside0 (x.cs=(List.replicate x.n (patR m)).flatten):=⟨H.out.mR.full i x m (by rw[←hx];exact List.getElem?_eq_getElem hlt) (by rw[←hm];exact List.getElem?_eq_getElem hlm)⟩;obtain ⟨Ax,cx,ex⟩:=own_slice HEN.out.1;have HEX:=Aside0.mk ex;have hcx:=HCX.out;have hxn:=own_max HEN.out.1;rw[ex] at hcx;subst f2 g2;clear hx hm hmem fc gc ex f3 f4 g3 g4 hbd hlm hi;go_wp2_with fail
      go_loopw [6] (fun v4 wr=>∃ j q:Nat,v4 = .int .i64 (j:Int)∧j≤x.n∧wr=w.drewN q) (fun v4 _=>x.n - (intOf v4).toNat)
      case atStart=>exact ⟨0,q,rfl,Nat.zero_le _,rfl⟩
      case round=>
       obtain ⟨j,q2,rfl,hj,rfl⟩:=hrel;by_cases hlt2:j<x.n
       ·have hj0:(0:Int)≤(j:Int):=by omega
        have hj1:(j:Int)<(x.n:Int):=by omega
        obtain ⟨gx,cx2,x1,xc⟩:=row_cell HEN.out.1 (Nat.lt_of_le_of_lt (Nat.zero_le _) hlt2);rw[HEX.out] at x1
        injection x1 with x2 x3 x4
        subst x2;have cy0:w.cell? ⟨gx,j * 7,none⟩=some (.string ⟨#[109,97,114,107]⟩):=xc (j * 7) _ (by rw[HFU.out];exact flat7 _ rfl _ j 0 hlt2 (by decide));have cy1:w.cell? ⟨gx,j * 7+1,none⟩=some (.int .i64 m):=xc (j * 7+1) _ (by rw[HFU.out];exact flat7 _ rfl _ j 1 hlt2 (by decide));have cy2:w.cell? ⟨gx,j * 7+2,none⟩=some (.int .i64 0):=xc (j * 7+2) _ (by rw[HFU.out];exact flat7 _ rfl _ j 2 hlt2 (by decide));have cy3:w.cell? ⟨gx,j * 7+3,none⟩=some (.int .i64 0):=xc (j * 7+3) _ (by rw[HFU.out];exact flat7 _ rfl _ j 3 hlt2 (by decide));have cy4:w.cell? ⟨gx,j * 7+4,none⟩=some (.int .i64 0):=xc (j * 7+4) _ (by rw[HFU.out];exact flat7 _ rfl _ j 4 hlt2 (by decide));have cy5:w.cell? ⟨gx,j * 7+5,none⟩=some (.int .i64 0):=xc (j * 7+5) _ (by rw[HFU.out];exact flat7 _ rfl _ j 5 hlt2 (by decide));have cy6:w.cell? ⟨gx,j * 7+6,none⟩=some (.int .i64 0):=xc (j * 7+6) _ (by rw[HFU.out];exact flat7 _ rfl _ j 6 hlt2 (by decide));have HLT2:=Aside0.mk hlt2;clear x3 x4 xc;go_wp2_with fail
        go_region
        go_wp2_with fail
        go_roundw
        case rel=>exact ⟨j+1,_,by go_num,by have:=HLT2.out;omega,rfl⟩
        case measure=>simp only[intOf];have:=HLT2.out;first|omega|(go_num;omega)|(simp;omega)
       ·obtain rfl:j=x.n:=by omega
        go_wp2_with fail
        go_roundw
        case rel=>exact ⟨i+1,_,by go_num,by have:=HLT.out;omega,rfl⟩
        case measure=>simp only[intOf];have:=HLT.out;first|omega|(go_num;omega)|(simp;omega)
     ·obtain rfl:i=ER.length:=by omega
      go_wp2_with fail
      go_ret
      exact ⟨rfl,pw_below_drewN (Below.refl _ _) _⟩
end Go.Proofs.Ytpgdmmjbhjbbhaa.Pn
end
section
namespace Go.Proofs.Ytpgdmmjbhjbbhaa.Lt
open Go.RowKit P YtpgdmmjbhjbbhaaW.PrintWords YtpgdmmjbhjbbhaaW.PrintLast YtpgdmmjbhjbbhaaW.PrintMore Gw Ks Hd Kr Pn Lw Wr
theorem alike_self (A c:_) (A1 c1:_) (x:List Int) (w:World) (hx:Kd.C (Kd.int .u8) w A x.length x) (hxc:x.length≤c) (hy:Kd.C (Kd.int .u8) w A1 x.length x) (hyc:x.length≤c1):
  Calls Try.prog 37 #[.slice A x.length c,.slice A1 x.length c1] w fun e w'=>e = .returned (.bool true)∧Below w.heap.size w w':=
 (sluicelaw2_alike.calls A c x A1 c1 x true w hx hxc hy hyc (by simp[sluicelaw2_alike.f])).mono fun e w' h=>⟨h.1,h.2.below⟩
theorem views_self (A c:_) (A1 c1:_) (x:List S87) (w:World) (hx:Kd.C k87 w A x.length x) (hxc:x.length≤c) (hy:Kd.C k87 w A1 x.length x) (hyc:x.length≤c1):
  Calls Try.prog 40 #[.slice A x.length c,.slice A1 x.length c1] w fun e w'=>e = .returned (.bool true)∧Below w.heap.size w w':=
 (sameViews_calls A c x A1 c1 x w hx hxc hy hyc).mono fun e w' h=>⟨by rw[h.1];simp[Sp.dcd],h.2⟩
theorem hold_keepI {kb:Nat} {ρ:Nat→Nat} {n:Nat} {w:World} {v:Value} {nf:Nat} {m:Int} (hK:KN kb ρ n w) (hn:n≤4194304) (hm:0≤m∧m≤1099511627776) (hnf:nf≤100000) (ho:w.ownsRow 0 5 1 v nf (List.replicate nf (patI m)).flatten) (hv:∀ k,v.ownBlock=some k→ρ k=0):
  Calls Try.prog 109 #[.pointer (some ⟨kb,0,none⟩),v,.int .i64 m] w fun e w'=>e = .returned (.tuple #[])∧∃ ρ',KN kb ρ' (n+1) w'∧After ρ ρ' v w w':=by
 obtain ⟨vI,vM,vR,vN,E,ER,ms,mr,h⟩:=hK;have h1:ms.length≤75497472:=by have:=h.nI;have:=h.mI.len;omega
 have hs:=init (T:=5) (tI:=36) (m:=m) (numsI m) h.blk (by rfl) h.lbl h.fI h.zer (Kept.refl w (fun k=>some k=v.ownBlock)) hv ho;refine (holdI_calls kb v nf m w _ _ E ms ⟨_,_,_,_,_,hs⟩ rfl hm (by omega) (by have:=h.mI.len;omega) (by omega)).mono ?_;rintro e wz ⟨rfl,far,nf',ρ',vI',vM',E',ms',hz⟩;refine ⟨rfl,ρ',?_,after (numsI _) (Kept.refl w _) (Below.refl 0 w) hz⟩;obtain ⟨Ex,x1,x2,x3⟩:=hz.exE;have hk:=hz.kbk;refine ⟨vI',vM',vR,vN,E',ER,ms',mr,hk,hz.kbr,hz.fam,other h.fR (by decide) (Kept.refl w _) hv hz,hz.zer,?_,h.mR,?_,by have:=h.nR;omega⟩
 ·rw[x1,hz.exM];exact h.mI.more x2 hm x3
 ·rw[x1,List.length_append,x2];have:=h.nI;omega
theorem hold_keepR {kb:Nat} {ρ:Nat→Nat} {n:Nat} {w:World} {v:Value} {nf:Nat} {m:Int} (hK:KN kb ρ n w) (hn:n≤4194304) (hm:0≤m∧m≤1099511627776) (hnf:nf≤100000) (ho:w.ownsRow 0 87 7 v nf (List.replicate nf (patR m)).flatten) (hv:∀ k,v.ownBlock=some k→ρ k=0):
  Calls Try.prog 111 #[.pointer (some ⟨kb,0,none⟩),v,.int .i64 m] w fun e w'=>e = .returned (.tuple #[])∧∃ ρ',KN kb ρ' (n+1) w'∧After ρ ρ' v w w':=by
 obtain ⟨vI,vM,vR,vN,E,ER,ms,mr,h⟩:=hK;have h1:mr.length≤75497472:=by have:=h.nR;have:=h.mR.len;omega
 have hs:=init (T:=87) (tI:=31) (m:=m) (numsR m) h.blk (by rfl) h.lbl h.fR h.zer (Kept.refl w (fun k=>some k=v.ownBlock)) hv ho;refine (holdR_calls kb v nf m w _ _ ER mr ⟨_,_,_,_,_,hs⟩ rfl hm (by omega) (by have:=h.mR.len;omega) (by omega)).mono ?_;rintro e wz ⟨rfl,far,nf',ρ',vI',vM',E',ms',hz⟩;refine ⟨rfl,ρ',?_,after (numsR _) (Kept.refl w _) (Below.refl 0 w) hz⟩;obtain ⟨Ex,x1,x2,x3⟩:=hz.exE;have hk:=hz.kbk;refine ⟨vI,vM,vI',vM',E,E',ms,ms',hk,hz.kbr,other h.fI (by decide) (Kept.refl w _) hv hz,hz.fam,hz.zer,h.mI,?_,by have:=h.nI;omega,?_⟩
 ·rw[x1,hz.exM];exact h.mR.more x2 hm x3
 ·rw[x1,List.length_append,x2];have:=h.nR;omega
theorem rowI {w:World} {v:Value} {n:Nat} {cs:List Value} {xs:List Int} (h:w.ownsRow 0 5 1 v n cs) (hn:n=xs.length) (hc:cs=xs.flatMap cell1):Kd.R (Kd.int .u8) 5 w 0 (fun k=>some k=v.ownBlock) v xs:=by
 have e:xs.flatMap cell1=encs (Value.int .u8) xs:=by
  unfold encs;clear h hn hc
  induction xs with
  | nil=>rfl
  | cons x xs ih=>rw[List.flatMap_cons,ih];rfl
 subst hn;rw[hc,e] at h;exact Kd.R_of_own h (fun k hk=>hk.symm)
theorem reps_of_flat {α:Type} {R:α→List Value→Prop} {sz:Nat} {f:α→List Value} (hf:∀ p,R p (f p)) (hl:∀ p,(f p).length=sz):∀ ps:List α,Reps R sz ps (ps.flatMap f):=by
 intro ps
 have hlen:∀ ps:List α,(ps.flatMap f).length=ps.length * sz:=by
  intro ps
  induction ps with
  | nil=>simp
  | cons p ps ih=>rw[List.flatMap_cons,List.length_append,hl,ih,List.length_cons,Nat.add_mul];omega
 refine ⟨hlen ps,?_⟩
 induction ps with
 | nil=>intro j p h;simp at h
 | cons p ps ih=>
  intro j q hq;rw[List.flatMap_cons];cases j with
  | zero=>
   obtain rfl:p=q:=by simpa using hq
   rw[Nat.zero_mul,List.drop_zero,←hl p,List.take_left];exact hf p
  | succ j=>
   rw[show (j+1) * sz=(f p).length+j * sz from by rw[hl,Nat.add_mul];omega,←List.drop_drop,List.drop_left];exact ih j q (by simpa using hq)
theorem rowR {w:World} {v:Value} {n:Nat} {cs:List Value} {xs:List S87} (h:w.ownsRow 0 87 7 v n cs) (hn:n=xs.length) (hc:cs=xs.flatMap cell2):Kd.R k87 87 w 0 (fun k=>some k=v.ownBlock) v xs:=by
 subst hn;subst hc;exact ⟨fun k hk=>hk.symm,_,h,reps_of_flat (fun p=>k87_mkM _ _ _ p) (fun _=>rfl) xs⟩
theorem apart_at {E:List Ent} (h:Apart E) {i j:Nat} (hi:i<E.length) (hj:j<E.length) (hne:i≠j) {k:Nat} (h1:E[i].v.ownBlock=some k):some k≠E[j].v.ownBlock:=by
 intro e;unfold Apart at h;rw[List.pairwise_iff_getElem] at h;rcases Nat.lt_or_ge i j with h2|h2
 ·have:=h i j hi hj h2 (h1.trans e);rw[h1] at this;cases this
 ·have:=h j i hj hi (by omega) (e.symm.trans h1.symm);rw[this] at e;cases e
def labT (kb:Nat):Nat→Nat:=fun k=>if k=kb then 7 else 0
theorem keep_newT (w:World):KN w.heap.size (labT w.heap.size) 0 (w.alloc (.cells #[.bool false,.slice none 0 0,.slice none 0 0,.slice none 0 0,.slice none 0 0,.slice none 0 0,.slice none 0 0] 61)):=by
 have hn:∀ k,(Value.slice none 0 0).ownBlock=some k→False:=fun k h=>by simp[Value.ownBlock] at h
 refine ⟨.slice none 0 0,.slice none 0 0,.slice none 0 0,.slice none 0 0,[],[],[],[],heap_alloc_new w _,if_pos rfl,⟨World.ownsRow_nil _ _ _ _,fun k h=>(hn k h).elim,World.ownsRow_nil _ _ _ _,fun k h=>(hn k h).elim,fun x h=>by simp at h⟩,⟨World.ownsRow_nil _ _ _ _,fun k h=>(hn k h).elim,World.ownsRow_nil _ _ _ _,fun k h=>(hn k h).elim,fun x h=>by simp at h⟩,fun k h=>?_,Marked.nil _,Marked.nil _,by simp,by simp⟩;by_cases e:k=w.heap.size
 ·simp;omega
 ·exact absurd (if_neg e) h
structure FS (T sz:Nat) (pat:Int→List Value) (r:Nat) (ρ:Nat→Nat) (w:World) (E:List Ent) (i:Nat) (wr:World):Prop where
 kept:Kept w wr (fun k=>ρ k=r)
 b0:Below 0 w wr
 done_:∀ j (hj:j<E.length),j<i→wr.ownsRow 0 T sz E[j].v E[j].n (List.replicate E[j].n (pat (j:Int))).flatten
 left:∀ j (hj:j<E.length),i≤j→wr.ownsRow 0 T sz E[j].v E[j].n E[j].cs
theorem FS.start {T sz:Nat} {pat:Int→List Value} {r:Nat} {ρ:Nat→Nat} {w:World} {E:List Ent} (h:∀ x ∈ E,RowR ρ w T sz x.v x.n x.cs r):FS T sz pat r ρ w E 0 w:=
 ⟨Kept.refl _ _,Below.refl _ _,fun j hj h0=>absurd h0 (by omega),fun j hj _=>(h _ (List.getElem_mem hj)).own⟩
theorem FS.next {T sz:Nat} {pat:Int→List Value} {r:Nat} {ρ:Nat→Nat} {w wr wx:World} {E:List Ent} {i:Nat} (h:FS T sz pat r ρ w E i wr) (hi:i<E.length) (ha:Apart E) (hr:∀ x ∈ E,∀ k,x.v.ownBlock=some k→ρ k=r) (hk:Kept wr wx (fun k=>some k=E[i].v.ownBlock)) (hb:Below 0 wr wx) (ho:wx.ownsRow 0 T sz E[i].v E[i].n (List.replicate E[i].n (pat (i:Int))).flatten):FS T sz pat r ρ w E (i+1) wx:=by
 refine ⟨h.kept.then_ hk (fun k hk2 => .inl (hr _ (List.getElem_mem hi) k hk2.symm)),h.b0.trans hb,fun j hj h0=>?_,fun j hj h0=>?_⟩
 ·by_cases e:j=i
  ·subst e;exact ho
  ·have h1:=h.done_ j hj (by omega);exact Ks.own_move h1 (fun k hk2=>hk.2 k (Ks.own_lt h1 k hk2) (apart_at ha hj hi e hk2))
 ·have h1:=h.left j hj (by omega);exact Ks.own_move h1 (fun k hk2=>hk.2 k (Ks.own_lt h1 k hk2) (apart_at ha hj hi (by omega) hk2))
structure CS (T sz:Nat) (pat:Int→List Value) (P:Nat→Prop) (N:Nat) (w:World) (E:List Ent) (tb c i:Nat) (ρt:Nat→Nat) (wr:World):Prop where
 kn:KN tb ρt (c+i) wr
 b0:Below 0 w wr
 same:∀ k,k<N → ¬P k→ρt k=0∧wr.heap[k]?=w.heap[k]?
 left:∀ j (hj:j<E.length),i≤j→wr.ownsRow 0 T sz E[j].v E[j].n (List.replicate E[j].n (pat (j:Int))).flatten∧∀ k,E[j].v.ownBlock=some k→ρt k=0
theorem CS.next {T sz N tb c i:Nat} {pat:Int→List Value} {P:Nat→Prop} {w wr wx:World} {E:List Ent} {ρt ρx:Nat→Nat} (h:CS T sz pat P N w E tb c i ρt wr) (hN:N≤w.heap.size) (hi:i<E.length) (ha:Apart E) (hP:∀ x ∈ E,∀ k,x.v.ownBlock=some k→P k) (hk:KN tb ρx (c+i+1) wx) (haf:After ρt ρx E[i].v wr wx):CS T sz pat P N w E tb c (i+1) ρx wx:=by
 refine ⟨hk,h.b0.trans haf.b0,fun k hk2 hp=>?_,fun j hj h0=>?_⟩
 ·have hne:some k≠E[i].v.ownBlock:=fun e=>hp (hP _ (List.getElem_mem hi) k e.symm);have hlt:k<wr.heap.size:=Nat.lt_of_lt_of_le hk2 (Nat.le_trans hN h.b0.size);have h1:=h.same k hk2 hp;exact ⟨haf.zero h1.1 hlt hne,(haf.same k hlt h1.1 hne).trans h1.2⟩
 ·have h1:=h.left j hj (by omega);refine ⟨Ks.own_move h1.1 (fun k hk2=>haf.same k (Ks.own_lt h1.1 k hk2) (h1.2 k hk2) (apart_at ha hj hi (by omega) hk2)),fun k hk2=>haf.zero (h1.2 k hk2) (Ks.own_lt h1.1 k hk2) (apart_at ha hj hi (by omega) hk2)⟩
theorem lately_calls {kb : Nat} {ρ : Nat → Nat} {n : Nat} {w : World} (hK : KL kb ρ n w) (hn : n ≤ 2000000) :
    Calls Try.prog 112 #[.pointer (some ⟨kb,0,none⟩)] w fun e w'=>e = .returned (.bool true)∧Below 0 w w'∧∀ k,k<w.heap.size→ρ k=0→w'.heap[k]?=w.heap[k]?:=by
  obtain ⟨vI,vW,vR,vX,E,EW,ER,EX,XI,YI,h⟩:=hK;obtain ⟨A1,c1,rfl⟩:=own_slice h.i.own;obtain ⟨A2,c2,rfl⟩:=own_slice h.iw.own;obtain ⟨A4,c4,rfl⟩:=own_slice h.r.own;obtain ⟨A5,c5,rfl⟩:=own_slice h.rw_.own;have hl1:E.length=XI.length:=conts_len h.cE;have hl2:EW.length=E.length:=(conts_len h.cW).trans hl1.symm;have hl3:ER.length=YI.length:=conts_len h.dE;have hl4:EX.length=ER.length:=(conts_len h.dW).trans hl3.symm;have HL:=Aside0.mk (And.intro (And.intro hl1 hl2) (And.intro hl3 hl4));have H:=Aside0.mk h;have hb1:(E.length:Int)≤2000000:=by have:=h.nE;omega
  have hb4:(ER.length:Int)≤2000000:=by have:=h.nR;omega
  have HZ0:=Aside0.mk h.zer;have HNB:Aside0 (E.length≤2000000∧ER.length≤2000000):=⟨by have:=h.nE;have:=h.nR;omega⟩
  have HQ:Aside0 (w.cell? ⟨kb,1,none⟩=some (.slice A1 E.length c1)∧w.cell? ⟨kb,2,none⟩=some (.slice A2 EW.length c2)∧w.cell? ⟨kb,4,none⟩=some (.slice A4 ER.length c4)∧w.cell? ⟨kb,5,none⟩=some (.slice A5 EX.length c5)):=⟨by
   refine ⟨?_,?_,?_,?_⟩<;>(rw[cell_of_row w kb _ _ _ (0,0) h.blk];rfl)⟩
  clear h hl1 hl2 hl3 hl4 hn;go_enter Try.func112,Try.ntmps112
  go_wp2_with fail
  go_loopw [3] (fun v3 wr=>∃ i:Nat,v3 = .int .i64 (i:Int)∧i≤E.length∧Aside0 (Below w.heap.size w wr)) (fun v3 _=>E.length - (intOf v3).toNat)
  case atStart=>exact ⟨0,rfl,Nat.zero_le _,⟨Below.refl _ _⟩⟩
  case round=>
   obtain ⟨i,rfl,hi,HB⟩:=hrel;have HI:=Aside0.mk hi;have q1:=pw_cell_below HB.out HQ.out.1;have q2:=pw_cell_below HB.out HQ.out.2.1;by_cases hlt:i<E.length
   ·have hi0:(0:Int)≤(i:Int):=by omega
    have hi1:(i:Int)<(E.length:Int):=by omega
    have hi2:(i:Int)<(EW.length:Int):=by have:=HL.out;omega
    have hltw:i<EW.length:=by have:=HL.out;omega
    have hltx:i<XI.length:=by have:=HL.out;omega
    have HLT:=Aside0.mk hlt;obtain ⟨gI,cI,f1,fc⟩:=row_cell H.out.i.own (Nat.lt_of_le_of_lt (Nat.zero_le _) hlt)
    injection f1 with f2 f3 f4
    obtain ⟨gW,cW,g1,gc⟩:=row_cell H.out.iw.own (Nat.lt_of_le_of_lt (Nat.zero_le _) hltw)
    injection g1 with g2 g3 g4
    subst f2 g2;obtain ⟨x1,x2⟩:=conts_at H.out.cE i hlt hltx;obtain ⟨y1,y2⟩:=conts_at H.out.cW i hltw hltx;have hex:=rowI (H.out.e _ (List.getElem_mem hlt)).own x1 x2;have hew:=rowI (H.out.ew _ (List.getElem_mem hltw)).own y1 y2;have hce:=fc i _ (map_at (·.v) E i hlt);have hcw:=gc i _ (map_at (·.v) EW i hltw);obtain ⟨xs,hxs⟩:∃ xs,XI[i]=xs:=⟨_,rfl⟩;rw[hxs] at hex hew;have hln:xs.length≤100000:=by rw[←hxs];exact H.out.lE _ (List.getElem_mem hltx)
    obtain ⟨Ae,ce,ee,he1,he2⟩:=Kd.R_reads hex;obtain ⟨Aw,cw,ew,hw1,hw2⟩:=Kd.R_reads hew;rw[ee] at hce;rw[ew] at hcw;have HC1:Aside0 (Kd.C (Kd.int .u8) wr.drew Ae xs.length xs):=⟨Kd.C_drew (Kd.C_below he2 HB.out)⟩;have HC2:Aside0 (Kd.C (Kd.int .u8) wr.drew Aw xs.length xs):=⟨Kd.C_drew (Kd.C_below hw2 HB.out)⟩;have HE1:=Aside0.mk he1;have HW1:=Aside0.mk hw1;have q3:=pw_cell_below HB.out hce;have q4:=pw_cell_below HB.out hcw;clear f3 f4 g3 g4 fc gc x1 x2 y1 y2 hex hew hce hcw hxs hln ee ew he1 he2 hw1 hw2 hltx hi;go_wp2_with fail
    go_region_held3 (fun w' => w'.cell? ⟨kb, 1, none⟩ = some (.slice (some ⟨gI, 0, none⟩) E.length c1) ∧ w'.cell? ⟨kb, 2, none⟩ = some (.slice (some ⟨gW, 0, none⟩) EW.length c2) ∧ w'.cell? ⟨gI, i, none⟩ = some (.slice Ae xs.length ce) ∧ w'.cell? ⟨gW, i, none⟩ = some (.slice Aw xs.length cw))
      ((go_split_ands; first
        | (refine ⟨pw_cell_below hbs ?_,pw_cell_below hbs ?_,pw_cell_below hbs ?_,pw_cell_below hbs ?_⟩<;>assumption)
        | (refine ⟨?_,?_,?_,?_⟩<;>simp[*])))
      (first
       | (go_at_call 37;refine (alike_self Ae ce Aw cw xs _ HC1.out HE1.out HC2.out HW1.out).mono ?_;rintro e ws ⟨rfl,hbs⟩))
    have HB2:Aside0 (Below w.heap.size w ws):=⟨HB.out.trans ((Below.refl _ _).drew.trans (hbs.mono HB.out.size))⟩;clear q1 q2 q3 q4 hbs;go_wp2_with fail
    go_roundw
    case rel=>exact ⟨i+1,by go_num,by have:=HLT.out;omega,HB2⟩
    case measure=>simp only[intOf];have:=HLT.out;first|omega|(go_num;omega)|(simp;omega)
   ·obtain rfl:i=E.length:=by omega
    go_wp2_with fail
    go_loopw [4] (fun v3 wr=>∃ i:Nat,v3 = .int .i64 (i:Int)∧i≤ER.length∧Aside0 (Below w.heap.size w wr)) (fun v3 _=>ER.length - (intOf v3).toNat)
    case atStart=>exact ⟨0,rfl,Nat.zero_le _,HB⟩
    case round=>
     obtain ⟨i,rfl,hi,HB⟩:=hrel;have HI:=Aside0.mk hi;have q1:=pw_cell_below HB.out HQ.out.2.2.1;have q2:=pw_cell_below HB.out HQ.out.2.2.2;by_cases hlt:i<ER.length
     ·have hi0:(0:Int)≤(i:Int):=by omega
      have hi1:(i:Int)<(ER.length:Int):=by omega
      have hi2:(i:Int)<(EX.length:Int):=by have:=HL.out;omega
      have hltw:i<EX.length:=by have:=HL.out;omega
      have hltx:i<YI.length:=by have:=HL.out;omega
      have HLT:=Aside0.mk hlt;obtain ⟨gI,cI,f1,fc⟩:=row_cell H.out.r.own (Nat.lt_of_le_of_lt (Nat.zero_le _) hlt)
      injection f1 with f2 f3 f4
      obtain ⟨gW,cW,g1,gc⟩:=row_cell H.out.rw_.own (Nat.lt_of_le_of_lt (Nat.zero_le _) hltw)
      injection g1 with g2 g3 g4
      subst f2 g2;obtain ⟨x1,x2⟩:=conts_at H.out.dE i hlt hltx;obtain ⟨y1,y2⟩:=conts_at H.out.dW i hltw hltx;have hex:=rowR (H.out.f _ (List.getElem_mem hlt)).own x1 x2;have hew:=rowR (H.out.fw _ (List.getElem_mem hltw)).own y1 y2;have hce:=fc i _ (map_at (·.v) ER i hlt);have hcw:=gc i _ (map_at (·.v) EX i hltw);obtain ⟨xs,hxs⟩:∃ xs,YI[i]=xs:=⟨_,rfl⟩;rw[hxs] at hex hew;have hln:xs.length≤100000:=by rw[←hxs];exact H.out.lR _ (List.getElem_mem hltx)
      obtain ⟨Ae,ce,ee,he1,he2⟩:=Kd.R_reads hex;obtain ⟨Aw,cw,ew,hw1,hw2⟩:=Kd.R_reads hew;rw[ee] at hce;rw[ew] at hcw;have HC1:Aside0 (Kd.C k87 wr.drew Ae xs.length xs):=⟨Kd.C_drew (Kd.C_below he2 HB.out)⟩;have HC2:Aside0 (Kd.C k87 wr.drew Aw xs.length xs):=⟨Kd.C_drew (Kd.C_below hw2 HB.out)⟩;have HE1:=Aside0.mk he1;have HW1:=Aside0.mk hw1;have q3:=pw_cell_below HB.out hce;have q4:=pw_cell_below HB.out hcw;clear f3 f4 g3 g4 fc gc x1 x2 y1 y2 hex hew hce hcw hxs hln ee ew he1 he2 hw1 hw2 hltx hi;go_wp2_with fail
      go_region_held3 (fun w' => w'.cell? ⟨kb, 4, none⟩ = some (.slice (some ⟨gI, 0, none⟩) ER.length c4) ∧ w'.cell? ⟨kb, 5, none⟩ = some (.slice (some ⟨gW, 0, none⟩) EX.length c5) ∧ w'.cell? ⟨gI, i, none⟩ = some (.slice Ae xs.length ce) ∧ w'.cell? ⟨gW, i, none⟩ = some (.slice Aw xs.length cw))
        ((go_split_ands; first
          | (refine ⟨pw_cell_below hbs ?_,pw_cell_below hbs ?_,pw_cell_below hbs ?_,pw_cell_below hbs ?_⟩<;>assumption)
          | (refine ⟨?_,?_,?_,?_⟩<;>simp[*])))
        (first
         | (go_at_call 40;refine (views_self Ae ce Aw cw xs _ HC1.out HE1.out HC2.out HW1.out).mono ?_;rintro e ws ⟨rfl,hbs⟩))
      have HB2:Aside0 (Below w.heap.size w ws):=⟨HB.out.trans ((Below.refl _ _).drew.trans (hbs.mono HB.out.size))⟩;clear q1 q2 q3 q4 hbs;go_wp2_with fail
      go_roundw
      case rel=>exact ⟨i+1,by go_num,by have:=HLT.out;omega,HB2⟩
      case measure=>simp only[intOf];have:=HLT.out;first|omega|(go_num;omega)|(simp;omega)
     ·obtain rfl:i=ER.length:=by omega
      go_wp2_with fail
      have HT0:=Aside0.mk (keep_newT wr);have HB1:Aside0 (Below w.heap.size w (wr.alloc (.cells #[.bool false,.slice none 0 0,.slice none 0 0,.slice none 0 0,.slice none 0 0,.slice none 0 0,.slice none 0 0] 61))):=⟨HB.out.alloc HB.out.size _⟩;have HTB:Aside0 (w.heap.size≤wr.heap.size∧wr.heap.size<(wr.alloc (.cells #[.bool false,.slice none 0 0,.slice none 0 0,.slice none 0 0,.slice none 0 0,.slice none 0 0,.slice none 0 0] 61)).heap.size):=⟨HB.out.size,by simp⟩;clear q1 q2 hi HB HI hlt
      generalize wr.alloc (.cells #[.bool false,.slice none 0 0,.slice none 0 0,.slice none 0 0,.slice none 0 0,.slice none 0 0,.slice none 0 0] 61)=w1 at HT0 HB1 HTB ⊢
      generalize wr.heap.size=tb at HT0 HTB ⊢
      have HK1:Aside0 (KLx kb ρ n w1 (.slice A1 E.length c1) (.slice A2 EW.length c2) (.slice A4 ER.length c4) (.slice A5 EX.length c5) E EW ER EX XI XI YI YI):=⟨H.out.move (fun k hk _=>HB1.out.block k hk) HB1.out.size⟩;have HQ1:Aside0 (w1.cell? ⟨kb,1,none⟩=some (.slice A1 E.length c1)∧w1.cell? ⟨kb,4,none⟩=some (.slice A4 ER.length c4)):=⟨⟨pw_cell_below HB1.out HQ.out.1,pw_cell_below HB1.out HQ.out.2.2.1⟩⟩;have HF0:Aside0 (FS 5 1 patI 3 ρ w1 E 0 w1):=⟨FS.start HK1.out.e⟩;clear H HQ;go_loopw [6] (fun v3 wr=>∃ i:Nat,v3 = .int .i64 (i:Int)∧i≤E.length∧Aside0 (FS 5 1 patI 3 ρ w1 E i wr)) (fun v3 _=>E.length - (intOf v3).toNat)
      case atStart=>exact ⟨0,rfl,Nat.zero_le _,HF0⟩
      case round=>
       obtain ⟨i,rfl,hi,HF⟩:=hrel;have HKW:Aside0 (Kept w1 wr (fun k=>ρ k=3∨ρ k=6)):=⟨HF.out.kept.mono (fun k hk => .inl hk)⟩;have HKB:Aside0 (ρ kb=7):=⟨HK1.out.lbl⟩;have q1:=cell_kept HQ1.out.1 HKW.out (by simp only;have:=HKB.out;omega);by_cases hlt:i<E.length
       ·have hi0:(0:Int)≤(i:Int):=by omega
        have hi1:(i:Int)<(E.length:Int):=by omega
        have hltx:i<XI.length:=by have:=HL.out;omega
        have HLT:=Aside0.mk hlt;have hrow:=RowR.move HK1.out.i (w1:=wr) (ρ':=ρ) (fun k hk e=>⟨HKW.out.2 k hk (by simp only;omega),rfl⟩);obtain ⟨gI,cI,f1,fc⟩:=row_cell hrow.own (Nat.lt_of_le_of_lt (Nat.zero_le _) hlt)
        injection f1 with f2 f3 f4
        subst f2;have q3:=fc i _ (map_at (·.v) E i hlt);obtain ⟨x1,x2⟩:=conts_at HK1.out.cE i hlt hltx;have hex:=rowI (HF.out.left i hlt (Nat.le_refl _)) x1 x2;have HXL:Aside0 (XI[i].length=E[i].n∧XI[i].length≤100000):=⟨⟨x1.symm,HK1.out.lE _ (List.getElem_mem hltx)⟩⟩;have HM:Aside0 (0≤(i:Int)∧(i:Int)≤1099511627776):=⟨by have:=HNB.out;omega⟩;obtain ⟨kf,hkf⟩:=Ev.rounds (fill_ev XI[i] (i:Int) HM.out (by have:=HXL.out;omega));have HFI:=Aside0.mk hkf;obtain ⟨Ae,ce,ee,_,_⟩:=Kd.R_reads hex;have HEE:=Aside0.mk ee;rw[ee] at q3;rw[ee] at hex;have HEX:Aside0 (Kd.R (Kd.int .u8) 5 wr (bare wr).heap.size (fun k=>some k=(Value.slice Ae XI[i].length ce).ownBlock) (.slice Ae XI[i].length ce) XI[i]):=⟨hex⟩;clear hrow f3 f4 fc x1 x2 hex ee hkf hi;go_wp2_with fail
        refine (sluicelaw2_fill.calls kf (fun k=>some k=(Value.slice Ae XI[i].length ce).ownBlock) _ XI[i] (i:Int) _ (bare wr) wr (bare_below wr) HEX.out HFI.out).mono ?_;rintro e wf ⟨rfl,hRf,hbf,hkf⟩;have HFN:Aside0 (FS 5 1 patI 3 ρ w1 E (i+1) wf):=⟨HF.out.next HLT.out HK1.out.aE (fun x hx=>(HK1.out.e x hx).lab) (by rw[HEE.out];exact hkf) ⟨hbf.os,hbf.tape,hbf.output,hkf.1,fun k hk=>absurd hk (by omega)⟩ (by rw[HEE.out,←HXL.out.1];exact own_ints hRf)⟩;clear hRf hbf hkf q1 q3;go_wp2_with fail
        go_roundw
        case rel=>exact ⟨i+1,by go_num,by have:=HLT.out;omega,HFN⟩
        case measure=>simp only[intOf];have:=HLT.out;first|omega|(go_num;omega)|(simp;omega)
       ·obtain rfl:i=E.length:=by omega
        go_wp2_with fail
        have HF1:=HF;have HF2:Aside0 (FS 87 7 patR 6 ρ wr ER 0 wr):=⟨FS.start (fun x hx=>(HK1.out.f x hx).move (fun k hk e=>⟨HF1.out.kept.2 k hk (by simp only;omega),rfl⟩))⟩;clear q1 hi hlt HF HKW HKB
        generalize wr=w2 at HF1 HF2 ⊢
        go_loopw [7] (fun v3 wr=>∃ i:Nat,v3 = .int .i64 (i:Int)∧i≤ER.length∧Aside0 (FS 87 7 patR 6 ρ w2 ER i wr)) (fun v3 _=>ER.length - (intOf v3).toNat)
        case atStart=>exact ⟨0,rfl,Nat.zero_le _,HF2⟩
        case round=>
         obtain ⟨i,rfl,hi,HF⟩:=hrel;have HKW:Aside0 (Kept w1 wr (fun k=>ρ k=3∨ρ k=6)):=⟨(HF1.out.kept.mono (fun k hk => .inl hk)).then_ HF.out.kept (fun k hk => .inl (.inr hk))⟩;have HKB:Aside0 (ρ kb=7):=⟨HK1.out.lbl⟩;have q1:=cell_kept HQ1.out.2 HKW.out (by simp only;have:=HKB.out;omega);by_cases hlt:i<ER.length
         ·have hi0:(0:Int)≤(i:Int):=by omega
          have hi1:(i:Int)<(ER.length:Int):=by omega
          have hltx:i<YI.length:=by have:=HL.out;omega
          have HLT:=Aside0.mk hlt;have hrow:=RowR.move HK1.out.r (w1:=wr) (ρ':=ρ) (fun k hk e=>⟨HKW.out.2 k hk (by simp only;omega),rfl⟩);obtain ⟨gI,cI,f1,fc⟩:=row_cell hrow.own (Nat.lt_of_le_of_lt (Nat.zero_le _) hlt)
          injection f1 with f2 f3 f4
          subst f2;have q3:=fc i _ (map_at (·.v) ER i hlt);obtain ⟨x1,x2⟩:=conts_at HK1.out.dE i hlt hltx;have hex:=rowR (HF.out.left i hlt (Nat.le_refl _)) x1 x2;have HXL:Aside0 (YI[i].length=ER[i].n∧YI[i].length≤100000):=⟨⟨x1.symm,HK1.out.lR _ (List.getElem_mem hltx)⟩⟩;have HM:Aside0 (0≤(i:Int)∧(i:Int)≤1099511627776):=⟨by have:=HNB.out;omega⟩;obtain ⟨kf,hkf⟩:=Ev.rounds (fillR_ev YI[i] (i:Int) HM.out (by have:=HXL.out;omega));have HFI:=Aside0.mk hkf;obtain ⟨Ae,ce,ee,_,_⟩:=Kd.R_reads hex;have HEE:=Aside0.mk ee;rw[ee] at q3;rw[ee] at hex;have HEX:Aside0 (Kd.R k87 87 wr (bare wr).heap.size (fun k=>some k=(Value.slice Ae YI[i].length ce).ownBlock) (.slice Ae YI[i].length ce) YI[i]):=⟨hex⟩;clear hrow f3 f4 fc x1 x2 hex ee hkf hi;go_wp2_with fail
          refine (sluicelaw2_fillViews.calls kf (fun k=>some k=(Value.slice Ae YI[i].length ce).ownBlock) _ YI[i] (i:Int) _ (bare wr) wr (bare_below wr) HEX.out HFI.out).mono ?_;rintro e wf ⟨rfl,hRf,hbf,hkf⟩;have HFN:Aside0 (FS 87 7 patR 6 ρ w2 ER (i+1) wf):=⟨HF.out.next HLT.out HK1.out.aR (fun x hx=>(HK1.out.f x hx).lab) (by rw[HEE.out];exact hkf) ⟨hbf.os,hbf.tape,hbf.output,hkf.1,fun k hk=>absurd hk (by omega)⟩ (by rw[HEE.out,←HXL.out.1];exact own_rights hRf)⟩;clear hRf hbf hkf q1 q3;go_wp2_with fail
          go_roundw
          case rel=>exact ⟨i+1,by go_num,by have:=HLT.out;omega,HFN⟩
          case measure=>simp only[intOf];have:=HLT.out;first|omega|(go_num;omega)|(simp;omega)
         ·obtain rfl:i=ER.length:=by omega
          go_wp2_with fail
          have HFR:=HF;have HKW3:=HKW;have HK3:Aside0 (∀ k,k<w1.heap.size → ¬(ρ k=3∨ρ k=6)→wr.heap[k]?=w1.heap[k]?):=⟨HKW.out.2⟩;have HSZ:Aside0 (w.heap.size≤w1.heap.size∧w1.heap.size≤wr.heap.size):=⟨HB1.out.size,HKW.out.1⟩;have HLB:Aside0 (∀ k,ρ k≠0→k<w.heap.size):=⟨HZ0.out⟩
          have HT3 : Aside0 (KN tb (labT tb) 0 wr) := ⟨HT0.out.move (fun k hk h0 => by
            have e:k=tb:=Classical.byContradiction fun e=>h0 (if_neg e);refine HK3.out k hk (fun h=>?_);have:=HLB.out k (by omega);have:=HTB.out.1;omega) HKW.out.1⟩
          have HB03:Aside0 (Below 0 w wr):=⟨(HB1.out.mono (Nat.zero_le _)).trans (HF1.out.b0.trans HF.out.b0)⟩;have HQ3:Aside0 (wr.cell? ⟨kb,1,none⟩=some (.slice A1 E.length c1)∧wr.cell? ⟨kb,4,none⟩=some (.slice A4 ER.length c4)):=⟨⟨cell_kept HQ1.out.1 HKW.out (by simp only;have:=HKB.out;omega),cell_kept HQ1.out.2 HKW.out (by simp only;have:=HKB.out;omega)⟩⟩;have HRI:Aside0 (RowR ρ wr 36 1 (.slice A1 E.length c1) E.length (E.map (·.v)) 1∧RowR ρ wr 31 1 (.slice A4 ER.length c4) ER.length (ER.map (·.v)) 4):=⟨⟨RowR.move HK1.out.i (fun k hk e=>⟨HKW.out.2 k hk (by simp only;omega),rfl⟩),RowR.move HK1.out.r (fun k hk e=>⟨HKW.out.2 k hk (by simp only;omega),rfl⟩)⟩⟩;have HDE:Aside0 (∀ j (hj:j<E.length),wr.ownsRow 0 5 1 E[j].v E[j].n (List.replicate E[j].n (patI (j:Int))).flatten):=⟨fun j hj=>Ks.own_move (HF1.out.done_ j hj hj) (fun k hk=>HF.out.kept.2 k (Ks.own_lt (HF1.out.done_ j hj hj) k hk) (by have:=(HK1.out.e _ (List.getElem_mem hj)).lab k hk;simp only;omega))⟩;have HDR:Aside0 (∀ j (hj:j<ER.length),wr.ownsRow 0 87 7 ER[j].v ER[j].n (List.replicate ER[j].n (patR (j:Int))).flatten):=⟨fun j hj=>HF.out.done_ j hj hj⟩;have HNT:Aside0 (∀ k,ρ k≠0→labT tb k=0):=⟨fun k hk=>if_neg (by have:=HLB.out k hk;have:=HTB.out.1;omega)⟩;have HC0:Aside0 (CS 5 1 patI (fun k=>ρ k=3) w.heap.size wr E tb 0 0 (labT tb) wr):=⟨HT3.out,Below.refl _ _,fun k hk _=>⟨if_neg (by have:=HTB.out.1;omega),rfl⟩,fun j hj _=>⟨HDE.out j hj,fun k hk=>HNT.out k (by have:=(HK1.out.e _ (List.getElem_mem hj)).lab k hk;omega)⟩⟩;clear q1 hi hlt HF HKW HKB HF2 HF0 HDE
          generalize wr=w3 at HFR HKW3 HK3 HSZ HT3 HB03 HQ3 HRI HDR HC0 ⊢
          go_loopw [8] (fun v3 wr=>∃ (i:Nat) (ρt:Nat→Nat),v3 = .int .i64 (i:Int)∧i≤E.length∧Aside0 (CS 5 1 patI (fun k=>ρ k=3) w.heap.size w3 E tb 0 i ρt wr)) (fun v3 _=>E.length - (intOf v3).toNat)
          case atStart=>exact ⟨0,labT tb,rfl,Nat.zero_le _,HC0⟩
          case round=>
           obtain ⟨i,ρt,rfl,hi,HF⟩:=hrel;have HNS:Aside0 (w.heap.size≤w3.heap.size):=⟨Nat.le_trans HSZ.out.1 HSZ.out.2⟩;have HLV:Aside0 (∀ k,ρ k≠0 → ¬(ρ k=3)→wr.heap[k]?=w3.heap[k]?):=⟨fun k h0 hp=>(HF.out.same k (HLB.out k h0) hp).2⟩;have hq1:wr.heap[kb]?=w3.heap[kb]?:=HLV.out kb (by rw[HK1.out.lbl];decide) (by rw[HK1.out.lbl];decide);have q1:=(World.cell?_of_block (w:=w3) (w':=wr) (a:=⟨kb,1,none⟩) hq1).trans HQ3.out.1;clear hq1;by_cases hlt:i<E.length
           ·have hi0:(0:Int)≤(i:Int):=by omega
            have hi1:(i:Int)<(E.length:Int):=by omega
            have hltx:i<XI.length:=by have:=HL.out;omega
            have HLT:=Aside0.mk hlt;have hrow:=RowR.move HRI.out.1 (w1:=wr) (ρ':=ρ) (fun k hk e=>⟨HLV.out k (by omega) (by omega),rfl⟩);obtain ⟨gI,cI,f1,fc⟩:=row_cell hrow.own (Nat.lt_of_le_of_lt (Nat.zero_le _) hlt)
            injection f1 with f2 f3 f4
            subst f2;have q3:=fc i _ (map_at (·.v) E i hlt);have HXL:Aside0 (E[i].n≤100000):=⟨by rw[(conts_at HK1.out.cE i hlt hltx).1];exact HK1.out.lE _ (List.getElem_mem hltx)⟩;have HM:Aside0 (0≤(i:Int)∧(i:Int)≤1099511627776):=⟨by have:=HNB.out;omega⟩;have HCN:Aside0 (0+i≤4194304):=⟨by have:=HNB.out;omega⟩;obtain ⟨Ae,ce,ee⟩:=own_slice (HF.out.left i hlt (Nat.le_refl _)).1;have HEE:=Aside0.mk ee;rw[ee] at q3;have HOW:Aside0 (wr.ownsRow 0 5 1 (.slice Ae E[i].n ce) E[i].n (List.replicate E[i].n (patI (i:Int))).flatten∧∀ k,(Value.slice Ae E[i].n ce).ownBlock=some k→ρt k=0):=⟨by rw[←ee];exact HF.out.left i hlt (Nat.le_refl _)⟩;clear hrow f3 f4 fc ee hi hltx;go_wp2_with fail
            refine (hold_keepI (m:=(i:Int)) HF.out.kn HCN.out HM.out HXL.out HOW.out.1 HOW.out.2).mono ?_;rintro e wf ⟨rfl,ρx,hkx,hax⟩;have HFN:Aside0 (CS 5 1 patI (fun k=>ρ k=3) w.heap.size w3 E tb 0 (i+1) ρx wf):=⟨HF.out.next HNS.out HLT.out HK1.out.aE (fun x hx k hk=>by have:=(HK1.out.e x hx).lab k hk;omega) hkx (by rw[HEE.out];exact hax)⟩;clear hkx hax q1 q3;go_wp2_with fail
            go_roundw
            case rel=>exact ⟨i+1,ρx,by go_num,by have:=HLT.out;omega,HFN⟩
            case measure=>simp only[intOf];have:=HLT.out;first|omega|(go_num;omega)|(simp;omega)
           ·obtain rfl:i=E.length:=by omega
            go_wp2_with fail
            have HC1:=HF
            have HC2 : Aside0 (CS 87 7 patR (fun k => ρ k = 3 ∨ ρ k = 6) w.heap.size w3 ER tb E.length 0 ρt wr) := ⟨by
              have h:=HF.out;refine ⟨by have h2:=h.kn;rwa [Nat.zero_add] at h2,h.b0,fun k hk hp=>h.same k hk (fun e=>hp (.inl e)),fun j hj _=>?_⟩;have hl:=(HK1.out.f _ (List.getElem_mem hj)).lab;have hs:∀ k,ER[j].v.ownBlock=some k→ρt k=0∧wr.heap[k]?=w3.heap[k]?:=fun k hk=>h.same k (HLB.out k (by have:=hl k hk;omega)) (by have:=hl k hk;omega);exact ⟨Ks.own_move (HDR.out j hj) (fun k hk=>(hs k hk).2),fun k hk=>(hs k hk).1⟩⟩
            clear q1 hi hlt HF HLV;go_loopw [9] (fun v3 wr=>∃ (i:Nat) (ρt:Nat→Nat),v3 = .int .i64 (i:Int)∧i≤ER.length∧Aside0 (CS 87 7 patR (fun k=>ρ k=3∨ρ k=6) w.heap.size w3 ER tb E.length i ρt wr)) (fun v3 _=>ER.length - (intOf v3).toNat)
            case atStart=>exact ⟨0,ρt,rfl,Nat.zero_le _,HC2⟩
            case round=>
             obtain ⟨i,ρt,rfl,hi,HF⟩:=hrel;have HNS:Aside0 (w.heap.size≤w3.heap.size):=⟨Nat.le_trans HSZ.out.1 HSZ.out.2⟩;have HLV:Aside0 (∀ k,ρ k≠0 → ¬(ρ k=3∨ρ k=6)→wr.heap[k]?=w3.heap[k]?):=⟨fun k h0 hp=>(HF.out.same k (HLB.out k h0) hp).2⟩;have hq1:wr.heap[kb]?=w3.heap[kb]?:=HLV.out kb (by rw[HK1.out.lbl];decide) (by rw[HK1.out.lbl];decide);have q1:=(World.cell?_of_block (w:=w3) (w':=wr) (a:=⟨kb,4,none⟩) hq1).trans HQ3.out.2;clear hq1;by_cases hlt:i<ER.length
             ·have hi0:(0:Int)≤(i:Int):=by omega
              have hi1:(i:Int)<(ER.length:Int):=by omega
              have hltx:i<YI.length:=by have:=HL.out;omega
              have HLT:=Aside0.mk hlt;have hrow:=RowR.move HRI.out.2 (w1:=wr) (ρ':=ρ) (fun k hk e=>⟨HLV.out k (by omega) (by omega),rfl⟩);obtain ⟨gI,cI,f1,fc⟩:=row_cell hrow.own (Nat.lt_of_le_of_lt (Nat.zero_le _) hlt)
              injection f1 with f2 f3 f4
              subst f2;have q3:=fc i _ (map_at (·.v) ER i hlt);have HXL:Aside0 (ER[i].n≤100000):=⟨by rw[(conts_at HK1.out.dE i hlt hltx).1];exact HK1.out.lR _ (List.getElem_mem hltx)⟩;have HM:Aside0 (0≤(i:Int)∧(i:Int)≤1099511627776):=⟨by have:=HNB.out;omega⟩;have HCN:Aside0 (E.length+i≤4194304):=⟨by have:=HNB.out;omega⟩;obtain ⟨Ae,ce,ee⟩:=own_slice (HF.out.left i hlt (Nat.le_refl _)).1;have HEE:=Aside0.mk ee;rw[ee] at q3;have HOW:Aside0 (wr.ownsRow 0 87 7 (.slice Ae ER[i].n ce) ER[i].n (List.replicate ER[i].n (patR (i:Int))).flatten∧∀ k,(Value.slice Ae ER[i].n ce).ownBlock=some k→ρt k=0):=⟨by rw[←ee];exact HF.out.left i hlt (Nat.le_refl _)⟩;clear hrow f3 f4 fc ee hi hltx;go_wp2_with fail
              refine (hold_keepR (m:=(i:Int)) HF.out.kn HCN.out HM.out HXL.out HOW.out.1 HOW.out.2).mono ?_;rintro e wf ⟨rfl,ρx,hkx,hax⟩;have HFN:Aside0 (CS 87 7 patR (fun k=>ρ k=3∨ρ k=6) w.heap.size w3 ER tb E.length (i+1) ρx wf):=⟨HF.out.next HNS.out HLT.out HK1.out.aR (fun x hx k hk=>by have:=(HK1.out.f x hx).lab k hk;omega) hkx (by rw[HEE.out];exact hax)⟩;clear hkx hax q1 q3;go_wp2_with fail
              go_roundw
              case rel=>exact ⟨i+1,ρx,by go_num,by have:=HLT.out;omega,HFN⟩
              case measure=>simp only[intOf];have:=HLT.out;first|omega|(go_num;omega)|(simp;omega)
             ·obtain rfl:i=ER.length:=by omega
              go_wp2_with fail
              have HCN2:Aside0 (E.length+ER.length≤4194304):=⟨by have:=HNB.out;omega⟩;clear q1;refine (whole_calls HF.out.kn HCN2.out).mono ?_;rintro e wz ⟨rfl,hbz⟩
              have HZZ:Aside0 (Below 0 w wz∧∀ k,k<w.heap.size→ρ k=0→wz.heap[k]?=w.heap[k]?):=⟨by
               refine ⟨HB03.out.trans (HF.out.b0.trans (hbz.mono (Nat.zero_le _))),fun k hk h0=>?_⟩;have hk1:k<w1.heap.size:=Nat.lt_of_lt_of_le hk HSZ.out.1;have hk3:k<w3.heap.size:=Nat.lt_of_lt_of_le hk1 HSZ.out.2;have hkr:k<wr.heap.size:=Nat.lt_of_lt_of_le hk3 HF.out.b0.size;exact (hbz.block k hkr).trans (((HF.out.same k hk (by omega)).2).trans ((HK3.out k hk1 (by omega)).trans (HB1.out.block k hk)))⟩
              clear hbz;go_wp2_with fail
              go_ret
              exact ⟨rfl,HZZ.out⟩
end Go.Proofs.Ytpgdmmjbhjbbhaa.Lt
end
section
namespace Go.Proofs.Ytpgdmmjbhjbbhaa.Ow
open Go Go.ChangeShapes Go.WideShapes Go.ChangeAt Go.RowKit P Sp Vd En Wr Rd Lw YtpgdmmjbhjbbhaaW.PrintWords
structure Ac where
 kind:Int
 m:Msg
 Am:Option Addr
 cm:Nat
 s:Seg
 As:Option Addr
 cs:Nat
 c:S25
 o:Sp.Op
 r:Rep
 b:List Int
 Ab:Option Addr
 cb:Nat
def acL (a:Ac):List Value:=[.int .i64 a.kind]++((MVc a.m a.Am a.cm).toList++((SVc a.s a.As a.cs).toList++([.int .i64 a.c.f0,.int .i64 a.c.f1]++([.int .i64 a.o.kind,.string a.o.name,.int .i64 a.o.a,.int .i64 a.o.b]++((RVc a.r).toList++[.slice a.Ab a.b.length a.cb])))))
structure AIn (w:World) (a:Ac):Prop where
 mi:isI a.m.op.a∧isI a.m.op.b
 mv:Kd.C k87 w a.Am a.m.views.length a.m.views∧a.m.views.length≤a.cm∧a.m.views.length * 64≤140737488351232
 si:In w a.As a.cs a.s.data∧a.s.data.length≤140737488351232
 oi:isI a.o.a∧isI a.o.b
 ri:isI a.r.value
 bi:In w a.Ab a.cb a.b∧a.b.length≤140737488351232
def AcIn (w:World) (A:Option Addr) (c:Nat) (l:List Ac):Prop:=l.length≤c∧l.length≤140737488351232∧∀ (j:Nat) (a:Ac),l[j]?=some a→AIn w a∧∃ ad,A=some ad∧∀ i v,(acL a)[i]?=some v→w.cell? ((ad.add (j * 37)).add i)=some v
section
variable {H:Type} {enc:TypeId×Value→H} {w:World} {spare:Nat→Bool} {held:Bool}
theorem cut37 {cs:List Value} (h:cs.length=37):cs=cs.take 1++((cs.drop 1).take 20++((cs.drop 21).take 5++((cs.drop 26).take 2++((cs.drop 28).take 4++((cs.drop 32).take 4++(cs.drop 36).take 1))))):=by
 have e:∀ (n m:Nat) (l:List Value),l.drop n=(l.drop n).take m++l.drop (n+m):=fun n m l=>by rw[←List.drop_drop,List.take_append_drop]
 have e0:cs=cs.take 1++cs.drop 1:=(List.take_append_drop 1 cs).symm;have e7:(cs.drop 36).take 1=cs.drop 36:=List.take_of_length_le (by simp;omega);rw[e7,←e 32 4 cs,←e 28 4 cs,←e 26 2 cs,←e 21 5 cs,←e 1 20 cs,←e0]
theorem Act_open {fuel:Nat} {cs:List Value} {x:DataW H×List MemPlace} (h:DataW.trod enc Try.prog w 0 spare held fuel 64 cs=some x) (hfit:Fit 64 x.1):∃ a:Ac,cs=acL a∧AIn w a:=by
 obtain ⟨ys,n,_,hx,hcl,hyl,hf⟩:=DataW.trod_struct Try.underlying64 h;have hcl2:cs.length=37:=hcl.trans (by kernel_rfl);have hyl2:ys.length=7:=hyl;have eint:Try.prog.cellsOf 3=1:=by kernel_rfl
 have em:Try.prog.cellsOf 33=20:=by kernel_rfl
 have es:Try.prog.cellsOf 47=5:=by kernel_rfl
 have ec:Try.prog.cellsOf 27=2:=by kernel_rfl
 have eo:Try.prog.cellsOf 29=4:=by kernel_rfl
 have er:Try.prog.cellsOf 50=4:=by kernel_rfl
 have eb:Try.prog.cellsOf 36=1:=by kernel_rfl
 match ys,hyl2 with
 | [y0,y1,y2,y3,y4,y5,y6],_=>
  rw[hx] at hfit;have g0:DataW.trod enc Try.prog w 0 spare held n 3 (List.take (Try.prog.cellsOf 3) (List.drop 0 cs))=some y0:=hf 0 _ rfl;have g1:DataW.trod enc Try.prog w 0 spare held n 33 (List.take (Try.prog.cellsOf 33) (List.drop 1 cs))=some y1:=hf 1 _ rfl;have g2:DataW.trod enc Try.prog w 0 spare held n 47 (List.take (Try.prog.cellsOf 47) (List.drop 21 cs))=some y2:=hf 2 _ rfl;have g3:DataW.trod enc Try.prog w 0 spare held n 27 (List.take (Try.prog.cellsOf 27) (List.drop 26 cs))=some y3:=hf 3 _ rfl;have g4:DataW.trod enc Try.prog w 0 spare held n 29 (List.take (Try.prog.cellsOf 29) (List.drop 28 cs))=some y4:=hf 4 _ rfl;have g5:DataW.trod enc Try.prog w 0 spare held n 50 (List.take (Try.prog.cellsOf 50) (List.drop 32 cs))=some y5:=hf 5 _ rfl;have g6:DataW.trod enc Try.prog w 0 spare held n 36 (List.take (Try.prog.cellsOf 36) (List.drop 36 cs))=some y6:=hf 6 _ rfl;rw[eint] at g0;rw[em] at g1;rw[es] at g2;rw[ec] at g3;rw[eo] at g4;rw[er] at g5;rw[eb] at g6;obtain ⟨k,q0,_⟩:=int_open Try.underlying3 g0;obtain ⟨m,Am,cm,q1,f1⟩:=Msg_open g1 (fit_field Try.underlying64 hfit 1 rfl rfl);obtain ⟨s,As,c2,q2,f2⟩:=Seg_open g2 (fit_field Try.underlying64 hfit 2 rfl rfl);obtain ⟨c,q3⟩:=Call_open g3;obtain ⟨o,q4,f4⟩:=Op_open g4;obtain ⟨r,q5,f5⟩:=Rep_open g5;obtain ⟨Ab,cb,b,q6,f6⟩:=bytes_open g6 (fit_field Try.underlying64 hfit 6 rfl rfl);refine ⟨⟨k,m,Am,cm,s,As,c2,c,o,r,b,Ab,cb⟩,?_,⟨f1.1,⟨f1.2.2.2.1,f1.2.2.2.2.1,f1.2.2.2.2.2.1⟩,f2,⟨f4.2.1,f4.2.2⟩,f5.2,f6⟩⟩;rw[List.drop_zero] at q0;rw[cut37 hcl2,q0,q1,q2,q3,q4,q5,q6];rfl
theorem Acts_open {fuel:Nat} {cs:List Value} {x:DataW H×List MemPlace} (h:DataW.trod enc Try.prog w 0 spare held fuel 54 cs=some x) (hfit:Fit 54 x.1):
  ∃ (A:Option Addr) (c:Nat) (xs:List Ac),cs=[.slice A xs.length c]∧AcIn w A c xs:=by
 rcases Go.Deep.open_slice Try.underlying54 h with ⟨hcs,_⟩|⟨ad,l,c,m,n,D,Pl,hcs,_,hl,hm,hmm,hx,hi⟩
 ·exact ⟨none,0,[],hcs,Nat.le_refl _,by simp,fun j a hj=>by simp at hj⟩
 ·have hlm:l≤m:=by rw[hmm];split<;>omega
  have e37:Try.prog.cellsOf 64=37:=by kernel_rfl
  rw[hx] at hfit;have hfs:=fit_slice Try.underlying54 hfit
  have hone : ∀ i : Nat, i < l → ∃ a : Ac, w.cells? 0 (ad.add (i * 37)) 37 = some (acL a) ∧ AIn w a := fun i hlt => by
    obtain ⟨cs',hc,ht⟩:=hi i (by omega);rw[e37] at hc;obtain ⟨a,rfl,hv⟩:=Act_open ht (hfs.2 _ (List.mem_map.2 ⟨i,List.mem_range.2 hlt,rfl⟩));exact ⟨a,hc,hv⟩
  have hlen:((List.range l).attach.map fun i=>(hone i.1 (List.mem_range.1 i.2)).choose).length=l:=by simp
  have hb:=hfs.1;rw[show Try.prog.bytesOf 64=368 by kernel_rfl] at hb;simp only[List.length_map,List.length_range] at hb;refine ⟨some ad,c,(List.range l).attach.map fun i=>(hone i.1 (List.mem_range.1 i.2)).choose,by rw[hlen];exact hcs,by rw[hlen];exact hl,by rw[hlen];omega,fun j a hj=>?_⟩;have hjl:j<l:=by have:=(List.getElem?_eq_some_iff.1 hj).1;simpa using this
  simp only[List.getElem?_map,List.getElem?_attach,List.getElem?_range hjl,Option.pmap_some,Option.map_some,Option.some.injEq] at hj;obtain ⟨hc,ha⟩:=(hone j hjl).choose_spec;rw[hj] at hc ha;refine ⟨ha,ad,rfl,fun i u hu=>?_⟩;obtain ⟨_,_,hat⟩:=World.cells?_some hc;have hi7:i<37:=(List.getElem?_eq_some_iff.1 hu).1;exact (hat i hi7).trans hu
end
end Go.Proofs.Ytpgdmmjbhjbbhaa.Ow
end
section
namespace Go.Proofs.Ytpgdmmjbhjbbhaa.Lw
open Go Go.RowKit P Sp Vd En Wr Rd YtpgdmmjbhjbbhaaW.PrintWords YtpgdmmjbhjbbhaaW.PrintLast YtpgdmmjbhjbbhaaW.PrintMore
theorem b_nil:IsB []:=fun x h=>by cases h
theorem b_app {a b:List Int} (ha:IsB a) (hb:IsB b):IsB (a++b):=IsB.append.mpr ⟨ha,hb⟩
theorem b_int (n:Int):IsB (intB n):=numB_isB _
theorem b_sign (n:Int):IsB (signB n):=numB_isB _
theorem b_text (s:ByteArray):IsB (textB s):=b_app (b_int _) (isB_bytesOf s)
theorem b_pair (x:S25):IsB (pairB x):=b_app (b_int _) (b_int _)
theorem b_op (o:Sp.Op):IsB (opB o):=b_app (b_int _) (b_app (b_text _) (b_app (b_sign _) (b_sign _)))
theorem b_view (v:S87):IsB (viewB v):=b_app (b_text _) (b_app (b_pair _) (b_app (b_int _) (b_app (b_pair _) (b_int _))))
theorem b_views:∀ l:List S87,IsB (viewsB l)
 | []=>b_nil
 | v :: r => by
   show IsB (viewB v++viewsB r)
   exact b_app (b_view v) (b_views r)
theorem b_list (l:List S87):IsB (listB l):=b_app (b_int _) (b_views l)
theorem b_opt {α:Type} (c:Prop) [Decidable c] {e:α→List Int} (h:∀ x,IsB (e x)) (x:α):IsB (optB c e x):=by
 unfold optB
 split
 ·exact h x
 ·exact b_nil
theorem b_msg (m:Msg):IsB (msgB m):=by
 unfold msgB;refine b_app (b_int _) ?_;unfold restB
 split
 ·exact b_app (b_pair _) (b_op _)
 split
 ·exact b_app (b_pair _) (b_app (b_text _) (b_app (b_int _) (b_opt _ b_pair _)))
 split
 ·exact b_list _
 ·exact b_app (b_text _) (b_app (b_pair _) (b_app (b_opt _ b_pair _) (b_app (b_opt _ b_pair _) (b_app (b_opt _ b_pair _) (b_opt _ b_int _)))))
theorem b_seg {s:Seg} (h:IsB s.data):IsB (segB s):=b_app (b_int _) (b_app (b_int _) (b_app (b_int _) (b_app (b_int _) (b_app (b_int _) h))))
end Go.Proofs.Ytpgdmmjbhjbbhaa.Lw
end
section
namespace Go.Proofs.Ytpgdmmjbhjbbhaa.Rf
open Go Go.RowKit P Sp Vd En Wr Rd Lw YtpgdmmjbhjbbhaaW.PrintWords YtpgdmmjbhjbbhaaW.PrintLast YtpgdmmjbhjbbhaaW.PrintMore
def likeM (m n:Msg):Prop:=({ m with views:=n.views }:Msg)=n∧m.views.length=n.views.length
theorem like_iff (m n:Msg):likeM m n ↔ (m.kind=n.kind∧m.name.toList=n.name.toList∧m.cap=n.cap∧m.recaps=n.recaps∧(m.epoch.f0=n.epoch.f0∧m.epoch.f1=n.epoch.f1)∧(m.over.f0=n.over.f0∧m.over.f1=n.over.f1))∧(m.rights.f0=n.rights.f0∧m.rights.f1=n.rights.f1)∧m.held=n.held∧(m.call.f0=n.call.f0∧m.call.f1=n.call.f1)∧(m.op.kind=n.op.kind∧m.op.name.toList=n.op.name.toList∧m.op.a=n.op.a∧m.op.b=n.op.b)∧m.err=n.err∧m.value=n.value∧(m.views.length:Int)=n.views.length:=by
 unfold likeM;rw[msg_iff];simp only[and_assoc,true_and,Int.ofNat_inj]
theorem alike_calls (m n:Msg) (A:Option Addr) (c:Nat) (A2:Option Addr) (c2:Nat) (w:World):
  Calls Try.prog 44 #[MV m A c,MV n A2 c2] w fun e w'=>e = .returned (.bool (dcd (likeM m n)))∧Below w.heap.size w w':=by
 have hu33:=Try.underlying33;have hu23:=Try.underlying23;have hu25:=Try.underlying25;have hu27:=Try.underlying27;have hu29:=Try.underlying29;unfold MV;obtain ⟨wa,hwa⟩:∃ wa,wa=(w.alloc (.cells (MVc m A c) 33 (0,0))).alloc (.cells (MVc n A2 c2) 33 (0,0)):=⟨_,rfl⟩;have HWA:=Aside0.mk hwa;have HB:Aside0 (Below w.heap.size w wa):=⟨by rw[hwa];exact below_al2 w _ _⟩
 have BK:Aside0 (wa.heap[w.heap.size]?=some (.cells (MVc m A c) 33 (0,0))∧wa.heap[w.heap.size+1]?=some (.cells (MVc n A2 c2) 33 (0,0))):=⟨by
  rw[hwa];refine ⟨(Below.heap_alloc _ _ _ (by simp)).trans (heap_alloc_new w _),?_⟩;have:=heap_alloc_new (w.alloc (.cells (MVc m A c) 33 (0,0))) (.cells (MVc n A2 c2) 33 (0,0))
  rwa [show (w.alloc (.cells (MVc m A c) 33 (0,0))).heap.size=w.heap.size+1 by simp] at this⟩
 clear hwa;have ka0:wa.cell? ⟨w.heap.size,0,none⟩=some (.int .i64 m.kind):=(blk_cell BK.out.1 0).trans rfl;have kb0:wa.cell? ⟨w.heap.size+1,0,none⟩=some (.int .i64 n.kind):=(blk_cell BK.out.2 0).trans rfl;have ka1:wa.cell? ⟨w.heap.size,1,none⟩=some (.string m.name):=(blk_cell BK.out.1 1).trans rfl;have kb1:wa.cell? ⟨w.heap.size+1,1,none⟩=some (.string n.name):=(blk_cell BK.out.2 1).trans rfl;have ka2:wa.cell? ⟨w.heap.size,2,none⟩=some (.int .i64 m.cap):=(blk_cell BK.out.1 2).trans rfl;have kb2:wa.cell? ⟨w.heap.size+1,2,none⟩=some (.int .i64 n.cap):=(blk_cell BK.out.2 2).trans rfl;have ka3:wa.cell? ⟨w.heap.size,3,none⟩=some (.int .i64 m.recaps):=(blk_cell BK.out.1 3).trans rfl;have kb3:wa.cell? ⟨w.heap.size+1,3,none⟩=some (.int .i64 n.recaps):=(blk_cell BK.out.2 3).trans rfl;have ka4:wa.cell? ⟨w.heap.size,4,none⟩=some (.int .i64 m.epoch.f0):=(blk_cell BK.out.1 4).trans rfl;have kb4:wa.cell? ⟨w.heap.size+1,4,none⟩=some (.int .i64 n.epoch.f0):=(blk_cell BK.out.2 4).trans rfl;have ka5:wa.cell? ⟨w.heap.size,5,none⟩=some (.int .i64 m.epoch.f1):=(blk_cell BK.out.1 5).trans rfl;have kb5:wa.cell? ⟨w.heap.size+1,5,none⟩=some (.int .i64 n.epoch.f1):=(blk_cell BK.out.2 5).trans rfl;have ka6:wa.cell? ⟨w.heap.size,6,none⟩=some (.int .i64 m.over.f0):=(blk_cell BK.out.1 6).trans rfl;have kb6:wa.cell? ⟨w.heap.size+1,6,none⟩=some (.int .i64 n.over.f0):=(blk_cell BK.out.2 6).trans rfl;have ka7:wa.cell? ⟨w.heap.size,7,none⟩=some (.int .i64 m.over.f1):=(blk_cell BK.out.1 7).trans rfl;have kb7:wa.cell? ⟨w.heap.size+1,7,none⟩=some (.int .i64 n.over.f1):=(blk_cell BK.out.2 7).trans rfl;have ka8:wa.cell? ⟨w.heap.size,8,none⟩=some (.int .i64 m.rights.f0):=(blk_cell BK.out.1 8).trans rfl;have kb8:wa.cell? ⟨w.heap.size+1,8,none⟩=some (.int .i64 n.rights.f0):=(blk_cell BK.out.2 8).trans rfl;have ka9:wa.cell? ⟨w.heap.size,9,none⟩=some (.int .i64 m.rights.f1):=(blk_cell BK.out.1 9).trans rfl;have kb9:wa.cell? ⟨w.heap.size+1,9,none⟩=some (.int .i64 n.rights.f1):=(blk_cell BK.out.2 9).trans rfl;have ka10:wa.cell? ⟨w.heap.size,10,none⟩=some (.int .i64 m.held):=(blk_cell BK.out.1 10).trans rfl;have kb10:wa.cell? ⟨w.heap.size+1,10,none⟩=some (.int .i64 n.held):=(blk_cell BK.out.2 10).trans rfl;have ka11:wa.cell? ⟨w.heap.size,11,none⟩=some (.int .i64 m.call.f0):=(blk_cell BK.out.1 11).trans rfl;have kb11:wa.cell? ⟨w.heap.size+1,11,none⟩=some (.int .i64 n.call.f0):=(blk_cell BK.out.2 11).trans rfl;have ka12:wa.cell? ⟨w.heap.size,12,none⟩=some (.int .i64 m.call.f1):=(blk_cell BK.out.1 12).trans rfl;have kb12:wa.cell? ⟨w.heap.size+1,12,none⟩=some (.int .i64 n.call.f1):=(blk_cell BK.out.2 12).trans rfl;have ka13:wa.cell? ⟨w.heap.size,13,none⟩=some (.int .i64 m.op.kind):=(blk_cell BK.out.1 13).trans rfl;have kb13:wa.cell? ⟨w.heap.size+1,13,none⟩=some (.int .i64 n.op.kind):=(blk_cell BK.out.2 13).trans rfl;have ka14:wa.cell? ⟨w.heap.size,14,none⟩=some (.string m.op.name):=(blk_cell BK.out.1 14).trans rfl;have kb14:wa.cell? ⟨w.heap.size+1,14,none⟩=some (.string n.op.name):=(blk_cell BK.out.2 14).trans rfl;have ka15:wa.cell? ⟨w.heap.size,15,none⟩=some (.int .i64 m.op.a):=(blk_cell BK.out.1 15).trans rfl;have kb15:wa.cell? ⟨w.heap.size+1,15,none⟩=some (.int .i64 n.op.a):=(blk_cell BK.out.2 15).trans rfl;have ka16:wa.cell? ⟨w.heap.size,16,none⟩=some (.int .i64 m.op.b):=(blk_cell BK.out.1 16).trans rfl;have kb16:wa.cell? ⟨w.heap.size+1,16,none⟩=some (.int .i64 n.op.b):=(blk_cell BK.out.2 16).trans rfl;have ka17:wa.cell? ⟨w.heap.size,17,none⟩=some (.int .i64 m.err):=(blk_cell BK.out.1 17).trans rfl;have kb17:wa.cell? ⟨w.heap.size+1,17,none⟩=some (.int .i64 n.err):=(blk_cell BK.out.2 17).trans rfl;have ka18:wa.cell? ⟨w.heap.size,18,none⟩=some (.int .i64 m.value):=(blk_cell BK.out.1 18).trans rfl;have kb18:wa.cell? ⟨w.heap.size+1,18,none⟩=some (.int .i64 n.value):=(blk_cell BK.out.2 18).trans rfl;have ka19:wa.cell? ⟨w.heap.size,19,none⟩=some (.slice A m.views.length c):=(blk_cell BK.out.1 19).trans rfl;have kb19:wa.cell? ⟨w.heap.size+1,19,none⟩=some (.slice A2 n.views.length c2):=(blk_cell BK.out.2 19).trans rfl;go_enter Try.func44,Try.ntmps44
 go_upto_region 1 with fail
 rw[←HWA.out];go_wp2_with fail
 all_goals go_ret
 all_goals refine ⟨congrArg (fun b=>Ending.returned (Value.bool b)) (bool_dcd ?_),HB.out⟩
 all_goals clear HWA hu33 hu23 hu25 hu27 hu29 BK HB
 all_goals rw[like_iff]
 all_goals (first|(simp[*];done)|(simp at *;done)|(simp_all;done))
end Go.Proofs.Ytpgdmmjbhjbbhaa.Rf
end
