/- texts that the proof needs, laid together by a program of this session. -/
import Derived.Deep.Cut
import Derived.Deep.CutRange
import Derived.Test.YtpgdmmjbhjbbhaaKWireKept15
set_option maxRecDepth 100000
set_option maxHeartbeats 16000000
set_option linter.unusedVariables false
set_option linter.unusedSimpArgs false
section
namespace Go.Proofs.Ytpgdmmjbhjbbhaa.Kp
open Go Go.RowKit P Sp Vd En Wr Rd Rf Lw Ow Kr YtpgdmmjbhjbbhaaW.PrintWords YtpgdmmjbhjbbhaaW.PrintLast YtpgdmmjbhjbbhaaW.PrintMore
theorem load_any {P : Program} {ops : Array Oper} {rest : List Oper} {op : Oper} {a : Act} {w : World} {Q : Exit → Act → World → Prop} (hgd : op.guard = none) (ty : TypeId) (x : Operand) (ho : op.op = .load ty x)
    (ad:Addr) (hx:a.eval x = .pointer (some ad)) (cs:Array Value) (d:TypeDesc) (hc:∀ (j:Nat) (v:Value),cs.toList[j]?=some v→w.cell? (ad.add j)=some v)
    (hu:P.underlying ty=some d) (hd:(match d with | .struct _ | .array _ _=>true|_=>false)=true) (hi:(P.info? ty).map (·.size)=some cs.size)
    (h:wpList P ops Q rest (a.put op.dst (.agg cs)) w):wpList P ops Q (op::rest) a w:=by
  refine wpList_plain hgd fun K hK=>?_;have hl:(loadCells ad cs.toList.length).run P w = .ok cs.toList.toArray w:=run_loadCells_list (P:=P) w ad cs.toList hc
  have hrun:(loadVar ty ad).run P w = .ok (.agg cs) w:=by
   cases hq:P.info? ty with
   | none=>simp[hq] at hi
   | some i=>
    have hs:i.size=cs.size:=by simpa [hq] using hi
    have hagg:(isAgg ty).run P w = .ok true w:=by
     unfold isAgg;rw[Sem.run_bind,run_underlying hu w];cases d<;>simp_all
    simp only[Array.length_toList,Array.toArray_toList] at hl;simp[loadVar,Sem.run_bind,hagg,sizeOf,typeInfo,hq,hs,hl]
  unfold Oper.wp execOp;simp only[ho,hx,Instr.loadAt,Instr.sureAddr,Sem.run_bind,Sem.run_pure,Result.andThen_ok,hrun];exact hK _ _ h
theorem inf64:(Try.prog.info? 64).map (·.size)=some 37:=by kernel_rfl
def acA (a:Ac):Array Value:=(acL a).toArray
theorem ac_one (a:Ac):(acA a).all (·.oneCell')=true:=by simp[acA,acL,MVc,SVc,RVc,Value.oneCell']
theorem ac_part {w:World} {g:Nat} {a:Ac} (h:w.heap[g]?=some (.cells (acA a) 64 (0,0))) (p q r:List Value) (hs:acL a=p++(q++r)) (n:Nat) (hn:n=p.length) (j:Nat) (v:Value) (hj:q[j]?=some v):w.cell? ((⟨g,n,none⟩:Addr).add j)=some v:=by
 subst hn;have hadd:(⟨g,p.length,none⟩:Addr).add j=⟨g,p.length+j,none⟩:=by unfold Addr.add;split<;>simp_all
 have hjl:j<q.length:=(List.getElem?_eq_some_iff.1 hj).1;rw[hadd,cell_of_row w g _ _ _ (0,0) h]
 show (acL a).toArray[p.length+j]?=some v
 rw[List.getElem?_toArray,hs,List.getElem?_append_right (by omega),Nat.add_sub_cancel_left,List.getElem?_append_left hjl];exact hj
section
variable {w:World} {g:Nat} {a:Ac} (h:w.heap[g]?=some (.cells (acA a) 64 (0,0)))
include h
theorem ac_M (j:Nat) (v:Value) (hj:(MVc a.m a.Am a.cm).toList[j]?=some v):w.cell? ((⟨g,1,none⟩:Addr).add j)=some v:=
 ac_part h [.int .i64 a.kind] (MVc a.m a.Am a.cm).toList ((SVc a.s a.As a.cs).toList++([.int .i64 a.c.f0,.int .i64 a.c.f1]++([.int .i64 a.o.kind,.string a.o.name,.int .i64 a.o.a,.int .i64 a.o.b]++((RVc a.r).toList++[.slice a.Ab a.b.length a.cb])))) rfl 1 rfl j v hj
theorem ac_S (j:Nat) (v:Value) (hj:(SVc a.s a.As a.cs).toList[j]?=some v):w.cell? ((⟨g,21,none⟩:Addr).add j)=some v:=
 ac_part h ([.int .i64 a.kind]++(MVc a.m a.Am a.cm).toList) (SVc a.s a.As a.cs).toList ([.int .i64 a.c.f0,.int .i64 a.c.f1]++([.int .i64 a.o.kind,.string a.o.name,.int .i64 a.o.a,.int .i64 a.o.b]++((RVc a.r).toList++[.slice a.Ab a.b.length a.cb]))) rfl 21 rfl j v hj
theorem ac_C (j:Nat) (v:Value) (hj:(#[.int .i64 a.c.f0,.int .i64 a.c.f1]:Array Value).toList[j]?=some v):w.cell? ((⟨g,26,none⟩:Addr).add j)=some v:=
 ac_part h ([.int .i64 a.kind]++(MVc a.m a.Am a.cm).toList++(SVc a.s a.As a.cs).toList) [.int .i64 a.c.f0,.int .i64 a.c.f1] ([.int .i64 a.o.kind,.string a.o.name,.int .i64 a.o.a,.int .i64 a.o.b]++((RVc a.r).toList++[.slice a.Ab a.b.length a.cb])) rfl 26 rfl j v hj
theorem ac_O (j:Nat) (v:Value) (hj:(#[.int .i64 a.o.kind,.string a.o.name,.int .i64 a.o.a,.int .i64 a.o.b]:Array Value).toList[j]?=some v):w.cell? ((⟨g,28,none⟩:Addr).add j)=some v:=
 ac_part h ([.int .i64 a.kind]++(MVc a.m a.Am a.cm).toList++(SVc a.s a.As a.cs).toList++[.int .i64 a.c.f0,.int .i64 a.c.f1]) [.int .i64 a.o.kind,.string a.o.name,.int .i64 a.o.a,.int .i64 a.o.b] ((RVc a.r).toList++[.slice a.Ab a.b.length a.cb]) rfl 28 rfl j v hj
theorem ac_R (j:Nat) (v:Value) (hj:(RVc a.r).toList[j]?=some v):w.cell? ((⟨g,32,none⟩:Addr).add j)=some v:=
 ac_part h ([.int .i64 a.kind]++(MVc a.m a.Am a.cm).toList++(SVc a.s a.As a.cs).toList++[.int .i64 a.c.f0,.int .i64 a.c.f1]++[.int .i64 a.o.kind,.string a.o.name,.int .i64 a.o.a,.int .i64 a.o.b]) (RVc a.r).toList [.slice a.Ab a.b.length a.cb] rfl 32 rfl j v hj
end
theorem cell_bel {w w1:World} {ad:Addr} {v:Value} (hb:Below w.heap.size w w1) (h:w.cell? ad=some v):w1.cell? ad=some v:=by
 have:=hb.block ad.block (World.block_lt_of_cell? w ad h)
 simpa [World.cell?,this] using h
def OB {α:Type} (d:Kd α) (e lo hi:Nat) (ρ:Nat→Nat) (w:World) (v:Value) (xs:List α):Prop:=Kd.R d e w lo (fun k=>k<hi∧ρ k=0) v xs
section
variable {α:Type} {d:Kd α} {e lo hi:Nat} {ρ ρ':Nat→Nat} {w w1:World} {v u:Value} {xs:List α}
theorem OB.below (h:OB d e lo hi ρ w v xs) (hb:Below w.heap.size w w1):OB d e lo hi ρ w1 v xs:=Kd.R_below h hb
theorem OB.after (h:OB d e lo hi ρ w v xs) (ha:After ρ ρ' u w w1) (hd:∀ k,u.ownBlock=some k→k<lo∨hi≤k):OB d e lo hi ρ' w1 v xs:=by
 refine Kd.R_mono (Kd.R_step (Kd.R_bound h) (fun k hk hlt=>ha.same k hlt hk.1.2 (fun e=>by have:=hd k e.symm;omega))) (fun k hk=>⟨hk.1.1,?_⟩);rcases ha.lab k hk.2.2.1 with h2|h2
 ·exact h2.trans hk.1.2
 ·have:=hd k h2.symm;omega
theorem OB.new (h:Kd.R d e w1 w.heap.size (fun _=>True) v xs) (hz:∀ k,ρ k≠0→k<w.heap.size) (h1:lo≤w.heap.size) (h2:w1.heap.size≤hi):OB d e lo hi ρ w1 v xs:=
 Kd.R_lower (Kd.R_mono (Kd.R_bound h) (fun k hk=>⟨Nat.lt_of_lt_of_le hk.2.2.1 h2,Classical.not_not.1 (fun h0=>by have:=hz k h0;omega)⟩)) h1
theorem OB.own (h:OB d e lo hi ρ w v xs):∀ k,v.ownBlock=some k→lo≤k∧k<hi:=fun k hk=>by
 have:=(Kd.R_bound h).1 k hk;exact ⟨this.2.1,this.1.1⟩
theorem OB.lab (h:OB d e lo hi ρ w v xs):∀ k,v.ownBlock=some k→ρ k=0:=fun k hk=>(h.1 k hk).2
theorem OB.row0 (h:OB d e lo hi ρ w v xs):Kd.R d e w 0 (fun _=>True) v xs:=Kd.R_lower (Kd.R_mono h (fun _ _=>trivial)) (Nat.zero_le _)
theorem OB.reads {A:Option Addr} {n c:Nat} (h:OB d e lo hi ρ w (.slice A n c) xs):n=xs.length∧n≤c∧d.C w A xs.length xs:=Kd.R_reads' h
end
theorem OB.in_ {lo hi:Nat} {ρ:Nat→Nat} {w:World} {A:Option Addr} {c n:Nat} {b:List Int} (h:OB (Kd.int .u8) 5 lo hi ρ w (.slice A n c) b) (hb:IsB b):In w A c b:=by
 have:=h.reads;exact ⟨this.2.2,hb,this.1 ▸ this.2.1⟩
def BK (ρ:Nat→Nat) (w:World) (b:Nat) (cs:Array Value) (t:TypeId):Prop:=w.heap[b]?=some (.cells cs t (0,0))∧ρ b=0
section
variable {ρ ρ':Nat→Nat} {w w1:World} {b:Nat} {cs:Array Value} {t:TypeId} {u:Value}
theorem BK.below (h:BK ρ w b cs t) (hb:Below w.heap.size w w1):BK ρ w1 b cs t:=⟨blk_keep hb h.1,h.2⟩
theorem BK.after (h:BK ρ w b cs t) (ha:After ρ ρ' u w w1) (hd:∀ k,u.ownBlock=some k→k≠b):BK ρ' w1 b cs t:=by
 have hlt:=blk_lt h.1;have hne:some b≠u.ownBlock:=fun e=>hd b e.symm rfl;refine ⟨(ha.same b hlt h.2 hne).trans h.1,?_⟩;rcases ha.lab b hlt with h2|h2
 ·exact h2.trans h.2
 ·exact absurd h2 hne
end
structure KS (K:(Nat→Nat)→Nat→World→Prop) (W:World) (g:Nat) (a:Ac) (ρ:Nat→Nat) (n:Nat) (w:World):Prop where
 k:K ρ n w
 bel:Below W.heap.size W w
 zr:∀ k,k<W.heap.size→ρ k=0
 box:BK ρ w g (acA a) 64
 gN:W.heap.size≤g
section
variable {kb:Nat} {K:(Nat→Nat)→Nat→World→Prop} {W:World} {g:Nat} {a:Ac} {ρ ρ':Nat→Nat} {n:Nat} {w w1:World} {u:Value}
theorem bel_after {lo:Nat} (hb:Below W.heap.size W w) (hz:∀ k,k<W.heap.size→ρ k=0) (ha:After ρ ρ' u w w1) (hu:∀ k,u.ownBlock=some k→lo≤k) (hl:W.heap.size≤lo):Below W.heap.size W w1∧∀ k,k<W.heap.size→ρ' k=0:=by
 have hne:∀ k,k<W.heap.size→some k≠u.ownBlock:=fun k hk e=>by have:=hu k e.symm;omega
 refine ⟨⟨ha.b0.os.trans hb.os,ha.b0.tape.trans hb.tape,ha.b0.output.trans hb.output,Nat.le_trans hb.size ha.b0.size,fun k hk=>(ha.same k (Nat.lt_of_lt_of_le hk hb.size) (hz k hk) (hne k hk)).trans (hb.block k hk)⟩,fun k hk=>?_⟩;rcases ha.lab k (Nat.lt_of_lt_of_le hk hb.size) with h2|h2
 ·exact h2.trans (hz k hk)
 ·exact absurd h2 (hne k hk)
theorem KS.below (HK:Keeper kb K) (h:KS K W g a ρ n w) (hb:Below w.heap.size w w1):KS K W g a ρ n w1:=
 ⟨HK.move h.k (fun k hk _=>hb.block k hk) hb.size,below_step h.bel hb,h.zr,h.box.below hb,h.gN⟩
theorem KS.put {lo:Nat} (h:KS K W g a ρ n w) (hk:K ρ' (n+1) w1) (ha:After ρ ρ' u w w1) (hu:∀ k,u.ownBlock=some k→lo≤k) (hl:g<lo):KS K W g a ρ' (n+1) w1:=by
 have h2:=bel_after h.bel h.zr ha hu (Nat.le_trans h.gN (Nat.le_of_lt hl));exact ⟨hk,h2.1,h2.2,h.box.after ha (fun k hk e=>by have:=hu k hk;omega),h.gN⟩
theorem KS.z0 (HK:Keeper kb K) (h:KS K W g a ρ n w):∀ k,ρ k≠0→k<w.heap.size:=HK.zer h.k
theorem KS.glt (h:KS K W g a ρ n w):g<w.heap.size:=blk_lt h.box.1
end
structure RA {α:Type} (d:Kd α) (e t:Nat) (K:(Nat→Nat)→Nat→World→Prop) (W:World) (g:Nat) (a:Ac) (ρ:Nat→Nat) (n:Nat) (w:World) (fb fc fm fk:Bool) (s0 s1 s2 b1 b2:Nat) (vb vc vm vk:Value) (bs:List Int) (xs:List α) (c1 c2:Array Value):Prop where
 ks:KS K W g a ρ n w
 ch:g<s0∧s0≤s1∧s1≤s2∧s2≤b1∧b1<b2
 b:fb=true→OB (Kd.int .u8) 5 s0 s1 ρ w vb bs
 c:fc=true→OB (Kd.int .u8) 5 s1 s2 ρ w vc bs
 m:fm=true→OB d e s2 b1 ρ w vm xs
 k:fk=true→OB d e (b1+1) b2 ρ w vk xs
 x1:BK ρ w b1 c1 t
 x2:BK ρ w b2 c2 t
section
variable {α:Type} {d:Kd α} {e t:Nat} {kb:Nat} {K:(Nat→Nat)→Nat→World→Prop} {W:World} {g:Nat} {a:Ac} {ρ ρ':Nat→Nat} {n:Nat} {w w1:World} {fb fc fm fk:Bool} {s0 s1 s2 b1 b2:Nat} {vb vc vm vk u:Value} {bs:List Int} {xs:List α} {c1 c2:Array Value}
theorem RA.below (HK:Keeper kb K) (h:RA d e t K W g a ρ n w fb fc fm fk s0 s1 s2 b1 b2 vb vc vm vk bs xs c1 c2) (hb:Below w.heap.size w w1):RA d e t K W g a ρ n w1 fb fc fm fk s0 s1 s2 b1 b2 vb vc vm vk bs xs c1 c2:=
 ⟨h.ks.below HK hb,h.ch,fun f=>(h.b f).below hb,fun f=>(h.c f).below hb,fun f=>(h.m f).below hb,fun f=>(h.k f).below hb,h.x1.below hb,h.x2.below hb⟩
theorem RA.put {lo hi:Nat} {fb' fc' fm' fk':Bool} (h:RA d e t K W g a ρ n w fb fc fm fk s0 s1 s2 b1 b2 vb vc vm vk bs xs c1 c2) (hk:K ρ' (n+1) w1) (ha:After ρ ρ' u w w1) (hu:∀ k,u.ownBlock=some k→lo≤k∧k<hi)
  (hl:g<lo∧(b1<lo∨hi≤b1)∧(b2<lo∨hi≤b2)) (qb:fb'=true→fb=true∧(hi≤s0∨s1≤lo)) (qc:fc'=true→fc=true∧(hi≤s1∨s2≤lo)) (qm:fm'=true→fm=true∧(hi≤s2∨b1≤lo)) (qk:fk'=true→fk=true∧(hi≤b1+1∨b2≤lo)):
  RA d e t K W g a ρ' (n+1) w1 fb' fc' fm' fk' s0 s1 s2 b1 b2 vb vc vm vk bs xs c1 c2:=
 ⟨h.ks.put hk ha (fun k hk => (hu k hk).1) hl.1, h.ch, fun f => (h.b (qb f).1).after ha (fun k hk => by have := hu k hk; have := (qb f).2; omega), fun f => (h.c (qc f).1).after ha (fun k hk => by have := hu k hk; have := (qc f).2; omega),
   fun f=>(h.m (qm f).1).after ha (fun k hk=>by have:=hu k hk;have:=(qm f).2;omega),fun f=>(h.k (qk f).1).after ha (fun k hk=>by have:=hu k hk;have:=(qk f).2;omega),
   h.x1.after ha (fun k hk=>by have:=hu k hk;omega),h.x2.after ha (fun k hk=>by have:=hu k hk;omega)⟩
theorem put_calls (HK:Keeper kb K) {lo hi:Nat} {v:Value} {ys:List Int} (hk:K ρ n w) (hn:n≤4194304) (hr:OB (Kd.int .u8) 5 lo hi ρ w v ys) (hx:ys.length≤100000):
  Calls Try.prog 76 #[.pointer (some ⟨kb,0,none⟩),v] w fun e w'=>e = .returned (.tuple #[])∧∃ ρ',K ρ' (n+1) w'∧After ρ ρ' v w w':=
 HK.put hk hn hx hr.row0 hr.lab
theorem putV_calls (HK:Keeper kb K) {lo hi:Nat} {v:Value} {ys:List S87} (hk:K ρ n w) (hn:n≤4194304) (hr:OB k87 87 lo hi ρ w v ys) (hx:ys.length≤100000):
  Calls Try.prog 77 #[.pointer (some ⟨kb,0,none⟩),v] w fun e w'=>e = .returned (.tuple #[])∧∃ ρ',K ρ' (n+1) w'∧After ρ ρ' v w w':=
 HK.putR hk hn hx hr.row0 hr.lab
end
theorem new_views {w w1:World} {A:Option Addr} {c:Nat} {xs:List S87} (h:NewV w w1 A c xs) (hl:xs.length≤100000):Kd.R k87 87 w1 w.heap.size (fun _=>True) (.slice A xs.length c) xs:=by
 have ho:w1.ownsRow w.heap.size 87 7 (.slice A xs.length c) xs.length (rowV xs):=by
  rcases h with ⟨rfl,rfl,rfl⟩|⟨vb,rfl,rfl,h1,h2⟩
  ·exact World.ownsRow_nil _ _ _ _
  ·refine ⟨rowV_len xs,.inr ⟨vb,xs.length,_,rfl,h1,h2,Nat.le_refl _,by simp only[maxLen];omega,by simp[rowV_len],?_⟩⟩;rw[←rowV_len xs];simp
 exact ⟨fun _ _=>trivial,_,ho,Lt.reps_of_flat (fun p=>k87_mkM _ _ _ p) (fun _=>rfl) xs⟩
theorem enc_ok (m:Msg) (hv:msgV m) (A1:Option Addr) (c1:Nat) (w:World) (hi:isI m.op.a∧isI m.op.b) (h:Kd.C k87 w A1 m.views.length m.views∧m.views.length≤c1):
  Calls Try.prog 16 #[.agg (MVc m A1 c1)] w fun e w'=>∃ A c,e = .returned (.tuple #[.slice A (msgB m).length c,.int .i64 0])∧Kd.R (Kd.int .u8) 5 w' w.heap.size (fun _=>True) (.slice A (msgB m).length c) (msgB m)∧Below w.heap.size w w':=by
 refine (encode_calls m hi A1 c1 w h.1 h.2).mono ?_;rintro e w' ⟨v,he,hR,hb⟩;rw[lay_ok hv] at he hR;obtain ⟨A,c,rfl⟩:=Kd.R_slice hR;exact ⟨A,c,he,hR,hb⟩
theorem dec_ok (m:Msg) (hv:msgV m) (w:World) (A:Option Addr) (c:Nat) (hi:In w A c (msgB m)):
  Calls Try.prog 18 #[.slice A (msgB m).length c] w fun e w'=>∃ A1 c1,e = .returned (.tuple #[.agg (MVc m A1 c1),.int .i64 0,.int .i64 0])∧Kd.R k87 87 w' w.heap.size (fun _=>True) (.slice A1 m.views.length c1) m.views∧Below w.heap.size w w':=by
 refine (decode_calls w A c _ hi).mono ?_;rintro e w' ⟨hb,A1,c1,he,hn⟩;rw[whole_back msgP_codec zMsg hv] at he hn;have:=msgV_views hv;exact ⟨A1,c1,he,new_views hn (by omega),hb⟩
theorem same_ok (m:Msg) (A:Option Addr) (c:Nat) (A2:Option Addr) (c2:Nat) (w:World) (h1:Kd.C k87 w A m.views.length m.views∧m.views.length≤c) (h2:Kd.C k87 w A2 m.views.length m.views∧m.views.length≤c2):
  Calls Try.prog 20 #[.agg (MVc m A c),.agg (MVc m A2 c2)] w fun e w'=>e = .returned (.bool true)∧Below w.heap.size w w':=by
 refine (same_calls m m A c A2 c2 w h1.1 h1.2 h2.1 h2.2).mono ?_;rintro e w' ⟨he,hb⟩;rw[dcd_pos rfl] at he;exact ⟨he,hb⟩
theorem encs_ok (s:Seg) (hv:segV s) (A:Option Addr) (c:Nat) (w:World) (h:In w A c s.data):
  Calls Try.prog 27 #[.agg (SVc s A c)] w fun e w'=>∃ Ap cp,e = .returned (.tuple #[.slice Ap (segB s).length cp,.int .i64 0])∧Kd.R (Kd.int .u8) 5 w' w.heap.size (fun _=>True) (.slice Ap (segB s).length cp) (segB s)∧Below w.heap.size w w':=by
 refine (encseg_calls s A c w h.row h.cap h.isB).mono ?_;rintro e w' ⟨v,he,hR,hb⟩;rw[lay_ok hv] at he hR;obtain ⟨Ap,cp,rfl⟩:=Kd.R_slice hR;exact ⟨Ap,cp,he,hR,hb⟩
theorem decs_ok (s:Seg) (hv:segV s) (w:World) (A:Option Addr) (c:Nat) (hi:In w A c (segB s)):
  Calls Try.prog 28 #[.slice A (segB s).length c] w fun e w'=>∃ A1 c1,e = .returned (.tuple #[.agg (SVc s A1 c1),.int .i64 0,.int .i64 0])∧Kd.R (Kd.int .u8) 5 w' w.heap.size (fun _=>True) (.slice A1 s.data.length c1) s.data∧Below w.heap.size w w':=by
 refine (decseg_calls w A c _ hi).mono ?_;rintro e w' ⟨hb,A1,c1,he,hR⟩;rw[whole_back segP_codec zSeg hv] at he hR;exact ⟨A1,c1,he,hR,hb⟩
theorem sameS_ok (y:Seg) (A0:Option Addr) (c0:Nat) (A1:Option Addr) (c1:Nat) (w:World) (ha:In w A0 c0 y.data) (hb:In w A1 c1 y.data):
  Calls Try.prog 29 #[.agg (SVc y A0 c0),.agg (SVc y A1 c1)] w fun e w'=>e = .returned (.bool true)∧Below w.heap.size w w':=by
 refine (sameSegment_calls y y A0 c0 A1 c1 w ha hb).mono ?_;rintro e w' ⟨he,hb⟩;rw[dcd_pos rfl] at he;exact ⟨he,hb⟩
theorem encq_ok (x:S25) (o:Sp.Op) (w:World) (h:isI o.a∧isI o.b):
  Calls Try.prog 32 #[.agg #[.int .i64 x.f0,.int .i64 x.f1],.agg #[.int .i64 o.kind,.string o.name,.int .i64 o.a,.int .i64 o.b]] w fun e w'=>∃ v ys er,e = .returned (.tuple #[v,.int .i64 er])∧Kd.R (Kd.int .u8) 5 w' w.heap.size (fun _=>True) v ys∧ys.length≤100000∧Below w.heap.size w w':=by
 refine (encreq_calls x o w h).mono ?_;rintro e w' ⟨v,he,hR,hb⟩;refine ⟨v,_,_,he,hR,?_,hb⟩;by_cases hv:reqV (x,o)
 ·rw[lay_ok hv];have h1:(pairB x).length≤12:=call12 hv.1;have h2:(opB o).length≤38:=op_len hv.2
  show (reqB (x,o)).length≤100000
  simp only[reqB,List.length_append];omega
 ·rw[lay_no hv];exact Nat.zero_le _
theorem encp_ok (r:Rep) (w:World) (h:isI r.value):
  Calls Try.prog 34 #[.agg (RVc r)] w fun e w'=>∃ v ys er,e = .returned (.tuple #[v,.int .i64 er])∧Kd.R (Kd.int .u8) 5 w' w.heap.size (fun _=>True) v ys∧ys.length≤100000∧Below w.heap.size w w':=by
 refine (encrep_calls r w h).mono ?_;rintro e w' ⟨v,he,hR,hb⟩;refine ⟨v,_,_,he,hR,?_,hb⟩;by_cases hv:repV r
 ·rw[lay_ok hv];have h1:=call12 hv.1;have h2:=sign10 hv.2.2
  have h3:(intB r.err).length≤10:=by
   have:=hv.2.1;exact Nat.le_trans (intB_len 9 (by omega) (by omega) (by omega)) (by omega)
  simp only[repB,List.length_append];omega
 ·rw[lay_no hv];exact Nat.zero_le _
end Go.Proofs.Ytpgdmmjbhjbbhaa.Kp
end
section
namespace Go.Proofs.Ytpgdmmjbhjbbhaa.Kp
open Go Go.RowKit P Sp Vd En Wr Rd Rf Lw Ow Kr YtpgdmmjbhjbbhaaW.PrintWords YtpgdmmjbhjbbhaaW.PrintLast YtpgdmmjbhjbbhaaW.PrintMore
theorem kept_calls {kb : Nat} {K : (Nat → Nat) → Nat → World → Prop} (hkp : Keeper kb K)
    (hwh:∀ {ρ n w},K ρ n w→n≤2000000→Calls Try.prog 78 #[.pointer (some ⟨kb,0,none⟩)] w fun e w'=>e = .returned (.bool true)∧Below 0 w w'∧∀ k,k<w.heap.size→ρ k=0→w'.heap[k]?=w.heap[k]?)
    (W w:World) (A:Option Addr) (c:Nat) (l:List Ac) (hl:AcIn W A c l) (ρ0:Nat→Nat) (h0:K ρ0 0 w) (hb0:Below W.heap.size W w) (hz0:∀ k,k<W.heap.size→ρ0 k=0):
    Calls Try.prog 25 #[.slice A l.length c,.pointer (some ⟨kb,0,none⟩)] w fun e w'=>e = .returned (.bool true)∧Below W.heap.size W w':=by
  have HL:=Aside0.mk hl;have HKp:=Aside0.mk hkp;have HWH:Aside0 (∀ (ρ:Nat→Nat) (n:Nat) (w:World),K ρ n w→n≤2000000→Calls Try.prog 78 #[.pointer (some ⟨kb,0,none⟩)] w fun e w'=>e = .returned (.bool true)∧Below 0 w w'∧∀ k,k<w.heap.size→ρ k=0→w'.heap[k]?=w.heap[k]?):=⟨fun _ _ _ h hn=>hwh h hn⟩;have H0:=Aside0.mk (And.intro h0 (And.intro hb0 hz0));have hlI:(l.length:Int)≤9223372036854775806:=by have:=hl.2.1;omega
  have hl0:(0:Int)≤(l.length:Int):=by omega
  clear hl hkp hwh h0 hb0 hz0;have hu64:=Try.underlying64;have hu33:=Try.underlying33;have hu47:=Try.underlying47;have hu27:=Try.underlying27;have hu29:=Try.underlying29;have hu50:=Try.underlying50;go_enter Try.func25,Try.ntmps25
  go_wp2_with fail
  go_loopw [5] (fun v5 wr=>∃ (i n:Nat) (ρ:Nat→Nat),v5 = .int .i64 (i:Int)∧Aside0 (i≤l.length∧i≤30∧n≤10 * i∧K ρ n wr∧Below W.heap.size W wr∧∀ k,k<W.heap.size→ρ k=0)) (fun v5 _=>l.length - (intOf v5).toNat)
  case atStart=>exact ⟨0,0,ρ0,rfl,⟨Nat.zero_le _,Nat.zero_le _,Nat.zero_le _,H0.out.1,H0.out.2.1,H0.out.2.2⟩⟩
  case round=>
   obtain ⟨i,n,ρ,rfl,HQ⟩:=hrel;clear H0;by_cases hlt:i<l.length
   ·have hi0:(0:Int)≤(i:Int):=by omega
    have hi1:(i:Int)<(l.length:Int):=by omega
    have HLT:=Aside0.mk hlt;by_cases h30:i<30
    ·have hi2:(i:Int)<30:=by omega
     have H30:Aside0 (i<30∧n≤10 * i):=⟨h30,HQ.out.2.2.1⟩;obtain ⟨a,ha⟩:∃ a,l[i]?=some a:=⟨_,List.getElem?_eq_getElem hlt⟩;obtain ⟨hin,ad,hA,hcc⟩:=HL.out.2.2 i a ha;have HA:=Aside0.mk hin;have HC:Aside0 (∀ (j:Nat) (v:Value),(acA a).toList[j]?=some v→wr.cell? ((ad.add (i * 37)).add j)=some v):=⟨fun j v hv=>cell_bel HQ.out.2.2.2.2.1 (hcc j v hv)⟩;subst hA;clear hin hcc ha h30
     go_upto_region 5 with (first
      | ((with_reducible refine gate_dst (N:=42) rfl ?_);refine load_any rfl 64 (.tmp 41) (by rfl) (ad.add (i * 37)) (by rfl) (acA a) _ HC.out hu64 rfl inf64 ?_)
      | (refine wpList_store_row rfl 64 (.tmp 6) (.tmp 42) rfl wr.heap.size (acA a) (by rfl) (by rfl) 64 _ (heap_alloc_new wr _) inf64 rfl (ac_one a) ?_))
     obtain ⟨w2,hw2⟩:∃ w2,w2=(wr.alloc (.cells #[.int .i64 0,.int .i64 0,.string ⟨#[]⟩,.int .i64 0,.int .i64 0,.int .i64 0,.int .i64 0,.int .i64 0,.int .i64 0,.int .i64 0,.int .i64 0,.int .i64 0,.int .i64 0,.int .i64 0,.int .i64 0,.string ⟨#[]⟩,.int .i64 0,.int .i64 0,.int .i64 0,.int .i64 0,.slice none 0 0,.int .i64 0,.int .i64 0,.int .i64 0,.int .i64 0,.slice none 0 0,.int .i64 0,.int .i64 0,.int .i64 0,.string ⟨#[]⟩,.int .i64 0,.int .i64 0,.int .i64 0,.int .i64 0,.int .i64 0,.int .i64 0,.slice none 0 0] 64 (0,0))).setRow wr.heap.size (acA a):=⟨_,rfl⟩;have HW2:=Aside0.mk hw2
     have HX:Aside0 (KS K W wr.heap.size a ρ n w2):=⟨by
      have hb:Below wr.heap.size wr w2:=by rw[hw2];exact below_setRow (al_below _ _) (Nat.le_refl _) _
      refine ⟨HKp.out.move HQ.out.2.2.2.1 (fun k hk _=>hb.block k hk) hb.size,below_step HQ.out.2.2.2.2.1 hb,HQ.out.2.2.2.2.2,⟨by rw[hw2];exact setRow_blk (heap_alloc_new wr _) _,?_⟩,HQ.out.2.2.2.2.1.size⟩;exact Classical.not_not.1 (fun h=>Nat.lt_irrefl _ (HKp.out.zer HQ.out.2.2.2.1 _ h))⟩
     rw[←HW2.out];clear hw2 HW2 HC HQ
     generalize wr.heap.size=g at HX ⊢
     obtain ⟨tk,htk⟩:∃ tk,dcd (msgV a.m)=tk:=⟨_,rfl⟩;have HTK:=Aside0.mk htk;clear htk
     go_upto_if 45 with (first
      | ((with_reducible refine gate_dst (N:=44) rfl ?_);refine load_any rfl 33 (.tmp 43) (by rfl) ⟨g,1,none⟩ (by rfl) (MVc a.m a.Am a.cm) _ (fun j v hv=>ac_M HX.out.box.1 j v hv) hu33 rfl inf33 ?_)
      | (go_at_call 15;refine (rvalid_calls a.m HA.out.mi a.Am a.cm _ (Kd.C_below HA.out.mv.1 HX.out.bel) HA.out.mv.2.1).mono ?_;rintro e w3 ⟨rfl,hb⟩;rw[HTK.out];have n0_:=Aside0.mk (KS.below HKp.out HX.out hb);clear HX hb;have HX:=n0_;clear n0_))
     go_cut [7,8,9,10,11,12,13,14,15,16] from 29 to 198 (fun _ _ _ _ _ _ _ _ _ _ wx=>∃ (ρ1:Nat→Nat) (n1:Nat),Aside0 (n1≤10 * i+4∧KS K W g a ρ1 n1 wx))
     case first =>
       obtain rfl|rfl:tk=true∨tk=false:=by cases tk<;>simp
       ·have HV:Aside0 (msgV a.m):=⟨dcd_iff.mp HTK.out⟩;clear HTK
        go_upto_region 7 with (first
         | ((with_reducible refine gate_dst (N:=48) rfl ?_);refine load_any rfl 33 (.tmp 47) (by rfl) ⟨g,1,none⟩ (by rfl) (MVc a.m a.Am a.cm) _ (fun j v hv=>ac_M HX.out.box.1 j v hv) hu33 rfl inf33 ?_)
         | (go_at_call 16;refine (enc_ok a.m HV.out a.Am a.cm _ HA.out.mi ⟨(Kd.C_below HA.out.mv.1 HX.out.bel),HA.out.mv.2.1⟩).mono ?_;rintro e w4 ⟨A1,c1,rfl,hR,hb⟩;have HSZ:Aside0 (g<w3.heap.size∧w3.heap.size≤w4.heap.size):=⟨HX.out.glt,hb.size⟩;have HB:Aside0 (OB (Kd.int .u8) 5 w3.heap.size w4.heap.size ρ w4 (.slice A1 (msgB a.m).length c1) (msgB a.m)):=⟨OB.new hR (HX.out.z0 HKp.out) (Nat.le_refl _) (Nat.le_refl _)⟩;have n0_:=Aside0.mk (KS.below HKp.out HX.out hb);clear HX hb hR;have HX:=n0_;clear n0_))
        go_upto_region 8 with (first
         | ((with_reducible refine gate_dst (N:=54) rfl ?_);refine load_any rfl 33 (.tmp 53) (by rfl) ⟨g,1,none⟩ (by rfl) (MVc a.m a.Am a.cm) _ (fun j v hv=>ac_M HX.out.box.1 j v hv) hu33 rfl inf33 ?_)
         | (go_at_call 16;refine (enc_ok a.m HV.out a.Am a.cm _ HA.out.mi ⟨(Kd.C_below HA.out.mv.1 HX.out.bel),HA.out.mv.2.1⟩).mono ?_;rintro e w5 ⟨A2,c2,rfl,hR,hb⟩;have n1_:Aside0 (g<w3.heap.size∧w3.heap.size≤w4.heap.size∧w4.heap.size≤w5.heap.size):=⟨HSZ.out.1,HSZ.out.2,hb.size⟩;have HC:Aside0 (OB (Kd.int .u8) 5 w4.heap.size w5.heap.size ρ w5 (.slice A2 (msgB a.m).length c2) (msgB a.m)):=⟨OB.new hR (HX.out.z0 HKp.out) (Nat.le_refl _) (Nat.le_refl _)⟩;have n0_:=Aside0.mk (KS.below HKp.out HX.out hb);have n2_:=Aside0.mk (HB.out.below hb);clear HX hb hR HSZ HB;have HX:=n0_;have HSZ:=n1_;have HB:=n2_;clear n0_ n1_ n2_))
        go_upto_region 10 with (go_at_call 37;refine (Lt.alike_self A1 c1 A2 c2 (msgB a.m) _ HB.out.reads.2.2 HB.out.reads.2.1 HC.out.reads.2.2 HC.out.reads.2.1).mono ?_;rintro e w6 ⟨rfl,hb⟩;have n0_:=Aside0.mk (KS.below HKp.out HX.out hb);have n1_:Aside0 (g<w3.heap.size∧w3.heap.size≤w4.heap.size∧w4.heap.size≤w5.heap.size∧w5.heap.size≤w6.heap.size):=⟨HSZ.out.1,HSZ.out.2.1,HSZ.out.2.2,hb.size⟩;have n2_:=Aside0.mk (HB.out.below hb);have n3_:=Aside0.mk (HC.out.below hb);clear HX HSZ HB HC hb;have HX:=n0_;have HSZ:=n1_;have HB:=n2_;have HC:=n3_;clear n0_ n1_ n2_ n3_)
        go_upto_region 11 with (first
         | (go_at_call 18;refine (dec_ok a.m HV.out _ A1 c1 (HB.out.in_ (b_msg a.m))).mono ?_;rintro e w7 ⟨A3,c3,rfl,hR,hb⟩;have HM:Aside0 (OB k87 87 w5.heap.size w7.heap.size ρ w7 (.slice A3 (a.m.views).length c3) (a.m.views)):=⟨OB.new hR (HX.out.z0 HKp.out) HSZ.out.2.2.2 (Nat.le_refl _)⟩;have n0_:=Aside0.mk (KS.below HKp.out HX.out hb);have n1_:Aside0 (g<w3.heap.size∧w3.heap.size≤w4.heap.size∧w4.heap.size≤w5.heap.size∧w5.heap.size≤w7.heap.size):=⟨HSZ.out.1,HSZ.out.2.1,HSZ.out.2.2.1,Nat.le_trans HSZ.out.2.2.2 hb.size⟩;have n2_:=Aside0.mk (HB.out.below hb);have n3_:=Aside0.mk (HC.out.below hb);clear HX HSZ HB HC hb hR;have HX:=n0_;have HSZ:=n1_;have HB:=n2_;have HC:=n3_;clear n0_ n1_ n2_ n3_;have HN:=Aside0.mk (heap_alloc_new w7 (.cells (MVc zMsg none 0) 33 (0,0))))
         | (refine wpList_store_row rfl 33 (.tmp 11) (.tmp 65) rfl w7.heap.size (MVc a.m A3 c3) (by rfl) (by rfl) 33 _ HN.out inf33 rfl (mv_one _ _ _) ?_))
        obtain ⟨w8,hw8⟩:∃ w8,w8=(w7.alloc (.cells (MVc zMsg none 0) 33 (0,0))).setRow w7.heap.size (MVc a.m A3 c3):=⟨_,rfl⟩;have HW8:=Aside0.mk hw8
        have HE:Aside0 (Below w7.heap.size w7 w8∧BK ρ w8 w7.heap.size (MVc a.m A3 c3) 33∧w7.heap.size<w8.heap.size):=⟨by
         have h1:w8.heap[w7.heap.size]?=some (.cells (MVc a.m A3 c3) 33 (0,0)):=by rw[hw8];exact setRow_blk HN.out _
         exact ⟨by rw[hw8];exact below_setRow (al_below _ _) (Nat.le_refl _) _,⟨h1,Classical.not_not.1 (fun h=>Nat.lt_irrefl _ (HX.out.z0 HKp.out _ h))⟩,blk_lt h1⟩⟩
        rw[mv_zero] at HW8;rw[←HW8.out];have n0_:=Aside0.mk (KS.below HKp.out HX.out HE.out.1);have n2_:=Aside0.mk (HB.out.below HE.out.1);have n3_:=Aside0.mk (HC.out.below HE.out.1);have n4_:=Aside0.mk (HM.out.below HE.out.1);clear hw8 HW8 HN HX HB HC HM;have HX:=n0_;have HB:=n2_;have HC:=n3_;have HM:=n4_;clear n0_ n2_ n3_ n4_
        go_upto_region 12 with (first
         | (go_at_call 18;refine (dec_ok a.m HV.out _ A2 c2 (HC.out.in_ (b_msg a.m))).mono ?_;rintro e w9 ⟨A4,c4,rfl,hR,hb⟩;have HK:Aside0 (OB k87 87 (w7.heap.size+1) w9.heap.size ρ w9 (.slice A4 (a.m.views).length c4) (a.m.views)):=⟨OB.new hR (HX.out.z0 HKp.out) HE.out.2.2 (Nat.le_refl _)⟩;have n0_:=Aside0.mk (KS.below HKp.out HX.out hb);have n1_:Aside0 (g<w3.heap.size∧w3.heap.size≤w4.heap.size∧w4.heap.size≤w5.heap.size∧w5.heap.size≤w7.heap.size∧w7.heap.size<w9.heap.size):=⟨HSZ.out.1,HSZ.out.2.1,HSZ.out.2.2.1,HSZ.out.2.2.2,Nat.lt_of_lt_of_le HE.out.2.2 hb.size⟩;have n2_:=Aside0.mk (HB.out.below hb);have n3_:=Aside0.mk (HC.out.below hb);have n4_:=Aside0.mk (HM.out.below hb);have n5_:=Aside0.mk (HE.out.2.1.below hb);clear HX HSZ HB HC HM HE hb hR;have HX:=n0_;have HSZ:=n1_;have HB:=n2_;have HC:=n3_;have HM:=n4_;have HE:=n5_;clear n0_ n1_ n2_ n3_ n4_ n5_;have HN:=Aside0.mk (heap_alloc_new w9 (.cells (MVc zMsg none 0) 33 (0,0))))
         | (refine wpList_store_row rfl 33 (.tmp 14) (.tmp 71) rfl w9.heap.size (MVc a.m A4 c4) (by rfl) (by rfl) 33 _ HN.out inf33 rfl (mv_one _ _ _) ?_))
        obtain ⟨w10,hw10⟩:∃ w10,w10=(w9.alloc (.cells (MVc zMsg none 0) 33 (0,0))).setRow w9.heap.size (MVc a.m A4 c4):=⟨_,rfl⟩;have HW10:=Aside0.mk hw10
        have HR:Aside0 (RA k87 87 33 K W g a ρ n w10 true true true true w3.heap.size w4.heap.size w5.heap.size w7.heap.size w9.heap.size (.slice A1 (msgB a.m).length c1) (.slice A2 (msgB a.m).length c2) (.slice A3 (a.m.views).length c3) (.slice A4 (a.m.views).length c4) (msgB a.m) (a.m.views) (MVc a.m A3 c3) (MVc a.m A4 c4)):=⟨by
         have h1:w10.heap[w9.heap.size]?=some (.cells (MVc a.m A4 c4) 33 (0,0)):=by rw[hw10];exact setRow_blk HN.out _
         have hb:Below w9.heap.size w9 w10:=by rw[hw10];exact below_setRow (al_below _ _) (Nat.le_refl _) _
         exact ⟨HX.out.below HKp.out hb,HSZ.out,fun _=>HB.out.below hb,fun _=>HC.out.below hb,fun _=>HM.out.below hb,fun _=>HK.out.below hb,HE.out.below hb,⟨h1,Classical.not_not.1 (fun h=>Nat.lt_irrefl _ (HX.out.z0 HKp.out _ h))⟩⟩⟩
        rw[mv_zero] at HW10;rw[←HW10.out];have HCH:=Aside0.mk HR.out.ch;have HBL:Aside0 ((msgB a.m).length≤100000∧(a.m.views).length≤100000):=⟨⟨Nat.le_trans (msg_len HV.out) (by omega),by have:=msgV_views HV.out;omega⟩⟩;clear hw10 HW10 HN HX HSZ HB HC HM HK HE
        generalize w3.heap.size=s0 at HR HCH ⊢
        generalize w4.heap.size=s1 at HR HCH ⊢
        generalize w5.heap.size=s2 at HR HCH ⊢
        generalize w7.heap.size=b1 at HR HCH ⊢
        generalize w9.heap.size=b2 at HR HCH ⊢
        go_upto_region 13 with (go_at_call 76;refine (put_calls HKp.out HR.out.ks.k (by have:=H30.out;omega) (HR.out.b rfl) HBL.out.1).mono ?_;rintro e wp11 ⟨rfl,ρ11,hk,ha⟩;have n0_:=Aside0.mk (HR.out.put (fb':=false) (fc':=true) (fm':=true) (fk':=true) hk ha (HR.out.b rfl).own (by have:=HCH.out;omega) (fun h=>⟨by first|rfl|exact absurd h (by decide),by first|exact absurd h (by decide)|(have:=HCH.out;omega)⟩) (fun h=>⟨by first|rfl|exact absurd h (by decide),by first|exact absurd h (by decide)|(have:=HCH.out;omega)⟩) (fun h=>⟨by first|rfl|exact absurd h (by decide),by first|exact absurd h (by decide)|(have:=HCH.out;omega)⟩) (fun h=>⟨by first|rfl|exact absurd h (by decide),by first|exact absurd h (by decide)|(have:=HCH.out;omega)⟩));clear HR hk ha;have HR:=n0_;clear n0_)
        go_upto_region 15 with (first
         | ((with_reducible refine gate_dst (N:=84) rfl ?_);refine gate_guard (by kernel_rfl) ?_;refine wpList_load_row rfl 33 (.tmp 11) rfl b1 (by rfl) 33 (MVc a.m A3 c3) (0,0) _ HR.out.x1.1 hu33 rfl inf33 ?_)
         | ((with_reducible refine gate_dst (N:=86) rfl ?_);refine gate_guard (by kernel_rfl) ?_;refine load_any rfl 33 (.tmp 85) (by rfl) ⟨g,1,none⟩ (by rfl) (MVc a.m a.Am a.cm) _ (fun j v hv=>ac_M HR.out.ks.box.1 j v hv) hu33 rfl inf33 ?_)
         | ((with_reducible refine gate_dst (N:=91) rfl ?_);refine gate_guard (by kernel_rfl) ?_;refine wpList_load_row rfl 33 (.tmp 14) rfl b2 (by rfl) 33 (MVc a.m A4 c4) (0,0) _ HR.out.x2.1 hu33 rfl inf33 ?_)
         | ((with_reducible refine gate_dst (N:=93) rfl ?_);refine gate_guard (by kernel_rfl) ?_;refine load_any rfl 33 (.tmp 92) (by rfl) ⟨g,1,none⟩ (by rfl) (MVc a.m a.Am a.cm) _ (fun j v hv=>ac_M HR.out.ks.box.1 j v hv) hu33 rfl inf33 ?_)
         | (go_at_call 20;(with_reducible refine (same_ok a.m A3 c3 a.Am a.cm _ ?c1 ?c2).mono ?_);(case c1=>exact ⟨(HR.out.m rfl).reads.2.2,(HR.out.m rfl).reads.2.1⟩);(case c2=>exact ⟨(Kd.C_below HA.out.mv.1 HR.out.ks.bel),HA.out.mv.2.1⟩);rintro e wq ⟨rfl,hb⟩;have n0_:=Aside0.mk (HR.out.below HKp.out hb);clear HR hb;have HR:=n0_;clear n0_)
         | (go_at_call 20;(with_reducible refine (same_ok a.m A4 c4 a.Am a.cm _ ?c1 ?c2).mono ?_);(case c1=>exact ⟨(HR.out.k rfl).reads.2.2,(HR.out.k rfl).reads.2.1⟩);(case c2=>exact ⟨(Kd.C_below HA.out.mv.1 HR.out.ks.bel),HA.out.mv.2.1⟩);rintro e wq ⟨rfl,hb⟩;have n0_:=Aside0.mk (HR.out.below HKp.out hb);clear HR hb;have HR:=n0_;clear n0_))
        have kv:wq.cell? ⟨b1,19,none⟩=some (.slice A3 (a.m.views).length c3):=(blk_cell HR.out.x1.1 19).trans rfl;go_upto_region 16 with (go_at_call 77;refine (putV_calls HKp.out HR.out.ks.k (by have:=H30.out;omega) (HR.out.m rfl) HBL.out.2).mono ?_;rintro e wp12 ⟨rfl,ρ12,hk,ha⟩;have n0_:=Aside0.mk (HR.out.put (fb':=false) (fc':=true) (fm':=false) (fk':=true) hk ha (HR.out.m rfl).own (by have:=HCH.out;omega) (fun h=>⟨by first|rfl|exact absurd h (by decide),by first|exact absurd h (by decide)|(have:=HCH.out;omega)⟩) (fun h=>⟨by first|rfl|exact absurd h (by decide),by first|exact absurd h (by decide)|(have:=HCH.out;omega)⟩) (fun h=>⟨by first|rfl|exact absurd h (by decide),by first|exact absurd h (by decide)|(have:=HCH.out;omega)⟩) (fun h=>⟨by first|rfl|exact absurd h (by decide),by first|exact absurd h (by decide)|(have:=HCH.out;omega)⟩));clear HR hk ha kv;have HR:=n0_;clear n0_)
        go_upto_region 18 with (first
         | ((with_reducible refine gate_dst (N:=101) rfl ?_);refine wpList_load_row rfl 33 (.tmp 14) rfl b2 (by rfl) 33 (MVc a.m A4 c4) (0,0) _ HR.out.x2.1 hu33 rfl inf33 ?_)
         | ((with_reducible refine gate_dst (N:=103) rfl ?_);refine load_any rfl 33 (.tmp 102) (by rfl) ⟨g,1,none⟩ (by rfl) (MVc a.m a.Am a.cm) _ (fun j v hv=>ac_M HR.out.ks.box.1 j v hv) hu33 rfl inf33 ?_)
         | (go_at_call 20;(with_reducible refine (same_ok a.m A4 c4 a.Am a.cm _ ?c1 ?c2).mono ?_);(case c1=>exact ⟨(HR.out.k rfl).reads.2.2,(HR.out.k rfl).reads.2.1⟩);(case c2=>exact ⟨(Kd.C_below HA.out.mv.1 HR.out.ks.bel),HA.out.mv.2.1⟩);rintro e wq ⟨rfl,hb⟩;have n0_:=Aside0.mk (HR.out.below HKp.out hb);clear HR hb;have HR:=n0_;clear n0_))
        have kv:wq.cell? ⟨b2,19,none⟩=some (.slice A4 (a.m.views).length c4):=(blk_cell HR.out.x2.1 19).trans rfl;go_upto_region 19 with (go_at_call 77;refine (putV_calls HKp.out HR.out.ks.k (by have:=H30.out;omega) (HR.out.k rfl) HBL.out.2).mono ?_;rintro e wp13 ⟨rfl,ρ13,hk,ha⟩;have n0_:=Aside0.mk (HR.out.put (fb':=false) (fc':=true) (fm':=false) (fk':=false) hk ha (HR.out.k rfl).own (by have:=HCH.out;omega) (fun h=>⟨by first|rfl|exact absurd h (by decide),by first|exact absurd h (by decide)|(have:=HCH.out;omega)⟩) (fun h=>⟨by first|rfl|exact absurd h (by decide),by first|exact absurd h (by decide)|(have:=HCH.out;omega)⟩) (fun h=>⟨by first|rfl|exact absurd h (by decide),by first|exact absurd h (by decide)|(have:=HCH.out;omega)⟩) (fun h=>⟨by first|rfl|exact absurd h (by decide),by first|exact absurd h (by decide)|(have:=HCH.out;omega)⟩));clear HR hk ha kv;have HR:=n0_;clear n0_)
        go_wp2_with (go_at_call 76;refine (put_calls HKp.out HR.out.ks.k (by have:=H30.out;omega) (HR.out.c rfl) HBL.out.1).mono ?_;rintro e wp14 ⟨rfl,ρ14,hk,ha⟩;have n0_:=Aside0.mk (HR.out.put (fb':=false) (fc':=false) (fm':=false) (fk':=false) hk ha (HR.out.c rfl).own (by have:=HCH.out;omega) (fun h=>⟨by first|rfl|exact absurd h (by decide),by first|exact absurd h (by decide)|(have:=HCH.out;omega)⟩) (fun h=>⟨by first|rfl|exact absurd h (by decide),by first|exact absurd h (by decide)|(have:=HCH.out;omega)⟩) (fun h=>⟨by first|rfl|exact absurd h (by decide),by first|exact absurd h (by decide)|(have:=HCH.out;omega)⟩) (fun h=>⟨by first|rfl|exact absurd h (by decide),by first|exact absurd h (by decide)|(have:=HCH.out;omega)⟩));clear HR hk ha;have HR:=n0_;clear n0_)
        go_meet
        exact ⟨_,_,⟨by have:=H30.out;omega,HR.out.ks⟩⟩
       ·go_wp2_with fail
        go_meet
        exact ⟨_,_,⟨by have:=H30.out;omega,HX.out⟩⟩
     case rest=>
      clear HX HTK;obtain ⟨ρ1,n1,HQ⟩:=hcut;have HX:=Aside0.mk HQ.out.2;have H30b:Aside0 (i<30∧n1≤10 * i+4):=⟨H30.out.1,HQ.out.1⟩;clear HQ H30;have H30:=H30b;clear H30b;obtain ⟨ρ,hρ⟩:∃ ρ,ρ=ρ1:=⟨_,rfl⟩;obtain ⟨n,hn⟩:∃ n,n=n1:=⟨_,rfl⟩;rw[←hρ,←hn] at HX;rw[←hn] at H30;clear hρ hn;obtain ⟨tk,htk⟩:∃ tk,dcd (segV a.s)=tk:=⟨_,rfl⟩;have HTK:=Aside0.mk htk;clear htk
      go_upto_if 115 with (first
       | ((with_reducible refine gate_dst (N:=114) rfl ?_);refine load_any rfl 47 (.tmp 113) (by rfl) ⟨g,21,none⟩ (by rfl) (SVc a.s a.As a.cs) _ (fun j v hv=>ac_S HX.out.box.1 j v hv) hu47 rfl inf47 ?_)
       | (go_at_call 26;refine (right_calls a.s a.As a.cs _ (In.below HA.out.si.1 HX.out.bel)).mono ?_;rintro e w3 ⟨rfl,hb⟩;rw[HTK.out];have n0_:=Aside0.mk (KS.below HKp.out HX.out hb);clear HX hb;have HX:=n0_;clear n0_))
      go_cut [17,18,19,20,21,22,23,24,25,26] from 29 to 198 (fun _ _ _ _ _ _ _ _ _ _ wx=>∃ (ρ1:Nat→Nat) (n1:Nat),Aside0 (n1≤10 * i+8∧KS K W g a ρ1 n1 wx))
      case first =>
        obtain rfl|rfl:tk=true∨tk=false:=by cases tk<;>simp
        ·have HV:Aside0 (segV a.s):=⟨dcd_iff.mp HTK.out⟩;clear HTK
         go_upto_region 22 with (first
          | ((with_reducible refine gate_dst (N:=118) rfl ?_);refine load_any rfl 47 (.tmp 117) (by rfl) ⟨g,21,none⟩ (by rfl) (SVc a.s a.As a.cs) _ (fun j v hv=>ac_S HX.out.box.1 j v hv) hu47 rfl inf47 ?_)
          | (go_at_call 27;refine (encs_ok a.s HV.out a.As a.cs _ (In.below HA.out.si.1 HX.out.bel)).mono ?_;rintro e w4 ⟨A1,c1,rfl,hR,hb⟩;have HSZ:Aside0 (g<w3.heap.size∧w3.heap.size≤w4.heap.size):=⟨HX.out.glt,hb.size⟩;have HB:Aside0 (OB (Kd.int .u8) 5 w3.heap.size w4.heap.size ρ w4 (.slice A1 (segB a.s).length c1) (segB a.s)):=⟨OB.new hR (HX.out.z0 HKp.out) (Nat.le_refl _) (Nat.le_refl _)⟩;have n0_:=Aside0.mk (KS.below HKp.out HX.out hb);clear HX hb hR;have HX:=n0_;clear n0_))
         go_upto_region 23 with (first
          | ((with_reducible refine gate_dst (N:=124) rfl ?_);refine load_any rfl 47 (.tmp 123) (by rfl) ⟨g,21,none⟩ (by rfl) (SVc a.s a.As a.cs) _ (fun j v hv=>ac_S HX.out.box.1 j v hv) hu47 rfl inf47 ?_)
          | (go_at_call 27;refine (encs_ok a.s HV.out a.As a.cs _ (In.below HA.out.si.1 HX.out.bel)).mono ?_;rintro e w5 ⟨A2,c2,rfl,hR,hb⟩;have n1_:Aside0 (g<w3.heap.size∧w3.heap.size≤w4.heap.size∧w4.heap.size≤w5.heap.size):=⟨HSZ.out.1,HSZ.out.2,hb.size⟩;have HC:Aside0 (OB (Kd.int .u8) 5 w4.heap.size w5.heap.size ρ w5 (.slice A2 (segB a.s).length c2) (segB a.s)):=⟨OB.new hR (HX.out.z0 HKp.out) (Nat.le_refl _) (Nat.le_refl _)⟩;have n0_:=Aside0.mk (KS.below HKp.out HX.out hb);have n2_:=Aside0.mk (HB.out.below hb);clear HX hb hR HSZ HB;have HX:=n0_;have HSZ:=n1_;have HB:=n2_;clear n0_ n1_ n2_))
         have n1_:Aside0 (g<w3.heap.size∧w3.heap.size≤w4.heap.size∧w4.heap.size≤w5.heap.size∧w5.heap.size≤w5.heap.size):=⟨HSZ.out.1,HSZ.out.2.1,HSZ.out.2.2,Nat.le_refl _⟩;clear HSZ;have HSZ:=n1_;clear n1_
         go_upto_region 24 with (first
          | (go_at_call 28;refine (decs_ok a.s HV.out _ A1 c1 (HB.out.in_ (b_seg HA.out.si.1.isB))).mono ?_;rintro e w7 ⟨A3,c3,rfl,hR,hb⟩;have HM:Aside0 (OB (Kd.int .u8) 5 w5.heap.size w7.heap.size ρ w7 (.slice A3 (a.s.data).length c3) (a.s.data)):=⟨OB.new hR (HX.out.z0 HKp.out) HSZ.out.2.2.2 (Nat.le_refl _)⟩;have n0_:=Aside0.mk (KS.below HKp.out HX.out hb);have n1_:Aside0 (g<w3.heap.size∧w3.heap.size≤w4.heap.size∧w4.heap.size≤w5.heap.size∧w5.heap.size≤w7.heap.size):=⟨HSZ.out.1,HSZ.out.2.1,HSZ.out.2.2.1,Nat.le_trans HSZ.out.2.2.2 hb.size⟩;have n2_:=Aside0.mk (HB.out.below hb);have n3_:=Aside0.mk (HC.out.below hb);clear HX HSZ HB HC hb hR;have HX:=n0_;have HSZ:=n1_;have HB:=n2_;have HC:=n3_;clear n0_ n1_ n2_ n3_;have HN:=Aside0.mk (heap_alloc_new w7 (.cells (#[.int .i64 0,.int .i64 0,.int .i64 0,.int .i64 0,.slice none 0 0]) 47 (0,0))))
          | (refine wpList_store_row rfl 47 (.tmp 21) (.tmp 131) rfl w7.heap.size (SVc a.s A3 c3) (by rfl) (by rfl) 47 _ HN.out inf47 rfl (sv_one _ _ _) ?_))
         obtain ⟨w8,hw8⟩:∃ w8,w8=(w7.alloc (.cells (#[.int .i64 0,.int .i64 0,.int .i64 0,.int .i64 0,.slice none 0 0]) 47 (0,0))).setRow w7.heap.size (SVc a.s A3 c3):=⟨_,rfl⟩;have HW8:=Aside0.mk hw8
         have HE:Aside0 (Below w7.heap.size w7 w8∧BK ρ w8 w7.heap.size (SVc a.s A3 c3) 47∧w7.heap.size<w8.heap.size):=⟨by
          have h1:w8.heap[w7.heap.size]?=some (.cells (SVc a.s A3 c3) 47 (0,0)):=by rw[hw8];exact setRow_blk HN.out _
          exact ⟨by rw[hw8];exact below_setRow (al_below _ _) (Nat.le_refl _) _,⟨h1,Classical.not_not.1 (fun h=>Nat.lt_irrefl _ (HX.out.z0 HKp.out _ h))⟩,blk_lt h1⟩⟩
         rw[←HW8.out];have n0_:=Aside0.mk (KS.below HKp.out HX.out HE.out.1);have n2_:=Aside0.mk (HB.out.below HE.out.1);have n3_:=Aside0.mk (HC.out.below HE.out.1);have n4_:=Aside0.mk (HM.out.below HE.out.1);clear hw8 HW8 HN HX HB HC HM;have HX:=n0_;have HB:=n2_;have HC:=n3_;have HM:=n4_;clear n0_ n2_ n3_ n4_
         go_upto_region 25 with (first
          | (go_at_call 28;refine (decs_ok a.s HV.out _ A2 c2 (HC.out.in_ (b_seg HA.out.si.1.isB))).mono ?_;rintro e w9 ⟨A4,c4,rfl,hR,hb⟩;have HK:Aside0 (OB (Kd.int .u8) 5 (w7.heap.size+1) w9.heap.size ρ w9 (.slice A4 (a.s.data).length c4) (a.s.data)):=⟨OB.new hR (HX.out.z0 HKp.out) HE.out.2.2 (Nat.le_refl _)⟩;have n0_:=Aside0.mk (KS.below HKp.out HX.out hb);have n1_:Aside0 (g<w3.heap.size∧w3.heap.size≤w4.heap.size∧w4.heap.size≤w5.heap.size∧w5.heap.size≤w7.heap.size∧w7.heap.size<w9.heap.size):=⟨HSZ.out.1,HSZ.out.2.1,HSZ.out.2.2.1,HSZ.out.2.2.2,Nat.lt_of_lt_of_le HE.out.2.2 hb.size⟩;have n2_:=Aside0.mk (HB.out.below hb);have n3_:=Aside0.mk (HC.out.below hb);have n4_:=Aside0.mk (HM.out.below hb);have n5_:=Aside0.mk (HE.out.2.1.below hb);clear HX HSZ HB HC HM HE hb hR;have HX:=n0_;have HSZ:=n1_;have HB:=n2_;have HC:=n3_;have HM:=n4_;have HE:=n5_;clear n0_ n1_ n2_ n3_ n4_ n5_;have HN:=Aside0.mk (heap_alloc_new w9 (.cells (#[.int .i64 0,.int .i64 0,.int .i64 0,.int .i64 0,.slice none 0 0]) 47 (0,0))))
          | (refine wpList_store_row rfl 47 (.tmp 24) (.tmp 137) rfl w9.heap.size (SVc a.s A4 c4) (by rfl) (by rfl) 47 _ HN.out inf47 rfl (sv_one _ _ _) ?_))
         obtain ⟨w10,hw10⟩:∃ w10,w10=(w9.alloc (.cells (#[.int .i64 0,.int .i64 0,.int .i64 0,.int .i64 0,.slice none 0 0]) 47 (0,0))).setRow w9.heap.size (SVc a.s A4 c4):=⟨_,rfl⟩;have HW10:=Aside0.mk hw10
         have HR:Aside0 (RA (Kd.int .u8) 5 47 K W g a ρ n w10 true true true true w3.heap.size w4.heap.size w5.heap.size w7.heap.size w9.heap.size (.slice A1 (segB a.s).length c1) (.slice A2 (segB a.s).length c2) (.slice A3 (a.s.data).length c3) (.slice A4 (a.s.data).length c4) (segB a.s) (a.s.data) (SVc a.s A3 c3) (SVc a.s A4 c4)):=⟨by
          have h1:w10.heap[w9.heap.size]?=some (.cells (SVc a.s A4 c4) 47 (0,0)):=by rw[hw10];exact setRow_blk HN.out _
          have hb:Below w9.heap.size w9 w10:=by rw[hw10];exact below_setRow (al_below _ _) (Nat.le_refl _) _
          exact ⟨HX.out.below HKp.out hb,HSZ.out,fun _=>HB.out.below hb,fun _=>HC.out.below hb,fun _=>HM.out.below hb,fun _=>HK.out.below hb,HE.out.below hb,⟨h1,Classical.not_not.1 (fun h=>Nat.lt_irrefl _ (HX.out.z0 HKp.out _ h))⟩⟩⟩
         rw[←HW10.out];have HCH:=Aside0.mk HR.out.ch;have HBL:Aside0 ((segB a.s).length≤100000∧(a.s.data).length≤100000):=⟨⟨Nat.le_trans (seg_len HV.out) (by omega),by have:=HV.out.2.2.2.2.1;omega⟩⟩;clear hw10 HW10 HN HX HSZ HB HC HM HK HE
         generalize w3.heap.size=s0 at HR HCH ⊢
         generalize w4.heap.size=s1 at HR HCH ⊢
         generalize w5.heap.size=s2 at HR HCH ⊢
         generalize w7.heap.size=b1 at HR HCH ⊢
         generalize w9.heap.size=b2 at HR HCH ⊢
         go_upto_region 26 with (go_at_call 76;refine (put_calls HKp.out HR.out.ks.k (by have:=H30.out;omega) (HR.out.b rfl) HBL.out.1).mono ?_;rintro e wp11 ⟨rfl,ρ11,hk,ha⟩;have n0_:=Aside0.mk (HR.out.put (fb':=false) (fc':=true) (fm':=true) (fk':=true) hk ha (HR.out.b rfl).own (by have:=HCH.out;omega) (fun h=>⟨by first|rfl|exact absurd h (by decide),by first|exact absurd h (by decide)|(have:=HCH.out;omega)⟩) (fun h=>⟨by first|rfl|exact absurd h (by decide),by first|exact absurd h (by decide)|(have:=HCH.out;omega)⟩) (fun h=>⟨by first|rfl|exact absurd h (by decide),by first|exact absurd h (by decide)|(have:=HCH.out;omega)⟩) (fun h=>⟨by first|rfl|exact absurd h (by decide),by first|exact absurd h (by decide)|(have:=HCH.out;omega)⟩));clear HR hk ha;have HR:=n0_;clear n0_)
         go_upto_region 27 with (go_at_call 76;refine (put_calls HKp.out HR.out.ks.k (by have:=H30.out;omega) (HR.out.c rfl) HBL.out.1).mono ?_;rintro e wp12 ⟨rfl,ρ12,hk,ha⟩;have n0_:=Aside0.mk (HR.out.put (fb':=false) (fc':=false) (fm':=true) (fk':=true) hk ha (HR.out.c rfl).own (by have:=HCH.out;omega) (fun h=>⟨by first|rfl|exact absurd h (by decide),by first|exact absurd h (by decide)|(have:=HCH.out;omega)⟩) (fun h=>⟨by first|rfl|exact absurd h (by decide),by first|exact absurd h (by decide)|(have:=HCH.out;omega)⟩) (fun h=>⟨by first|rfl|exact absurd h (by decide),by first|exact absurd h (by decide)|(have:=HCH.out;omega)⟩) (fun h=>⟨by first|rfl|exact absurd h (by decide),by first|exact absurd h (by decide)|(have:=HCH.out;omega)⟩));clear HR hk ha;have HR:=n0_;clear n0_)
         go_upto_region 29 with (first
          | ((with_reducible refine gate_dst (N:=153) rfl ?_);refine gate_guard (by kernel_rfl) ?_;refine wpList_load_row rfl 47 (.tmp 21) rfl b1 (by rfl) 47 (SVc a.s A3 c3) (0,0) _ HR.out.x1.1 hu47 rfl inf47 ?_)
          | ((with_reducible refine gate_dst (N:=155) rfl ?_);refine gate_guard (by kernel_rfl) ?_;refine load_any rfl 47 (.tmp 154) (by rfl) ⟨g,21,none⟩ (by rfl) (SVc a.s a.As a.cs) _ (fun j v hv=>ac_S HR.out.ks.box.1 j v hv) hu47 rfl inf47 ?_)
          | ((with_reducible refine gate_dst (N:=160) rfl ?_);refine gate_guard (by kernel_rfl) ?_;refine wpList_load_row rfl 47 (.tmp 24) rfl b2 (by rfl) 47 (SVc a.s A4 c4) (0,0) _ HR.out.x2.1 hu47 rfl inf47 ?_)
          | ((with_reducible refine gate_dst (N:=162) rfl ?_);refine gate_guard (by kernel_rfl) ?_;refine load_any rfl 47 (.tmp 161) (by rfl) ⟨g,21,none⟩ (by rfl) (SVc a.s a.As a.cs) _ (fun j v hv=>ac_S HR.out.ks.box.1 j v hv) hu47 rfl inf47 ?_)
          | (go_at_call 29;(with_reducible refine (sameS_ok a.s A3 c3 a.As a.cs _ ?c1 ?c2).mono ?_);(case c1=>exact ((HR.out.m rfl).in_ (HA.out.si.1.isB)));(case c2=>exact (In.below HA.out.si.1 HR.out.ks.bel));rintro e wq ⟨rfl,hb⟩;have n0_:=Aside0.mk (HR.out.below HKp.out hb);clear HR hb;have HR:=n0_;clear n0_)
          | (go_at_call 29;(with_reducible refine (sameS_ok a.s A4 c4 a.As a.cs _ ?c1 ?c2).mono ?_);(case c1=>exact ((HR.out.k rfl).in_ (HA.out.si.1.isB)));(case c2=>exact (In.below HA.out.si.1 HR.out.ks.bel));rintro e wq ⟨rfl,hb⟩;have n0_:=Aside0.mk (HR.out.below HKp.out hb);clear HR hb;have HR:=n0_;clear n0_))
         have kv:wq.cell? ⟨b1,4,none⟩=some (.slice A3 (a.s.data).length c3):=(blk_cell HR.out.x1.1 4).trans rfl;go_upto_region 30 with (go_at_call 76;refine (put_calls HKp.out HR.out.ks.k (by have:=H30.out;omega) (HR.out.m rfl) HBL.out.2).mono ?_;rintro e wp13 ⟨rfl,ρ13,hk,ha⟩;have n0_:=Aside0.mk (HR.out.put (fb':=false) (fc':=false) (fm':=false) (fk':=true) hk ha (HR.out.m rfl).own (by have:=HCH.out;omega) (fun h=>⟨by first|rfl|exact absurd h (by decide),by first|exact absurd h (by decide)|(have:=HCH.out;omega)⟩) (fun h=>⟨by first|rfl|exact absurd h (by decide),by first|exact absurd h (by decide)|(have:=HCH.out;omega)⟩) (fun h=>⟨by first|rfl|exact absurd h (by decide),by first|exact absurd h (by decide)|(have:=HCH.out;omega)⟩) (fun h=>⟨by first|rfl|exact absurd h (by decide),by first|exact absurd h (by decide)|(have:=HCH.out;omega)⟩));clear HR hk ha kv;have HR:=n0_;clear n0_)
         go_upto_region 32 with (first
          | ((with_reducible refine gate_dst (N:=170) rfl ?_);refine wpList_load_row rfl 47 (.tmp 24) rfl b2 (by rfl) 47 (SVc a.s A4 c4) (0,0) _ HR.out.x2.1 hu47 rfl inf47 ?_)
          | ((with_reducible refine gate_dst (N:=172) rfl ?_);refine load_any rfl 47 (.tmp 171) (by rfl) ⟨g,21,none⟩ (by rfl) (SVc a.s a.As a.cs) _ (fun j v hv=>ac_S HR.out.ks.box.1 j v hv) hu47 rfl inf47 ?_)
          | (go_at_call 29;(with_reducible refine (sameS_ok a.s A4 c4 a.As a.cs _ ?c1 ?c2).mono ?_);(case c1=>exact ((HR.out.k rfl).in_ (HA.out.si.1.isB)));(case c2=>exact (In.below HA.out.si.1 HR.out.ks.bel));rintro e wq ⟨rfl,hb⟩;have n0_:=Aside0.mk (HR.out.below HKp.out hb);clear HR hb;have HR:=n0_;clear n0_))
         have kv:wq.cell? ⟨b2,4,none⟩=some (.slice A4 (a.s.data).length c4):=(blk_cell HR.out.x2.1 4).trans rfl;go_wp2_with (go_at_call 76;refine (put_calls HKp.out HR.out.ks.k (by have:=H30.out;omega) (HR.out.k rfl) HBL.out.2).mono ?_;rintro e wp14 ⟨rfl,ρ14,hk,ha⟩;have n0_:=Aside0.mk (HR.out.put (fb':=false) (fc':=false) (fm':=false) (fk':=false) hk ha (HR.out.k rfl).own (by have:=HCH.out;omega) (fun h=>⟨by first|rfl|exact absurd h (by decide),by first|exact absurd h (by decide)|(have:=HCH.out;omega)⟩) (fun h=>⟨by first|rfl|exact absurd h (by decide),by first|exact absurd h (by decide)|(have:=HCH.out;omega)⟩) (fun h=>⟨by first|rfl|exact absurd h (by decide),by first|exact absurd h (by decide)|(have:=HCH.out;omega)⟩) (fun h=>⟨by first|rfl|exact absurd h (by decide),by first|exact absurd h (by decide)|(have:=HCH.out;omega)⟩));clear HR hk ha kv;have HR:=n0_;clear n0_)
         go_meet
         exact ⟨_,_,⟨by have:=H30.out;omega,HR.out.ks⟩⟩
        ·go_wp2_with fail
         go_meet
         exact ⟨_,_,⟨by have:=H30.out;omega,HX.out⟩⟩
      case rest=>
       clear HX HTK;obtain ⟨ρ1,n1,HQ⟩:=hcut;have HX:=Aside0.mk HQ.out.2;have H30b:Aside0 (i<30∧n1≤10 * i+8):=⟨H30.out.1,HQ.out.1⟩;clear HQ H30;have H30:=H30b;clear H30b;obtain ⟨ρ,hρ⟩:∃ ρ,ρ=ρ1:=⟨_,rfl⟩;obtain ⟨n,hn⟩:∃ n,n=n1:=⟨_,rfl⟩;rw[←hρ,←hn] at HX;rw[←hn] at H30;clear hρ hn
       generalize wc=wx0 at HX ⊢
       go_upto_region 34 with (first
        | ((with_reducible refine gate_dst (N:=181) rfl ?_);refine load_any rfl 27 (.tmp 180) (by rfl) ⟨g,26,none⟩ (by rfl) #[.int .i64 a.c.f0,.int .i64 a.c.f1] _ (fun j v hv=>ac_C HX.out.box.1 j v hv) hu27 rfl inf27 ?_)
        | ((with_reducible refine gate_dst (N:=183) rfl ?_);refine load_any rfl 29 (.tmp 182) (by rfl) ⟨g,28,none⟩ (by rfl) #[.int .i64 a.o.kind,.string a.o.name,.int .i64 a.o.a,.int .i64 a.o.b] _ (fun j v hv=>ac_O HX.out.box.1 j v hv) hu29 rfl inf29 ?_)
        | (go_at_call 32;refine (encq_ok a.c a.o _ HA.out.oi).mono ?_;rintro e we0 ⟨v0,ys0,er0,rfl,hR,hys,hb⟩;have HY:=Aside0.mk hys;have HB:Aside0 (OB (Kd.int .u8) 5 wx0.heap.size we0.heap.size ρ we0 v0 ys0):=⟨OB.new hR (HX.out.z0 HKp.out) (Nat.le_refl _) (Nat.le_refl _)⟩;have HG:Aside0 (g<wx0.heap.size):=⟨HX.out.glt⟩;have n0_:=Aside0.mk (KS.below HKp.out HX.out hb);clear HX hb hR hys;have HX:=n0_;clear n0_))
       go_upto_region 35 with (go_at_call 76;refine (put_calls HKp.out HX.out.k (by have:=H30.out;omega) HB.out HY.out).mono ?_;rintro e wx1 ⟨rfl,ρ20,hk,ha⟩;have n0_:=Aside0.mk (HX.out.put hk ha (fun k hk=>(HB.out.own k hk).1) HG.out);clear HX hk ha HB HY HG;have HX:=n0_;clear n0_)
       go_upto_region 36 with (first
        | ((with_reducible refine gate_dst (N:=192) rfl ?_);refine load_any rfl 50 (.tmp 191) (by rfl) ⟨g,32,none⟩ (by rfl) (RVc a.r) _ (fun j v hv=>ac_R HX.out.box.1 j v hv) hu50 rfl inf50 ?_)
        | (go_at_call 34;refine (encp_ok a.r _ HA.out.ri).mono ?_;rintro e we1 ⟨v1,ys1,er1,rfl,hR,hys,hb⟩;have HY:=Aside0.mk hys;have HB:Aside0 (OB (Kd.int .u8) 5 wx1.heap.size we1.heap.size ρ20 we1 v1 ys1):=⟨OB.new hR (HX.out.z0 HKp.out) (Nat.le_refl _) (Nat.le_refl _)⟩;have HG:Aside0 (g<wx1.heap.size):=⟨HX.out.glt⟩;have n0_:=Aside0.mk (KS.below HKp.out HX.out hb);clear HX hb hR hys;have HX:=n0_;clear n0_))
       go_wp2_with (go_at_call 76;refine (put_calls HKp.out HX.out.k (by have:=H30.out;omega) HB.out HY.out).mono ?_;rintro e wx2 ⟨rfl,ρ21,hk,ha⟩;have n0_:=Aside0.mk (HX.out.put hk ha (fun k hk=>(HB.out.own k hk).1) HG.out);clear HX hk ha HB HY HG;have HX:=n0_;clear n0_)
       go_roundw
       case rel=>exact ⟨i+1,_,_,by go_num,⟨by have:=HLT.out;omega,by have:=H30.out;omega,by have:=H30.out;omega,HX.out.k,HX.out.bel,HX.out.zr⟩⟩
       case measure=>simp only[intOf];have:=HLT.out;first|omega|(go_num;omega)|(simp;omega)
    ·have hi2:¬((i:Int)<30):=by omega
     have HN:Aside0 (n≤300):=⟨by have:=HQ.out.2.1;have:=HQ.out.2.2.1;omega⟩
     go_wp2_with (go_at_call 78; refine (HWH.out _ _ _ HQ.out.2.2.2.1 (by have := HN.out; omega)).mono ?_; rintro e wz ⟨rfl, hbz, hsz⟩; have HZ : Aside0 (Below W.heap.size W wz) := ⟨by
       have hb:=HQ.out.2.2.2.2.1;exact ⟨hbz.os.trans hb.os,hbz.tape.trans hb.tape,hbz.output.trans hb.output,Nat.le_trans hb.size hbz.size,fun k hk=>(hsz k (Nat.lt_of_lt_of_le hk hb.size) (HQ.out.2.2.2.2.2 k hk)).trans (hb.block k hk)⟩⟩;clear hbz hsz)
     go_ret
     exact ⟨rfl,HZ.out⟩
   ·have hi1:¬((i:Int)<(l.length:Int)):=by omega
    have HN:Aside0 (n≤300):=⟨by have:=HQ.out.2.1;have:=HQ.out.2.2.1;omega⟩
    go_wp2_with (go_at_call 78; refine (HWH.out _ _ _ HQ.out.2.2.2.1 (by have := HN.out; omega)).mono ?_; rintro e wz ⟨rfl, hbz, hsz⟩; have HZ : Aside0 (Below W.heap.size W wz) := ⟨by
      have hb:=HQ.out.2.2.2.2.1;exact ⟨hbz.os.trans hb.os,hbz.tape.trans hb.tape,hbz.output.trans hb.output,Nat.le_trans hb.size hbz.size,fun k hk=>(hsz k (Nat.lt_of_lt_of_le hk hb.size) (HQ.out.2.2.2.2.2 k hk)).trans (hb.block k hk)⟩⟩;clear hbz hsz)
    go_ret
    exact ⟨rfl,HZ.out⟩
end Go.Proofs.Ytpgdmmjbhjbbhaa.Kp
end
section
namespace Go.Proofs.Ytpgdmmjbhjbbhaa.Kp
open Go Go.RowKit P Lw Ow YtpgdmmjbhjbbhaaW.PrintWords YtpgdmmjbhjbbhaaW.PrintLast YtpgdmmjbhjbbhaaW.PrintMore Ks Kr Pn Lt
theorem lateW_calls {kb:Nat} {ρ:Nat→Nat} {n:Nat} {w:World} (h:KL kb ρ n w) (hn:n≤2000000):
  Calls Try.prog 78 #[.pointer (some ⟨kb,0,none⟩)] w fun e w'=>e = .returned (.bool true)∧Below 0 w w'∧∀ k,k<w.heap.size→ρ k=0→w'.heap[k]?=w.heap[k]?:=by
 have HK:=Aside0.mk h;have HN:=Aside0.mk hn
 have q0:w.cell? ⟨kb,0,none⟩=some (.bool true):=by
  obtain ⟨vI,vW,vR,vX,E,EW,ER,EX,XI,YI,h⟩:=h;rw[cell_of_row w kb 0 _ _ (0,0) h.blk];rfl
 clear h hn;go_enter Try.func78,Try.ntmps78
 go_wp2_with fail
 refine (lately_calls HK.out HN.out).mono ?_;rintro e wz ⟨rfl,hz⟩;have HZ:=Aside0.mk hz;clear hz q0;go_wp2_with fail
 go_ret
 exact ⟨rfl,HZ.out⟩
theorem keep_newL (w:World):KL w.heap.size (labT w.heap.size) 0 (w.alloc (.cells #[.bool true,.slice none 0 0,.slice none 0 0,.slice none 0 0,.slice none 0 0,.slice none 0 0,.slice none 0 0] 61)):=by
 refine ⟨.slice none 0 0,.slice none 0 0,.slice none 0 0,.slice none 0 0,[],[],[],[],[],[],⟨heap_alloc_new w _,if_pos rfl,fun k h=>?_,RowR.nil _ _ _ _ _,RowR.nil _ _ _ _ _,RowR.nil _ _ _ _ _,RowR.nil _ _ _ _ _,fun x h=>by simp at h,fun x h=>by simp at h,fun x h=>by simp at h,fun x h=>by simp at h,conts_nil _,conts_nil _,conts_nil _,conts_nil _,List.Pairwise.nil,List.Pairwise.nil,fun l h=>by simp at h,fun l h=>by simp at h,by simp,by simp⟩⟩;by_cases e:k=w.heap.size
 ·simp;omega
 ·exact absurd (if_neg e) h
theorem labT_lt {tb k:Nat} (h:k<tb):labT tb k=0:=if_neg (by omega)
theorem kept_walk (w:World) (A:Option Addr) (c:Nat) (l:List Ac) (hl:AcIn w A c l):
  Calls Try.prog 8 #[.slice A l.length c] w fun e w'=>e = .returned (.bool true)∧Below w.heap.size w w':=by
 have HL:=Aside0.mk hl;clear hl;go_enter Try.func8,Try.ntmps8
 go_wp2_with (first
  | (go_at_call 12;refine (able_calls _).mono ?_;rintro e wa ⟨rfl,hb⟩;have HB:=Aside0.mk hb;have HKN:=Aside0.mk (keep_newT wa);clear hb)
  | (go_at_call 25;(with_reducible refine (kept_calls (keeperN wa.heap.size) (fun h hn=>(whole_calls h (by omega)).mono fun e w' h2=>⟨h2.1,h2.2.mono (Nat.zero_le _),fun k hk _=>h2.2.block k hk⟩) w _ A c l HL.out (labT wa.heap.size) HKN.out (HB.out.alloc HB.out.size _) (fun k hk=>labT_lt (Nat.lt_of_lt_of_le hk HB.out.size))).mono ?_);rintro e wb ⟨rfl,hb⟩;have HBB:=Aside0.mk hb;have HKL:=Aside0.mk (keep_newL wb);clear hb)
  | (go_at_call 25;(with_reducible refine (kept_calls (keeperL wb.heap.size) (fun h hn=>lateW_calls h hn) w _ A c l HL.out (labT wb.heap.size) HKL.out (HBB.out.alloc HBB.out.size _) (fun k hk=>labT_lt (Nat.lt_of_lt_of_le hk HBB.out.size))).mono ?_);rintro e wd ⟨rfl,hb⟩;have HBD:=Aside0.mk hb;clear hb))
 go_ret
 exact ⟨rfl,HBD.out⟩
end Go.Proofs.Ytpgdmmjbhjbbhaa.Kp
end
