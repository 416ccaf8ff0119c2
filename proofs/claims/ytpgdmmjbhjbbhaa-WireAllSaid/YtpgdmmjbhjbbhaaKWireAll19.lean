/- texts that the proof needs, laid together by a program of this session. -/
import Derived.Test.YtpgdmmjbhjbbhaaKWireAll18
set_option maxRecDepth 100000
set_option maxHeartbeats 16000000
set_option linter.unusedVariables false
set_option linter.unusedSimpArgs false
section
namespace Go.Proofs.Ytpgdmmjbhjbbhaa.Ow
open Go Go.ChangeShapes Go.WideShapes Go.ChangeAt Go.RowKit P Sp Vd En Wr Rd Lw YtpgdmmjbhjbbhaaW.PrintWords
structure Ac where
 kind:Int
 m:Msg
 Am:Option Addr
 cm:Nat
 s:Seg
 As:Option Addr
 cs:Nat
 c:S25
 o:Sp.Op
 r:Rep
 b:List Int
 Ab:Option Addr
 cb:Nat
def acL (a:Ac):List Value:=[.int .i64 a.kind]++((MVc a.m a.Am a.cm).toList++((SVc a.s a.As a.cs).toList++([.int .i64 a.c.f0,.int .i64 a.c.f1]++([.int .i64 a.o.kind,.string a.o.name,.int .i64 a.o.a,.int .i64 a.o.b]++((RVc a.r).toList++[.slice a.Ab a.b.length a.cb])))))
structure AIn (w:World) (a:Ac):Prop where
 mi:isI a.m.op.a∧isI a.m.op.b
 mv:Kd.C k87 w a.Am a.m.views.length a.m.views∧a.m.views.length≤a.cm∧a.m.views.length * 64≤140737488351232
 si:In w a.As a.cs a.s.data∧a.s.data.length≤140737488351232
 oi:isI a.o.a∧isI a.o.b
 ri:isI a.r.value
 bi:In w a.Ab a.cb a.b∧a.b.length≤140737488351232
def AcIn (w:World) (A:Option Addr) (c:Nat) (l:List Ac):Prop:=l.length≤c∧l.length≤140737488351232∧∀ (j:Nat) (a:Ac),l[j]?=some a→AIn w a∧∃ ad,A=some ad∧∀ i v,(acL a)[i]?=some v→w.cell? ((ad.add (j * 37)).add i)=some v
section
variable {H:Type} {enc:TypeId×Value→H} {w:World} {spare:Nat→Bool} {held:Bool}
theorem cut37 {cs:List Value} (h:cs.length=37):cs=cs.take 1++((cs.drop 1).take 20++((cs.drop 21).take 5++((cs.drop 26).take 2++((cs.drop 28).take 4++((cs.drop 32).take 4++(cs.drop 36).take 1))))):=by
 have e:∀ (n m:Nat) (l:List Value),l.drop n=(l.drop n).take m++l.drop (n+m):=fun n m l=>by rw[←List.drop_drop,List.take_append_drop]
 have e0:cs=cs.take 1++cs.drop 1:=(List.take_append_drop 1 cs).symm;have e7:(cs.drop 36).take 1=cs.drop 36:=List.take_of_length_le (by simp;omega);rw[e7,←e 32 4 cs,←e 28 4 cs,←e 26 2 cs,←e 21 5 cs,←e 1 20 cs,←e0]
theorem Act_open {fuel:Nat} {cs:List Value} {x:DataW H×List MemPlace} (h:DataW.trod enc Try.prog w 0 spare held fuel 64 cs=some x) (hfit:Fit 64 x.1):∃ a:Ac,cs=acL a∧AIn w a:=by
 obtain ⟨ys,n,_,hx,hcl,hyl,hf⟩:=DataW.trod_struct Try.underlying64 h;have hcl2:cs.length=37:=hcl.trans (by kernel_rfl);have hyl2:ys.length=7:=hyl;have eint:Try.prog.cellsOf 3=1:=by kernel_rfl
 have em:Try.prog.cellsOf 33=20:=by kernel_rfl
 have es:Try.prog.cellsOf 47=5:=by kernel_rfl
 have ec:Try.prog.cellsOf 27=2:=by kernel_rfl
 have eo:Try.prog.cellsOf 29=4:=by kernel_rfl
 have er:Try.prog.cellsOf 50=4:=by kernel_rfl
 have eb:Try.prog.cellsOf 36=1:=by kernel_rfl
 match ys,hyl2 with
 | [y0,y1,y2,y3,y4,y5,y6],_=>
  rw[hx] at hfit;have g0:DataW.trod enc Try.prog w 0 spare held n 3 (List.take (Try.prog.cellsOf 3) (List.drop 0 cs))=some y0:=hf 0 _ rfl;have g1:DataW.trod enc Try.prog w 0 spare held n 33 (List.take (Try.prog.cellsOf 33) (List.drop 1 cs))=some y1:=hf 1 _ rfl;have g2:DataW.trod enc Try.prog w 0 spare held n 47 (List.take (Try.prog.cellsOf 47) (List.drop 21 cs))=some y2:=hf 2 _ rfl;have g3:DataW.trod enc Try.prog w 0 spare held n 27 (List.take (Try.prog.cellsOf 27) (List.drop 26 cs))=some y3:=hf 3 _ rfl;have g4:DataW.trod enc Try.prog w 0 spare held n 29 (List.take (Try.prog.cellsOf 29) (List.drop 28 cs))=some y4:=hf 4 _ rfl;have g5:DataW.trod enc Try.prog w 0 spare held n 50 (List.take (Try.prog.cellsOf 50) (List.drop 32 cs))=some y5:=hf 5 _ rfl;have g6:DataW.trod enc Try.prog w 0 spare held n 36 (List.take (Try.prog.cellsOf 36) (List.drop 36 cs))=some y6:=hf 6 _ rfl;rw[eint] at g0;rw[em] at g1;rw[es] at g2;rw[ec] at g3;rw[eo] at g4;rw[er] at g5;rw[eb] at g6;obtain ⟨k,q0,_⟩:=int_open Try.underlying3 g0;obtain ⟨m,Am,cm,q1,f1⟩:=Msg_open g1 (fit_field Try.underlying64 hfit 1 rfl rfl);obtain ⟨s,As,c2,q2,f2⟩:=Seg_open g2 (fit_field Try.underlying64 hfit 2 rfl rfl);obtain ⟨c,q3⟩:=Call_open g3;obtain ⟨o,q4,f4⟩:=Op_open g4;obtain ⟨r,q5,f5⟩:=Rep_open g5;obtain ⟨Ab,cb,b,q6,f6⟩:=bytes_open g6 (fit_field Try.underlying64 hfit 6 rfl rfl);refine ⟨⟨k,m,Am,cm,s,As,c2,c,o,r,b,Ab,cb⟩,?_,⟨f1.1,⟨f1.2.2.2.1,f1.2.2.2.2.1,f1.2.2.2.2.2.1⟩,f2,⟨f4.2.1,f4.2.2⟩,f5.2,f6⟩⟩;rw[List.drop_zero] at q0;rw[cut37 hcl2,q0,q1,q2,q3,q4,q5,q6];rfl
theorem Acts_open {fuel:Nat} {cs:List Value} {x:DataW H×List MemPlace} (h:DataW.trod enc Try.prog w 0 spare held fuel 54 cs=some x) (hfit:Fit 54 x.1):
  ∃ (A:Option Addr) (c:Nat) (xs:List Ac),cs=[.slice A xs.length c]∧AcIn w A c xs:=by
 rcases Go.Deep.open_slice Try.underlying54 h with ⟨hcs,_⟩|⟨ad,l,c,m,n,D,Pl,hcs,_,hl,hm,hmm,hx,hi⟩
 ·exact ⟨none,0,[],hcs,Nat.le_refl _,by simp,fun j a hj=>by simp at hj⟩
 ·have hlm:l≤m:=by rw[hmm];split<;>omega
  have e37:Try.prog.cellsOf 64=37:=by kernel_rfl
  rw[hx] at hfit;have hfs:=fit_slice Try.underlying54 hfit
  have hone : ∀ i : Nat, i < l → ∃ a : Ac, w.cells? 0 (ad.add (i * 37)) 37 = some (acL a) ∧ AIn w a := fun i hlt => by
    obtain ⟨cs',hc,ht⟩:=hi i (by omega);rw[e37] at hc;obtain ⟨a,rfl,hv⟩:=Act_open ht (hfs.2 _ (List.mem_map.2 ⟨i,List.mem_range.2 hlt,rfl⟩));exact ⟨a,hc,hv⟩
  have hlen:((List.range l).attach.map fun i=>(hone i.1 (List.mem_range.1 i.2)).choose).length=l:=by simp
  have hb:=hfs.1;rw[show Try.prog.bytesOf 64=368 by kernel_rfl] at hb;simp only[List.length_map,List.length_range] at hb;refine ⟨some ad,c,(List.range l).attach.map fun i=>(hone i.1 (List.mem_range.1 i.2)).choose,by rw[hlen];exact hcs,by rw[hlen];exact hl,by rw[hlen];omega,fun j a hj=>?_⟩;have hjl:j<l:=by have:=(List.getElem?_eq_some_iff.1 hj).1;simpa using this
  simp only[List.getElem?_map,List.getElem?_attach,List.getElem?_range hjl,Option.pmap_some,Option.map_some,Option.some.injEq] at hj;obtain ⟨hc,ha⟩:=(hone j hjl).choose_spec;rw[hj] at hc ha;refine ⟨ha,ad,rfl,fun i u hu=>?_⟩;obtain ⟨_,_,hat⟩:=World.cells?_some hc;have hi7:i<37:=(List.getElem?_eq_some_iff.1 hu).1;exact (hat i hi7).trans hu
end
end Go.Proofs.Ytpgdmmjbhjbbhaa.Ow
end
section
namespace Go.Proofs.Ytpgdmmjbhjbbhaa.Lw
open Go Go.RowKit P Sp Vd En Wr Rd Ow YtpgdmmjbhjbbhaaW.PrintWords YtpgdmmjbhjbbhaaW.PrintLast YtpgdmmjbhjbbhaaW.PrintMore
theorem load_any {P : Program} {ops : Array Oper} {rest : List Oper} {op : Oper} {a : Act} {w : World} {Q : Exit → Act → World → Prop} (hgd : op.guard = none) (ty : TypeId) (x : Operand) (ho : op.op = .load ty x)
    (ad:Addr) (hx:a.eval x = .pointer (some ad)) (cs:Array Value) (d:TypeDesc) (hc:∀ (j:Nat) (v:Value),cs.toList[j]?=some v→w.cell? (ad.add j)=some v)
    (hu:P.underlying ty=some d) (hd:(match d with | .struct _ | .array _ _=>true|_=>false)=true) (hi:(P.info? ty).map (·.size)=some cs.size)
    (h:wpList P ops Q rest (a.put op.dst (.agg cs)) w):wpList P ops Q (op::rest) a w:=by
  refine wpList_plain hgd fun K hK=>?_;have hl:(loadCells ad cs.toList.length).run P w = .ok cs.toList.toArray w:=run_loadCells_list (P:=P) w ad cs.toList hc
  have hrun:(loadVar ty ad).run P w = .ok (.agg cs) w:=by
   cases hq:P.info? ty with
   | none=>simp[hq] at hi
   | some i=>
    have hs:i.size=cs.size:=by simpa [hq] using hi
    have hagg:(isAgg ty).run P w = .ok true w:=by
     unfold isAgg;rw[Sem.run_bind,run_underlying hu w];cases d<;>simp_all
    simp only[Array.length_toList,Array.toArray_toList] at hl;simp[loadVar,Sem.run_bind,hagg,sizeOf,typeInfo,hq,hs,hl]
  unfold Oper.wp execOp;simp only[ho,hx,Instr.loadAt,Instr.sureAddr,Sem.run_bind,Sem.run_pure,Result.andThen_ok,hrun];exact hK _ _ h
theorem inf64:(Try.prog.info? 64).map (·.size)=some 37:=by kernel_rfl
def acA (a:Ac):Array Value:=(acL a).toArray
theorem ac_one (a:Ac):(acA a).all (·.oneCell')=true:=by simp[acA,acL,MVc,SVc,RVc,Value.oneCell']
theorem ac_part {w:World} {g:Nat} {a:Ac} (h:w.heap[g]?=some (.cells (acA a) 64 (0,0))) (p q r:List Value) (hs:acL a=p++(q++r)) (n:Nat) (hn:n=p.length) (j:Nat) (v:Value) (hj:q[j]?=some v):w.cell? ((⟨g,n,none⟩:Addr).add j)=some v:=by
 subst hn;have hadd:(⟨g,p.length,none⟩:Addr).add j=⟨g,p.length+j,none⟩:=by unfold Addr.add;split<;>simp_all
 have hjl:j<q.length:=(List.getElem?_eq_some_iff.1 hj).1;rw[hadd,cell_of_row w g _ _ _ (0,0) h]
 show (acL a).toArray[p.length+j]?=some v
 rw[List.getElem?_toArray,hs,List.getElem?_append_right (by omega),Nat.add_sub_cancel_left,List.getElem?_append_left hjl];exact hj
theorem cell_bel {w w1:World} {ad:Addr} {v:Value} (hb:Below w.heap.size w w1) (h:w.cell? ad=some v):w1.cell? ad=some v:=by
 have:=hb.block ad.block (World.block_lt_of_cell? w ad h)
 simpa [World.cell?,this] using h
theorem ain_below {w w1:World} {a:Ac} (h:AIn w a) (k:Below w.heap.size w w1):AIn w1 a:=
 ⟨h.mi,⟨Kd.C_below h.mv.1 k,h.mv.2⟩,⟨In.below h.si.1 k,h.si.2⟩,h.oi,h.ri,⟨In.below h.bi.1 k,h.bi.2⟩⟩
theorem all_walk (w : World) (A : Option Addr) (c : Nat) (l : List Ac) (hl : AcIn w A c l) :
    Calls Try.prog 9 #[.slice A l.length c] w fun e w'=>e = .returned (.bool true)∧Below w.heap.size w w':=by
  have HL:=Aside0.mk hl;have hlI:(l.length:Int)≤9223372036854775806:=by have:=hl.2.1;omega
  have hl0:(0:Int)≤(l.length:Int):=by omega
  clear hl;have hu64:=Try.underlying64;have hu33:=Try.underlying33;have hu47:=Try.underlying47;have hu27:=Try.underlying27;have hu29:=Try.underlying29;have hu50:=Try.underlying50;go_enter Try.func9,Try.ntmps9
  go_upto_region 3 with (go_at_call 12;refine (able_calls _).mono ?_;rintro e w1 ⟨rfl,hb⟩;have H1:=Aside0.mk hb;clear hb)
  go_wp2_with fail
  go_loopw [3] (fun v3 wr=>∃ (i:Nat),v3 = .int .i64 (i:Int)∧Aside0 (i≤l.length∧Below w.heap.size w wr)) (fun v3 _=>l.length - (intOf v3).toNat)
  case atStart=>exact ⟨0,rfl,⟨Nat.zero_le _,H1.out⟩⟩
  case round=>
   obtain ⟨i,rfl,HQ⟩:=hrel;by_cases hlt:i<l.length
   ·have hi0:(0:Int)≤(i:Int):=by omega
    have hi1:(i:Int)<(l.length:Int):=by omega
    have HLT:=Aside0.mk hlt;obtain ⟨a,ha⟩:∃ a,l[i]?=some a:=⟨_,List.getElem?_eq_getElem hlt⟩;obtain ⟨hin,ad,hA,hcc⟩:=HL.out.2.2 i a ha;have HA:=Aside0.mk (ain_below hin HQ.out.2);have HC:Aside0 (∀ (j:Nat) (v:Value),(acA a).toList[j]?=some v→wr.cell? ((ad.add (i * 37)).add j)=some v):=⟨fun j v hv=>cell_bel HQ.out.2 (hcc j v hv)⟩;subst hA;clear hin hcc ha
    go_upto_region 7 with (first
     | ((with_reducible refine gate_dst (N:=17) rfl ?_);refine load_any rfl 64 (.tmp 16) (by rfl) (ad.add (i * 37)) (by rfl) (acA a) _ HC.out hu64 rfl inf64 ?_)
     | (refine wpList_store_row rfl 64 (.tmp 4) (.tmp 17) rfl wr.heap.size (acA a) (by rfl) (by rfl) 64 _ (heap_alloc_new wr _) inf64 rfl (ac_one a) ?_))
    obtain ⟨w2,hw2⟩:∃ w2,w2=(wr.alloc (.cells #[.int .i64 0,.int .i64 0,.string ⟨#[]⟩,.int .i64 0,.int .i64 0,.int .i64 0,.int .i64 0,.int .i64 0,.int .i64 0,.int .i64 0,.int .i64 0,.int .i64 0,.int .i64 0,.int .i64 0,.int .i64 0,.string ⟨#[]⟩,.int .i64 0,.int .i64 0,.int .i64 0,.int .i64 0,.slice none 0 0,.int .i64 0,.int .i64 0,.int .i64 0,.int .i64 0,.slice none 0 0,.int .i64 0,.int .i64 0,.int .i64 0,.string ⟨#[]⟩,.int .i64 0,.int .i64 0,.int .i64 0,.int .i64 0,.int .i64 0,.int .i64 0,.slice none 0 0] 64 (0,0))).setRow wr.heap.size (acA a):=⟨_,rfl⟩;have HW2:=Aside0.mk hw2;have HG0:Aside0 (Below wr.heap.size wr w2∧w2.heap[wr.heap.size]?=some (.cells (acA a) 64 (0,0))):=⟨by rw[hw2];exact ⟨below_setRow (al_below _ _) (Nat.le_refl _) _,setRow_blk (heap_alloc_new wr _) _⟩⟩;rw[←HW2.out];clear hw2 HW2 HC;have HG:Aside0 (Below w.heap.size w w2∧w2.heap[wr.heap.size]?=some (.cells (acA a) 64 (0,0))):=⟨below_step HQ.out.2 HG0.out.1,HG0.out.2⟩;have HA2:=Aside0.mk (ain_below HA.out HG0.out.1);have kk:w2.cell? ⟨wr.heap.size,0,none⟩=some (.int .i64 a.kind):=(blk_cell HG.out.2 0).trans rfl;have kb:w2.cell? ⟨wr.heap.size,36,none⟩=some (.slice a.Ab a.b.length a.cb):=(blk_cell HG.out.2 36).trans rfl;clear HG0 HA HQ;by_cases q1:a.kind=1
    ·have t1:(a.kind == 1)=true:=by simp[q1]
     clear q1
     go_wp2_with (first
      | ((with_reducible refine gate_dst (N:=23) rfl ?_);refine load_any rfl 33 (.tmp 22) (by rfl) ⟨wr.heap.size,1,none⟩ (by rfl) (MVc a.m a.Am a.cm) _ (fun j v hv=>ac_part HG.out.2 ([.int .i64 a.kind]) ((MVc a.m a.Am a.cm).toList) ((SVc a.s a.As a.cs).toList++([.int .i64 a.c.f0,.int .i64 a.c.f1]++([.int .i64 a.o.kind,.string a.o.name,.int .i64 a.o.a,.int .i64 a.o.b]++((RVc a.r).toList++([.slice a.Ab a.b.length a.cb]))))) rfl 1 rfl j v hv) hu33 rfl inf33 ?_)
      | (go_at_call 13;refine (encodes_calls _ a.m a.Am a.cm HA2.out.mi HA2.out.mv.1 HA2.out.mv.2.1 HA2.out.mv.2.2).mono ?_;rintro e w3 ⟨rfl,hb⟩;have HE:=Aside0.mk (below_step HG.out.1 hb);clear hb))
     go_roundw
     case rel=>exact ⟨i+1,by go_num,⟨by have:=HLT.out;omega,HE.out⟩⟩
     case measure=>simp only[intOf];have:=HLT.out;first|omega|(go_num;omega)|(simp;omega)
    have t1:(a.kind == 1)=false:=by simp[q1]
    clear q1;by_cases q2:a.kind=2
    ·have t2:(a.kind == 2)=true:=by simp[q2]
     clear q2
     go_wp2_with (first
      | (go_at_call 14;refine (decodes_calls _ a.Ab a.cb a.b HA2.out.bi.1 HA2.out.bi.2).mono ?_;rintro e w3 ⟨rfl,hb⟩;have HE:=Aside0.mk (below_step HG.out.1 hb);clear hb))
     go_roundw
     case rel=>exact ⟨i+1,by go_num,⟨by have:=HLT.out;omega,HE.out⟩⟩
     case measure=>simp only[intOf];have:=HLT.out;first|omega|(go_num;omega)|(simp;omega)
    have t2:(a.kind == 2)=false:=by simp[q2]
    clear q2;by_cases q3:a.kind=3
    ·have t3:(a.kind == 3)=true:=by simp[q3]
     clear q3
     go_wp2_with (first
      | ((with_reducible refine gate_dst (N:=33) rfl ?_);refine load_any rfl 47 (.tmp 32) (by rfl) ⟨wr.heap.size,21,none⟩ (by rfl) (SVc a.s a.As a.cs) _ (fun j v hv=>ac_part HG.out.2 ([.int .i64 a.kind]++(MVc a.m a.Am a.cm).toList) ((SVc a.s a.As a.cs).toList) ([.int .i64 a.c.f0,.int .i64 a.c.f1]++([.int .i64 a.o.kind,.string a.o.name,.int .i64 a.o.a,.int .i64 a.o.b]++((RVc a.r).toList++([.slice a.Ab a.b.length a.cb])))) rfl 21 rfl j v hv) hu47 rfl inf47 ?_)
      | (go_at_call 22;refine (segments_calls _ a.s a.As a.cs a.Ab a.cb a.b HA2.out.si.1 HA2.out.si.2 HA2.out.bi.1 HA2.out.bi.2).mono ?_;rintro e w3 ⟨rfl,hb⟩;have HE:=Aside0.mk (below_step HG.out.1 hb);clear hb))
     go_roundw
     case rel=>exact ⟨i+1,by go_num,⟨by have:=HLT.out;omega,HE.out⟩⟩
     case measure=>simp only[intOf];have:=HLT.out;first|omega|(go_num;omega)|(simp;omega)
    have t3:(a.kind == 3)=false:=by simp[q3]
    clear q3;by_cases q4:a.kind=4
    ·have t4:(a.kind == 4)=true:=by simp[q4]
     clear q4
     go_wp2_with (first
      | ((with_reducible refine gate_dst (N:=40) rfl ?_);refine load_any rfl 27 (.tmp 39) (by rfl) ⟨wr.heap.size,26,none⟩ (by rfl) #[.int .i64 a.c.f0,.int .i64 a.c.f1] _ (fun j v hv=>ac_part HG.out.2 ([.int .i64 a.kind]++(MVc a.m a.Am a.cm).toList++(SVc a.s a.As a.cs).toList) ([.int .i64 a.c.f0,.int .i64 a.c.f1]) ([.int .i64 a.o.kind,.string a.o.name,.int .i64 a.o.a,.int .i64 a.o.b]++((RVc a.r).toList++([.slice a.Ab a.b.length a.cb]))) rfl 26 rfl j v hv) hu27 rfl inf27 ?_)
      | ((with_reducible refine gate_dst (N:=42) rfl ?_);refine load_any rfl 29 (.tmp 41) (by rfl) ⟨wr.heap.size,28,none⟩ (by rfl) #[.int .i64 a.o.kind,.string a.o.name,.int .i64 a.o.a,.int .i64 a.o.b] _ (fun j v hv=>ac_part HG.out.2 ([.int .i64 a.kind]++(MVc a.m a.Am a.cm).toList++(SVc a.s a.As a.cs).toList++[.int .i64 a.c.f0,.int .i64 a.c.f1]) ([.int .i64 a.o.kind,.string a.o.name,.int .i64 a.o.a,.int .i64 a.o.b]) ((RVc a.r).toList++([.slice a.Ab a.b.length a.cb])) rfl 28 rfl j v hv) hu29 rfl inf29 ?_)
      | (go_at_call 23;refine (requests_calls _ a.c a.o a.Ab a.cb a.b HA2.out.oi HA2.out.bi.1 HA2.out.bi.2).mono ?_;rintro e w3 ⟨rfl,hb⟩;have HE:=Aside0.mk (below_step HG.out.1 hb);clear hb))
     go_roundw
     case rel=>exact ⟨i+1,by go_num,⟨by have:=HLT.out;omega,HE.out⟩⟩
     case measure=>simp only[intOf];have:=HLT.out;first|omega|(go_num;omega)|(simp;omega)
    have t4:(a.kind == 4)=false:=by simp[q4]
    clear q4;by_cases q5:a.kind=5
    ·have t5:(a.kind == 5)=true:=by simp[q5]
     clear q5
     go_wp2_with (first
      | ((with_reducible refine gate_dst (N:=49) rfl ?_);refine load_any rfl 50 (.tmp 48) (by rfl) ⟨wr.heap.size,32,none⟩ (by rfl) (RVc a.r) _ (fun j v hv=>ac_part HG.out.2 ([.int .i64 a.kind]++(MVc a.m a.Am a.cm).toList++(SVc a.s a.As a.cs).toList++[.int .i64 a.c.f0,.int .i64 a.c.f1]++[.int .i64 a.o.kind,.string a.o.name,.int .i64 a.o.a,.int .i64 a.o.b]) ((RVc a.r).toList) ([.slice a.Ab a.b.length a.cb]) rfl 32 rfl j v hv) hu50 rfl inf50 ?_)
      | (go_at_call 24;refine (replies_calls _ a.r a.Ab a.cb a.b HA2.out.ri HA2.out.bi.1 HA2.out.bi.2).mono ?_;rintro e w3 ⟨rfl,hb⟩;have HE:=Aside0.mk (below_step HG.out.1 hb);clear hb))
     go_roundw
     case rel=>exact ⟨i+1,by go_num,⟨by have:=HLT.out;omega,HE.out⟩⟩
     case measure=>simp only[intOf];have:=HLT.out;first|omega|(go_num;omega)|(simp;omega)
    have t5:(a.kind == 5)=false:=by simp[q5]
    clear q5;have HE:=Aside0.mk HG.out.1;go_wp2_with fail
    go_roundw
    case rel=>exact ⟨i+1,by go_num,⟨by have:=HLT.out;omega,HE.out⟩⟩
    case measure=>simp only[intOf];have:=HLT.out;first|omega|(go_num;omega)|(simp;omega)
   ·have hi1:¬((i:Int)<(l.length:Int)):=by omega
    go_wp2_with fail
    go_ret
    exact ⟨rfl,HQ.out.2⟩
end Go.Proofs.Ytpgdmmjbhjbbhaa.Lw
end
