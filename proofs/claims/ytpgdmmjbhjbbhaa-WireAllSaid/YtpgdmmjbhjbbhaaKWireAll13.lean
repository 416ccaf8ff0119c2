/- texts that the proof needs, laid together by a program of this session. -/
import Derived.WalkKit
import Derived.ProofKit
import Derived.OpenShut
import Derived.ShutString
import Derived.ChangeOld
import Derived.Below
import Derived.SizedLaws
import Derived.Deep.Slices
import Derived.Test.YtpgdmmjbhjbbhaaKWireAll12
set_option maxRecDepth 100000
set_option maxHeartbeats 16000000
set_option linter.unusedVariables false
set_option linter.unusedSimpArgs false
section
namespace Go.Proofs.Ytpgdmmjbhjbbhaa.Ow
open Go Go.ChangeShapes Go.WideShapes Go.ChangeAt Go.RowKit P Sp Vd En Wr Rd Lw YtpgdmmjbhjbbhaaW.PrintWords
def Fit {H:Type} (t:TypeId) (d:DataW H):Prop:=∀ n ∈ d.weights Try.prog t,n≤140737488351232
theorem fit_all {H:Type} {ts:List TypeId} {ds:List (DataW H)} (h:(DataW.weightsEach Try.prog ts ds).all (· ≤ reachBytes)=true) {j:Nat} {t:TypeId} {d:DataW H} (ht:ts[j]?=some t) (hd:ds[j]?=some d):Fit t d:=fun n hn=>by
 have:=List.all_eq_true.1 h _ (DataW.weights_mem_each ht hd n hn);exact of_decide_eq_true this
theorem fit_field {H:Type} {t tj:TypeId} {fs:Array Field} {parts:List (DataW H)} {d:DataW H} (hu:Try.prog.underlying t=some (.struct fs)) (h:Fit t (.agg parts)) (j:Nat) (ht:(fs.toList.map (·.type))[j]?=some tj) (hd:parts[j]?=some d):Fit tj d:=fun n hn=>
 h n (by simp only[DataW.weights,hu];exact DataW.weights_mem_each ht hd n hn)
theorem weights_all {H:Type} {e:TypeId}:∀ {l:List (DataW H)} {d:DataW H},d ∈ l → ∀ n ∈ d.weights Try.prog e,n ∈ DataW.weightsAll Try.prog e l
 | x :: r, d, h, n, hn => by
   simp only[DataW.weightsAll,List.mem_append];rcases List.mem_cons.1 h with rfl|h
   ·exact .inl hn
   ·exact .inr (weights_all h n hn)
 | [],_,h,_,_=>by cases h
theorem fit_slice {H:Type} {t e:TypeId} {elems spare:List (DataW H)} (hu:Try.prog.underlying t=some (.slice e)) (h:Fit t (.slice elems spare)):(elems.length+spare.length) * Try.prog.bytesOf e≤140737488351232∧∀ d ∈ elems,Fit e d:=
 ⟨h _ (by simp[DataW.weights,hu]),fun d hd n hn=>h n (by simp only[DataW.weights,hu,List.mem_cons,List.mem_append];exact .inr (.inl (weights_all hd n hn)))⟩
theorem fits {k:IntKind} {a0:Int} (w0:(Lit.int .i64 a0).wf=true):isI a0:=by simpa [isI,Lit.wf,IntKind.min,IntKind.max,IntKind.signed,IntKind.bits] using w0
section
variable {H:Type} {enc:TypeId×Value→H} {w:World} {spare:Nat→Bool} {held:Bool}
theorem int_open {t:TypeId} {fuel:Nat} {cs:List Value} {x:DataW H×List MemPlace} (ht:Try.prog.underlying t=some (.int .i64)) (h:DataW.trod enc Try.prog w 0 spare held fuel t cs=some x):∃ n,cs=[.int .i64 n]∧isI n:=by
 obtain ⟨n,g,_,hw⟩:=DataW.trod_int ht h;exact ⟨n,g,fits (k := .i64) hw⟩
theorem str_open {t:TypeId} {fuel:Nat} {cs:List Value} {x:DataW H×List MemPlace} (ht:Try.prog.underlying t=some .string) (h:DataW.trod enc Try.prog w 0 spare held fuel t cs=some x):∃ s,cs=[.string s]:=by
 obtain ⟨s,g,_⟩:=DataW.trod_string ht h;exact ⟨s,g⟩
theorem isB_wf {l:List Int} (h:∀ n ∈ l,(Lit.int .u8 n).wf=true):IsB l:=fun n hn=>by
 have:=h n hn;simp[Lit.wf,IntKind.min,IntKind.max,IntKind.signed,IntKind.bits] at this;omega
theorem bytes_open {fuel:Nat} {cs:List Value} {x:DataW H×List MemPlace} (h:DataW.trod enc Try.prog w 0 spare held fuel 36 cs=some x) (hf:Fit 36 x.1):
  ∃ (A:Option Addr) (c:Nat) (xs:List Int),cs=[.slice A xs.length c]∧In w A c xs∧xs.length≤140737488351232:=by
 obtain ⟨v,rfl⟩:∃ v,cs=[v]:=by
  rcases DataW.trod_slice Try.underlying36 h with ⟨g,_⟩|⟨a,l,c,_,_,_,_,g,_⟩
  ·exact ⟨_,g⟩
  ·exact ⟨_,g⟩
 rcases open_ints Try.underlying36 Try.underlying5 (by kernel_rfl) h with ⟨hcs,_⟩|⟨a,l,c,zs,hcs,_,hl,hm,hz,hy,hcell,hwz⟩
 ·obtain rfl:v = .slice none 0 0:=by simpa using hcs
  exact ⟨none,0,[],rfl,In_nil _,by simp⟩
 ·obtain rfl:v = .slice (some a) l c:=by simpa using hcs
  have hlz:l≤zs.length:=by rw[hz];split<;>omega
  have hlen:(zs.take l).length=l:=by rw[List.length_take];omega
  refine ⟨some a,c,zs.take l,by rw[hlen],⟨Kd.C_of_reads (d:=(0:Int)) (h1:=fun _=>rfl) ⟨rfl,by simp only[maxLen] at hm;omega,fun _=>⟨a,rfl,fun j hj=>?_⟩⟩,isB_wf (fun n hn=>hwz n (List.mem_of_mem_take hn)),by omega⟩,?_⟩
  ·rw[hcell j (by omega),List.getD_eq_getElem?_getD,List.getD_eq_getElem?_getD,List.getElem?_take,if_pos (by omega)]
  ·rw[hy] at hf;have h1:=(fit_slice Try.underlying36 hf).1;rw[show Try.prog.bytesOf 5=1 by kernel_rfl] at h1;have h2:(lits (H:=H) .u8 (zs.take l)).length=(zs.take l).length:=by simp[lits]
   omega
theorem Epoch_open {fuel:Nat} {cs:List Value} {x:DataW H×List MemPlace} (h:DataW.trod enc Try.prog w 0 spare held fuel 23 cs=some x):∃ p:S25,cs=[.int .i64 p.f0,.int .i64 p.f1]:=by
 obtain ⟨ys,n,_,hx,hcl,hyl,hf⟩:=DataW.trod_struct Try.underlying23 h;have hcl2:cs.length=2:=hcl.trans (by kernel_rfl);have hyl2:ys.length=2:=hyl
 match cs,hcl2 with
 | [c0,c1],_=>
  match ys,hyl2 with
  | [y0,y1],_=>
   have eint:Try.prog.cellsOf 3=1:=by kernel_rfl
   have g0:DataW.trod enc Try.prog w 0 spare held n 3 (List.take (Try.prog.cellsOf 3) (List.drop 0 [c0,c1]))=some y0:=hf 0 _ rfl;rw[eint] at g0;replace g0:DataW.trod enc Try.prog w 0 spare held n 3 [c0]=some y0:=g0;obtain ⟨n0,q0,i0⟩:=int_open Try.underlying3 g0;have g1:DataW.trod enc Try.prog w 0 spare held n 3 (List.take (Try.prog.cellsOf 3) (List.drop 1 [c0,c1]))=some y1:=hf 1 _ rfl;rw[eint] at g1;replace g1:DataW.trod enc Try.prog w 0 spare held n 3 [c1]=some y1:=g1;obtain ⟨n1,q1,i1⟩:=int_open Try.underlying3 g1;simp only[List.cons.injEq,and_true] at q0 q1;exact ⟨⟨n0,n1⟩,by rw[q0,q1]⟩
theorem Rights_open {fuel:Nat} {cs:List Value} {x:DataW H×List MemPlace} (h:DataW.trod enc Try.prog w 0 spare held fuel 25 cs=some x):∃ p:S25,cs=[.int .i64 p.f0,.int .i64 p.f1]:=by
 obtain ⟨ys,n,_,hx,hcl,hyl,hf⟩:=DataW.trod_struct Try.underlying25 h;have hcl2:cs.length=2:=hcl.trans (by kernel_rfl);have hyl2:ys.length=2:=hyl
 match cs,hcl2 with
 | [c0,c1],_=>
  match ys,hyl2 with
  | [y0,y1],_=>
   have eint:Try.prog.cellsOf 3=1:=by kernel_rfl
   have g0:DataW.trod enc Try.prog w 0 spare held n 3 (List.take (Try.prog.cellsOf 3) (List.drop 0 [c0,c1]))=some y0:=hf 0 _ rfl;rw[eint] at g0;replace g0:DataW.trod enc Try.prog w 0 spare held n 3 [c0]=some y0:=g0;obtain ⟨n0,q0,i0⟩:=int_open Try.underlying3 g0;have g1:DataW.trod enc Try.prog w 0 spare held n 3 (List.take (Try.prog.cellsOf 3) (List.drop 1 [c0,c1]))=some y1:=hf 1 _ rfl;rw[eint] at g1;replace g1:DataW.trod enc Try.prog w 0 spare held n 3 [c1]=some y1:=g1;obtain ⟨n1,q1,i1⟩:=int_open Try.underlying3 g1;simp only[List.cons.injEq,and_true] at q0 q1;exact ⟨⟨n0,n1⟩,by rw[q0,q1]⟩
theorem Call_open {fuel:Nat} {cs:List Value} {x:DataW H×List MemPlace} (h:DataW.trod enc Try.prog w 0 spare held fuel 27 cs=some x):∃ p:S25,cs=[.int .i64 p.f0,.int .i64 p.f1]:=by
 obtain ⟨ys,n,_,hx,hcl,hyl,hf⟩:=DataW.trod_struct Try.underlying27 h;have hcl2:cs.length=2:=hcl.trans (by kernel_rfl);have hyl2:ys.length=2:=hyl
 match cs,hcl2 with
 | [c0,c1],_=>
  match ys,hyl2 with
  | [y0,y1],_=>
   have eint:Try.prog.cellsOf 3=1:=by kernel_rfl
   have g0:DataW.trod enc Try.prog w 0 spare held n 3 (List.take (Try.prog.cellsOf 3) (List.drop 0 [c0,c1]))=some y0:=hf 0 _ rfl;rw[eint] at g0;replace g0:DataW.trod enc Try.prog w 0 spare held n 3 [c0]=some y0:=g0;obtain ⟨n0,q0,i0⟩:=int_open Try.underlying3 g0;have g1:DataW.trod enc Try.prog w 0 spare held n 3 (List.take (Try.prog.cellsOf 3) (List.drop 1 [c0,c1]))=some y1:=hf 1 _ rfl;rw[eint] at g1;replace g1:DataW.trod enc Try.prog w 0 spare held n 3 [c1]=some y1:=g1;obtain ⟨n1,q1,i1⟩:=int_open Try.underlying3 g1;simp only[List.cons.injEq,and_true] at q0 q1;exact ⟨⟨n0,n1⟩,by rw[q0,q1]⟩
theorem Op_open {fuel:Nat} {cs:List Value} {x:DataW H×List MemPlace} (h:DataW.trod enc Try.prog w 0 spare held fuel 29 cs=some x):∃ o:Sp.Op,cs=[.int .i64 o.kind,.string o.name,.int .i64 o.a,.int .i64 o.b]∧isI o.kind∧isI o.a∧isI o.b:=by
 obtain ⟨ys,n,_,hx,hcl,hyl,hf⟩:=DataW.trod_struct Try.underlying29 h;have hcl2:cs.length=4:=hcl.trans (by kernel_rfl);have hyl2:ys.length=4:=hyl
 match cs,hcl2 with
 | [c0,c1,c2,c3],_=>
  match ys,hyl2 with
  | [y0,y1,y2,y3],_=>
   have eint:Try.prog.cellsOf 3=1:=by kernel_rfl
   have estr:Try.prog.cellsOf 9=1:=by kernel_rfl
   have g0:DataW.trod enc Try.prog w 0 spare held n 3 (List.take (Try.prog.cellsOf 3) (List.drop 0 [c0,c1,c2,c3]))=some y0:=hf 0 _ rfl;rw[eint] at g0;replace g0:DataW.trod enc Try.prog w 0 spare held n 3 [c0]=some y0:=g0;obtain ⟨n0,q0,i0⟩:=int_open Try.underlying3 g0;have g1:DataW.trod enc Try.prog w 0 spare held n 9 (List.take (Try.prog.cellsOf 9) (List.drop 1 [c0,c1,c2,c3]))=some y1:=hf 1 _ rfl;rw[estr] at g1;replace g1:DataW.trod enc Try.prog w 0 spare held n 9 [c1]=some y1:=g1;obtain ⟨n1,q1⟩:=str_open Try.underlying9 g1;have g2:DataW.trod enc Try.prog w 0 spare held n 3 (List.take (Try.prog.cellsOf 3) (List.drop 2 [c0,c1,c2,c3]))=some y2:=hf 2 _ rfl;rw[eint] at g2;replace g2:DataW.trod enc Try.prog w 0 spare held n 3 [c2]=some y2:=g2;obtain ⟨n2,q2,i2⟩:=int_open Try.underlying3 g2;have g3:DataW.trod enc Try.prog w 0 spare held n 3 (List.take (Try.prog.cellsOf 3) (List.drop 3 [c0,c1,c2,c3]))=some y3:=hf 3 _ rfl;rw[eint] at g3;replace g3:DataW.trod enc Try.prog w 0 spare held n 3 [c3]=some y3:=g3;obtain ⟨n3,q3,i3⟩:=int_open Try.underlying3 g3;simp only[List.cons.injEq,and_true] at q0 q1 q2 q3;exact ⟨⟨n0,n1,n2,n3⟩,by rw[q0,q1,q2,q3],i0,i2,i3⟩
theorem Rep_open {fuel:Nat} {cs:List Value} {x:DataW H×List MemPlace} (h:DataW.trod enc Try.prog w 0 spare held fuel 50 cs=some x):∃ r:Rep,cs=(RVc r).toList∧isI r.err∧isI r.value:=by
 obtain ⟨ys,n,_,hx,hcl,hyl,hf⟩:=DataW.trod_struct Try.underlying50 h;have hcl2:cs.length=4:=hcl.trans (by kernel_rfl);have hyl2:ys.length=3:=hyl
 match cs,hcl2 with
 | [c0,c1,c2,c3],_=>
  match ys,hyl2 with
  | [y0,y1,y2],_=>
   have eCall:Try.prog.cellsOf 27=2:=by kernel_rfl
   have eerr:Try.prog.cellsOf 30=1:=by kernel_rfl
   have eint:Try.prog.cellsOf 3=1:=by kernel_rfl
   have g0:DataW.trod enc Try.prog w 0 spare held n 27 (List.take (Try.prog.cellsOf 27) (List.drop 0 [c0,c1,c2,c3]))=some y0:=hf 0 _ rfl;rw[eCall] at g0;replace g0:DataW.trod enc Try.prog w 0 spare held n 27 [c0,c1]=some y0:=g0;obtain ⟨n0,q0⟩:=Call_open g0;have g1:DataW.trod enc Try.prog w 0 spare held n 30 (List.take (Try.prog.cellsOf 30) (List.drop 2 [c0,c1,c2,c3]))=some y1:=hf 1 _ rfl;rw[eerr] at g1;replace g1:DataW.trod enc Try.prog w 0 spare held n 30 [c2]=some y1:=g1;obtain ⟨n1,q1,i1⟩:=int_open Try.underlying30 g1;have g2:DataW.trod enc Try.prog w 0 spare held n 3 (List.take (Try.prog.cellsOf 3) (List.drop 3 [c0,c1,c2,c3]))=some y2:=hf 2 _ rfl;rw[eint] at g2;replace g2:DataW.trod enc Try.prog w 0 spare held n 3 [c3]=some y2:=g2;obtain ⟨n2,q2,i2⟩:=int_open Try.underlying3 g2;simp only[List.cons.injEq,and_true] at q0 q1 q2;exact ⟨⟨n0,n1,n2⟩,by rw[q0.1,q0.2,q1,q2];rfl,i1,i2⟩
theorem View_open {fuel:Nat} {cs:List Value} {x:DataW H×List MemPlace} (h:DataW.trod enc Try.prog w 0 spare held fuel 87 cs=some x):∃ v:S87,cs=vcells v∧isI v.f5:=by
 obtain ⟨ys,n,_,hx,hcl,hyl,hf⟩:=DataW.trod_struct Try.underlying87 h;have hcl2:cs.length=7:=hcl.trans (by kernel_rfl);have hyl2:ys.length=6:=hyl
 match cs,hcl2 with
 | [c0,c1,c2,c3,c4,c5,c6],_=>
  match ys,hyl2 with
  | [y0,y1,y2,y3,y4,y5],_=>
   have estr:Try.prog.cellsOf 9=1:=by kernel_rfl
   have eint:Try.prog.cellsOf 3=1:=by kernel_rfl
   have eRights:Try.prog.cellsOf 25=2:=by kernel_rfl
   have g0:DataW.trod enc Try.prog w 0 spare held n 9 (List.take (Try.prog.cellsOf 9) (List.drop 0 [c0,c1,c2,c3,c4,c5,c6]))=some y0:=hf 0 _ rfl;rw[estr] at g0;replace g0:DataW.trod enc Try.prog w 0 spare held n 9 [c0]=some y0:=g0;obtain ⟨n0,q0⟩:=str_open Try.underlying9 g0;have g1:DataW.trod enc Try.prog w 0 spare held n 3 (List.take (Try.prog.cellsOf 3) (List.drop 1 [c0,c1,c2,c3,c4,c5,c6]))=some y1:=hf 1 _ rfl;rw[eint] at g1;replace g1:DataW.trod enc Try.prog w 0 spare held n 3 [c1]=some y1:=g1;obtain ⟨n1,q1,i1⟩:=int_open Try.underlying3 g1;have g2:DataW.trod enc Try.prog w 0 spare held n 3 (List.take (Try.prog.cellsOf 3) (List.drop 2 [c0,c1,c2,c3,c4,c5,c6]))=some y2:=hf 2 _ rfl;rw[eint] at g2;replace g2:DataW.trod enc Try.prog w 0 spare held n 3 [c2]=some y2:=g2;obtain ⟨n2,q2,i2⟩:=int_open Try.underlying3 g2;have g3:DataW.trod enc Try.prog w 0 spare held n 3 (List.take (Try.prog.cellsOf 3) (List.drop 3 [c0,c1,c2,c3,c4,c5,c6]))=some y3:=hf 3 _ rfl;rw[eint] at g3;replace g3:DataW.trod enc Try.prog w 0 spare held n 3 [c3]=some y3:=g3;obtain ⟨n3,q3,i3⟩:=int_open Try.underlying3 g3;have g4:DataW.trod enc Try.prog w 0 spare held n 25 (List.take (Try.prog.cellsOf 25) (List.drop 4 [c0,c1,c2,c3,c4,c5,c6]))=some y4:=hf 4 _ rfl;rw[eRights] at g4;replace g4:DataW.trod enc Try.prog w 0 spare held n 25 [c4,c5]=some y4:=g4;obtain ⟨n4,q4⟩:=Rights_open g4;have g5:DataW.trod enc Try.prog w 0 spare held n 3 (List.take (Try.prog.cellsOf 3) (List.drop 6 [c0,c1,c2,c3,c4,c5,c6]))=some y5:=hf 5 _ rfl;rw[eint] at g5;replace g5:DataW.trod enc Try.prog w 0 spare held n 3 [c6]=some y5:=g5;obtain ⟨n5,q5,i5⟩:=int_open Try.underlying3 g5;simp only[List.cons.injEq,and_true] at q0 q1 q2 q3 q4 q5;exact ⟨⟨n0,n1,n2,n3,n4,n5⟩,by rw[q0,q1,q2,q3,q4.1,q4.2,q5];rfl,i5⟩
def VIn (w:World) (A:Option Addr) (c:Nat) (xs:List S87):Prop:=Kd.C k87 w A xs.length xs∧xs.length≤c∧xs.length * 64≤140737488351232∧∀ v ∈ xs,isI v.f5
theorem views_open {fuel:Nat} {cs:List Value} {x:DataW H×List MemPlace} (h:DataW.trod enc Try.prog w 0 spare held fuel 31 cs=some x) (hfit:Fit 31 x.1):
  ∃ (A:Option Addr) (c:Nat) (xs:List S87),cs=[.slice A xs.length c]∧VIn w A c xs:=by
 rcases Go.Deep.open_slice Try.underlying31 h with ⟨hcs,_⟩|⟨ad,l,c,m,n,D,Pl,hcs,_,hl,hm,hmm,hx,hi⟩
 ·exact ⟨none,0,[],hcs,views_nil _ _,Nat.le_refl _,by simp,fun v hv=>by cases hv⟩
 ·have hlm:l≤m:=by rw[hmm];split<;>omega
  have e7:Try.prog.cellsOf 87=7:=by kernel_rfl
  have hone : ∀ i : Nat, i < l → ∃ v : S87, w.cells? 0 (ad.add (i * 7)) 7 = some (vcells v) ∧ isI v.f5 := fun i hlt => by
    obtain ⟨cs',hc,ht⟩:=hi i (by omega);rw[e7] at hc;obtain ⟨v,rfl,hv⟩:=View_open ht;exact ⟨v,hc,hv⟩
  have hlen:((List.range l).attach.map fun i=>(hone i.1 (List.mem_range.1 i.2)).choose).length=l:=by simp
  refine ⟨some ad,c,(List.range l).attach.map fun i=>(hone i.1 (List.mem_range.1 i.2)).choose,by rw[hlen];exact hcs,⟨rfl,by rw[hlen];simp only[maxLen] at hm;omega,fun _=>⟨ad,rfl,fun j p hj=>?_⟩⟩,by rw[hlen];exact hl,?_,?_⟩
  ·have hjl:j<l:=by have:=(List.getElem?_eq_some_iff.1 hj).1;simpa using this
   simp only[List.getElem?_map,List.getElem?_attach,List.getElem?_range hjl,Option.pmap_some,Option.map_some,Option.some.injEq] at hj;obtain ⟨hc,_⟩:=(hone j hjl).choose_spec;rw[hj] at hc;refine ⟨vcells p,rfl,k87_mk w p,fun i u hu=>?_⟩;obtain ⟨_,_,hat⟩:=World.cells?_some hc;have hi7:i<7:=by have:=(List.getElem?_eq_some_iff.1 hu).1;simpa [vcells] using this
   rw[show ad.add (j * k87.sz+i)=(ad.add (j * 7)).add i from by rw[Go.Proofs.YtpgdmmjbhjbbhaaW.PrintWords.add_add];rfl];exact (hat i hi7).trans hu
  ·rw[hlen];rw[hx] at hfit;have h1:=(fit_slice Try.underlying31 hfit).1;rw[show Try.prog.bytesOf 87=64 by kernel_rfl] at h1;simp only[List.length_map,List.length_range] at h1;omega
  ·intro v hv;obtain ⟨i,_,rfl⟩:=List.mem_map.1 hv;exact (hone i.1 (List.mem_range.1 i.2)).choose_spec.2
theorem Msg_open {fuel:Nat} {cs:List Value} {x:DataW H×List MemPlace} (h:DataW.trod enc Try.prog w 0 spare held fuel 33 cs=some x) (hfit:Fit 33 x.1):∃ (m:Msg) (A:Option Addr) (c:Nat),cs=(MVc m A c).toList∧(isI m.op.a∧isI m.op.b)∧isI m.kind∧isI m.err∧VIn w A c m.views:=by
 obtain ⟨ys,n,_,hx,hcl,hyl,hf⟩:=DataW.trod_struct Try.underlying33 h;have hcl2:cs.length=20:=hcl.trans (by kernel_rfl);have hyl2:ys.length=13:=hyl
 match cs,hcl2 with
 | [c0,c1,c2,c3,c4,c5,c6,c7,c8,c9,c10,c11,c12,c13,c14,c15,c16,c17,c18,c19],_=>
  match ys,hyl2 with
  | [y0,y1,y2,y3,y4,y5,y6,y7,y8,y9,y10,y11,y12],_=>
   have eint:Try.prog.cellsOf 3=1:=by kernel_rfl
   have estr:Try.prog.cellsOf 9=1:=by kernel_rfl
   have eEpoch:Try.prog.cellsOf 23=2:=by kernel_rfl
   have eRights:Try.prog.cellsOf 25=2:=by kernel_rfl
   have eCall:Try.prog.cellsOf 27=2:=by kernel_rfl
   have eOp:Try.prog.cellsOf 29=4:=by kernel_rfl
   have eerr:Try.prog.cellsOf 30=1:=by kernel_rfl
   have eviews:Try.prog.cellsOf 31=1:=by kernel_rfl
   have g0:DataW.trod enc Try.prog w 0 spare held n 3 (List.take (Try.prog.cellsOf 3) (List.drop 0 [c0,c1,c2,c3,c4,c5,c6,c7,c8,c9,c10,c11,c12,c13,c14,c15,c16,c17,c18,c19]))=some y0:=hf 0 _ rfl;rw[eint] at g0;replace g0:DataW.trod enc Try.prog w 0 spare held n 3 [c0]=some y0:=g0;obtain ⟨n0,q0,i0⟩:=int_open Try.underlying3 g0;have g1:DataW.trod enc Try.prog w 0 spare held n 9 (List.take (Try.prog.cellsOf 9) (List.drop 1 [c0,c1,c2,c3,c4,c5,c6,c7,c8,c9,c10,c11,c12,c13,c14,c15,c16,c17,c18,c19]))=some y1:=hf 1 _ rfl;rw[estr] at g1;replace g1:DataW.trod enc Try.prog w 0 spare held n 9 [c1]=some y1:=g1;obtain ⟨n1,q1⟩:=str_open Try.underlying9 g1;have g2:DataW.trod enc Try.prog w 0 spare held n 3 (List.take (Try.prog.cellsOf 3) (List.drop 2 [c0,c1,c2,c3,c4,c5,c6,c7,c8,c9,c10,c11,c12,c13,c14,c15,c16,c17,c18,c19]))=some y2:=hf 2 _ rfl;rw[eint] at g2;replace g2:DataW.trod enc Try.prog w 0 spare held n 3 [c2]=some y2:=g2;obtain ⟨n2,q2,i2⟩:=int_open Try.underlying3 g2;have g3:DataW.trod enc Try.prog w 0 spare held n 3 (List.take (Try.prog.cellsOf 3) (List.drop 3 [c0,c1,c2,c3,c4,c5,c6,c7,c8,c9,c10,c11,c12,c13,c14,c15,c16,c17,c18,c19]))=some y3:=hf 3 _ rfl;rw[eint] at g3;replace g3:DataW.trod enc Try.prog w 0 spare held n 3 [c3]=some y3:=g3;obtain ⟨n3,q3,i3⟩:=int_open Try.underlying3 g3;have g4:DataW.trod enc Try.prog w 0 spare held n 23 (List.take (Try.prog.cellsOf 23) (List.drop 4 [c0,c1,c2,c3,c4,c5,c6,c7,c8,c9,c10,c11,c12,c13,c14,c15,c16,c17,c18,c19]))=some y4:=hf 4 _ rfl;rw[eEpoch] at g4;replace g4:DataW.trod enc Try.prog w 0 spare held n 23 [c4,c5]=some y4:=g4;obtain ⟨n4,q4⟩:=Epoch_open g4;have g5:DataW.trod enc Try.prog w 0 spare held n 23 (List.take (Try.prog.cellsOf 23) (List.drop 6 [c0,c1,c2,c3,c4,c5,c6,c7,c8,c9,c10,c11,c12,c13,c14,c15,c16,c17,c18,c19]))=some y5:=hf 5 _ rfl;rw[eEpoch] at g5;replace g5:DataW.trod enc Try.prog w 0 spare held n 23 [c6,c7]=some y5:=g5;obtain ⟨n5,q5⟩:=Epoch_open g5;have g6:DataW.trod enc Try.prog w 0 spare held n 25 (List.take (Try.prog.cellsOf 25) (List.drop 8 [c0,c1,c2,c3,c4,c5,c6,c7,c8,c9,c10,c11,c12,c13,c14,c15,c16,c17,c18,c19]))=some y6:=hf 6 _ rfl;rw[eRights] at g6;replace g6:DataW.trod enc Try.prog w 0 spare held n 25 [c8,c9]=some y6:=g6;obtain ⟨n6,q6⟩:=Rights_open g6;have g7:DataW.trod enc Try.prog w 0 spare held n 3 (List.take (Try.prog.cellsOf 3) (List.drop 10 [c0,c1,c2,c3,c4,c5,c6,c7,c8,c9,c10,c11,c12,c13,c14,c15,c16,c17,c18,c19]))=some y7:=hf 7 _ rfl;rw[eint] at g7;replace g7:DataW.trod enc Try.prog w 0 spare held n 3 [c10]=some y7:=g7;obtain ⟨n7,q7,i7⟩:=int_open Try.underlying3 g7;have g8:DataW.trod enc Try.prog w 0 spare held n 27 (List.take (Try.prog.cellsOf 27) (List.drop 11 [c0,c1,c2,c3,c4,c5,c6,c7,c8,c9,c10,c11,c12,c13,c14,c15,c16,c17,c18,c19]))=some y8:=hf 8 _ rfl;rw[eCall] at g8;replace g8:DataW.trod enc Try.prog w 0 spare held n 27 [c11,c12]=some y8:=g8;obtain ⟨n8,q8⟩:=Call_open g8;have g9:DataW.trod enc Try.prog w 0 spare held n 29 (List.take (Try.prog.cellsOf 29) (List.drop 13 [c0,c1,c2,c3,c4,c5,c6,c7,c8,c9,c10,c11,c12,c13,c14,c15,c16,c17,c18,c19]))=some y9:=hf 9 _ rfl;rw[eOp] at g9;replace g9:DataW.trod enc Try.prog w 0 spare held n 29 [c13,c14,c15,c16]=some y9:=g9;obtain ⟨n9,q9,i9⟩:=Op_open g9;have g10:DataW.trod enc Try.prog w 0 spare held n 30 (List.take (Try.prog.cellsOf 30) (List.drop 17 [c0,c1,c2,c3,c4,c5,c6,c7,c8,c9,c10,c11,c12,c13,c14,c15,c16,c17,c18,c19]))=some y10:=hf 10 _ rfl;rw[eerr] at g10;replace g10:DataW.trod enc Try.prog w 0 spare held n 30 [c17]=some y10:=g10;obtain ⟨n10,q10,i10⟩:=int_open Try.underlying30 g10;have g11:DataW.trod enc Try.prog w 0 spare held n 3 (List.take (Try.prog.cellsOf 3) (List.drop 18 [c0,c1,c2,c3,c4,c5,c6,c7,c8,c9,c10,c11,c12,c13,c14,c15,c16,c17,c18,c19]))=some y11:=hf 11 _ rfl;rw[eint] at g11;replace g11:DataW.trod enc Try.prog w 0 spare held n 3 [c18]=some y11:=g11;obtain ⟨n11,q11,i11⟩:=int_open Try.underlying3 g11;have g12:DataW.trod enc Try.prog w 0 spare held n 31 (List.take (Try.prog.cellsOf 31) (List.drop 19 [c0,c1,c2,c3,c4,c5,c6,c7,c8,c9,c10,c11,c12,c13,c14,c15,c16,c17,c18,c19]))=some y12:=hf 12 _ rfl;rw[eviews] at g12;replace g12:DataW.trod enc Try.prog w 0 spare held n 31 [c19]=some y12:=g12;have k12:Fit 31 y12.1:=fit_field Try.underlying33 (by rw[hx] at hfit;exact hfit) 12 rfl rfl;obtain ⟨A12,C12,n12,q12,i12⟩:=views_open g12 k12;simp only[List.cons.injEq,and_true] at q0 q1 q2 q3 q4 q5 q6 q7 q8 q9 q10 q11 q12;exact ⟨⟨n0,n1,n2,n3,n4,n5,n6,n7,n8,n9,n10,n11,n12⟩,A12,C12,by rw[q0,q1,q2,q3,q4.1,q4.2,q5.1,q5.2,q6.1,q6.2,q7,q8.1,q8.2,q9.1,q9.2.1,q9.2.2.1,q9.2.2.2,q10,q11,q12];rfl,⟨i9.2.1,i9.2.2⟩,i0,i10,i12⟩
theorem Seg_open {fuel:Nat} {cs:List Value} {x:DataW H×List MemPlace} (h:DataW.trod enc Try.prog w 0 spare held fuel 47 cs=some x) (hfit:Fit 47 x.1):∃ (s:Seg) (A:Option Addr) (c:Nat),cs=(SVc s A c).toList∧In w A c s.data∧s.data.length≤140737488351232:=by
 obtain ⟨ys,n,_,hx,hcl,hyl,hf⟩:=DataW.trod_struct Try.underlying47 h;have hcl2:cs.length=5:=hcl.trans (by kernel_rfl);have hyl2:ys.length=5:=hyl
 match cs,hcl2 with
 | [c0,c1,c2,c3,c4],_=>
  match ys,hyl2 with
  | [y0,y1,y2,y3,y4],_=>
   have eint:Try.prog.cellsOf 3=1:=by kernel_rfl
   have ebytes:Try.prog.cellsOf 36=1:=by kernel_rfl
   have g0:DataW.trod enc Try.prog w 0 spare held n 3 (List.take (Try.prog.cellsOf 3) (List.drop 0 [c0,c1,c2,c3,c4]))=some y0:=hf 0 _ rfl;rw[eint] at g0;replace g0:DataW.trod enc Try.prog w 0 spare held n 3 [c0]=some y0:=g0;obtain ⟨n0,q0,i0⟩:=int_open Try.underlying3 g0;have g1:DataW.trod enc Try.prog w 0 spare held n 3 (List.take (Try.prog.cellsOf 3) (List.drop 1 [c0,c1,c2,c3,c4]))=some y1:=hf 1 _ rfl;rw[eint] at g1;replace g1:DataW.trod enc Try.prog w 0 spare held n 3 [c1]=some y1:=g1;obtain ⟨n1,q1,i1⟩:=int_open Try.underlying3 g1;have g2:DataW.trod enc Try.prog w 0 spare held n 3 (List.take (Try.prog.cellsOf 3) (List.drop 2 [c0,c1,c2,c3,c4]))=some y2:=hf 2 _ rfl;rw[eint] at g2;replace g2:DataW.trod enc Try.prog w 0 spare held n 3 [c2]=some y2:=g2;obtain ⟨n2,q2,i2⟩:=int_open Try.underlying3 g2;have g3:DataW.trod enc Try.prog w 0 spare held n 3 (List.take (Try.prog.cellsOf 3) (List.drop 3 [c0,c1,c2,c3,c4]))=some y3:=hf 3 _ rfl;rw[eint] at g3;replace g3:DataW.trod enc Try.prog w 0 spare held n 3 [c3]=some y3:=g3;obtain ⟨n3,q3,i3⟩:=int_open Try.underlying3 g3;have g4:DataW.trod enc Try.prog w 0 spare held n 36 (List.take (Try.prog.cellsOf 36) (List.drop 4 [c0,c1,c2,c3,c4]))=some y4:=hf 4 _ rfl;rw[ebytes] at g4;replace g4:DataW.trod enc Try.prog w 0 spare held n 36 [c4]=some y4:=g4;have k4:Fit 36 y4.1:=fit_field Try.underlying47 (by rw[hx] at hfit;exact hfit) 4 rfl rfl;obtain ⟨A4,C4,n4,q4,i4⟩:=bytes_open g4 k4;simp only[List.cons.injEq,and_true] at q0 q1 q2 q3 q4;exact ⟨⟨n0,n1,n2,n3,n4⟩,A4,C4,by rw[q0,q1,q2,q3,q4];rfl,i4⟩
end
end Go.Proofs.Ytpgdmmjbhjbbhaa.Ow
end
section
namespace Go.Proofs.Ytpgdmmjbhjbbhaa.Lw
open Go Go.RowKit P Sp Vd En Wr Rd YtpgdmmjbhjbbhaaW.PrintWords YtpgdmmjbhjbbhaaW.PrintLast YtpgdmmjbhjbbhaaW.PrintMore
def mkV:S87:=⟨⟨#[109,97,114,107]⟩,0,0,0,⟨0,0⟩,0⟩
theorem kM87 {w W:World} {base:Nat}:∀ (x:S87) (cs:List Value),k87.K w x cs→k87.M W base (fun _=>False) x cs:=fun x cs h=>by
 obtain rfl:=k87_open h;exact k87_mkM _ _ _ x
theorem inf87:(Try.prog.info? 87).map (fun i=>(i.zero,i.size,i.bytes))=some (some (.agg #[.string ⟨#[]⟩,.int .i64 0,.int .i64 0,.int .i64 0,.int .i64 0,.int .i64 0,.int .i64 0]),7,64):=by kernel_rfl
theorem vlist_calls (A:Option Addr) (c:Nat) (l:List S87) (w:World) (hr:Kd.C k87 w A l.length l) (hl:l.length * 64≤140737488351232):
  Calls Try.prog 38 #[.slice A l.length c] w fun e w'=>∃ v:Value,e = .returned v∧Kd.R k87 87 w' w.heap.size (fun _=>True) v (l++[mkV])∧Below w.heap.size w w':=by
 have HR:=Aside0.mk hr;have HL:=Aside0.mk hl;have HZ0:Aside0 ((0+l.length) * 64≤140737488355328):=⟨by omega⟩;have hu87:=Try.underlying87;have hu25:=Try.underlying25;clear hr hl;go_enter Try.func38,Try.ntmps38
 go_upto_region 2 with (refine Kd.R_append_rows k87 (Rr:=Kd.K k87 w) (w0:=w) w.heap.size rfl (.const (.slice none 0 0)) (.tmp 4) 31 87 _ 64 (by rfl) Try.underlying31 inf87 rfl (by decide) (by decide) (.slice none 0 0) [] l A l.length c (fun _=>True) (fun _=>False) (by rfl) (by rfl) (Kd.R_nil _ _ _ _ _) HR.out kM87 (fun _ hk=>hk.elim) (fun _ _=>trivial) (Below.refl _ _) (Nat.le_refl _) HZ0.out ?_;intro v1 w1 hR hB hg hat;rw[List.nil_append] at hR;have H1:=Aside0.mk (And.intro hR hB);clear hR hB hg hat)
 have HC2:Aside0 (Kd.C k87 (w1.alloc (.cells #[.string ⟨#[109,97,114,107]⟩,.int .i64 0,.int .i64 0,.int .i64 0,.int .i64 0,.int .i64 0,.int .i64 0] 87 (0,0))) (some ⟨w1.heap.size,0,none⟩) 1 [mkV]):=⟨views_row (xs:=[mkV]) (heap_alloc_new w1 _) (by decide)⟩;have H2:Aside0 (Kd.R k87 87 (w1.alloc (.cells #[.string ⟨#[109,97,114,107]⟩,.int .i64 0,.int .i64 0,.int .i64 0,.int .i64 0,.int .i64 0,.int .i64 0] 87 (0,0))) w.heap.size (fun _=>True) v1 l∧Below w.heap.size w (w1.alloc (.cells #[.string ⟨#[109,97,114,107]⟩,.int .i64 0,.int .i64 0,.int .i64 0,.int .i64 0,.int .i64 0,.int .i64 0] 87 (0,0)))):=⟨Kd.R_below H1.out.1 (al_below _ _),below_step H1.out.2 (al_below _ _)⟩;have HZ1:Aside0 ((l.length+1) * 64≤140737488355328):=⟨by have:=HL.out;omega⟩;go_wp2_with (refine Kd.R_append_rows k87 (Rr:=Kd.K k87 _) (w0:=w) w.heap.size rfl (.tmp 6) (.tmp 8) 31 87 _ 64 (by rfl) Try.underlying31 inf87 rfl (by decide) (by decide) v1 l [mkV] (some ⟨w1.heap.size,0,none⟩) 1 1 (fun _=>True) (fun _=>False) (by rfl) (by rfl) H2.out.1 HC2.out kM87 (fun _ hk=>hk.elim) (fun _ _=>trivial) H2.out.2 H2.out.2.size HZ1.out ?_;intro v2 w2 hR hB hg hat;have H3:=Aside0.mk (And.intro hR hB);clear hR hB hg hat)
 go_ret
 exact ⟨v2,rfl,H3.out.1,H3.out.2⟩
theorem b_nil:IsB []:=fun x h=>by cases h
theorem b_app {a b:List Int} (ha:IsB a) (hb:IsB b):IsB (a++b):=IsB.append.mpr ⟨ha,hb⟩
theorem b_int (n:Int):IsB (intB n):=numB_isB _
theorem b_sign (n:Int):IsB (signB n):=numB_isB _
theorem b_text (s:ByteArray):IsB (textB s):=b_app (b_int _) (isB_bytesOf s)
theorem b_pair (x:S25):IsB (pairB x):=b_app (b_int _) (b_int _)
theorem b_op (o:Sp.Op):IsB (opB o):=b_app (b_int _) (b_app (b_text _) (b_app (b_sign _) (b_sign _)))
theorem b_view (v:S87):IsB (viewB v):=b_app (b_text _) (b_app (b_pair _) (b_app (b_int _) (b_app (b_pair _) (b_int _))))
theorem b_views:∀ l:List S87,IsB (viewsB l)
 | []=>b_nil
 | v :: r => by
   show IsB (viewB v++viewsB r)
   exact b_app (b_view v) (b_views r)
theorem b_list (l:List S87):IsB (listB l):=b_app (b_int _) (b_views l)
theorem b_opt {α:Type} (c:Prop) [Decidable c] {e:α→List Int} (h:∀ x,IsB (e x)) (x:α):IsB (optB c e x):=by
 unfold optB
 split
 ·exact h x
 ·exact b_nil
theorem b_msg (m:Msg):IsB (msgB m):=by
 unfold msgB;refine b_app (b_int _) ?_;unfold restB
 split
 ·exact b_app (b_pair _) (b_op _)
 split
 ·exact b_app (b_pair _) (b_app (b_text _) (b_app (b_int _) (b_opt _ b_pair _)))
 split
 ·exact b_list _
 ·exact b_app (b_text _) (b_app (b_pair _) (b_app (b_opt _ b_pair _) (b_app (b_opt _ b_pair _) (b_app (b_opt _ b_pair _) (b_opt _ b_int _)))))
theorem b_seg {s:Seg} (h:IsB s.data):IsB (segB s):=b_app (b_int _) (b_app (b_int _) (b_app (b_int _) (b_app (b_int _) (b_app (b_int _) h))))
theorem b_req (x:S25×Sp.Op):IsB (reqB x):=b_app (b_pair _) (b_op _)
theorem b_rep (r:Rep):IsB (repB r):=b_app (b_pair _) (b_app (b_int _) (b_sign _))
theorem lay_isB {α:Type} {e:α→List Int} {v:α→Prop} {x:α} (h:IsB (e x)):IsB (lay e v x).1:=by
 unfold lay
 split
 ·exact h
 ·exact b_nil
end Go.Proofs.Ytpgdmmjbhjbbhaa.Lw
end
section
namespace Go.Proofs.Ytpgdmmjbhjbbhaa.Rf
open Go Go.RowKit P Sp Vd En Wr Rd Lw YtpgdmmjbhjbbhaaW.PrintWords YtpgdmmjbhjbbhaaW.PrintLast YtpgdmmjbhjbbhaaW.PrintMore
def likeM (m n:Msg):Prop:=({ m with views:=n.views }:Msg)=n∧m.views.length=n.views.length
theorem like_iff (m n:Msg):likeM m n ↔ (m.kind=n.kind∧m.name.toList=n.name.toList∧m.cap=n.cap∧m.recaps=n.recaps∧(m.epoch.f0=n.epoch.f0∧m.epoch.f1=n.epoch.f1)∧(m.over.f0=n.over.f0∧m.over.f1=n.over.f1))∧(m.rights.f0=n.rights.f0∧m.rights.f1=n.rights.f1)∧m.held=n.held∧(m.call.f0=n.call.f0∧m.call.f1=n.call.f1)∧(m.op.kind=n.op.kind∧m.op.name.toList=n.op.name.toList∧m.op.a=n.op.a∧m.op.b=n.op.b)∧m.err=n.err∧m.value=n.value∧(m.views.length:Int)=n.views.length:=by
 unfold likeM;rw[msg_iff];simp only[and_assoc,true_and,Int.ofNat_inj]
theorem alike_calls (m n:Msg) (A:Option Addr) (c:Nat) (A2:Option Addr) (c2:Nat) (w:World):
  Calls Try.prog 44 #[MV m A c,MV n A2 c2] w fun e w'=>e = .returned (.bool (dcd (likeM m n)))∧Below w.heap.size w w':=by
 have hu33:=Try.underlying33;have hu23:=Try.underlying23;have hu25:=Try.underlying25;have hu27:=Try.underlying27;have hu29:=Try.underlying29;unfold MV;obtain ⟨wa,hwa⟩:∃ wa,wa=(w.alloc (.cells (MVc m A c) 33 (0,0))).alloc (.cells (MVc n A2 c2) 33 (0,0)):=⟨_,rfl⟩;have HWA:=Aside0.mk hwa;have HB:Aside0 (Below w.heap.size w wa):=⟨by rw[hwa];exact below_al2 w _ _⟩
 have BK:Aside0 (wa.heap[w.heap.size]?=some (.cells (MVc m A c) 33 (0,0))∧wa.heap[w.heap.size+1]?=some (.cells (MVc n A2 c2) 33 (0,0))):=⟨by
  rw[hwa];refine ⟨(Below.heap_alloc _ _ _ (by simp)).trans (heap_alloc_new w _),?_⟩;have:=heap_alloc_new (w.alloc (.cells (MVc m A c) 33 (0,0))) (.cells (MVc n A2 c2) 33 (0,0))
  rwa [show (w.alloc (.cells (MVc m A c) 33 (0,0))).heap.size=w.heap.size+1 by simp] at this⟩
 clear hwa;have ka0:wa.cell? ⟨w.heap.size,0,none⟩=some (.int .i64 m.kind):=(blk_cell BK.out.1 0).trans rfl;have kb0:wa.cell? ⟨w.heap.size+1,0,none⟩=some (.int .i64 n.kind):=(blk_cell BK.out.2 0).trans rfl;have ka1:wa.cell? ⟨w.heap.size,1,none⟩=some (.string m.name):=(blk_cell BK.out.1 1).trans rfl;have kb1:wa.cell? ⟨w.heap.size+1,1,none⟩=some (.string n.name):=(blk_cell BK.out.2 1).trans rfl;have ka2:wa.cell? ⟨w.heap.size,2,none⟩=some (.int .i64 m.cap):=(blk_cell BK.out.1 2).trans rfl;have kb2:wa.cell? ⟨w.heap.size+1,2,none⟩=some (.int .i64 n.cap):=(blk_cell BK.out.2 2).trans rfl;have ka3:wa.cell? ⟨w.heap.size,3,none⟩=some (.int .i64 m.recaps):=(blk_cell BK.out.1 3).trans rfl;have kb3:wa.cell? ⟨w.heap.size+1,3,none⟩=some (.int .i64 n.recaps):=(blk_cell BK.out.2 3).trans rfl;have ka4:wa.cell? ⟨w.heap.size,4,none⟩=some (.int .i64 m.epoch.f0):=(blk_cell BK.out.1 4).trans rfl;have kb4:wa.cell? ⟨w.heap.size+1,4,none⟩=some (.int .i64 n.epoch.f0):=(blk_cell BK.out.2 4).trans rfl;have ka5:wa.cell? ⟨w.heap.size,5,none⟩=some (.int .i64 m.epoch.f1):=(blk_cell BK.out.1 5).trans rfl;have kb5:wa.cell? ⟨w.heap.size+1,5,none⟩=some (.int .i64 n.epoch.f1):=(blk_cell BK.out.2 5).trans rfl;have ka6:wa.cell? ⟨w.heap.size,6,none⟩=some (.int .i64 m.over.f0):=(blk_cell BK.out.1 6).trans rfl;have kb6:wa.cell? ⟨w.heap.size+1,6,none⟩=some (.int .i64 n.over.f0):=(blk_cell BK.out.2 6).trans rfl;have ka7:wa.cell? ⟨w.heap.size,7,none⟩=some (.int .i64 m.over.f1):=(blk_cell BK.out.1 7).trans rfl;have kb7:wa.cell? ⟨w.heap.size+1,7,none⟩=some (.int .i64 n.over.f1):=(blk_cell BK.out.2 7).trans rfl;have ka8:wa.cell? ⟨w.heap.size,8,none⟩=some (.int .i64 m.rights.f0):=(blk_cell BK.out.1 8).trans rfl;have kb8:wa.cell? ⟨w.heap.size+1,8,none⟩=some (.int .i64 n.rights.f0):=(blk_cell BK.out.2 8).trans rfl;have ka9:wa.cell? ⟨w.heap.size,9,none⟩=some (.int .i64 m.rights.f1):=(blk_cell BK.out.1 9).trans rfl;have kb9:wa.cell? ⟨w.heap.size+1,9,none⟩=some (.int .i64 n.rights.f1):=(blk_cell BK.out.2 9).trans rfl;have ka10:wa.cell? ⟨w.heap.size,10,none⟩=some (.int .i64 m.held):=(blk_cell BK.out.1 10).trans rfl;have kb10:wa.cell? ⟨w.heap.size+1,10,none⟩=some (.int .i64 n.held):=(blk_cell BK.out.2 10).trans rfl;have ka11:wa.cell? ⟨w.heap.size,11,none⟩=some (.int .i64 m.call.f0):=(blk_cell BK.out.1 11).trans rfl;have kb11:wa.cell? ⟨w.heap.size+1,11,none⟩=some (.int .i64 n.call.f0):=(blk_cell BK.out.2 11).trans rfl;have ka12:wa.cell? ⟨w.heap.size,12,none⟩=some (.int .i64 m.call.f1):=(blk_cell BK.out.1 12).trans rfl;have kb12:wa.cell? ⟨w.heap.size+1,12,none⟩=some (.int .i64 n.call.f1):=(blk_cell BK.out.2 12).trans rfl;have ka13:wa.cell? ⟨w.heap.size,13,none⟩=some (.int .i64 m.op.kind):=(blk_cell BK.out.1 13).trans rfl;have kb13:wa.cell? ⟨w.heap.size+1,13,none⟩=some (.int .i64 n.op.kind):=(blk_cell BK.out.2 13).trans rfl;have ka14:wa.cell? ⟨w.heap.size,14,none⟩=some (.string m.op.name):=(blk_cell BK.out.1 14).trans rfl;have kb14:wa.cell? ⟨w.heap.size+1,14,none⟩=some (.string n.op.name):=(blk_cell BK.out.2 14).trans rfl;have ka15:wa.cell? ⟨w.heap.size,15,none⟩=some (.int .i64 m.op.a):=(blk_cell BK.out.1 15).trans rfl;have kb15:wa.cell? ⟨w.heap.size+1,15,none⟩=some (.int .i64 n.op.a):=(blk_cell BK.out.2 15).trans rfl;have ka16:wa.cell? ⟨w.heap.size,16,none⟩=some (.int .i64 m.op.b):=(blk_cell BK.out.1 16).trans rfl;have kb16:wa.cell? ⟨w.heap.size+1,16,none⟩=some (.int .i64 n.op.b):=(blk_cell BK.out.2 16).trans rfl;have ka17:wa.cell? ⟨w.heap.size,17,none⟩=some (.int .i64 m.err):=(blk_cell BK.out.1 17).trans rfl;have kb17:wa.cell? ⟨w.heap.size+1,17,none⟩=some (.int .i64 n.err):=(blk_cell BK.out.2 17).trans rfl;have ka18:wa.cell? ⟨w.heap.size,18,none⟩=some (.int .i64 m.value):=(blk_cell BK.out.1 18).trans rfl;have kb18:wa.cell? ⟨w.heap.size+1,18,none⟩=some (.int .i64 n.value):=(blk_cell BK.out.2 18).trans rfl;have ka19:wa.cell? ⟨w.heap.size,19,none⟩=some (.slice A m.views.length c):=(blk_cell BK.out.1 19).trans rfl;have kb19:wa.cell? ⟨w.heap.size+1,19,none⟩=some (.slice A2 n.views.length c2):=(blk_cell BK.out.2 19).trans rfl;go_enter Try.func44,Try.ntmps44
 go_upto_region 1 with fail
 rw[←HWA.out];go_wp2_with fail
 all_goals go_ret
 all_goals refine ⟨congrArg (fun b=>Ending.returned (Value.bool b)) (bool_dcd ?_),HB.out⟩
 all_goals clear HWA hu33 hu23 hu25 hu27 hu29 BK HB
 all_goals rw[like_iff]
 all_goals (first|(simp[*];done)|(simp at *;done)|(simp_all;done))
end Go.Proofs.Ytpgdmmjbhjbbhaa.Rf
end
section
namespace Go.Proofs.Ytpgdmmjbhjbbhaa.Rf
open Go Go.RowKit P Sp Vd En Wr Rd Lw YtpgdmmjbhjbbhaaW.PrintWords YtpgdmmjbhjbbhaaW.PrintLast YtpgdmmjbhjbbhaaW.PrintMore
attribute [local go_sem] Go.Proofs.Ytpgdmmjbhjbbhaa.StrLe.leq_str Go.Proofs.Ytpgdmmjbhjbbhaa.StrLe.gtr_str
theorem viewW_bool (x:S87):viewW x ↔ kB x.f0 x.f1 x.f2=true∧bB x.f3 0 1099511627776=true∧dcd (rightsV ⟨x.f4.f0,x.f4.f1⟩)=true∧bB x.f5 0 1099511627776=true:=by
 unfold kB nB bB;simp only[Bool.and_eq_true,dcd_iff];exact ⟨fun h=>⟨⟨h.1,h.2.1.1,h.2.1.2⟩,h.2.2.1,h.2.2.2.1,h.2.2.2.2⟩,fun h=>⟨h.1.1,⟨h.1.2.1,h.1.2.2⟩,h.2.1,h.2.2.1,h.2.2.2⟩⟩
theorem view_calls (x:S87) (w:World):
  Calls Try.prog 94 #[.agg #[.string x.f0,.int .i64 x.f1,.int .i64 x.f2,.int .i64 x.f3,.int .i64 x.f4.f0,.int .i64 x.f4.f1,.int .i64 x.f5]] w fun e w'=>e = .returned (.bool (dcd (viewW x)))∧Below w.heap.size w w':=by
 have hu87:=Try.underlying87;have hu25:=Try.underlying25;obtain ⟨wa,hwa⟩:∃ wa,wa=w.alloc (.cells #[.string x.f0,.int .i64 x.f1,.int .i64 x.f2,.int .i64 x.f3,.int .i64 x.f4.f0,.int .i64 x.f4.f1,.int .i64 x.f5] 87 (0,0)):=⟨_,rfl⟩;have HWA:=Aside0.mk hwa;have BK:Aside0 (wa.heap[w.heap.size]?=some (.cells #[.string x.f0,.int .i64 x.f1,.int .i64 x.f2,.int .i64 x.f3,.int .i64 x.f4.f0,.int .i64 x.f4.f1,.int .i64 x.f5] 87 (0,0))):=⟨by rw[hwa];exact heap_alloc_new w _⟩;have HB:Aside0 (Below w.heap.size w wa):=⟨by rw[hwa];exact al_below w _⟩;clear hwa;go_enter Try.func94,Try.ntmps94
 go_upto_region 1 with fail
 rw[←HWA.out];have hz0:wa.cell? ⟨w.heap.size,0,none⟩=some (.string x.f0):=(blk_cell BK.out 0).trans rfl;have hz1:wa.cell? ⟨w.heap.size,1,none⟩=some (.int .i64 x.f1):=(blk_cell BK.out 1).trans rfl;have hz2:wa.cell? ⟨w.heap.size,2,none⟩=some (.int .i64 x.f2):=(blk_cell BK.out 2).trans rfl;have hz3:wa.cell? ⟨w.heap.size,3,none⟩=some (.int .i64 x.f3):=(blk_cell BK.out 3).trans rfl;have hz4:wa.cell? ⟨w.heap.size,4,none⟩=some (.int .i64 x.f4.f0):=(blk_cell BK.out 4).trans rfl;have hz5:wa.cell? ⟨w.heap.size,5,none⟩=some (.int .i64 x.f4.f1):=(blk_cell BK.out 5).trans rfl;have hz6:wa.cell? ⟨w.heap.size,6,none⟩=some (.int .i64 x.f5):=(blk_cell BK.out 6).trans rfl;go_wp2_with (first|(go_at_call 50;refine (known_calls _ _ _ _).mono ?_;rintro e w1 ⟨rfl,hb⟩;have n0_:=Aside0.mk (below_step HB.out hb);have n1_:=Aside0.mk (blk_keep hb BK.out);clear HB BK hb hz0 hz1 hz2 hz3 hz4 hz5 hz6;have HB:=n0_;have BK:=n1_;clear n0_ n1_;have hz0:w1.cell? ⟨w.heap.size,0,none⟩=some (.string x.f0):=(blk_cell BK.out 0).trans rfl;have hz1:w1.cell? ⟨w.heap.size,1,none⟩=some (.int .i64 x.f1):=(blk_cell BK.out 1).trans rfl;have hz2:w1.cell? ⟨w.heap.size,2,none⟩=some (.int .i64 x.f2):=(blk_cell BK.out 2).trans rfl;have hz3:w1.cell? ⟨w.heap.size,3,none⟩=some (.int .i64 x.f3):=(blk_cell BK.out 3).trans rfl;have hz4:w1.cell? ⟨w.heap.size,4,none⟩=some (.int .i64 x.f4.f0):=(blk_cell BK.out 4).trans rfl;have hz5:w1.cell? ⟨w.heap.size,5,none⟩=some (.int .i64 x.f4.f1):=(blk_cell BK.out 5).trans rfl;have hz6:w1.cell? ⟨w.heap.size,6,none⟩=some (.int .i64 x.f5):=(blk_cell BK.out 6).trans rfl)|(go_at_call 43;refine (within_calls _ _ _ _).mono ?_;rintro e w1 ⟨rfl,hb⟩;have n0_:=Aside0.mk (below_step HB.out hb);have n1_:=Aside0.mk (blk_keep hb BK.out);clear HB BK hb hz0 hz1 hz2 hz3 hz4 hz5 hz6;have HB:=n0_;have BK:=n1_;clear n0_ n1_;have hz0:w1.cell? ⟨w.heap.size,0,none⟩=some (.string x.f0):=(blk_cell BK.out 0).trans rfl;have hz1:w1.cell? ⟨w.heap.size,1,none⟩=some (.int .i64 x.f1):=(blk_cell BK.out 1).trans rfl;have hz2:w1.cell? ⟨w.heap.size,2,none⟩=some (.int .i64 x.f2):=(blk_cell BK.out 2).trans rfl;have hz3:w1.cell? ⟨w.heap.size,3,none⟩=some (.int .i64 x.f3):=(blk_cell BK.out 3).trans rfl;have hz4:w1.cell? ⟨w.heap.size,4,none⟩=some (.int .i64 x.f4.f0):=(blk_cell BK.out 4).trans rfl;have hz5:w1.cell? ⟨w.heap.size,5,none⟩=some (.int .i64 x.f4.f1):=(blk_cell BK.out 5).trans rfl;have hz6:w1.cell? ⟨w.heap.size,6,none⟩=some (.int .i64 x.f5):=(blk_cell BK.out 6).trans rfl)|(go_at_call 51;refine (rrights_calls _ _ _).mono ?_;rintro e w1 ⟨rfl,hb⟩;have n0_:=Aside0.mk (below_step HB.out hb);have n1_:=Aside0.mk (blk_keep hb BK.out);clear HB BK hb hz0 hz1 hz2 hz3 hz4 hz5 hz6;have HB:=n0_;have BK:=n1_;clear n0_ n1_;have hz0:w1.cell? ⟨w.heap.size,0,none⟩=some (.string x.f0):=(blk_cell BK.out 0).trans rfl;have hz1:w1.cell? ⟨w.heap.size,1,none⟩=some (.int .i64 x.f1):=(blk_cell BK.out 1).trans rfl;have hz2:w1.cell? ⟨w.heap.size,2,none⟩=some (.int .i64 x.f2):=(blk_cell BK.out 2).trans rfl;have hz3:w1.cell? ⟨w.heap.size,3,none⟩=some (.int .i64 x.f3):=(blk_cell BK.out 3).trans rfl;have hz4:w1.cell? ⟨w.heap.size,4,none⟩=some (.int .i64 x.f4.f0):=(blk_cell BK.out 4).trans rfl;have hz5:w1.cell? ⟨w.heap.size,5,none⟩=some (.int .i64 x.f4.f1):=(blk_cell BK.out 5).trans rfl;have hz6:w1.cell? ⟨w.heap.size,6,none⟩=some (.int .i64 x.f5):=(blk_cell BK.out 6).trans rfl))
 all_goals go_ret
 all_goals refine ⟨congrArg (fun b=>Ending.returned (Value.bool b)) (bool_dcd ?_),HB.out⟩
 all_goals rw[viewW_bool]
 all_goals first|(simp[*];done)|(simp_all;done)
theorem view_yes (x:S87) (h:viewW x) (w:World):Calls Try.prog 94 #[.agg #[.string x.f0,.int .i64 x.f1,.int .i64 x.f2,.int .i64 x.f3,.int .i64 x.f4.f0,.int .i64 x.f4.f1,.int .i64 x.f5]] w fun e w'=>e = .returned (.bool true)∧Below w.heap.size w w':=
 (view_calls x w).mono fun e w' h1=>by rw[dcd_pos h] at h1;exact h1
theorem view_no (x:S87) (h:¬viewW x) (w:World):Calls Try.prog 94 #[.agg #[.string x.f0,.int .i64 x.f1,.int .i64 x.f2,.int .i64 x.f3,.int .i64 x.f4.f0,.int .i64 x.f4.f1,.int .i64 x.f5]] w fun e w'=>e = .returned (.bool false)∧Below w.heap.size w w':=
 (view_calls x w).mono fun e w' h1=>by rw[dcd_neg h] at h1;exact h1
def ahead (l:List S87) (i:Nat):ByteArray:=if i=0 then eB else (rd_T87 l ((i:Int) - 1)).f0
theorem ahead_succ (l:List S87) (i:Nat):ahead l (i+1)=(rd_T87 l (i:Int)).f0:=by
 unfold ahead;rw[if_neg (by omega)]
 congr 2
 omega
theorem views_calls (A : Option Addr) (c : Nat) (l : List S87) (w : World) (hr : Kd.C k87 w A l.length l) (hc : l.length ≤ c) :
    Calls Try.prog 48 #[.slice A l.length c] w fun e w'=>e = .returned (.bool (dcd (listV l)))∧Below w.heap.size w w':=by
  have hl:l.length≤9223372036854775807:=by have:=hr.2.1;omega
  have HR:=Aside0.mk hr;clear hr hc;have hu87:=Try.underlying87;have hu25:=Try.underlying25;have hlI:(l.length:Int)≤9223372036854775807:=by omega
  by_cases h64:64<l.length
  ·have h64i:(64:Int)<(l.length:Int):=by omega
   go_enter Try.func48,Try.ntmps48
   go_wp2_with fail
   go_ret
   exact ⟨by rw[dcd_neg (fun h=>by have:=h.1;omega)];rfl,Below.refl _ _⟩
  have h64i:(l.length:Int)≤64:=by omega
  have H64:=Aside0.mk h64;clear h64;go_enter Try.func48,Try.ntmps48
  go_wp2_with fail
  go_loopw [3] (fun v3 wr=>∃ (i:Nat),v3 = .int .i64 (i:Int)∧Aside0 (i≤l.length∧(viewsV eB l ↔ viewsV (ahead l i) (l.drop i))∧Below w.heap.size w wr)) (fun v3 _=>l.length - (intOf v3).toNat)
  case atStart=>exact ⟨0,rfl,⟨Nat.zero_le _,by rw[List.drop_zero];exact Iff.rfl,Below.refl _ _⟩⟩
  case round=>
   obtain ⟨i,rfl,HQ⟩:=hrel;by_cases hlt:i<l.length
   ·have hi0:(0:Int)≤(i:Int):=by omega
    have hi1:(i:Int)<(l.length:Int):=by omega
    have HLT:=Aside0.mk hlt;obtain ⟨ad,rfl,_⟩:=at_T87 (Kd.C_below HR.out HQ.out.2.2) (i:Int) hi0 hi1;have HV:Aside0 (viewsV eB l ↔ viewV (ahead l i) (rd_T87 l i)∧viewsV (ahead l (i+1)) (l.drop (i+1))):=⟨by rw[ahead_succ];exact HQ.out.2.1.trans (viewsV_drop l i _ hlt)⟩;obtain ⟨x,hx⟩:∃ x,rd_T87 l (i:Int)=x:=⟨_,rfl⟩;have HX:=Aside0.mk hx;rw[hx] at HV;clear hx hlt;by_cases hw:viewW x
    ·have HW:=Aside0.mk hw;clear hw;by_cases hz:i=0
     ·have hz1:¬((0:Int)<(i:Int)):=by omega
      have HZ:=Aside0.mk hz;clear hz;go_upto_region 6 with fail
      refine start_ (n:=24) (S:=fun w'=>Below w.heap.size w w') (ds:=[]) #[false,false,false,false,false,false,false,false,false,false,false,false,false,false,false,false,false,false,false,false,false,false,false,false] (by kernel_rfl) rfl rfl (below_drew1 HQ.out.2.2) (fun hHeld=>?_);refine pure_ (i:=0) (N:=some 13) (v:=?_) (a':=?_) #[true,false,false,false,false,false,false,false,false,false,false,false,false,false,false,false,false,false,false,false,false,false,false,false] rfl rfl (by kernel_rfl) (fun _ _ _ h=>h) (Or.inl ⟨by rfl,?_⟩) ?_ ?_
      rotate_left
      ·intro w';go_simp
       with_reducible rfl
      rotate_left
      ·simp only[Act.put,List.setIfInBounds_toArray,List.set_cons_zero,List.set_cons_succ,i64_w,i32_w];rfl
      refine pure_ (i:=1) (N:=some 14) (v:=?_) (a':=?_) #[true,true,false,false,false,false,false,false,false,false,false,false,false,false,false,false,false,false,false,false,false,false,false,false] rfl rfl (by kernel_rfl) (fun _ _ _ h=>h) (Or.inl ⟨by rfl,?_⟩) ?_ ?_
      rotate_left
      ·intro w';go_simp
       with_reducible rfl
      rotate_left
      ·simp only[Act.put,List.setIfInBounds_toArray,List.set_cons_zero,List.set_cons_succ,i64_w,i32_w];rfl
      refine pure_ (i:=2) (N:=some 15) (v:=?_) (a':=?_) #[true,true,true,false,false,false,false,false,false,false,false,false,false,false,false,false,false,false,false,false,false,false,false,false] rfl rfl (by kernel_rfl) (fun _ _ _ h=>h) (Or.inl ⟨by rfl,?_⟩) ?_ ?_
      rotate_left
      ·intro w';go_simp
       with_reducible rfl
      rotate_left
      ·simp only[Act.put,List.setIfInBounds_toArray,List.set_cons_zero,List.set_cons_succ,i64_w,i32_w];rfl
      refine take_ (i:=3) (N:=some 16) (v := .agg #[.string x.f0,.int .i64 x.f1,.int .i64 x.f2,.int .i64 x.f3,.int .i64 x.f4.f0,.int .i64 x.f4.f1,.int .i64 x.f5]) (a':=?_) #[true,true,true,true,false,false,false,false,false,false,false,false,false,false,false,false,false,false,false,false,false,false,false,false] rfl rfl (by kernel_rfl) (fun _ _ _ h=>h) (Or.inl ⟨by rfl,?_⟩) hHeld ?_ ?_
      ·intro w' hS;obtain ⟨ad',had,c0,c1,c2,c3,c4,c5,c6⟩:=at_T87 (Kd.C_below HR.out hS) (i:Int) hi0 hi1;obtain rfl:=Option.some.inj had;rw[HX.out] at c0 c1 c2 c3 c4 c5 c6;simp only[Int.toNat_natCast] at c0 c1 c2 c3 c4 c5 c6;go_simp
      rotate_left
      ·simp only[Act.put,List.setIfInBounds_toArray,List.set_cons_zero,List.set_cons_succ,i64_w,i32_w];rfl
      refine one_ (i:=4) (N:=some 17) #[true,true,true,true,true,false,false,false,false,false,false,false,false,false,false,false,false,false,false,false,false,false,false,false] rfl rfl (by kernel_rfl) (by decide) (fun K hK=>?_);refine goes_ Try.func94 (by kernel_rfl) rfl #[.agg #[.string x.f0,.int .i64 x.f1,.int .i64 x.f2,.int .i64 x.f3,.int .i64 x.f4.f0,.int .i64 x.f4.f1,.int .i64 x.f5]] (by rfl) rfl rfl (by (try simp only[List.map_toArray,List.map_cons,List.map_nil]);first|done|rfl) ?_;refine (view_yes x HW.out _).mono ?_;rintro e w1 ⟨rfl,hb⟩;refine ⟨_,rfl,?_⟩;refine hK.out _ _ (below_step hHeld hb) (fun hHeld=>?_);clear hK K;refine norm_ (a':=?_) ?_ ?_
      rotate_left
      ·show Act.put _ (some 17) _=_
       simp only[Act.put,List.setIfInBounds_toArray,List.set_cons_zero,List.set_cons_succ,i64_w,i32_w];rfl
      refine pure_ (i:=5) (N:=some 18) (v:=?_) (a':=?_) #[true,true,true,true,true,true,false,false,false,false,false,false,false,false,false,false,false,false,false,false,false,false,false,false] rfl rfl (by kernel_rfl) (fun _ _ _ h=>h) (Or.inl ⟨by rfl,?_⟩) ?_ ?_
      rotate_left
      ·intro w';go_simp
       with_reducible rfl
      rotate_left
      ·simp only[Act.put,List.setIfInBounds_toArray,List.set_cons_zero,List.set_cons_succ,i64_w,i32_w];rfl
      refine pure_ (i:=6) (N:=some 19) (v:=?_) (a':=?_) #[true,true,true,true,true,true,true,false,false,false,false,false,false,false,false,false,false,false,false,false,false,false,false,false] rfl rfl (by kernel_rfl) (fun _ _ _ h=>h) (Or.inl ⟨by rfl,?_⟩) ?_ ?_
      rotate_left
      ·intro w';go_simp
       with_reducible rfl
      rotate_left
      ·simp only[Act.put,List.setIfInBounds_toArray,List.set_cons_zero,List.set_cons_succ,i64_w,i32_w];rfl
      refine pure_ (i:=7) (N:=some 20) (v:=?_) (a':=?_) #[true,true,true,true,true,true,true,true,false,false,false,false,false,false,false,false,false,false,false,false,false,false,false,false] rfl rfl (by kernel_rfl) (fun _ _ _ h=>h) (Or.inl ⟨by rfl,?_⟩) ?_ ?_
      rotate_left
      ·intro w';go_simp
       with_reducible rfl
      rotate_left
      ·simp only[Act.put,List.setIfInBounds_toArray,List.set_cons_zero,List.set_cons_succ,i64_w,i32_w];rfl
      refine pure_ (i:=8) (N:=some 21) (v := .bool false) (a':=?_) #[true,true,true,true,true,true,true,true,true,false,false,false,false,false,false,false,false,false,false,false,false,false,false,false] rfl rfl (by kernel_rfl) (fun _ _ _ h=>h) (Or.inl ⟨by rfl,?_⟩) ?_ ?_
      ·intro w';go_simp
       first|done|(have:=HZ.out;omega)
      rotate_left
      ·simp only[Act.put,List.setIfInBounds_toArray,List.set_cons_zero,List.set_cons_succ,i64_w,i32_w];rfl
      refine pure_ (i:=9) (N:=some 22) (v:=?_) (a':=?_) #[true,true,true,true,true,true,true,true,true,true,false,false,false,false,false,false,false,false,false,false,false,false,false,false] rfl rfl (by kernel_rfl) (fun _ _ _ h=>h) (Or.inl ⟨by rfl,?_⟩) ?_ ?_
      rotate_left
      ·intro w';go_simp
       with_reducible rfl
      rotate_left
      ·simp only[Act.put,List.setIfInBounds_toArray,List.set_cons_zero,List.set_cons_succ,i64_w,i32_w];rfl
      refine pure_ (i:=10) (N:=some 23) (v:=undef) (a':=?_) #[true,true,true,true,true,true,true,true,true,true,true,false,false,false,false,false,false,false,false,false,false,false,false,false] rfl rfl (by kernel_rfl) (fun _ _ _ h=>h) (Or.inr ⟨by rfl,rfl⟩) ?_ ?_
      rotate_left
      ·simp only[Act.put,List.setIfInBounds_toArray,List.set_cons_zero,List.set_cons_succ,i64_w,i32_w];rfl
      refine pure_ (i:=11) (N:=some 24) (v:=undef) (a':=?_) #[true,true,true,true,true,true,true,true,true,true,true,true,false,false,false,false,false,false,false,false,false,false,false,false] rfl rfl (by kernel_rfl) (fun _ _ _ h=>h) (Or.inr ⟨by rfl,rfl⟩) ?_ ?_
      rotate_left
      ·simp only[Act.put,List.setIfInBounds_toArray,List.set_cons_zero,List.set_cons_succ,i64_w,i32_w];rfl
      refine pure_ (i:=12) (N:=some 25) (v:=undef) (a':=?_) #[true,true,true,true,true,true,true,true,true,true,true,true,true,false,false,false,false,false,false,false,false,false,false,false] rfl rfl (by kernel_rfl) (fun _ _ _ h=>h) (Or.inr ⟨by rfl,rfl⟩) ?_ ?_
      rotate_left
      ·simp only[Act.put,List.setIfInBounds_toArray,List.set_cons_zero,List.set_cons_succ,i64_w,i32_w];rfl
      refine pure_ (i:=13) (N:=some 26) (v:=undef) (a':=?_) #[true,true,true,true,true,true,true,true,true,true,true,true,true,true,false,false,false,false,false,false,false,false,false,false] rfl rfl (by kernel_rfl) (fun _ _ _ h=>h) (Or.inr ⟨by rfl,rfl⟩) ?_ ?_
      rotate_left
      ·simp only[Act.put,List.setIfInBounds_toArray,List.set_cons_zero,List.set_cons_succ,i64_w,i32_w];rfl
      refine pure_ (i:=14) (N:=some 27) (v:=undef) (a':=?_) #[true,true,true,true,true,true,true,true,true,true,true,true,true,true,true,false,false,false,false,false,false,false,false,false] rfl rfl (by kernel_rfl) (fun _ _ _ h=>h) (Or.inr ⟨by rfl,rfl⟩) ?_ ?_
      rotate_left
      ·simp only[Act.put,List.setIfInBounds_toArray,List.set_cons_zero,List.set_cons_succ,i64_w,i32_w];rfl
      refine pure_ (i:=15) (N:=some 28) (v:=undef) (a':=?_) #[true,true,true,true,true,true,true,true,true,true,true,true,true,true,true,true,false,false,false,false,false,false,false,false] rfl rfl (by kernel_rfl) (fun _ _ _ h=>h) (Or.inr ⟨by rfl,rfl⟩) ?_ ?_
      rotate_left
      ·simp only[Act.put,List.setIfInBounds_toArray,List.set_cons_zero,List.set_cons_succ,i64_w,i32_w];rfl
      refine pure_ (i:=16) (N:=some 29) (v:=undef) (a':=?_) #[true,true,true,true,true,true,true,true,true,true,true,true,true,true,true,true,true,false,false,false,false,false,false,false] rfl rfl (by kernel_rfl) (fun _ _ _ h=>h) (Or.inr ⟨by rfl,rfl⟩) ?_ ?_
      rotate_left
      ·simp only[Act.put,List.setIfInBounds_toArray,List.set_cons_zero,List.set_cons_succ,i64_w,i32_w];rfl
      refine pure_ (i:=17) (N:=some 30) (v:=undef) (a':=?_) #[true,true,true,true,true,true,true,true,true,true,true,true,true,true,true,true,true,true,false,false,false,false,false,false] rfl rfl (by kernel_rfl) (fun _ _ _ h=>h) (Or.inr ⟨by rfl,rfl⟩) ?_ ?_
      rotate_left
      ·simp only[Act.put,List.setIfInBounds_toArray,List.set_cons_zero,List.set_cons_succ,i64_w,i32_w];rfl
      refine pure_ (i:=18) (N:=some 31) (v:=undef) (a':=?_) #[true,true,true,true,true,true,true,true,true,true,true,true,true,true,true,true,true,true,true,false,false,false,false,false] rfl rfl (by kernel_rfl) (fun _ _ _ h=>h) (Or.inr ⟨by rfl,rfl⟩) ?_ ?_
      rotate_left
      ·simp only[Act.put,List.setIfInBounds_toArray,List.set_cons_zero,List.set_cons_succ,i64_w,i32_w];rfl
      refine pure_ (i:=19) (N:=some 32) (v:=undef) (a':=?_) #[true,true,true,true,true,true,true,true,true,true,true,true,true,true,true,true,true,true,true,true,false,false,false,false] rfl rfl (by kernel_rfl) (fun _ _ _ h=>h) (Or.inr ⟨by rfl,rfl⟩) ?_ ?_
      rotate_left
      ·simp only[Act.put,List.setIfInBounds_toArray,List.set_cons_zero,List.set_cons_succ,i64_w,i32_w];rfl
      refine pure_ (i:=20) (N:=some 33) (v:=undef) (a':=?_) #[true,true,true,true,true,true,true,true,true,true,true,true,true,true,true,true,true,true,true,true,true,false,false,false] rfl rfl (by kernel_rfl) (fun _ _ _ h=>h) (Or.inr ⟨by rfl,rfl⟩) ?_ ?_
      rotate_left
      ·simp only[Act.put,List.setIfInBounds_toArray,List.set_cons_zero,List.set_cons_succ,i64_w,i32_w];rfl
      refine pure_ (i:=21) (N:=some 34) (v:=undef) (a':=?_) #[true,true,true,true,true,true,true,true,true,true,true,true,true,true,true,true,true,true,true,true,true,true,false,false] rfl rfl (by kernel_rfl) (fun _ _ _ h=>h) (Or.inr ⟨by rfl,rfl⟩) ?_ ?_
      rotate_left
      ·simp only[Act.put,List.setIfInBounds_toArray,List.set_cons_zero,List.set_cons_succ,i64_w,i32_w];rfl
      refine pure_ (i:=22) (N:=some 35) (v:=?_) (a':=?_) #[true,true,true,true,true,true,true,true,true,true,true,true,true,true,true,true,true,true,true,true,true,true,true,false] rfl rfl (by kernel_rfl) (fun _ _ _ h=>h) (Or.inl ⟨by rfl,?_⟩) ?_ ?_
      rotate_left
      ·intro w';go_simp
       with_reducible rfl
      rotate_left
      ·simp only[Act.put,List.setIfInBounds_toArray,List.set_cons_zero,List.set_cons_succ,i64_w,i32_w];rfl
      refine pure_ (i:=23) (N:=some 36) (v:=?_) (a':=?_) #[true,true,true,true,true,true,true,true,true,true,true,true,true,true,true,true,true,true,true,true,true,true,true,true] rfl rfl (by kernel_rfl) (fun _ _ _ h=>h) (Or.inl ⟨by rfl,?_⟩) ?_ ?_
      rotate_left
      ·intro w';go_simp
       with_reducible rfl
      rotate_left
      ·simp only[Act.put,List.setIfInBounds_toArray,List.set_cons_zero,List.set_cons_succ,i64_w,i32_w];rfl
      refine done_ (by kernel_rfl) ?_;go_wp2_with fail
      go_roundw
      case rel=>exact ⟨i+1,by go_num,⟨by have:=HLT.out;omega,HV.out.trans ⟨fun h=>h.2,fun h=>⟨viewV_iff.mpr ⟨by unfold ahead;rw[if_pos HZ.out];exact above_nil HW.out.1,HW.out⟩,h⟩⟩,hHeld⟩⟩
      case measure=>simp only[intOf];have:=HLT.out;first|omega|(go_num;omega)|(simp;omega)
     ·have hj0:(0:Int)≤(i:Int) - 1:=by omega
      have hj1:(i:Int) - 1<(l.length:Int):=by omega
      have hp1:((i:Int) - 1).toNat=i - 1:=by omega
      obtain ⟨q,hq⟩:∃ q,(rd_T87 l ((i:Int) - 1)).f0=q:=⟨_,rfl⟩;have HQ2:=Aside0.mk hq;have HA:Aside0 (ahead l i=q):=⟨by unfold ahead;rw[if_neg hz];exact hq⟩;have h1i:(1:Int)≤(i:Int):=by omega
      have HZ:=Aside0.mk hz;have hw1:IntKind.i64.wrap ((i:Int) - 1)=(i:Int) - 1:=IntWalk.i64_in _ (by omega);clear hq hz;go_upto_region 6 with fail
      refine start_ (n:=24) (S:=fun w'=>Below w.heap.size w w') (ds:=[]) #[false,false,false,false,false,false,false,false,false,false,false,false,false,false,false,false,false,false,false,false,false,false,false,false] (by kernel_rfl) rfl rfl (below_drew1 HQ.out.2.2) (fun hHeld=>?_);refine pure_ (i:=0) (N:=some 13) (v:=?_) (a':=?_) #[true,false,false,false,false,false,false,false,false,false,false,false,false,false,false,false,false,false,false,false,false,false,false,false] rfl rfl (by kernel_rfl) (fun _ _ _ h=>h) (Or.inl ⟨by rfl,?_⟩) ?_ ?_
      rotate_left
      ·intro w';go_simp
       with_reducible rfl
      rotate_left
      ·simp only[Act.put,List.setIfInBounds_toArray,List.set_cons_zero,List.set_cons_succ,i64_w,i32_w];rfl
      refine pure_ (i:=1) (N:=some 14) (v:=?_) (a':=?_) #[true,true,false,false,false,false,false,false,false,false,false,false,false,false,false,false,false,false,false,false,false,false,false,false] rfl rfl (by kernel_rfl) (fun _ _ _ h=>h) (Or.inl ⟨by rfl,?_⟩) ?_ ?_
      rotate_left
      ·intro w';go_simp
       with_reducible rfl
      rotate_left
      ·simp only[Act.put,List.setIfInBounds_toArray,List.set_cons_zero,List.set_cons_succ,i64_w,i32_w];rfl
      refine pure_ (i:=2) (N:=some 15) (v:=?_) (a':=?_) #[true,true,true,false,false,false,false,false,false,false,false,false,false,false,false,false,false,false,false,false,false,false,false,false] rfl rfl (by kernel_rfl) (fun _ _ _ h=>h) (Or.inl ⟨by rfl,?_⟩) ?_ ?_
      rotate_left
      ·intro w';go_simp
       with_reducible rfl
      rotate_left
      ·simp only[Act.put,List.setIfInBounds_toArray,List.set_cons_zero,List.set_cons_succ,i64_w,i32_w];rfl
      refine take_ (i:=3) (N:=some 16) (v := .agg #[.string x.f0,.int .i64 x.f1,.int .i64 x.f2,.int .i64 x.f3,.int .i64 x.f4.f0,.int .i64 x.f4.f1,.int .i64 x.f5]) (a':=?_) #[true,true,true,true,false,false,false,false,false,false,false,false,false,false,false,false,false,false,false,false,false,false,false,false] rfl rfl (by kernel_rfl) (fun _ _ _ h=>h) (Or.inl ⟨by rfl,?_⟩) hHeld ?_ ?_
      ·intro w' hS;obtain ⟨ad',had,c0,c1,c2,c3,c4,c5,c6⟩:=at_T87 (Kd.C_below HR.out hS) (i:Int) hi0 hi1;obtain rfl:=Option.some.inj had;rw[HX.out] at c0 c1 c2 c3 c4 c5 c6;simp only[Int.toNat_natCast] at c0 c1 c2 c3 c4 c5 c6;go_simp
      rotate_left
      ·simp only[Act.put,List.setIfInBounds_toArray,List.set_cons_zero,List.set_cons_succ,i64_w,i32_w];rfl
      refine one_ (i:=4) (N:=some 17) #[true,true,true,true,true,false,false,false,false,false,false,false,false,false,false,false,false,false,false,false,false,false,false,false] rfl rfl (by kernel_rfl) (by decide) (fun K hK=>?_);refine goes_ Try.func94 (by kernel_rfl) rfl #[.agg #[.string x.f0,.int .i64 x.f1,.int .i64 x.f2,.int .i64 x.f3,.int .i64 x.f4.f0,.int .i64 x.f4.f1,.int .i64 x.f5]] (by rfl) rfl rfl (by (try simp only[List.map_toArray,List.map_cons,List.map_nil]);first|done|rfl) ?_;refine (view_yes x HW.out _).mono ?_;rintro e w1 ⟨rfl,hb⟩;refine ⟨_,rfl,?_⟩;refine hK.out _ _ (below_step hHeld hb) (fun hHeld=>?_);clear hK K;refine norm_ (a':=?_) ?_ ?_
      rotate_left
      ·show Act.put _ (some 17) _=_
       simp only[Act.put,List.setIfInBounds_toArray,List.set_cons_zero,List.set_cons_succ,i64_w,i32_w];rfl
      refine pure_ (i:=5) (N:=some 18) (v:=?_) (a':=?_) #[true,true,true,true,true,true,false,false,false,false,false,false,false,false,false,false,false,false,false,false,false,false,false,false] rfl rfl (by kernel_rfl) (fun _ _ _ h=>h) (Or.inl ⟨by rfl,?_⟩) ?_ ?_
      rotate_left
      ·intro w';go_simp
       with_reducible rfl
      rotate_left
      ·simp only[Act.put,List.setIfInBounds_toArray,List.set_cons_zero,List.set_cons_succ,i64_w,i32_w];rfl
      refine pure_ (i:=6) (N:=some 19) (v:=?_) (a':=?_) #[true,true,true,true,true,true,true,false,false,false,false,false,false,false,false,false,false,false,false,false,false,false,false,false] rfl rfl (by kernel_rfl) (fun _ _ _ h=>h) (Or.inl ⟨by rfl,?_⟩) ?_ ?_
      rotate_left
      ·intro w';go_simp
       with_reducible rfl
      rotate_left
      ·simp only[Act.put,List.setIfInBounds_toArray,List.set_cons_zero,List.set_cons_succ,i64_w,i32_w];rfl
      refine pure_ (i:=7) (N:=some 20) (v:=?_) (a':=?_) #[true,true,true,true,true,true,true,true,false,false,false,false,false,false,false,false,false,false,false,false,false,false,false,false] rfl rfl (by kernel_rfl) (fun _ _ _ h=>h) (Or.inl ⟨by rfl,?_⟩) ?_ ?_
      rotate_left
      ·intro w';go_simp
       with_reducible rfl
      rotate_left
      ·simp only[Act.put,List.setIfInBounds_toArray,List.set_cons_zero,List.set_cons_succ,i64_w,i32_w];rfl
      refine pure_ (i:=8) (N:=some 21) (v := .bool true) (a':=?_) #[true,true,true,true,true,true,true,true,true,false,false,false,false,false,false,false,false,false,false,false,false,false,false,false] rfl rfl (by kernel_rfl) (fun _ _ _ h=>h) (Or.inl ⟨by rfl,?_⟩) ?_ ?_
      ·intro w';go_simp
       first|done|(have:=HZ.out;omega)
      rotate_left
      ·simp only[Act.put,List.setIfInBounds_toArray,List.set_cons_zero,List.set_cons_succ,i64_w,i32_w];rfl
      refine pure_ (i:=9) (N:=some 22) (v:=?_) (a':=?_) #[true,true,true,true,true,true,true,true,true,true,false,false,false,false,false,false,false,false,false,false,false,false,false,false] rfl rfl (by kernel_rfl) (fun _ _ _ h=>h) (Or.inl ⟨by rfl,?_⟩) ?_ ?_
      rotate_left
      ·intro w';go_simp
       with_reducible rfl
      rotate_left
      ·simp only[Act.put,List.setIfInBounds_toArray,List.set_cons_zero,List.set_cons_succ,i64_w,i32_w];rfl
      refine pure_ (i:=10) (N:=some 23) (v:=?_) (a':=?_) #[true,true,true,true,true,true,true,true,true,true,true,false,false,false,false,false,false,false,false,false,false,false,false,false] rfl rfl (by kernel_rfl) (fun _ _ _ h=>h) (Or.inl ⟨by rfl,?_⟩) ?_ ?_
      rotate_left
      ·intro w';go_simp
       with_reducible rfl
      rotate_left
      ·simp only[Act.put,List.setIfInBounds_toArray,List.set_cons_zero,List.set_cons_succ,i64_w,i32_w];rfl
      refine pure_ (i:=11) (N:=some 24) (v:=?_) (a':=?_) #[true,true,true,true,true,true,true,true,true,true,true,true,false,false,false,false,false,false,false,false,false,false,false,false] rfl rfl (by kernel_rfl) (fun _ _ _ h=>h) (Or.inl ⟨by rfl,?_⟩) ?_ ?_
      rotate_left
      ·intro w';go_simp
       with_reducible rfl
      rotate_left
      ·simp only[Act.put,List.setIfInBounds_toArray,List.set_cons_zero,List.set_cons_succ,i64_w,i32_w];rfl
      refine pure_ (i:=12) (N:=some 25) (v:=?_) (a':=?_) #[true,true,true,true,true,true,true,true,true,true,true,true,true,false,false,false,false,false,false,false,false,false,false,false] rfl rfl (by kernel_rfl) (fun _ _ _ h=>h) (Or.inl ⟨by rfl,?_⟩) ?_ ?_
      rotate_left
      ·intro w';go_simp
       with_reducible rfl
      rotate_left
      ·simp only[Act.put,List.setIfInBounds_toArray,List.set_cons_zero,List.set_cons_succ,i64_w,i32_w];rfl
      refine pure_ (i:=13) (N:=some 26) (v:=?_) (a':=?_) #[true,true,true,true,true,true,true,true,true,true,true,true,true,true,false,false,false,false,false,false,false,false,false,false] rfl rfl (by kernel_rfl) (fun _ _ _ h=>h) (Or.inl ⟨by rfl,?_⟩) ?_ ?_
      rotate_left
      ·intro w';go_simp
       with_reducible rfl
      rotate_left
      ·simp only[Act.put,List.setIfInBounds_toArray,List.set_cons_zero,List.set_cons_succ,i64_w,i32_w];rfl
      refine take_ (i:=14) (N:=some 27) (v := .string x.f0) (a':=?_) #[true,true,true,true,true,true,true,true,true,true,true,true,true,true,true,false,false,false,false,false,false,false,false,false] rfl rfl (by kernel_rfl) (fun _ _ _ h=>h) (Or.inl ⟨by rfl,?_⟩) hHeld ?_ ?_
      ·intro w' hS;obtain ⟨ad',had,c0,c1,c2,c3,c4,c5,c6⟩:=at_T87 (Kd.C_below HR.out hS) (i:Int) hi0 hi1;obtain rfl:=Option.some.inj had;rw[HX.out] at c0 c1 c2 c3 c4 c5 c6;simp only[Int.toNat_natCast] at c0 c1 c2 c3 c4 c5 c6;go_simp
      rotate_left
      ·simp only[Act.put,List.setIfInBounds_toArray,List.set_cons_zero,List.set_cons_succ,i64_w,i32_w];rfl
      refine pure_ (i:=15) (N:=some 28) (v:=?_) (a':=?_) #[true,true,true,true,true,true,true,true,true,true,true,true,true,true,true,true,false,false,false,false,false,false,false,false] rfl rfl (by kernel_rfl) (fun _ _ _ h=>h) (Or.inl ⟨by rfl,?_⟩) ?_ ?_
      rotate_left
      ·intro w';go_simp
       with_reducible rfl
      rotate_left
      ·simp only[Act.put,List.setIfInBounds_toArray,List.set_cons_zero,List.set_cons_succ,i64_w,i32_w];rfl
      refine pure_ (i:=16) (N:=some 29) (v:=?_) (a':=?_) #[true,true,true,true,true,true,true,true,true,true,true,true,true,true,true,true,true,false,false,false,false,false,false,false] rfl rfl (by kernel_rfl) (fun _ _ _ h=>h) (Or.inl ⟨by rfl,?_⟩) ?_ ?_
      rotate_left
      ·intro w';go_simp
       with_reducible rfl
      rotate_left
      ·simp only[Act.put,List.setIfInBounds_toArray,List.set_cons_zero,List.set_cons_succ,i64_w,i32_w];rfl
      refine pure_ (i:=17) (N:=some 30) (v:=?_) (a':=?_) #[true,true,true,true,true,true,true,true,true,true,true,true,true,true,true,true,true,true,false,false,false,false,false,false] rfl rfl (by kernel_rfl) (fun _ _ _ h=>h) (Or.inl ⟨by rfl,?_⟩) ?_ ?_
      rotate_left
      ·intro w';go_simp
       with_reducible rfl
      rotate_left
      ·simp only[Act.put,List.setIfInBounds_toArray,List.set_cons_zero,List.set_cons_succ,i64_w,i32_w];rfl
      refine pure_ (i:=18) (N:=some 31) (v:=?_) (a':=?_) #[true,true,true,true,true,true,true,true,true,true,true,true,true,true,true,true,true,true,true,false,false,false,false,false] rfl rfl (by kernel_rfl) (fun _ _ _ h=>h) (Or.inl ⟨by rfl,?_⟩) ?_ ?_
      rotate_left
      ·intro w';go_simp
       with_reducible rfl
      rotate_left
      ·simp only[Act.put,List.setIfInBounds_toArray,List.set_cons_zero,List.set_cons_succ,i64_w,i32_w];rfl
      refine pure_ (i:=19) (N:=some 32) (v:=?_) (a':=?_) #[true,true,true,true,true,true,true,true,true,true,true,true,true,true,true,true,true,true,true,true,false,false,false,false] rfl rfl (by kernel_rfl) (fun _ _ _ h=>h) (Or.inl ⟨by rfl,?_⟩) ?_ ?_
      rotate_left
      ·intro w';go_simp
       with_reducible rfl
      rotate_left
      ·simp only[Act.put,List.setIfInBounds_toArray,List.set_cons_zero,List.set_cons_succ,i64_w,i32_w];rfl
      refine take_ (i:=20) (N:=some 33) (v := .string q) (a':=?_) #[true,true,true,true,true,true,true,true,true,true,true,true,true,true,true,true,true,true,true,true,true,false,false,false] rfl rfl (by kernel_rfl) (fun _ _ _ h=>h) (Or.inl ⟨by rfl,?_⟩) hHeld ?_ ?_
      ·intro w' hS;obtain ⟨ad',had,c0,_⟩:=at_T87 (Kd.C_below HR.out hS) ((i:Int) - 1) hj0 hj1;obtain rfl:=Option.some.inj had;rw[HQ2.out,hp1] at c0;go_simp
      rotate_left
      ·simp only[Act.put,List.setIfInBounds_toArray,List.set_cons_zero,List.set_cons_succ,i64_w,i32_w];rfl
      refine pure_ (i:=21) (N:=some 34) (v:=?_) (a':=?_) #[true,true,true,true,true,true,true,true,true,true,true,true,true,true,true,true,true,true,true,true,true,true,false,false] rfl rfl (by kernel_rfl) (fun _ _ _ h=>h) (Or.inl ⟨by rfl,?_⟩) ?_ ?_
      rotate_left
      ·intro w';go_simp
       with_reducible rfl
      rotate_left
      ·simp only[Act.put,List.setIfInBounds_toArray,List.set_cons_zero,List.set_cons_succ,i64_w,i32_w];rfl
      refine pure_ (i:=22) (N:=some 35) (v:=?_) (a':=?_) #[true,true,true,true,true,true,true,true,true,true,true,true,true,true,true,true,true,true,true,true,true,true,true,false] rfl rfl (by kernel_rfl) (fun _ _ _ h=>h) (Or.inl ⟨by rfl,?_⟩) ?_ ?_
      rotate_left
      ·intro w';go_simp
       with_reducible rfl
      rotate_left
      ·simp only[Act.put,List.setIfInBounds_toArray,List.set_cons_zero,List.set_cons_succ,i64_w,i32_w];rfl
      refine pure_ (i:=23) (N:=some 36) (v:=?_) (a':=?_) #[true,true,true,true,true,true,true,true,true,true,true,true,true,true,true,true,true,true,true,true,true,true,true,true] rfl rfl (by kernel_rfl) (fun _ _ _ h=>h) (Or.inl ⟨by rfl,?_⟩) ?_ ?_
      rotate_left
      ·intro w';go_simp
       with_reducible rfl
      rotate_left
      ·simp only[Act.put,List.setIfInBounds_toArray,List.set_cons_zero,List.set_cons_succ,i64_w,i32_w];rfl
      refine done_ (by kernel_rfl) ?_;go_wp2_with fail
      ·have hb:(!Go.Op.bytesLess q.toList x.f0.toList)=true:=by assumption
       go_ret
       exact ⟨by rw[dcd_neg (fun h=>by have:=(viewV_iff.mp (HV.out.mp h.2).1).1;rw[HA.out] at this;unfold above at this;rw[this] at hb;cases hb)];rfl,hHeld⟩
      ·have hb:(!Go.Op.bytesLess q.toList x.f0.toList)=false:=by assumption
       have HB2:Aside0 (Go.Op.bytesLess q.toList x.f0.toList=true):=⟨by cases h:Go.Op.bytesLess q.toList x.f0.toList;rw[h] at hb;cases hb;rfl⟩;go_roundw
       case rel=>exact ⟨i+1,by go_num,⟨by have:=HLT.out;omega,HV.out.trans ⟨fun h=>h.2,fun h=>⟨viewV_iff.mpr ⟨by rw[HA.out];exact HB2.out,HW.out⟩,h⟩⟩,hHeld⟩⟩
       case measure=>simp only[intOf];have:=HLT.out;first|omega|(go_num;omega)|(simp;omega)
    ·have HW:=Aside0.mk hw;clear hw;go_upto_region 6 with fail
     refine start_ (n:=24) (S:=fun w'=>Below w.heap.size w w') (ds:=[]) #[false,false,false,false,false,false,false,false,false,false,false,false,false,false,false,false,false,false,false,false,false,false,false,false] (by kernel_rfl) rfl rfl (below_drew1 HQ.out.2.2) (fun hHeld=>?_);refine pure_ (i:=0) (N:=some 13) (v:=?_) (a':=?_) #[true,false,false,false,false,false,false,false,false,false,false,false,false,false,false,false,false,false,false,false,false,false,false,false] rfl rfl (by kernel_rfl) (fun _ _ _ h=>h) (Or.inl ⟨by rfl,?_⟩) ?_ ?_
     rotate_left
     ·intro w';go_simp
      with_reducible rfl
     rotate_left
     ·simp only[Act.put,List.setIfInBounds_toArray,List.set_cons_zero,List.set_cons_succ,i64_w,i32_w];rfl
     refine pure_ (i:=1) (N:=some 14) (v:=?_) (a':=?_) #[true,true,false,false,false,false,false,false,false,false,false,false,false,false,false,false,false,false,false,false,false,false,false,false] rfl rfl (by kernel_rfl) (fun _ _ _ h=>h) (Or.inl ⟨by rfl,?_⟩) ?_ ?_
     rotate_left
     ·intro w';go_simp
      with_reducible rfl
     rotate_left
     ·simp only[Act.put,List.setIfInBounds_toArray,List.set_cons_zero,List.set_cons_succ,i64_w,i32_w];rfl
     refine pure_ (i:=2) (N:=some 15) (v:=?_) (a':=?_) #[true,true,true,false,false,false,false,false,false,false,false,false,false,false,false,false,false,false,false,false,false,false,false,false] rfl rfl (by kernel_rfl) (fun _ _ _ h=>h) (Or.inl ⟨by rfl,?_⟩) ?_ ?_
     rotate_left
     ·intro w';go_simp
      with_reducible rfl
     rotate_left
     ·simp only[Act.put,List.setIfInBounds_toArray,List.set_cons_zero,List.set_cons_succ,i64_w,i32_w];rfl
     refine take_ (i:=3) (N:=some 16) (v := .agg #[.string x.f0,.int .i64 x.f1,.int .i64 x.f2,.int .i64 x.f3,.int .i64 x.f4.f0,.int .i64 x.f4.f1,.int .i64 x.f5]) (a':=?_) #[true,true,true,true,false,false,false,false,false,false,false,false,false,false,false,false,false,false,false,false,false,false,false,false] rfl rfl (by kernel_rfl) (fun _ _ _ h=>h) (Or.inl ⟨by rfl,?_⟩) hHeld ?_ ?_
     ·intro w' hS;obtain ⟨ad',had,c0,c1,c2,c3,c4,c5,c6⟩:=at_T87 (Kd.C_below HR.out hS) (i:Int) hi0 hi1;obtain rfl:=Option.some.inj had;rw[HX.out] at c0 c1 c2 c3 c4 c5 c6;simp only[Int.toNat_natCast] at c0 c1 c2 c3 c4 c5 c6;go_simp
     rotate_left
     ·simp only[Act.put,List.setIfInBounds_toArray,List.set_cons_zero,List.set_cons_succ,i64_w,i32_w];rfl
     refine one_ (i:=4) (N:=some 17) #[true,true,true,true,true,false,false,false,false,false,false,false,false,false,false,false,false,false,false,false,false,false,false,false] rfl rfl (by kernel_rfl) (by decide) (fun K hK=>?_);refine goes_ Try.func94 (by kernel_rfl) rfl #[.agg #[.string x.f0,.int .i64 x.f1,.int .i64 x.f2,.int .i64 x.f3,.int .i64 x.f4.f0,.int .i64 x.f4.f1,.int .i64 x.f5]] (by rfl) rfl rfl (by (try simp only[List.map_toArray,List.map_cons,List.map_nil]);first|done|rfl) ?_;refine (view_no x HW.out _).mono ?_;rintro e w1 ⟨rfl,hb⟩;refine ⟨_,rfl,?_⟩;refine hK.out _ _ (below_step hHeld hb) (fun hHeld=>?_);clear hK K;refine norm_ (a':=?_) ?_ ?_
     rotate_left
     ·show Act.put _ (some 17) _=_
      simp only[Act.put,List.setIfInBounds_toArray,List.set_cons_zero,List.set_cons_succ,i64_w,i32_w];rfl
     refine pure_ (i:=5) (N:=some 18) (v:=?_) (a':=?_) #[true,true,true,true,true,true,false,false,false,false,false,false,false,false,false,false,false,false,false,false,false,false,false,false] rfl rfl (by kernel_rfl) (fun _ _ _ h=>h) (Or.inl ⟨by rfl,?_⟩) ?_ ?_
     rotate_left
     ·intro w';go_simp
      with_reducible rfl
     rotate_left
     ·simp only[Act.put,List.setIfInBounds_toArray,List.set_cons_zero,List.set_cons_succ,i64_w,i32_w];rfl
     refine pure_ (i:=6) (N:=some 19) (v:=?_) (a':=?_) #[true,true,true,true,true,true,true,false,false,false,false,false,false,false,false,false,false,false,false,false,false,false,false,false] rfl rfl (by kernel_rfl) (fun _ _ _ h=>h) (Or.inl ⟨by rfl,?_⟩) ?_ ?_
     rotate_left
     ·intro w';go_simp
      with_reducible rfl
     rotate_left
     ·simp only[Act.put,List.setIfInBounds_toArray,List.set_cons_zero,List.set_cons_succ,i64_w,i32_w];rfl
     refine pure_ (i:=7) (N:=some 20) (v:=undef) (a':=?_) #[true,true,true,true,true,true,true,true,false,false,false,false,false,false,false,false,false,false,false,false,false,false,false,false] rfl rfl (by kernel_rfl) (fun _ _ _ h=>h) (Or.inr ⟨by rfl,rfl⟩) ?_ ?_
     rotate_left
     ·simp only[Act.put,List.setIfInBounds_toArray,List.set_cons_zero,List.set_cons_succ,i64_w,i32_w];rfl
     refine pure_ (i:=8) (N:=some 21) (v:=undef) (a':=?_) #[true,true,true,true,true,true,true,true,true,false,false,false,false,false,false,false,false,false,false,false,false,false,false,false] rfl rfl (by kernel_rfl) (fun _ _ _ h=>h) (Or.inr ⟨by rfl,rfl⟩) ?_ ?_
     rotate_left
     ·simp only[Act.put,List.setIfInBounds_toArray,List.set_cons_zero,List.set_cons_succ,i64_w,i32_w];rfl
     refine pure_ (i:=9) (N:=some 22) (v:=undef) (a':=?_) #[true,true,true,true,true,true,true,true,true,true,false,false,false,false,false,false,false,false,false,false,false,false,false,false] rfl rfl (by kernel_rfl) (fun _ _ _ h=>h) (Or.inr ⟨by rfl,rfl⟩) ?_ ?_
     rotate_left
     ·simp only[Act.put,List.setIfInBounds_toArray,List.set_cons_zero,List.set_cons_succ,i64_w,i32_w];rfl
     refine pure_ (i:=10) (N:=some 23) (v:=undef) (a':=?_) #[true,true,true,true,true,true,true,true,true,true,true,false,false,false,false,false,false,false,false,false,false,false,false,false] rfl rfl (by kernel_rfl) (fun _ _ _ h=>h) (Or.inr ⟨by rfl,rfl⟩) ?_ ?_
     rotate_left
     ·simp only[Act.put,List.setIfInBounds_toArray,List.set_cons_zero,List.set_cons_succ,i64_w,i32_w];rfl
     refine pure_ (i:=11) (N:=some 24) (v:=undef) (a':=?_) #[true,true,true,true,true,true,true,true,true,true,true,true,false,false,false,false,false,false,false,false,false,false,false,false] rfl rfl (by kernel_rfl) (fun _ _ _ h=>h) (Or.inr ⟨by rfl,rfl⟩) ?_ ?_
     rotate_left
     ·simp only[Act.put,List.setIfInBounds_toArray,List.set_cons_zero,List.set_cons_succ,i64_w,i32_w];rfl
     refine pure_ (i:=12) (N:=some 25) (v:=undef) (a':=?_) #[true,true,true,true,true,true,true,true,true,true,true,true,true,false,false,false,false,false,false,false,false,false,false,false] rfl rfl (by kernel_rfl) (fun _ _ _ h=>h) (Or.inr ⟨by rfl,rfl⟩) ?_ ?_
     rotate_left
     ·simp only[Act.put,List.setIfInBounds_toArray,List.set_cons_zero,List.set_cons_succ,i64_w,i32_w];rfl
     refine pure_ (i:=13) (N:=some 26) (v:=undef) (a':=?_) #[true,true,true,true,true,true,true,true,true,true,true,true,true,true,false,false,false,false,false,false,false,false,false,false] rfl rfl (by kernel_rfl) (fun _ _ _ h=>h) (Or.inr ⟨by rfl,rfl⟩) ?_ ?_
     rotate_left
     ·simp only[Act.put,List.setIfInBounds_toArray,List.set_cons_zero,List.set_cons_succ,i64_w,i32_w];rfl
     refine pure_ (i:=14) (N:=some 27) (v:=undef) (a':=?_) #[true,true,true,true,true,true,true,true,true,true,true,true,true,true,true,false,false,false,false,false,false,false,false,false] rfl rfl (by kernel_rfl) (fun _ _ _ h=>h) (Or.inr ⟨by rfl,rfl⟩) ?_ ?_
     rotate_left
     ·simp only[Act.put,List.setIfInBounds_toArray,List.set_cons_zero,List.set_cons_succ,i64_w,i32_w];rfl
     refine pure_ (i:=15) (N:=some 28) (v:=undef) (a':=?_) #[true,true,true,true,true,true,true,true,true,true,true,true,true,true,true,true,false,false,false,false,false,false,false,false] rfl rfl (by kernel_rfl) (fun _ _ _ h=>h) (Or.inr ⟨by rfl,rfl⟩) ?_ ?_
     rotate_left
     ·simp only[Act.put,List.setIfInBounds_toArray,List.set_cons_zero,List.set_cons_succ,i64_w,i32_w];rfl
     refine pure_ (i:=16) (N:=some 29) (v:=undef) (a':=?_) #[true,true,true,true,true,true,true,true,true,true,true,true,true,true,true,true,true,false,false,false,false,false,false,false] rfl rfl (by kernel_rfl) (fun _ _ _ h=>h) (Or.inr ⟨by rfl,rfl⟩) ?_ ?_
     rotate_left
     ·simp only[Act.put,List.setIfInBounds_toArray,List.set_cons_zero,List.set_cons_succ,i64_w,i32_w];rfl
     refine pure_ (i:=17) (N:=some 30) (v:=undef) (a':=?_) #[true,true,true,true,true,true,true,true,true,true,true,true,true,true,true,true,true,true,false,false,false,false,false,false] rfl rfl (by kernel_rfl) (fun _ _ _ h=>h) (Or.inr ⟨by rfl,rfl⟩) ?_ ?_
     rotate_left
     ·simp only[Act.put,List.setIfInBounds_toArray,List.set_cons_zero,List.set_cons_succ,i64_w,i32_w];rfl
     refine pure_ (i:=18) (N:=some 31) (v:=undef) (a':=?_) #[true,true,true,true,true,true,true,true,true,true,true,true,true,true,true,true,true,true,true,false,false,false,false,false] rfl rfl (by kernel_rfl) (fun _ _ _ h=>h) (Or.inr ⟨by rfl,rfl⟩) ?_ ?_
     rotate_left
     ·simp only[Act.put,List.setIfInBounds_toArray,List.set_cons_zero,List.set_cons_succ,i64_w,i32_w];rfl
     refine pure_ (i:=19) (N:=some 32) (v:=undef) (a':=?_) #[true,true,true,true,true,true,true,true,true,true,true,true,true,true,true,true,true,true,true,true,false,false,false,false] rfl rfl (by kernel_rfl) (fun _ _ _ h=>h) (Or.inr ⟨by rfl,rfl⟩) ?_ ?_
     rotate_left
     ·simp only[Act.put,List.setIfInBounds_toArray,List.set_cons_zero,List.set_cons_succ,i64_w,i32_w];rfl
     refine pure_ (i:=20) (N:=some 33) (v:=undef) (a':=?_) #[true,true,true,true,true,true,true,true,true,true,true,true,true,true,true,true,true,true,true,true,true,false,false,false] rfl rfl (by kernel_rfl) (fun _ _ _ h=>h) (Or.inr ⟨by rfl,rfl⟩) ?_ ?_
     rotate_left
     ·simp only[Act.put,List.setIfInBounds_toArray,List.set_cons_zero,List.set_cons_succ,i64_w,i32_w];rfl
     refine pure_ (i:=21) (N:=some 34) (v:=undef) (a':=?_) #[true,true,true,true,true,true,true,true,true,true,true,true,true,true,true,true,true,true,true,true,true,true,false,false] rfl rfl (by kernel_rfl) (fun _ _ _ h=>h) (Or.inr ⟨by rfl,rfl⟩) ?_ ?_
     rotate_left
     ·simp only[Act.put,List.setIfInBounds_toArray,List.set_cons_zero,List.set_cons_succ,i64_w,i32_w];rfl
     refine pure_ (i:=22) (N:=some 35) (v:=undef) (a':=?_) #[true,true,true,true,true,true,true,true,true,true,true,true,true,true,true,true,true,true,true,true,true,true,true,false] rfl rfl (by kernel_rfl) (fun _ _ _ h=>h) (Or.inr ⟨by rfl,rfl⟩) ?_ ?_
     rotate_left
     ·simp only[Act.put,List.setIfInBounds_toArray,List.set_cons_zero,List.set_cons_succ,i64_w,i32_w];rfl
     refine pure_ (i:=23) (N:=some 36) (v:=?_) (a':=?_) #[true,true,true,true,true,true,true,true,true,true,true,true,true,true,true,true,true,true,true,true,true,true,true,true] rfl rfl (by kernel_rfl) (fun _ _ _ h=>h) (Or.inl ⟨by rfl,?_⟩) ?_ ?_
     rotate_left
     ·intro w';go_simp
      with_reducible rfl
     rotate_left
     ·simp only[Act.put,List.setIfInBounds_toArray,List.set_cons_zero,List.set_cons_succ,i64_w,i32_w];rfl
     refine done_ (by kernel_rfl) ?_;go_wp2_with fail
     go_ret
     exact ⟨by rw[dcd_neg (fun h=>HW.out (viewV_iff.mp (HV.out.mp h.2).1).2)];rfl,hHeld⟩
   ·have hi1:¬((i:Int)<(l.length:Int)):=by omega
    have HV:Aside0 (viewsV eB l):=⟨by rw[HQ.out.2.1,List.drop_of_length_le (by omega)];trivial⟩;go_wp2_with fail
    go_ret
    exact ⟨by rw[dcd_pos ⟨by have:=H64.out;omega,HV.out⟩];rfl,HQ.out.2.2⟩
end Go.Proofs.Ytpgdmmjbhjbbhaa.Rf
end
section
namespace Go.Proofs.Ytpgdmmjbhjbbhaa.Rf
open Go Go.RowKit P Sp Vd En Wr Rd Lw YtpgdmmjbhjbbhaaW.PrintWords YtpgdmmjbhjbbhaaW.PrintLast YtpgdmmjbhjbbhaaW.PrintMore
theorem wrap_s {i:Nat} (h:i≤1000000):wrap64 ((i:Int)+1)=((i+1:Nat):Int):=by
 rw[wrap64];simp[IntKind.wrap,IntKind.bits,IntKind.signed];omega
theorem number_l : ∀ (d n : Nat) (x : List Int), n < 128 ^ (d + 1) → n < 18446744073709551616 → x.length + (d + 1) ≤ 100000000 → ∀ k, d + 1 ≤ k → sluiceref2_number.l0 k x (n : Int) = some (x ++ numB n) := by
  intro d
  induction d with
  | zero=>
   intro n x hn h64 hx k hk;obtain ⟨k,rfl⟩:∃ j,k=j+1:=⟨k - 1,by omega⟩;have h1:n<128:=by simpa using hn
   unfold sluiceref2_number.l0;rw[if_neg (by omega),if_pos (by omega),numB_lt h1]
   congr 3
   omega
  | succ d ih=>
   intro n x hn h64 hx k hk;obtain ⟨k,rfl⟩:∃ j,k=j+1:=⟨k - 1,by omega⟩;unfold sluiceref2_number.l0;by_cases h1:n<128
   ·rw[if_neg (by omega),if_pos (by omega),numB_lt h1]
    congr 3
    omega
   ·rw[if_pos (by omega),if_pos (by omega)];have e1:Int.tmod (n:Int) 128=((n % 128:Nat):Int):=by rw[Int.tmod_eq_emod_of_nonneg (by omega)];omega
    have e2:IntKind.u64.wrap (Int.tdiv (n:Int) 128)=((n / 128:Nat):Int):=by
     rw[Int.tdiv_eq_ediv_of_nonneg (by omega)];simp[IntKind.wrap,IntKind.bits,IntKind.signed];omega
    rw[e1,e2,ih (n / 128) _ (by rw[Nat.div_lt_iff_lt_mul (by decide)];rw[Nat.pow_succ] at hn;exact hn) (by omega) (by simp;omega) k (by omega),numB_ge h1];rw[List.append_assoc]
    congr 3
    simp only[List.cons_append,List.nil_append,List.cons.injEq,and_true];omega
theorem number_f (n:Nat) (x:List Int) (h:n<18446744073709551616) (hx:x.length≤10000000) (k:Nat) (hk:10≤k):sluiceref2_number.f k x (n:Int)=some (x++numB n):=
 number_l 9 n x (Nat.lt_of_lt_of_le h (by decide)) h (by omega) k hk
theorem plain_l (l:List Int) (hl:l.length≤100):∀ (n i:Nat) (x:List Int),i+n=l.length→x.length+n * 10≤10000000 → ∀ k,n+11≤k→sluiceref2_plain.l0 k x l (i:Int)=some (x++numsB (l.drop i)):=by
 intro n
 induction n with
 | zero=>
  intro i x hi hx k hk;obtain ⟨k,rfl⟩:∃ j,k=j+1:=⟨k - 1,by omega⟩;unfold sluiceref2_plain.l0;rw[if_neg (by omega),List.drop_of_length_le (by omega)];simp[numsB]
 | succ n ih=>
  intro i x hi hx k hk;obtain ⟨k,rfl⟩:∃ j,k=j+1:=⟨k - 1,by omega⟩;unfold sluiceref2_plain.l0;have hu:=u64_nat (rd l (i:Int));rw[if_pos (by omega),if_pos (by omega),←hu.1,number_f _ x hu.2 (by omega) k (by omega),Option.bind_some,wrap_s (by omega)];have hn:=numB_len10 hu.2;rw[ih (i+1) (x++numB (IntKind.u64.wrap (rd l (i:Int))).toNat) (by omega) (by rw[List.length_append];omega) k (by omega),List.append_assoc]
  congr 2
  have hd:=List.drop_eq_getElem_cons (l:=l) (i:=i) (by omega);have hr:rd l (i:Int)=l[i]:=by simp[rd,List.getD_eq_getElem?_getD,List.getElem?_eq_getElem (show i<l.length by omega)]
  unfold numsB;rw[hd,List.flatMap_cons,hr];rfl
theorem plain_f (l x:List Int) (hl:l.length≤100) (hx:x.length≤1000000) (k:Nat) (hk:111≤k):sluiceref2_plain.f k x l=some (x++numsB l):=by
 have:=plain_l l hl l.length 0 x (by omega) (by omega) k (by omega);rw[List.drop_zero] at this;exact this
theorem text_f (s:ByteArray) (x:List Int) (hs:s.size≤100) (hx:x.length≤100000) (k:Nat) (hk:111≤k):sluiceref2_text.f k x s=some (x++textB s):=by
 unfold sluiceref2_text.f;rw[plain_f _ _ (by simp) (by omega) k hk,Option.bind_some];have hn:numsB [(s.size:Int)]=intB s.size:=by simp[numsB]
 have h2:(intB (s.size:Int)).length≤10:=by rw[intB_of (by omega) (by omega)];exact numB_len10 (by omega)
 rw[hn,if_pos (by rw[List.length_append];omega),List.append_assoc];rfl
theorem signed_f (n:Int) (x:List Int) (hn:isI n) (hx:x.length≤1000000) (k:Nat) (hk:10≤k):sluiceref2_signed.f k x n=some (x++signB n):=by
 unfold sluiceref2_signed.f;unfold isI at hn;have hb:signN n<18446744073709551616:=by unfold signN;split<;>omega
 by_cases h:n ≥ 0
 ·rw[if_pos h]
  have e:IntKind.u64.wrap (2 * IntKind.u64.wrap n)=(signN n:Int):=by
   simp[IntKind.wrap,IntKind.bits,IntKind.signed,signN,if_pos (show 0≤n from h)];omega
  rw[e,number_f _ x hb (by omega) k hk];rfl
 ·rw[if_neg h];have e0:wrap64 (n+1)=n+1:=IntWalk.wrap64_in _ ⟨by omega,by omega⟩;have e1:wrap64 (-(n+1)) = -(n+1):=IntWalk.wrap64_in _ ⟨by omega,by omega⟩
  have e:IntKind.u64.wrap (IntKind.u64.wrap (2 * IntKind.u64.wrap (wrap64 (-(wrap64 (n+1)))))+1)=(signN n:Int):=by
   rw[e0,e1];simp[IntKind.wrap,IntKind.bits,IntKind.signed,signN,if_neg (show ¬0≤n from h)];omega
  rw[e,number_f _ x hb (by omega) k hk];rfl
theorem pair_f (x:S25) (b:List Int) (hb:b.length≤100000) (k:Nat) (hk:111≤k):sluiceref2_putCall.f k b x.f0 x.f1=some (b++pairB x):=by
 unfold sluiceref2_putCall.f;rw[plain_f _ _ (by simp) (by omega) k hk,Option.bind_some];have:numsB [x.f0,x.f1]=pairB x:=by simp[numsB,pairB]
 rw[this]
theorem intB_len (n:Int):(intB n).length≤10:=numB_len10 (u64_nat n).2
theorem signB_len {n:Int} (h:isI n):(signB n).length≤10:=numB_len10 (by unfold isI at h;unfold signN;split<;>omega)
theorem textB_len {s:ByteArray} (h:s.size≤100):(textB s).length≤110:=by
 have:=intB_len s.size;unfold textB;rw[List.length_append,bytesOf_length];omega
theorem name_size {s:ByteArray} (h:nameOk (bytesOf s)):s.size≤16:=by have:=h.2.1;rw[bytesOf_length] at this;exact this
theorem pairB_len (x:S25):(pairB x).length≤20:=by have:=intB_len x.f0;have:=intB_len x.f1;unfold pairB;rw[List.length_append];omega
theorem right_calls (s:Seg) (A:Option Addr) (c:Nat) (w:World) (h:In w A c s.data):
  Calls Try.prog 26 #[SV s A c] w fun e w'=>e = .returned (.bool (dcd (segV s)))∧Below w.heap.size w w':=by
 have HS:=Aside0.mk (sg_iff s h.isB);have hlI:(s.data.length:Int)≤9223372036854775807:=by have:=h.len;omega
 have hl0:(0:Int)≤(s.data.length:Int):=by omega
 clear h;have hu47:=Try.underlying47;unfold SV;obtain ⟨wa,hwa⟩:∃ wa,wa=w.alloc (.cells (SVc s A c) 47 (0,0)):=⟨_,rfl⟩;have HWA:=Aside0.mk hwa;have BK:Aside0 (wa.heap[w.heap.size]?=some (.cells (SVc s A c) 47 (0,0))):=⟨by rw[hwa];exact heap_alloc_new w _⟩;have HB:Aside0 (Below w.heap.size w wa):=⟨by rw[hwa];exact al_below w _⟩;clear hwa;go_enter Try.func26,Try.ntmps26
 go_upto_region 1 with fail
 rw[←HWA.out];have hz0:wa.cell? ⟨w.heap.size,0,none⟩=some (.int .i64 s.src):=(blk_cell BK.out 0).trans rfl;have hz1:wa.cell? ⟨w.heap.size,1,none⟩=some (.int .i64 s.dst):=(blk_cell BK.out 1).trans rfl;have hz2:wa.cell? ⟨w.heap.size,2,none⟩=some (.int .i64 s.seq):=(blk_cell BK.out 2).trans rfl;have hz3:wa.cell? ⟨w.heap.size,3,none⟩=some (.int .i64 s.ack):=(blk_cell BK.out 3).trans rfl;have hz4:wa.cell? ⟨w.heap.size,4,none⟩=some (.slice A s.data.length c):=(blk_cell BK.out 4).trans rfl;go_wp2_with (go_at_call 43;refine (within_calls _ _ _ _).mono ?_;rintro e w1 ⟨rfl,hb⟩;have n0_:=Aside0.mk (below_step HB.out hb);have n1_:=Aside0.mk (blk_keep hb BK.out);clear HB BK hb hz0 hz1 hz2 hz3 hz4;have HB:=n0_;have BK:=n1_;clear n0_ n1_;have hz0:w1.cell? ⟨w.heap.size,0,none⟩=some (.int .i64 s.src):=(blk_cell BK.out 0).trans rfl;have hz1:w1.cell? ⟨w.heap.size,1,none⟩=some (.int .i64 s.dst):=(blk_cell BK.out 1).trans rfl;have hz2:w1.cell? ⟨w.heap.size,2,none⟩=some (.int .i64 s.seq):=(blk_cell BK.out 2).trans rfl;have hz3:w1.cell? ⟨w.heap.size,3,none⟩=some (.int .i64 s.ack):=(blk_cell BK.out 3).trans rfl;have hz4:w1.cell? ⟨w.heap.size,4,none⟩=some (.slice A s.data.length c):=(blk_cell BK.out 4).trans rfl)
 all_goals go_ret
 all_goals refine ⟨congrArg (fun b=>Ending.returned (Value.bool b)) (bool_dcd ?_),HB.out⟩
 all_goals rw[HS.out,sgB]
 all_goals clear HS HB BK HWA hu47
 all_goals first|(simp[*];done)|(simp_all;done)|(simp[*];omega)|(simp_all;omega)
def WR (w W:World) (v:Value) (xs:List Int):Prop:=Below w.heap.size w W∧Kd.R (Kd.int .u8) 5 W w.heap.size (fun _=>True) v xs
def Sty (W W':World):Prop:=∀ (g:Nat) (cs:Array Value) (t:TypeId),t≠5→W.heap[g]?=some (.cells cs t (0,0))→W'.heap[g]?=some (.cells cs t (0,0))
theorem Sty.trans {a b c:World} (h:Sty a b) (k:Sty b c):Sty a c:=fun g cs t ht hb=>k g cs t ht (h g cs t ht hb)
theorem Sty.below {W W':World} (h:Below W.heap.size W W'):Sty W W':=fun g cs t _ hb=>blk_keep h hb
theorem WR.below {w W W':World} {v:Value} {xs:List Int} (h:WR w W v xs) (k:Below W.heap.size W W'):WR w W' v xs:=⟨below_step h.1 k,Kd.R_below h.2 k⟩
theorem WR.nil {w W:World} (h:Below w.heap.size w W):WR w W (.slice none 0 0) []:=⟨h,Kd.R_nil _ _ _ _ _⟩
def U8B (w W:World) (k:Nat):Prop:=w.heap.size≤k∧∃ cells,W.heap[k]?=some (.cells cells 5 (0,0))
theorem wr_in {w W:World} {v:Value} {xs:List Int} (h:WR w W v xs):Kd.R (Kd.int .u8) 5 W w.heap.size (U8B w W) v xs:=
 Kd.R_mono (Kd.R_bound h.2) (fun k hk => ⟨hk.2.1, by
   obtain ⟨q,hq,cells,hc⟩:=hk.2.2.2;have:q=5:=by simpa [Kd.int,Kd.scalar] using hq
   subst this;exact ⟨cells,hc⟩⟩)
theorem wr_out {w W':World} {v:Value} {xs:List Int} {ok:Nat→Prop} (hb:Below w.heap.size w W') (h:Kd.R (Kd.int .u8) 5 W' w.heap.size ok v xs):WR w W' v xs:=⟨hb,Kd.R_mono h (fun _ _=>trivial)⟩
theorem sty_of {w W W':World} (h:Kept W W' (fun k=>U8B w W k)):Sty W W':=fun g cs t ht hb=>blk_kept hb h (fun hk=>by
 obtain ⟨_,cells,hc⟩:=hk;rw[hb] at hc
 injection hc with hc
 injection hc with _ h2
 exact ht h2)
theorem isL_C {W:World} {g:Nat} {l:List Int} (h:IsL W g l) (hl:l.length≤1000):Kd.C (Kd.int .i64) W (some ⟨g,0,none⟩) l.length l:=by
 refine Kd.C_of_reads (d:=(0:Int)) (h1:=fun _=>rfl) ⟨rfl,by omega,fun _=>⟨_,rfl,fun j hj=>?_⟩⟩;rw[add_plain,cell_of_row _ g j _ _ (0,0) h];simp only[List.getElem?_toArray,List.getElem?_map,List.getElem?_eq_getElem hj,Option.map_some,List.getD_eq_getElem?_getD,Option.getD_some]
theorem plain_law (w W:World) (v:Value) (xs l:List Int) (g n c:Nat) (h:WR w W v xs) (hl:IsL W g l) (hn:n=l.length) (hll:l.length≤100) (hc:l.length≤c) (hx:xs.length≤1000000):
  Calls Try.prog 88 #[v,.slice (some ⟨g,0,none⟩) n c] W fun e W'=>∃ v',e = .returned v'∧WR w W' v' (xs++numsB l)∧Sty W W':=by
 subst hn;refine (sluiceref2_plain.calls 111 (U8B w W) v xs _ c l _ w W h.1 (wr_in h) (fun W_ hk=>isL_C (sty_of hk g _ _ (by decide) hl) (by omega)) hc (plain_f l xs hll hx 111 (Nat.le_refl _))).mono ?_;rintro e W' ⟨v',he,hR,hb,hk⟩;exact ⟨v',he,wr_out hb hR,sty_of hk⟩
theorem plain1_law (w W:World) (v:Value) (xs:List Int) (g:Nat) (a:Int) (h:WR w W v xs) (hl:W.heap[g]?=some (.cells #[.int .i64 a] 3 (0,0))) (hx:xs.length≤1000000):
  Calls Try.prog 88 #[v,.slice (some ⟨g,0,none⟩) 1 1] W fun e W'=>∃ v',e = .returned v'∧WR w W' v' (xs++numsB [a])∧Sty W W':=
 plain_law w W v xs [a] g 1 1 h hl rfl (by simp) (by simp) hx
theorem plain2_law (w W:World) (v:Value) (xs:List Int) (g:Nat) (a b:Int) (h:WR w W v xs) (hl:W.heap[g]?=some (.cells #[.int .i64 a,.int .i64 b] 3 (0,0))) (hx:xs.length≤1000000):
  Calls Try.prog 88 #[v,.slice (some ⟨g,0,none⟩) 2 2] W fun e W'=>∃ v',e = .returned v'∧WR w W' v' (xs++numsB [a,b])∧Sty W W':=
 plain_law w W v xs [a,b] g 2 2 h hl rfl (by simp) (by simp) hx
theorem text_law (w W:World) (v:Value) (xs:List Int) (s:ByteArray) (h:WR w W v xs) (hs:s.size≤100) (hx:xs.length≤100000):
  Calls Try.prog 91 #[v,.string s] W fun e W'=>∃ v',e = .returned v'∧WR w W' v' (xs++textB s)∧Sty W W':=by
 refine (sluiceref2_text.calls 111 (U8B w W) v xs s _ w W h.1 (wr_in h) (text_f s xs hs hx 111 (Nat.le_refl _))).mono ?_;rintro e W' ⟨v',he,hR,hb,hk⟩;exact ⟨v',he,wr_out hb hR,sty_of hk⟩
theorem putCall_law (w W:World) (v:Value) (xs:List Int) (x:S25) (h:WR w W v xs) (hx:xs.length≤100000):
  Calls Try.prog 90 #[v,.agg #[.int .i64 x.f0,.int .i64 x.f1]] W fun e W'=>∃ v',e = .returned v'∧WR w W' v' (xs++pairB x)∧Sty W W':=by
 refine (sluiceref2_putCall.calls 111 (U8B w W) v xs _ _ _ w W h.1 (wr_in h) (pair_f x xs hx 111 (Nat.le_refl _))).mono ?_;rintro e W' ⟨v',he,hR,hb,hk⟩;exact ⟨v',he,wr_out hb hR,sty_of hk⟩
end Go.Proofs.Ytpgdmmjbhjbbhaa.Rf
end
