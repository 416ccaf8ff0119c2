/- texts that the proof needs, laid together by a program of this session. -/
import Derived.Test.YtpgdmmjbhjbbhaaKWireKept10
set_option maxRecDepth 100000
set_option maxHeartbeats 16000000
set_option linter.unusedVariables false
set_option linter.unusedSimpArgs false
section
namespace Go.Proofs.Ytpgdmmjbhjbbhaa.Ks
open Go Go.RowKit YtpgdmmjbhjbbhaaW.PrintWords Gw
theorem own_move {w w1:World} {e:TypeId} {sz n:Nat} {v:Value} {xs:List Value} (h:w.ownsRow 0 e sz v n xs) (hm:∀ k,v.ownBlock=some k→w1.heap[k]?=w.heap[k]?):w1.ownsRow 0 e sz v n xs:=by
 refine ⟨h.1,?_⟩;rcases h.2 with h2|⟨g,cap,cur,hv,hb,hg,h3⟩
 ·exact .inl h2
 ·exact .inr ⟨g,cap,cur,hv,hb,by rw[hm g (by rw[hv];rfl)];exact hg,h3⟩
theorem own_lt {w:World} {e:TypeId} {sz n:Nat} {v:Value} {xs:List Value} (h:w.ownsRow 0 e sz v n xs):∀ k,v.ownBlock=some k→k<w.heap.size:=fun k hk=>by
 rcases h.2 with ⟨hv,_⟩|⟨g,cap,cur,hv,hb,hg,h3⟩
 ·rw[hv] at hk;simp[Value.ownBlock] at hk
 ·rw[hv] at hk;have:g=k:=by simpa [Value.ownBlock] using hk
  subst this;exact blk_lt hg
structure Ent where
 v:Value
 n:Nat
 cs:List Value
structure Fam (T tI sz rI rM rE:Nat) (ρ:Nat→Nat) (w:World) (vI vM:Value) (E:List Ent) (ms:List Int):Prop where
 oI:w.ownsRow 0 tI 1 vI E.length (E.map (·.v))
 bI:∀ k,vI.ownBlock=some k→ρ k=rI
 oM:w.ownsRow 0 3 1 vM ms.length (ms.map (Value.int .i64))
 bM:∀ k,vM.ownBlock=some k→ρ k=rM
 en:∀ x ∈ E,w.ownsRow 0 T sz x.v x.n x.cs∧∀ k,x.v.ownBlock=some k→ρ k=rE
section
variable {T tI sz rI rM rE:Nat} {ρ ρ':Nat→Nat} {w w1:World} {vI vM:Value} {E:List Ent} {ms:List Int}
theorem Fam.move (h:Fam T tI sz rI rM rE ρ w vI vM E ms) (hm:∀ k,k<w.heap.size→(ρ k=rI∨ρ k=rM∨ρ k=rE)→w1.heap[k]?=w.heap[k]?) (hl:∀ k,k<w.heap.size→ρ' k=ρ k):Fam T tI sz rI rM rE ρ' w1 vI vM E ms:=by
 refine ⟨own_move h.oI fun k hk=>hm k (own_lt h.oI k hk) (.inl (h.bI k hk)),fun k hk=>(hl k (own_lt h.oI k hk)).trans (h.bI k hk),own_move h.oM fun k hk=>hm k (own_lt h.oM k hk) (.inr (.inl (h.bM k hk))),fun k hk=>(hl k (own_lt h.oM k hk)).trans (h.bM k hk),fun x hx=>?_⟩;have h1:=h.en x hx;exact ⟨own_move h1.1 fun k hk=>hm k (own_lt h1.1 k hk) (.inr (.inr (h1.2 k hk))),fun k hk=>(hl k (own_lt h1.1 k hk)).trans (h1.2 k hk)⟩
theorem Fam.below (h:Fam T tI sz rI rM rE ρ w vI vM E ms) (hb:Below w.heap.size w w1):Fam T tI sz rI rM rE ρ w1 vI vM E ms:=h.move (fun k hk _=>hb.block k hk) (fun _ _=>rfl)
theorem relab {e : TypeId} {s n r : Nat} {v v' : Value} {xs ys : List Value} (hz : ∀ k, ρ k ≠ 0 → k < w.heap.size) (hr : r ≠ 0) (hv : ∀ k, v.ownBlock = some k → ρ k = r) (hlt : ∀ k, v.ownBlock = some k → k < w.heap.size) (hg : Grew w w1 e s v n xs ys v') :
    ∃ ρ':Nat→Nat,(∀ k,k<w.heap.size→ρ' k=ρ k)∧(∀ k,v'.ownBlock=some k→ρ' k=r)∧(∀ k,ρ' k≠0→k<w1.heap.size):=by
  rcases hg.lies with ⟨g,cap,h1,h2⟩|⟨cap,h1,h2⟩
  ·refine ⟨ρ,fun _ _=>rfl,fun k hk=>hv k ?_,fun k hk=>Nat.lt_of_lt_of_le (hz k hk) hg.grow.size⟩;rw[h1];rw[h2] at hk;exact hk
  ·refine ⟨fun k=>if k=w.heap.size then r else ρ k,fun k hk=>if_neg (by omega),fun k hk=>?_,fun k hk=>?_⟩
   ·rw[h1] at hk;have:w.heap.size=k:=by simpa [Value.ownBlock] using hk
    exact if_pos this.symm
   ·by_cases e1:k=w.heap.size
    ·rw[e1];exact own_lt hg.own _ (by rw[h1];rfl)
    ·have hk2:ρ k≠0:=by simpa [e1] using hk
     exact Nat.lt_of_lt_of_le (hz k hk2) hg.grow.size
end
structure HS (T tI sz rI rM rE iI iM kb:Nat) (pat:List Value) (m:Int) (W0:World) (ρ0:Nat→Nat) (far0:Value) (cs0:Array Value) (E0:List Ent) (ms0:List Int) (w:World) (far:Value) (nf cI cM:Nat)
  (ρ:Nat→Nat) (vI vM:Value) (E:List Ent) (ms:List Int):Prop where
 kbk:w.heap[kb]?=some (.cells ((cs0.setIfInBounds iI vI).setIfInBounds iM vM) 61 (0,0))
 kbr:ρ kb=7
 fam:Fam T tI sz rI rM rE ρ w vI vM E ms
 far_:w.ownsRow 0 T sz far nf (List.replicate nf pat).flatten
 bF:∀ k,far.ownBlock=some k→ρ k=rE
 alias_:∀ x ∈ E,x.v.ownBlock=far.ownBlock→far.ownBlock≠none → ∃ g k c,far = .slice (some ⟨g,0,none⟩) nf c∧x.v = .slice (some ⟨g,0,none⟩) k c∧k≤nf∧x.n=k∧x.cs=(List.replicate k pat).flatten
 exE:∃ E',E=E0++E'∧E'.length=cI∧∀ x ∈ E',x.cs=(List.replicate x.n pat).flatten
 exM:ms=ms0++List.replicate cM m
 lab:∀ k,k<W0.heap.size→ρ k=ρ0 k
 zer:∀ k,ρ k≠0→k<w.heap.size
 kept:∀ k,k<W0.heap.size→ρ0 k≠7→ρ0 k≠rI→ρ0 k≠rM→some k≠far0.ownBlock→w.heap[k]?=W0.heap[k]?
 farb:far.ownBlock=far0.ownBlock ∨ ∀ k,far.ownBlock=some k→W0.heap.size≤k
 b0:Below 0 W0 w
structure Nums (T tI sz rI rM rE iI iM:Nat) (pat:List Value):Prop where
 d0:rI≠0∧rM≠0∧rE≠0
 d7:rI≠7∧rM≠7∧rE≠7
 dd:rI≠rM∧rI≠rE∧rM≠rE
 di:iI≠iM
 pl:pat.length=sz
 s0:0<sz
theorem below0_of_grown {w w1:World} {row:Option Nat} (h:w.grownBy w1 row):Below 0 w w1:=⟨h.os,h.tape,h.output,h.size,fun k hk=>absurd hk (by omega)⟩
theorem below0_set {w:World} {a:Addr} {v:Value}:Below 0 w (w.setCell a v):=(Below.refl 0 w).setCell (Nat.zero_le _) v
section
variable {T tI sz rI rM rE iI iM kb:Nat} {pat:List Value} {m:Int} {W0:World} {ρ0:Nat→Nat} {far0:Value} {cs0:Array Value} {E0:List Ent} {ms0:List Int} {w w1 w2:World} {far far':Value} {nf cI cM:Nat}
  {ρ:Nat→Nat} {vI vM v':Value} {E:List Ent} {ms:List Int}
theorem HS.below (h:HS T tI sz rI rM rE iI iM kb pat m W0 ρ0 far0 cs0 E0 ms0 w far nf cI cM ρ vI vM E ms) (hb:Below w.heap.size w w1):HS T tI sz rI rM rE iI iM kb pat m W0 ρ0 far0 cs0 E0 ms0 w1 far nf cI cM ρ vI vM E ms:=
 ⟨(hb.block kb (blk_lt h.kbk)).trans h.kbk, h.kbr, h.fam.below hb, own_move h.far_ fun k hk => hb.block k (own_lt h.far_ k hk), h.bF, h.alias_, h.exE, h.exM, h.lab, fun k hk => Nat.lt_of_lt_of_le (h.zer k hk) hb.size,
   fun k hk h1 h2 h3 h4=>(hb.block k (Nat.lt_of_lt_of_le hk h.b0.size)).trans (h.kept k hk h1 h2 h3 h4),h.farb,h.b0.trans (hb.mono (Nat.zero_le _))⟩
theorem HS.I (N:Nums T tI sz rI rM rE iI iM pat) (h:HS T tI sz rI rM rE iI iM kb pat m W0 ρ0 far0 cs0 E0 ms0 w far nf cI cM ρ vI vM E ms) (hsz:iI<cs0.size∧iM<cs0.size) (hg:Grew w w2 tI 1 vI E.length (E.map (·.v)) [far] v'):
  ∃ ρ' E',HS T tI sz rI rM rE iI iM kb pat m W0 ρ0 far0 cs0 E0 ms0 (w2.setCell ⟨kb,iI,none⟩ v') far nf (cI+1) cM ρ' v' vM E' ms:=by
 obtain ⟨ρ',r1,r2,r3⟩:=relab h.zer N.d0.1 h.fam.bI (own_lt h.fam.oI) hg;have hkb:kb<w.heap.size:=blk_lt h.kbk
 have same:∀ k,k<w.heap.size→ρ k≠rI→k≠kb→(w2.setCell ⟨kb,iI,none⟩ v').heap[k]?=w.heap[k]?:=fun k hk h1 h2=>
  (Below.heap_setCell w2 ⟨kb,iI,none⟩ v' k h2).trans (hg.grow.block k hk (fun he=>h1 (h.fam.bI k he.symm)))
 have neq:∀ k,ρ k≠7→k≠kb:=fun k hk e=>hk (e ▸ h.kbr);have kb2:w2.heap[kb]?=some (.cells ((cs0.setIfInBounds iI vI).setIfInBounds iM vM) 61 (0,0)):=(hg.grow.block kb hkb (fun he=>N.d7.1 ((h.fam.bI kb he.symm).symm.trans h.kbr))).trans h.kbk
 have vb : ∀ k, v'.ownBlock = some k → k ≠ kb := fun k hk e => by
   have h1:=r2 k hk;rw[e,r1 kb hkb,h.kbr] at h1;exact N.d7.1 h1.symm
 have oI2:(w2.setCell ⟨kb,iI,none⟩ v').ownsRow 0 tI 1 v' (E.length+1) (E.map (·.v)++[far]):=own_move hg.own fun k hk=>Below.heap_setCell w2 ⟨kb,iI,none⟩ v' k (vb k hk);refine ⟨ρ',E++[⟨far,nf,(List.replicate nf pat).flatten⟩],⟨?_,(r1 kb hkb).trans h.kbr,⟨?_,r2,?_,?_,?_⟩,?_,?_,?_,?_,h.exM,?_,?_,?_,h.farb,(h.b0.trans (below0_of_grown hg.grow)).trans below0_set⟩⟩
 ·rw[heap_setCell_same w2 kb iI _ _ v' kb2]
  congr 2
  rw[Array.setIfInBounds_comm _ _ (Ne.symm N.di),Array.setIfInBounds_setIfInBounds]
 ·simpa using oI2
 ·exact own_move h.fam.oM fun k hk=>same k (own_lt h.fam.oM k hk) (fun e=>N.dd.1 (e.symm.trans (h.fam.bM k hk))) (neq k (fun e=>N.d7.2.1 ((h.fam.bM k hk).symm.trans e)))
 ·exact fun k hk=>(r1 k (own_lt h.fam.oM k hk)).trans (h.fam.bM k hk)
 ·intro x hx;rcases List.mem_append.1 hx with hx|hx
  ·have h1:=h.fam.en x hx;exact ⟨own_move h1.1 fun k hk=>same k (own_lt h1.1 k hk) (fun e=>N.dd.2.1 (e.symm.trans (h1.2 k hk))) (neq k (fun e=>N.d7.2.2 ((h1.2 k hk).symm.trans e))),fun k hk=>(r1 k (own_lt h1.1 k hk)).trans (h1.2 k hk)⟩
  ·rw[List.mem_singleton.1 hx];exact ⟨own_move h.far_ fun k hk=>same k (own_lt h.far_ k hk) (fun e=>N.dd.2.1 (e.symm.trans (h.bF k hk))) (neq k (fun e=>N.d7.2.2 ((h.bF k hk).symm.trans e))),fun k hk=>(r1 k (own_lt h.far_ k hk)).trans (h.bF k hk)⟩
 ·exact own_move h.far_ fun k hk=>same k (own_lt h.far_ k hk) (fun e=>N.dd.2.1 (e.symm.trans (h.bF k hk))) (neq k (fun e=>N.d7.2.2 ((h.bF k hk).symm.trans e)))
 ·exact fun k hk=>(r1 k (own_lt h.far_ k hk)).trans (h.bF k hk)
 ·intro x hx he hn;rcases List.mem_append.1 hx with hx|hx
  ·exact h.alias_ x hx he hn
  ·rw[List.mem_singleton.1 hx];rcases h.far_.2 with ⟨hv,_⟩|⟨g,cap,cur,hv,_⟩
   ·exact absurd (by rw[hv];rfl) hn
   ·exact ⟨g,nf,cap,hv,hv,Nat.le_refl _,rfl,rfl⟩
 ·obtain ⟨E',h1,h2,h3⟩:=h.exE;refine ⟨E'++[⟨far,nf,(List.replicate nf pat).flatten⟩],by rw[h1,List.append_assoc],by simp[h2],fun x hx=>?_⟩;rcases List.mem_append.1 hx with hx|hx
  ·exact h3 x hx
  ·rw[List.mem_singleton.1 hx]
 ·exact fun k hk=>(r1 k (Nat.lt_of_lt_of_le hk h.b0.size)).trans (h.lab k hk)
 ·exact fun k hk=>by simpa using r3 k hk
 ·intro k hk h1 h2 h3 h4;have hl:=h.lab k hk;exact (same k (Nat.lt_of_lt_of_le hk h.b0.size) (fun e=>h2 (hl.symm.trans e)) (neq k (fun e=>h1 (hl.symm.trans e)))).trans (h.kept k hk h1 h2 h3 h4)
theorem HS.M (N:Nums T tI sz rI rM rE iI iM pat) (h:HS T tI sz rI rM rE iI iM kb pat m W0 ρ0 far0 cs0 E0 ms0 w far nf cI cM ρ vI vM E ms) (hsz:iI<cs0.size∧iM<cs0.size) (hg:Grew w w2 3 1 vM ms.length (ms.map (Value.int .i64)) [.int .i64 m] v'):
  ∃ ρ' ms',HS T tI sz rI rM rE iI iM kb pat m W0 ρ0 far0 cs0 E0 ms0 (w2.setCell ⟨kb,iM,none⟩ v') far nf cI (cM+1) ρ' vI v' E ms':=by
 obtain ⟨ρ',r1,r2,r3⟩:=relab h.zer N.d0.2.1 h.fam.bM (own_lt h.fam.oM) hg;have hkb:kb<w.heap.size:=blk_lt h.kbk
 have same:∀ k,k<w.heap.size→ρ k≠rM→k≠kb→(w2.setCell ⟨kb,iM,none⟩ v').heap[k]?=w.heap[k]?:=fun k hk h1 h2=>
  (Below.heap_setCell w2 ⟨kb,iM,none⟩ v' k h2).trans (hg.grow.block k hk (fun he=>h1 (h.fam.bM k he.symm)))
 have neq:∀ k,ρ k≠7→k≠kb:=fun k hk e=>hk (e ▸ h.kbr);have kb2:w2.heap[kb]?=some (.cells ((cs0.setIfInBounds iI vI).setIfInBounds iM vM) 61 (0,0)):=(hg.grow.block kb hkb (fun he=>N.d7.2.1 ((h.fam.bM kb he.symm).symm.trans h.kbr))).trans h.kbk
 have vb : ∀ k, v'.ownBlock = some k → k ≠ kb := fun k hk e => by
   have h1:=r2 k hk;rw[e,r1 kb hkb,h.kbr] at h1;exact N.d7.2.1 h1.symm
 have oM2:(w2.setCell ⟨kb,iM,none⟩ v').ownsRow 0 3 1 v' (ms.length+1) (ms.map (Value.int .i64)++[.int .i64 m]):=own_move hg.own fun k hk=>Below.heap_setCell w2 ⟨kb,iM,none⟩ v' k (vb k hk)
 have ent:∀ {x:Ent},(w.ownsRow 0 T sz x.v x.n x.cs∧∀ k,x.v.ownBlock=some k→ρ k=rE)→(w2.setCell ⟨kb,iM,none⟩ v').ownsRow 0 T sz x.v x.n x.cs∧∀ k,x.v.ownBlock=some k→ρ' k=rE:=fun {x} h1=>
  ⟨own_move h1.1 fun k hk=>same k (own_lt h1.1 k hk) (fun e=>N.dd.2.2 (e.symm.trans (h1.2 k hk))) (neq k (fun e=>N.d7.2.2 ((h1.2 k hk).symm.trans e))),fun k hk=>(r1 k (own_lt h1.1 k hk)).trans (h1.2 k hk)⟩
 have hf:=ent (x:=⟨far,nf,(List.replicate nf pat).flatten⟩) ⟨h.far_,h.bF⟩;refine ⟨ρ',ms++[m],⟨?_,(r1 kb hkb).trans h.kbr,⟨?_,?_,?_,r2,fun x hx=>ent (h.fam.en x hx)⟩,hf.1,hf.2,h.alias_,h.exE,?_,?_,?_,?_,h.farb,(h.b0.trans (below0_of_grown hg.grow)).trans below0_set⟩⟩
 ·rw[heap_setCell_same w2 kb iM _ _ v' kb2,Array.setIfInBounds_setIfInBounds]
 ·exact own_move h.fam.oI fun k hk=>same k (own_lt h.fam.oI k hk) (fun e=>N.dd.1 ((h.fam.bI k hk).symm.trans e)) (neq k (fun e=>N.d7.1 ((h.fam.bI k hk).symm.trans e)))
 ·exact fun k hk=>(r1 k (own_lt h.fam.oI k hk)).trans (h.fam.bI k hk)
 ·simpa using oM2
 ·rw[h.exM,List.append_assoc,List.replicate_succ']
 ·exact fun k hk=>(r1 k (Nat.lt_of_lt_of_le hk h.b0.size)).trans (h.lab k hk)
 ·exact fun k hk=>by simpa using r3 k hk
 ·intro k hk h1 h2 h3 h4;have hl:=h.lab k hk;exact (same k (Nat.lt_of_lt_of_le hk h.b0.size) (fun e=>h3 (hl.symm.trans e)) (neq k (fun e=>h1 (hl.symm.trans e)))).trans (h.kept k hk h1 h2 h3 h4)
theorem flat_len (pat:List Value) (n:Nat):(List.replicate n pat).flatten.length=n * pat.length:=by induction n with
 | zero=>simp
 | succ n ih=>rw[List.replicate_succ,List.flatten_cons,List.length_append,ih,Nat.add_mul];omega
theorem flat_take (pat:List Value) (n k:Nat) (h:k≤n):(List.replicate n pat).flatten.take (k * pat.length)=(List.replicate k pat).flatten:=by
 obtain ⟨d,rfl⟩:=Nat.exists_eq_add_of_le h;rw[←List.replicate_append_replicate,List.flatten_append,←flat_len pat k,List.take_left]
theorem flat_succ (pat:List Value) (n:Nat):(List.replicate n pat).flatten++pat=(List.replicate (n+1) pat).flatten:=by
 rw[List.replicate_succ',List.flatten_append];simp
theorem HS.F (N : Nums T tI sz rI rM rE iI iM pat) (h : HS T tI sz rI rM rE iI iM kb pat m W0 ρ0 far0 cs0 E0 ms0 w far nf cI cM ρ vI vM E ms) (hg : Grew w w2 T sz far nf (List.replicate nf pat).flatten pat v') :
    ∃ ρ',HS T tI sz rI rM rE iI iM kb pat m W0 ρ0 far0 cs0 E0 ms0 w2 v' (nf+1) cI cM ρ' vI vM E ms:=by
  obtain ⟨ρ',r1,r2,r3⟩:=relab h.zer N.d0.2.2 h.bF (own_lt h.far_) hg;have hkb:kb<w.heap.size:=blk_lt h.kbk;have same:∀ k,k<w.heap.size→ρ k≠rE→w2.heap[k]?=w.heap[k]?:=fun k hk h1=>hg.grow.block k hk (fun he=>h1 (h.bF k he.symm));have own2:=hg.own;rw[flat_succ] at own2
  have ent : ∀ x ∈ E, w2.ownsRow 0 T sz x.v x.n x.cs := fun x hx => by
    have h1:=h.fam.en x hx;by_cases he:x.v.ownBlock=far.ownBlock∧far.ownBlock≠none
    ·obtain ⟨g,k,c,e1,e2,e3,e4,e5⟩:=h.alias_ x hx he.1 he.2;rcases hg.lies with ⟨g',cap',f1,f2⟩|⟨cap',f1,f2⟩
     ·rw[e1] at f1
      injection f1 with f3 f4 f5
      injection f3 with f6
      injection f6 with f7
      subst f7;subst f5;rcases own2.2 with ⟨hv,_⟩|⟨g2,cap2,cur,hv,hb,hgc,hn,hm,hs,ht⟩
      ·rw[f2] at hv;cases hv
      ·rw[f2] at hv
       injection hv with f8 f9 f10
       injection f8 with f11
       injection f11 with f12
       subst f12;subst f10;refine ⟨by rw[e5,e4,flat_len,N.pl],.inr ⟨g,c,cur,by rw[e2,e4],Nat.zero_le _,hgc,by omega,hm,hs,?_⟩⟩;rw[e5,e4,←flat_take pat (nf+1) k (by omega),N.pl,←ht,List.take_take]
       congr 1
       exact (Nat.min_eq_left (Nat.mul_le_mul_right _ (by omega))).symm
     ·exact own_move h1.1 fun k hk=>f2.block k (own_lt h1.1 k hk) (by simp)
    ·refine own_move h1.1 fun k hk=>hg.grow.block k (own_lt h1.1 k hk) (fun e=>he ⟨by rw[hk,e],by rw[←e];simp⟩)
  refine ⟨ρ',⟨(same kb hkb (fun e=>N.d7.2.2 (e.symm.trans h.kbr))).trans h.kbk,(r1 kb hkb).trans h.kbr,⟨?_,?_,?_,?_,?_⟩,own2,r2,?_,h.exE,h.exM,?_,r3,?_,?_,h.b0.trans (below0_of_grown hg.grow)⟩⟩
  ·exact own_move h.fam.oI fun k hk=>same k (own_lt h.fam.oI k hk) (fun e=>N.dd.2.1 ((h.fam.bI k hk).symm.trans e))
  ·exact fun k hk=>(r1 k (own_lt h.fam.oI k hk)).trans (h.fam.bI k hk)
  ·exact own_move h.fam.oM fun k hk=>same k (own_lt h.fam.oM k hk) (fun e=>N.dd.2.2 ((h.fam.bM k hk).symm.trans e))
  ·exact fun k hk=>(r1 k (own_lt h.fam.oM k hk)).trans (h.fam.bM k hk)
  ·exact fun x hx=>⟨ent x hx,fun k hk=>(r1 k (own_lt (h.fam.en x hx).1 k hk)).trans ((h.fam.en x hx).2 k hk)⟩
  ·intro x hx he hn;rcases hg.lies with ⟨g',cap',f1,f2⟩|⟨cap',f1,f2⟩
   ·have he2:x.v.ownBlock=far.ownBlock:=by rw[he,f2,f1];rfl
    obtain ⟨g,k,c,e1,e2,e3,e4,e5⟩:=h.alias_ x hx he2 (by rw[f1];simp[Value.ownBlock]);rw[e1] at f1
    injection f1 with f3 f4 f5
    injection f3 with f6
    injection f6 with f7
    subst f7;subst f5;exact ⟨g,k,c,f2,e2,by omega,e4,e5⟩
   ·exfalso
    have h1:=own_lt (h.fam.en x hx).1 w.heap.size (by rw[he,f1];rfl);omega
  ·exact fun k hk=>(r1 k (Nat.lt_of_lt_of_le hk h.b0.size)).trans (h.lab k hk)
  ·intro k hk h1 h2 h3 h4;have hlt:=Nat.lt_of_lt_of_le hk h.b0.size;refine (hg.grow.block k hlt (fun e=>?_)).trans (h.kept k hk h1 h2 h3 h4);rcases h.farb with hb|hb
   ·exact h4 (e.trans hb)
   ·have:=hb k e.symm;omega
  ·rcases hg.lies with ⟨g',cap',f1,f2⟩|⟨cap',f1,f2⟩
   ·rcases h.farb with hb|hb
    ·exact .inl (by rw[←hb,f2,f1];rfl)
    ·exact .inr (fun k hk=>hb k (by rw[f1];rw[f2] at hk;exact hk))
   ·refine .inr fun k hk=>?_;rw[f1] at hk;have:w.heap.size=k:=by simpa [Value.ownBlock] using hk
    rw[←this];exact h.b0.size
end
end Go.Proofs.Ytpgdmmjbhjbbhaa.Ks
end
section
namespace Go.Proofs.Ytpgdmmjbhjbbhaa.Kr
open Go.RowKit P YtpgdmmjbhjbbhaaW.PrintWords YtpgdmmjbhjbbhaaW.PrintLast YtpgdmmjbhjbbhaaW.PrintMore Ks
structure After (ρ ρ':Nat→Nat) (v:Value) (w w':World):Prop where
 lab:∀ k,k<w.heap.size→ρ' k=ρ k∨some k=v.ownBlock
 b0:Below 0 w w'
 same:∀ k,k<w.heap.size→ρ k=0→some k≠v.ownBlock→w'.heap[k]?=w.heap[k]?
structure Keeper (kb:Nat) (K:(Nat→Nat)→Nat→World→Prop):Prop where
 zer:∀ {ρ n w},K ρ n w → ∀ k,ρ k≠0→k<w.heap.size
 move:∀ {ρ n w w1},K ρ n w→(∀ k,k<w.heap.size→ρ k≠0→w1.heap[k]?=w.heap[k]?)→w.heap.size≤w1.heap.size→K ρ n w1
 put : ∀ {ρ n w v xs}, K ρ n w → n ≤ 4194304 → xs.length ≤ 100000 → Kd.R (Kd.int .u8) 5 w 0 (fun _ => True) v xs → (∀ k, v.ownBlock = some k → ρ k = 0) →
   Calls Try.prog 76 #[.pointer (some ⟨kb,0,none⟩),v] w fun e w'=>e = .returned (.tuple #[])∧∃ ρ',K ρ' (n+1) w'∧After ρ ρ' v w w'
 putR : ∀ {ρ n w v xs}, K ρ n w → n ≤ 4194304 → xs.length ≤ 100000 → Kd.R k87 87 w 0 (fun _ => True) v xs → (∀ k, v.ownBlock = some k → ρ k = 0) →
   Calls Try.prog 77 #[.pointer (some ⟨kb,0,none⟩),v] w fun e w'=>e = .returned (.tuple #[])∧∃ ρ',K ρ' (n+1) w'∧After ρ ρ' v w w'
structure Rel (ρ ρx:Nat→Nat) (w wx:World):Prop where
 lab:∀ k,k<w.heap.size→ρx k=ρ k
 b0:Below 0 w wx
 same:∀ k,k<w.heap.size→ρ k=0→wx.heap[k]?=w.heap[k]?
section
variable {ρ ρx ρy ρz:Nat→Nat} {w wx wy wz:World} {v:Value}
theorem Rel.kept (h:Rel ρ ρx w wx) {g:Nat} (hk:Kept wx wy (fun k=>k=g)) (hb:Below 0 wx wy) (hg:w.heap.size≤g):Rel ρ ρx w wy:=
 ⟨h.lab,h.b0.trans hb,fun k hlt h0=>(hk.2 k (Nat.lt_of_lt_of_le hlt h.b0.size) (fun e=>by have e2:k=g:=e;omega)).trans (h.same k hlt h0)⟩
theorem After.kept (h:After ρ ρy v w wy):Kept w wy (fun k=>ρ k≠0∨some k=v.ownBlock):=⟨h.b0.size,fun k hk h0=>h.same k hk (Classical.not_not.1 (fun h1=>h0 (.inl h1))) (fun h1=>h0 (.inr h1))⟩
theorem After.zero (h:After ρ ρy v w wy) {b:Nat} (hb:ρ b=0) (hlt:b<w.heap.size) (hv:some b≠v.ownBlock):ρy b=0:=by
 rcases h.lab b hlt with h1|h1
 ·exact h1.trans hb
 ·exact absurd h1 hv
end
def bare (w:World):World:={ w with heap := #[] }
theorem bare_below (w:World):Below (bare w).heap.size (bare w) w:=⟨rfl,rfl,rfl,Nat.zero_le _,fun k hk=>absurd hk (by simp[bare])⟩
end Go.Proofs.Ytpgdmmjbhjbbhaa.Kr
end
section
namespace Go.Proofs.Ytpgdmmjbhjbbhaa.Hd
open Go.RowKit P YtpgdmmjbhjbbhaaW.PrintWords YtpgdmmjbhjbbhaaW.PrintLast YtpgdmmjbhjbbhaaW.PrintMore Gw Ks
theorem infI:(Try.prog.info? 36).map (fun i=>(i.zero,i.size,i.bytes))=some (some (.slice none 0 0),1,24):=by kernel_rfl
theorem infR:(Try.prog.info? 31).map (fun i=>(i.zero,i.size,i.bytes))=some (some (.slice none 0 0),1,24):=by kernel_rfl
theorem one_slice (A:Option Addr) (n c:Nat):∀ u ∈ (#[Value.slice A n c]).toList,u.oneCell'=true:=by intro u hu;simp at hu;subst hu;rfl
theorem one_int (m:Int):∀ u ∈ (#[Value.int .i64 m]).toList,u.oneCell'=true:=by intro u hu;simp at hu;subst hu;rfl
theorem one_byte (m:Int):∀ u ∈ (#[Value.int .u8 m]).toList,u.oneCell'=true:=by intro u hu;simp at hu;subst hu;rfl
theorem one_view (m:Int):∀ u ∈ (#[Value.string ⟨#[109,97,114,107]⟩,.int .i64 m,.int .i64 0,.int .i64 0,.int .i64 0,.int .i64 0,.int .i64 0]).toList,u.oneCell'=true:=by intro u hu;simp at hu;rcases hu with rfl|rfl|rfl<;>rfl
theorem inf87:(Try.prog.info? 87).map (fun i=>(i.zero,i.size,i.bytes))=some (some (.agg #[.string ⟨#[]⟩,.int .i64 0,.int .i64 0,.int .i64 0,.int .i64 0,.int .i64 0,.int .i64 0]),7,64):=by kernel_rfl
def ct (i:Nat):Nat:=if i≤16 then 1+i else if i≤39 then 17 else 18
section
variable {T tI sz rI rM rE iI iM kb:Nat} {pat:List Value} {m:Int} {W0:World} {ρ0:Nat→Nat} {far0:Value} {cs0:Array Value} {E0:List Ent} {ms0:List Int} {w w2:World} {far v':Value} {nf cI cM:Nat} {ρ:Nat→Nat} {vI vM:Value} {E:List Ent} {ms:List Int}
theorem len_E (h:HS T tI sz rI rM rE iI iM kb pat m W0 ρ0 far0 cs0 E0 ms0 w far nf cI cM ρ vI vM E ms):E.length=E0.length+cI∧ms.length=ms0.length+cM:=by
 obtain ⟨E',h1,h2,_⟩:=h.exE;exact ⟨by rw[h1,List.length_append,h2],by rw[h.exM];simp⟩
theorem fits_E (h:HS T tI sz rI rM rE iI iM kb pat m W0 ρ0 far0 cs0 E0 ms0 w far nf cI cM ρ vI vM E ms) (h1:E0.length≤1099511627776) (h2:cI≤100):(E.length+1) * 24≤140737488355328:=by have:=(len_E h).1;omega
theorem fits_M (h:HS T tI sz rI rM rE iI iM kb pat m W0 ρ0 far0 cs0 E0 ms0 w far nf cI cM ρ vI vM E ms) (h1:ms0.length≤1099511627776) (h2:cM≤100):(ms.length+1) * 8≤140737488355328:=by have:=(len_E h).2;omega
theorem cell_kb (h:HS T tI sz rI rM rE iI iM kb pat m W0 ρ0 far0 cs0 E0 ms0 w far nf cI cM ρ vI vM E ms) (hs:iI<cs0.size∧iM<cs0.size) (hd:iI≠iM):w.cell? ⟨kb,iI,none⟩=some vI∧w.cell? ⟨kb,iM,none⟩=some vM:=by
 constructor
 ·rw[cell_of_row w kb iI _ _ (0,0) h.kbk,Array.getElem?_setIfInBounds_ne (Ne.symm hd),Array.getElem?_setIfInBounds_self_of_lt hs.1]
 ·rw[cell_of_row w kb iM _ _ (0,0) h.kbk,Array.getElem?_setIfInBounds_self_of_lt (by simpa using hs.2)]
theorem grown_kb {r:Nat} {v:Value} {c:Array Value} {t:TypeId} (hk:w.heap[kb]?=some (.cells c t (0,0))) (hg:w.grownBy w2 v.ownBlock) (hr:ρ kb=7) (hv:∀ k,v.ownBlock=some k→ρ k=r) (h7:r≠7) (i:Nat) (u:Value) (hu:w.cell? ⟨kb,i,none⟩=some u):
  w2.frozen? ⟨kb,i,none⟩=false∧w2.cell? ⟨kb,i,none⟩=some u:=by
 have h:=(hg.block kb (blk_lt hk) (fun he=>h7 ((hv kb he.symm).symm.trans hr))).trans hk;exact ⟨frozen_of_row w2 kb i _ _ h,by rw[cell_of_row w2 kb i _ _ (0,0) h,←cell_of_row w kb i _ _ (0,0) hk];exact hu⟩
def St (T tI sz rI rM rE iI iM kb:Nat) (pat:List Value) (m:Int) (W0:World) (ρ0:Nat→Nat) (far0:Value) (cs0:Array Value) (E0:List Ent) (ms0:List Int) (w:World) (far:Value) (nf cI cM:Nat):Prop:=
 ∃ ρ vI vM E ms,HS T tI sz rI rM rE iI iM kb pat m W0 ρ0 far0 cs0 E0 ms0 w far nf cI cM ρ vI vM E ms
theorem St.I (N:Nums T tI sz rI rM rE iI iM pat) (h:HS T tI sz rI rM rE iI iM kb pat m W0 ρ0 far0 cs0 E0 ms0 w far nf cI cM ρ vI vM E ms) (hsz:iI<cs0.size∧iM<cs0.size) (hg:Grew w w2 tI 1 vI E.length (E.map (·.v)) [far] v'):
  St T tI sz rI rM rE iI iM kb pat m W0 ρ0 far0 cs0 E0 ms0 (w2.setCell ⟨kb,iI,none⟩ v') far nf (cI+1) cM:=by
 obtain ⟨ρ',E',h2⟩:=h.I N hsz hg;exact ⟨_,_,_,_,_,h2⟩
theorem St.M (N:Nums T tI sz rI rM rE iI iM pat) (h:HS T tI sz rI rM rE iI iM kb pat m W0 ρ0 far0 cs0 E0 ms0 w far nf cI cM ρ vI vM E ms) (hsz:iI<cs0.size∧iM<cs0.size) (hg:Grew w w2 3 1 vM ms.length (ms.map (Value.int .i64)) [.int .i64 m] v'):
  St T tI sz rI rM rE iI iM kb pat m W0 ρ0 far0 cs0 E0 ms0 (w2.setCell ⟨kb,iM,none⟩ v') far nf cI (cM+1):=by
 obtain ⟨ρ',ms',h2⟩:=h.M N hsz hg;exact ⟨_,_,_,_,_,h2⟩
theorem St.F (N:Nums T tI sz rI rM rE iI iM pat) (h:HS T tI sz rI rM rE iI iM kb pat m W0 ρ0 far0 cs0 E0 ms0 w far nf cI cM ρ vI vM E ms) (hg:Grew w w2 T sz far nf (List.replicate nf pat).flatten pat v'):
  St T tI sz rI rM rE iI iM kb pat m W0 ρ0 far0 cs0 E0 ms0 w2 v' (nf+1) cI cM:=by
 obtain ⟨ρ',h2⟩:=h.F N hg;exact ⟨_,_,_,_,_,h2⟩
end
theorem numsI (m:Int):Nums 5 36 1 1 2 3 1 3 [Value.int .u8 (m % 250+1)]:=⟨by decide,by decide,by decide,by decide,rfl,by decide⟩
theorem holdI_calls (kb : Nat) (far0 : Value) (n0 : Nat) (m : Int) (W0 : World) (ρ0 : Nat → Nat) (cs0 : Array Value) (E0 : List Ent) (ms0 : List Int) (h : St 5 36 1 1 2 3 1 3 kb [Value.int .u8 (m % 250 + 1)] m W0 ρ0 far0 cs0 E0 ms0 W0 far0 n0 0 0) (hcs : cs0.size = 7)
    (hm:0≤m∧m≤1099511627776) (hnf:n0≤1099511627776) (hE:E0.length≤1099511627776) (hM:ms0.length≤1099511627776):
    Calls Try.prog 109 #[.pointer (some ⟨kb,0,none⟩),far0,.int .i64 m] W0 fun e w'=>e = .returned (.tuple #[])∧∃ far nf',St 5 36 1 1 2 3 1 3 kb [Value.int .u8 (m % 250+1)] m W0 ρ0 far0 cs0 E0 ms0 w' far nf' 18 18:=by
  have HCS:Aside0 ((1<cs0.size∧3<cs0.size)):=⟨by omega⟩;have HN:=Aside0.mk hnf;have HE:=Aside0.mk hE;have HM:=Aside0.mk hM;have hm0:(0:Int)≤m:=hm.1;have hm1:m≤1099511627776:=hm.2;obtain ⟨ρ,vI,vM,E,ms,hs⟩:=h;obtain ⟨A0,c0,rfl⟩:=own_slice hs.far_;have HS0:=Aside0.mk hs;clear hs hcs hm hnf hE hM;have hq1:=(cell_kb HS0.out HCS.out (by decide)).1;have HA:Aside0 (HS 5 36 1 1 2 3 1 3 kb [Value.int .u8 (m % 250+1)] m W0 ρ0 (.slice A0 n0 c0) cs0 E0 ms0 (W0.alloc (.cells #[.slice A0 n0 c0] 36 (0,0))) (.slice A0 n0 c0) n0 0 0 ρ vI vM E ms):=⟨HS0.out.below ((Below.refl _ _).alloc (Nat.le_refl _) _)⟩;have HBE:=Aside0.mk (fits_E HA.out HE.out (by decide));go_enter Try.func109,Try.ntmps109
  go_upto_region 1 with (refine wpList_grew _ rfl (.tmp 12) (.tmp 14) 57 rfl 36 (.slice none 0 0) 1 24 Try.underlying57 infI rfl (by decide) (by decide) vI E.length (E.map (·.v)) (by simp[Act.eval,Act.put]) HA.out.fam.oI W0.heap.size 1 #[.slice A0 n0 c0] (by simp[Act.eval,Act.put]) (heap_alloc_new W0 _) rfl (one_slice _ _ _) HBE.out ?_;intro v1 w1 hg1;obtain ⟨Av,cv,rfl⟩:=own_slice hg1.own;have HG1:=Aside0.mk hg1;have hk1:=grown_kb HA.out.kbk HG1.out.grow HA.out.kbr HA.out.fam.bI (by decide) 1 _ (cell_kb HA.out HCS.out (by decide)).1;have hk1a:=hk1.1;have hk1b:=hk1.2;clear hk1 hg1 hq1)
  have HS1:=Aside0.mk (St.I (numsI _) HA.out HCS.out HG1.out);clear HS0 HA HBE HG1 hk1a hk1b
  generalize w1.setCell ⟨kb,1,none⟩ (.slice Av (E.length+1) cv)=wx at HS1 ⊢
  obtain ⟨ρ,vI,vM,E,ms,hs⟩:=HS1.out;have HS0:=Aside0.mk hs;clear hs HS1;have hq1:=(cell_kb HS0.out HCS.out (by decide)).2;have HA:Aside0 (HS 5 36 1 1 2 3 1 3 kb [Value.int .u8 (m % 250+1)] m W0 ρ0 (.slice A0 n0 c0) cs0 E0 ms0 (wx.alloc (.cells #[.int .i64 m] 3 (0,0))) (.slice A0 n0 c0) n0 1 0 ρ vI vM E ms):=⟨HS0.out.below ((Below.refl _ _).alloc (Nat.le_refl _) _)⟩;have HBE:=Aside0.mk (fits_M HA.out HM.out (by decide));go_upto_region 2 with (refine wpList_grew _ rfl (.tmp 22) (.tmp 24) 58 rfl 3 (.int .i64 0) 1 8 Try.underlying58 info3 rfl (by decide) (by decide) vM ms.length (ms.map (Value.int .i64)) (by simp[Act.eval,Act.put]) HA.out.fam.oM wx.heap.size 1 #[.int .i64 m] (by simp[Act.eval,Act.put]) (heap_alloc_new wx _) rfl (one_int _) HBE.out ?_;intro v1 w1 hg1;obtain ⟨Av,cv,rfl⟩:=own_slice hg1.own;have HG1:=Aside0.mk hg1;have hk1:=grown_kb HA.out.kbk HG1.out.grow HA.out.kbr HA.out.fam.bM (by decide) 3 _ (cell_kb HA.out HCS.out (by decide)).2;have hk1a:=hk1.1;have hk1b:=hk1.2;clear hk1 hg1 hq1)
  have HS1:=Aside0.mk (St.M (numsI _) HA.out HCS.out HG1.out);clear HS0 HA HBE HG1 hk1a hk1b
  generalize w1.setCell ⟨kb,3,none⟩ (.slice Av (ms.length+1) cv)=wy at HS1 ⊢
  go_wp2_with fail
  go_loopw [6,7] (fun v6 v7 wr=>∃ (i:Nat) (A:Option Addr) (nf c:Nat),v6 = .slice A nf c∧v7 = .int .i64 (i:Int)∧Aside0 (i≤40∧nf=n0+i∧St 5 36 1 1 2 3 1 3 kb [Value.int .u8 (m % 250+1)] m W0 ρ0 (.slice A0 n0 c0) cs0 E0 ms0 wr (.slice A nf c) nf (ct i) (ct i))) (fun _ v7 _=>40 - (intOf v7).toNat)
  case atStart=>exact ⟨0,A0,n0,c0,rfl,rfl,⟨by decide,rfl,HS1.out⟩⟩
  case round=>
   obtain ⟨i,A,nf,c,rfl,rfl,HR⟩:=hrel;by_cases hlt:i<40
   ·have hi0:(0:Int)≤(i:Int):=by omega
    have hi1:(i:Int)<40:=by omega
    obtain ⟨ρ,vI,vM,E,ms,hs⟩:=HR.out.2.2;have HNF:Aside0 (nf=n0+i):=⟨HR.out.2.1⟩;have HS0:=Aside0.mk hs;clear hs HR;have HA:Aside0 (HS 5 36 1 1 2 3 1 3 kb [Value.int .u8 (m % 250+1)] m W0 ρ0 (.slice A0 n0 c0) cs0 E0 ms0 (wr.alloc (.cells #[Value.int .u8 (m % 250+1)] 5 (0,0))) (.slice A nf c) nf (ct i) (ct i) ρ vI vM E ms):=⟨HS0.out.below ((Below.refl _ _).alloc (Nat.le_refl _) _)⟩;have HBE:Aside0 ((nf+1) * 1≤140737488355328):=⟨by have:=HN.out;have:=HNF.out;omega⟩;go_upto_region 7 with (refine wpList_grew _ rfl (.tmp 33) (.tmp 38) 36 rfl 5 (.int .u8 0) 1 1 Try.underlying36 info5 rfl (by decide) (by decide) (.slice A nf c) nf (List.replicate nf [Value.int .u8 (m % 250+1)]).flatten (by simp[Act.eval,Act.put]) HA.out.far_ wr.heap.size 1 #[Value.int .u8 (m % 250+1)] (by simp[Act.eval,Act.put]) (heap_alloc_new wr _) rfl (one_byte _) HBE.out ?_;intro v1 w1 hg1;obtain ⟨Av,cv,rfl⟩:=own_slice hg1.own;have HG1:=Aside0.mk hg1;clear hg1)
    have HS2:=Aside0.mk (St.F (numsI _) HA.out HG1.out);clear HS0 HA HBE HG1;have HI40:Aside0 (i<40):=⟨hlt⟩;have HW:Aside0 (∃ ww,ww=w1):=⟨_,rfl⟩;rcases Nat.lt_or_ge i 16 with h16|h16
    ·have hc1:(i:Int)<16:=by omega
     have HCT:Aside0 (ct (i+1)=ct i+1):=⟨by unfold ct;rw[if_pos (by omega),if_pos (by omega)];omega⟩;have HCB:Aside0 (ct i+1≤100):=⟨by unfold ct;rw[if_pos (by omega)];omega⟩;obtain ⟨ρ,vI,vM,E,ms,hs⟩:=HS2.out;have HS0:=Aside0.mk hs;clear hs HS2;have hq1:=(cell_kb HS0.out HCS.out (by decide)).1;have HA:Aside0 (HS 5 36 1 1 2 3 1 3 kb [Value.int .u8 (m % 250+1)] m W0 ρ0 (.slice A0 n0 c0) cs0 E0 ms0 (w1.alloc (.cells #[.slice Av (nf+1) cv] 36 (0,0))) (.slice Av (nf+1) cv) (nf+1) (ct i) (ct i) ρ vI vM E ms):=⟨HS0.out.below ((Below.refl _ _).alloc (Nat.le_refl _) _)⟩;have HBE:=Aside0.mk (fits_E HA.out HE.out (Nat.le_trans (Nat.le_succ _) HCB.out));go_upto_region 9 with (refine wpList_grew _ rfl (.tmp 50) (.tmp 52) 57 rfl 36 (.slice none 0 0) 1 24 Try.underlying57 infI rfl (by decide) (by decide) vI E.length (E.map (·.v)) (by simp[Act.eval,Act.put]) HA.out.fam.oI w1.heap.size 1 #[.slice Av (nf+1) cv] (by simp[Act.eval,Act.put]) (heap_alloc_new w1 _) rfl (one_slice _ _ _) HBE.out ?_;intro v2 w2 hg1;obtain ⟨Ax,cx,rfl⟩:=own_slice hg1.own;have HG1:=Aside0.mk hg1;have hk1:=grown_kb HA.out.kbk HG1.out.grow HA.out.kbr HA.out.fam.bI (by decide) 1 _ (cell_kb HA.out HCS.out (by decide)).1;have hk1a:=hk1.1;have hk1b:=hk1.2;clear hk1 hg1 hq1)
     have HS1:=Aside0.mk (St.I (numsI _) HA.out HCS.out HG1.out);clear HS0 HA HBE HG1 hk1a hk1b
     generalize w2.setCell ⟨kb,1,none⟩ (.slice Ax (E.length+1) cx)=w3 at HS1 ⊢
     obtain ⟨ρ,vI,vM,E,ms,hs⟩:=HS1.out;have HS0:=Aside0.mk hs;clear hs HS1;have hq1:=(cell_kb HS0.out HCS.out (by decide)).2;have HA:Aside0 (HS 5 36 1 1 2 3 1 3 kb [Value.int .u8 (m % 250+1)] m W0 ρ0 (.slice A0 n0 c0) cs0 E0 ms0 (w3.alloc (.cells #[.int .i64 m] 3 (0,0))) (.slice Av (nf+1) cv) (nf+1) (ct i+1) (ct i) ρ vI vM E ms):=⟨HS0.out.below ((Below.refl _ _).alloc (Nat.le_refl _) _)⟩;have HBE:=Aside0.mk (fits_M HA.out HM.out (Nat.le_trans (Nat.le_succ _) HCB.out));go_upto_region 5 with (refine wpList_grew _ rfl (.tmp 60) (.tmp 62) 58 rfl 3 (.int .i64 0) 1 8 Try.underlying58 info3 rfl (by decide) (by decide) vM ms.length (ms.map (Value.int .i64)) (by simp[Act.eval,Act.put]) HA.out.fam.oM w3.heap.size 1 #[.int .i64 m] (by simp[Act.eval,Act.put]) (heap_alloc_new w3 _) rfl (one_int _) HBE.out ?_;intro v4 w4 hg1;obtain ⟨Ay,cy,rfl⟩:=own_slice hg1.own;have HG1:=Aside0.mk hg1;have hk1:=grown_kb HA.out.kbk HG1.out.grow HA.out.kbr HA.out.fam.bM (by decide) 3 _ (cell_kb HA.out HCS.out (by decide)).2;have hk1a:=hk1.1;have hk1b:=hk1.2;clear hk1 hg1 hq1)
     have HS1:=Aside0.mk (St.M (numsI _) HA.out HCS.out HG1.out);clear HS0 HA HBE HG1 hk1a hk1b
     generalize w4.setCell ⟨kb,3,none⟩ (.slice Ay (ms.length+1) cy)=w5 at HS1 ⊢
     go_wp2_with fail
     go_roundw
     case rel=>exact ⟨i+1,Av,nf+1,cv,rfl,by go_num,⟨by have:=HI40.out;omega,by have:=HNF.out;omega,by rw[HCT.out];exact HS1.out⟩⟩
     case measure=>simp only[intOf];have:=HI40.out;first|omega|(go_num;omega)|(simp;omega)
    ·by_cases h39:i=39
     ·subst h39;have HCT:Aside0 (ct (39+1)=ct 39+1):=⟨rfl⟩;have HCB:Aside0 (ct 39+1≤100):=⟨by decide⟩;obtain ⟨ρ,vI,vM,E,ms,hs⟩:=HS2.out;have HS0:=Aside0.mk hs;clear hs HS2;have hq1:=(cell_kb HS0.out HCS.out (by decide)).1;have HA:Aside0 (HS 5 36 1 1 2 3 1 3 kb [Value.int .u8 (m % 250+1)] m W0 ρ0 (.slice A0 n0 c0) cs0 E0 ms0 (w1.alloc (.cells #[.slice Av (nf+1) cv] 36 (0,0))) (.slice Av (nf+1) cv) (nf+1) (ct 39) (ct 39) ρ vI vM E ms):=⟨HS0.out.below ((Below.refl _ _).alloc (Nat.le_refl _) _)⟩;have HBE:=Aside0.mk (fits_E HA.out HE.out (Nat.le_trans (Nat.le_succ _) HCB.out));go_upto_region 9 with (refine wpList_grew _ rfl (.tmp 50) (.tmp 52) 57 rfl 36 (.slice none 0 0) 1 24 Try.underlying57 infI rfl (by decide) (by decide) vI E.length (E.map (·.v)) (by simp[Act.eval,Act.put]) HA.out.fam.oI w1.heap.size 1 #[.slice Av (nf+1) cv] (by simp[Act.eval,Act.put]) (heap_alloc_new w1 _) rfl (one_slice _ _ _) HBE.out ?_;intro v2 w2 hg1;obtain ⟨Ax,cx,rfl⟩:=own_slice hg1.own;have HG1:=Aside0.mk hg1;have hk1:=grown_kb HA.out.kbk HG1.out.grow HA.out.kbr HA.out.fam.bI (by decide) 1 _ (cell_kb HA.out HCS.out (by decide)).1;have hk1a:=hk1.1;have hk1b:=hk1.2;clear hk1 hg1 hq1)
      have HS1:=Aside0.mk (St.I (numsI _) HA.out HCS.out HG1.out);clear HS0 HA HBE HG1 hk1a hk1b
      generalize w2.setCell ⟨kb,1,none⟩ (.slice Ax (E.length+1) cx)=w3 at HS1 ⊢
      obtain ⟨ρ,vI,vM,E,ms,hs⟩:=HS1.out;have HS0:=Aside0.mk hs;clear hs HS1;have hq1:=(cell_kb HS0.out HCS.out (by decide)).2;have HA:Aside0 (HS 5 36 1 1 2 3 1 3 kb [Value.int .u8 (m % 250+1)] m W0 ρ0 (.slice A0 n0 c0) cs0 E0 ms0 (w3.alloc (.cells #[.int .i64 m] 3 (0,0))) (.slice Av (nf+1) cv) (nf+1) (ct 39+1) (ct 39) ρ vI vM E ms):=⟨HS0.out.below ((Below.refl _ _).alloc (Nat.le_refl _) _)⟩;have HBE:=Aside0.mk (fits_M HA.out HM.out (Nat.le_trans (Nat.le_succ _) HCB.out));go_upto_region 5 with (refine wpList_grew _ rfl (.tmp 60) (.tmp 62) 58 rfl 3 (.int .i64 0) 1 8 Try.underlying58 info3 rfl (by decide) (by decide) vM ms.length (ms.map (Value.int .i64)) (by simp[Act.eval,Act.put]) HA.out.fam.oM w3.heap.size 1 #[.int .i64 m] (by simp[Act.eval,Act.put]) (heap_alloc_new w3 _) rfl (one_int _) HBE.out ?_;intro v4 w4 hg1;obtain ⟨Ay,cy,rfl⟩:=own_slice hg1.own;have HG1:=Aside0.mk hg1;have hk1:=grown_kb HA.out.kbk HG1.out.grow HA.out.kbr HA.out.fam.bM (by decide) 3 _ (cell_kb HA.out HCS.out (by decide)).2;have hk1a:=hk1.1;have hk1b:=hk1.2;clear hk1 hg1 hq1)
      have HS1:=Aside0.mk (St.M (numsI _) HA.out HCS.out HG1.out);clear HS0 HA HBE HG1 hk1a hk1b
      generalize w4.setCell ⟨kb,3,none⟩ (.slice Ay (ms.length+1) cy)=w5 at HS1 ⊢
      go_wp2_with fail
      go_roundw
      case rel=>exact ⟨40,Av,nf+1,cv,rfl,by go_num,⟨by have:=HI40.out;omega,by have:=HNF.out;omega,by rw[HCT.out];exact HS1.out⟩⟩
      case measure=>simp only[intOf];have:=HI40.out;first|omega|(go_num;omega)|(simp;omega)
     ·have hc1:¬(i:Int)<16:=by omega
      have hc2:¬(i:Int)=39:=by omega
      have hc1':decide ((i:Int)<16)=false:=decide_eq_false hc1;have hc2':((i:Int) == 39)=false:=by rw[beq_eq_false_iff_ne];exact hc2
      clear hc1 hc2;have HCT:Aside0 (ct (i+1)=ct i):=⟨by unfold ct;rw[if_neg (by omega),if_pos (by omega)];by_cases h:i=16;(subst h;rfl);rw[if_neg (by omega),if_pos (by omega)]⟩;go_wp2_with fail
      go_roundw
      case rel=>exact ⟨i+1,Av,nf+1,cv,rfl,by go_num,⟨by have:=HI40.out;omega,by have:=HNF.out;omega,by rw[HCT.out];exact HS2.out⟩⟩
      case measure=>simp only[intOf];have:=HI40.out;first|omega|(go_num;omega)|(simp;omega)
   ·obtain rfl:i=40:=by have:=HR.out.1;omega
    go_wp2_with fail
    first|go_end0|((try simp only[Exit.inBlock,Exit.then]);refine bodyPost_ret (results_none rfl _ _ _) rfl ?_)
    exact ⟨rfl,_,_,HR.out.2.2⟩
theorem numsR (m:Int):Nums 87 31 7 4 5 6 4 6 [.string ⟨#[109,97,114,107]⟩,.int .i64 m,.int .i64 0,.int .i64 0,.int .i64 0,.int .i64 0,.int .i64 0]:=⟨by decide,by decide,by decide,by decide,rfl,by decide⟩
theorem holdR_calls (kb : Nat) (far0 : Value) (n0 : Nat) (m : Int) (W0 : World) (ρ0 : Nat → Nat) (cs0 : Array Value) (E0 : List Ent) (ms0 : List Int) (h : St 87 31 7 4 5 6 4 6 kb [.string ⟨#[109, 97, 114, 107]⟩, .int .i64 m, .int .i64 0, .int .i64 0, .int .i64 0, .int .i64 0, .int .i64 0] m W0 ρ0 far0 cs0 E0 ms0 W0 far0 n0 0 0) (hcs : cs0.size = 7)
    (hm:0≤m∧m≤1099511627776) (hnf:n0≤1099511627776) (hE:E0.length≤1099511627776) (hM:ms0.length≤1099511627776):
    Calls Try.prog 111 #[.pointer (some ⟨kb,0,none⟩),far0,.int .i64 m] W0 fun e w'=>e = .returned (.tuple #[])∧∃ far nf',St 87 31 7 4 5 6 4 6 kb [.string ⟨#[109,97,114,107]⟩,.int .i64 m,.int .i64 0,.int .i64 0,.int .i64 0,.int .i64 0,.int .i64 0] m W0 ρ0 far0 cs0 E0 ms0 w' far nf' 18 18:=by
  have HCS:Aside0 ((4<cs0.size∧6<cs0.size)):=⟨by omega⟩;have HN:=Aside0.mk hnf;have HE:=Aside0.mk hE;have HM:=Aside0.mk hM;have hm0:(0:Int)≤m:=hm.1;have hm1:m≤1099511627776:=hm.2;obtain ⟨ρ,vI,vM,E,ms,hs⟩:=h;obtain ⟨A0,c0,rfl⟩:=own_slice hs.far_;have HS0:=Aside0.mk hs;clear hs hcs hm hnf hE hM;have hq1:=(cell_kb HS0.out HCS.out (by decide)).1;have HA:Aside0 (HS 87 31 7 4 5 6 4 6 kb [.string ⟨#[109,97,114,107]⟩,.int .i64 m,.int .i64 0,.int .i64 0,.int .i64 0,.int .i64 0,.int .i64 0] m W0 ρ0 (.slice A0 n0 c0) cs0 E0 ms0 (W0.alloc (.cells #[.slice A0 n0 c0] 31 (0,0))) (.slice A0 n0 c0) n0 0 0 ρ vI vM E ms):=⟨HS0.out.below ((Below.refl _ _).alloc (Nat.le_refl _) _)⟩;have HBE:=Aside0.mk (fits_E HA.out HE.out (by decide));go_enter Try.func111,Try.ntmps111
  go_upto_region 1 with (refine wpList_grew _ rfl (.tmp 12) (.tmp 14) 59 rfl 31 (.slice none 0 0) 1 24 Try.underlying59 infR rfl (by decide) (by decide) vI E.length (E.map (·.v)) (by simp[Act.eval,Act.put]) HA.out.fam.oI W0.heap.size 1 #[.slice A0 n0 c0] (by simp[Act.eval,Act.put]) (heap_alloc_new W0 _) rfl (one_slice _ _ _) HBE.out ?_;intro v1 w1 hg1;obtain ⟨Av,cv,rfl⟩:=own_slice hg1.own;have HG1:=Aside0.mk hg1;have hk1:=grown_kb HA.out.kbk HG1.out.grow HA.out.kbr HA.out.fam.bI (by decide) 4 _ (cell_kb HA.out HCS.out (by decide)).1;have hk1a:=hk1.1;have hk1b:=hk1.2;clear hk1 hg1 hq1)
  have HS1:=Aside0.mk (St.I (numsR _) HA.out HCS.out HG1.out);clear HS0 HA HBE HG1 hk1a hk1b
  generalize w1.setCell ⟨kb,4,none⟩ (.slice Av (E.length+1) cv)=wx at HS1 ⊢
  obtain ⟨ρ,vI,vM,E,ms,hs⟩:=HS1.out;have HS0:=Aside0.mk hs;clear hs HS1;have hq1:=(cell_kb HS0.out HCS.out (by decide)).2;have HA:Aside0 (HS 87 31 7 4 5 6 4 6 kb [.string ⟨#[109,97,114,107]⟩,.int .i64 m,.int .i64 0,.int .i64 0,.int .i64 0,.int .i64 0,.int .i64 0] m W0 ρ0 (.slice A0 n0 c0) cs0 E0 ms0 (wx.alloc (.cells #[.int .i64 m] 3 (0,0))) (.slice A0 n0 c0) n0 1 0 ρ vI vM E ms):=⟨HS0.out.below ((Below.refl _ _).alloc (Nat.le_refl _) _)⟩;have HBE:=Aside0.mk (fits_M HA.out HM.out (by decide));go_upto_region 2 with (refine wpList_grew _ rfl (.tmp 22) (.tmp 24) 58 rfl 3 (.int .i64 0) 1 8 Try.underlying58 info3 rfl (by decide) (by decide) vM ms.length (ms.map (Value.int .i64)) (by simp[Act.eval,Act.put]) HA.out.fam.oM wx.heap.size 1 #[.int .i64 m] (by simp[Act.eval,Act.put]) (heap_alloc_new wx _) rfl (one_int _) HBE.out ?_;intro v1 w1 hg1;obtain ⟨Av,cv,rfl⟩:=own_slice hg1.own;have HG1:=Aside0.mk hg1;have hk1:=grown_kb HA.out.kbk HG1.out.grow HA.out.kbr HA.out.fam.bM (by decide) 6 _ (cell_kb HA.out HCS.out (by decide)).2;have hk1a:=hk1.1;have hk1b:=hk1.2;clear hk1 hg1 hq1)
  have HS1:=Aside0.mk (St.M (numsR _) HA.out HCS.out HG1.out);clear HS0 HA HBE HG1 hk1a hk1b
  generalize w1.setCell ⟨kb,6,none⟩ (.slice Av (ms.length+1) cv)=wy at HS1 ⊢
  go_wp2_with fail
  go_loopw [6,7] (fun v6 v7 wr=>∃ (i:Nat) (A:Option Addr) (nf c:Nat),v6 = .slice A nf c∧v7 = .int .i64 (i:Int)∧Aside0 (i≤40∧nf=n0+i∧St 87 31 7 4 5 6 4 6 kb [.string ⟨#[109,97,114,107]⟩,.int .i64 m,.int .i64 0,.int .i64 0,.int .i64 0,.int .i64 0,.int .i64 0] m W0 ρ0 (.slice A0 n0 c0) cs0 E0 ms0 wr (.slice A nf c) nf (ct i) (ct i))) (fun _ v7 _=>40 - (intOf v7).toNat)
  case atStart=>exact ⟨0,A0,n0,c0,rfl,rfl,⟨by decide,rfl,HS1.out⟩⟩
  case round=>
   obtain ⟨i,A,nf,c,rfl,rfl,HR⟩:=hrel;by_cases hlt:i<40
   ·have hi0:(0:Int)≤(i:Int):=by omega
    have hi1:(i:Int)<40:=by omega
    obtain ⟨ρ,vI,vM,E,ms,hs⟩:=HR.out.2.2;have HNF:Aside0 (nf=n0+i):=⟨HR.out.2.1⟩;have HS0:=Aside0.mk hs;clear hs HR;have HA:Aside0 (HS 87 31 7 4 5 6 4 6 kb [.string ⟨#[109,97,114,107]⟩,.int .i64 m,.int .i64 0,.int .i64 0,.int .i64 0,.int .i64 0,.int .i64 0] m W0 ρ0 (.slice A0 n0 c0) cs0 E0 ms0 (wr.alloc (.cells #[.string ⟨#[109,97,114,107]⟩,.int .i64 m,.int .i64 0,.int .i64 0,.int .i64 0,.int .i64 0,.int .i64 0] 87 (0,0))) (.slice A nf c) nf (ct i) (ct i) ρ vI vM E ms):=⟨HS0.out.below ((Below.refl _ _).alloc (Nat.le_refl _) _)⟩;have HBE:Aside0 ((nf+1) * 64≤140737488355328):=⟨by have:=HN.out;have:=HNF.out;omega⟩;go_upto_region 7 with (refine wpList_grew _ rfl (.tmp 33) (.tmp 36) 31 rfl 87 (.agg #[.string ⟨#[]⟩,.int .i64 0,.int .i64 0,.int .i64 0,.int .i64 0,.int .i64 0,.int .i64 0]) 7 64 Try.underlying31 inf87 rfl (by decide) (by decide) (.slice A nf c) nf (List.replicate nf [.string ⟨#[109,97,114,107]⟩,.int .i64 m,.int .i64 0,.int .i64 0,.int .i64 0,.int .i64 0,.int .i64 0]).flatten (by simp[Act.eval,Act.put]) HA.out.far_ wr.heap.size 1 #[.string ⟨#[109,97,114,107]⟩,.int .i64 m,.int .i64 0,.int .i64 0,.int .i64 0,.int .i64 0,.int .i64 0] (by simp[Act.eval,Act.put]) (heap_alloc_new wr _) rfl (one_view _) HBE.out ?_;intro v1 w1 hg1;obtain ⟨Av,cv,rfl⟩:=own_slice hg1.own;have HG1:=Aside0.mk hg1;clear hg1)
    have HS2:=Aside0.mk (St.F (numsR _) HA.out HG1.out);clear HS0 HA HBE HG1;have HI40:Aside0 (i<40):=⟨hlt⟩;have HW:Aside0 (∃ ww,ww=w1):=⟨_,rfl⟩;rcases Nat.lt_or_ge i 16 with h16|h16
    ·have hc1:(i:Int)<16:=by omega
     have HCT:Aside0 (ct (i+1)=ct i+1):=⟨by unfold ct;rw[if_pos (by omega),if_pos (by omega)];omega⟩;have HCB:Aside0 (ct i+1≤100):=⟨by unfold ct;rw[if_pos (by omega)];omega⟩;obtain ⟨ρ,vI,vM,E,ms,hs⟩:=HS2.out;have HS0:=Aside0.mk hs;clear hs HS2;have hq1:=(cell_kb HS0.out HCS.out (by decide)).1;have HA:Aside0 (HS 87 31 7 4 5 6 4 6 kb [.string ⟨#[109,97,114,107]⟩,.int .i64 m,.int .i64 0,.int .i64 0,.int .i64 0,.int .i64 0,.int .i64 0] m W0 ρ0 (.slice A0 n0 c0) cs0 E0 ms0 (w1.alloc (.cells #[.slice Av (nf+1) cv] 31 (0,0))) (.slice Av (nf+1) cv) (nf+1) (ct i) (ct i) ρ vI vM E ms):=⟨HS0.out.below ((Below.refl _ _).alloc (Nat.le_refl _) _)⟩;have HBE:=Aside0.mk (fits_E HA.out HE.out (Nat.le_trans (Nat.le_succ _) HCB.out));go_upto_region 9 with (refine wpList_grew _ rfl (.tmp 48) (.tmp 50) 59 rfl 31 (.slice none 0 0) 1 24 Try.underlying59 infR rfl (by decide) (by decide) vI E.length (E.map (·.v)) (by simp[Act.eval,Act.put]) HA.out.fam.oI w1.heap.size 1 #[.slice Av (nf+1) cv] (by simp[Act.eval,Act.put]) (heap_alloc_new w1 _) rfl (one_slice _ _ _) HBE.out ?_;intro v2 w2 hg1;obtain ⟨Ax,cx,rfl⟩:=own_slice hg1.own;have HG1:=Aside0.mk hg1;have hk1:=grown_kb HA.out.kbk HG1.out.grow HA.out.kbr HA.out.fam.bI (by decide) 4 _ (cell_kb HA.out HCS.out (by decide)).1;have hk1a:=hk1.1;have hk1b:=hk1.2;clear hk1 hg1 hq1)
     have HS1:=Aside0.mk (St.I (numsR _) HA.out HCS.out HG1.out);clear HS0 HA HBE HG1 hk1a hk1b
     generalize w2.setCell ⟨kb,4,none⟩ (.slice Ax (E.length+1) cx)=w3 at HS1 ⊢
     obtain ⟨ρ,vI,vM,E,ms,hs⟩:=HS1.out;have HS0:=Aside0.mk hs;clear hs HS1;have hq1:=(cell_kb HS0.out HCS.out (by decide)).2;have HA:Aside0 (HS 87 31 7 4 5 6 4 6 kb [.string ⟨#[109,97,114,107]⟩,.int .i64 m,.int .i64 0,.int .i64 0,.int .i64 0,.int .i64 0,.int .i64 0] m W0 ρ0 (.slice A0 n0 c0) cs0 E0 ms0 (w3.alloc (.cells #[.int .i64 m] 3 (0,0))) (.slice Av (nf+1) cv) (nf+1) (ct i+1) (ct i) ρ vI vM E ms):=⟨HS0.out.below ((Below.refl _ _).alloc (Nat.le_refl _) _)⟩;have HBE:=Aside0.mk (fits_M HA.out HM.out (Nat.le_trans (Nat.le_succ _) HCB.out));go_upto_region 5 with (refine wpList_grew _ rfl (.tmp 58) (.tmp 60) 58 rfl 3 (.int .i64 0) 1 8 Try.underlying58 info3 rfl (by decide) (by decide) vM ms.length (ms.map (Value.int .i64)) (by simp[Act.eval,Act.put]) HA.out.fam.oM w3.heap.size 1 #[.int .i64 m] (by simp[Act.eval,Act.put]) (heap_alloc_new w3 _) rfl (one_int _) HBE.out ?_;intro v4 w4 hg1;obtain ⟨Ay,cy,rfl⟩:=own_slice hg1.own;have HG1:=Aside0.mk hg1;have hk1:=grown_kb HA.out.kbk HG1.out.grow HA.out.kbr HA.out.fam.bM (by decide) 6 _ (cell_kb HA.out HCS.out (by decide)).2;have hk1a:=hk1.1;have hk1b:=hk1.2;clear hk1 hg1 hq1)
     have HS1:=Aside0.mk (St.M (numsR _) HA.out HCS.out HG1.out);clear HS0 HA HBE HG1 hk1a hk1b
     generalize w4.setCell ⟨kb,6,none⟩ (.slice Ay (ms.length+1) cy)=w5 at HS1 ⊢
     go_wp2_with fail
     go_roundw
     case rel=>exact ⟨i+1,Av,nf+1,cv,rfl,by go_num,⟨by have:=HI40.out;omega,by have:=HNF.out;omega,by rw[HCT.out];exact HS1.out⟩⟩
     case measure=>simp only[intOf];have:=HI40.out;first|omega|(go_num;omega)|(simp;omega)
    ·by_cases h39:i=39
     ·subst h39;have HCT:Aside0 (ct (39+1)=ct 39+1):=⟨rfl⟩;have HCB:Aside0 (ct 39+1≤100):=⟨by decide⟩;obtain ⟨ρ,vI,vM,E,ms,hs⟩:=HS2.out;have HS0:=Aside0.mk hs;clear hs HS2;have hq1:=(cell_kb HS0.out HCS.out (by decide)).1;have HA:Aside0 (HS 87 31 7 4 5 6 4 6 kb [.string ⟨#[109,97,114,107]⟩,.int .i64 m,.int .i64 0,.int .i64 0,.int .i64 0,.int .i64 0,.int .i64 0] m W0 ρ0 (.slice A0 n0 c0) cs0 E0 ms0 (w1.alloc (.cells #[.slice Av (nf+1) cv] 31 (0,0))) (.slice Av (nf+1) cv) (nf+1) (ct 39) (ct 39) ρ vI vM E ms):=⟨HS0.out.below ((Below.refl _ _).alloc (Nat.le_refl _) _)⟩;have HBE:=Aside0.mk (fits_E HA.out HE.out (Nat.le_trans (Nat.le_succ _) HCB.out));go_upto_region 9 with (refine wpList_grew _ rfl (.tmp 48) (.tmp 50) 59 rfl 31 (.slice none 0 0) 1 24 Try.underlying59 infR rfl (by decide) (by decide) vI E.length (E.map (·.v)) (by simp[Act.eval,Act.put]) HA.out.fam.oI w1.heap.size 1 #[.slice Av (nf+1) cv] (by simp[Act.eval,Act.put]) (heap_alloc_new w1 _) rfl (one_slice _ _ _) HBE.out ?_;intro v2 w2 hg1;obtain ⟨Ax,cx,rfl⟩:=own_slice hg1.own;have HG1:=Aside0.mk hg1;have hk1:=grown_kb HA.out.kbk HG1.out.grow HA.out.kbr HA.out.fam.bI (by decide) 4 _ (cell_kb HA.out HCS.out (by decide)).1;have hk1a:=hk1.1;have hk1b:=hk1.2;clear hk1 hg1 hq1)
      have HS1:=Aside0.mk (St.I (numsR _) HA.out HCS.out HG1.out);clear HS0 HA HBE HG1 hk1a hk1b
      generalize w2.setCell ⟨kb,4,none⟩ (.slice Ax (E.length+1) cx)=w3 at HS1 ⊢
      obtain ⟨ρ,vI,vM,E,ms,hs⟩:=HS1.out;have HS0:=Aside0.mk hs;clear hs HS1;have hq1:=(cell_kb HS0.out HCS.out (by decide)).2;have HA:Aside0 (HS 87 31 7 4 5 6 4 6 kb [.string ⟨#[109,97,114,107]⟩,.int .i64 m,.int .i64 0,.int .i64 0,.int .i64 0,.int .i64 0,.int .i64 0] m W0 ρ0 (.slice A0 n0 c0) cs0 E0 ms0 (w3.alloc (.cells #[.int .i64 m] 3 (0,0))) (.slice Av (nf+1) cv) (nf+1) (ct 39+1) (ct 39) ρ vI vM E ms):=⟨HS0.out.below ((Below.refl _ _).alloc (Nat.le_refl _) _)⟩;have HBE:=Aside0.mk (fits_M HA.out HM.out (Nat.le_trans (Nat.le_succ _) HCB.out));go_upto_region 5 with (refine wpList_grew _ rfl (.tmp 58) (.tmp 60) 58 rfl 3 (.int .i64 0) 1 8 Try.underlying58 info3 rfl (by decide) (by decide) vM ms.length (ms.map (Value.int .i64)) (by simp[Act.eval,Act.put]) HA.out.fam.oM w3.heap.size 1 #[.int .i64 m] (by simp[Act.eval,Act.put]) (heap_alloc_new w3 _) rfl (one_int _) HBE.out ?_;intro v4 w4 hg1;obtain ⟨Ay,cy,rfl⟩:=own_slice hg1.own;have HG1:=Aside0.mk hg1;have hk1:=grown_kb HA.out.kbk HG1.out.grow HA.out.kbr HA.out.fam.bM (by decide) 6 _ (cell_kb HA.out HCS.out (by decide)).2;have hk1a:=hk1.1;have hk1b:=hk1.2;clear hk1 hg1 hq1)
      have HS1:=Aside0.mk (St.M (numsR _) HA.out HCS.out HG1.out);clear HS0 HA HBE HG1 hk1a hk1b
      generalize w4.setCell ⟨kb,6,none⟩ (.slice Ay (ms.length+1) cy)=w5 at HS1 ⊢
      go_wp2_with fail
      go_roundw
      case rel=>exact ⟨40,Av,nf+1,cv,rfl,by go_num,⟨by have:=HI40.out;omega,by have:=HNF.out;omega,by rw[HCT.out];exact HS1.out⟩⟩
      case measure=>simp only[intOf];have:=HI40.out;first|omega|(go_num;omega)|(simp;omega)
     ·have hc1:¬(i:Int)<16:=by omega
      have hc2:¬(i:Int)=39:=by omega
      have hc1':decide ((i:Int)<16)=false:=decide_eq_false hc1;have hc2':((i:Int) == 39)=false:=by rw[beq_eq_false_iff_ne];exact hc2
      clear hc1 hc2;have HCT:Aside0 (ct (i+1)=ct i):=⟨by unfold ct;rw[if_neg (by omega),if_pos (by omega)];by_cases h:i=16;(subst h;rfl);rw[if_neg (by omega),if_pos (by omega)]⟩;go_wp2_with fail
      go_roundw
      case rel=>exact ⟨i+1,Av,nf+1,cv,rfl,by go_num,⟨by have:=HI40.out;omega,by have:=HNF.out;omega,by rw[HCT.out];exact HS2.out⟩⟩
      case measure=>simp only[intOf];have:=HI40.out;first|omega|(go_num;omega)|(simp;omega)
   ·obtain rfl:i=40:=by have:=HR.out.1;omega
    go_wp2_with fail
    first|go_end0|((try simp only[Exit.inBlock,Exit.then]);refine bodyPost_ret (results_none rfl _ _ _) rfl ?_)
    exact ⟨rfl,_,_,HR.out.2.2⟩
end Go.Proofs.Ytpgdmmjbhjbbhaa.Hd
end
section
namespace Go.Proofs.Ytpgdmmjbhjbbhaa.Pn
open Go.RowKit P YtpgdmmjbhjbbhaaW.PrintWords YtpgdmmjbhjbbhaaW.PrintLast YtpgdmmjbhjbbhaaW.PrintMore Gw Ks Hd Kr
structure Marked (pat:Int→List Value) (E:List Ent) (ms:List Int):Prop where
 len:E.length=ms.length
 full:∀ (i:Nat) (x:Ent) (m:Int),E[i]?=some x→ms[i]?=some m→x.cs=(List.replicate x.n (pat m)).flatten
 bd:∀ m ∈ ms,0≤m∧m≤1099511627776
theorem Marked.nil (pat:Int→List Value):Marked pat [] []:=⟨rfl,fun i x m h=>by simp at h,fun m h=>by simp at h⟩
theorem Marked.more {pat:Int→List Value} {E E':List Ent} {ms:List Int} {m:Int} {c:Nat} (h:Marked pat E ms) (hl:E'.length=c) (hm:0≤m∧m≤1099511627776) (hf:∀ x ∈ E',x.cs=(List.replicate x.n (pat m)).flatten):Marked pat (E++E') (ms++List.replicate c m):=by
 refine ⟨by simp[h.len,hl],fun i x m' h1 h2=>?_,fun m' h1=>?_⟩
 ·rcases Nat.lt_or_ge i E.length with h3|h3
  ·rw[List.getElem?_append_left h3] at h1;rw[List.getElem?_append_left (by rw[←h.len];exact h3)] at h2;exact h.full i x m' h1 h2
  ·rw[List.getElem?_append_right h3] at h1;rw[List.getElem?_append_right (by rw[←h.len];exact h3)] at h2;have h4:=List.mem_of_getElem? h1;have h5:=List.eq_of_mem_replicate (List.mem_of_getElem? h2);rw[h5];exact hf x h4
 ·rcases List.mem_append.1 h1 with h2|h2
  ·exact h.bd m' h2
  ·rw[List.eq_of_mem_replicate h2];exact hm
def patI (m:Int):List Value:=[.int .u8 (m % 250+1)]
def patR (m:Int):List Value:=[.string ⟨#[109,97,114,107]⟩,.int .i64 m,.int .i64 0,.int .i64 0,.int .i64 0,.int .i64 0,.int .i64 0]
def mkv (m:Int):S87:=⟨⟨#[109,97,114,107]⟩,m,0,0,⟨0,0⟩,0⟩
structure KNx (kb:Nat) (ρ:Nat→Nat) (n:Nat) (w:World) (vI vM vR vN:Value) (E ER:List Ent) (ms mr:List Int):Prop where
 blk:w.heap[kb]?=some (.cells #[.bool false,vI,.slice none 0 0,vM,vR,.slice none 0 0,vN] 61 (0,0))
 lbl:ρ kb=7
 fI:Fam 5 36 1 1 2 3 ρ w vI vM E ms
 fR:Fam 87 31 7 4 5 6 ρ w vR vN ER mr
 zer:∀ k,ρ k≠0→k<w.heap.size
 mI:Marked patI E ms
 mR:Marked patR ER mr
 nI:E.length≤18 * n
 nR:ER.length≤18 * n
def KN (kb:Nat) (ρ:Nat→Nat) (n:Nat) (w:World):Prop:=∃ vI vM vR vN E ER ms mr,KNx kb ρ n w vI vM vR vN E ER ms mr
section
variable {T tI sz rI rM rE:Nat} {ρ ρ':Nat→Nat} {w w1:World} {vI vM:Value} {E:List Ent} {ms:List Int}
theorem fam_move (h:Fam T tI sz rI rM rE ρ w vI vM E ms) (hm:∀ k,k<w.heap.size→(ρ k=rI∨ρ k=rM∨ρ k=rE)→w1.heap[k]?=w.heap[k]?∧ρ' k=ρ k):Fam T tI sz rI rM rE ρ' w1 vI vM E ms:=by
 refine ⟨Ks.own_move h.oI fun k hk=>(hm k (Ks.own_lt h.oI k hk) (.inl (h.bI k hk))).1,fun k hk=>(hm k (Ks.own_lt h.oI k hk) (.inl (h.bI k hk))).2.trans (h.bI k hk),Ks.own_move h.oM fun k hk=>(hm k (Ks.own_lt h.oM k hk) (.inr (.inl (h.bM k hk)))).1,fun k hk=>(hm k (Ks.own_lt h.oM k hk) (.inr (.inl (h.bM k hk)))).2.trans (h.bM k hk),fun x hx=>?_⟩;have h1:=h.en x hx;exact ⟨Ks.own_move h1.1 fun k hk=>(hm k (Ks.own_lt h1.1 k hk) (.inr (.inr (h1.2 k hk)))).1,fun k hk=>(hm k (Ks.own_lt h1.1 k hk) (.inr (.inr (h1.2 k hk)))).2.trans (h1.2 k hk)⟩
end
theorem KN.move {kb:Nat} {ρ:Nat→Nat} {n:Nat} {w w1:World} (h:KN kb ρ n w) (hm:∀ k,k<w.heap.size→ρ k≠0→w1.heap[k]?=w.heap[k]?) (hs:w.heap.size≤w1.heap.size):KN kb ρ n w1:=by
 obtain ⟨vI,vM,vR,vN,E,ER,ms,mr,h⟩:=h;exact ⟨vI,vM,vR,vN,E,ER,ms,mr,(hm kb (blk_lt h.blk) (by rw[h.lbl];decide)).trans h.blk,h.lbl,fam_move h.fI fun k hk hr=>⟨hm k hk (by omega),rfl⟩,fam_move h.fR fun k hk hr=>⟨hm k hk (by omega),rfl⟩,fun k hk=>Nat.lt_of_lt_of_le (h.zer k hk) hs,h.mI,h.mR,h.nI,h.nR⟩
theorem w64 {n:Int} (h0 : -9223372036854775808≤n) (h1:n≤9223372036854775807):wrap64 n=n:=IntWalk.wrap64_in n ⟨h0,h1⟩
theorem fill_loop (m : Int) (hm : 0 ≤ m ∧ m ≤ 1099511627776) : ∀ (d i : Nat) (x : List Int), x.length ≤ 140737488355328 → x.length - i = d → i ≤ x.length → (∀ j, j < i → x.getD j 0 = m % 250 + 1) → Ev (fun k => sluicelaw2_fill.l0 k x m (i : Int)) (List.replicate x.length (m % 250 + 1)) := by
  have hb:wrap64 (Int.tmod m 250+1) % 256=m % 250+1:=by rw[Int.tmod_eq_emod_of_nonneg hm.1,w64 (by omega) (by omega),Int.emod_eq_of_lt (by omega) (by omega)]
  intro d
  induction d with
  | zero=>
   intro i x hx hd hi h
   have e:x=List.replicate x.length (m % 250+1):=by
    apply List.ext_getElem?;intro j;rcases Nat.lt_or_ge j x.length with h2|h2
    ·have:=h j (by omega);rw[List.getD_eq_getElem?_getD,List.getElem?_eq_getElem h2] at this;rw[List.getElem?_eq_getElem h2,List.getElem?_replicate,if_pos h2];simpa using this
    ·rw[List.getElem?_eq_none h2,List.getElem?_eq_none (by simpa using h2)]
   refine Ev.step (f:=fun _=>some x) (fun k=>?_) (by rw[←e];exact Ev.now _);simp only[sluicelaw2_fill.l0];rw[if_neg (by omega)]
  | succ d ih=>
   intro i x hx hd hi h
   have := ih (i + 1) (x.set i (m % 250 + 1)) (by simpa using hx) (by simp; omega) (by simp; omega) (by
     intro j hj;rw[show ∀ (p:List Int) (i j:Nat) (x:Int),(p.set i x).getD j 0=if i=j∧j<p.length then x else p.getD j 0 from fun p i j x=>by rw[List.getD_eq_getElem?_getD,List.getD_eq_getElem?_getD,List.getElem?_set];by_cases h:i=j<;>by_cases h2:j<p.length<;>simp[h,h2]];by_cases e:i=j
     ·rw[if_pos ⟨e,by omega⟩]
     ·rw[if_neg (fun hh=>e hh.1)];exact h j (by omega))
   rw[List.length_set] at this;refine Ev.step (fun k=>?_) this;simp only[sluicelaw2_fill.l0];rw[if_pos (by omega),if_pos (by omega),hb,w64 (n:=(i:Int)+1) (by omega) (by omega),Int.toNat_natCast];exact (by simp)
theorem fill_ev (l:List Int) (m:Int) (hm:0≤m∧m≤1099511627776) (hl:l.length≤140737488355328):Ev (fun k=>sluicelaw2_fill.f k l m) (List.replicate l.length (m % 250+1)):=
 fill_loop m hm l.length 0 l hl rfl (Nat.zero_le _) (fun j hj=>absurd hj (by omega))
theorem fillR_loop (m:Int) (hm:0≤m∧m≤1099511627776):∀ (d i:Nat) (x:List S87),x.length≤140737488355328→x.length - i=d→i≤x.length→(∀ j,j<i→x[j]?=some (mkv m))→Ev (fun k=>sluicelaw2_fillViews.l0 k x m (i:Int)) (List.replicate x.length (mkv m)):=by
 intro d
 induction d with
 | zero=>
  intro i x hx hd hi h
  have e:x=List.replicate x.length (mkv m):=by
   apply List.ext_getElem?;intro j;rcases Nat.lt_or_ge j x.length with h2|h2
   ·rw[h j (by omega),List.getElem?_replicate,if_pos h2]
   ·rw[List.getElem?_eq_none h2,List.getElem?_eq_none (by simpa using h2)]
  refine Ev.step (f:=fun _=>some x) (fun k=>?_) (by rw[←e];exact Ev.now _);simp only[sluicelaw2_fillViews.l0];rw[if_neg (by omega)]
 | succ d ih=>
  intro i x hx hd hi h
  have := ih (i + 1) (x.set i (mkv m)) (by simpa using hx) (by simp; omega) (by simp; omega) (by
    intro j hj;rw[List.getElem?_set];by_cases e:i=j
    ·rw[if_pos e,if_pos (by omega)]
    ·rw[if_neg e];exact h j (by omega))
  rw[List.length_set] at this;refine Ev.step (fun k=>?_) this;simp only[sluicelaw2_fillViews.l0];rw[if_pos (by omega),if_pos (by omega),w64 (by omega) (by omega),Int.toNat_natCast];exact (by simp[mkv])
theorem fillR_ev (l:List S87) (m:Int) (hm:0≤m∧m≤1099511627776) (hl:l.length≤140737488355328):Ev (fun k=>sluicelaw2_fillViews.f k l m) (List.replicate l.length (mkv m)):=
 fillR_loop m hm l.length 0 l hl rfl (Nat.zero_le _) (fun j hj=>absurd hj (by omega))
theorem flat_one (n:Nat) (a:Value):(List.replicate n [a]).flatten=List.replicate n a:=by
 induction n with
 | zero=>rfl
 | succ n ih=>rw[List.replicate_succ,List.flatten_cons,ih,List.replicate_succ];rfl
theorem own_ints {w:World} {ok:Nat→Prop} {v:Value} {n:Nat} {a:Int} (h:Kd.R (Kd.int .u8) 5 w 0 ok v (List.replicate n a)):w.ownsRow 0 5 1 v n (List.replicate n [Value.int .u8 a]).flatten:=by
 have h2:=Kd.own_of_R h;rw[List.length_replicate] at h2;rw[flat_one]
 simpa [encs] using h2
def cell2 (x:S87):List Value:=[.string x.f0,.int .i64 x.f1,.int .i64 x.f2,.int .i64 x.f3,.int .i64 x.f4.f0,.int .i64 x.f4.f1,.int .i64 x.f5]
theorem reps_flat {α:Type} {R:α→List Value→Prop} {sz:Nat} {f:α→List Value} (hf:∀ p c,R p c→c=f p):∀ (ps:List α) (cs:List Value),Reps R sz ps cs→cs=ps.flatMap f:=by
 intro ps
 induction ps with
 | nil=>intro cs h;have:=h.1;simp at this;simp[this]
 | cons p ps ih=>
  intro cs h;have h0:=hf p _ (h.2 0 p rfl);simp only[Nat.zero_mul,List.drop_zero] at h0
  have h1:Reps R sz ps (cs.drop sz):=by
   refine ⟨by rw[List.length_drop,h.1,List.length_cons,Nat.add_mul];omega,fun j q hq=>?_⟩;have:=h.2 (j+1) q (by simpa using hq);rw[List.drop_drop];rw[show sz+j * sz=(j+1) * sz from by rw[Nat.add_mul];omega];exact this
  rw[List.flatMap_cons,←h0,←ih _ h1,List.take_append_drop]
theorem own_R2 {w:World} {ok:Nat→Prop} {v:Value} {xs:List S87} (h:Kd.R k87 87 w 0 ok v xs):w.ownsRow 0 87 7 v xs.length (xs.flatMap cell2):=by
 obtain ⟨_,inner,ho,hr⟩:=h;have:=reps_flat (f:=cell2) (fun p c hc=>k87_openM hc) xs inner hr;rw[this] at ho;exact ho
theorem own_rights {w:World} {ok:Nat→Prop} {v:Value} {n:Nat} {a:S87} (h:Kd.R k87 87 w 0 ok v (List.replicate n a)):w.ownsRow 0 87 7 v n (List.replicate n (cell2 a)).flatten:=by
 have h2:=own_R2 h;rw[List.length_replicate] at h2
 simpa [List.flatMap,List.map_replicate] using h2
def lab0 (ρ:Nat→Nat) (v:Value) (r:Nat):Nat→Nat:=fun k=>if some k=v.ownBlock then r else ρ k
theorem lab0_eq {ρ:Nat→Nat} {v:Value} {r k:Nat} (h:some k=v.ownBlock):lab0 ρ v r k=r:=if_pos h
theorem lab0_ne {ρ:Nat→Nat} {v:Value} {r k:Nat} (h:some k≠v.ownBlock):lab0 ρ v r k=ρ k:=if_neg h
section
variable {kb:Nat} {ρ:Nat→Nat} {n:Nat} {w w1 w2:World} {vI vM vR vN v:Value} {E ER:List Ent} {ms mr:List Int} {nf:Nat} {m:Int}
theorem lab_ne (hv:∀ k,v.ownBlock=some k→ρ k=0) {k:Nat} (h:ρ k≠0):some k≠v.ownBlock:=fun e=>h (hv k e.symm)
theorem init {T tI sz rI rM rE iI iM:Nat} {pat:List Value} {cs0:Array Value} {vx vy:Value} (N:Nums T tI sz rI rM rE iI iM pat) (hb:w.heap[kb]?=some (.cells cs0 61 (0,0))) (hcs:cs0=(cs0.setIfInBounds iI vx).setIfInBounds iM vy) (hl:ρ kb=7)
  (hf:Fam T tI sz rI rM rE ρ w vx vy E ms) (hz:∀ k,ρ k≠0→k<w.heap.size) (hk:Kept w w1 (fun k=>some k=v.ownBlock)) (hv:∀ k,v.ownBlock=some k→ρ k=0) (ho:w1.ownsRow 0 T sz v nf (List.replicate nf pat).flatten):
  HS T tI sz rI rM rE iI iM kb pat m w1 (lab0 ρ v rE) v cs0 E ms w1 v nf 0 0 (lab0 ρ v rE) vx vy E ms:=by
 have d0:=N.d0;have d7:=N.d7;refine ⟨?_,?_,?_,ho,fun k hk=>lab0_eq hk.symm,?_,⟨[],by simp,rfl,fun x hx=>by simp at hx⟩,by simp,fun _ _=>rfl,?_,fun _ _ _ _ _ _=>rfl,.inl rfl,Below.refl _ _⟩
 ·rw[←hcs];exact (hk.2 kb (blk_lt hb) (lab_ne hv (by rw[hl];decide))).trans hb
 ·rw[lab0_ne (lab_ne hv (by rw[hl];decide))];exact hl
 ·refine fam_move hf fun k hlt hr=>?_;have hne:=lab_ne hv (k:=k) (by omega);exact ⟨hk.2 k hlt hne,lab0_ne hne⟩
 ·intro x hx he hn;exfalso
  obtain ⟨k,hk2⟩:=Option.ne_none_iff_exists'.1 hn;have h1:=(hf.en x hx).2 k (by rw[he];exact hk2);have h2:=hv k hk2;omega
 ·intro k h;by_cases e:some k=v.ownBlock
  ·exact Ks.own_lt ho k e.symm
  ·rw[lab0_ne e] at h;exact Nat.lt_of_lt_of_le (hz k h) hk.1
theorem other {T tI sz rI rM rE iI iM T2 tI2 sz2 r1 r2 r3:Nat} {pat:List Value} {cs0:Array Value} {far:Value} {nf2 cI cM:Nat} {ρ':Nat→Nat} {vx vy v1 v2:Value} {E' E2:List Ent} {ms' m2:List Int}
  (hf:Fam T2 tI2 sz2 r1 r2 r3 ρ w v1 v2 E2 m2) (hd:(r1≠0∧r1≠7∧r1≠rI∧r1≠rM)∧(r2≠0∧r2≠7∧r2≠rI∧r2≠rM)∧(r3≠0∧r3≠7∧r3≠rI∧r3≠rM))
  (hk:Kept w w1 (fun k=>some k=v.ownBlock)) (hv:∀ k,v.ownBlock=some k→ρ k=0) (h:HS T tI sz rI rM rE iI iM kb pat m w1 (lab0 ρ v rE) v cs0 E ms w2 far nf2 cI cM ρ' vx vy E' ms'):Fam T2 tI2 sz2 r1 r2 r3 ρ' w2 v1 v2 E2 m2:=by
 refine fam_move hf fun k hlt hr=>?_;have hne:=lab_ne hv (k:=k) (by omega);have hlt1:k<w1.heap.size:=Nat.lt_of_lt_of_le hlt hk.1;refine ⟨(h.kept k hlt1 ?_ ?_ ?_ hne).trans (hk.2 k hlt hne),(h.lab k hlt1).trans (lab0_ne hne)⟩<;>(rw[lab0_ne hne];omega)
theorem after {T tI sz rI rM rE iI iM:Nat} {pat:List Value} {cs0:Array Value} {far:Value} {nf2 cI cM:Nat} {ρ':Nat→Nat} {vx vy:Value} {E':List Ent} {ms':List Int} (N:Nums T tI sz rI rM rE iI iM pat)
  (hk:Kept w w1 (fun k=>some k=v.ownBlock)) (hb:Below 0 w w1) (h:HS T tI sz rI rM rE iI iM kb pat m w1 (lab0 ρ v rE) v cs0 E ms w2 far nf2 cI cM ρ' vx vy E' ms'):After ρ ρ' v w w2:=by
 have d0:=N.d0;refine ⟨fun k hlt=>?_,hb.trans h.b0,fun k hlt h0 hne=>?_⟩
 ·by_cases e:some k=v.ownBlock
  ·exact .inr e
  ·exact .inl ((h.lab k (Nat.lt_of_lt_of_le hlt hk.1)).trans (lab0_ne e))
 ·refine (h.kept k (Nat.lt_of_lt_of_le hlt hk.1) ?_ ?_ ?_ hne).trans (hk.2 k hlt hne)<;>(rw[lab0_ne hne];omega)
end
end Go.Proofs.Ytpgdmmjbhjbbhaa.Pn
end
section
namespace Go.Proofs.Ytpgdmmjbhjbbhaa.Pn
open Go.RowKit P YtpgdmmjbhjbbhaaW.PrintWords YtpgdmmjbhjbbhaaW.PrintLast YtpgdmmjbhjbbhaaW.PrintMore Gw Ks Hd Kr
theorem putI_calls {kb:Nat} {ρ:Nat→Nat} {n:Nat} {w:World} {v:Value} {xs:List Int} (hK:KN kb ρ n w) (hn:n≤4194304) (hx:xs.length≤100000) (hR:Kd.R (Kd.int .u8) 5 w 0 (fun _=>True) v xs) (hv:∀ k,v.ownBlock=some k→ρ k=0):
  Calls Try.prog 76 #[.pointer (some ⟨kb,0,none⟩),v] w fun e w'=>e = .returned (.tuple #[])∧∃ ρ',KN kb ρ' (n+1) w'∧After ρ ρ' v w w':=by
 obtain ⟨vI,vM,vR,vN,E,ER,ms,mr,h⟩:=hK;have h1:ms.length≤75497472:=by have:=h.nI;have:=h.mI.len;omega
 have hm:(0:Int)≤(ms.length:Int)∧(ms.length:Int)≤1099511627776:=by omega
 obtain ⟨kf,hkf⟩:=Ev.rounds (fill_ev xs (ms.length:Int) hm (by omega));obtain ⟨A3,c3,e3⟩:=own_slice h.fI.oM;have H:=Aside0.mk h;have HF:=Aside0.mk hkf;have HV:=Aside0.mk hv;have HX:=Aside0.mk hx;have H1:=Aside0.mk h1;have HM:=Aside0.mk hm;have HRW:Aside0 (Kd.R (Kd.int .u8) 5 w (bare w).heap.size (fun k=>some k=v.ownBlock) v xs):=⟨Kd.R_reok rfl hR (fun k hk=>hk.symm)⟩;have q0:w.cell? ⟨kb,0,none⟩=some (.bool false):=by rw[cell_of_row w kb 0 _ _ (0,0) h.blk];rfl
 have q3:w.cell? ⟨kb,3,none⟩=some (.slice A3 ms.length c3):=by rw[cell_of_row w kb 3 _ _ (0,0) h.blk,←e3];rfl
 clear h hkf hv hx h1 hm hR hn;go_enter Try.func76,Try.ntmps76
 go_wp2_with fail
 refine (sluicelaw2_fill.calls kf (fun k=>some k=v.ownBlock) v xs (ms.length:Int) _ (bare w) w (bare_below w) HRW.out HF.out).mono ?_;rintro e wf ⟨rfl,hRf,hbf,hkf⟩;have HS:=Aside0.mk (init (T:=5) (tI:=36) (m:=(ms.length:Int)) (numsI _) H.out.blk (by rfl) H.out.lbl H.out.fI H.out.zer hkf HV.out (own_ints hRf));have HBF:Aside0 (Below 0 w wf):=⟨⟨hbf.os,hbf.tape,hbf.output,hkf.1,fun k hk=>absurd hk (by omega)⟩⟩;have HKF:=Aside0.mk hkf;clear hRf hbf hkf q0 q3;go_wp2_with fail
 refine (holdI_calls kb v xs.length (ms.length:Int) wf _ _ E ms ⟨_,_,_,_,_,HS.out⟩ rfl HM.out (by have:=HX.out;omega) (by have:=H.out.mI.len;have:=H1.out;omega) (by have:=H1.out;omega)).mono ?_;rintro e wz ⟨rfl,far,nf',ρ',vI',vM',E',ms',hz⟩;have HZ:=Aside0.mk hz;clear hz;go_wp2_with fail
 first|go_end0|((try simp only[Exit.inBlock,Exit.then]);refine bodyPost_ret (results_none rfl _ _ _) rfl ?_)
 refine ⟨rfl,ρ',?_,after (numsI _) HKF.out HBF.out HZ.out⟩;obtain ⟨Ex,x1,x2,x3⟩:=HZ.out.exE;have hk:=HZ.out.kbk;refine ⟨vI',vM',vR,vN,E',ER,ms',mr,hk,HZ.out.kbr,HZ.out.fam,other H.out.fR (by decide) HKF.out HV.out HZ.out,HZ.out.zer,?_,H.out.mR,?_,by have:=H.out.nR;omega⟩
 ·rw[x1,HZ.out.exM];exact H.out.mI.more x2 HM.out x3
 ·rw[x1,List.length_append,x2];have:=H.out.nI;omega
theorem putR_calls {kb:Nat} {ρ:Nat→Nat} {n:Nat} {w:World} {v:Value} {xs:List S87} (hK:KN kb ρ n w) (hn:n≤4194304) (hx:xs.length≤100000) (hR:Kd.R k87 87 w 0 (fun _=>True) v xs) (hv:∀ k,v.ownBlock=some k→ρ k=0):
  Calls Try.prog 77 #[.pointer (some ⟨kb,0,none⟩),v] w fun e w'=>e = .returned (.tuple #[])∧∃ ρ',KN kb ρ' (n+1) w'∧After ρ ρ' v w w':=by
 obtain ⟨vI,vM,vR,vN,E,ER,ms,mr,h⟩:=hK;have h1:mr.length≤75497472:=by have:=h.nR;have:=h.mR.len;omega
 have hm:(0:Int)≤(mr.length:Int)∧(mr.length:Int)≤1099511627776:=by omega
 obtain ⟨kf,hkf⟩:=Ev.rounds (fillR_ev xs (mr.length:Int) hm (by omega));obtain ⟨A3,c3,e3⟩:=own_slice h.fR.oM;have H:=Aside0.mk h;have HF:=Aside0.mk hkf;have HV:=Aside0.mk hv;have HX:=Aside0.mk hx;have H1:=Aside0.mk h1;have HM:=Aside0.mk hm;have HRW:Aside0 (Kd.R k87 87 w (bare w).heap.size (fun k=>some k=v.ownBlock) v xs):=⟨Kd.R_reok rfl hR (fun k hk=>hk.symm)⟩;have q0:w.cell? ⟨kb,0,none⟩=some (.bool false):=by rw[cell_of_row w kb 0 _ _ (0,0) h.blk];rfl
 have q3:w.cell? ⟨kb,6,none⟩=some (.slice A3 mr.length c3):=by rw[cell_of_row w kb 6 _ _ (0,0) h.blk,←e3];rfl
 clear h hkf hv hx h1 hm hR hn;go_enter Try.func77,Try.ntmps77
 go_wp2_with fail
 refine (sluicelaw2_fillViews.calls kf (fun k=>some k=v.ownBlock) v xs (mr.length:Int) _ (bare w) w (bare_below w) HRW.out HF.out).mono ?_;rintro e wf ⟨rfl,hRf,hbf,hkf⟩;have HS:=Aside0.mk (init (T:=87) (tI:=31) (m:=(mr.length:Int)) (numsR _) H.out.blk (by rfl) H.out.lbl H.out.fR H.out.zer hkf HV.out (own_rights hRf));have HBF:Aside0 (Below 0 w wf):=⟨⟨hbf.os,hbf.tape,hbf.output,hkf.1,fun k hk=>absurd hk (by omega)⟩⟩;have HKF:=Aside0.mk hkf;clear hRf hbf hkf q0 q3;go_wp2_with fail
 refine (holdR_calls kb v xs.length (mr.length:Int) wf _ _ ER mr ⟨_,_,_,_,_,HS.out⟩ rfl HM.out (by have:=HX.out;omega) (by have:=H.out.mR.len;have:=H1.out;omega) (by have:=H1.out;omega)).mono ?_;rintro e wz ⟨rfl,far,nf',ρ',vI',vM',E',ms',hz⟩;have HZ:=Aside0.mk hz;clear hz;go_wp2_with fail
 first|go_end0|((try simp only[Exit.inBlock,Exit.then]);refine bodyPost_ret (results_none rfl _ _ _) rfl ?_)
 refine ⟨rfl,ρ',?_,after (numsR _) HKF.out HBF.out HZ.out⟩;obtain ⟨Ex,x1,x2,x3⟩:=HZ.out.exE;have hk:=HZ.out.kbk;refine ⟨vI,vM,vI',vM',E,E',ms,ms',hk,HZ.out.kbr,other H.out.fI (by decide) HKF.out HV.out HZ.out,HZ.out.fam,HZ.out.zer,H.out.mI,?_,by have:=H.out.nI;omega,?_⟩
 ·rw[x1,HZ.out.exM];exact H.out.mR.more x2 HM.out x3
 ·rw[x1,List.length_append,x2];have:=H.out.nR;omega
theorem keeperN (kb:Nat):Keeper kb (KN kb) where
 zer:=fun h=>by obtain ⟨vI,vM,vR,vN,E,ER,ms,mr,h⟩:=h;exact h.zer
 move:=fun h hm hs=>h.move hm hs
 put:=fun h hn hx hR hv=>putI_calls h hn hx hR hv
 putR:=fun h hn hx hR hv=>putR_calls h hn hx hR hv
end Go.Proofs.Ytpgdmmjbhjbbhaa.Pn
end
section
namespace Go.Proofs.Ytpgdmmjbhjbbhaa.Lt
open Go.RowKit P YtpgdmmjbhjbbhaaW.PrintWords YtpgdmmjbhjbbhaaW.PrintLast YtpgdmmjbhjbbhaaW.PrintMore Gw Ks Hd Kr Pn
structure RowR (ρ:Nat→Nat) (w:World) (e sz:Nat) (v:Value) (n:Nat) (xs:List Value) (r:Nat):Prop where
 own:w.ownsRow 0 e sz v n xs
 lab:∀ k,v.ownBlock=some k→ρ k=r
theorem RowR.move {ρ ρ':Nat→Nat} {w w1:World} {e sz n s:Nat} {v:Value} {xs:List Value} (h:RowR ρ w e sz v n xs s) (hm:∀ k,k<w.heap.size→ρ k=s→w1.heap[k]?=w.heap[k]?∧ρ' k=ρ k):RowR ρ' w1 e sz v n xs s:=
 ⟨Ks.own_move h.own fun k hk=>(hm k (Ks.own_lt h.own k hk) (h.lab k hk)).1,fun k hk=>(hm k (Ks.own_lt h.own k hk) (h.lab k hk)).2.trans (h.lab k hk)⟩
theorem RowR.nil (ρ:Nat→Nat) (w:World) (e sz r:Nat):RowR ρ w e sz (.slice none 0 0) 0 [] r:=⟨World.ownsRow_nil _ _ _ _,fun k h=>by simp[Value.ownBlock] at h⟩
theorem step_row {ρ:Nat→Nat} {w w2:World} {e n r kb i:Nat} {v v':Value} {xs ys:List Value} {cs:Array Value} (hz:∀ k,ρ k≠0→k<w.heap.size) (hl:ρ kb=7) (hb:w.heap[kb]?=some (.cells cs 61 (0,0))) (hr:r≠0∧r≠7) (hv:RowR ρ w e 1 v n xs r) (hg:Grew w w2 e 1 v n xs ys v'):
  ∃ ρ' : Nat → Nat, (∀ k, k < w.heap.size → ρ' k = ρ k) ∧ (∀ k, ρ' k ≠ 0 → k < (w2.setCell ⟨kb, i, none⟩ v').heap.size) ∧ ρ' kb = 7 ∧ (w2.setCell ⟨kb, i, none⟩ v').heap[kb]? = some (.cells (cs.setIfInBounds i v') 61 (0, 0)) ∧
    RowR ρ' (w2.setCell ⟨kb,i,none⟩ v') e 1 v' (n+1) (xs++ys) r∧(∀ k,k<w.heap.size→ρ k≠r→ρ k≠7→(w2.setCell ⟨kb,i,none⟩ v').heap[k]?=w.heap[k]?)∧Below 0 w (w2.setCell ⟨kb,i,none⟩ v'):=by
 obtain ⟨ρ',r1,r2,r3⟩:=relab hz hr.1 hv.lab (Ks.own_lt hv.own) hg;have hkb:kb<w.heap.size:=blk_lt hb;have kb2:w2.heap[kb]?=some (.cells cs 61 (0,0)):=(hg.grow.block kb hkb (fun he=>hr.2 ((hv.lab kb he.symm).symm.trans hl))).trans hb
 have vb : ∀ k, v'.ownBlock = some k → k ≠ kb := fun k hk e => by
   have h1:=r2 k hk;rw[e,r1 kb hkb,hl] at h1;exact hr.2 h1.symm
 refine ⟨ρ',r1,fun k hk=>by simpa using r3 k hk,(r1 kb hkb).trans hl,heap_setCell_same w2 kb i _ _ v' kb2,⟨Ks.own_move hg.own fun k hk=>Below.heap_setCell w2 ⟨kb,i,none⟩ v' k (vb k hk),r2⟩,fun k hk h1 h2=>?_,(below0_of_grown hg.grow).trans below0_set⟩;exact (Below.heap_setCell w2 ⟨kb,i,none⟩ v' k (fun e=>h2 (by rw[show k=kb from e];exact hl))).trans (hg.grow.block k hk (fun he=>h1 (hv.lab k he.symm)))
def conts {α:Type} (f:α→List Value) (E:List Ent) (X:List (List α)):Prop:=E.map (fun x=>(x.n,x.cs))=X.map (fun l=>(l.length,l.flatMap f))
theorem conts_nil {α:Type} (f:α→List Value):conts f [] []:=rfl
theorem conts_snoc {α:Type} {f:α→List Value} {E:List Ent} {X:List (List α)} (h:conts f E X) (v:Value) (l:List α):conts f (E++[⟨v,l.length,l.flatMap f⟩]) (X++[l]):=by
 unfold conts at *;rw[List.map_append,List.map_append,h];rfl
theorem conts_len {α:Type} {f:α→List Value} {E:List Ent} {X:List (List α)} (h:conts f E X):E.length=X.length:=by have:=congrArg List.length h;simpa using this
theorem conts_at {α:Type} {f:α→List Value} {E:List Ent} {X:List (List α)} (h:conts f E X) (i:Nat) (hi:i<E.length) (hx:i<X.length):E[i].n=X[i].length∧E[i].cs=X[i].flatMap f:=by
 have:=congrArg (fun l=>l[i]?) h;simp only[List.getElem?_map,List.getElem?_eq_getElem hi,List.getElem?_eq_getElem hx,Option.map_some] at this
 simpa using this
def cell1 (a:Int):List Value:=[.int .u8 a]
def Apart (E:List Ent):Prop:=E.Pairwise fun x y=>x.v.ownBlock=y.v.ownBlock→x.v.ownBlock=none
structure KLx (kb:Nat) (ρ:Nat→Nat) (n:Nat) (w:World) (vI vW vR vX:Value) (E EW ER EX:List Ent) (XI XW:List (List Int)) (YI YW:List (List S87)):Prop where
 blk:w.heap[kb]?=some (.cells #[.bool true,vI,vW,.slice none 0 0,vR,vX,.slice none 0 0] 61 (0,0))
 lbl:ρ kb=7
 zer:∀ k,ρ k≠0→k<w.heap.size
 i:RowR ρ w 36 1 vI E.length (E.map (·.v)) 1
 iw:RowR ρ w 36 1 vW EW.length (EW.map (·.v)) 2
 r:RowR ρ w 31 1 vR ER.length (ER.map (·.v)) 4
 rw_:RowR ρ w 31 1 vX EX.length (EX.map (·.v)) 5
 e:∀ x ∈ E,RowR ρ w 5 1 x.v x.n x.cs 3
 ew:∀ x ∈ EW,RowR ρ w 5 1 x.v x.n x.cs 8
 f:∀ x ∈ ER,RowR ρ w 87 7 x.v x.n x.cs 6
 fw:∀ x ∈ EX,RowR ρ w 87 7 x.v x.n x.cs 9
 cE:conts cell1 E XI
 cW:conts cell1 EW XW
 dE:conts cell2 ER YI
 dW:conts cell2 EX YW
 aE:Apart E
 aR:Apart ER
 lE:∀ l ∈ XI,l.length≤100000
 lR:∀ l ∈ YI,l.length≤100000
 nE:E.length≤n
 nR:ER.length≤n
def KL (kb:Nat) (ρ:Nat→Nat) (n:Nat) (w:World):Prop:=∃ vI vW vR vX E EW ER EX XI YI,KLx kb ρ n w vI vW vR vX E EW ER EX XI XI YI YI
section
variable {kb n:Nat} {ρ ρ':Nat→Nat} {w w1 w2:World} {vI vW vR vX v v':Value} {E EW ER EX:List Ent} {XI XW:List (List Int)} {YI YW:List (List S87)}
theorem KLx.move (h:KLx kb ρ n w vI vW vR vX E EW ER EX XI XW YI YW) (hm:∀ k,k<w.heap.size→ρ k≠0→w1.heap[k]?=w.heap[k]?) (hs:w.heap.size≤w1.heap.size):KLx kb ρ n w1 vI vW vR vX E EW ER EX XI XW YI YW:=by
 have g:∀ s,s≠0 → ∀ k,k<w.heap.size→ρ k=s→w1.heap[k]?=w.heap[k]?∧ρ k=ρ k:=fun s hs k hk e=>⟨hm k hk (by rw[e];exact hs),rfl⟩
 exact { h with
  blk:=(hm kb (blk_lt h.blk) (by rw[h.lbl];decide)).trans h.blk
  zer:=fun k hk=>Nat.lt_of_lt_of_le (h.zer k hk) hs
  i:=h.i.move (g 1 (by decide)),iw:=h.iw.move (g 2 (by decide)),r:=h.r.move (g 4 (by decide)),rw_:=h.rw_.move (g 5 (by decide))
  e:=fun x hx=>(h.e x hx).move (g 3 (by decide)),ew:=fun x hx=>(h.ew x hx).move (g 8 (by decide)),f:=fun x hx=>(h.f x hx).move (g 6 (by decide)),fw:=fun x hx=>(h.fw x hx).move (g 9 (by decide)) }
theorem KLx.label (h:KLx kb ρ n w vI vW vR vX E EW ER EX XI XW YI YW) (s:Nat) (hs:s≠0) (hv:∀ k,v.ownBlock=some k→ρ k=0) (hlt:∀ k,v.ownBlock=some k→k<w.heap.size):KLx kb (lab0 ρ v s) n w vI vW vR vX E EW ER EX XI XW YI YW:=by
 have g:∀ s2,s2≠0 → ∀ k,k<w.heap.size→ρ k=s2→w.heap[k]?=w.heap[k]?∧lab0 ρ v s k=ρ k:=fun s2 h2 k hk e=>⟨rfl,lab0_ne (lab_ne hv (by rw[e];exact h2))⟩
 exact { h with
  lbl:=(lab0_ne (lab_ne hv (by rw[h.lbl];decide))).trans h.lbl
  zer := fun k hk => by
    by_cases e:some k=v.ownBlock
    ·exact hlt k e.symm
    ·rw[lab0_ne e] at hk;exact h.zer k hk
  i:=h.i.move (g 1 (by decide)),iw:=h.iw.move (g 2 (by decide)),r:=h.r.move (g 4 (by decide)),rw_:=h.rw_.move (g 5 (by decide))
  e:=fun x hx=>(h.e x hx).move (g 3 (by decide)),ew:=fun x hx=>(h.ew x hx).move (g 8 (by decide)),f:=fun x hx=>(h.f x hx).move (g 6 (by decide)),fw:=fun x hx=>(h.fw x hx).move (g 9 (by decide)) }
end
theorem KL.move {kb:Nat} {ρ:Nat→Nat} {n:Nat} {w w1:World} (h:KL kb ρ n w) (hm:∀ k,k<w.heap.size→ρ k≠0→w1.heap[k]?=w.heap[k]?) (hs:w.heap.size≤w1.heap.size):KL kb ρ n w1:=by
 obtain ⟨vI,vW,vR,vX,E,EW,ER,EX,XI,YI,h⟩:=h;exact ⟨vI,vW,vR,vX,E,EW,ER,EX,XI,YI,h.move hm hs⟩
theorem Apart.snoc {E:List Ent} (h:Apart E) (x:Ent) (hx:∀ y ∈ E,y.v.ownBlock=x.v.ownBlock→y.v.ownBlock=none):Apart (E++[x]):=by
 unfold Apart at *;rw[List.pairwise_append];exact ⟨h,List.pairwise_singleton _ _,fun y hy z hz=>by rw[List.mem_singleton.1 hz];exact hx y hy⟩
end Go.Proofs.Ytpgdmmjbhjbbhaa.Lt
end
