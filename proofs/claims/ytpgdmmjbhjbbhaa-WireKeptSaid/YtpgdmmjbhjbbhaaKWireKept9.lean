/- texts that the proof needs, laid together by a program of this session. -/
import Derived.Test.YtpgdmmjbhjbbhaaKWireKept8
set_option maxRecDepth 100000
set_option maxHeartbeats 16000000
set_option linter.unusedVariables false
set_option linter.unusedSimpArgs false
section
namespace Go.Proofs.Ytpgdmmjbhjbbhaa.Rd
open Go Go.RowKit P Sp Vd En Wr YtpgdmmjbhjbbhaaW.PrintWords YtpgdmmjbhjbbhaaW.PrintLast YtpgdmmjbhjbbhaaW.PrintMore
structure Ks (S:Nat→Prop) (w w1:World):Prop where
 size:w.heap.size≤w1.heap.size
 block:∀ k,k<w.heap.size → ¬S k→w1.heap[k]?=w.heap[k]?
theorem Ks.trans {S:Nat→Prop} {a b c:World} (h:Ks S a b) (k:Ks S b c):Ks S a c:=⟨Nat.le_trans h.size k.size,fun i hi hs=>(k.block i (Nat.lt_of_lt_of_le hi h.size) hs).trans (h.block i hi hs)⟩
theorem Ks.set {S:Nat→Prop} {a b:World} (h:Ks S a b) (g i:Nat) (v:Value) (hg:S g∨a.heap.size≤g):Ks S a (b.setCell ⟨g,i,none⟩ v):=
 ⟨Nat.le_trans h.size (Kb.set g i b v).size, fun k hk hs => ((Kb.set g i b v).block k (Nat.lt_of_lt_of_le hk h.size) (by
   rcases hg with hg|hg
   ·intro e;exact hs (e ▸ hg)
   ·omega)).trans (h.block k hk hs)⟩
def Fld {α : Type} (w0 w1 : World) (g : Nat) (S : Nat → Prop) (A : Option Addr) (c : Nat) (b : List Int) (r : R α) (Y : World → Prop) (X : α → World → Prop) (e : Ending) (w' : World) : Prop :=
  Ks (fun k => k = g ∨ S k) w1 w' ∧ Below w0.heap.size w0 w' ∧ Y w' ∧ match r with
    | .bad k=>e=pan ((b.length:Int) - k)
    | .ok x l=>e = .returned (.tuple #[])∧RS w0 w' g A c b l∧X x w'
def ReadP {α : Type} (w0 w : World) (S : Nat → Prop) (b : List Int) (r : R α) (Y : World → Prop) (X : α → World → Prop) (e : Ending) (w' : World) : Prop :=
  Ks S w w' ∧ Below w0.heap.size w0 w' ∧ Y w' ∧ ∃ pt er : Int, e = .returned (.tuple #[.int .i64 pt, .int .i64 er]) ∧ match r with
    | .bad k=>pt=(b.length:Int) - k∧er=20
    | .ok x []=>pt=0∧er=0∧X x w'
    | .ok x (d::l)=>pt=(b.length:Int) - (l.length+1)∧er=20
def Stable (n:Nat) (Y:World→Prop):Prop:=∀ w1 w2:World,Y w1→(∀ k,k<w1.heap.size→k≠n→k≠n+1→w2.heap[k]?=w1.heap[k]?)→w1.heap.size≤w2.heap.size→Y w2
theorem stable_set {n i:Nat} {Y:World→Prop} (h:Stable n Y) {w:World} (hy:Y w) (v:Value) {g:Nat} (hg:g=n∨g=n+1):Y (w.setCell ⟨g,i,none⟩ v):=
 h w _ hy (fun k _ h1 h2=>Below.heap_setCell w ⟨g,i,none⟩ v k (by rcases hg with rfl|rfl<;>assumption)) (Kb.set g i w v).size
theorem read_msg {α : Type} (cb : Nat) (w0 w : World) (A : Option Addr) (c : Nat) (b : List Int) (S : Nat → Prop) (r : R α) (Y : World → Prop) (X : α → World → Prop) (hi : In w0 A c b) (hB : Below w0.heap.size w0 w)
    (hS:∀ k,S k→k<w.heap.size) (hS0:∀ k,S k→w0.heap.size≤k) (hY:Stable w.heap.size Y) (hX:∀ x,Stable w.heap.size (X x))
    (hf:∀ w1,Below w.heap.size w w1→w1.heap.size=w.heap.size+1+1+1→RS w0 w1 (w.heap.size+1+1) A c b b→Calls Try.prog 60 #[.pointer (some ⟨w.heap.size+1+1,0,none⟩),.pointer (some ⟨cb,0,none⟩)] w1 fun e w'=>Fld w0 w1 (w.heap.size+1+1) S A c b r Y X e w'):
    Calls Try.prog 59 #[.slice A b.length c,.func (Fn.func 60) #[] #[.pointer (some ⟨cb,0,none⟩)]] w fun e w'=>ReadP w0 w S b r Y X e w':=by
  have hmf:∀ (fn:Fn) (first cap:Array Value) (w:World),(Instr.makeFunc fn first cap).run Try.prog w = .ok (.func fn first cap) w:=fun _ _ _ _=>rfl;obtain ⟨w1,hw1⟩:∃ w1,w1=(((w.alloc (.cells #[.int .i64 0] 3 (0,0))).alloc (.cells #[.int .i64 0] 30 (0,0))).alloc (.cells #[.slice A b.length c,.int .i64 0] 141 (0,0))):=⟨_,rfl⟩;have HW1:=Aside0.mk hw1;have hb1:Below w.heap.size w w1:=by rw[hw1];exact ((al_below w _).alloc (by simp) _).alloc (by simp;omega) _
  have hs1:w1.heap.size=w.heap.size+1+1+1:=by rw[hw1];simp
  have hP:w1.heap[w.heap.size]?=some (.cells #[.int .i64 0] 3 (0,0)):=by
   rw[hw1,Below.heap_alloc _ _ _ (by simp;omega),Below.heap_alloc _ _ _ (by simp)];exact heap_alloc_new w _
  have hE:w1.heap[w.heap.size+1]?=some (.cells #[.int .i64 0] 30 (0,0)):=by
   rw[hw1,Below.heap_alloc _ _ _ (by simp)];have:=heap_alloc_new (w.alloc (.cells #[.int .i64 0] 3 (0,0))) (.cells #[.int .i64 0] 30 (0,0))
   simpa using this
  have hR:RS w0 w1 (w.heap.size+1+1) A c b b:=⟨by
   have:=heap_alloc_new ((w.alloc (.cells #[.int .i64 0] 3 (0,0))).alloc (.cells #[.int .i64 0] 30 (0,0))) (.cells #[.slice A b.length c,.int .i64 0] 141 (0,0));rw[hw1];unfold pl;rw[Int.sub_self]
   simpa using this,by have:=hB.size;omega,hB.trans (hb1.mono hB.size),⟨[],rfl⟩⟩
  have HC:=Aside0.mk (hf w1 hb1 hs1 hR);have HBL:=Aside0.mk (And.intro hP hE);have HB1:=Aside0.mk (And.intro hb1 hs1);have HST:=Aside0.mk (And.intro hS (And.intro hS0 (And.intro hY hX)));have HSZ:=Aside0.mk hB.size;have HBB:=Aside0.mk hB;have HI:=Aside0.mk hi;clear hw1 hf hP hE hb1 hs1 hS hS0 hY hX hR hB hi;go_enter_defers Try.func59,Try.ntmps59
  go_wp2_with fail
  rw[←HW1.out];rcases hr:r with k|⟨x,l⟩
  ·refine HC.out.mono ?_;rintro e w2 ⟨hks,hbl,hy,hm⟩;simp only[hr,pan] at hm;subst hm
   have hnS : ∀ k, k = w.heap.size ∨ k = w.heap.size + 1 → ¬ (k = w.heap.size + 1 + 1 ∨ S k) := fun k hk h => by
     rcases h with h|h
     ·omega
     ·have:=HST.out.1 k h;omega
   have hP2:=(hks.block w.heap.size (by rw[HB1.out.2];omega) (hnS _ (.inl rfl))).trans HBL.out.1;have hE2:=(hks.block (w.heap.size+1) (by rw[HB1.out.2];omega) (hnS _ (.inr rfl))).trans HBL.out.2;have HK2:=Aside0.mk (And.intro hks (And.intro hbl hy));clear hks hbl hy hnS;go_wp2_with fail
   have hne:w.heap.size≠w.heap.size+1:=by omega
   have kp:w2.cell? ⟨w.heap.size,0,none⟩=some (.int .i64 0):=(blk_cell hP2 0).trans rfl;have kpf:=blk_frozen hP2 0;have hE3:∀ v,(w2.setCell ⟨w.heap.size,0,none⟩ v).heap[w.heap.size+1]?=some (.cells #[.int .i64 0] 30 (0,0)):=fun v=>blk_far hE2 hne 0 v;have ke:=fun v=>(blk_cell (hE3 v) 0).trans (rfl:_=some (Value.int .i64 0));have kef:=fun v=>blk_frozen (hE3 v) 0;refine leaves_cons (f:=96) (args := #[.pointer (some ⟨w.heap.size,0,none⟩),.pointer (some ⟨w.heap.size+1,0,none⟩)]) (by simp) (by simp[go_sem]) ?_;refine (catch_pan ⟨w.heap.size,0,none⟩ ⟨w.heap.size+1,0,none⟩ 0 0 _ _ kp kpf (ke _) (kef _)).mono ?_;rintro e u' w3 ⟨rfl,rfl,rfl⟩;have hf1:=blk_far (blk_set hP2 0 (.int .i64 ((b.length:Int) - k))) (Ne.symm hne) 0 (.int .i64 20);have hf2:=blk_set (hE3 (.int .i64 ((b.length:Int) - k))) 0 (.int .i64 20)
   have hfin:ReadP w0 w S b r Y X (.returned (.tuple #[.int .i64 ((b.length:Int) - k),.int .i64 20])) ((w2.setCell ⟨w.heap.size,0,none⟩ (.int .i64 ((b.length:Int) - k))).setCell ⟨w.heap.size+1,0,none⟩ (.int .i64 20)):=by
    rw[hr];refine ⟨?_,?_,stable_set HST.out.2.2.1 (stable_set HST.out.2.2.1 HK2.out.2.2 _ (.inl rfl)) _ (.inr rfl),_,_,rfl,rfl,rfl⟩
    ·refine Ks.set (Ks.set ⟨by have:=HK2.out.1.size;have:=HB1.out.2;omega,fun i hi hs=>(HK2.out.1.block i (by rw[HB1.out.2];omega) (fun h=>h.elim (fun h=>absurd h (by omega)) hs)).trans (HB1.out.1.block i hi)⟩ _ _ _ (.inr (Nat.le_refl _))) _ _ _ (.inr (by omega))
    ·exact (HK2.out.2.1.setCell HSZ.out _).setCell (by have:=HSZ.out;show _≤w.heap.size+1;omega) _
   have HFXN:=Aside0.mk hfin;clear hfin hP2 hE2 hE3 ke kef kp kpf;obtain ⟨wf,hwf⟩:∃ wf,wf=(w2.setCell ⟨w.heap.size,0,none⟩ (.int .i64 ((b.length:Int) - k))).setCell ⟨w.heap.size+1,0,none⟩ (.int .i64 20):=⟨_,rfl⟩;rw[←hwf] at hf1 hf2 HFXN ⊢;clear hwf;have kf1:wf.cell? ⟨w.heap.size,0,none⟩=some (.int .i64 ((b.length:Int) - k)):=(blk_cell hf1 0).trans rfl;have kf2:wf.cell? ⟨w.heap.size+1,0,none⟩=some (.int .i64 20):=(blk_cell hf2 0).trans rfl;clear hf1 hf2;simp[Leaves,settle,results,Try.results59,go_sem,kf1,kf2];exact HFXN.out
  ·refine HC.out.mono ?_;rintro e w2 ⟨hks,hbl,hy,hm⟩;simp only[hr] at hm;obtain ⟨rfl,hrs,hx⟩:=hm
   have hnS : ∀ k, k = w.heap.size ∨ k = w.heap.size + 1 → ¬ (k = w.heap.size + 1 + 1 ∨ S k) := fun k hk h => by
     rcases h with h|h
     ·omega
     ·have:=HST.out.1 k h;omega
   have hP2:=(hks.block w.heap.size (by rw[HB1.out.2];omega) (hnS _ (.inl rfl))).trans HBL.out.1;have hE2:=(hks.block (w.heap.size+1) (by rw[HB1.out.2];omega) (hnS _ (.inr rfl))).trans HBL.out.2;have kp:w2.cell? ⟨w.heap.size,0,none⟩=some (.int .i64 0):=(blk_cell hP2 0).trans rfl;have kpf:=blk_frozen hP2 0;have ke:w2.cell? ⟨w.heap.size+1,0,none⟩=some (.int .i64 0):=(blk_cell hE2 0).trans rfl;have kef:=blk_frozen hE2 0;have kr:w2.cell? ⟨w.heap.size+1+1,1,none⟩=some (.int .i64 (pl b l)):=(blk_cell hrs.blk 1).trans rfl;have hne:w.heap.size≠w.heap.size+1:=by omega
   have HK2:=Aside0.mk (And.intro hks (And.intro hbl (And.intro hy hx)));have HRS:=Aside0.mk hrs
   have HKS:Aside0 (∀ u v,Ks S w ((w2.setCell ⟨w.heap.size,0,none⟩ u).setCell ⟨w.heap.size+1,0,none⟩ v)∧Below w0.heap.size w0 ((w2.setCell ⟨w.heap.size,0,none⟩ u).setCell ⟨w.heap.size+1,0,none⟩ v)∧Y ((w2.setCell ⟨w.heap.size,0,none⟩ u).setCell ⟨w.heap.size+1,0,none⟩ v)∧X x ((w2.setCell ⟨w.heap.size,0,none⟩ u).setCell ⟨w.heap.size+1,0,none⟩ v)):=⟨fun u v=>by
    refine ⟨?_,?_,stable_set HST.out.2.2.1 (stable_set HST.out.2.2.1 hy _ (.inl rfl)) _ (.inr rfl),stable_set (HST.out.2.2.2 x) (stable_set (HST.out.2.2.2 x) hx _ (.inl rfl)) _ (.inr rfl)⟩
    ·refine Ks.set (Ks.set ⟨by have:=hks.size;have:=HB1.out.2;omega,fun i hi hs=>(hks.block i (by rw[HB1.out.2];omega) (fun h=>h.elim (fun h=>absurd h (by omega)) hs)).trans (HB1.out.1.block i hi)⟩ _ _ _ (.inr (Nat.le_refl _))) _ _ _ (.inr (by omega))
    ·exact (hbl.setCell HSZ.out _).setCell (by have:=HSZ.out;show _≤w.heap.size+1;omega) _⟩
   have HHE:Aside0 (∀ u v,((w2.setCell ⟨w.heap.size,0,none⟩ u).setCell ⟨w.heap.size+1,0,none⟩ v).heap[w.heap.size]?=some (.cells #[u] 3 (0,0))∧((w2.setCell ⟨w.heap.size,0,none⟩ u).setCell ⟨w.heap.size+1,0,none⟩ v).heap[w.heap.size+1]?=some (.cells #[v] 30 (0,0))):=⟨fun u v=>
    ⟨blk_far (blk_set hP2 0 u) (Ne.symm hne) 0 v,blk_set (blk_far hE2 hne 0 u) 0 v⟩⟩
   clear hks hbl hy hx hrs hnS hP2 hE2;rcases l with _|⟨d,l⟩
   ·have hpl:pl b []=(b.length:Int):=by unfold pl;simp
    rw[hpl] at kr;go_wp2_with fail
    refine leaves_cons (f:=96) (args := #[.pointer (some ⟨w.heap.size,0,none⟩),.pointer (some ⟨w.heap.size+1,0,none⟩)]) (by simp) (by simp[go_sem]) ?_;refine (catch_idle ⟨w.heap.size,0,none⟩ ⟨w.heap.size+1,0,none⟩ _).mono ?_;rintro e u' w3 ⟨rfl,rfl,rfl⟩;have hks:=HKS.out (.int .i64 (0)) (.int .i64 0);have hhe:=HHE.out (.int .i64 (0)) (.int .i64 0);obtain ⟨wf,hwf⟩:∃ wf,wf=(w2.setCell ⟨w.heap.size,0,none⟩ (.int .i64 (0))).setCell ⟨w.heap.size+1,0,none⟩ (.int .i64 0):=⟨_,rfl⟩;rw[←hwf] at hks hhe ⊢;clear hwf;have kf1:wf.cell? ⟨w.heap.size,0,none⟩=some (.int .i64 (0)):=(blk_cell hhe.1 0).trans rfl;have kf2:wf.cell? ⟨w.heap.size+1,0,none⟩=some (.int .i64 0):=(blk_cell hhe.2 0).trans rfl
    have HFXN:Aside0 (ReadP w0 w S b r Y X (.returned (.tuple #[.int .i64 (0),.int .i64 0])) wf):=⟨by
     rw[hr];exact ⟨hks.1,hks.2.1,hks.2.2.1,_,_,rfl,rfl,rfl,hks.2.2.2⟩⟩
    clear hks hhe;simp[Leaves,settle,results,Try.results59,go_sem,kf1,kf2];exact HFXN.out
   ·have hpl:pl b (d::l)<(b.length:Int):=by unfold pl;rw[List.length_cons];omega
    go_wp2_with fail
    refine leaves_cons (f:=96) (args := #[.pointer (some ⟨w.heap.size,0,none⟩),.pointer (some ⟨w.heap.size+1,0,none⟩)]) (by simp) (by simp[go_sem]) ?_;refine (catch_idle ⟨w.heap.size,0,none⟩ ⟨w.heap.size+1,0,none⟩ _).mono ?_;rintro e u' w3 ⟨rfl,rfl,rfl⟩;have hks:=HKS.out (.int .i64 (pl b (d::l))) (.int .i64 20);have hhe:=HHE.out (.int .i64 (pl b (d::l))) (.int .i64 20);obtain ⟨wf,hwf⟩:∃ wf,wf=(w2.setCell ⟨w.heap.size,0,none⟩ (.int .i64 (pl b (d::l)))).setCell ⟨w.heap.size+1,0,none⟩ (.int .i64 20):=⟨_,rfl⟩;rw[←hwf] at hks hhe ⊢;clear hwf;have kf1:wf.cell? ⟨w.heap.size,0,none⟩=some (.int .i64 (pl b (d::l))):=(blk_cell hhe.1 0).trans rfl;have kf2:wf.cell? ⟨w.heap.size+1,0,none⟩=some (.int .i64 20):=(blk_cell hhe.2 0).trans rfl
    have HFXN:Aside0 (ReadP w0 w S b r Y X (.returned (.tuple #[.int .i64 (pl b (d::l)),.int .i64 20])) wf):=⟨by
     rw[hr];exact ⟨hks.1,hks.2.1,hks.2.2.1,_,_,rfl,by unfold pl;rw[List.length_cons];omega,rfl⟩⟩
    clear hks hhe;simp[Leaves,settle,results,Try.results59,go_sem,kf1,kf2];exact HFXN.out
theorem read_seg {α : Type} (cb : Nat) (w0 w : World) (A : Option Addr) (c : Nat) (b : List Int) (S : Nat → Prop) (r : R α) (Y : World → Prop) (X : α → World → Prop) (hi : In w0 A c b) (hB : Below w0.heap.size w0 w)
    (hS:∀ k,S k→k<w.heap.size) (hS0:∀ k,S k→w0.heap.size≤k) (hY:Stable w.heap.size Y) (hX:∀ x,Stable w.heap.size (X x))
    (hf:∀ w1,Below w.heap.size w w1→w1.heap.size=w.heap.size+1+1+1→RS w0 w1 (w.heap.size+1+1) A c b b→Calls Try.prog 79 #[.pointer (some ⟨w.heap.size+1+1,0,none⟩),.pointer (some ⟨cb,0,none⟩)] w1 fun e w'=>Fld w0 w1 (w.heap.size+1+1) S A c b r Y X e w'):
    Calls Try.prog 59 #[.slice A b.length c,.func (Fn.func 79) #[] #[.pointer (some ⟨cb,0,none⟩)]] w fun e w'=>ReadP w0 w S b r Y X e w':=by
  have hmf:∀ (fn:Fn) (first cap:Array Value) (w:World),(Instr.makeFunc fn first cap).run Try.prog w = .ok (.func fn first cap) w:=fun _ _ _ _=>rfl;obtain ⟨w1,hw1⟩:∃ w1,w1=(((w.alloc (.cells #[.int .i64 0] 3 (0,0))).alloc (.cells #[.int .i64 0] 30 (0,0))).alloc (.cells #[.slice A b.length c,.int .i64 0] 141 (0,0))):=⟨_,rfl⟩;have HW1:=Aside0.mk hw1;have hb1:Below w.heap.size w w1:=by rw[hw1];exact ((al_below w _).alloc (by simp) _).alloc (by simp;omega) _
  have hs1:w1.heap.size=w.heap.size+1+1+1:=by rw[hw1];simp
  have hP:w1.heap[w.heap.size]?=some (.cells #[.int .i64 0] 3 (0,0)):=by
   rw[hw1,Below.heap_alloc _ _ _ (by simp;omega),Below.heap_alloc _ _ _ (by simp)];exact heap_alloc_new w _
  have hE:w1.heap[w.heap.size+1]?=some (.cells #[.int .i64 0] 30 (0,0)):=by
   rw[hw1,Below.heap_alloc _ _ _ (by simp)];have:=heap_alloc_new (w.alloc (.cells #[.int .i64 0] 3 (0,0))) (.cells #[.int .i64 0] 30 (0,0))
   simpa using this
  have hR:RS w0 w1 (w.heap.size+1+1) A c b b:=⟨by
   have:=heap_alloc_new ((w.alloc (.cells #[.int .i64 0] 3 (0,0))).alloc (.cells #[.int .i64 0] 30 (0,0))) (.cells #[.slice A b.length c,.int .i64 0] 141 (0,0));rw[hw1];unfold pl;rw[Int.sub_self]
   simpa using this,by have:=hB.size;omega,hB.trans (hb1.mono hB.size),⟨[],rfl⟩⟩
  have HC:=Aside0.mk (hf w1 hb1 hs1 hR);have HBL:=Aside0.mk (And.intro hP hE);have HB1:=Aside0.mk (And.intro hb1 hs1);have HST:=Aside0.mk (And.intro hS (And.intro hS0 (And.intro hY hX)));have HSZ:=Aside0.mk hB.size;have HBB:=Aside0.mk hB;have HI:=Aside0.mk hi;clear hw1 hf hP hE hb1 hs1 hS hS0 hY hX hR hB hi;go_enter_defers Try.func59,Try.ntmps59
  go_wp2_with fail
  rw[←HW1.out];rcases hr:r with k|⟨x,l⟩
  ·refine HC.out.mono ?_;rintro e w2 ⟨hks,hbl,hy,hm⟩;simp only[hr,pan] at hm;subst hm
   have hnS : ∀ k, k = w.heap.size ∨ k = w.heap.size + 1 → ¬ (k = w.heap.size + 1 + 1 ∨ S k) := fun k hk h => by
     rcases h with h|h
     ·omega
     ·have:=HST.out.1 k h;omega
   have hP2:=(hks.block w.heap.size (by rw[HB1.out.2];omega) (hnS _ (.inl rfl))).trans HBL.out.1;have hE2:=(hks.block (w.heap.size+1) (by rw[HB1.out.2];omega) (hnS _ (.inr rfl))).trans HBL.out.2;have HK2:=Aside0.mk (And.intro hks (And.intro hbl hy));clear hks hbl hy hnS;go_wp2_with fail
   have hne:w.heap.size≠w.heap.size+1:=by omega
   have kp:w2.cell? ⟨w.heap.size,0,none⟩=some (.int .i64 0):=(blk_cell hP2 0).trans rfl;have kpf:=blk_frozen hP2 0;have hE3:∀ v,(w2.setCell ⟨w.heap.size,0,none⟩ v).heap[w.heap.size+1]?=some (.cells #[.int .i64 0] 30 (0,0)):=fun v=>blk_far hE2 hne 0 v;have ke:=fun v=>(blk_cell (hE3 v) 0).trans (rfl:_=some (Value.int .i64 0));have kef:=fun v=>blk_frozen (hE3 v) 0;refine leaves_cons (f:=96) (args := #[.pointer (some ⟨w.heap.size,0,none⟩),.pointer (some ⟨w.heap.size+1,0,none⟩)]) (by simp) (by simp[go_sem]) ?_;refine (catch_pan ⟨w.heap.size,0,none⟩ ⟨w.heap.size+1,0,none⟩ 0 0 _ _ kp kpf (ke _) (kef _)).mono ?_;rintro e u' w3 ⟨rfl,rfl,rfl⟩;have hf1:=blk_far (blk_set hP2 0 (.int .i64 ((b.length:Int) - k))) (Ne.symm hne) 0 (.int .i64 20);have hf2:=blk_set (hE3 (.int .i64 ((b.length:Int) - k))) 0 (.int .i64 20)
   have hfin:ReadP w0 w S b r Y X (.returned (.tuple #[.int .i64 ((b.length:Int) - k),.int .i64 20])) ((w2.setCell ⟨w.heap.size,0,none⟩ (.int .i64 ((b.length:Int) - k))).setCell ⟨w.heap.size+1,0,none⟩ (.int .i64 20)):=by
    rw[hr];refine ⟨?_,?_,stable_set HST.out.2.2.1 (stable_set HST.out.2.2.1 HK2.out.2.2 _ (.inl rfl)) _ (.inr rfl),_,_,rfl,rfl,rfl⟩
    ·refine Ks.set (Ks.set ⟨by have:=HK2.out.1.size;have:=HB1.out.2;omega,fun i hi hs=>(HK2.out.1.block i (by rw[HB1.out.2];omega) (fun h=>h.elim (fun h=>absurd h (by omega)) hs)).trans (HB1.out.1.block i hi)⟩ _ _ _ (.inr (Nat.le_refl _))) _ _ _ (.inr (by omega))
    ·exact (HK2.out.2.1.setCell HSZ.out _).setCell (by have:=HSZ.out;show _≤w.heap.size+1;omega) _
   have HFXN:=Aside0.mk hfin;clear hfin hP2 hE2 hE3 ke kef kp kpf;obtain ⟨wf,hwf⟩:∃ wf,wf=(w2.setCell ⟨w.heap.size,0,none⟩ (.int .i64 ((b.length:Int) - k))).setCell ⟨w.heap.size+1,0,none⟩ (.int .i64 20):=⟨_,rfl⟩;rw[←hwf] at hf1 hf2 HFXN ⊢;clear hwf;have kf1:wf.cell? ⟨w.heap.size,0,none⟩=some (.int .i64 ((b.length:Int) - k)):=(blk_cell hf1 0).trans rfl;have kf2:wf.cell? ⟨w.heap.size+1,0,none⟩=some (.int .i64 20):=(blk_cell hf2 0).trans rfl;clear hf1 hf2;simp[Leaves,settle,results,Try.results59,go_sem,kf1,kf2];exact HFXN.out
  ·refine HC.out.mono ?_;rintro e w2 ⟨hks,hbl,hy,hm⟩;simp only[hr] at hm;obtain ⟨rfl,hrs,hx⟩:=hm
   have hnS : ∀ k, k = w.heap.size ∨ k = w.heap.size + 1 → ¬ (k = w.heap.size + 1 + 1 ∨ S k) := fun k hk h => by
     rcases h with h|h
     ·omega
     ·have:=HST.out.1 k h;omega
   have hP2:=(hks.block w.heap.size (by rw[HB1.out.2];omega) (hnS _ (.inl rfl))).trans HBL.out.1;have hE2:=(hks.block (w.heap.size+1) (by rw[HB1.out.2];omega) (hnS _ (.inr rfl))).trans HBL.out.2;have kp:w2.cell? ⟨w.heap.size,0,none⟩=some (.int .i64 0):=(blk_cell hP2 0).trans rfl;have kpf:=blk_frozen hP2 0;have ke:w2.cell? ⟨w.heap.size+1,0,none⟩=some (.int .i64 0):=(blk_cell hE2 0).trans rfl;have kef:=blk_frozen hE2 0;have kr:w2.cell? ⟨w.heap.size+1+1,1,none⟩=some (.int .i64 (pl b l)):=(blk_cell hrs.blk 1).trans rfl;have hne:w.heap.size≠w.heap.size+1:=by omega
   have HK2:=Aside0.mk (And.intro hks (And.intro hbl (And.intro hy hx)));have HRS:=Aside0.mk hrs
   have HKS:Aside0 (∀ u v,Ks S w ((w2.setCell ⟨w.heap.size,0,none⟩ u).setCell ⟨w.heap.size+1,0,none⟩ v)∧Below w0.heap.size w0 ((w2.setCell ⟨w.heap.size,0,none⟩ u).setCell ⟨w.heap.size+1,0,none⟩ v)∧Y ((w2.setCell ⟨w.heap.size,0,none⟩ u).setCell ⟨w.heap.size+1,0,none⟩ v)∧X x ((w2.setCell ⟨w.heap.size,0,none⟩ u).setCell ⟨w.heap.size+1,0,none⟩ v)):=⟨fun u v=>by
    refine ⟨?_,?_,stable_set HST.out.2.2.1 (stable_set HST.out.2.2.1 hy _ (.inl rfl)) _ (.inr rfl),stable_set (HST.out.2.2.2 x) (stable_set (HST.out.2.2.2 x) hx _ (.inl rfl)) _ (.inr rfl)⟩
    ·refine Ks.set (Ks.set ⟨by have:=hks.size;have:=HB1.out.2;omega,fun i hi hs=>(hks.block i (by rw[HB1.out.2];omega) (fun h=>h.elim (fun h=>absurd h (by omega)) hs)).trans (HB1.out.1.block i hi)⟩ _ _ _ (.inr (Nat.le_refl _))) _ _ _ (.inr (by omega))
    ·exact (hbl.setCell HSZ.out _).setCell (by have:=HSZ.out;show _≤w.heap.size+1;omega) _⟩
   have HHE:Aside0 (∀ u v,((w2.setCell ⟨w.heap.size,0,none⟩ u).setCell ⟨w.heap.size+1,0,none⟩ v).heap[w.heap.size]?=some (.cells #[u] 3 (0,0))∧((w2.setCell ⟨w.heap.size,0,none⟩ u).setCell ⟨w.heap.size+1,0,none⟩ v).heap[w.heap.size+1]?=some (.cells #[v] 30 (0,0))):=⟨fun u v=>
    ⟨blk_far (blk_set hP2 0 u) (Ne.symm hne) 0 v,blk_set (blk_far hE2 hne 0 u) 0 v⟩⟩
   clear hks hbl hy hx hrs hnS hP2 hE2;rcases l with _|⟨d,l⟩
   ·have hpl:pl b []=(b.length:Int):=by unfold pl;simp
    rw[hpl] at kr;go_wp2_with fail
    refine leaves_cons (f:=96) (args := #[.pointer (some ⟨w.heap.size,0,none⟩),.pointer (some ⟨w.heap.size+1,0,none⟩)]) (by simp) (by simp[go_sem]) ?_;refine (catch_idle ⟨w.heap.size,0,none⟩ ⟨w.heap.size+1,0,none⟩ _).mono ?_;rintro e u' w3 ⟨rfl,rfl,rfl⟩;have hks:=HKS.out (.int .i64 (0)) (.int .i64 0);have hhe:=HHE.out (.int .i64 (0)) (.int .i64 0);obtain ⟨wf,hwf⟩:∃ wf,wf=(w2.setCell ⟨w.heap.size,0,none⟩ (.int .i64 (0))).setCell ⟨w.heap.size+1,0,none⟩ (.int .i64 0):=⟨_,rfl⟩;rw[←hwf] at hks hhe ⊢;clear hwf;have kf1:wf.cell? ⟨w.heap.size,0,none⟩=some (.int .i64 (0)):=(blk_cell hhe.1 0).trans rfl;have kf2:wf.cell? ⟨w.heap.size+1,0,none⟩=some (.int .i64 0):=(blk_cell hhe.2 0).trans rfl
    have HFXN:Aside0 (ReadP w0 w S b r Y X (.returned (.tuple #[.int .i64 (0),.int .i64 0])) wf):=⟨by
     rw[hr];exact ⟨hks.1,hks.2.1,hks.2.2.1,_,_,rfl,rfl,rfl,hks.2.2.2⟩⟩
    clear hks hhe;simp[Leaves,settle,results,Try.results59,go_sem,kf1,kf2];exact HFXN.out
   ·have hpl:pl b (d::l)<(b.length:Int):=by unfold pl;rw[List.length_cons];omega
    go_wp2_with fail
    refine leaves_cons (f:=96) (args := #[.pointer (some ⟨w.heap.size,0,none⟩),.pointer (some ⟨w.heap.size+1,0,none⟩)]) (by simp) (by simp[go_sem]) ?_;refine (catch_idle ⟨w.heap.size,0,none⟩ ⟨w.heap.size+1,0,none⟩ _).mono ?_;rintro e u' w3 ⟨rfl,rfl,rfl⟩;have hks:=HKS.out (.int .i64 (pl b (d::l))) (.int .i64 20);have hhe:=HHE.out (.int .i64 (pl b (d::l))) (.int .i64 20);obtain ⟨wf,hwf⟩:∃ wf,wf=(w2.setCell ⟨w.heap.size,0,none⟩ (.int .i64 (pl b (d::l)))).setCell ⟨w.heap.size+1,0,none⟩ (.int .i64 20):=⟨_,rfl⟩;rw[←hwf] at hks hhe ⊢;clear hwf;have kf1:wf.cell? ⟨w.heap.size,0,none⟩=some (.int .i64 (pl b (d::l))):=(blk_cell hhe.1 0).trans rfl;have kf2:wf.cell? ⟨w.heap.size+1,0,none⟩=some (.int .i64 20):=(blk_cell hhe.2 0).trans rfl
    have HFXN:Aside0 (ReadP w0 w S b r Y X (.returned (.tuple #[.int .i64 (pl b (d::l)),.int .i64 20])) wf):=⟨by
     rw[hr];exact ⟨hks.1,hks.2.1,hks.2.2.1,_,_,rfl,by unfold pl;rw[List.length_cons];omega,rfl⟩⟩
    clear hks hhe;simp[Leaves,settle,results,Try.results59,go_sem,kf1,kf2];exact HFXN.out
theorem read_req {α : Type} (cb db : Nat) (w0 w : World) (A : Option Addr) (c : Nat) (b : List Int) (S : Nat → Prop) (r : R α) (Y : World → Prop) (X : α → World → Prop) (hi : In w0 A c b) (hB : Below w0.heap.size w0 w)
    (hS:∀ k,S k→k<w.heap.size) (hS0:∀ k,S k→w0.heap.size≤k) (hY:Stable w.heap.size Y) (hX:∀ x,Stable w.heap.size (X x))
    (hf:∀ w1,Below w.heap.size w w1→w1.heap.size=w.heap.size+1+1+1→RS w0 w1 (w.heap.size+1+1) A c b b→Calls Try.prog 82 #[.pointer (some ⟨w.heap.size+1+1,0,none⟩),.pointer (some ⟨cb,0,none⟩),.pointer (some ⟨db,0,none⟩)] w1 fun e w'=>Fld w0 w1 (w.heap.size+1+1) S A c b r Y X e w'):
    Calls Try.prog 59 #[.slice A b.length c,.func (Fn.func 82) #[] #[.pointer (some ⟨cb,0,none⟩),.pointer (some ⟨db,0,none⟩)]] w fun e w'=>ReadP w0 w S b r Y X e w':=by
  have hmf:∀ (fn:Fn) (first cap:Array Value) (w:World),(Instr.makeFunc fn first cap).run Try.prog w = .ok (.func fn first cap) w:=fun _ _ _ _=>rfl;obtain ⟨w1,hw1⟩:∃ w1,w1=(((w.alloc (.cells #[.int .i64 0] 3 (0,0))).alloc (.cells #[.int .i64 0] 30 (0,0))).alloc (.cells #[.slice A b.length c,.int .i64 0] 141 (0,0))):=⟨_,rfl⟩;have HW1:=Aside0.mk hw1;have hb1:Below w.heap.size w w1:=by rw[hw1];exact ((al_below w _).alloc (by simp) _).alloc (by simp;omega) _
  have hs1:w1.heap.size=w.heap.size+1+1+1:=by rw[hw1];simp
  have hP:w1.heap[w.heap.size]?=some (.cells #[.int .i64 0] 3 (0,0)):=by
   rw[hw1,Below.heap_alloc _ _ _ (by simp;omega),Below.heap_alloc _ _ _ (by simp)];exact heap_alloc_new w _
  have hE:w1.heap[w.heap.size+1]?=some (.cells #[.int .i64 0] 30 (0,0)):=by
   rw[hw1,Below.heap_alloc _ _ _ (by simp)];have:=heap_alloc_new (w.alloc (.cells #[.int .i64 0] 3 (0,0))) (.cells #[.int .i64 0] 30 (0,0))
   simpa using this
  have hR:RS w0 w1 (w.heap.size+1+1) A c b b:=⟨by
   have:=heap_alloc_new ((w.alloc (.cells #[.int .i64 0] 3 (0,0))).alloc (.cells #[.int .i64 0] 30 (0,0))) (.cells #[.slice A b.length c,.int .i64 0] 141 (0,0));rw[hw1];unfold pl;rw[Int.sub_self]
   simpa using this,by have:=hB.size;omega,hB.trans (hb1.mono hB.size),⟨[],rfl⟩⟩
  have HC:=Aside0.mk (hf w1 hb1 hs1 hR);have HBL:=Aside0.mk (And.intro hP hE);have HB1:=Aside0.mk (And.intro hb1 hs1);have HST:=Aside0.mk (And.intro hS (And.intro hS0 (And.intro hY hX)));have HSZ:=Aside0.mk hB.size;have HBB:=Aside0.mk hB;have HI:=Aside0.mk hi;clear hw1 hf hP hE hb1 hs1 hS hS0 hY hX hR hB hi;go_enter_defers Try.func59,Try.ntmps59
  go_wp2_with fail
  rw[←HW1.out];rcases hr:r with k|⟨x,l⟩
  ·refine HC.out.mono ?_;rintro e w2 ⟨hks,hbl,hy,hm⟩;simp only[hr,pan] at hm;subst hm
   have hnS : ∀ k, k = w.heap.size ∨ k = w.heap.size + 1 → ¬ (k = w.heap.size + 1 + 1 ∨ S k) := fun k hk h => by
     rcases h with h|h
     ·omega
     ·have:=HST.out.1 k h;omega
   have hP2:=(hks.block w.heap.size (by rw[HB1.out.2];omega) (hnS _ (.inl rfl))).trans HBL.out.1;have hE2:=(hks.block (w.heap.size+1) (by rw[HB1.out.2];omega) (hnS _ (.inr rfl))).trans HBL.out.2;have HK2:=Aside0.mk (And.intro hks (And.intro hbl hy));clear hks hbl hy hnS;go_wp2_with fail
   have hne:w.heap.size≠w.heap.size+1:=by omega
   have kp:w2.cell? ⟨w.heap.size,0,none⟩=some (.int .i64 0):=(blk_cell hP2 0).trans rfl;have kpf:=blk_frozen hP2 0;have hE3:∀ v,(w2.setCell ⟨w.heap.size,0,none⟩ v).heap[w.heap.size+1]?=some (.cells #[.int .i64 0] 30 (0,0)):=fun v=>blk_far hE2 hne 0 v;have ke:=fun v=>(blk_cell (hE3 v) 0).trans (rfl:_=some (Value.int .i64 0));have kef:=fun v=>blk_frozen (hE3 v) 0;refine leaves_cons (f:=96) (args := #[.pointer (some ⟨w.heap.size,0,none⟩),.pointer (some ⟨w.heap.size+1,0,none⟩)]) (by simp) (by simp[go_sem]) ?_;refine (catch_pan ⟨w.heap.size,0,none⟩ ⟨w.heap.size+1,0,none⟩ 0 0 _ _ kp kpf (ke _) (kef _)).mono ?_;rintro e u' w3 ⟨rfl,rfl,rfl⟩;have hf1:=blk_far (blk_set hP2 0 (.int .i64 ((b.length:Int) - k))) (Ne.symm hne) 0 (.int .i64 20);have hf2:=blk_set (hE3 (.int .i64 ((b.length:Int) - k))) 0 (.int .i64 20)
   have hfin:ReadP w0 w S b r Y X (.returned (.tuple #[.int .i64 ((b.length:Int) - k),.int .i64 20])) ((w2.setCell ⟨w.heap.size,0,none⟩ (.int .i64 ((b.length:Int) - k))).setCell ⟨w.heap.size+1,0,none⟩ (.int .i64 20)):=by
    rw[hr];refine ⟨?_,?_,stable_set HST.out.2.2.1 (stable_set HST.out.2.2.1 HK2.out.2.2 _ (.inl rfl)) _ (.inr rfl),_,_,rfl,rfl,rfl⟩
    ·refine Ks.set (Ks.set ⟨by have:=HK2.out.1.size;have:=HB1.out.2;omega,fun i hi hs=>(HK2.out.1.block i (by rw[HB1.out.2];omega) (fun h=>h.elim (fun h=>absurd h (by omega)) hs)).trans (HB1.out.1.block i hi)⟩ _ _ _ (.inr (Nat.le_refl _))) _ _ _ (.inr (by omega))
    ·exact (HK2.out.2.1.setCell HSZ.out _).setCell (by have:=HSZ.out;show _≤w.heap.size+1;omega) _
   have HFXN:=Aside0.mk hfin;clear hfin hP2 hE2 hE3 ke kef kp kpf;obtain ⟨wf,hwf⟩:∃ wf,wf=(w2.setCell ⟨w.heap.size,0,none⟩ (.int .i64 ((b.length:Int) - k))).setCell ⟨w.heap.size+1,0,none⟩ (.int .i64 20):=⟨_,rfl⟩;rw[←hwf] at hf1 hf2 HFXN ⊢;clear hwf;have kf1:wf.cell? ⟨w.heap.size,0,none⟩=some (.int .i64 ((b.length:Int) - k)):=(blk_cell hf1 0).trans rfl;have kf2:wf.cell? ⟨w.heap.size+1,0,none⟩=some (.int .i64 20):=(blk_cell hf2 0).trans rfl;clear hf1 hf2;simp[Leaves,settle,results,Try.results59,go_sem,kf1,kf2];exact HFXN.out
  ·refine HC.out.mono ?_;rintro e w2 ⟨hks,hbl,hy,hm⟩;simp only[hr] at hm;obtain ⟨rfl,hrs,hx⟩:=hm
   have hnS : ∀ k, k = w.heap.size ∨ k = w.heap.size + 1 → ¬ (k = w.heap.size + 1 + 1 ∨ S k) := fun k hk h => by
     rcases h with h|h
     ·omega
     ·have:=HST.out.1 k h;omega
   have hP2:=(hks.block w.heap.size (by rw[HB1.out.2];omega) (hnS _ (.inl rfl))).trans HBL.out.1;have hE2:=(hks.block (w.heap.size+1) (by rw[HB1.out.2];omega) (hnS _ (.inr rfl))).trans HBL.out.2;have kp:w2.cell? ⟨w.heap.size,0,none⟩=some (.int .i64 0):=(blk_cell hP2 0).trans rfl;have kpf:=blk_frozen hP2 0;have ke:w2.cell? ⟨w.heap.size+1,0,none⟩=some (.int .i64 0):=(blk_cell hE2 0).trans rfl;have kef:=blk_frozen hE2 0;have kr:w2.cell? ⟨w.heap.size+1+1,1,none⟩=some (.int .i64 (pl b l)):=(blk_cell hrs.blk 1).trans rfl;have hne:w.heap.size≠w.heap.size+1:=by omega
   have HK2:=Aside0.mk (And.intro hks (And.intro hbl (And.intro hy hx)));have HRS:=Aside0.mk hrs
   have HKS:Aside0 (∀ u v,Ks S w ((w2.setCell ⟨w.heap.size,0,none⟩ u).setCell ⟨w.heap.size+1,0,none⟩ v)∧Below w0.heap.size w0 ((w2.setCell ⟨w.heap.size,0,none⟩ u).setCell ⟨w.heap.size+1,0,none⟩ v)∧Y ((w2.setCell ⟨w.heap.size,0,none⟩ u).setCell ⟨w.heap.size+1,0,none⟩ v)∧X x ((w2.setCell ⟨w.heap.size,0,none⟩ u).setCell ⟨w.heap.size+1,0,none⟩ v)):=⟨fun u v=>by
    refine ⟨?_,?_,stable_set HST.out.2.2.1 (stable_set HST.out.2.2.1 hy _ (.inl rfl)) _ (.inr rfl),stable_set (HST.out.2.2.2 x) (stable_set (HST.out.2.2.2 x) hx _ (.inl rfl)) _ (.inr rfl)⟩
    ·refine Ks.set (Ks.set ⟨by have:=hks.size;have:=HB1.out.2;omega,fun i hi hs=>(hks.block i (by rw[HB1.out.2];omega) (fun h=>h.elim (fun h=>absurd h (by omega)) hs)).trans (HB1.out.1.block i hi)⟩ _ _ _ (.inr (Nat.le_refl _))) _ _ _ (.inr (by omega))
    ·exact (hbl.setCell HSZ.out _).setCell (by have:=HSZ.out;show _≤w.heap.size+1;omega) _⟩
   have HHE:Aside0 (∀ u v,((w2.setCell ⟨w.heap.size,0,none⟩ u).setCell ⟨w.heap.size+1,0,none⟩ v).heap[w.heap.size]?=some (.cells #[u] 3 (0,0))∧((w2.setCell ⟨w.heap.size,0,none⟩ u).setCell ⟨w.heap.size+1,0,none⟩ v).heap[w.heap.size+1]?=some (.cells #[v] 30 (0,0))):=⟨fun u v=>
    ⟨blk_far (blk_set hP2 0 u) (Ne.symm hne) 0 v,blk_set (blk_far hE2 hne 0 u) 0 v⟩⟩
   clear hks hbl hy hx hrs hnS hP2 hE2;rcases l with _|⟨d,l⟩
   ·have hpl:pl b []=(b.length:Int):=by unfold pl;simp
    rw[hpl] at kr;go_wp2_with fail
    refine leaves_cons (f:=96) (args := #[.pointer (some ⟨w.heap.size,0,none⟩),.pointer (some ⟨w.heap.size+1,0,none⟩)]) (by simp) (by simp[go_sem]) ?_;refine (catch_idle ⟨w.heap.size,0,none⟩ ⟨w.heap.size+1,0,none⟩ _).mono ?_;rintro e u' w3 ⟨rfl,rfl,rfl⟩;have hks:=HKS.out (.int .i64 (0)) (.int .i64 0);have hhe:=HHE.out (.int .i64 (0)) (.int .i64 0);obtain ⟨wf,hwf⟩:∃ wf,wf=(w2.setCell ⟨w.heap.size,0,none⟩ (.int .i64 (0))).setCell ⟨w.heap.size+1,0,none⟩ (.int .i64 0):=⟨_,rfl⟩;rw[←hwf] at hks hhe ⊢;clear hwf;have kf1:wf.cell? ⟨w.heap.size,0,none⟩=some (.int .i64 (0)):=(blk_cell hhe.1 0).trans rfl;have kf2:wf.cell? ⟨w.heap.size+1,0,none⟩=some (.int .i64 0):=(blk_cell hhe.2 0).trans rfl
    have HFXN:Aside0 (ReadP w0 w S b r Y X (.returned (.tuple #[.int .i64 (0),.int .i64 0])) wf):=⟨by
     rw[hr];exact ⟨hks.1,hks.2.1,hks.2.2.1,_,_,rfl,rfl,rfl,hks.2.2.2⟩⟩
    clear hks hhe;simp[Leaves,settle,results,Try.results59,go_sem,kf1,kf2];exact HFXN.out
   ·have hpl:pl b (d::l)<(b.length:Int):=by unfold pl;rw[List.length_cons];omega
    go_wp2_with fail
    refine leaves_cons (f:=96) (args := #[.pointer (some ⟨w.heap.size,0,none⟩),.pointer (some ⟨w.heap.size+1,0,none⟩)]) (by simp) (by simp[go_sem]) ?_;refine (catch_idle ⟨w.heap.size,0,none⟩ ⟨w.heap.size+1,0,none⟩ _).mono ?_;rintro e u' w3 ⟨rfl,rfl,rfl⟩;have hks:=HKS.out (.int .i64 (pl b (d::l))) (.int .i64 20);have hhe:=HHE.out (.int .i64 (pl b (d::l))) (.int .i64 20);obtain ⟨wf,hwf⟩:∃ wf,wf=(w2.setCell ⟨w.heap.size,0,none⟩ (.int .i64 (pl b (d::l)))).setCell ⟨w.heap.size+1,0,none⟩ (.int .i64 20):=⟨_,rfl⟩;rw[←hwf] at hks hhe ⊢;clear hwf;have kf1:wf.cell? ⟨w.heap.size,0,none⟩=some (.int .i64 (pl b (d::l))):=(blk_cell hhe.1 0).trans rfl;have kf2:wf.cell? ⟨w.heap.size+1,0,none⟩=some (.int .i64 20):=(blk_cell hhe.2 0).trans rfl
    have HFXN:Aside0 (ReadP w0 w S b r Y X (.returned (.tuple #[.int .i64 (pl b (d::l)),.int .i64 20])) wf):=⟨by
     rw[hr];exact ⟨hks.1,hks.2.1,hks.2.2.1,_,_,rfl,by unfold pl;rw[List.length_cons];omega,rfl⟩⟩
    clear hks hhe;simp[Leaves,settle,results,Try.results59,go_sem,kf1,kf2];exact HFXN.out
def YB (cb:Nat) (t:TypeId) (n:Nat) (w:World):Prop:=∃ cs,w.heap[cb]?=some (.cells cs t (0,0))∧cs.size=n
def XM (n cb:Nat) (m:Msg) (w:World):Prop:=∃ A1 c1,w.heap[cb]?=some (.cells (MVc m A1 c1) 33 (0,0))∧((A1=none∧c1=0∧m.views=[]) ∨ ∃ vb,A1=some ⟨vb,0,none⟩∧c1=m.views.length∧n≤vb∧w.heap[vb]?=some (.cells (rowV m.views).toArray 87 (0,0)))
theorem stable_Y {n cb k:Nat} {t:TypeId} (h:cb≠n) (h2:cb≠n+1):Stable n (YB cb t k):=fun w1 w2 ⟨cs,h3,h4⟩ hk _=>⟨cs,(hk cb (blk_lt h3) h h2).trans h3,h4⟩
theorem stable_X {n cb:Nat} (h:cb<n) (m:Msg):Stable n (XM (n+1+1) cb m):=by
 rintro w1 w2 ⟨A1,c1,h3,h4⟩ hk hsz;refine ⟨A1,c1,(hk cb (blk_lt h3) (by omega) (by omega)).trans h3,?_⟩;rcases h4 with h4|⟨vb,h5,h6,h7,h8⟩
 ·exact .inl h4
 ·exact .inr ⟨vb,h5,h6,h7,(hk vb (blk_lt h8) (by omega) (by omega)).trans h8⟩
theorem mv_one (m:Msg) (A:Option Addr) (c:Nat):(MVc m A c).all (·.oneCell')=true:=by simp[MVc,Value.oneCell']
theorem Ks.setRow {S:Nat→Prop} {a b:World} (h:Ks S a b) (g:Nat) (cs:Array Value) (hg:S g∨a.heap.size≤g):Ks S a (b.setRow g cs):=
 ⟨by rw [size_setRow]; exact h.size, fun k hk hs => (setRow_far (by
   rcases hg with hg|hg
   ·intro e;exact hs (e ▸ hg)
   ·omega) cs).trans (h.block k hk hs)⟩
theorem dec1_calls (w0 w1:World) (g cb n:Nat) (A:Option Addr) (c:Nat) (b:List Int) (hi:In w0 A c b) (h:RS w0 w1 g A c b b) (hne:cb≠g) (hge:w0.heap.size≤cb) (hn:n≤w1.heap.size) (hy:YB cb 33 20 w1):
  Calls Try.prog 60 #[.pointer (some ⟨g,0,none⟩),.pointer (some ⟨cb,0,none⟩)] w1 fun e w'=>Fld w0 w1 g (fun k=>k=cb) A c b (msgP b) (YB cb 33 20) (XM n cb) e w':=by
 have HI:=Aside0.mk hi;have HR:=Aside0.mk h;have HNE:=Aside0.mk (And.intro hne (And.intro hge hn));obtain ⟨old,ho,hos⟩:=hy;have HO:=Aside0.mk (And.intro ho hos);clear hi h hne hge hn ho hos;go_enter Try.func60,Try.ntmps60
 rcases hp:msgP b with k|⟨m,l⟩
 ·go_wp2_with (go_at_call 61;refine (msg_calls w0 _ g A c b b HI.out HR.out).mono ?_;rintro e w2 ⟨hk,hb,hm⟩;simp only[hp,pan] at hm;subst hm;have HK:=Aside0.mk (And.intro hk hb);clear hk hb)
  refine ⟨rfl,⟨HK.out.1.size,fun i hi hs=>HK.out.1.block i hi (fun e=>hs (.inl e))⟩,HK.out.2,⟨old,kb_blk HK.out.1 HNE.out.1 HO.out.1,HO.out.2⟩,?_⟩;rfl
 ·go_wp2_with (first|(refine wpList_store_row rfl 33 (.tmp 1) (.tmp 4) rfl cb (MVc m A1 c1) (by rfl) (by rfl) 33 _ HX.out inf33 HO.out.2 (mv_one m A1 c1) ?_)|(go_at_call 61;refine (msg_calls w0 _ g A c b b HI.out HR.out).mono ?_;rintro e w2 ⟨hk,hb,hm⟩;simp only[hp] at hm;obtain ⟨⟨A1,c1,rfl,hnv⟩,hs1⟩:=hm;have HX:=Aside0.mk (kb_blk hk HNE.out.1 HO.out.1);have HK:=Aside0.mk (And.intro hk (And.intro hb (And.intro hs1 hnv)));clear hk hb hs1 hnv))
  (first|go_end0|((try simp only[Exit.inBlock,Exit.then]);refine bodyPost_ret (results_none rfl _ _ _) rfl ?_))
  have hcl:=blk_lt HO.out.1;refine ⟨Ks.setRow ⟨HK.out.1.size,fun i hi hs=>HK.out.1.block i hi (fun e=>hs (.inl e))⟩ cb _ (.inl (.inr rfl)),below_setRow HK.out.2.1 HNE.out.2.1 _,⟨_,setRow_blk HX.out _,rfl⟩,rfl,HK.out.2.2.1.setRowOther HNE.out.1 HNE.out.2.1 _,A1,c1,setRow_blk HX.out _,?_⟩;rcases HK.out.2.2.2 with h4|⟨vb,h5,h6,h7,h8⟩
  ·exact .inl h4
  ·exact .inr ⟨vb,h5,h6,Nat.le_trans HNE.out.2.2 h7,(setRow_far (by omega) _).trans h8⟩
theorem results_cell_two {P:Program} {fn:Func} {p q r:Tmp} {ty:TypeId} (h:fn.results = #[.cell p ty,.tmp q,.tmp r]) (tmps:Array Value) (w:World) (g:Nat) (t:TypeId) (cs:Array Value) (fr:Nat×Nat) (d:TypeDesc)
  (hp:tmps.getD p undef = .pointer (some ⟨g,0,none⟩)) (hg:w.heap[g]?=some (.cells cs t fr))
  (hu:P.underlying ty=some d) (hd:(match d with | .struct _ | .array _ _=>true|_=>false)=true) (hi:(P.info? ty).map (·.size)=some cs.size):
  (results fn tmps).run P w = .ok (.tuple #[.agg cs,tmps.getD q undef,tmps.getD r undef]) w:=by
 have hp':tmps[p]?.getD undef = .pointer (some ⟨g,0,none⟩):=by simpa using hp
 simp[results,h,hp',asAddr,run_loadVar_row w g t ty cs fr d hg hu hd hi]
theorem mv_zero:MVc zMsg none 0 = #[.int .i64 0,.string ⟨#[]⟩,.int .i64 0,.int .i64 0,.int .i64 0,.int .i64 0,.int .i64 0,.int .i64 0,.int .i64 0,.int .i64 0,.int .i64 0,.int .i64 0,.int .i64 0,.int .i64 0,.string ⟨#[]⟩,.int .i64 0,.int .i64 0,.int .i64 0,.int .i64 0,.slice none 0 0]:=rfl
theorem build_zero (a:Act) (W:World) {o:Oper} (ho:o.op = .build 33 #[]):(execOp a.eval o).run Try.prog W = .ok (.value (.agg (MVc zMsg none 0))) W:=by
 unfold execOp;rw[ho];have hu33:=Try.underlying33;have h:(Instr.build 33 #[]).run Try.prog W = .ok (.agg (MVc zMsg none 0)) W:=by kernel_rfl
 simp[h]
def DecP (w:World) (x:Msg×Int×Int) (e:Ending) (w':World):Prop:=
 Below w.heap.size w w'∧∃ A1 c1,e = .returned (.tuple #[MV x.1 A1 c1,.int .i64 x.2.1,.int .i64 x.2.2])∧NewV w w' A1 c1 x.1.views
theorem decode_calls (w:World) (A:Option Addr) (c:Nat) (b:List Int) (hi:In w A c b):
  Calls Try.prog 18 #[.slice A b.length c] w fun e w'=>DecP w (whole zMsg msgP b) e w':=by
 have hmf:∀ (fn:Fn) (first cap:Array Value) (w:World),(Instr.makeFunc fn first cap).run Try.prog w = .ok (.func fn first cap) w:=fun _ _ _ _=>rfl;obtain ⟨wa,hwa⟩:∃ wa,wa=w.alloc (.cells (MVc zMsg none 0) 33 (0,0)):=⟨_,rfl⟩;have HWA:=Aside0.mk hwa;have HB:Aside0 (Below w.heap.size w wa∧wa.heap.size=w.heap.size+1∧wa.heap[w.heap.size]?=some (.cells (MVc zMsg none 0) 33 (0,0))):=⟨by rw[hwa];exact ⟨al_below w _,by simp,heap_alloc_new w _⟩⟩
 have HRD : Aside0 (Calls Try.prog 59 #[.slice A b.length c, .func (Fn.func 60) #[] #[.pointer (some ⟨w.heap.size, 0, none⟩)]] wa fun e w' => ReadP w wa (fun k => k = w.heap.size) b (msgP b) (YB w.heap.size 33 20) (XM (wa.heap.size + 1 + 1) w.heap.size) e w') := ⟨by
   have hsz:=HB.out.2.1;refine read_msg w.heap.size w wa A c b _ (msgP b) _ _ hi HB.out.1 (fun k hk=>by omega) (fun k hk=>by omega) (stable_Y (by omega) (by omega)) (fun m=>stable_X (by omega) m) ?_;intro w1 hb1 hs1 hr1;exact dec1_calls w w1 _ w.heap.size _ A c b hi hr1 (by omega) (Nat.le_refl _) (by omega) ⟨_,blk_keep hb1 HB.out.2.2,rfl⟩⟩
 have hu33:=Try.underlying33;clear hwa hi;rw[mv_zero] at HWA;go_enter Try.func18,Try.ntmps18
 go_upto_region 1 with fail
 rw[←HWA.out];go_upto_region 2 with (go_at_call 59;refine HRD.out.mono ?_;rintro e w2 ⟨hks,hbl,hy,pt,er,rfl,hm⟩;have HK:=Aside0.mk (And.intro hks (And.intro hbl (And.intro hy hm)));clear hks hbl hy hm)
 rcases hp:msgP b with k|⟨m,l⟩
 ·have HW:Aside0 (whole zMsg msgP b=(zMsg,(b.length:Int) - k,20)):=⟨by unfold whole;rw[hp]⟩;rw[hp] at HK;obtain ⟨old,ho,hos⟩:=HK.out.2.2.1;(try obtain ⟨rfl,rfl⟩:=HK.out.2.2.2)
  have HC:=Aside0.mk (And.intro ho hos);have HB3:=Aside0.mk (setRow_blk ho (MVc zMsg none 0));clear ho hos;go_wp2_with (first|((with_reducible refine gate_dst (N:=13) rfl ?_);refine Kd.event_run (v := .agg (MVc zMsg none 0)) (w1:=w2) rfl (build_zero _ _ rfl) ?_;go_loud (refine wpList_store_row rfl 33 (.tmp 2) (.tmp 13) rfl w.heap.size (MVc zMsg none 0) (by rfl) (by rfl) 33 _ HC.out.1 inf33 HC.out.2 (mv_one _ _ _) ?_))|((with_reducible refine gate_dst (N:=14) rfl ?_);refine wpList_load_row rfl 33 (.tmp 2) rfl w.heap.size (by rfl) 33 (MVc zMsg none 0) (0,0) _ HB3.out Try.underlying33 rfl inf33 ?_;refine Kd.event_run (v := .int .i64 ((b.length:Int) - k)) rfl (by rfl) ?_;refine Kd.event_run (v := .int .i64 (20)) rfl (by rfl) ?_;go_loud (refine wpList_store_row rfl 33 (.tmp 2) (.tmp 14) rfl w.heap.size (MVc zMsg none 0) (by rfl) (by rfl) 33 _ HB3.out inf33 rfl (mv_one _ _ _) ?_)))
  have HB4:=setRow_blk HB3.out (MVc zMsg none 0);(try simp only[Exit.inBlock,Exit.then])
  refine bodyPost_ret (v := .tuple #[.agg (MVc zMsg none 0),.int .i64 ((b.length:Int) - k),.int .i64 20]) ?_ rfl ?_
  ·exact results_cell_two (fn:=Try.f18) (p:=2) (q:=3) (r:=4) rfl _ _ w.heap.size 33 _ (0,0) _ (by rfl) HB4 hu33 rfl inf33
  refine ⟨below_setRow (below_setRow HK.out.2.1 (Nat.le_refl _) _) (Nat.le_refl _) _,none,0,?_,.inl ⟨?_,?_,?_⟩⟩<;>first|rfl|(rw[HW.out];rfl)
 ·rcases l with _|⟨d,l⟩
  ·have HW:Aside0 (whole zMsg msgP b=(m,0,0)):=⟨by unfold whole;rw[hp]⟩;rw[hp] at HK;obtain ⟨hpt,her,A1,c1,hbk,hnv⟩:=HK.out.2.2.2;subst hpt her;have HC:=Aside0.mk hbk;have HNV:=Aside0.mk hnv;clear hbk hnv;go_wp2_with ((with_reducible refine gate_dst (N:=14) rfl ?_);refine wpList_load_row rfl 33 (.tmp 2) rfl w.heap.size (by rfl) 33 (MVc m A1 c1) (0,0) _ HC.out Try.underlying33 rfl inf33 ?_;refine Kd.event_run (v := .int .i64 (0)) rfl (by rfl) ?_;refine Kd.event_run (v := .int .i64 (0)) rfl (by rfl) ?_;go_loud (refine wpList_store_row rfl 33 (.tmp 2) (.tmp 14) rfl w.heap.size (MVc m A1 c1) (by rfl) (by rfl) 33 _ HC.out inf33 rfl (mv_one _ _ _) ?_))
   have HB4:=setRow_blk HC.out (MVc m A1 c1);(try simp only[Exit.inBlock,Exit.then])
   refine bodyPost_ret (v := .tuple #[.agg (MVc m A1 c1),.int .i64 0,.int .i64 0]) ?_ rfl ?_
   ·exact results_cell_two (fn:=Try.f18) (p:=2) (q:=3) (r:=4) rfl _ _ w.heap.size 33 _ (0,0) _ (by rfl) HB4 hu33 rfl inf33
   refine ⟨below_setRow HK.out.2.1 (Nat.le_refl _) _,A1,c1,by rw[HW.out];rfl,?_⟩;rw[HW.out];rcases HNV.out with h4|⟨vb,h5,h6,h7,h8⟩
   ·exact .inl h4
   ·exact .inr ⟨vb,h5,h6,by have:=HB.out.2.1;omega,(setRow_far (by have:=HB.out.2.1;omega) _).trans h8⟩
  ·have HW:Aside0 (whole zMsg msgP b=(zMsg,(b.length:Int) - (l.length+1),20)):=⟨by unfold whole;rw[hp]⟩;rw[hp] at HK;obtain ⟨old,ho,hos⟩:=HK.out.2.2.1;(try obtain ⟨rfl,rfl⟩:=HK.out.2.2.2)
   have HC:=Aside0.mk (And.intro ho hos);have HB3:=Aside0.mk (setRow_blk ho (MVc zMsg none 0));clear ho hos;go_wp2_with (first|((with_reducible refine gate_dst (N:=13) rfl ?_);refine Kd.event_run (v := .agg (MVc zMsg none 0)) (w1:=w2) rfl (build_zero _ _ rfl) ?_;go_loud (refine wpList_store_row rfl 33 (.tmp 2) (.tmp 13) rfl w.heap.size (MVc zMsg none 0) (by rfl) (by rfl) 33 _ HC.out.1 inf33 HC.out.2 (mv_one _ _ _) ?_))|((with_reducible refine gate_dst (N:=14) rfl ?_);refine wpList_load_row rfl 33 (.tmp 2) rfl w.heap.size (by rfl) 33 (MVc zMsg none 0) (0,0) _ HB3.out Try.underlying33 rfl inf33 ?_;refine Kd.event_run (v := .int .i64 ((b.length:Int) - (l.length+1))) rfl (by rfl) ?_;refine Kd.event_run (v := .int .i64 (20)) rfl (by rfl) ?_;go_loud (refine wpList_store_row rfl 33 (.tmp 2) (.tmp 14) rfl w.heap.size (MVc zMsg none 0) (by rfl) (by rfl) 33 _ HB3.out inf33 rfl (mv_one _ _ _) ?_)))
   have HB4:=setRow_blk HB3.out (MVc zMsg none 0);(try simp only[Exit.inBlock,Exit.then])
   refine bodyPost_ret (v := .tuple #[.agg (MVc zMsg none 0),.int .i64 ((b.length:Int) - (l.length+1)),.int .i64 20]) ?_ rfl ?_
   ·exact results_cell_two (fn:=Try.f18) (p:=2) (q:=3) (r:=4) rfl _ _ w.heap.size 33 _ (0,0) _ (by rfl) HB4 hu33 rfl inf33
   refine ⟨below_setRow (below_setRow HK.out.2.1 (Nat.le_refl _) _) (Nat.le_refl _) _,none,0,?_,.inl ⟨?_,?_,?_⟩⟩<;>first|rfl|(rw[HW.out];rfl)
def RVc (r:Rep):Array Value := #[.int .i64 r.call.f0,.int .i64 r.call.f1,.int .i64 r.err,.int .i64 r.value]
theorem inf50:(Try.prog.info? 50).map (·.size)=some 4:=by kernel_rfl
def CVc (x:S25):Array Value := #[.int .i64 x.f0,.int .i64 x.f1]
def OVc (o:Sp.Op):Array Value := #[.int .i64 o.kind,.string o.name,.int .i64 o.a,.int .i64 o.b]
def YQ (cb db:Nat) (w:World):Prop:=∃ (x:S25) (o:Sp.Op),w.heap[cb]?=some (.cells (CVc x) 27 (0,0))∧w.heap[db]?=some (.cells (OVc o) 29 (0,0))
def XQ (cb db:Nat) (y:S25×Sp.Op) (w:World):Prop:=w.heap[cb]?=some (.cells (CVc y.1) 27 (0,0))∧w.heap[db]?=some (.cells (OVc y.2) 29 (0,0))
theorem stable_XQ {n cb db:Nat} (h:cb<n) (h2:db<n) (y:S25×Sp.Op):Stable n (XQ cb db y):=fun w1 w2 h3 hk _=>⟨(hk cb (blk_lt h3.1) (by omega) (by omega)).trans h3.1,(hk db (blk_lt h3.2) (by omega) (by omega)).trans h3.2⟩
theorem stable_YQ {n cb db:Nat} (h:cb<n) (h2:db<n):Stable n (YQ cb db):=fun w1 w2 ⟨x,o,h3,h4⟩ hk hs=>⟨x,o,stable_XQ h h2 (x,o) w1 w2 ⟨h3,h4⟩ hk hs⟩
theorem req1_calls (w0 w1:World) (g cb db:Nat) (A:Option Addr) (c:Nat) (b:List Int) (hi:In w0 A c b) (h:RS w0 w1 g A c b b) (hne:cb≠g∧db≠g∧cb≠db) (hge:w0.heap.size≤cb∧w0.heap.size≤db) (hy:w1.heap[cb]?=some (.cells (CVc z25) 27 (0,0))) (hz:w1.heap[db]?=some (.cells (OVc zOp) 29 (0,0))):
  Calls Try.prog 82 #[.pointer (some ⟨g,0,none⟩),.pointer (some ⟨cb,0,none⟩),.pointer (some ⟨db,0,none⟩)] w1 fun e w'=>Fld w0 w1 g (fun k=>k=cb∨k=db) A c b (reqP b) (YQ cb db) (XQ cb db) e w':=by
 have HI:=Aside0.mk hi;have HNE:=Aside0.mk (And.intro hne hge);have H0:Aside0 (RS w0 w1 g A c b b∧w1.heap[cb]?=some (.cells (CVc z25) 27 (0,0))∧w1.heap[db]?=some (.cells (OVc zOp) 29 (0,0))):=⟨h,hy,hz⟩;have HP:Aside0 (reqP b=(bnd (pairP 0 63 1 1099511627776) fun x=>bnd opP fun o=>ret (x,o)) b):=⟨rfl⟩;have hu29:=Try.underlying29;have hu27:=Try.underlying27;clear hi h hne hge hy hz;go_enter Try.func82,Try.ntmps82
 rcases h0:pairP 0 63 1 1099511627776 b with n0|⟨x,l1⟩
 ·have HQ:Aside0 (reqP b = .bad n0):=⟨by rw[HP.out,bnd_bad h0]⟩;go_wp2_with (go_at_call 83;refine (call_calls w0 _ g A c b b HI.out H0.out.1).mono ?_;rintro e w2 ⟨hk,hb,hm⟩;simp only[h0,pan] at hm;subst hm;have HE:=Aside0.mk (And.intro hk hb);clear hk hb)
  refine ⟨rfl,⟨HE.out.1.size,fun i hi hs=>HE.out.1.block i hi (fun e=>hs (.inl e))⟩,HE.out.2,⟨_,_,kb_blk HE.out.1 HNE.out.1.1 H0.out.2.1,kb_blk HE.out.1 HNE.out.1.2.1 H0.out.2.2⟩,?_⟩;rw[HQ.out];rfl
 ·go_upto_region 1 with (go_at_call 83;refine (call_calls w0 _ g A c b b HI.out H0.out.1).mono ?_;rintro e w2 ⟨hk,hb,hm⟩;simp only[h0] at hm;obtain ⟨rfl,hs1⟩:=hm;have HX:=Aside0.mk (kb_blk hk HNE.out.1.1 H0.out.2.1);have HY:=Aside0.mk (kb_blk hk HNE.out.1.2.1 H0.out.2.2);have HK:=Aside0.mk (And.intro hk hs1);clear hk hb hs1;have kc0:w2.cell? ⟨cb,0,none⟩=some (.int .i64 0):=(blk_cell HX.out 0).trans rfl;have kc1:w2.cell? ⟨cb,1,none⟩=some (.int .i64 0):=(blk_cell HX.out 1).trans rfl;have kf0:=blk_frozen HX.out 0;have kf1:=blk_frozen HX.out 1)
  obtain ⟨w3,hw3⟩:∃ w3,w3=(w2.setCell ⟨cb,0,none⟩ (.int .i64 x.f0)).setCell ⟨cb,1,none⟩ (.int .i64 x.f1):=⟨_,rfl⟩;have hbk:=blk_set (blk_set HX.out 0 (.int .i64 x.f0)) 1 (.int .i64 x.f1);have hby:=blk_far (blk_far HY.out HNE.out.1.2.2 0 (.int .i64 x.f0)) HNE.out.1.2.2 1 (.int .i64 x.f1)
  have H1 : Aside0 (Ks (fun k => k = g ∨ k = cb ∨ k = db) w1 w3 ∧ RS w0 w3 g A c b l1 ∧ w3.heap[cb]? = some (.cells (CVc x) 27 (0, 0)) ∧ w3.heap[db]? = some (.cells (OVc zOp) 29 (0, 0))) := ⟨by
    rw[hw3];exact ⟨Ks.set (Ks.set ⟨HK.out.1.size,fun i hi hs=>HK.out.1.block i hi (fun e=>hs (.inl e))⟩ _ _ _ (.inl (.inr (.inl rfl)))) _ _ _ (.inl (.inr (.inl rfl))),(HK.out.2.setOther HNE.out.1.1 HNE.out.2.1 0 _).setOther HNE.out.1.1 HNE.out.2.1 1 _,hbk,hby⟩⟩
  rw[←hw3];clear hw3 hbk hby HX HY HK kc0 kc1 kf0 kf1;rcases h1:opP l1 with n0|⟨o,l2⟩
  ·have HQ:Aside0 (reqP b = .bad n0):=⟨by rw[HP.out,bnd_ok h0,bnd_bad h1]⟩;go_wp2_with (go_at_call 84;refine (op_calls w0 _ g A c b l1 HI.out H1.out.2.1).mono ?_;rintro e w4 ⟨hk,hb,hm⟩;simp only[h1,pan] at hm;subst hm;have HE:=Aside0.mk (And.intro hk hb);clear hk hb)
   refine ⟨rfl,H1.out.1.trans ⟨HE.out.1.size,fun i hi hs=>HE.out.1.block i hi (fun e=>hs (.inl e))⟩,HE.out.2,⟨_,_,kb_blk HE.out.1 HNE.out.1.1 H1.out.2.2.1,kb_blk HE.out.1 HNE.out.1.2.1 H1.out.2.2.2⟩,?_⟩;rw[HQ.out];rfl
  ·have HQ:Aside0 (reqP b = .ok (x,o) l2):=⟨by rw[HP.out,bnd_ok h0,bnd_ok h1];rfl⟩;go_wp2_with (go_at_call 84;refine (op_calls w0 _ g A c b l1 HI.out H1.out.2.1).mono ?_;rintro e w4 ⟨hk,hb,hm⟩;simp only[h1] at hm;obtain ⟨rfl,hs1⟩:=hm;have HX:=Aside0.mk (kb_blk hk HNE.out.1.1 H1.out.2.2.1);have HY:=Aside0.mk (kb_blk hk HNE.out.1.2.1 H1.out.2.2.2);have HK:=Aside0.mk (And.intro hk hs1);clear hk hb hs1;have kc0:w4.cell? ⟨db,0,none⟩=some (.int .i64 0):=(blk_cell HY.out 0).trans rfl;have kc1:w4.cell? ⟨db,1,none⟩=some (.string eB):=(blk_cell HY.out 1).trans rfl;have kc2:w4.cell? ⟨db,2,none⟩=some (.int .i64 0):=(blk_cell HY.out 2).trans rfl;have kc3:w4.cell? ⟨db,3,none⟩=some (.int .i64 0):=(blk_cell HY.out 3).trans rfl;have kf0:=blk_frozen HY.out 0;have kf1:=blk_frozen HY.out 1;have kf2:=blk_frozen HY.out 2;have kf3:=blk_frozen HY.out 3)
   (first|go_end0|((try simp only[Exit.inBlock,Exit.then]);refine bodyPost_ret (results_none rfl _ _ _) rfl ?_))
   have hbk:=blk_set (blk_set (blk_set (blk_set HY.out 0 (.int .i64 o.kind)) 1 (.string o.name)) 2 (.int .i64 o.a)) 3 (.int .i64 o.b);have hbx:=blk_far (blk_far (blk_far (blk_far HX.out (Ne.symm HNE.out.1.2.2) 0 (.int .i64 o.kind)) (Ne.symm HNE.out.1.2.2) 1 (.string o.name)) (Ne.symm HNE.out.1.2.2) 2 (.int .i64 o.a)) (Ne.symm HNE.out.1.2.2) 3 (.int .i64 o.b);have hrs:=(((HK.out.2.setOther HNE.out.1.2.1 HNE.out.2.2 0 (.int .i64 o.kind)).setOther HNE.out.1.2.1 HNE.out.2.2 1 (.string o.name)).setOther HNE.out.1.2.1 HNE.out.2.2 2 (.int .i64 o.a)).setOther HNE.out.1.2.1 HNE.out.2.2 3 (.int .i64 o.b);refine ⟨H1.out.1.trans (Ks.set (Ks.set (Ks.set (Ks.set ⟨HK.out.1.size,fun i hi hs=>HK.out.1.block i hi (fun e=>hs (.inl e))⟩ _ _ _ (.inl (.inr (.inr rfl)))) _ _ _ (.inl (.inr (.inr rfl)))) _ _ _ (.inl (.inr (.inr rfl)))) _ _ _ (.inl (.inr (.inr rfl)))),hrs.bel,⟨x,o,hbx,hbk⟩,?_⟩;rw[HQ.out];exact ⟨rfl,hrs,hbx,hbk⟩
theorem results_two_two {P:Program} {fn:Func} {p p2 q r:Tmp} {ty ty2:TypeId} (h:fn.results = #[.cell p ty,.cell p2 ty2,.tmp q,.tmp r]) (tmps:Array Value) (w:World) (g g2:Nat) (t t2:TypeId) (cs cs2:Array Value) (fr fr2:Nat×Nat) (d d2:TypeDesc)
  (hp:tmps.getD p undef = .pointer (some ⟨g,0,none⟩)) (hg:w.heap[g]?=some (.cells cs t fr))
  (hu:P.underlying ty=some d) (hd:(match d with | .struct _ | .array _ _=>true|_=>false)=true) (hi:(P.info? ty).map (·.size)=some cs.size)
  (hp2:tmps.getD p2 undef = .pointer (some ⟨g2,0,none⟩)) (hg2:w.heap[g2]?=some (.cells cs2 t2 fr2))
  (hu2:P.underlying ty2=some d2) (hd2:(match d2 with | .struct _ | .array _ _=>true|_=>false)=true) (hi2:(P.info? ty2).map (·.size)=some cs2.size):
  (results fn tmps).run P w = .ok (.tuple #[.agg cs,.agg cs2,tmps.getD q undef,tmps.getD r undef]) w:=by
 have hp':tmps[p]?.getD undef = .pointer (some ⟨g,0,none⟩):=by simpa using hp
 have hp2':tmps[p2]?.getD undef = .pointer (some ⟨g2,0,none⟩):=by simpa using hp2
 simp[results,h,hp',hp2',asAddr,run_loadVar_row w g t ty cs fr d hg hu hd hi,run_loadVar_row w g2 t2 ty2 cs2 fr2 d2 hg2 hu2 hd2 hi2]
theorem blk_as {w:World} {g:Nat} {t:TypeId} {cs cs2:Array Value} (h:w.heap[g]?=some (.cells cs t (0,0))) (e:cs=cs2):w.drew.heap[g]?=some (.cells cs2 t (0,0)):=e ▸ h
def DecQP (w:World) (y:(S25×Sp.Op)×Int×Int) (e:Ending) (w':World):Prop:=
 Below w.heap.size w w'∧e = .returned (.tuple #[.agg (CVc y.1.1),.agg (OVc y.1.2),.int .i64 y.2.1,.int .i64 y.2.2])
theorem decreq_calls (w : World) (A : Option Addr) (c : Nat) (b : List Int) (hi : In w A c b) :
    Calls Try.prog 33 #[.slice A b.length c] w fun e w'=>DecQP w (whole (z25,zOp) reqP b) e w':=by
  have hmf:∀ (fn:Fn) (first cap:Array Value) (w:World),(Instr.makeFunc fn first cap).run Try.prog w = .ok (.func fn first cap) w:=fun _ _ _ _=>rfl;obtain ⟨wa,hwa⟩:∃ wa,wa=(w.alloc (.cells #[.int .i64 0,.int .i64 0] 27 (0,0))).alloc (.cells #[.int .i64 0,.string ⟨#[]⟩,.int .i64 0,.int .i64 0] 29 (0,0)):=⟨_,rfl⟩;have HWA:=Aside0.mk hwa
  have HB:Aside0 (Below w.heap.size w wa∧wa.heap.size=w.heap.size+1+1∧wa.heap[w.heap.size]?=some (.cells (CVc z25) 27 (0,0))∧wa.heap[w.heap.size+1]?=some (.cells (OVc zOp) 29 (0,0))):=⟨by
   rw[hwa];refine ⟨below_al2 w _ _,by simp,(Below.heap_alloc _ _ _ (by simp)).trans (heap_alloc_new w _),?_⟩;have:=heap_alloc_new (w.alloc (.cells #[.int .i64 0,.int .i64 0] 27 (0,0))) (.cells #[.int .i64 0,.string ⟨#[]⟩,.int .i64 0,.int .i64 0] 29 (0,0))
   simpa [OVc,zOp,eB] using this⟩
  have HRD : Aside0 (Calls Try.prog 59 #[.slice A b.length c, .func (Fn.func 82) #[] #[.pointer (some ⟨w.heap.size, 0, none⟩), .pointer (some ⟨w.heap.size + 1, 0, none⟩)]] wa fun e w' => ReadP w wa (fun k => k = w.heap.size ∨ k = w.heap.size + 1) b (reqP b) (YQ w.heap.size (w.heap.size + 1)) (XQ w.heap.size (w.heap.size + 1)) e w') := ⟨by
    have hsz:=HB.out.2.1;refine read_req w.heap.size (w.heap.size+1) w wa A c b _ (reqP b) _ _ hi HB.out.1 (fun k hk=>by omega) (fun k hk=>by omega) (stable_YQ (by omega) (by omega)) (fun m=>stable_XQ (by omega) (by omega) m) ?_;intro w1 hb1 hs1 hr1;exact req1_calls w w1 _ w.heap.size (w.heap.size+1) A c b hi hr1 ⟨by omega,by omega,by omega⟩ ⟨by omega,by omega⟩ (blk_keep hb1 HB.out.2.2.1) (blk_keep hb1 HB.out.2.2.2)⟩
  have hu29:=Try.underlying29;have hu27:=Try.underlying27;have hne:w.heap.size≠w.heap.size+1:=by omega
  clear hwa hi;go_enter Try.func33,Try.ntmps33
  go_upto_region 1 with fail
  rw[←HWA.out];go_upto_region 2 with (go_at_call 59;refine HRD.out.mono ?_;rintro e w2 ⟨hks,hbl,hy,pt,er,rfl,hm⟩;have HK:=Aside0.mk (And.intro hks (And.intro hbl (And.intro hy hm)));clear hks hbl hy hm)
  rcases hp:reqP b with k|⟨⟨x,o⟩,l⟩
  ·have HW:Aside0 (whole (z25,zOp) reqP b=((z25,zOp),(b.length:Int) - k,20)):=⟨by unfold whole;rw[hp]⟩;rw[hp] at HK;(try obtain ⟨rfl,rfl⟩:=HK.out.2.2.2)
   obtain ⟨x,o,hx,ho⟩:=HK.out.2.2.1;have HX:=Aside0.mk (And.intro hx ho);clear hx ho;have kc0:w2.cell? ⟨w.heap.size,0,none⟩=some (.int .i64 x.f0):=(blk_cell HX.out.1 0).trans rfl;have kc1:w2.cell? ⟨w.heap.size,1,none⟩=some (.int .i64 x.f1):=(blk_cell HX.out.1 1).trans rfl;have kf0:=blk_frozen HX.out.1 0;have kf1:=blk_frozen HX.out.1 1;have ko0:w2.cell? ⟨w.heap.size+1,0,none⟩=some (.int .i64 o.kind):=(blk_cell HX.out.2 0).trans rfl;have ko1:w2.cell? ⟨w.heap.size+1,1,none⟩=some (.string o.name):=(blk_cell HX.out.2 1).trans rfl;have ko2:w2.cell? ⟨w.heap.size+1,2,none⟩=some (.int .i64 o.a):=(blk_cell HX.out.2 2).trans rfl;have ko3:w2.cell? ⟨w.heap.size+1,3,none⟩=some (.int .i64 o.b):=(blk_cell HX.out.2 3).trans rfl;have kg0:=blk_frozen HX.out.2 0;have kg1:=blk_frozen HX.out.2 1;have kg2:=blk_frozen HX.out.2 2;have kg3:=blk_frozen HX.out.2 3;go_upto_region 4 with fail
   obtain ⟨w3,hw3⟩:∃ w3,w3=(((((w2.setCell ⟨w.heap.size,0,none⟩ (.int .i64 0)).setCell ⟨w.heap.size,1,none⟩ (.int .i64 0)).setCell ⟨w.heap.size+1,0,none⟩ (.int .i64 0)).setCell ⟨w.heap.size+1,1,none⟩ (.string ⟨#[]⟩)).setCell ⟨w.heap.size+1,2,none⟩ (.int .i64 0)).setCell ⟨w.heap.size+1,3,none⟩ (.int .i64 0):=⟨_,rfl⟩;have hq1:=blk_far (g:=w.heap.size+1) (blk_far (g:=w.heap.size+1) (blk_far (g:=w.heap.size+1) (blk_far (g:=w.heap.size+1) (blk_set (blk_set HX.out.1 0 (.int .i64 0)) 1 (.int .i64 0)) (Ne.symm hne) 0 (.int .i64 0)) (Ne.symm hne) 1 (.string ⟨#[]⟩)) (Ne.symm hne) 2 (.int .i64 0)) (Ne.symm hne) 3 (.int .i64 0);have hq2:=blk_set (blk_set (blk_set (blk_set (blk_far (g:=w.heap.size) (blk_far (g:=w.heap.size) HX.out.2 hne 0 (.int .i64 0)) hne 1 (.int .i64 0)) 0 (.int .i64 0)) 1 (.string ⟨#[]⟩)) 2 (.int .i64 0)) 3 (.int .i64 0);have H3:Aside0 (w3.heap[w.heap.size]?=some (.cells (CVc z25) 27 (0,0))∧w3.heap[w.heap.size+1]?=some (.cells (OVc zOp) 29 (0,0))):=⟨by rw[hw3];exact ⟨hq1,hq2⟩⟩;have HB3:Aside0 (Below w.heap.size w w3):=⟨by rw[hw3];exact (((((HK.out.2.1.setCell (Nat.le_refl _) _).setCell (Nat.le_refl _) _).setCell (Nat.le_succ _) _).setCell (Nat.le_succ _) _).setCell (Nat.le_succ _) _).setCell (Nat.le_succ _) _⟩;rw[←hw3];clear hw3 hq1 hq2 kc0 kc1 kf0 kf1 ko0 ko1 ko2 ko3 kg0 kg1 kg2 kg3;have kc0:w3.cell? ⟨w.heap.size,0,none⟩=some (.int .i64 0):=(blk_cell H3.out.1 0).trans rfl;have kc1:w3.cell? ⟨w.heap.size,1,none⟩=some (.int .i64 0):=(blk_cell H3.out.1 1).trans rfl;have kf0:=blk_frozen H3.out.1 0;have kf1:=blk_frozen H3.out.1 1;have ko0:w3.cell? ⟨w.heap.size+1,0,none⟩=some (.int .i64 0):=(blk_cell H3.out.2 0).trans rfl;have ko1:w3.cell? ⟨w.heap.size+1,1,none⟩=some (.string ⟨#[]⟩):=(blk_cell H3.out.2 1).trans rfl;have ko2:w3.cell? ⟨w.heap.size+1,2,none⟩=some (.int .i64 0):=(blk_cell H3.out.2 2).trans rfl;have ko3:w3.cell? ⟨w.heap.size+1,3,none⟩=some (.int .i64 0):=(blk_cell H3.out.2 3).trans rfl;have kg0:=blk_frozen H3.out.2 0;have kg1:=blk_frozen H3.out.2 1;have kg2:=blk_frozen H3.out.2 2;have kg3:=blk_frozen H3.out.2 3;go_region
   all_goals go_wp2
   all_goals (try simp only[Exit.inBlock,Exit.then])
   all_goals
    have he1:=blk_far (g:=w.heap.size+1) (blk_far (g:=w.heap.size+1) (blk_far (g:=w.heap.size+1) (blk_far (g:=w.heap.size+1) (blk_set (blk_set H3.out.1 0 (.int .i64 0)) 1 (.int .i64 0)) (Ne.symm hne) 0 (.int .i64 0)) (Ne.symm hne) 1 (.string ⟨#[]⟩)) (Ne.symm hne) 2 (.int .i64 0)) (Ne.symm hne) 3 (.int .i64 0);have he2:=blk_set (blk_set (blk_set (blk_set (blk_far (g:=w.heap.size) (blk_far (g:=w.heap.size) H3.out.2 hne 0 (.int .i64 0)) hne 1 (.int .i64 0)) 0 (.int .i64 0)) 1 (.string ⟨#[]⟩)) 2 (.int .i64 0)) 3 (.int .i64 0);refine bodyPost_ret (v := .tuple #[.agg (CVc z25),.agg (OVc zOp),.int .i64 ((b.length:Int) - k),.int .i64 20]) ?_ rfl ?_
    ·exact results_two_two (fn:=Try.f33) (p:=2) (p2:=3) (q:=4) (r:=5) rfl _ _ w.heap.size (w.heap.size+1) 27 29 _ _ (0,0) (0,0) _ _ (by rfl) (blk_as he1 (cs2:=CVc z25) rfl) hu27 rfl inf27 (by rfl) (blk_as he2 (cs2:=OVc zOp) rfl) hu29 rfl inf29
    refine ⟨Below.drew ((((((HB3.out.setCell (Nat.le_refl _) _).setCell (Nat.le_refl _) _).setCell (Nat.le_succ _) _).setCell (Nat.le_succ _) _).setCell (Nat.le_succ _) _).setCell (Nat.le_succ _) _),?_⟩;rw[HW.out]
  ·rcases l with _|⟨d,l⟩
   ·have HW:Aside0 (whole (z25,zOp) reqP b=((x,o),0,0)):=⟨by unfold whole;rw[hp]⟩;rw[hp] at HK;obtain ⟨hpt,her,hbk⟩:=HK.out.2.2.2;subst hpt her;have HX:=Aside0.mk (show w2.heap[w.heap.size]?=some (.cells (CVc x) 27 (0,0))∧w2.heap[w.heap.size+1]?=some (.cells (OVc o) 29 (0,0)) from hbk);clear hbk;have kc0:w2.cell? ⟨w.heap.size,0,none⟩=some (.int .i64 x.f0):=(blk_cell HX.out.1 0).trans rfl;have kc1:w2.cell? ⟨w.heap.size,1,none⟩=some (.int .i64 x.f1):=(blk_cell HX.out.1 1).trans rfl;have kf0:=blk_frozen HX.out.1 0;have kf1:=blk_frozen HX.out.1 1;have ko0:w2.cell? ⟨w.heap.size+1,0,none⟩=some (.int .i64 o.kind):=(blk_cell HX.out.2 0).trans rfl;have ko1:w2.cell? ⟨w.heap.size+1,1,none⟩=some (.string o.name):=(blk_cell HX.out.2 1).trans rfl;have ko2:w2.cell? ⟨w.heap.size+1,2,none⟩=some (.int .i64 o.a):=(blk_cell HX.out.2 2).trans rfl;have ko3:w2.cell? ⟨w.heap.size+1,3,none⟩=some (.int .i64 o.b):=(blk_cell HX.out.2 3).trans rfl;have kg0:=blk_frozen HX.out.2 0;have kg1:=blk_frozen HX.out.2 1;have kg2:=blk_frozen HX.out.2 2;have kg3:=blk_frozen HX.out.2 3;go_upto_region 4 with fail
    go_region
    all_goals go_wp2
    all_goals (try simp only[Exit.inBlock,Exit.then])
    all_goals
     have he1:=blk_far (g:=w.heap.size+1) (blk_far (g:=w.heap.size+1) (blk_far (g:=w.heap.size+1) (blk_far (g:=w.heap.size+1) (blk_set (blk_set HX.out.1 0 (.int .i64 x.f0)) 1 (.int .i64 x.f1)) (Ne.symm hne) 0 (.int .i64 o.kind)) (Ne.symm hne) 1 (.string o.name)) (Ne.symm hne) 2 (.int .i64 o.a)) (Ne.symm hne) 3 (.int .i64 o.b);have he2:=blk_set (blk_set (blk_set (blk_set (blk_far (g:=w.heap.size) (blk_far (g:=w.heap.size) HX.out.2 hne 0 (.int .i64 x.f0)) hne 1 (.int .i64 x.f1)) 0 (.int .i64 o.kind)) 1 (.string o.name)) 2 (.int .i64 o.a)) 3 (.int .i64 o.b);refine bodyPost_ret (v := .tuple #[.agg (CVc x),.agg (OVc o),.int .i64 (0),.int .i64 0]) ?_ rfl ?_
     ·exact results_two_two (fn:=Try.f33) (p:=2) (p2:=3) (q:=4) (r:=5) rfl _ _ w.heap.size (w.heap.size+1) 27 29 _ _ (0,0) (0,0) _ _ (by rfl) (blk_as he1 (cs2:=CVc x) rfl) hu27 rfl inf27 (by rfl) (blk_as he2 (cs2:=OVc o) rfl) hu29 rfl inf29
     refine ⟨Below.drew ((((((HK.out.2.1.setCell (Nat.le_refl _) _).setCell (Nat.le_refl _) _).setCell (Nat.le_succ _) _).setCell (Nat.le_succ _) _).setCell (Nat.le_succ _) _).setCell (Nat.le_succ _) _),?_⟩;rw[HW.out]
   ·have HW:Aside0 (whole (z25,zOp) reqP b=((z25,zOp),(b.length:Int) - (l.length+1),20)):=⟨by unfold whole;rw[hp]⟩;rw[hp] at HK;(try obtain ⟨rfl,rfl⟩:=HK.out.2.2.2)
    obtain ⟨x2,o2,hx,ho⟩:=HK.out.2.2.1;have HX:=Aside0.mk (And.intro hx ho);clear hx ho;have kc0:w2.cell? ⟨w.heap.size,0,none⟩=some (.int .i64 x2.f0):=(blk_cell HX.out.1 0).trans rfl;have kc1:w2.cell? ⟨w.heap.size,1,none⟩=some (.int .i64 x2.f1):=(blk_cell HX.out.1 1).trans rfl;have kf0:=blk_frozen HX.out.1 0;have kf1:=blk_frozen HX.out.1 1;have ko0:w2.cell? ⟨w.heap.size+1,0,none⟩=some (.int .i64 o2.kind):=(blk_cell HX.out.2 0).trans rfl;have ko1:w2.cell? ⟨w.heap.size+1,1,none⟩=some (.string o2.name):=(blk_cell HX.out.2 1).trans rfl;have ko2:w2.cell? ⟨w.heap.size+1,2,none⟩=some (.int .i64 o2.a):=(blk_cell HX.out.2 2).trans rfl;have ko3:w2.cell? ⟨w.heap.size+1,3,none⟩=some (.int .i64 o2.b):=(blk_cell HX.out.2 3).trans rfl;have kg0:=blk_frozen HX.out.2 0;have kg1:=blk_frozen HX.out.2 1;have kg2:=blk_frozen HX.out.2 2;have kg3:=blk_frozen HX.out.2 3;go_upto_region 4 with fail
    obtain ⟨w3,hw3⟩:∃ w3,w3=(((((w2.setCell ⟨w.heap.size,0,none⟩ (.int .i64 0)).setCell ⟨w.heap.size,1,none⟩ (.int .i64 0)).setCell ⟨w.heap.size+1,0,none⟩ (.int .i64 0)).setCell ⟨w.heap.size+1,1,none⟩ (.string ⟨#[]⟩)).setCell ⟨w.heap.size+1,2,none⟩ (.int .i64 0)).setCell ⟨w.heap.size+1,3,none⟩ (.int .i64 0):=⟨_,rfl⟩;have hq1:=blk_far (g:=w.heap.size+1) (blk_far (g:=w.heap.size+1) (blk_far (g:=w.heap.size+1) (blk_far (g:=w.heap.size+1) (blk_set (blk_set HX.out.1 0 (.int .i64 0)) 1 (.int .i64 0)) (Ne.symm hne) 0 (.int .i64 0)) (Ne.symm hne) 1 (.string ⟨#[]⟩)) (Ne.symm hne) 2 (.int .i64 0)) (Ne.symm hne) 3 (.int .i64 0);have hq2:=blk_set (blk_set (blk_set (blk_set (blk_far (g:=w.heap.size) (blk_far (g:=w.heap.size) HX.out.2 hne 0 (.int .i64 0)) hne 1 (.int .i64 0)) 0 (.int .i64 0)) 1 (.string ⟨#[]⟩)) 2 (.int .i64 0)) 3 (.int .i64 0);have H3:Aside0 (w3.heap[w.heap.size]?=some (.cells (CVc z25) 27 (0,0))∧w3.heap[w.heap.size+1]?=some (.cells (OVc zOp) 29 (0,0))):=⟨by rw[hw3];exact ⟨hq1,hq2⟩⟩;have HB3:Aside0 (Below w.heap.size w w3):=⟨by rw[hw3];exact (((((HK.out.2.1.setCell (Nat.le_refl _) _).setCell (Nat.le_refl _) _).setCell (Nat.le_succ _) _).setCell (Nat.le_succ _) _).setCell (Nat.le_succ _) _).setCell (Nat.le_succ _) _⟩;rw[←hw3];clear hw3 hq1 hq2 kc0 kc1 kf0 kf1 ko0 ko1 ko2 ko3 kg0 kg1 kg2 kg3;have kc0:w3.cell? ⟨w.heap.size,0,none⟩=some (.int .i64 0):=(blk_cell H3.out.1 0).trans rfl;have kc1:w3.cell? ⟨w.heap.size,1,none⟩=some (.int .i64 0):=(blk_cell H3.out.1 1).trans rfl;have kf0:=blk_frozen H3.out.1 0;have kf1:=blk_frozen H3.out.1 1;have ko0:w3.cell? ⟨w.heap.size+1,0,none⟩=some (.int .i64 0):=(blk_cell H3.out.2 0).trans rfl;have ko1:w3.cell? ⟨w.heap.size+1,1,none⟩=some (.string ⟨#[]⟩):=(blk_cell H3.out.2 1).trans rfl;have ko2:w3.cell? ⟨w.heap.size+1,2,none⟩=some (.int .i64 0):=(blk_cell H3.out.2 2).trans rfl;have ko3:w3.cell? ⟨w.heap.size+1,3,none⟩=some (.int .i64 0):=(blk_cell H3.out.2 3).trans rfl;have kg0:=blk_frozen H3.out.2 0;have kg1:=blk_frozen H3.out.2 1;have kg2:=blk_frozen H3.out.2 2;have kg3:=blk_frozen H3.out.2 3;go_region
    all_goals go_wp2
    all_goals (try simp only[Exit.inBlock,Exit.then])
    all_goals
     have he1:=blk_far (g:=w.heap.size+1) (blk_far (g:=w.heap.size+1) (blk_far (g:=w.heap.size+1) (blk_far (g:=w.heap.size+1) (blk_set (blk_set H3.out.1 0 (.int .i64 0)) 1 (.int .i64 0)) (Ne.symm hne) 0 (.int .i64 0)) (Ne.symm hne) 1 (.string ⟨#[]⟩)) (Ne.symm hne) 2 (.int .i64 0)) (Ne.symm hne) 3 (.int .i64 0);have he2:=blk_set (blk_set (blk_set (blk_set (blk_far (g:=w.heap.size) (blk_far (g:=w.heap.size) H3.out.2 hne 0 (.int .i64 0)) hne 1 (.int .i64 0)) 0 (.int .i64 0)) 1 (.string ⟨#[]⟩)) 2 (.int .i64 0)) 3 (.int .i64 0);refine bodyPost_ret (v := .tuple #[.agg (CVc z25),.agg (OVc zOp),.int .i64 ((b.length:Int) - (l.length+1)),.int .i64 20]) ?_ rfl ?_
     ·exact results_two_two (fn:=Try.f33) (p:=2) (p2:=3) (q:=4) (r:=5) rfl _ _ w.heap.size (w.heap.size+1) 27 29 _ _ (0,0) (0,0) _ _ (by rfl) (blk_as he1 (cs2:=CVc z25) rfl) hu27 rfl inf27 (by rfl) (blk_as he2 (cs2:=OVc zOp) rfl) hu29 rfl inf29
     refine ⟨Below.drew ((((((HB3.out.setCell (Nat.le_refl _) _).setCell (Nat.le_refl _) _).setCell (Nat.le_succ _) _).setCell (Nat.le_succ _) _).setCell (Nat.le_succ _) _).setCell (Nat.le_succ _) _),?_⟩;rw[HW.out]
def SGc (f t q a:Int) (v:Value):Array Value := #[.int .i64 f,.int .i64 t,.int .i64 q,.int .i64 a,v]
def XS (n cb:Nat) (s:Seg) (w:World):Prop:=∃ v,w.heap[cb]?=some (.cells (SGc s.src s.dst s.seq s.ack v) 47 (0,0))∧Kd.R (Kd.int .u8) 5 w n (fun _=>True) v s.data
theorem R_keep2 {w1 w2:World} {m:Nat} {v:Value} {xs:List Int} (h:Kd.R (Kd.int .u8) 5 w1 m (fun _=>True) v xs) (hk:∀ k,k<w1.heap.size→m≤k→w2.heap[k]?=w1.heap[k]?):Kd.R (Kd.int .u8) 5 w2 m (fun _=>True) v xs:=
 Kd.R_mono (Kd.R_move (Kd.R_bound h) (fun k hk2=>hk k hk2.2.2.1 hk2.2.1)) (fun _ _=>trivial)
theorem stable_XS {n cb:Nat} (h:cb<n) (s:Seg):Stable n (XS (n+1+1) cb s):=by
 rintro w1 w2 ⟨v,h3,h4⟩ hk hsz;exact ⟨v,(hk cb (blk_lt h3) (by omega) (by omega)).trans h3,R_keep2 h4 (fun k h1 h2=>hk k h1 (by omega) (by omega))⟩
theorem takeP_len {n:Nat} {l x r:List Int} (h:takeP n l = .ok x r):x.length=n:=by
 unfold takeP at h
 split at h
 ·cases h
 ·cases h
  rw[List.length_take];omega
theorem seg1_calls (w0 w1 : World) (g cb n : Nat) (A : Option Addr) (c : Nat) (b : List Int) (hi : In w0 A c b) (h : RS w0 w1 g A c b b) (hne : cb ≠ g) (hge : w0.heap.size ≤ cb) (hn : n ≤ w1.heap.size) (hy : w1.heap[cb]? = some (.cells (SGc 0 0 0 0 (.slice none 0 0)) 47 (0, 0))) :
    Calls Try.prog 79 #[.pointer (some ⟨g,0,none⟩),.pointer (some ⟨cb,0,none⟩)] w1 fun e w'=>Fld w0 w1 g (fun k=>k=cb) A c b (segP b) (YB cb 47 5) (XS n cb) e w':=by
  have HI:=Aside0.mk hi;have HNE:=Aside0.mk (And.intro hne (And.intro hge hn));have H0:Aside0 (Ks (fun k=>k=g∨k=cb) w1 w1∧RS w0 w1 g A c b b∧w1.heap[cb]?=some (.cells (SGc 0 0 0 0 (.slice none 0 0)) 47 (0,0))):=⟨⟨Nat.le_refl _,fun _ _ _=>rfl⟩,h,hy⟩;have HP:Aside0 (segP b=(bnd (numP 0 15) fun f=>bnd (numP 0 15) fun t=>bnd (numP 0 big) fun q=>bnd (numP 0 big) fun a=>bnd (numP (if q=0 then 0 else 1) (if q=0 then 0 else 4000)) fun n=>bnd (takeP n.toNat) fun d=>ret ⟨f,t,q,a,d⟩) b):=⟨rfl⟩;rw[show (big:Int)=1099511627776 from rfl] at HP;have hu47:=Try.underlying47;clear hi h hne hge hn hy;go_enter Try.func79,Try.ntmps79
  rcases h0:numP 0 15 b with n0|⟨f,l1⟩
  ·have HQ:Aside0 (segP b = .bad n0):=⟨by rw[HP.out,bnd_bad h0]⟩;go_wp2_with (go_at_call 80;refine (num_calls w0 _ g A c b b 0 15 (by decide) (by decide) (by decide) HI.out H0.out.2.1).mono ?_;rintro e we ⟨hk,hb,hm⟩;simp only[h0,pan] at hm;subst hm;have HE:=Aside0.mk (And.intro hk hb);clear hk hb)
   refine ⟨rfl,H0.out.1.trans ⟨HE.out.1.size,fun i hi hs=>HE.out.1.block i hi (fun e=>hs (.inl e))⟩,HE.out.2,⟨_,kb_blk HE.out.1 HNE.out.1 H0.out.2.2,rfl⟩,?_⟩;rw[HQ.out];rfl
  · rcases h1 : numP 0 15 l1 with n0 | ⟨t, l2⟩
    ·have HQ:Aside0 (segP b = .bad n0):=⟨by rw[HP.out,bnd_ok h0,bnd_bad h1]⟩;go_wp2_with (first|(go_at_call 80;refine (num_calls w0 _ g A c b l1 0 15 (by decide) (by decide) (by decide) HI.out HK.out.2).mono ?_;rintro e we ⟨hk,hb,hm⟩;simp only[h1,pan] at hm;subst hm;have HE:=Aside0.mk (And.intro hk hb);clear hk hb)|(go_at_call 80;refine (num_calls w0 _ g A c b b 0 15 (by decide) (by decide) (by decide) HI.out H0.out.2.1).mono ?_;rintro e wa ⟨hk,hb,hm⟩;simp only[h0] at hm;obtain ⟨rfl,hs1⟩:=hm;have HX:=Aside0.mk (kb_blk hk HNE.out.1 H0.out.2.2);have HK:=Aside0.mk (And.intro hk hs1);clear hk hb hs1))
     refine ⟨rfl,H0.out.1.trans (Ks.trans ⟨HK.out.1.size,fun i hi hs=>HK.out.1.block i hi (fun e=>hs (.inl e))⟩ ⟨HE.out.1.size,fun i hi hs=>HE.out.1.block i hi (fun e=>hs (.inl e))⟩),HE.out.2,⟨_,kb_blk HE.out.1 HNE.out.1 HX.out,rfl⟩,?_⟩;rw[HQ.out];rfl
    ·go_upto_region 1 with (first|(go_at_call 80;refine (num_calls w0 _ g A c b l1 0 15 (by decide) (by decide) (by decide) HI.out HK.out.2).mono ?_;rintro e wb ⟨hk,hb,hm⟩;simp only[h1] at hm;obtain ⟨rfl,hs1⟩:=hm;have HX2:=Aside0.mk (kb_blk hk HNE.out.1 HX.out);have HK2:=Aside0.mk (And.intro (HK.out.1.trans hk) hs1);clear hk hb hs1;have kc0:wb.cell? ⟨cb,0,none⟩=some (.int .i64 0):=(blk_cell HX2.out 0).trans rfl;have kf0:=blk_frozen HX2.out 0;have kc1:wb.cell? ⟨cb,1,none⟩=some (.int .i64 0):=(blk_cell HX2.out 1).trans rfl;have kf1:=blk_frozen HX2.out 1)|(go_at_call 80;refine (num_calls w0 _ g A c b b 0 15 (by decide) (by decide) (by decide) HI.out H0.out.2.1).mono ?_;rintro e wa ⟨hk,hb,hm⟩;simp only[h0] at hm;obtain ⟨rfl,hs1⟩:=hm;have HX:=Aside0.mk (kb_blk hk HNE.out.1 H0.out.2.2);have HK:=Aside0.mk (And.intro hk hs1);clear hk hb hs1))
     obtain ⟨w2,hw2⟩:∃ w2,w2=(wb.setCell ⟨cb,0,none⟩ (.int .i64 f)).setCell ⟨cb,1,none⟩ (.int .i64 t):=⟨_,rfl⟩;have hbk:=blk_set (blk_set HX2.out 0 (.int .i64 f)) 1 (.int .i64 t)
     have H1 : Aside0 (Ks (fun k => k = g ∨ k = cb) w1 w2 ∧ RS w0 w2 g A c b l2 ∧ w2.heap[cb]? = some (.cells (SGc f t 0 0 (.slice none 0 0)) 47 (0, 0))) := ⟨by
       rw[hw2];exact ⟨H0.out.1.trans (Ks.set (Ks.set ⟨HK2.out.1.size,fun i hi hs=>HK2.out.1.block i hi (fun e=>hs (.inl e))⟩ _ _ _ (.inl (.inr rfl))) _ _ _ (.inl (.inr rfl))),(HK2.out.2.setOther HNE.out.1 HNE.out.2.1 0 _).setOther HNE.out.1 HNE.out.2.1 1 _,hbk⟩⟩
     rw[←hw2];clear hw2 hbk HX HX2 HK HK2 kc0 kc1 kf0 kf1;rcases h2:numP 0 1099511627776 l2 with n0|⟨q,l3⟩
     ·have HQ:Aside0 (segP b = .bad n0):=⟨by rw[HP.out,bnd_ok h0,bnd_ok h1,bnd_bad h2]⟩;go_wp2_with (go_at_call 80;refine (num_calls w0 _ g A c b l2 0 1099511627776 (by decide) (by decide) (by decide) HI.out H1.out.2.1).mono ?_;rintro e we ⟨hk,hb,hm⟩;simp only[h2,pan] at hm;subst hm;have HE:=Aside0.mk (And.intro hk hb);clear hk hb)
      refine ⟨rfl,H1.out.1.trans ⟨HE.out.1.size,fun i hi hs=>HE.out.1.block i hi (fun e=>hs (.inl e))⟩,HE.out.2,⟨_,kb_blk HE.out.1 HNE.out.1 H1.out.2.2,rfl⟩,?_⟩;rw[HQ.out];rfl
     ·rcases h3:numP 0 1099511627776 l3 with n0|⟨a,l4⟩
      ·have HQ:Aside0 (segP b = .bad n0):=⟨by rw[HP.out,bnd_ok h0,bnd_ok h1,bnd_ok h2,bnd_bad h3]⟩;go_wp2_with (first|(go_at_call 80;refine (num_calls w0 _ g A c b l3 0 1099511627776 (by decide) (by decide) (by decide) HI.out HK.out.2).mono ?_;rintro e we ⟨hk,hb,hm⟩;simp only[h3,pan] at hm;subst hm;have HE:=Aside0.mk (And.intro hk hb);clear hk hb)|(go_at_call 80;refine (num_calls w0 _ g A c b l2 0 1099511627776 (by decide) (by decide) (by decide) HI.out H1.out.2.1).mono ?_;rintro e wa ⟨hk,hb,hm⟩;simp only[h2] at hm;obtain ⟨rfl,hs1⟩:=hm;have HX:=Aside0.mk (kb_blk hk HNE.out.1 H1.out.2.2);have HK:=Aside0.mk (And.intro hk hs1);clear hk hb hs1))
       refine ⟨rfl,H1.out.1.trans (Ks.trans ⟨HK.out.1.size,fun i hi hs=>HK.out.1.block i hi (fun e=>hs (.inl e))⟩ ⟨HE.out.1.size,fun i hi hs=>HE.out.1.block i hi (fun e=>hs (.inl e))⟩),HE.out.2,⟨_,kb_blk HE.out.1 HNE.out.1 HX.out,rfl⟩,?_⟩;rw[HQ.out];rfl
      ·go_upto_region 2 with (first|(go_at_call 80;refine (num_calls w0 _ g A c b l3 0 1099511627776 (by decide) (by decide) (by decide) HI.out HK.out.2).mono ?_;rintro e wb ⟨hk,hb,hm⟩;simp only[h3] at hm;obtain ⟨rfl,hs1⟩:=hm;have HX2:=Aside0.mk (kb_blk hk HNE.out.1 HX.out);have HK2:=Aside0.mk (And.intro (HK.out.1.trans hk) hs1);clear hk hb hs1;have kc0:wb.cell? ⟨cb,2,none⟩=some (.int .i64 0):=(blk_cell HX2.out 2).trans rfl;have kf0:=blk_frozen HX2.out 2;have kc1:wb.cell? ⟨cb,3,none⟩=some (.int .i64 0):=(blk_cell HX2.out 3).trans rfl;have kf1:=blk_frozen HX2.out 3)|(go_at_call 80;refine (num_calls w0 _ g A c b l2 0 1099511627776 (by decide) (by decide) (by decide) HI.out H1.out.2.1).mono ?_;rintro e wa ⟨hk,hb,hm⟩;simp only[h2] at hm;obtain ⟨rfl,hs1⟩:=hm;have HX:=Aside0.mk (kb_blk hk HNE.out.1 H1.out.2.2);have HK:=Aside0.mk (And.intro hk hs1);clear hk hb hs1))
       obtain ⟨w3,hw3⟩:∃ w3,w3=(wb.setCell ⟨cb,2,none⟩ (.int .i64 q)).setCell ⟨cb,3,none⟩ (.int .i64 a):=⟨_,rfl⟩;have hbk:=blk_set (blk_set HX2.out 2 (.int .i64 q)) 3 (.int .i64 a)
       have H2 : Aside0 (Ks (fun k => k = g ∨ k = cb) w1 w3 ∧ RS w0 w3 g A c b l4 ∧ w3.heap[cb]? = some (.cells (SGc f t q a (.slice none 0 0)) 47 (0, 0))) := ⟨by
         rw[hw3];exact ⟨H1.out.1.trans (Ks.set (Ks.set ⟨HK2.out.1.size,fun i hi hs=>HK2.out.1.block i hi (fun e=>hs (.inl e))⟩ _ _ _ (.inl (.inr rfl))) _ _ _ (.inl (.inr rfl))),(HK2.out.2.setOther HNE.out.1 HNE.out.2.1 2 _).setOther HNE.out.1 HNE.out.2.1 3 _,hbk⟩⟩
       rw[←hw3];clear hw3 hbk HX HX2 HK HK2 kc0 kc1 kf0 kf1;have kc2:w3.cell? ⟨cb,2,none⟩=some (.int .i64 q):=(blk_cell H2.out.2.2 2).trans rfl;have kf2:=blk_frozen H2.out.2.2 2;by_cases hz:q=0
       ·have hz2:(q == 0)=true:=by simp[hz]
        go_upto_region 5 with fail
        clear kc2 kf2;have HP5:Aside0 (segP b=(bnd (numP 0 0) fun n=>bnd (takeP n.toNat) fun d=>ret ⟨f,t,q,a,d⟩) l4):=⟨by rw[HP.out,bnd_ok h0,bnd_ok h1,bnd_ok h2,bnd_ok h3,if_pos hz,if_pos hz]⟩;rcases h4:numP 0 0 l4 with n0|⟨nn,l5⟩
        ·have HQ:Aside0 (segP b = .bad n0):=⟨by rw[HP5.out,bnd_bad h4]⟩;go_wp2_with (go_at_call 80;refine (num_calls w0 _ g A c b l4 0 0 (by decide) (by decide) (by decide) HI.out H2.out.2.1).mono ?_;rintro e we ⟨hk,hb,hm⟩;simp only[h4,pan] at hm;subst hm;have HE:=Aside0.mk (And.intro hk hb);clear hk hb)
         refine ⟨rfl,H2.out.1.trans ⟨HE.out.1.size,fun i hi hs=>HE.out.1.block i hi (fun e=>hs (.inl e))⟩,HE.out.2,⟨_,kb_blk HE.out.1 HNE.out.1 H2.out.2.2,rfl⟩,?_⟩;rw[HQ.out];rfl
        ·have hc:=(numP_codec 0 0 (by decide) (by decide)).one l4 nn l5 (H2.out.2.1.isB HI.out.isB) h4;obtain ⟨m,rfl⟩:∃ m:Nat,nn=(m:Int):=⟨nn.toNat,by omega⟩;have HM:Aside0 (m≤1000000):=⟨by omega⟩;have HM2:Aside0 (m≤4000):=⟨by omega⟩;clear hc;rcases h5:takeP m l5 with n0|⟨d,l6⟩
         ·have HQ:Aside0 (segP b = .bad n0):=⟨by rw[HP5.out,bnd_ok h4,Int.toNat_natCast,bnd_bad h5]⟩;go_wp2_with (first|(go_at_call 80;refine (num_calls w0 _ g A c b l4 0 0 (by decide) (by decide) (by decide) HI.out H2.out.2.1).mono ?_;rintro e wa ⟨hk,hb,hm⟩;simp only[h4] at hm;obtain ⟨rfl,hs1⟩:=hm;have HX:=Aside0.mk (kb_blk hk HNE.out.1 H2.out.2.2);have HK:=Aside0.mk (And.intro hk hs1);clear hk hb hs1)|(go_at_call 81;refine (bytes_calls w0 _ g A c b l5 m HM.out HI.out HK.out.2).mono ?_;rintro e we ⟨hk,hb,hm⟩;simp only[h5,pan] at hm;subst hm;have HE:=Aside0.mk (And.intro hk hb);clear hk hb))
          refine ⟨rfl,H2.out.1.trans (Ks.trans ⟨HK.out.1.size,fun i hi hs=>HK.out.1.block i hi (fun e=>hs (.inl e))⟩ ⟨HE.out.1.size,fun i hi hs=>HE.out.1.block i hi (fun e=>hs (.inl e))⟩),HE.out.2,⟨_,kb_blk HE.out.1 HNE.out.1 HX.out,rfl⟩,?_⟩;rw[HQ.out];rfl
         ·have HQ:Aside0 (segP b = .ok ⟨f,t,q,a,d⟩ l6):=⟨by rw[HP5.out,bnd_ok h4,Int.toNat_natCast,bnd_ok h5];rfl⟩;have HD:Aside0 (d.length≤4000):=⟨by have:=takeP_len h5;have:=HM2.out;omega⟩;go_upto_region 6 with (first|(go_at_call 80;refine (num_calls w0 _ g A c b l4 0 0 (by decide) (by decide) (by decide) HI.out H2.out.2.1).mono ?_;rintro e wa ⟨hk,hb,hm⟩;simp only[h4] at hm;obtain ⟨rfl,hs1⟩:=hm;have HX:=Aside0.mk (kb_blk hk HNE.out.1 H2.out.2.2);have HK:=Aside0.mk (And.intro hk hs1);clear hk hb hs1)|(go_at_call 81;refine (bytes_calls w0 _ g A c b l5 m HM.out HI.out HK.out.2).mono ?_;rintro e wb ⟨hk,hb,hm⟩;simp only[h5] at hm;obtain ⟨⟨A1,c1,rfl,hc1,hC⟩,hs1⟩:=hm;have HX2:=Aside0.mk (kb_blk hk HNE.out.1 HX.out);have HK2:=Aside0.mk (And.intro (HK.out.1.trans hk) hs1);have HC:=Aside0.mk (Kd.C_below hC hb);clear hk hb hs1 hc1 hC))
          have HHD:Aside0 ((0+d.length) * 1≤140737488355328):=⟨by have:=HD.out;omega⟩;go_wp2_with ((with_reducible refine gate_dst (N:=32) rfl ?_);refine Kd.R_append_rows (Kd.int .u8) (Rr:=Kd.K (Kd.int .u8) wb) (w0:=wb) wb.heap.size rfl (.const (.slice none 0 0)) (.tmp 31) 36 5 (.int .u8 0) 1 (by rfl) Try.underlying36 inf8 rfl (by decide) (by decide) (.slice none 0 0) [] d A1 d.length c1 (fun _=>True) (fun _=>False) (by rfl) (by rfl) (Kd.R_nil _ _ _ _ _) HC.out kM8 (fun _ hk=>hk.elim) (fun _ _=>trivial) (Below.refl _ _) (Nat.le_refl _) HHD.out ?_;intro v wc hR hB hg hat;rw[List.nil_append] at hR;obtain ⟨Av,cv,rfl⟩:=Kd.R_slice hR;have HR:=Aside0.mk hR;have HX3:=Aside0.mk (blk_keep hB HX2.out);have HB3:=Aside0.mk hB;clear hR hB hg hat;have kc0:wc.cell? ⟨cb,4,none⟩=some (.slice none 0 0):=(blk_cell HX3.out 4).trans rfl;have kf0:=blk_frozen HX3.out 4)
          (first|go_end0|((try simp only[Exit.inBlock,Exit.then]);refine bodyPost_ret (results_none rfl _ _ _) rfl ?_))
          have hbk:=blk_set HX3.out 4 (.slice Av d.length cv);have hrs:=(HK2.out.2.below HB3.out).setOther HNE.out.1 HNE.out.2.1 4 (.slice Av d.length cv);have hks:Ks (fun k=>k=g∨k=cb) w1 wc:=(H2.out.1.trans ⟨HK2.out.1.size,fun i hi hs=>HK2.out.1.block i hi (fun e=>hs (.inl e))⟩).trans ⟨HB3.out.size,fun i hi hs=>HB3.out.block i hi⟩;have hcb:=blk_lt HX2.out;refine ⟨Ks.set hks _ _ _ (.inl (.inr rfl)),hrs.bel,⟨_,hbk,rfl⟩,?_⟩;rw[HQ.out];refine ⟨rfl,hrs,.slice Av d.length cv,hbk,Kd.R_lower (R_keep2 (w1:=wc) HR.out (fun k h1 h2=>Below.heap_setCell wc ⟨cb,4,none⟩ _ k (fun e=>by have:k=cb:=e;omega))) (Nat.le_trans HNE.out.2.2 (H2.out.1.trans ⟨HK2.out.1.size,fun i hi hs=>HK2.out.1.block i hi (fun e=>hs (.inl e))⟩).size)⟩
       ·have hz2:(q == 0)=false:=by simp[hz]
        go_upto_region 5 with fail
        clear kc2 kf2;have HP5:Aside0 (segP b=(bnd (numP 1 4000) fun n=>bnd (takeP n.toNat) fun d=>ret ⟨f,t,q,a,d⟩) l4):=⟨by rw[HP.out,bnd_ok h0,bnd_ok h1,bnd_ok h2,bnd_ok h3,if_neg hz,if_neg hz]⟩;rcases h4:numP 1 4000 l4 with n0|⟨nn,l5⟩
        ·have HQ:Aside0 (segP b = .bad n0):=⟨by rw[HP5.out,bnd_bad h4]⟩;go_wp2_with (go_at_call 80;refine (num_calls w0 _ g A c b l4 1 4000 (by decide) (by decide) (by decide) HI.out H2.out.2.1).mono ?_;rintro e we ⟨hk,hb,hm⟩;simp only[h4,pan] at hm;subst hm;have HE:=Aside0.mk (And.intro hk hb);clear hk hb)
         refine ⟨rfl,H2.out.1.trans ⟨HE.out.1.size,fun i hi hs=>HE.out.1.block i hi (fun e=>hs (.inl e))⟩,HE.out.2,⟨_,kb_blk HE.out.1 HNE.out.1 H2.out.2.2,rfl⟩,?_⟩;rw[HQ.out];rfl
        ·have hc:=(numP_codec 1 4000 (by decide) (by decide)).one l4 nn l5 (H2.out.2.1.isB HI.out.isB) h4;obtain ⟨m,rfl⟩:∃ m:Nat,nn=(m:Int):=⟨nn.toNat,by omega⟩;have HM:Aside0 (m≤1000000):=⟨by omega⟩;have HM2:Aside0 (m≤4000):=⟨by omega⟩;clear hc;rcases h5:takeP m l5 with n0|⟨d,l6⟩
         ·have HQ:Aside0 (segP b = .bad n0):=⟨by rw[HP5.out,bnd_ok h4,Int.toNat_natCast,bnd_bad h5]⟩;go_wp2_with (first|(go_at_call 80;refine (num_calls w0 _ g A c b l4 1 4000 (by decide) (by decide) (by decide) HI.out H2.out.2.1).mono ?_;rintro e wa ⟨hk,hb,hm⟩;simp only[h4] at hm;obtain ⟨rfl,hs1⟩:=hm;have HX:=Aside0.mk (kb_blk hk HNE.out.1 H2.out.2.2);have HK:=Aside0.mk (And.intro hk hs1);clear hk hb hs1)|(go_at_call 81;refine (bytes_calls w0 _ g A c b l5 m HM.out HI.out HK.out.2).mono ?_;rintro e we ⟨hk,hb,hm⟩;simp only[h5,pan] at hm;subst hm;have HE:=Aside0.mk (And.intro hk hb);clear hk hb))
          refine ⟨rfl,H2.out.1.trans (Ks.trans ⟨HK.out.1.size,fun i hi hs=>HK.out.1.block i hi (fun e=>hs (.inl e))⟩ ⟨HE.out.1.size,fun i hi hs=>HE.out.1.block i hi (fun e=>hs (.inl e))⟩),HE.out.2,⟨_,kb_blk HE.out.1 HNE.out.1 HX.out,rfl⟩,?_⟩;rw[HQ.out];rfl
         ·have HQ:Aside0 (segP b = .ok ⟨f,t,q,a,d⟩ l6):=⟨by rw[HP5.out,bnd_ok h4,Int.toNat_natCast,bnd_ok h5];rfl⟩;have HD:Aside0 (d.length≤4000):=⟨by have:=takeP_len h5;have:=HM2.out;omega⟩;go_upto_region 6 with (first|(go_at_call 80;refine (num_calls w0 _ g A c b l4 1 4000 (by decide) (by decide) (by decide) HI.out H2.out.2.1).mono ?_;rintro e wa ⟨hk,hb,hm⟩;simp only[h4] at hm;obtain ⟨rfl,hs1⟩:=hm;have HX:=Aside0.mk (kb_blk hk HNE.out.1 H2.out.2.2);have HK:=Aside0.mk (And.intro hk hs1);clear hk hb hs1)|(go_at_call 81;refine (bytes_calls w0 _ g A c b l5 m HM.out HI.out HK.out.2).mono ?_;rintro e wb ⟨hk,hb,hm⟩;simp only[h5] at hm;obtain ⟨⟨A1,c1,rfl,hc1,hC⟩,hs1⟩:=hm;have HX2:=Aside0.mk (kb_blk hk HNE.out.1 HX.out);have HK2:=Aside0.mk (And.intro (HK.out.1.trans hk) hs1);have HC:=Aside0.mk (Kd.C_below hC hb);clear hk hb hs1 hc1 hC))
          have HHD:Aside0 ((0+d.length) * 1≤140737488355328):=⟨by have:=HD.out;omega⟩;go_wp2_with ((with_reducible refine gate_dst (N:=32) rfl ?_);refine Kd.R_append_rows (Kd.int .u8) (Rr:=Kd.K (Kd.int .u8) wb) (w0:=wb) wb.heap.size rfl (.const (.slice none 0 0)) (.tmp 31) 36 5 (.int .u8 0) 1 (by rfl) Try.underlying36 inf8 rfl (by decide) (by decide) (.slice none 0 0) [] d A1 d.length c1 (fun _=>True) (fun _=>False) (by rfl) (by rfl) (Kd.R_nil _ _ _ _ _) HC.out kM8 (fun _ hk=>hk.elim) (fun _ _=>trivial) (Below.refl _ _) (Nat.le_refl _) HHD.out ?_;intro v wc hR hB hg hat;rw[List.nil_append] at hR;obtain ⟨Av,cv,rfl⟩:=Kd.R_slice hR;have HR:=Aside0.mk hR;have HX3:=Aside0.mk (blk_keep hB HX2.out);have HB3:=Aside0.mk hB;clear hR hB hg hat;have kc0:wc.cell? ⟨cb,4,none⟩=some (.slice none 0 0):=(blk_cell HX3.out 4).trans rfl;have kf0:=blk_frozen HX3.out 4)
          (first|go_end0|((try simp only[Exit.inBlock,Exit.then]);refine bodyPost_ret (results_none rfl _ _ _) rfl ?_))
          have hbk:=blk_set HX3.out 4 (.slice Av d.length cv);have hrs:=(HK2.out.2.below HB3.out).setOther HNE.out.1 HNE.out.2.1 4 (.slice Av d.length cv);have hks:Ks (fun k=>k=g∨k=cb) w1 wc:=(H2.out.1.trans ⟨HK2.out.1.size,fun i hi hs=>HK2.out.1.block i hi (fun e=>hs (.inl e))⟩).trans ⟨HB3.out.size,fun i hi hs=>HB3.out.block i hi⟩;have hcb:=blk_lt HX2.out;refine ⟨Ks.set hks _ _ _ (.inl (.inr rfl)),hrs.bel,⟨_,hbk,rfl⟩,?_⟩;rw[HQ.out];refine ⟨rfl,hrs,.slice Av d.length cv,hbk,Kd.R_lower (R_keep2 (w1:=wc) HR.out (fun k h1 h2=>Below.heap_setCell wc ⟨cb,4,none⟩ _ k (fun e=>by have:k=cb:=e;omega))) (Nat.le_trans HNE.out.2.2 (H2.out.1.trans ⟨HK2.out.1.size,fun i hi hs=>HK2.out.1.block i hi (fun e=>hs (.inl e))⟩).size)⟩
theorem sg_one (f t q a:Int) (A:Option Addr) (n c:Nat):(SGc f t q a (.slice A n c)).all (·.oneCell')=true:=by simp[SGc,Value.oneCell']
theorem inf47:(Try.prog.info? 47).map (·.size)=some 5:=by kernel_rfl
theorem build_zeroS (a:Act) (W:World) {o:Oper} (ho:o.op = .build 47 #[]):(execOp a.eval o).run Try.prog W = .ok (.value (.agg (SGc 0 0 0 0 (.slice none 0 0)))) W:=by
 unfold execOp;rw[ho];have hu47:=Try.underlying47;have h:(Instr.build 47 #[]).run Try.prog W = .ok (.agg (SGc 0 0 0 0 (.slice none 0 0))) W:=by kernel_rfl
 simp[h]
def DecSP (w:World) (x:Seg×Int×Int) (e:Ending) (w':World):Prop:=
 Below w.heap.size w w'∧∃ A1 c1,e = .returned (.tuple #[SV x.1 A1 c1,.int .i64 x.2.1,.int .i64 x.2.2])∧Kd.R (Kd.int .u8) 5 w' w.heap.size (fun _=>True) (.slice A1 x.1.data.length c1) x.1.data
theorem decseg_calls (w : World) (A : Option Addr) (c : Nat) (b : List Int) (hi : In w A c b) :
    Calls Try.prog 28 #[.slice A b.length c] w fun e w'=>DecSP w (whole zSeg segP b) e w':=by
  have hmf:∀ (fn:Fn) (first cap:Array Value) (w:World),(Instr.makeFunc fn first cap).run Try.prog w = .ok (.func fn first cap) w:=fun _ _ _ _=>rfl;obtain ⟨wa,hwa⟩:∃ wa,wa=w.alloc (.cells (SGc 0 0 0 0 (.slice none 0 0)) 47 (0,0)):=⟨_,rfl⟩;have HWA:=Aside0.mk hwa;have HB:Aside0 (Below w.heap.size w wa∧wa.heap.size=w.heap.size+1∧wa.heap[w.heap.size]?=some (.cells (SGc 0 0 0 0 (.slice none 0 0)) 47 (0,0))):=⟨by rw[hwa];exact ⟨al_below w _,by simp,heap_alloc_new w _⟩⟩
  have HRD : Aside0 (Calls Try.prog 59 #[.slice A b.length c, .func (Fn.func 79) #[] #[.pointer (some ⟨w.heap.size, 0, none⟩)]] wa fun e w' => ReadP w wa (fun k => k = w.heap.size) b (segP b) (YB w.heap.size 47 5) (XS (wa.heap.size + 1 + 1) w.heap.size) e w') := ⟨by
    have hsz:=HB.out.2.1;refine read_seg w.heap.size w wa A c b _ (segP b) _ _ hi HB.out.1 (fun k hk=>by omega) (fun k hk=>by omega) (stable_Y (by omega) (by omega)) (fun m=>stable_XS (by omega) m) ?_;intro w1 hb1 hs1 hr1;exact seg1_calls w w1 _ w.heap.size _ A c b hi hr1 (by omega) (Nat.le_refl _) (by omega) (blk_keep hb1 HB.out.2.2)⟩
  have hu47:=Try.underlying47;clear hwa hi;rw[show SGc 0 0 0 0 (.slice none 0 0) = #[.int .i64 0,.int .i64 0,.int .i64 0,.int .i64 0,.slice none 0 0] from rfl] at HWA;go_enter Try.func28,Try.ntmps28
  go_upto_region 1 with fail
  rw[←HWA.out];go_upto_region 2 with (go_at_call 59;refine HRD.out.mono ?_;rintro e w2 ⟨hks,hbl,hy,pt,er,rfl,hm⟩;have HK:=Aside0.mk (And.intro hks (And.intro hbl (And.intro hy hm)));clear hks hbl hy hm)
  rcases hp:segP b with k|⟨m,l⟩
  ·have HW:Aside0 (whole zSeg segP b=(zSeg,(b.length:Int) - k,20)):=⟨by unfold whole;rw[hp]⟩;rw[hp] at HK;obtain ⟨old,ho,hos⟩:=HK.out.2.2.1;(try obtain ⟨rfl,rfl⟩:=HK.out.2.2.2)
   have HC:=Aside0.mk (And.intro ho hos);have HB3:=Aside0.mk (setRow_blk ho (SGc 0 0 0 0 (.slice none 0 0)));clear ho hos;go_wp2_with (first|((with_reducible refine gate_dst (N:=13) rfl ?_);refine Kd.event_run (v := .agg (SGc 0 0 0 0 (.slice none 0 0))) (w1:=w2) rfl (build_zeroS _ _ rfl) ?_;go_loud (refine wpList_store_row rfl 47 (.tmp 2) (.tmp 13) rfl w.heap.size (SGc 0 0 0 0 (.slice none 0 0)) (by rfl) (by rfl) 47 _ HC.out.1 inf47 HC.out.2 (sg_one _ _ _ _ _ _ _) ?_))|((with_reducible refine gate_dst (N:=14) rfl ?_);refine wpList_load_row rfl 47 (.tmp 2) rfl w.heap.size (by rfl) 47 (SGc 0 0 0 0 (.slice none 0 0)) (0,0) _ HB3.out Try.underlying47 rfl inf47 ?_;refine Kd.event_run (v := .int .i64 ((b.length:Int) - k)) rfl (by rfl) ?_;refine Kd.event_run (v := .int .i64 (20)) rfl (by rfl) ?_;go_loud (refine wpList_store_row rfl 47 (.tmp 2) (.tmp 14) rfl w.heap.size (SGc 0 0 0 0 (.slice none 0 0)) (by rfl) (by rfl) 47 _ HB3.out inf47 rfl (sg_one _ _ _ _ _ _ _) ?_)))
   have HB4:=setRow_blk HB3.out (SGc 0 0 0 0 (.slice none 0 0));(try simp only[Exit.inBlock,Exit.then])
   refine bodyPost_ret (v := .tuple #[.agg (SGc 0 0 0 0 (.slice none 0 0)),.int .i64 ((b.length:Int) - k),.int .i64 20]) ?_ rfl ?_
   ·exact results_cell_two (fn:=Try.f28) (p:=2) (q:=3) (r:=4) rfl _ _ w.heap.size 47 _ (0,0) _ (by rfl) HB4 hu47 rfl inf47
   refine ⟨below_setRow (below_setRow HK.out.2.1 (Nat.le_refl _) _) (Nat.le_refl _) _,none,0,?_,?_⟩
   ·rw[HW.out];rfl
   ·rw[HW.out];exact Kd.R_nil _ _ _ _ _
  ·rcases l with _|⟨d,l⟩
   ·have HW:Aside0 (whole zSeg segP b=(m,0,0)):=⟨by unfold whole;rw[hp]⟩;rw[hp] at HK;obtain ⟨hpt,her,v,hbk,hR⟩:=HK.out.2.2.2;subst hpt her;obtain ⟨A1,c1,rfl⟩:=Kd.R_slice hR;have HC:=Aside0.mk hbk;have HR:=Aside0.mk hR;clear hbk hR;go_wp2_with ((with_reducible refine gate_dst (N:=14) rfl ?_);refine wpList_load_row rfl 47 (.tmp 2) rfl w.heap.size (by rfl) 47 (SGc m.src m.dst m.seq m.ack (.slice A1 m.data.length c1)) (0,0) _ HC.out Try.underlying47 rfl inf47 ?_;refine Kd.event_run (v := .int .i64 (0)) rfl (by rfl) ?_;refine Kd.event_run (v := .int .i64 (0)) rfl (by rfl) ?_;go_loud (refine wpList_store_row rfl 47 (.tmp 2) (.tmp 14) rfl w.heap.size (SGc m.src m.dst m.seq m.ack (.slice A1 m.data.length c1)) (by rfl) (by rfl) 47 _ HC.out inf47 rfl (sg_one _ _ _ _ _ _ _) ?_))
    have HB4:=setRow_blk HC.out (SGc m.src m.dst m.seq m.ack (.slice A1 m.data.length c1));(try simp only[Exit.inBlock,Exit.then])
    refine bodyPost_ret (v := .tuple #[.agg (SGc m.src m.dst m.seq m.ack (.slice A1 m.data.length c1)),.int .i64 0,.int .i64 0]) ?_ rfl ?_
    ·exact results_cell_two (fn:=Try.f28) (p:=2) (q:=3) (r:=4) rfl _ _ w.heap.size 47 _ (0,0) _ (by rfl) HB4 hu47 rfl inf47
    refine ⟨below_setRow HK.out.2.1 (Nat.le_refl _) _,A1,c1,?_,?_⟩
    ·rw[HW.out];rfl
    ·rw[HW.out];have hsz:=HB.out.2.1;exact Kd.R_lower (R_keep2 HR.out (fun k h1 h2=>setRow_far (by omega) _)) (by omega)
   ·have HW:Aside0 (whole zSeg segP b=(zSeg,(b.length:Int) - (l.length+1),20)):=⟨by unfold whole;rw[hp]⟩;rw[hp] at HK;obtain ⟨old,ho,hos⟩:=HK.out.2.2.1;(try obtain ⟨rfl,rfl⟩:=HK.out.2.2.2)
    have HC:=Aside0.mk (And.intro ho hos);have HB3:=Aside0.mk (setRow_blk ho (SGc 0 0 0 0 (.slice none 0 0)));clear ho hos;go_wp2_with (first|((with_reducible refine gate_dst (N:=13) rfl ?_);refine Kd.event_run (v := .agg (SGc 0 0 0 0 (.slice none 0 0))) (w1:=w2) rfl (build_zeroS _ _ rfl) ?_;go_loud (refine wpList_store_row rfl 47 (.tmp 2) (.tmp 13) rfl w.heap.size (SGc 0 0 0 0 (.slice none 0 0)) (by rfl) (by rfl) 47 _ HC.out.1 inf47 HC.out.2 (sg_one _ _ _ _ _ _ _) ?_))|((with_reducible refine gate_dst (N:=14) rfl ?_);refine wpList_load_row rfl 47 (.tmp 2) rfl w.heap.size (by rfl) 47 (SGc 0 0 0 0 (.slice none 0 0)) (0,0) _ HB3.out Try.underlying47 rfl inf47 ?_;refine Kd.event_run (v := .int .i64 ((b.length:Int) - (l.length+1))) rfl (by rfl) ?_;refine Kd.event_run (v := .int .i64 (20)) rfl (by rfl) ?_;go_loud (refine wpList_store_row rfl 47 (.tmp 2) (.tmp 14) rfl w.heap.size (SGc 0 0 0 0 (.slice none 0 0)) (by rfl) (by rfl) 47 _ HB3.out inf47 rfl (sg_one _ _ _ _ _ _ _) ?_)))
    have HB4:=setRow_blk HB3.out (SGc 0 0 0 0 (.slice none 0 0));(try simp only[Exit.inBlock,Exit.then])
    refine bodyPost_ret (v := .tuple #[.agg (SGc 0 0 0 0 (.slice none 0 0)),.int .i64 ((b.length:Int) - (l.length+1)),.int .i64 20]) ?_ rfl ?_
    ·exact results_cell_two (fn:=Try.f28) (p:=2) (q:=3) (r:=4) rfl _ _ w.heap.size 47 _ (0,0) _ (by rfl) HB4 hu47 rfl inf47
    refine ⟨below_setRow (below_setRow HK.out.2.1 (Nat.le_refl _) _) (Nat.le_refl _) _,none,0,?_,?_⟩
    ·rw[HW.out];rfl
    ·rw[HW.out];exact Kd.R_nil _ _ _ _ _
end Go.Proofs.Ytpgdmmjbhjbbhaa.Rd
end
section
namespace Go.Proofs.Ytpgdmmjbhjbbhaa.Sp
open Go Go.RowKit P YtpgdmmjbhjbbhaaW.PrintWords YtpgdmmjbhjbbhaaW.PrintLast YtpgdmmjbhjbbhaaW.PrintMore
theorem whole_back {α:Type} {p:Rdr α} {e:α→List Int} {v:α→Prop} (h:Codec p e v) (z:α) {x:α} (hx:v x):whole z p (e x)=(x,0,0):=by
 have:=h.back x [] hx;rw[List.append_nil] at this;unfold whole;rw[this]
theorem lay_right {α:Type} {e:α→List Int} {v:α→Prop} {x:α} (h:v x):lay e v x=(e x,0):=by unfold lay;rw[if_pos (dcd_pos h)]
theorem intB_1 {n:Int} (h0:0≤n) (h1:n<128):intB n=[n]:=by
 rw[intB_of h0 (by omega),numB_lt (by omega)]
 congr 1
 omega
def kSt:ByteArray:=⟨#[107]⟩
def mEx:Msg:={ zMsg with kind:=3,name:=kSt,cap:=10,epoch:=⟨2,1⟩ }
def sEx:Seg:=⟨0,1,0,7,[]⟩
def qEx:S25×Op:=(⟨3,1⟩,⟨2,kSt,5,0⟩)
def rEx:Rep:=⟨⟨0,9⟩,0,-3⟩
theorem name_k:nameOk (bytesOf kSt):=by
 refine ⟨by decide,by decide,?_⟩;have:bytesOf kSt=[107]:=by decide
 rw[this];intro x hx;rw[List.mem_singleton.mp hx]
 decide
theorem bytes_k:bytesOf kSt=[107]:=by decide
theorem nameV_k:nameV eB kSt:=nameV_nil.mpr name_k
theorem text_k:textB kSt=[1,107]:=by
 unfold textB;rw[bytes_k,intB_1 (by decide) (by decide)]
 decide
theorem mEx_bytes:msgB mEx=[3,1,107,10,0,2,1]:=by
 have h1:∀ n:Int,0≤n→n<128→intB n=[n]:=fun n a b=>intB_1 a b;simp[msgB,restB,mEx,zMsg,optB,hasEp,hasRt,capOf,pairB,text_k,h1,z25]
theorem mEx_right:msgV mEx:=by
 refine ⟨by decide,?_⟩;unfold restV;rw[if_neg (by decide),if_neg (by decide),if_neg (by decide)];simp[mEx,zMsg,optV,hasEp,hasRt,capOf,capV,pairV,epochV,big,mOf,z25,nameV_k]
theorem sEx_bytes:segB sEx=[0,1,0,7,0]:=by
 have h1:∀ n:Int,0≤n→n<128→intB n=[n]:=fun n a b=>intB_1 a b;simp[segB,sEx,h1]
theorem sEx_right:segV sEx:=by
 simp[segV,sEx,big,IsB]
theorem qEx_bytes:reqB qEx=[3,1,2,1,107,10,0]:=by
 have h1:∀ n:Int,0≤n→n<128→intB n=[n]:=fun n a b=>intB_1 a b;simp[reqB,qEx,opB,pairB,h1,text_k,signB,signN,numB_lt]
theorem qEx_right:reqV qEx:=by
 refine ⟨?_,?_⟩
 ·simp[qEx,callV,pairV,big]
 ·simp[qEx,opV,isI,nameV_k]
theorem rEx_bytes:repB rEx=[0,9,0,5]:=by
 have h1:∀ n:Int,0≤n→n<128→intB n=[n]:=fun n a b=>intB_1 a b;simp[repB,rEx,pairB,h1,signB,signN,numB_lt]
theorem rEx_right:repV rEx:=by
 simp[repV,rEx,callV,pairV,big,isI]
end Go.Proofs.Ytpgdmmjbhjbbhaa.Sp
end
