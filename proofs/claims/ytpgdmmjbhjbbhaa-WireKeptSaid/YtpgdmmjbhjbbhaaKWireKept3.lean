/- texts that the proof needs, laid together by a program of this session. -/
import Derived.Test.YtpgdmmjbhjbbhaaProg
import Derived.Below
import Derived.Deep.Draws
import Derived.Deep.AppendLies
import Derived.Maps.AppendAt
import Derived.OwnWalk
import Derived.Laws.BytesArg
import Derived.Laws.MakeOwn
import Derived.Laws.OwnMore
import Derived.Deep.OwnRows
import Derived.Tactics
import Derived.Lib.ConvBytes
import Derived.Laws.Slices
import Derived.WalkKit
import Derived.KernelRfl
import Derived.RowKit3
import Derived.Deep.LoopGhost
import Derived.Deep.QuietTactic
import Derived.BigQuiet
import Derived.WideLaws
import Derived.Deep.DeepCutAuto
import Derived.Deep.CutBlock
import Derived.Deep.RegionHeld3
import Derived.Laws.Rows
import Derived.Lib.AppendStr
import Derived.ArgAppend
import Derived.Laws.IdiomCopy
import Derived.OrdersHeld
import Derived.Laws.BitsLemmas
import Derived.RowKit
import Derived.Laws.Strings
import Derived.Laws.Small
import Derived.Test.YtpgdmmjbhjbbhaaKWireKept2
set_option maxRecDepth 100000
set_option maxHeartbeats 16000000
set_option linter.unusedVariables false
set_option linter.unusedSimpArgs false
section
namespace Go.Proofs.Ytpgdmmjbhjbbhaa.P
open Go.RowKit YtpgdmmjbhjbbhaaW.PrintWords YtpgdmmjbhjbbhaaW.PrintLast YtpgdmmjbhjbbhaaW.PrintMore
attribute [local go_sem] max2_int min2_int max_two min_two max_three min_three max_four min_four
def errW:Option Int→Value
 | none => .nilIface
 | some c => .iface 0 (.int .i64 c)
theorem errW_none:errW none = .nilIface:=rfl
theorem errW_some (c:Int):errW (some c) = .iface 0 (.int .i64 c):=rfl
theorem info3:(Try.prog.info? 3).map (fun i=>(i.zero,i.size,i.bytes))=some (some (.int .i64 0),1,8):=by kernel_rfl
theorem info5:(Try.prog.info? 5).map (fun i=>(i.zero,i.size,i.bytes))=some (some (.int .u8 0),1,1):=by kernel_rfl
structure S25 where
 f0:Int
 f1:Int
def z25:S25:=⟨(0:Int),(0:Int)⟩
def k25:Kd S25:=Kd.iso (Kd.pair (Kd.int .i64) (Kd.int .i64)) (fun x:S25=>(x.f0,x.f1))
theorem k25_open {w:World} {x:S25} {cs:List Value} (h:k25.K w x cs):cs=[.int .i64 x.f0,.int .i64 x.f1]:=by
 obtain ⟨_,_,rfl,rfl,rfl⟩:=h;exact rfl
theorem k25_openM {w:World} {base:Nat} {ok:Nat→Prop} {x:S25} {cs:List Value} (h:k25.M w base ok x cs):cs=[.int .i64 x.f0,.int .i64 x.f1]:=by
 obtain ⟨_,_,rfl,rfl,rfl⟩:=h;exact rfl
theorem k25_mk (w:World) (x:S25):k25.K w x [.int .i64 x.f0,.int .i64 x.f1]:=⟨[.int .i64 x.f0],[.int .i64 x.f1],rfl,rfl,rfl⟩
theorem k25_mkM (w:World) (base:Nat) (ok:Nat→Prop) (x:S25):k25.M w base ok x [.int .i64 x.f0,.int .i64 x.f1]:=⟨[.int .i64 x.f0],[.int .i64 x.f1],rfl,rfl,rfl⟩
structure S87 where
 f0:ByteArray
 f1:Int
 f2:Int
 f3:Int
 f4:S25
 f5:Int
def z87:S87:=⟨(⟨#[]⟩:ByteArray),(0:Int),(0:Int),(0:Int),z25,(0:Int)⟩
def k87:Kd S87:=Kd.iso (Kd.pair Kd.string (Kd.pair (Kd.int .i64) (Kd.pair (Kd.int .i64) (Kd.pair (Kd.int .i64) (Kd.pair k25 (Kd.int .i64)))))) (fun x:S87=>(x.f0,x.f1,x.f2,x.f3,x.f4,x.f5))
theorem k87_open {w:World} {x:S87} {cs:List Value} (h:k87.K w x cs):cs=[.string x.f0,.int .i64 x.f1,.int .i64 x.f2,.int .i64 x.f3,.int .i64 x.f4.f0,.int .i64 x.f4.f1,.int .i64 x.f5]:=by
 obtain ⟨_,_,rfl,rfl,⟨_,_,rfl,rfl,⟨_,_,rfl,rfl,⟨_,_,rfl,rfl,⟨_,_,rfl,s4,rfl⟩⟩⟩⟩⟩:=h;obtain rfl:=k25_open s4;exact rfl
theorem k87_openM {w:World} {base:Nat} {ok:Nat→Prop} {x:S87} {cs:List Value} (h:k87.M w base ok x cs):cs=[.string x.f0,.int .i64 x.f1,.int .i64 x.f2,.int .i64 x.f3,.int .i64 x.f4.f0,.int .i64 x.f4.f1,.int .i64 x.f5]:=by
 obtain ⟨_,_,rfl,rfl,⟨_,_,rfl,rfl,⟨_,_,rfl,rfl,⟨_,_,rfl,rfl,⟨_,_,rfl,s4,rfl⟩⟩⟩⟩⟩:=h;obtain rfl:=k25_openM s4;exact rfl
theorem k87_mk (w:World) (x:S87):k87.K w x [.string x.f0,.int .i64 x.f1,.int .i64 x.f2,.int .i64 x.f3,.int .i64 x.f4.f0,.int .i64 x.f4.f1,.int .i64 x.f5]:=⟨[.string x.f0],[.int .i64 x.f1,.int .i64 x.f2,.int .i64 x.f3,.int .i64 x.f4.f0,.int .i64 x.f4.f1,.int .i64 x.f5],rfl,rfl,⟨[.int .i64 x.f1],[.int .i64 x.f2,.int .i64 x.f3,.int .i64 x.f4.f0,.int .i64 x.f4.f1,.int .i64 x.f5],rfl,rfl,⟨[.int .i64 x.f2],[.int .i64 x.f3,.int .i64 x.f4.f0,.int .i64 x.f4.f1,.int .i64 x.f5],rfl,rfl,⟨[.int .i64 x.f3],[.int .i64 x.f4.f0,.int .i64 x.f4.f1,.int .i64 x.f5],rfl,rfl,⟨[.int .i64 x.f4.f0,.int .i64 x.f4.f1],[.int .i64 x.f5],rfl,(k25_mk w x.f4 ),rfl⟩⟩⟩⟩⟩
theorem k87_mkM (w:World) (base:Nat) (ok:Nat→Prop) (x:S87):k87.M w base ok x [.string x.f0,.int .i64 x.f1,.int .i64 x.f2,.int .i64 x.f3,.int .i64 x.f4.f0,.int .i64 x.f4.f1,.int .i64 x.f5]:=⟨[.string x.f0],[.int .i64 x.f1,.int .i64 x.f2,.int .i64 x.f3,.int .i64 x.f4.f0,.int .i64 x.f4.f1,.int .i64 x.f5],rfl,rfl,⟨[.int .i64 x.f1],[.int .i64 x.f2,.int .i64 x.f3,.int .i64 x.f4.f0,.int .i64 x.f4.f1,.int .i64 x.f5],rfl,rfl,⟨[.int .i64 x.f2],[.int .i64 x.f3,.int .i64 x.f4.f0,.int .i64 x.f4.f1,.int .i64 x.f5],rfl,rfl,⟨[.int .i64 x.f3],[.int .i64 x.f4.f0,.int .i64 x.f4.f1,.int .i64 x.f5],rfl,rfl,⟨[.int .i64 x.f4.f0,.int .i64 x.f4.f1],[.int .i64 x.f5],rfl,(k25_mkM w base ok x.f4 ),rfl⟩⟩⟩⟩⟩
def rd_T87 (xs:List S87) (i:Int):S87:=xs.getD i.toNat z87
theorem at_T87 {w:World} {A:Option Addr} {n:Nat} {xs:List S87} (h:Kd.C k87 w A n xs) (i:Int) (h0:0≤i) (h1:i<n):∃ ad ,A=some ad∧w.cell? (ad.add (i.toNat * 7))=some (.string (rd_T87 xs i).f0)∧w.cell? ⟨(ad.add (i.toNat * 7)).block,(ad.add (i.toNat * 7)).off+1,none⟩=some (.int .i64 (rd_T87 xs i).f1)∧w.cell? ⟨(ad.add (i.toNat * 7)).block,(ad.add (i.toNat * 7)).off+2,none⟩=some (.int .i64 (rd_T87 xs i).f2)∧w.cell? ⟨(ad.add (i.toNat * 7)).block,(ad.add (i.toNat * 7)).off+3,none⟩=some (.int .i64 (rd_T87 xs i).f3)∧w.cell? ⟨(ad.add (i.toNat * 7)).block,(ad.add (i.toNat * 7)).off+4,none⟩=some (.int .i64 (rd_T87 xs i).f4.f0)∧w.cell? ⟨(ad.add (i.toNat * 7)).block,(ad.add (i.toNat * 7)).off+5,none⟩=some (.int .i64 (rd_T87 xs i).f4.f1)∧w.cell? ⟨(ad.add (i.toNat * 7)).block,(ad.add (i.toNat * 7)).off+6,none⟩=some (.int .i64 (rd_T87 xs i).f5):=by
 obtain ⟨ad,c,e,_,hK,hc0⟩:=Kd.C_get h z87 i h0 h1;have hc:∀ j u,c[j]?=some u→w.cell? (ad.add (i.toNat * 7+j))=some u:=hc0;obtain rfl:=k87_open hK;exact ⟨ad,e,hc 0 _ rfl,by rw[←add_field _ _ 1 (by omega)];exact hc 1 _ rfl,by rw[←add_field _ _ 2 (by omega)];exact hc 2 _ rfl,by rw[←add_field _ _ 3 (by omega)];exact hc 3 _ rfl,by rw[←add_field _ _ 4 (by omega)];exact hc 4 _ rfl,by rw[←add_field _ _ 5 (by omega)];exact hc 5 _ rfl,by rw[←add_field _ _ 6 (by omega)];exact hc 6 _ rfl⟩
structure S23 where
 f0:Int
 f1:Int
structure S27 where
 f0:Int
 f1:Int
structure S29 where
 f0:Int
 f1:ByteArray
 f2:Int
 f3:Int
structure S33 where
 f0:Int
 f1:ByteArray
 f2:Int
 f3:Int
 f4:S23
 f5:S23
 f6:S25
 f7:Int
 f8:S27
 f9:S29
 f10:Int
 f11:Int
 f12:(List S87)
end Go.Proofs.Ytpgdmmjbhjbbhaa.P
end
section
namespace Go.Proofs.Ytpgdmmjbhjbbhaa.Sp
open Go Go.RowKit P YtpgdmmjbhjbbhaaW.PrintWords YtpgdmmjbhjbbhaaW.PrintLast YtpgdmmjbhjbbhaaW.PrintMore
def IsB (l:List Int):Prop:=∀ x ∈ l,0≤x∧x≤255
theorem IsB.append {a b:List Int}:IsB (a++b) ↔ IsB a∧IsB b:=by
 constructor
 ·exact fun h=>⟨fun x hx=>h x (List.mem_append_left _ hx),fun x hx=>h x (List.mem_append_right _ hx)⟩
 ·intro h x hx;rcases List.mem_append.mp hx with h1|h1
  ·exact h.1 x h1
  ·exact h.2 x h1
theorem IsB.cons {a:Int} {b:List Int}:IsB (a::b) ↔ (0≤a∧a≤255)∧IsB b:=by
 constructor
 ·exact fun h=>⟨h a (List.mem_cons_self ..),fun x hx=>h x (List.mem_cons_of_mem _ hx)⟩
 ·intro h x hx;rcases List.mem_cons.mp hx with h1|h1
  ·exact h1 ▸ h.1
  ·exact h.2 x h1
inductive R (α:Type) where
 | bad (rem:Nat)
 | ok (x:α) (rest:List Int)
def Rdr (α:Type):Type:=List Int→R α
def ret {α:Type} (x:α):Rdr α:=fun l => .ok x l
def bnd {α β:Type} (p:Rdr α) (f:α→Rdr β):Rdr β:=fun l=>match p l with
 | .bad n => .bad n
 | .ok x r=>f x r
theorem bnd_bad {α β:Type} {p:Rdr α} {f:α→Rdr β} {l:List Int} {n:Nat} (h:p l = .bad n):bnd p f l = .bad n:=by simp[bnd,h]
theorem bnd_ok {α β:Type} {p:Rdr α} {f:α→Rdr β} {l r:List Int} {x:α} (h:p l = .ok x r):bnd p f l=f x r:=by simp[bnd,h]
structure Codec {α:Type} (p:Rdr α) (e:α→List Int) (v:α→Prop):Prop where
 back:∀ x s,v x→p (e x++s) = .ok x s
 one:∀ l x r,IsB l→p l = .ok x r→v x∧l=e x++r
 cut:∀ x q t,v x→e x=q++t→t≠[]→p q = .bad 0
theorem Codec.congr {α:Type} {p:Rdr α} {e e':α→List Int} {v v':α→Prop} (h:Codec p e v) (hv:∀ y,v y ↔ v' y) (he:∀ y,v' y→e y=e' y):Codec p e' v' where
 back x s hx:=by rw[←he x hx];exact h.back x s ((hv x).mpr hx)
 one l x r hl hp:=by
  obtain ⟨h1,h2⟩:=h.one l x r hl hp;have h3:=(hv x).mp h1;exact ⟨h3,by rw[←he x h3];exact h2⟩
 cut x q t hx hq ht:=h.cut x q t ((hv x).mpr hx) (by rw[he x hx];exact hq) ht
theorem Codec.ret {α:Type} (y0:α):Codec (Sp.ret y0) (fun _=>[]) (fun y=>y=y0) where
 back x s hx:=by subst hx;rfl
 one l x r _ hp:=by
  simp only[Sp.ret,R.ok.injEq] at hp;exact ⟨hp.1.symm,by simpa using hp.2⟩
 cut x q t _ hq ht:=by
  have:=congrArg List.length hq;have h2:0<t.length:=List.length_pos_iff.mpr ht;simp only[List.length_append,List.length_nil] at this;omega
theorem Codec.bnd {α β : Type} {p : Rdr α} {f : α → Rdr β} {e1 : α → List Int} {v1 : α → Prop} {e2 : β → List Int} {v2 : β → Prop} (a : β → α)
    (h1:Codec p e1 v1) (h2:∀ x,v1 x→Codec (f x) e2 (fun y=>v2 y∧a y=x)):
    Codec (Sp.bnd p f) (fun y=>e1 (a y)++e2 y) (fun y=>v1 (a y)∧v2 y) where
  back y s hy:=by
   rw[List.append_assoc,bnd_ok (h1.back (a y) (e2 y++s) hy.1)];exact (h2 (a y) hy.1).back y s ⟨hy.2,rfl⟩
  one l y r hl hp := by
    cases hx:p l with
    | bad n=>rw[bnd_bad hx] at hp;cases hp
    | ok x r1=>
     rw[bnd_ok hx] at hp;obtain ⟨hv,rfl⟩:=h1.one l x r1 hl hx;obtain ⟨⟨hv2,rfl⟩,rfl⟩:=(h2 x hv).one r1 y r (IsB.append.mp hl).2 hp;exact ⟨⟨hv,hv2⟩,by rw[List.append_assoc]⟩
  cut y q t hy hq ht := by
    rcases Nat.lt_or_ge q.length (e1 (a y)).length with h|h
    ·have h3:e1 (a y)=q++(e1 (a y)).drop q.length:=by
      have:=congrArg (List.take q.length) hq;rw[List.take_append_of_le_length (by omega),List.take_append_of_le_length (Nat.le_refl _),List.take_length] at this
      conv=>lhs;rw[←List.take_append_drop q.length (e1 (a y)),this]
     exact bnd_bad (h1.cut (a y) q _ hy.1 h3 (by intro h4;have:=congrArg List.length h4;simp at this;omega))
    ·have h3:q=e1 (a y)++q.drop (e1 (a y)).length:=by
      have:=congrArg (List.take (e1 (a y)).length) hq;rw[List.take_append_of_le_length (Nat.le_refl _),List.take_length,List.take_append_of_le_length h] at this
      conv=>lhs;rw[←List.take_append_drop (e1 (a y)).length q,←this]
     rw[h3] at hq ⊢;rw[bnd_ok (h1.back (a y) _ hy.1)];refine (h2 (a y) hy.1).cut y _ t ⟨hy.2,rfl⟩ ?_ ht;rw[List.append_assoc] at hq;exact List.append_cancel_left hq
def numB (n:Nat):List Int:=if h:n<128 then [(n:Int)] else ((n % 128+128:Nat):Int)::numB (n / 128)
termination_by n
decreasing_by omega
theorem numB_lt {n:Nat} (h:n<128):numB n=[(n:Int)]:=by rw[numB];exact dif_pos h
theorem numB_ge {n:Nat} (h:¬n<128):numB n=((n % 128+128:Nat):Int)::numB (n / 128):=by rw[numB];exact dif_neg h
theorem numB_len:∀ (d n:Nat),n<128 ^ (d+1)→(numB n).length≤d+1:=by
 intro d
 induction d with
 | zero=>intro n h;rw[numB_lt (by simpa using h)];simp
 | succ d ih=>
  intro n h;by_cases h2:n<128
  ·rw[numB_lt h2];simp
  ·rw[numB_ge h2,List.length_cons];have:=ih (n / 128) (by rw[Nat.div_lt_iff_lt_mul (by decide)];rw[Nat.pow_succ] at h;exact h);omega
theorem numB_len10 {n:Nat} (h:n<18446744073709551616):(numB n).length≤10:=numB_len 9 n (Nat.lt_of_lt_of_le h (by decide))
theorem numB_isB (n:Nat):IsB (numB n):=by
 induction n using numB.induct with
 | case1 n h=>rw[numB_lt h];intro x hx;simp at hx;omega
 | case2 n h ih=>rw[numB_ge h];exact IsB.cons.mpr ⟨by omega,ih⟩
def intB (n:Int):List Int:=numB (IntKind.u64.wrap n).toNat
theorem intB_of {n:Int} (h0:0≤n) (h1:n<18446744073709551616):intB n=numB n.toNat:=by
 unfold intB;rw[show IntKind.u64.wrap n=n from by simp[IntKind.wrap,IntKind.bits,IntKind.signed];omega]
inductive NR where
 | cut
 | bad
 | ok (n:Nat) (rest:List Int)
def numGo : Nat → List Int → NR
  | _,[] => .cut
  | k,c::r=>
   if c<128 then (if (k=0∨0<c)∧(k<9∨c=1) then .ok c.toNat r else .bad)
   else if 9≤k then .bad
   else match numGo (k + 1) r with
     | .ok n r' => .ok (c.toNat % 128+128 * n) r'
     | e=>e
def top (k:Nat):Nat:=2 ^ (64 - 7 * k)
theorem top_succ {k:Nat} (h:k<9):top k=128 * top (k+1):=by
 unfold top;rw[show 64 - 7 * k=(64 - 7 * (k+1))+7 from by omega,Nat.pow_add];omega
theorem top_ge {k:Nat} (h:k<9):128≤top k:=by
 rw[top_succ h];have:0<top (k+1):=Nat.pos_of_ne_zero (by unfold top;exact Nat.ne_of_gt (Nat.pow_pos (by decide)));omega
theorem top9:top 9=2:=rfl
theorem numGo_back : ∀ (n k : Nat) (s : List Int), k ≤ 9 → n < top k → (k = 0 ∨ 0 < n) → numGo k (numB n ++ s) = .ok n s := by
  intro n
  induction n using numB.induct with
  | case1 n h=>
   intro k s hk ht h0;rw[numB_lt h];simp only[List.cons_append,List.nil_append,numGo];rw[if_pos (by omega),if_pos]
   ·rfl
   ·refine ⟨by omega,?_⟩;rcases Nat.lt_or_ge k 9 with h1|h1
    ·exact .inl h1
    ·have:k=9:=by omega
     subst this;rw[top9] at ht;omega
  | case2 n h ih=>
   intro k s hk ht h0
   have hk9:k<9:=by
    rcases Nat.lt_or_ge k 9 with h1|h1
    ·exact h1
    ·have:k=9:=by omega
     subst this;rw[top9] at ht;omega
   rw[numB_ge h];simp only[List.cons_append,numGo];rw[if_neg (by omega),if_neg (by omega),ih (k+1) s (by omega) (by rw[top_succ hk9] at ht;omega) (.inr (by omega))];simp only
   congr 1
   omega
theorem numGo_one : ∀ (l : List Int) (k n : Nat) (r : List Int), k ≤ 9 → IsB l → numGo k l = .ok n r → l = numB n ++ r ∧ n < top k ∧ (k = 0 ∨ 0 < n) := by
  intro l
  induction l with
  | nil=>intro k n r _ _ h;cases h
  | cons c l ih=>
   intro k n r hk hl h;have hc:=(IsB.cons.mp hl).1;simp only[numGo] at h;by_cases h1:c<128
   · rw [if_pos h1] at h
     by_cases h2:(k=0∨0<c)∧(k<9∨c=1)
     · rw [if_pos h2] at h
       injection h with h3 h4
       subst h3 h4;refine ⟨?_,?_,by omega⟩
       ·rw[numB_lt (by omega)];simp;omega
       ·rcases h2.2 with h5|h5
        ·have:=top_ge h5;omega
        ·rcases Nat.lt_or_ge k 9 with h6|h6
         ·have:=top_ge h6;omega
         ·have:k=9:=by omega
          subst this;rw[top9,h5]
          decide
     ·rw[if_neg h2] at h;cases h
   · rw [if_neg h1] at h
     by_cases h2:9≤k
     ·rw[if_pos h2] at h;cases h
     · rw [if_neg h2] at h
       cases h3:numGo (k+1) l with
       | cut=>rw[h3] at h;cases h
       | bad=>rw[h3] at h;cases h
       | ok n' r'=>
        rw[h3] at h
        injection h with h4 h5
        subst h4 h5;obtain ⟨h6,h7,h8⟩:=ih (k+1) n' r' (by omega) (IsB.cons.mp hl).2 h3;have h9:0<n':=by omega
        refine ⟨?_,?_,.inr (by omega)⟩
        ·rw[numB_ge (by omega),List.cons_append,h6]
         congr 1
         ·omega
         ·congr 2
          omega
        ·rw[top_succ (by omega)];omega
theorem numGo_cut : ∀ (n k : Nat) (q t : List Int), k ≤ 9 → n < top k → numB n = q ++ t → t ≠ [] → numGo k q = .cut := by
  intro n
  induction n using numB.induct with
  | case1 n h=>
   intro k q t hk ht hq h0;rw[numB_lt h] at hq;cases q with
   | nil=>rfl
   | cons c q=>
    simp only[List.cons_append,List.cons.injEq] at hq;exact absurd (List.append_eq_nil_iff.mp hq.2.symm).2 h0
  | case2 n h ih=>
   intro k q t hk ht hq h0
   have hk9:k<9:=by
    rcases Nat.lt_or_ge k 9 with h1|h1
    ·exact h1
    ·have:k=9:=by omega
     subst this;rw[top9] at ht;omega
   rw[numB_ge h] at hq;cases q with
   | nil=>rfl
   | cons c q=>
    simp only[List.cons_append,List.cons.injEq] at hq;simp only[numGo];rw[if_neg (by omega),if_neg (by omega),ih (k+1) q t (by omega) (by rw[top_succ hk9] at ht;omega) hq.2 h0]
def rawP:Rdr Nat:=fun l=>match numGo 0 l with
 | .cut => .bad 0
 | .bad => .bad l.length
 | .ok n r => .ok n r
theorem rawP_codec:Codec rawP numB (fun n=>n<18446744073709551616) where
 back x s hx:=by simp only[rawP,numGo_back x 0 s (by omega) hx (.inl rfl)]
 one l x r hl hp := by
   simp only[rawP] at hp;cases h:numGo 0 l with
   | cut=>rw[h] at hp;cases hp
   | bad=>rw[h] at hp;cases hp
   | ok n r'=>
    rw[h] at hp
    injection hp with h1 h2
    subst h1 h2;obtain ⟨h3,h4,_⟩:=numGo_one l 0 _ _ (by omega) hl h;exact ⟨h4,h3⟩
 cut x q t hx hq ht:=by simp only[rawP,numGo_cut x 0 q t (by omega) hx hq ht]
def numP (lo hi:Int):Rdr Int:=fun l=>match rawP l with
 | .bad n => .bad n
 | .ok n r=>if lo≤(n:Int)∧(n:Int)≤hi then .ok (n:Int) r else .bad l.length
theorem numP_codec (lo hi : Int) (h0 : 0 ≤ lo) (h1 : hi < 18446744073709551616) : Codec (numP lo hi) intB (fun n => lo ≤ n ∧ n ≤ hi) where
  back x s hx:=by
   have h:=rawP_codec.back x.toNat s (by omega);rw[intB_of (by omega) (by omega)];simp only[numP,h];rw[if_pos (by omega)]
   congr 1
   omega
  one l x r hl hp := by
    simp only[numP] at hp;cases h:rawP l with
    | bad n=>rw[h] at hp;cases hp
    | ok n r'=>
     rw[h] at hp;simp only at hp;by_cases h2:lo≤(n:Int)∧(n:Int)≤hi
     ·rw[if_pos h2] at hp
      injection hp with h3 h4
      subst h3 h4;obtain ⟨h5,h6⟩:=rawP_codec.one l n r' hl h;exact ⟨h2,by rw[intB_of (by omega) (by omega)];exact h6⟩
     ·rw[if_neg h2] at hp;cases hp
  cut x q t hx hq ht:=by
   rw[intB_of (by omega) (by omega)] at hq;simp only[numP,rawP_codec.cut x.toNat q t (by omega) hq ht]
def unsign (n:Nat):Int:=if n % 2=0 then ((n / 2:Nat):Int) else -((n / 2:Nat):Int) - 1
def signN (n:Int):Nat:=if 0≤n then (2 * n).toNat else (-(2 * (n+1))+1).toNat
def signB (n:Int):List Int:=numB (signN n)
def isI (n:Int):Prop := -9223372036854775808≤n∧n≤9223372036854775807
def signP:Rdr Int:=fun l=>match rawP l with
 | .bad n => .bad n
 | .ok n r => .ok (unsign n) r
theorem unsign_sign (n:Int):unsign (signN n)=n:=by unfold unsign signN;split<;>split<;>omega
theorem sign_unsign (n:Nat):signN (unsign n)=n:=by unfold unsign signN;split<;>split<;>omega
theorem signP_codec:Codec signP signB isI where
 back x s hx:=by
  have h:=rawP_codec.back (signN x) s (by unfold signN;unfold isI at hx;split<;>omega);simp only[signP,signB,h,unsign_sign]
 one l x r hl hp := by
   simp only[signP] at hp;cases h:rawP l with
   | bad n=>rw[h] at hp;cases hp
   | ok n r'=>
    rw[h] at hp
    injection hp with h3 h4
    subst h3 h4;obtain ⟨h5,h6⟩:=rawP_codec.one l n r' hl h;refine ⟨by unfold isI unsign;split<;>omega,by rw[signB,sign_unsign];exact h6⟩
 cut x q t hx hq ht:=by simp only[signP,rawP_codec.cut (signN x) q t (by unfold signN;unfold isI at hx;split<;>omega) hq ht]
def takeP (n:Nat):Rdr (List Int):=fun l=>if l.length<n then .bad 0 else .ok (l.take n) (l.drop n)
theorem takeP_codec (n:Nat):Codec (takeP n) id (fun x=>x.length=n∧IsB x) where
 back x s hx:=by
  simp only[takeP,id];rw[if_neg (by rw[List.length_append];omega),List.take_append_of_le_length (by omega),List.take_of_length_le (by omega),List.drop_append_of_le_length (by omega),List.drop_of_length_le (by omega),List.nil_append]
 one l x r hl hp := by
   simp only[takeP] at hp;by_cases h:l.length<n
   ·rw[if_pos h] at hp;cases hp
   ·rw[if_neg h] at hp
    injection hp with h3 h4
    subst h3 h4;exact ⟨⟨by rw[List.length_take];omega,fun x hx=>hl x (List.mem_of_mem_take hx)⟩,(List.take_append_drop n l).symm⟩
 cut x q t hx hq ht:=by
  simp only[takeP,id] at hq ⊢;have:=congrArg List.length hq;have h2:0<t.length:=List.length_pos_iff.mpr ht;rw[List.length_append] at this;rw[if_pos (by omega)]
def nameOk (b:List Int):Prop:=1≤b.length∧b.length≤16∧∀ x ∈ b,33≤x∧x≤126
def above (a s:ByteArray):Prop:=Op.bytesLess a.toList s.toList=true
theorem isB_bytesOf (s:ByteArray):IsB (bytesOf s):=by
 intro x hx;simp only[bytesOf,List.mem_map] at hx;obtain ⟨u,_,rfl⟩:=hx;have:=u.toNat_lt;omega
theorem strOf_bytesOf (s:ByteArray):strOfNums (bytesOf s)=s:=by
 have:(strOfNums (bytesOf s)).data=s.data:=by
  simp[strOfNums,bytesOf,Function.comp_def]
 cases s
 exact congrArg ByteArray.mk this
theorem bytesOf_strOf {l:List Int} (h:IsB l):bytesOf (strOfNums l)=l:=by
 unfold bytesOf strOfNums;simp only[List.map_map]
 conv=>rhs;rw[←List.map_id l]
 refine List.map_congr_left fun x hx=>?_;have:=h x hx;simp[UInt8.toNat_ofNat];omega
noncomputable def dcd (p:Prop):Bool:=@decide p (Classical.propDecidable p)
theorem dcd_iff {p:Prop}:dcd p=true ↔ p:=@decide_eq_true_iff p (Classical.propDecidable p)
theorem dcd_pos {p:Prop} (h:p):dcd p=true:=dcd_iff.mpr h
theorem dcd_neg {p:Prop} (h:¬p):dcd p=false:=by cases hd:dcd p with|false=>rfl|true=>exact absurd (dcd_iff.mp hd) h
noncomputable def nameIn (a : ByteArray) (n : Nat) : Rdr ByteArray := fun l => match takeP n l with
  | .bad k => .bad k
  | .ok b r=>if dcd (nameOk b∧above a (strOfNums b))=true then .ok (strOfNums b) r else .bad l.length
theorem nameIn_codec (a : ByteArray) (n : Nat) : Codec (nameIn a n) bytesOf (fun s => s.size = n ∧ nameOk (bytesOf s) ∧ above a s) where
  back x s hx:=by
   have h:=(takeP_codec n).back (bytesOf x) s ⟨by rw[bytesOf_length];exact hx.1,isB_bytesOf x⟩;simp only[id] at h;simp only[nameIn,h];rw[strOf_bytesOf,if_pos (dcd_pos hx.2)]
  one l x r hl hp := by
    simp only[nameIn] at hp;cases h:takeP n l with
    | bad n=>rw[h] at hp;cases hp
    | ok b r'=>
     rw[h] at hp;simp only at hp;by_cases h2:nameOk b∧above a (strOfNums b)
     ·rw[if_pos (dcd_pos h2)] at hp
      injection hp with h3 h4
      subst h3 h4;obtain ⟨⟨h5,h6⟩,h7⟩:=(takeP_codec n).one l b r' hl h;rw[bytesOf_strOf h6];exact ⟨⟨by rw[strOfNums_size];exact h5,h2⟩,h7⟩
     ·rw[if_neg (by rw[dcd_neg h2];decide)] at hp;cases hp
  cut x q t hx hq ht:=by
   have h:=(takeP_codec n).cut (bytesOf x) q t ⟨by rw[bytesOf_length];exact hx.1,isB_bytesOf x⟩ hq ht;simp only[nameIn,h]
def textB (s:ByteArray):List Int:=intB s.size++bytesOf s
noncomputable def nameP (a:ByteArray):Rdr ByteArray:=bnd (numP 1 16) fun n=>nameIn a n.toNat
def nameV (a s:ByteArray):Prop:=nameOk (bytesOf s)∧above a s
theorem nameP_codec (a:ByteArray):Codec (nameP a) textB (nameV a):=by
 refine (Codec.bnd (fun s:ByteArray=>(s.size:Int)) (numP_codec 1 16 (by omega) (by omega)) (e2:=bytesOf) (v2:=nameV a) fun n hn=>?_).congr ?_ (fun _ _=>rfl)
 ·refine (nameIn_codec a n.toNat).congr (fun y=>?_) (fun _ _=>rfl);unfold nameV;constructor
  ·exact fun h=>⟨h.2,by omega⟩
  ·exact fun h=>⟨by omega,h.1⟩
 ·intro y;unfold nameV nameOk;rw[bytesOf_length];constructor
  ·exact fun h=>h.2
  ·exact fun h=>⟨by omega,h⟩
theorem above_nil {s:ByteArray} (h:nameOk (bytesOf s)):above ⟨#[]⟩ s:=by
 have h1:=h.1;rw[bytesOf_length] at h1;unfold above
 have:s.toList≠[]:=by
  intro h2;have h3:=congrArg List.length h2;rw[ByteArray.toList_eq,data_length,List.length_nil] at h3;omega
 cases hs:s.toList with
 | nil=>exact absurd hs this
 | cons c r=>rw[ByteArray.toList_eq];rfl
theorem nameV_nil {s:ByteArray}:nameV ⟨#[]⟩ s ↔ nameOk (bytesOf s):=⟨fun h=>h.1,fun h=>⟨h,above_nil h⟩⟩
structure Op where
 kind:Int
 name:ByteArray
 a:Int
 b:Int
structure Msg where
 kind:Int
 name:ByteArray
 cap:Int
 recaps:Int
 epoch:S25
 over:S25
 rights:S25
 held:Int
 call:S25
 op:Op
 err:Int
 value:Int
 views:List S87
structure Seg where
 src:Int
 dst:Int
 seq:Int
 ack:Int
 data:List Int
structure Rep where
 call:S25
 err:Int
 value:Int
def eB:ByteArray:=⟨#[]⟩
def zOp:Op:=⟨0,eB,0,0⟩
def zMsg:Msg:=⟨0,eB,0,0,z25,z25,z25,0,z25,zOp,0,0,[]⟩
def zSeg:Seg:=⟨0,0,0,0,[]⟩
def big:Int:=1099511627776
def pairP (l1 h1 l2 h2:Int):Rdr S25:=bnd (numP l1 h1) fun x=>bnd (numP l2 h2) fun y=>ret ⟨x,y⟩
def pairB (x:S25):List Int:=intB x.f0++intB x.f1
def pairV (l1 h1 l2 h2:Int) (x:S25):Prop:=(l1≤x.f0∧x.f0≤h1)∧l2≤x.f1∧x.f1≤h2
theorem pairP_codec (l1 h1 l2 h2:Int) (a1:0≤l1) (a2:h1<18446744073709551616) (a3:0≤l2) (a4:h2<18446744073709551616):Codec (pairP l1 h1 l2 h2) pairB (pairV l1 h1 l2 h2):=by
 refine (Codec.bnd (fun x:S25=>x.f0) (numP_codec l1 h1 a1 a2) (e2:=fun x=>intB x.f1) (v2:=fun x=>l2≤x.f1∧x.f1≤h2) fun x hx=>?_).congr (fun _=>Iff.rfl) (fun _ _=>rfl);refine (Codec.bnd (fun y:S25=>y.f1) (numP_codec l2 h2 a3 a4) (e2:=fun _=>[]) (v2:=fun y:S25=>y.f0=x) fun y hy=>?_).congr (fun _=>Iff.rfl) (fun _ _=>by rw[List.append_nil]);refine (Codec.ret _).congr (fun z=>⟨fun h=>by subst h;exact ⟨rfl,rfl⟩,fun h=>?_⟩) (fun _ _=>rfl);obtain ⟨rfl,rfl⟩:=h;rfl
def callP:Rdr S25:=pairP 0 63 1 big
def epochP:Rdr S25:=pairP 1 big 0 15
def rightsP:Rdr S25:=pairP 0 big 0 big
def capP:Rdr S25:=pairP 1 big 0 big
def callV:S25→Prop:=pairV 0 63 1 big
def epochV:S25→Prop:=pairV 1 big 0 15
def rightsV:S25→Prop:=pairV 0 big 0 big
def capV:S25→Prop:=pairV 1 big 0 big
theorem callP_codec:Codec callP pairB callV:=pairP_codec _ _ _ _ (by decide) (by decide) (by decide) (by decide)
theorem epochP_codec:Codec epochP pairB epochV:=pairP_codec _ _ _ _ (by decide) (by decide) (by decide) (by decide)
theorem rightsP_codec:Codec rightsP pairB rightsV:=pairP_codec _ _ _ _ (by decide) (by decide) (by decide) (by decide)
theorem capP_codec:Codec capP pairB capV:=pairP_codec _ _ _ _ (by decide) (by decide) (by decide) (by decide)
noncomputable def opP:Rdr Op:=bnd (numP 1 11) fun k=>bnd (nameP eB) fun s=>bnd signP fun a=>bnd signP fun b=>ret ⟨k,s,a,b⟩
def opB (o:Op):List Int:=intB o.kind++(textB o.name++(signB o.a++signB o.b))
def opV (o:Op):Prop:=(1≤o.kind∧o.kind≤11)∧nameV eB o.name∧isI o.a∧isI o.b
theorem opP_codec:Codec opP opB opV:=by
 refine (Codec.bnd (fun o:Op=>o.kind) (numP_codec 1 11 (by omega) (by omega)) (e2:=fun o=>textB o.name++(signB o.a++signB o.b)) (v2:=fun o=>nameV eB o.name∧isI o.a∧isI o.b) fun k hk=>?_).congr (fun _=>Iff.rfl) (fun _ _=>rfl);refine (Codec.bnd (fun o:Op=>o.name) (nameP_codec eB) (e2:=fun o=>signB o.a++signB o.b) (v2:=fun o=>(isI o.a∧isI o.b)∧o.kind=k) fun s hs=>?_).congr (fun o=>⟨fun h=>⟨⟨h.1,h.2.1⟩,h.2.2⟩,fun h=>⟨h.1.1,h.1.2,h.2⟩⟩) (fun _ _=>rfl);refine (Codec.bnd (fun o:Op=>o.a) signP_codec (e2:=fun o=>signB o.b) (v2:=fun o=>isI o.b∧o.kind=k∧o.name=s) fun a ha=>?_).congr (fun o=>⟨fun h=>⟨⟨⟨h.1,h.2.1⟩,h.2.2.1⟩,h.2.2.2⟩,fun h=>⟨h.1.1.1,h.1.1.2,h.1.2,h.2⟩⟩) (fun _ _=>rfl);refine (Codec.bnd (fun o:Op=>o.b) signP_codec (e2:=fun _=>[]) (v2:=fun o=>o.kind=k∧o.name=s∧o.a=a) fun b hb=>?_).congr (fun o=>⟨fun h=>⟨⟨h.1,h.2.1,h.2.2.1⟩,h.2.2.2⟩,fun h=>⟨h.1.1,h.1.2.1,h.1.2.2,h.2⟩⟩) (fun _ _=>by rw[List.append_nil]);refine (Codec.ret _).congr (fun o=>⟨fun h=>by subst h;exact ⟨⟨rfl,rfl,rfl⟩,rfl⟩,fun h=>?_⟩) (fun _ _=>rfl);obtain ⟨⟨rfl,rfl,rfl⟩,rfl⟩:=h;rfl
noncomputable def viewP (a:ByteArray):Rdr S87:=bnd (nameP a) fun s=>bnd capP fun c=>bnd (numP 0 big) fun v=>bnd rightsP fun r=>bnd (numP 0 big) fun h=>ret ⟨s,c.f0,c.f1,v,r,h⟩
def viewB (v:S87):List Int:=textB v.f0++(pairB ⟨v.f1,v.f2⟩++(intB v.f3++(pairB v.f4++intB v.f5)))
def viewW (v:S87):Prop:=nameOk (bytesOf v.f0)∧capV ⟨v.f1,v.f2⟩∧(0≤v.f3∧v.f3≤big)∧rightsV v.f4∧(0≤v.f5∧v.f5≤big)
def viewV (a:ByteArray) (v:S87):Prop:=nameV a v.f0∧capV ⟨v.f1,v.f2⟩∧(0≤v.f3∧v.f3≤big)∧rightsV v.f4∧(0≤v.f5∧v.f5≤big)
theorem viewV_iff {a:ByteArray} {v:S87}:viewV a v ↔ above a v.f0∧viewW v:=by
 unfold viewV viewW nameV;constructor
 ·exact fun h=>⟨h.1.2,h.1.1,h.2⟩
 ·exact fun h=>⟨⟨h.2.1,h.1⟩,h.2.2⟩
theorem viewP_codec (a:ByteArray):Codec (viewP a) viewB (viewV a):=by
 refine (Codec.bnd (fun v:S87=>v.f0) (nameP_codec a) (e2:=fun v=>pairB ⟨v.f1,v.f2⟩++(intB v.f3++(pairB v.f4++intB v.f5))) (v2:=fun v=>capV ⟨v.f1,v.f2⟩∧(0≤v.f3∧v.f3≤big)∧rightsV v.f4∧(0≤v.f5∧v.f5≤big)) fun s hs=>?_).congr (fun _=>Iff.rfl) (fun _ _=>rfl);refine (Codec.bnd (fun v:S87=>(⟨v.f1,v.f2⟩:S25)) capP_codec (e2:=fun v=>intB v.f3++(pairB v.f4++intB v.f5)) (v2:=fun v=>((0≤v.f3∧v.f3≤big)∧rightsV v.f4∧(0≤v.f5∧v.f5≤big))∧v.f0=s) fun c hc=>?_).congr (fun v=>⟨fun h=>⟨⟨h.1,h.2.1⟩,h.2.2⟩,fun h=>⟨h.1.1,h.1.2,h.2⟩⟩) (fun _ _=>rfl);refine (Codec.bnd (fun v:S87=>v.f3) (numP_codec 0 big (by decide) (by decide)) (e2:=fun v=>pairB v.f4++intB v.f5) (v2:=fun v=>(rightsV v.f4∧(0≤v.f5∧v.f5≤big))∧v.f0=s∧(⟨v.f1,v.f2⟩:S25)=c) fun n hn=>?_).congr (fun v=>⟨fun h=>⟨⟨⟨h.1,h.2.1⟩,h.2.2.1⟩,h.2.2.2⟩,fun h=>⟨h.1.1.1,h.1.1.2,h.1.2,h.2⟩⟩) (fun _ _=>rfl);refine (Codec.bnd (fun v:S87=>v.f4) rightsP_codec (e2:=fun v=>intB v.f5) (v2:=fun v=>(0≤v.f5∧v.f5≤big)∧v.f0=s∧(⟨v.f1,v.f2⟩:S25)=c∧v.f3=n) fun r hr=>?_).congr (fun v=>⟨fun h=>⟨⟨⟨h.1,h.2.1⟩,h.2.2.1,h.2.2.2.1⟩,h.2.2.2.2⟩,fun h=>⟨h.1.1.1,h.1.1.2,h.1.2.1,h.1.2.2,h.2⟩⟩) (fun _ _=>rfl);refine (Codec.bnd (fun v:S87=>v.f5) (numP_codec 0 big (by decide) (by decide)) (e2:=fun _=>[]) (v2:=fun v=>v.f0=s∧(⟨v.f1,v.f2⟩:S25)=c∧v.f3=n∧v.f4=r) fun k hk=>?_).congr (fun v=>⟨fun h=>⟨⟨h.1,h.2.1,h.2.2.1,h.2.2.2.1⟩,h.2.2.2.2⟩,fun h=>⟨h.1.1,h.1.2.1,h.1.2.2.1,h.1.2.2.2,h.2⟩⟩) (fun _ _=>by rw[List.append_nil]);refine (Codec.ret _).congr (fun v=>⟨fun h=>by subst h;exact ⟨⟨rfl,rfl,rfl,rfl⟩,rfl⟩,fun h=>?_⟩) (fun _ _=>rfl);obtain ⟨⟨rfl,rfl,rfl,rfl⟩,rfl⟩:=h;rfl
noncomputable def viewsGo:Nat→ByteArray→Rdr (List S87)
 | 0,_=>ret []
 | n+1,a=>bnd (viewP a) fun v=>bnd (viewsGo n v.f0) fun r=>ret (v::r)
def viewsB (l:List S87):List Int:=l.flatMap viewB
def viewsV:ByteArray→List S87→Prop
 | _,[]=>True
 | a,v::r=>viewV a v∧viewsV v.f0 r
theorem viewsGo_codec : ∀ (n : Nat) (a : ByteArray), Codec (viewsGo n a) viewsB (fun l => l.length = n ∧ viewsV a l) := by
  intro n
  induction n with
  | zero=>
   intro a;refine (Codec.ret _).congr (fun l=>⟨fun h=>by subst h;exact ⟨rfl,trivial⟩,fun h=>List.length_eq_zero_iff.mp h.1⟩) (fun l h=>?_);rw[List.length_eq_zero_iff.mp h.1];rfl
  | succ n ih=>
   intro a
   have h1 : Codec (viewsGo (n + 1) a) (fun l => viewB (l.headD z87) ++ viewsB l.tail) (fun l => viewV a (l.headD z87) ∧ l.length = n + 1 ∧ viewsV (l.headD z87).f0 l.tail) := by
     refine (Codec.bnd (fun l:List S87=>l.headD z87) (viewP_codec a) (e2:=fun l=>viewsB l.tail) (v2:=fun l=>l.length=n+1∧viewsV (l.headD z87).f0 l.tail) fun v hv=>?_).congr (fun _=>Iff.rfl) (fun _ _=>rfl);refine (Codec.bnd (fun l:List S87=>l.tail) (ih v.f0) (e2:=fun _=>[]) (v2:=fun l=>l.length=n+1∧l.headD z87=v) fun r hr=>?_).congr (fun l=>⟨fun h=>⟨⟨h.2.1,by rw[h.2.2];exact h.1.2⟩,h.2.2⟩,fun h=>⟨⟨by rw[List.length_tail,h.1.1];rfl,by rw[←h.2];exact h.1.2⟩,h.1.1,h.2⟩⟩) (fun _ _=>by rw[List.append_nil]);refine (Codec.ret _).congr (fun l=>⟨fun h=>by subst h;exact ⟨⟨by rw[List.length_cons,hr.1],rfl⟩,rfl⟩,fun h=>?_⟩) (fun _ _=>rfl);obtain ⟨⟨h2,h3⟩,h4⟩:=h;cases l with
     | nil=>cases h2
     | cons x t=>
      simp only[List.headD_cons,List.tail_cons] at h3 h4;rw[h3,h4]
   refine h1.congr (fun l=>?_) (fun l h=>?_)
   ·cases l with
    | nil=>exact ⟨fun h=>absurd h.2.1 (by simp),fun h=>absurd h.1 (by simp)⟩
    | cons v r=>exact ⟨fun h=>⟨h.2.1,h.1,h.2.2⟩,fun h=>⟨h.2.1,h.1,h.2.2⟩⟩
   ·cases l with
    | nil=>exact absurd h.1 (by simp)
    | cons v r=>rfl
noncomputable def viewsP:Rdr (List S87):=bnd (numP 0 64) fun n=>viewsGo n.toNat eB
def listB (l:List S87):List Int:=intB l.length++viewsB l
def listV (l:List S87):Prop:=l.length≤64∧viewsV eB l
theorem viewsP_codec:Codec viewsP listB listV:=by
 refine (Codec.bnd (fun l:List S87=>(l.length:Int)) (numP_codec 0 64 (by omega) (by omega)) (e2:=viewsB) (v2:=fun l=>viewsV eB l) fun n hn=>?_).congr (fun l=>⟨fun h=>⟨by omega,h.2⟩,fun h=>⟨by have:=h.1;omega,h.2⟩⟩) (fun _ _=>rfl);exact (viewsGo_codec n.toNat eB).congr (fun l=>⟨fun h=>⟨h.2,by omega⟩,fun h=>⟨by omega,h.1⟩⟩) (fun _ _=>rfl)
def mAsk (k:Int) (c:S25) (o:Op):Msg:={ zMsg with kind:=k,call:=c,op:=o }
def mDig (k:Int) (l:List S87):Msg:={ zMsg with kind:=k,views:=l }
def mTold (k:Int) (c:S25) (s:ByteArray) (e:Int) (p:S25):Msg:={ zMsg with kind:=k,call:=c,name:=s,err:=e,cap:=p.f0,recaps:=p.f1 }
def capped (e:Int):Prop:=e=0∨e=101
instance (e:Int):Decidable (capped e):=inferInstanceAs (Decidable (_∨_))
def mOf (k:Int) (s:ByteArray) (p ep ov rt:S25) (h:Int):Msg:={ zMsg with kind:=k,name:=s,cap:=p.f0,recaps:=p.f1,epoch:=ep,over:=ov,rights:=rt,held:=h }
def hasEp (k:Int):Prop:=3≤k∧k≤7
def hasRt (k:Int):Prop:=(4≤k∧k≤6)∨k=8∨k=9
instance (k:Int):Decidable (hasEp k):=inferInstanceAs (Decidable (_∧_))
instance (k:Int):Decidable (hasRt k):=inferInstanceAs (Decidable (_∨_))
def optP {α:Type} (c:Prop) [Decidable c] (z:α) (p:Rdr α):Rdr α:=if c then p else ret z
def optB {α:Type} (c:Prop) [Decidable c] (e:α→List Int) (x:α):List Int:=if c then e x else []
def optV {α:Type} (c:Prop) [Decidable c] (z:α) (v:α→Prop) (x:α):Prop:=if c then v x else x=z
theorem optP_codec {α:Type} (c:Prop) [Decidable c] (z:α) {p:Rdr α} {e:α→List Int} {v:α→Prop} (h:Codec p e v):Codec (optP c z p) (optB c e) (optV c z v):=by
 by_cases hc:c
 ·have e1:optP c z p=p:=if_pos hc;rw[e1];exact h.congr (fun y=>by unfold optV;rw[if_pos hc]) (fun y _=>by unfold optB;rw[if_pos hc])
 ·have e1:optP c z p=Sp.ret z:=if_neg hc;rw[e1];exact (Codec.ret z).congr (fun y=>by unfold optV;rw[if_neg hc]) (fun y _=>by unfold optB;rw[if_neg hc])
noncomputable def askP (k:Int):Rdr Msg:=bnd callP fun c=>bnd opP fun o=>ret (mAsk k c o)
noncomputable def toldP (k:Int):Rdr Msg:=bnd callP fun c=>bnd (nameP eB) fun s=>bnd (numP 0 255) fun e=>bnd (optP (capped e) z25 capP) fun p=>ret (mTold k c s e p)
noncomputable def digP (k:Int):Rdr Msg:=bnd viewsP fun l=>ret (mDig k l)
noncomputable def ofP (k:Int):Rdr Msg:=bnd (nameP eB) fun s=>bnd capP fun p=>bnd (optP (hasEp k) z25 epochP) fun ep=>bnd (optP (k=7) z25 epochP) fun ov=>bnd (optP (hasRt k) z25 rightsP) fun rt=>bnd (optP (k=4) 0 (numP 0 big)) fun h=>ret (mOf k s p ep ov rt h)
noncomputable def restP (k:Int):Rdr Msg:=if k=1 then askP k else if k=2 then toldP k else if k=10 then digP k else ofP k
noncomputable def msgP:Rdr Msg:=bnd (numP 1 10) restP
def capOf (m:Msg):S25:=⟨m.cap,m.recaps⟩
def restB (m:Msg):List Int:=
 if m.kind=1 then pairB m.call++opB m.op
 else if m.kind=2 then pairB m.call++(textB m.name++(intB m.err++optB (capped m.err) pairB (capOf m)))
 else if m.kind=10 then listB m.views
 else textB m.name++(pairB (capOf m)++(optB (hasEp m.kind) pairB m.epoch++(optB (m.kind=7) pairB m.over++(optB (hasRt m.kind) pairB m.rights++optB (m.kind=4) intB m.held))))
def msgB (m:Msg):List Int:=intB m.kind++restB m
def restV (m:Msg):Prop:=
 if m.kind=1 then callV m.call∧opV m.op∧m=mAsk m.kind m.call m.op
 else if m.kind=2 then callV m.call∧nameV eB m.name∧(0≤m.err∧m.err≤255)∧optV (capped m.err) z25 capV (capOf m)∧m=mTold m.kind m.call m.name m.err (capOf m)
 else if m.kind=10 then listV m.views∧m=mDig m.kind m.views
 else nameV eB m.name∧capV (capOf m)∧optV (hasEp m.kind) z25 epochV m.epoch∧optV (m.kind=7) z25 epochV m.over∧optV (hasRt m.kind) z25 rightsV m.rights∧optV (m.kind=4) 0 (fun h=>0≤h∧h≤big) m.held∧m=mOf m.kind m.name (capOf m) m.epoch m.over m.rights m.held
def msgV (m:Msg):Prop:=(1≤m.kind∧m.kind≤10)∧restV m
theorem askP_codec (k:Int):Codec (askP k) (fun m=>pairB m.call++opB m.op) (fun m=>callV m.call∧opV m.op∧m=mAsk k m.call m.op):=by
 refine (Codec.bnd (fun m:Msg=>m.call) callP_codec (e2:=fun m=>opB m.op) (v2:=fun m=>opV m.op∧m=mAsk k m.call m.op) fun c hc=>?_).congr (fun _=>Iff.rfl) (fun _ _=>rfl);refine (Codec.bnd (fun m:Msg=>m.op) opP_codec (e2:=fun _=>[]) (v2:=fun m=>m=mAsk k m.call m.op∧m.call=c) fun o ho=>?_).congr (fun m=>⟨fun h=>⟨⟨h.1,h.2.1⟩,h.2.2⟩,fun h=>⟨h.1.1,h.1.2,h.2⟩⟩) (fun _ _=>by rw[List.append_nil]);refine (Codec.ret _).congr (fun m=>⟨fun h=>by subst h;exact ⟨⟨rfl,rfl⟩,rfl⟩,fun h=>?_⟩) (fun _ _=>rfl);obtain ⟨⟨h1,rfl⟩,rfl⟩:=h;exact h1
theorem digP_codec (k:Int):Codec (digP k) (fun m=>listB m.views) (fun m=>listV m.views∧m=mDig k m.views):=by
 refine (Codec.bnd (fun m:Msg=>m.views) viewsP_codec (e2:=fun _=>[]) (v2:=fun m=>m=mDig k m.views) fun l hl=>?_).congr (fun _=>Iff.rfl) (fun _ _=>by rw[List.append_nil]);refine (Codec.ret _).congr (fun m=>⟨fun h=>by subst h;exact ⟨rfl,rfl⟩,fun h=>?_⟩) (fun _ _=>rfl);obtain ⟨h1,rfl⟩:=h;exact h1
theorem toldP_codec (k:Int):Codec (toldP k) (fun m=>pairB m.call++(textB m.name++(intB m.err++optB (capped m.err) pairB (capOf m))))
  (fun m=>callV m.call∧nameV eB m.name∧(0≤m.err∧m.err≤255)∧optV (capped m.err) z25 capV (capOf m)∧m=mTold k m.call m.name m.err (capOf m)):=by
 refine (Codec.bnd (fun m:Msg=>m.call) callP_codec (e2:=fun m=>textB m.name++(intB m.err++optB (capped m.err) pairB (capOf m))) (v2:=fun m=>nameV eB m.name∧(0≤m.err∧m.err≤255)∧optV (capped m.err) z25 capV (capOf m)∧m=mTold k m.call m.name m.err (capOf m)) fun c hc=>?_).congr (fun _=>Iff.rfl) (fun _ _=>rfl);refine (Codec.bnd (fun m:Msg=>m.name) (nameP_codec eB) (e2:=fun m=>intB m.err++optB (capped m.err) pairB (capOf m)) (v2:=fun m=>((0≤m.err∧m.err≤255)∧optV (capped m.err) z25 capV (capOf m)∧m=mTold k m.call m.name m.err (capOf m))∧m.call=c) fun s hs=>?_).congr (fun m=>⟨fun h=>⟨⟨h.1,h.2.1⟩,h.2.2⟩,fun h=>⟨h.1.1,h.1.2,h.2⟩⟩) (fun _ _=>rfl);refine (Codec.bnd (fun m:Msg=>m.err) (numP_codec 0 255 (by omega) (by omega)) (e2:=fun m=>optB (capped m.err) pairB (capOf m)) (v2:=fun m=>(optV (capped m.err) z25 capV (capOf m)∧m=mTold k m.call m.name m.err (capOf m))∧m.call=c∧m.name=s) fun e he=>?_).congr (fun m=>⟨fun h=>⟨⟨⟨h.1,h.2.1⟩,h.2.2.1⟩,h.2.2.2⟩,fun h=>⟨h.1.1.1,h.1.1.2,h.1.2,h.2⟩⟩) (fun _ _=>rfl);refine (Codec.bnd (fun m:Msg=>capOf m) (optP_codec (capped e) z25 capP_codec) (e2:=fun _=>[]) (v2:=fun m=>m=mTold k m.call m.name m.err (capOf m)∧m.call=c∧m.name=s∧m.err=e) fun p hp=>?_).congr (fun m=>⟨fun h=>⟨⟨⟨by rw[h.2.2.2.2];exact h.1,h.2.1⟩,h.2.2.1,h.2.2.2.1⟩,h.2.2.2.2⟩,fun h=>⟨by rw[←h.2];exact h.1.1.1,h.1.1.2,h.1.2.1,h.1.2.2,h.2⟩⟩) (fun m h=>by rw[List.append_nil,h.2]);refine (Codec.ret _).congr (fun m=>⟨fun h=>by subst h;exact ⟨⟨rfl,rfl,rfl,rfl⟩,rfl⟩,fun h=>?_⟩) (fun _ _=>rfl);obtain ⟨⟨h1,rfl,rfl,rfl⟩,rfl⟩:=h;exact h1
theorem ofP_codec (k:Int):Codec (ofP k) (fun m=>textB m.name++(pairB (capOf m)++(optB (hasEp k) pairB m.epoch++(optB (k=7) pairB m.over++(optB (hasRt k) pairB m.rights++optB (k=4) intB m.held)))))
  (fun m=>nameV eB m.name∧capV (capOf m)∧optV (hasEp k) z25 epochV m.epoch∧optV (k=7) z25 epochV m.over∧optV (hasRt k) z25 rightsV m.rights∧optV (k=4) 0 (fun h=>0≤h∧h≤big) m.held∧m=mOf k m.name (capOf m) m.epoch m.over m.rights m.held):=by
 refine (Codec.bnd (fun m:Msg=>m.name) (nameP_codec eB) (e2:=fun m=>pairB (capOf m)++(optB (hasEp k) pairB m.epoch++(optB (k=7) pairB m.over++(optB (hasRt k) pairB m.rights++optB (k=4) intB m.held)))) (v2:=fun m=>capV (capOf m)∧optV (hasEp k) z25 epochV m.epoch∧optV (k=7) z25 epochV m.over∧optV (hasRt k) z25 rightsV m.rights∧optV (k=4) 0 (fun h=>0≤h∧h≤big) m.held∧m=mOf k m.name (capOf m) m.epoch m.over m.rights m.held) fun s hs=>?_).congr (fun _=>Iff.rfl) (fun _ _=>rfl);refine (Codec.bnd (fun m:Msg=>capOf m) capP_codec (e2:=fun m=>optB (hasEp k) pairB m.epoch++(optB (k=7) pairB m.over++(optB (hasRt k) pairB m.rights++optB (k=4) intB m.held))) (v2:=fun m=>(optV (hasEp k) z25 epochV m.epoch∧optV (k=7) z25 epochV m.over∧optV (hasRt k) z25 rightsV m.rights∧optV (k=4) 0 (fun h=>0≤h∧h≤big) m.held∧m=mOf k m.name (capOf m) m.epoch m.over m.rights m.held)∧m.name=s) fun p hp=>?_).congr (fun m=>⟨fun h=>⟨⟨h.1,h.2.1⟩,h.2.2⟩,fun h=>⟨h.1.1,h.1.2,h.2⟩⟩) (fun _ _=>rfl);refine (Codec.bnd (fun m:Msg=>m.epoch) (optP_codec (hasEp k) z25 epochP_codec) (e2:=fun m=>optB (k=7) pairB m.over++(optB (hasRt k) pairB m.rights++optB (k=4) intB m.held)) (v2:=fun m=>(optV (k=7) z25 epochV m.over∧optV (hasRt k) z25 rightsV m.rights∧optV (k=4) 0 (fun h=>0≤h∧h≤big) m.held∧m=mOf k m.name (capOf m) m.epoch m.over m.rights m.held)∧m.name=s∧capOf m=p) fun ep hep=>?_).congr (fun m=>⟨fun h=>⟨⟨⟨h.1,h.2.1⟩,h.2.2.1⟩,h.2.2.2⟩,fun h=>⟨h.1.1.1,h.1.1.2,h.1.2,h.2⟩⟩) (fun _ _=>rfl);refine (Codec.bnd (fun m:Msg=>m.over) (optP_codec (k=7) z25 epochP_codec) (e2:=fun m=>optB (hasRt k) pairB m.rights++optB (k=4) intB m.held) (v2:=fun m=>(optV (hasRt k) z25 rightsV m.rights∧optV (k=4) 0 (fun h=>0≤h∧h≤big) m.held∧m=mOf k m.name (capOf m) m.epoch m.over m.rights m.held)∧m.name=s∧capOf m=p∧m.epoch=ep) fun ov hov=>?_).congr (fun m=>⟨fun h=>⟨⟨⟨h.1,h.2.1⟩,h.2.2.1,h.2.2.2.1⟩,h.2.2.2.2⟩,fun h=>⟨h.1.1.1,h.1.1.2,h.1.2.1,h.1.2.2,h.2⟩⟩) (fun _ _=>rfl);refine (Codec.bnd (fun m:Msg=>m.rights) (optP_codec (hasRt k) z25 rightsP_codec) (e2:=fun m=>optB (k=4) intB m.held) (v2:=fun m=>(optV (k=4) 0 (fun h=>0≤h∧h≤big) m.held∧m=mOf k m.name (capOf m) m.epoch m.over m.rights m.held)∧m.name=s∧capOf m=p∧m.epoch=ep∧m.over=ov) fun rt hrt=>?_).congr (fun m=>⟨fun h=>⟨⟨⟨h.1,h.2.1⟩,h.2.2.1,h.2.2.2.1,h.2.2.2.2.1⟩,h.2.2.2.2.2⟩,fun h=>⟨h.1.1.1,h.1.1.2,h.1.2.1,h.1.2.2.1,h.1.2.2.2,h.2⟩⟩) (fun _ _=>rfl);refine (Codec.bnd (fun m:Msg=>m.held) (optP_codec (k=4) 0 (numP_codec 0 big (by decide) (by decide))) (e2:=fun _=>[]) (v2:=fun m=>m=mOf k m.name (capOf m) m.epoch m.over m.rights m.held∧m.name=s∧capOf m=p∧m.epoch=ep∧m.over=ov∧m.rights=rt) fun h hh=>?_).congr (fun m=>⟨fun h=>⟨⟨⟨h.1,h.2.1⟩,h.2.2.1,h.2.2.2.1,h.2.2.2.2.1,h.2.2.2.2.2.1⟩,h.2.2.2.2.2.2⟩,fun h=>⟨h.1.1.1,h.1.1.2,h.1.2.1,h.1.2.2.1,h.1.2.2.2.1,h.1.2.2.2.2,h.2⟩⟩) (fun _ _=>by rw[List.append_nil]);refine (Codec.ret _).congr (fun m=>⟨fun h=>by subst h;exact ⟨⟨rfl,rfl,rfl,rfl,rfl,rfl⟩,rfl⟩,fun h=>?_⟩) (fun _ _=>rfl);obtain ⟨⟨h1,rfl,rfl,rfl,rfl,rfl⟩,rfl⟩:=h;exact h1
theorem kind_of (k:Int) (m:Msg):(m=mAsk k m.call m.op→m.kind=k)∧(m=mDig k m.views→m.kind=k)∧(m=mTold k m.call m.name m.err (capOf m)→m.kind=k)∧(m=mOf k m.name (capOf m) m.epoch m.over m.rights m.held→m.kind=k):=
 ⟨fun h=>by rw[h];rfl,fun h=>by rw[h];rfl,fun h=>by rw[h];rfl,fun h=>by rw[h];rfl⟩
theorem restP_codec (k:Int):Codec (restP k) restB (fun m=>restV m∧m.kind=k):=by
 unfold restP;by_cases h1:k=1
 ·rw[if_pos h1];refine (askP_codec k).congr (fun m=>?_) (fun m h=>by unfold restB;rw[if_pos (by rw[h.2];exact h1)]);constructor
  ·intro h;have hk:=(kind_of k m).1 h.2.2;exact ⟨by unfold restV;rw[if_pos (by rw[hk];exact h1),hk];exact h,hk⟩
  ·rintro ⟨h,hk⟩;unfold restV at h;rw[if_pos (by rw[hk];exact h1),hk] at h;exact h
 rw[if_neg h1];by_cases h2:k=2
 ·rw[if_pos h2];refine (toldP_codec k).congr (fun m=>?_) (fun m h=>by unfold restB;rw[if_neg (by rw[h.2];exact h1),if_pos (by rw[h.2];exact h2)]);constructor
  ·intro h;have hk:=(kind_of k m).2.2.1 h.2.2.2.2;exact ⟨by unfold restV;rw[if_neg (by rw[hk];exact h1),if_pos (by rw[hk];exact h2),hk];exact h,hk⟩
  ·rintro ⟨h,hk⟩;unfold restV at h;rw[if_neg (by rw[hk];exact h1),if_pos (by rw[hk];exact h2),hk] at h;exact h
 rw[if_neg h2];by_cases h3:k=10
 ·rw[if_pos h3];refine (digP_codec k).congr (fun m=>?_) (fun m h=>by unfold restB;rw[if_neg (by rw[h.2];exact h1),if_neg (by rw[h.2];exact h2),if_pos (by rw[h.2];exact h3)]);constructor
  ·intro h;have hk:=(kind_of k m).2.1 h.2;exact ⟨by unfold restV;rw[if_neg (by rw[hk];exact h1),if_neg (by rw[hk];exact h2),if_pos (by rw[hk];exact h3),hk];exact h,hk⟩
  ·rintro ⟨h,hk⟩;unfold restV at h;rw[if_neg (by rw[hk];exact h1),if_neg (by rw[hk];exact h2),if_pos (by rw[hk];exact h3),hk] at h;exact h
 rw[if_neg h3];refine (ofP_codec k).congr (fun m=>?_) (fun m h=>by obtain ⟨h,rfl⟩:=h;unfold restB;rw[if_neg h1,if_neg h2,if_neg h3]);constructor
 ·intro h;have hk:=(kind_of k m).2.2.2 h.2.2.2.2.2.2;subst hk;exact ⟨by unfold restV;rw[if_neg h1,if_neg h2,if_neg h3];exact h,rfl⟩
 ·rintro ⟨h,rfl⟩;unfold restV at h;rw[if_neg h1,if_neg h2,if_neg h3] at h;exact h
theorem msgP_codec:Codec msgP msgB msgV:=
 (Codec.bnd (fun m:Msg=>m.kind) (numP_codec 1 10 (by omega) (by omega)) (e2:=restB) (v2:=restV) fun k hk=>restP_codec k).congr (fun _=>Iff.rfl) (fun _ _=>rfl)
def segP:Rdr Seg:=bnd (numP 0 15) fun f=>bnd (numP 0 15) fun t=>bnd (numP 0 big) fun q=>bnd (numP 0 big) fun a=>bnd (numP (if q=0 then 0 else 1) (if q=0 then 0 else 4000)) fun n=>bnd (takeP n.toNat) fun d=>ret ⟨f,t,q,a,d⟩
def segB (s:Seg):List Int:=intB s.src++(intB s.dst++(intB s.seq++(intB s.ack++(intB s.data.length++s.data))))
def segV (s:Seg):Prop:=(0≤s.src∧s.src≤15)∧(0≤s.dst∧s.dst≤15)∧(0≤s.seq∧s.seq≤big)∧(0≤s.ack∧s.ack≤big)∧((if s.seq=0 then 0 else 1)≤(s.data.length:Int)∧(s.data.length:Int)≤(if s.seq=0 then 0 else 4000))∧IsB s.data
theorem segP_codec:Codec segP segB segV:=by
 refine (Codec.bnd (fun s:Seg=>s.src) (numP_codec 0 15 (by decide) (by decide)) (e2:=fun s=>intB s.dst++(intB s.seq++(intB s.ack++(intB s.data.length++s.data)))) (v2:=fun s=>(0≤s.dst∧s.dst≤15)∧(0≤s.seq∧s.seq≤big)∧(0≤s.ack∧s.ack≤big)∧((if s.seq=0 then 0 else 1)≤(s.data.length:Int)∧(s.data.length:Int)≤(if s.seq=0 then 0 else 4000))∧IsB s.data) fun f hf=>?_).congr (fun _=>Iff.rfl) (fun _ _=>rfl);refine (Codec.bnd (fun s:Seg=>s.dst) (numP_codec 0 15 (by decide) (by decide)) (e2:=fun s=>intB s.seq++(intB s.ack++(intB s.data.length++s.data))) (v2:=fun s=>((0≤s.seq∧s.seq≤big)∧(0≤s.ack∧s.ack≤big)∧((if s.seq=0 then 0 else 1)≤(s.data.length:Int)∧(s.data.length:Int)≤(if s.seq=0 then 0 else 4000))∧IsB s.data)∧s.src=f) fun t ht=>?_).congr (fun m=>⟨fun h=>⟨⟨h.1,h.2.1⟩,h.2.2⟩,fun h=>⟨h.1.1,h.1.2,h.2⟩⟩) (fun _ _=>rfl);refine (Codec.bnd (fun s:Seg=>s.seq) (numP_codec 0 big (by decide) (by decide)) (e2:=fun s=>intB s.ack++(intB s.data.length++s.data)) (v2:=fun s=>((0≤s.ack∧s.ack≤big)∧((if s.seq=0 then 0 else 1)≤(s.data.length:Int)∧(s.data.length:Int)≤(if s.seq=0 then 0 else 4000))∧IsB s.data)∧s.src=f∧s.dst=t) fun q hq=>?_).congr (fun m=>⟨fun h=>⟨⟨⟨h.1,h.2.1⟩,h.2.2.1⟩,h.2.2.2⟩,fun h=>⟨h.1.1.1,h.1.1.2,h.1.2,h.2⟩⟩) (fun _ _=>rfl);refine (Codec.bnd (fun s:Seg=>s.ack) (numP_codec 0 big (by decide) (by decide)) (e2:=fun s=>intB s.data.length++s.data) (v2:=fun s=>(((if s.seq=0 then 0 else 1)≤(s.data.length:Int)∧(s.data.length:Int)≤(if s.seq=0 then 0 else 4000))∧IsB s.data)∧s.src=f∧s.dst=t∧s.seq=q) fun a ha=>?_).congr (fun m=>⟨fun h=>⟨⟨⟨h.1,h.2.1⟩,h.2.2.1,h.2.2.2.1⟩,h.2.2.2.2⟩,fun h=>⟨h.1.1.1,h.1.1.2,h.1.2.1,h.1.2.2,h.2⟩⟩) (fun _ _=>rfl);refine (Codec.bnd (fun s:Seg=>(s.data.length:Int)) (numP_codec (if q=0 then 0 else 1) (if q=0 then 0 else 4000) (by split<;>omega) (by split<;>omega)) (e2:=fun s=>s.data) (v2:=fun s=>IsB s.data∧s.src=f∧s.dst=t∧s.seq=q∧s.ack=a) fun n hn=>?_).congr (fun m=>⟨fun h=>⟨⟨⟨by rw[h.2.2.2.2.1];exact h.1,h.2.1⟩,h.2.2.1,h.2.2.2.1,h.2.2.2.2.1⟩,h.2.2.2.2.2⟩,fun h=>⟨by rw[←h.1.2.2.2];exact h.1.1.1,h.1.1.2,h.1.2.1,h.1.2.2.1,h.1.2.2.2,h.2⟩⟩) (fun _ _=>rfl);refine (Codec.bnd (fun s:Seg=>s.data) (takeP_codec n.toNat) (e2:=fun _=>[]) (v2:=fun s=>s.src=f∧s.dst=t∧s.seq=q∧s.ack=a) fun d hd=>?_).congr (fun m=>⟨fun h=>⟨⟨h.1.2,h.2⟩,by have:=h.1.1;split at hn<;>omega⟩,fun h=>⟨⟨by have:=h.2;split at hn<;>omega,h.1.1⟩,h.1.2⟩⟩) (fun _ _=>by rw[List.append_nil];rfl);refine (Codec.ret _).congr (fun m=>⟨fun h=>by subst h;exact ⟨⟨rfl,rfl,rfl,rfl⟩,rfl⟩,fun h=>?_⟩) (fun _ _=>rfl);obtain ⟨⟨rfl,rfl,rfl,rfl⟩,rfl⟩:=h;rfl
noncomputable def reqP:Rdr (S25×Op):=bnd callP fun c=>bnd opP fun o=>ret (c,o)
def reqB (x:S25×Op):List Int:=pairB x.1++opB x.2
def reqV (x:S25×Op):Prop:=callV x.1∧opV x.2
theorem reqP_codec:Codec reqP reqB reqV:=by
 refine (Codec.bnd (fun x:S25×Op=>x.1) callP_codec (e2:=fun x=>opB x.2) (v2:=fun x=>opV x.2) fun c hc=>?_).congr (fun _=>Iff.rfl) (fun _ _=>rfl);refine (Codec.bnd (fun x:S25×Op=>x.2) opP_codec (e2:=fun _=>[]) (v2:=fun x=>x.1=c) fun o ho=>?_).congr (fun _=>Iff.rfl) (fun _ _=>by rw[List.append_nil]);refine (Codec.ret _).congr (fun x=>⟨fun h=>by subst h;exact ⟨rfl,rfl⟩,fun h=>?_⟩) (fun _ _=>rfl);obtain ⟨rfl,rfl⟩:=h;rfl
def repB (x:Rep):List Int:=pairB x.call++(intB x.err++signB x.value)
def repV (x:Rep):Prop:=callV x.call∧(0≤x.err∧x.err≤255)∧isI x.value
def whole {α:Type} (z:α) (p:Rdr α) (l:List Int):α×Int×Int:=match p l with
 | .bad n=>(z,(l.length:Int) - n,20)
 | .ok x []=>(x,0,0)
 | .ok _ (c::r)=>(z,(l.length:Int) - (r.length+1),20)
noncomputable def lay {α:Type} (e:α→List Int) (v:α→Prop) (x:α):List Int×Int:=if dcd (v x)=true then (e x,0) else ([],21)
end Go.Proofs.Ytpgdmmjbhjbbhaa.Sp
end
section
namespace Go.Proofs.Ytpgdmmjbhjbbhaa.StrLe
open Go
theorem less_total:∀ a b:List UInt8,(Op.bytesLess a b || a == b) = !(Op.bytesLess b a)
 | [],[]=>rfl
 | [],_::_=>rfl
 | _::_,[]=>rfl
 | x :: a, y :: b => by
   have ih:=less_total a b;simp only[Op.bytesLess,List.cons_beq_cons];rcases Nat.lt_trichotomy x.toNat y.toNat with h|h|h
   ·have h1:(decide (x<y))=true:=decide_eq_true (UInt8.lt_iff_toNat_lt.2 h);have h2:(decide (y<x))=false:=decide_eq_false (fun h3=>by have:=UInt8.lt_iff_toNat_lt.1 h3;omega);have h3:(y == x)=false:=by rw[beq_eq_false_iff_ne];intro e;rw[e] at h;omega
    simp[h1,h2,h3]
   ·obtain rfl:x=y:=UInt8.toNat_inj.1 h;have h2:(decide (x<x))=false:=decide_eq_false (fun h3=>by have:=UInt8.lt_iff_toNat_lt.1 h3;omega);simp only[h2,Bool.false_or,beq_self_eq_true,Bool.true_and];exact ih
   ·have h1:(decide (y<x))=true:=decide_eq_true (UInt8.lt_iff_toNat_lt.2 h);have h2:(decide (x<y))=false:=decide_eq_false (fun h3=>by have:=UInt8.lt_iff_toNat_lt.1 h3;omega);have h3:(x == y)=false:=by rw[beq_eq_false_iff_ne];intro e;rw[e] at h;omega
    simp[h1,h2,h3]
theorem leq_str (t:TypeId) (a b:ByteArray):binOp .leq t (.string a) (.string b)=pure (.bool (!(Op.bytesLess b.toList a.toList))):=by rw[←less_total];simp[binOp,Op.stringOp]
theorem gtr_str (t:TypeId) (a b:ByteArray):binOp .gtr t (.string a) (.string b)=pure (.bool (Op.bytesLess b.toList a.toList)):=by rw[←Bool.not_not (Op.bytesLess b.toList a.toList),←less_total];simp[binOp,Op.stringOp]
end Go.Proofs.Ytpgdmmjbhjbbhaa.StrLe
end
section
namespace Go.Proofs.Ytpgdmmjbhjbbhaa.StrLe
open Go Go.RowKit
section
open Go.Proofs.YtpgdmmjbhjbbhaaW.PrintWords
variable {P:Program} {ops:Array Oper} {rest:List Oper} {o:Oper} {a:Act} {Q:Exit→Act→World→Prop}
end
end Go.Proofs.Ytpgdmmjbhjbbhaa.StrLe
end
