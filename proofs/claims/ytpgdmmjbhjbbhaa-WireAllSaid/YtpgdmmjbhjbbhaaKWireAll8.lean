/- texts that the proof needs, laid together by a program of this session. -/
import Derived.WalkSmall
import Derived.Laws.MakeOwn
import Derived.Laws.Tables
import Derived.Laws.CopyOwn
import Derived.Test.YtpgdmmjbhjbbhaaKWireAll7
set_option maxRecDepth 100000
set_option maxHeartbeats 16000000
set_option linter.unusedVariables false
set_option linter.unusedSimpArgs false
section
namespace Go.Proofs.Ytpgdmmjbhjbbhaa.Rd
open Go Go.RowKit P Sp Vd Wr YtpgdmmjbhjbbhaaW.PrintWords YtpgdmmjbhjbbhaaW.PrintLast YtpgdmmjbhjbbhaaW.PrintMore
structure Kb (g:Nat) (w w1:World):Prop where
 size:w.heap.size≤w1.heap.size
 block:∀ k,k<w.heap.size→k≠g→w1.heap[k]?=w.heap[k]?
theorem Kb.refl (g:Nat) (w:World):Kb g w w:=⟨Nat.le_refl _,fun _ _ _=>rfl⟩
theorem Kb.trans {g:Nat} {a b c:World} (h:Kb g a b) (k:Kb g b c):Kb g a c:=⟨Nat.le_trans h.size k.size,fun i hi hg=>(k.block i (Nat.lt_of_lt_of_le hi h.size) hg).trans (h.block i hi hg)⟩
theorem Kb.below {g:Nat} {a b:World} (h:Below a.heap.size a b):Kb g a b:=⟨h.size,fun i hi _=>h.block i hi⟩
theorem Kb.set (g i:Nat) (w:World) (v:Value):Kb g w (w.setCell ⟨g,i,none⟩ v):=⟨Nat.le_of_eq (by first|rw[World.size_setCell]|simp),fun k _ hk=>Below.heap_setCell w ⟨g,i,none⟩ v k hk⟩
structure In (w0:World) (A:Option Addr) (c:Nat) (b:List Int):Prop where
 row:Kd.C (Kd.int .u8) w0 A b.length b
 isB:IsB b
 cap:b.length≤c
theorem In.len {w0:World} {A:Option Addr} {c:Nat} {b:List Int} (h:In w0 A c b):b.length≤9223372036854775807:=by have:=h.row.2.1;omega
def pl (b l:List Int):Int:=(b.length:Int) - l.length
structure RS (w0 w:World) (g:Nat) (A:Option Addr) (c:Nat) (b l:List Int):Prop where
 blk:w.heap[g]?=some (.cells #[.slice A b.length c,.int .i64 (pl b l)] 141 (0,0))
 ge:w0.heap.size≤g
 bel:Below w0.heap.size w0 w
 suf:∃ pre,b=pre++l
theorem RS.below {w0 w w1:World} {g:Nat} {A:Option Addr} {c:Nat} {b l:List Int} (h:RS w0 w g A c b l) (hb:Below w.heap.size w w1):RS w0 w1 g A c b l:=
 ⟨(hb.block g (blk_lt h.blk)).trans h.blk,h.ge,h.bel.trans (hb.mono h.bel.size),h.suf⟩
theorem RS.kb {w0 w w1:World} {g g2:Nat} {A:Option Addr} {c:Nat} {b l:List Int} (h:RS w0 w g A c b l) (k:Kb g2 w w1) (hne:g≠g2) (hb:Below w0.heap.size w0 w1):RS w0 w1 g A c b l:=
 ⟨(k.block g (blk_lt h.blk) hne).trans h.blk,h.ge,hb,h.suf⟩
theorem RS.le {w0 w:World} {g:Nat} {A:Option Addr} {c:Nat} {b l:List Int} (h:RS w0 w g A c b l):l.length≤b.length:=by
 obtain ⟨pre,hp⟩:=h.suf;rw[hp,List.length_append];omega
theorem RS.isB {w0 w:World} {g:Nat} {A:Option Addr} {c:Nat} {b l:List Int} (h:RS w0 w g A c b l) (hi:IsB b):IsB l:=by
 obtain ⟨pre,hp⟩:=h.suf;rw[hp] at hi;exact (IsB.append.mp hi).2
theorem rd_pl {b l:List Int} {x:Int} {r:List Int} (h:∃ pre,b=pre++l) (hl:l=x::r):rd b (pl b l)=x∧0≤pl b l∧pl b l<(b.length:Int)∧pl b r=pl b l+1:=by
 obtain ⟨pre,rfl⟩:=h;subst hl;have h1:pl (pre++x::r) (x::r)=(pre.length:Int):=by unfold pl;rw[List.length_append];omega
 refine ⟨?_,by rw[h1];omega,by rw[h1,List.length_append,List.length_cons];omega,?_⟩
 ·rw[h1];unfold rd;rw[Int.toNat_natCast,List.getD_eq_getElem?_getD];simp
 ·unfold pl;rw[List.length_cons];omega
theorem RS.put {w0 w:World} {g:Nat} {A:Option Addr} {c:Nat} {b l r:List Int} (h:RS w0 w g A c b l) (n:Int) (hn:n=pl b r) (hs:∃ pre,b=pre++r):RS w0 (w.setCell ⟨g,1,none⟩ (.int .i64 n)) g A c b r:=by
 subst hn;exact ⟨blk_set h.blk 1 _,h.ge,h.bel.setCell h.ge _,hs⟩
def pan (n:Int):Ending := .panicked [{ v := .iface 138 (.int .i64 n),recovered:=false }]
def Left {α : Type} (w0 w : World) (g : Nat) (A : Option Addr) (c : Nat) (b : List Int) (enc : α → Value) (r : R α) (e : Ending) (w1 : World) : Prop :=
  Kb g w w1 ∧ Below w0.heap.size w0 w1 ∧ match r with
    | .bad n=>e=pan ((b.length:Int) - n)
    | .ok x l=>e = .returned (enc x)∧RS w0 w1 g A c b l
def bigP:Rdr (Nat×Nat):=fun l=>match rawP l with
 | .bad n => .bad n
 | .ok n r => .ok (n,l.length) r
def ext (acc k:Nat):NR→NR
 | .cut => .cut
 | .bad => .bad
 | .ok n r => .ok (acc+128 ^ k * n) r
theorem ext0 (x:NR):ext 0 0 x=x:=by cases x<;>simp[ext]
theorem big_calls (w0 w : World) (g : Nat) (A : Option Addr) (c : Nat) (b l : List Int) (hi : In w0 A c b) (h : RS w0 w g A c b l) :
    Calls Try.prog 113 #[.pointer (some ⟨g,0,none⟩)] w fun e w'=>Left w0 w g A c b (fun x:Nat×Nat => .tuple #[.int .u64 (x.1:Int),.int .i64 ((b.length:Int) - x.2)]) (bigP l) e w':=by
  have HI:=Aside0.mk hi;have HS:=Aside0.mk h;clear hi h;have kz1:w.cell? ⟨g,1,none⟩=some (.int .i64 (pl b l)):=(blk_cell HS.out.blk 1).trans rfl;go_enter Try.func113,Try.ntmps113
  go_wp2_with fail
  go_loopw [5,6] (fun v5 v6 wr=>∃ (k acc:Nat) (l':List Int),v5 = .int .u64 (acc:Int)∧v6 = .int .i64 ((7 * k:Nat):Int)∧Aside0 (k≤9∧acc<128 ^ k∧numGo 0 l=ext acc k (numGo k l')∧RS w0 wr g A c b l'∧Kb g w wr)) (fun _ v6 _=>70 - (intOf v6).toNat)
  case atStart=>exact ⟨0,0,l,rfl,rfl,⟨Nat.zero_le _,by decide,by rw[ext0],HS.out,Kb.refl _ _⟩⟩
  case round=>
   obtain ⟨k,acc,l',rfl,rfl,HR⟩:=hrel;clear kz1;have kz0:wr.cell? ⟨g,0,none⟩=some (.slice A b.length c):=(blk_cell HR.out.2.2.2.1.blk 0).trans rfl;have kz1:wr.cell? ⟨g,1,none⟩=some (.int .i64 (pl b l')):=(blk_cell HR.out.2.2.2.1.blk 1).trans rfl;rcases hl':l' with _|⟨x,r⟩
   ·have hpl:pl b l'=(b.length:Int):=by rw[hl'];unfold pl;simp
    rw[hpl] at kz1;have HL:=Aside0.mk hl';go_wp2_with fail
    go_quiet (fail)
    go_wp2_with fail
    refine ⟨rfl,?_⟩;have hb2:Below wr.heap.size wr (wr.drewN nq):=pw_below_drewN (Below.refl _ _) nq;refine ⟨HR.out.2.2.2.2.trans (Kb.below hb2),HR.out.2.2.2.1.bel.trans (hb2.mono HR.out.2.2.2.1.bel.size),?_⟩;have h1:=HR.out.2.2.1;rw[HL.out] at h1;have h2:bigP l = .bad 0:=by unfold bigP rawP;rw[h1];rfl
    rw[h2];simp[pan]
   · obtain ⟨j, hj⟩ : ∃ j, j = pl b l' := ⟨_, rfl⟩
     rw[←hj] at kz1;obtain ⟨hx1,hx2,hx3,hx4⟩:=rd_pl HR.out.2.2.2.1.suf hl';rw[←hj] at hx1 hx2 hx3 hx4;have HL:=Aside0.mk hl';have HJ:=Aside0.mk hj;have HX4:=Aside0.mk hx4;clear hl' hj hx4;have hjne:¬(j=(b.length:Int)):=by omega
     obtain ⟨ad,rfl,kx⟩:=Kd.at_int (Kd.C_below HI.out.row HR.out.2.2.2.1.bel) j hx2 hx3;rw[hx1] at kx;clear hx1;go_wp2_with fail
     go_quiet (fail)
     have hf1:=frozen_of_row wr g 1 _ _ HR.out.2.2.2.1.blk
     have hxb:0≤x∧x≤255:=by
      have:=HR.out.2.2.2.1.isB HI.out.isB;rw[HL.out] at this;exact (IsB.cons.mp this).1
     obtain ⟨y,hy⟩:∃ y:Nat,y=x.toNat % 128:=⟨_,rfl⟩;have hand:bits BinOp.and IntKind.u8 x 127=(y:Int):=by rw[hy];exact and127 x hxb.1 hxb.2
     have hyw:IntKind.u64.wrap (y:Int)=(y:Int):=by rw[u64_wrap];omega
     obtain ⟨N,hN⟩:∃ N:Int,bits BinOp.or IntKind.u64 (acc:Int) (IntKind.u64.wrap ((y:Int) * 2 ^ (7 * k)))=N:=⟨_,rfl⟩
     have HN:Aside0 ((k=9→y≤1)→N=((acc+128 ^ k * y:Nat):Int)):=⟨fun h9=>by
      rw[←hN,u64_wrap,show ((y:Int) * 2 ^ (7 * k)) % 18446744073709551616=(((y * 2 ^ (7 * k)) % 18446744073709551616:Nat):Int) from by rw[Int.natCast_emod,Int.natCast_mul,Int.natCast_pow];rfl];exact or_step acc y k HR.out.1 HR.out.2.1 (by omega) h9⟩
     have HY:=Aside0.mk hy;have HXB:=Aside0.mk hxb;clear hy;have hjw:wrap64 (j+1)=j+1:=by have:=HI.out.len;unfold wrap64;omega
     have HW:Aside0 (∀ nd,RS w0 ((wr.drewN nd).setCell ⟨g,1,none⟩ (.int .i64 (j+1))) g (some ad) c b r∧Kb g w ((wr.drewN nd).setCell ⟨g,1,none⟩ (.int .i64 (j+1)))):=⟨fun nd=>by
      have hb2:Below wr.heap.size wr (wr.drewN nd):=pw_below_drewN (Below.refl _ _) nd;refine ⟨(HR.out.2.2.2.1.below hb2).put _ HX4.out.symm ?_,HR.out.2.2.2.2.trans ((Kb.below hb2).trans (Kb.set g 1 _ _))⟩;obtain ⟨pre,hp⟩:=HR.out.2.2.2.1.suf;exact ⟨pre++[x],by rw[hp,HL.out,List.append_assoc];rfl⟩⟩
     have HG:Aside0 (numGo 0 l=ext acc k (numGo k (x::r))):=⟨by rw[HR.out.2.2.1,HL.out]⟩;have hbad:numGo k (x::r) = .bad→bigP l = .bad l.length:=fun h=>by unfold bigP rawP;rw[HG.out,h];rfl
     have HBAD:=Aside0.mk hbad;have hk9:=HR.out.1;clear hbad;go_wp2_with fail
     go_quiet (fail)
     go_upto_region 11 with fail
     clear kz0 kz1 kx hf1 hand hyw hN hjw;by_cases hx:x<128
     ·by_cases h1:(k=0∨0<x)∧(k<9∨x=1)
      ·have HOK:Aside0 (bigP l = .ok ((acc+128 ^ k * x.toNat),l.length) r):=⟨by
        unfold bigP rawP;rw[HG.out];simp only[numGo];rw[if_pos hx,if_pos h1];rfl⟩
       have HNN:Aside0 (N=((acc+128 ^ k * x.toNat:Nat):Int)):=⟨by rw[HN.out (fun h=>by rw[HY.out];omega),HY.out,Nat.mod_eq_of_lt (by omega)]⟩
       have hfin : ∀ wx, (∃ nd, wx = (wr.drewN nd).setCell ⟨g, 1, none⟩ (.int .i64 (j + 1))) → Left w0 w g (some ad) c b (fun x : Nat × Nat => .tuple #[.int .u64 (x.1 : Int), .int .i64 ((b.length : Int) - x.2)]) (bigP l) (.returned (.tuple #[.int .u64 N, .int .i64 (pl b l)])) wx := by
         rintro wx ⟨nd,rfl⟩;refine ⟨(HW.out nd).2,(HW.out nd).1.bel,?_⟩;rw[HOK.out,HNN.out];exact ⟨rfl,(HW.out nd).1⟩
       have HFIN:=Aside0.mk hfin;clear hfin;rcases Nat.eq_zero_or_pos k with h0|h0
       ·subst h0;by_cases hx0:x > 0
        ·go_wp2_with fail
         go_ret2
         exact HFIN.out _ ⟨_,rfl⟩
        ·go_wp2_with fail
         go_ret2
         exact HFIN.out _ ⟨_,rfl⟩
       ·have hx0:x > 0:=by omega
        have hk0:(7 * (k:Int) == 0)=false:=by rw[beq_eq_false_iff_ne];omega
        by_cases h9:k=9
        ·subst h9;obtain rfl:x=1:=by omega
         go_wp2_with fail
         go_ret2
         exact HFIN.out _ ⟨_,rfl⟩
        ·have hk63:(7 * (k:Int) == 63)=false:=by rw[beq_eq_false_iff_ne];omega
         go_wp2_with fail
         go_ret2
         exact HFIN.out _ ⟨_,rfl⟩
      ·have hb3:bigP l = .bad l.length:=HBAD.out (by simp only[numGo];rw[if_pos hx,if_neg h1])
       have hfin : ∀ wx, (∃ nd, wx = (wr.drewN nd).setCell ⟨g, 1, none⟩ (.int .i64 (j + 1))) → Left w0 w g (some ad) c b (fun x : Nat × Nat => .tuple #[.int .u64 (x.1 : Int), .int .i64 ((b.length : Int) - x.2)]) (bigP l) (.panicked [{ v := .iface 138 (.int .i64 (pl b l)), recovered := false }]) wx := by
         rintro wx ⟨nd,rfl⟩;refine ⟨(HW.out nd).2,(HW.out nd).1.bel,?_⟩;rw[hb3];rfl
       have HFIN:=Aside0.mk hfin;clear hfin hb3;have hk0:(7 * (k:Int) == 0)=false:=by rw[beq_eq_false_iff_ne];omega
       by_cases hx0:x > 0
       ·have h9:k=9:=by omega
        subst h9;have hx1:(x == 1)=false:=by rw[beq_eq_false_iff_ne];omega
        have hx2:¬(x=1):=by omega
        go_wp2_with fail
        exact ⟨rfl,HFIN.out _ ⟨_,rfl⟩⟩
       ·by_cases h9:k=9
        ·subst h9;go_wp2_with fail
         exact ⟨rfl,HFIN.out _ ⟨_,rfl⟩⟩
        ·have hk63:(7 * (k:Int) == 63)=false:=by rw[beq_eq_false_iff_ne];omega
         go_wp2_with fail
         exact ⟨rfl,HFIN.out _ ⟨_,rfl⟩⟩
     ·by_cases h9:9≤k
      ·have hb3:bigP l = .bad l.length:=HBAD.out (by simp only[numGo];rw[if_neg hx,if_pos h9])
       have hfin : ∀ wx, (∃ nd, wx = (wr.drewN nd).setCell ⟨g, 1, none⟩ (.int .i64 (j + 1))) → Left w0 w g (some ad) c b (fun x : Nat × Nat => .tuple #[.int .u64 (x.1 : Int), .int .i64 ((b.length : Int) - x.2)]) (bigP l) (.panicked [{ v := .iface 138 (.int .i64 (pl b l)), recovered := false }]) wx := by
         rintro wx ⟨nd,rfl⟩;refine ⟨(HW.out nd).2,(HW.out nd).1.bel,?_⟩;rw[hb3];rfl
       have HFIN:=Aside0.mk hfin;clear hfin hb3;obtain rfl:k=9:=by omega
       go_wp2_with fail
       exact ⟨rfl,HFIN.out _ ⟨_,rfl⟩⟩
      ·have HN2:Aside0 (N=((acc+128 ^ k * y:Nat):Int)):=⟨HN.out (fun h=>by omega)⟩
       have HA2:Aside0 (acc+128 ^ k * y<128 ^ (k+1)):=⟨by
        have h1:y≤127:=by rw[HY.out];omega
        have h2:128 ^ k * y≤128 ^ k * 127:=Nat.mul_le_mul (Nat.le_refl _) h1;have:=HR.out.2.1;rw[Nat.pow_succ];omega⟩
       have HG2:Aside0 (numGo 0 l=ext (acc+128 ^ k * y) (k+1) (numGo (k+1) r)):=⟨by
        rw[HG.out];simp only[numGo];rw[if_neg hx,if_neg h9];cases numGo (k+1) r with
        | cut=>rfl
        | bad=>rfl
        | ok n r'=>
         simp only[ext];rw[HY.out,Nat.pow_succ,Nat.mul_add,←Nat.mul_assoc,Nat.add_assoc]⟩
       have hk63:(7 * (k:Int) == 63)=false:=by rw[beq_eq_false_iff_ne];omega
       have HK9:Aside0 (¬9≤k):=⟨h9⟩;go_wp2_with fail
       go_roundw
       case rel=>exact ⟨k+1,acc+128 ^ k * y,r,by rw[HN2.out],by go_num,⟨by have:=HK9.out;omega,HA2.out,HG2.out,(HW.out _).1,(HW.out _).2⟩⟩
       case measure=>simp only[intOf];have:=HK9.out;first|omega|(go_num;omega)|(simp;omega)
theorem bigP_bad {l:List Int} {n:Nat} (h:rawP l = .bad n):bigP l = .bad n:=by unfold bigP;rw[h]
theorem bigP_ok {l r:List Int} {n:Nat} (h:rawP l = .ok n r):bigP l = .ok (n,l.length) r:=by unfold bigP;rw[h]
theorem numP_bad {lo hi:Int} {l:List Int} {n:Nat} (h:rawP l = .bad n):numP lo hi l = .bad n:=by unfold numP;rw[h]
theorem numP_ok {lo hi:Int} {l r:List Int} {n:Nat} (h:rawP l = .ok n r) (hb:lo≤(n:Int)∧(n:Int)≤hi):numP lo hi l = .ok (n:Int) r:=by unfold numP;rw[h];exact if_pos hb
theorem numP_no {lo hi:Int} {l r:List Int} {n:Nat} (h:rawP l = .ok n r) (hb:¬(lo≤(n:Int)∧(n:Int)≤hi)):numP lo hi l = .bad l.length:=by unfold numP;rw[h];exact if_neg hb
theorem num_calls (w0 w : World) (g : Nat) (A : Option Addr) (c : Nat) (b l : List Int) (lo hi : Int) (h0 : 0 ≤ lo) (h1 : lo ≤ hi) (h2 : hi ≤ 9223372036854775807) (hi_ : In w0 A c b) (h : RS w0 w g A c b l) :
    Calls Try.prog 80 #[.pointer (some ⟨g,0,none⟩),.int .i64 lo,.int .i64 hi] w fun e w'=>Left w0 w g A c b (fun x:Int => .int .i64 x) (numP lo hi l) e w':=by
  have HI:=Aside0.mk hi_;have HS:=Aside0.mk h;clear hi_ h;have hlo:IntKind.u64.wrap lo=lo:=by rw[u64_wrap];omega
  have hhi:IntKind.u64.wrap hi=hi:=by rw[u64_wrap];omega
  go_enter Try.func80,Try.ntmps80
  rcases hp:rawP l with n|⟨n,r⟩
  ·have hq:=bigP_bad hp;have HQ:Aside0 (numP lo hi l = .bad n):=⟨numP_bad hp⟩;clear hp;go_wp2_with (go_at_call 113;refine (big_calls w0 _ g A c b l HI.out HS.out).mono ?_;rintro e w1 ⟨hk,hb,hm⟩;simp only[hq,pan] at hm;subst hm;have HK:=Aside0.mk (And.intro hk hb);clear hk hb)
   refine ⟨rfl,HK.out.1,HK.out.2,?_⟩;rw[HQ.out];rfl
  ·have hq:=bigP_ok hp;have hn:n<18446744073709551616:=(rawP_codec.one l n r (HS.out.isB HI.out.isB) hp).1;by_cases hb:lo≤(n:Int)∧(n:Int)≤hi
   ·have HQ:Aside0 (numP lo hi l = .ok (n:Int) r):=⟨numP_ok hp hb⟩;have hn1:¬((n:Int)<lo):=by omega
    have hn2:¬((n:Int) > hi):=by omega
    have hn3:IntKind.i64.wrap (n:Int)=(n:Int):=by simp[IntKind.wrap,IntKind.bits,IntKind.signed];omega
    clear hp hb;go_wp2_with (go_at_call 113;refine (big_calls w0 _ g A c b l HI.out HS.out).mono ?_;rintro e w1 ⟨hk,hb,hm⟩;simp only[hq] at hm;obtain ⟨rfl,hs1⟩:=hm;have HK:=Aside0.mk (And.intro hk (And.intro hb hs1));clear hk hb hs1)
    go_ret
    refine ⟨HK.out.1,HK.out.2.1,?_⟩;rw[HQ.out];exact ⟨rfl,HK.out.2.2⟩
   ·have HQ:Aside0 (numP lo hi l = .bad l.length):=⟨numP_no hp hb⟩;by_cases hn1:(n:Int)<lo
    ·clear hp hb;go_wp2_with (go_at_call 113;refine (big_calls w0 _ g A c b l HI.out HS.out).mono ?_;rintro e w1 ⟨hk,hb,hm⟩;simp only[hq] at hm;obtain ⟨rfl,hs1⟩:=hm;have HK:=Aside0.mk (And.intro hk (And.intro hb hs1));clear hk hb hs1)
     refine ⟨rfl,HK.out.1,HK.out.2.1,?_⟩;rw[HQ.out];rfl
    ·have hn2:(n:Int) > hi:=by omega
     clear hp hb;go_wp2_with (go_at_call 113;refine (big_calls w0 _ g A c b l HI.out HS.out).mono ?_;rintro e w1 ⟨hk,hb,hm⟩;simp only[hq] at hm;obtain ⟨rfl,hs1⟩:=hm;have HK:=Aside0.mk (And.intro hk (And.intro hb hs1));clear hk hb hs1)
     refine ⟨rfl,HK.out.1,HK.out.2.1,?_⟩;rw[HQ.out];rfl
theorem signP_bad {l:List Int} {n:Nat} (h:rawP l = .bad n):signP l = .bad n:=by unfold signP;rw[h]
theorem signP_ok {l r:List Int} {n:Nat} (h:rawP l = .ok n r):signP l = .ok (unsign n) r:=by unfold signP;rw[h]
theorem signed_calls (w0 w:World) (g:Nat) (A:Option Addr) (c:Nat) (b l:List Int) (hi_:In w0 A c b) (h:RS w0 w g A c b l):
  Calls Try.prog 87 #[.pointer (some ⟨g,0,none⟩)] w fun e w'=>Left w0 w g A c b (fun x:Int => .int .i64 x) (signP l) e w':=by
 have HI:=Aside0.mk hi_;have HS:=Aside0.mk h;clear hi_ h;go_enter Try.func87,Try.ntmps87
 rcases hp:rawP l with n|⟨n,r⟩
 ·have hq:=bigP_bad hp;have HQ:Aside0 (signP l = .bad n):=⟨signP_bad hp⟩;clear hp;go_wp2_with (go_at_call 113;refine (big_calls w0 _ g A c b l HI.out HS.out).mono ?_;rintro e w1 ⟨hk,hb,hm⟩;simp only[hq,pan] at hm;subst hm;have HK:=Aside0.mk (And.intro hk hb);clear hk hb)
  refine ⟨rfl,HK.out.1,HK.out.2,?_⟩;rw[HQ.out];rfl
 ·have hq:=bigP_ok hp;have hn:n<18446744073709551616:=(rawP_codec.one l n r (HS.out.isB HI.out.isB) hp).1;have HQ:Aside0 (signP l = .ok (unsign n) r):=⟨signP_ok hp⟩;clear hp;go_wp2_with (go_at_call 113;refine (big_calls w0 _ g A c b l HI.out HS.out).mono ?_;rintro e w1 ⟨hk,hb,hm⟩;simp only[hq] at hm;obtain ⟨rfl,hs1⟩:=hm;have HK:=Aside0.mk (And.intro hk (And.intro hb hs1));clear hk hb hs1)
  go_ret
  refine ⟨HK.out.1,HK.out.2.1,?_⟩;rw[HQ.out];refine ⟨?_,HK.out.2.2⟩
  show Ending.returned (Value.int .i64 (bits BinOp.xor IntKind.i64 ((n:Int) / 2) (wrap64 (-wrap64 (bits BinOp.and IntKind.u64 (n:Int) 1)))))=_
  rw[sign_read n hn]
def LeftB (w0 w : World) (g : Nat) (A : Option Addr) (c : Nat) (b l : List Int) (r : R (List Int)) (e : Ending) (w1 : World) : Prop :=
  Kb g w w1 ∧ Below w0.heap.size w0 w1 ∧ match r with
    | .bad k=>e=pan ((b.length:Int) - k)
    | .ok x r=>(∃ A1 c1,e = .returned (.tuple #[.slice A1 x.length c1,.int .i64 (pl b l)])∧x.length≤c1∧Kd.C (Kd.int .u8) w0 A1 x.length x)∧RS w0 w1 g A c b r
theorem inf8f:Try.prog.info? 5=some (Try.prog.info? 5).get! := by kernel_rfl
theorem inf8s:((Try.prog.info? 5).get!).size=1:=by kernel_rfl
theorem bytes_calls (w0 w : World) (g : Nat) (A : Option Addr) (c : Nat) (b l : List Int) (n : Nat) (hn : n ≤ 1000000) (hi_ : In w0 A c b) (h : RS w0 w g A c b l) :
    Calls Try.prog 81 #[.pointer (some ⟨g,0,none⟩),.int .i64 (n:Int)] w fun e w'=>LeftB w0 w g A c b l (takeP n l) e w':=by
  have HI:=Aside0.mk hi_;have HS:=Aside0.mk h;have hnI:(n:Int)≤1000000:=by omega
  have hbl:(b.length:Int)≤9223372036854775807:=by have:=hi_.len;omega
  have hle:=h.le;have hpl0:0≤pl b l∧pl b l≤(b.length:Int):=by unfold pl;omega
  have hpl1:(b.length:Int) - pl b l=(l.length:Int):=by unfold pl;omega
  clear hi_ h;obtain ⟨j,hj⟩:∃ j,j=pl b l:=⟨_,rfl⟩;rw[←hj] at hpl0 hpl1;have kz0:w.cell? ⟨g,0,none⟩=some (.slice A b.length c):=(blk_cell HS.out.blk 0).trans rfl;have kz1:w.cell? ⟨g,1,none⟩=some (.int .i64 j):=(blk_cell HS.out.blk 1).trans (by rw[hj];rfl);have hf1:=frozen_of_row w g 1 _ _ HS.out.blk;have HJ:=Aside0.mk hj;clear hj;have hw:wrap64 ((b.length:Int) - j)=(l.length:Int):=by rw[hpl1];unfold wrap64;omega
  go_enter Try.func81,Try.ntmps81
  by_cases hs:l.length<n
  ·have HQ:Aside0 (takeP n l = .bad 0):=⟨by unfold takeP;rw[if_pos hs]⟩;have hlt:(l.length:Int)<(n:Int):=by omega
   go_wp2_with fail
   refine ⟨rfl,Kb.refl _ _,HS.out.bel,?_⟩;rw[HQ.out];simp[pan]
  ·have HQ:Aside0 (takeP n l = .ok (l.take n) (l.drop n)):=⟨by unfold takeP;rw[if_neg hs]⟩;have hlt:¬((l.length:Int)<(n:Int)):=by omega
   have hjn:wrap64 (j+(n:Int))=j+(n:Int):=by unfold wrap64;omega
   have HW:Aside0 (∀ nd,RS w0 ((w.setCell ⟨g,1,none⟩ (.int .i64 (j+(n:Int)))).drewN nd) g A c b (l.drop n)∧Kb g w ((w.setCell ⟨g,1,none⟩ (.int .i64 (j+(n:Int)))).drewN nd)):=⟨fun nd=>by
    have h1 : RS w0 (w.setCell ⟨g, 1, none⟩ (.int .i64 (j + (n : Int)))) g A c b (l.drop n) := HS.out.put _ (by rw [HJ.out]; unfold pl; rw [List.length_drop]; omega) (by
      obtain ⟨pre,hp⟩:=HS.out.suf;exact ⟨pre++l.take n,by rw[hp,List.append_assoc,List.take_append_drop]⟩)
    have hb2:=pw_below_drewN (Below.refl (w.setCell ⟨g,1,none⟩ (.int .i64 (j+(n:Int)))).heap.size (w.setCell ⟨g,1,none⟩ (.int .i64 (j+(n:Int))))) nd;exact ⟨h1.below hb2,(Kb.set g 1 w _).trans (Kb.below hb2)⟩⟩
   have hcut:=cut_mid (P:=Try.prog) 36 5 .i64 .i64 Try.underlying36 inf8f 1 inf8s A b.length c j (j+(n:Int)) hpl0.1 (by omega) (by omega) HI.out.cap
   have HCUT : Aside0 ((l.take n).length = (j + (n : Int)).toNat - j.toNat ∧ (l.take n).length ≤ c - j.toNat ∧ Kd.C (Kd.int .u8) w0 (if c = j.toNat then A else A.map (·.add (j.toNat * 1))) (l.take n).length (l.take n)) := ⟨by
     obtain ⟨pre,hp⟩:=HS.out.suf;have hpj:j.toNat=pre.length:=by rw[HJ.out];unfold pl;rw[hp,List.length_append];omega
     have hx:(b.take (j.toNat+n)).drop j.toNat=l.take n:=by
      rw[hpj,hp,List.take_append,List.drop_append];simp
     have hm:=Kd.C_mid (k:=Kd.int .u8) (lo:=j.toNat) (hi:=j.toNat+n) HI.out.row (by omega) (by omega) HI.out.cap;rw[hx] at hm;have hl3:(l.take n).length=n:=by rw[List.length_take];omega
     refine ⟨by rw[hl3];omega,by rw[hl3];have:=HI.out.cap;omega,hm⟩⟩
   obtain ⟨A1,hA1⟩:∃ A1,A1=(if c=j.toNat then A else A.map (·.add (j.toNat * 1))):=⟨_,rfl⟩;rw[←hA1] at hcut HCUT;obtain ⟨n1,hn1⟩:∃ n1,n1=(j+(n:Int)).toNat - j.toNat:=⟨_,rfl⟩;rw[←hn1] at hcut HCUT;obtain ⟨c1,hc1⟩:∃ c1,c1=c - j.toNat:=⟨_,rfl⟩;rw[←hc1] at hcut HCUT;clear hA1 hn1 hc1;go_wp2_with fail
   go_quiet (fail)
   go_wp2_with fail
   go_ret2
   refine ⟨(HW.out _).2,(HW.out _).1.bel,?_⟩;rw[HQ.out];refine ⟨⟨A1,c1,?_,HCUT.out.2.1,HCUT.out.2.2⟩,(HW.out _).1⟩;rw[HCUT.out.1,←HJ.out];rfl
end Go.Proofs.Ytpgdmmjbhjbbhaa.Rd
end
section
namespace Go.Proofs.Ytpgdmmjbhjbbhaa.Rd
open Go Go.RowKit P Sp Vd Wr YtpgdmmjbhjbbhaaW.PrintWords YtpgdmmjbhjbbhaaW.PrintLast YtpgdmmjbhjbbhaaW.PrintMore
attribute [local go_sem] Go.Proofs.Ytpgdmmjbhjbbhaa.StrLe.leq_str Go.Proofs.Ytpgdmmjbhjbbhaa.StrLe.gtr_str
theorem nameP_bad {a:ByteArray} {l:List Int} {n:Nat} (h:numP 1 16 l = .bad n):nameP a l = .bad n:=by unfold nameP;rw[bnd_bad h]
theorem nameP_next {a:ByteArray} {l r:List Int} {n:Int} (h:numP 1 16 l = .ok n r):nameP a l=nameIn a n.toNat r:=by unfold nameP;rw[bnd_ok h]
theorem nameIn_bad {a:ByteArray} {l:List Int} {n k:Nat} (h:takeP n l = .bad k):nameIn a n l = .bad k:=by unfold nameIn;rw[h]
theorem nameIn_ok {a:ByteArray} {l x r:List Int} {n:Nat} (h:takeP n l = .ok x r) (hv:nameOk x∧above a (strOfNums x)):nameIn a n l = .ok (strOfNums x) r:=by unfold nameIn;rw[h];exact if_pos (dcd_pos hv)
theorem nameIn_no {a:ByteArray} {l x r:List Int} {n:Nat} (h:takeP n l = .ok x r) (hv:¬(nameOk x∧above a (strOfNums x))):nameIn a n l = .bad l.length:=by unfold nameIn;rw[h];exact if_neg (by rw[dcd_neg hv];decide)
theorem takeP_isB {n:Nat} {l x r:List Int} (h:takeP n l = .ok x r) (hl:IsB l):IsB x:=((takeP_codec n).one l x r hl h).1.2
theorem name_calls (w0 w : World) (g : Nat) (A : Option Addr) (c : Nat) (b l : List Int) (a : ByteArray) (hi_ : In w0 A c b) (h : RS w0 w g A c b l) :
    Calls Try.prog 97 #[.pointer (some ⟨g,0,none⟩),.string a] w fun e w'=>Left w0 w g A c b (fun s:ByteArray => .string s) (nameP a l) e w':=by
  have HI:=Aside0.mk hi_;have HS:=Aside0.mk h;clear hi_ h;go_enter Try.func97,Try.ntmps97
  rcases hp:numP 1 16 l with n|⟨n,r⟩
  ·have HQ:Aside0 (nameP a l = .bad n):=⟨nameP_bad hp⟩;go_wp2_with (go_at_call 80;refine (num_calls w0 _ g A c b l 1 16 (by decide) (by decide) (by decide) HI.out HS.out).mono ?_;rintro e w1 ⟨hk,hb,hm⟩;simp only[hp,pan] at hm;subst hm;have HK:=Aside0.mk (And.intro hk hb);clear hk hb)
   refine ⟨rfl,HK.out.1,HK.out.2,?_⟩;rw[HQ.out];rfl
  · have hc := (numP_codec 1 16 (by decide) (by decide)).one l n r (HS.out.isB HI.out.isB) hp
    have HN:Aside0 (nameP a l=nameIn a n.toNat r):=⟨nameP_next hp⟩;obtain ⟨m,rfl⟩:∃ m:Nat,n=(m:Int):=⟨n.toNat,by omega⟩;rw[Int.toNat_natCast] at HN;have HM:Aside0 (m≤1000000):=⟨by omega⟩;have HBR:Aside0 (IsB r):=⟨by have:=HS.out.isB HI.out.isB;rw[hc.2] at this;exact (IsB.append.mp this).2⟩;clear hc;rcases ht:takeP m r with k|⟨x,r2⟩
    ·have HQ:Aside0 (nameP a l = .bad k):=⟨by rw[HN.out];exact nameIn_bad ht⟩
     go_wp2_with (first
      | (go_at_call 80;refine (num_calls w0 _ g A c b l 1 16 (by decide) (by decide) (by decide) HI.out HS.out).mono ?_;rintro e w1 ⟨hk,hb,hm⟩;simp only[hp] at hm;obtain ⟨rfl,hs1⟩:=hm;have HK:=Aside0.mk (And.intro hk (And.intro hb hs1));clear hk hb hs1)
      | (go_at_call 81;refine (bytes_calls w0 _ g A c b r m HM.out HI.out HK.out.2.2).mono ?_;rintro e w2 ⟨hk,hb,hm⟩;simp only[ht,pan] at hm;subst hm;have HK2:=Aside0.mk (And.intro (HK.out.1.trans hk) hb);clear hk hb))
     refine ⟨rfl,HK2.out.1,HK2.out.2,?_⟩;rw[HQ.out];rfl
    ·have hbx:=takeP_isB ht HBR.out;obtain ⟨s,hs⟩:∃ s,s=strOfNums x:=⟨_,rfl⟩;have hnb:nB s=dcd (nameOk x):=by unfold nB;rw[hs,bytesOf_strOf hbx]
     have HSX:=Aside0.mk hs;clear hbx;by_cases hv:nameOk x∧above a s
     ·have HQ:Aside0 (nameP a l = .ok s r2):=⟨by rw[HN.out,hs];exact nameIn_ok ht (by rw[←hs];exact hv)⟩;have hn1:nB s=true:=by rw[hnb];exact dcd_pos hv.1
      have hab:Go.Op.bytesLess a.toList s.toList=true:=hv.2;clear hv hnb hs
      go_wp2_with (first
       | (go_at_call 80;refine (num_calls w0 _ g A c b l 1 16 (by decide) (by decide) (by decide) HI.out HS.out).mono ?_;rintro e w1 ⟨hk,hb,hm⟩;simp only[hp] at hm;obtain ⟨rfl,hs1⟩:=hm;have HK:=Aside0.mk (And.intro hk (And.intro hb hs1));clear hk hb hs1)
       | (go_at_call 81;refine (bytes_calls w0 _ g A c b r m HM.out HI.out HK.out.2.2).mono ?_;rintro e w2 ⟨hk,hb,hm⟩;simp only[ht] at hm;obtain ⟨⟨A1,c1,rfl,hc1,hC⟩,hs2⟩:=hm;have hcv:=Kd.C_string (P:=Try.prog) (A:=A1) (c:=c1) Try.underlying36 Try.underlying5 Try.underlying9 (Kd.C_below hC hb);rw[←HSX.out] at hcv;have HK2:=Aside0.mk (And.intro (HK.out.1.trans hk) (And.intro hb hs2));clear hk hb hs2 hC hc1)
       | (go_at_call 65;refine (named_calls _ s).mono ?_;rintro e w3 ⟨rfl,hb⟩;rw[hn1];have HK3:=Aside0.mk (And.intro (HK2.out.1.trans (Kb.below hb)) (And.intro (HK2.out.2.1.trans (hb.mono HK2.out.2.1.size)) (HK2.out.2.2.below hb)));clear hb hcv))
      go_ret
      refine ⟨HK3.out.1,HK3.out.2.1,?_⟩;rw[HQ.out];exact ⟨rfl,HK3.out.2.2⟩
     ·have HQ:Aside0 (nameP a l = .bad r.length):=⟨by rw[HN.out];exact nameIn_no ht (by rw[←hs];exact hv)⟩;by_cases hn:nameOk x
      ·have hn1:nB s=true:=by rw[hnb];exact dcd_pos hn
       have hab:Go.Op.bytesLess a.toList s.toList=false:=by
        cases hh:Go.Op.bytesLess a.toList s.toList with
        | false=>rfl
        | true=>exact absurd ⟨hn,hh⟩ hv
       clear hv hnb hs hn
       go_wp2_with (first
        | (go_at_call 80;refine (num_calls w0 _ g A c b l 1 16 (by decide) (by decide) (by decide) HI.out HS.out).mono ?_;rintro e w1 ⟨hk,hb,hm⟩;simp only[hp] at hm;obtain ⟨rfl,hs1⟩:=hm;have HK:=Aside0.mk (And.intro hk (And.intro hb hs1));clear hk hb hs1)
        | (go_at_call 81;refine (bytes_calls w0 _ g A c b r m HM.out HI.out HK.out.2.2).mono ?_;rintro e w2 ⟨hk,hb,hm⟩;simp only[ht] at hm;obtain ⟨⟨A1,c1,rfl,hc1,hC⟩,hs2⟩:=hm;have hcv:=Kd.C_string (P:=Try.prog) (A:=A1) (c:=c1) Try.underlying36 Try.underlying5 Try.underlying9 (Kd.C_below hC hb);rw[←HSX.out] at hcv;have HK2:=Aside0.mk (And.intro (HK.out.1.trans hk) (And.intro hb hs2));clear hk hb hs2 hC hc1)
        | (go_at_call 65;refine (named_calls _ s).mono ?_;rintro e w3 ⟨rfl,hb⟩;rw[hn1];have HK3:=Aside0.mk (And.intro (HK2.out.1.trans (Kb.below hb)) (HK2.out.2.1.trans (hb.mono HK2.out.2.1.size)));clear hb hcv))
       refine ⟨rfl,HK3.out.1,HK3.out.2,?_⟩;rw[HQ.out];rfl
      ·have hn1:nB s=false:=by rw[hnb];exact dcd_neg hn
       clear hv hnb hs hn
       go_wp2_with (first
        | (go_at_call 80;refine (num_calls w0 _ g A c b l 1 16 (by decide) (by decide) (by decide) HI.out HS.out).mono ?_;rintro e w1 ⟨hk,hb,hm⟩;simp only[hp] at hm;obtain ⟨rfl,hs1⟩:=hm;have HK:=Aside0.mk (And.intro hk (And.intro hb hs1));clear hk hb hs1)
        | (go_at_call 81;refine (bytes_calls w0 _ g A c b r m HM.out HI.out HK.out.2.2).mono ?_;rintro e w2 ⟨hk,hb,hm⟩;simp only[ht] at hm;obtain ⟨⟨A1,c1,rfl,hc1,hC⟩,hs2⟩:=hm;have hcv:=Kd.C_string (P:=Try.prog) (A:=A1) (c:=c1) Try.underlying36 Try.underlying5 Try.underlying9 (Kd.C_below hC hb);rw[←HSX.out] at hcv;have HK2:=Aside0.mk (And.intro (HK.out.1.trans hk) (And.intro hb hs2));clear hk hb hs2 hC hc1)
        | (go_at_call 65;refine (named_calls _ s).mono ?_;rintro e w3 ⟨rfl,hb⟩;rw[hn1];have HK3:=Aside0.mk (And.intro (HK2.out.1.trans (Kb.below hb)) (HK2.out.2.1.trans (hb.mono HK2.out.2.1.size)));clear hb hcv))
       refine ⟨rfl,HK3.out.1,HK3.out.2,?_⟩;rw[HQ.out];rfl
end Go.Proofs.Ytpgdmmjbhjbbhaa.Rd
end
section
namespace Go.Proofs.Ytpgdmmjbhjbbhaa.Rd
open Go Go.RowKit P Sp Vd En Wr YtpgdmmjbhjbbhaaW.PrintWords YtpgdmmjbhjbbhaaW.PrintLast YtpgdmmjbhjbbhaaW.PrintMore
theorem pair_bad1 {l1 h1 l2 h2:Int} {l:List Int} {n:Nat} (h:numP l1 h1 l = .bad n):pairP l1 h1 l2 h2 l = .bad n:=by unfold pairP;rw[bnd_bad h]
theorem pair_bad2 {l1 h1 l2 h2:Int} {l r:List Int} {x:Int} {n:Nat} (h:numP l1 h1 l = .ok x r) (k:numP l2 h2 r = .bad n):pairP l1 h1 l2 h2 l = .bad n:=by unfold pairP;rw[bnd_ok h,bnd_bad k]
theorem pair_ok {l1 h1 l2 h2:Int} {l r s:List Int} {x y:Int} (h:numP l1 h1 l = .ok x r) (k:numP l2 h2 r = .ok y s):pairP l1 h1 l2 h2 l = .ok ⟨x,y⟩ s:=by unfold pairP;rw[bnd_ok h,bnd_ok k];rfl
theorem kb_blk {g rb:Nat} {w w1:World} {cs:Array Value} {t:TypeId} (k:Kb g w w1) (hne:rb≠g) (h:w.heap[rb]?=some (.cells cs t (0,0))):w1.heap[rb]?=some (.cells cs t (0,0)):=(k.block rb (blk_lt h) hne).trans h
theorem rs_ne {w0 w:World} {g:Nat} {A:Option Addr} {c:Nat} {b l:List Int} (h:RS w0 w g A c b l):w.heap.size≠g:=by have:=blk_lt h.blk;omega
theorem Kb.setNew {g rb:Nat} {w w2:World} (h:Kb g w w2) (hr:w.heap.size≤rb) (i:Nat) (v:Value):Kb g w (w2.setCell ⟨rb,i,none⟩ v):=
 ⟨Nat.le_trans h.size (Kb.set rb i w2 v).size,fun k hk hg=>((Kb.set rb i w2 v).block k (Nat.lt_of_lt_of_le hk h.size) (by omega)).trans (h.block k hk hg)⟩
theorem RS.setOther {w0 w2:World} {g rb:Nat} {A:Option Addr} {c:Nat} {b l:List Int} (h:RS w0 w2 g A c b l) (hne:rb≠g) (hr:w0.heap.size≤rb) (i:Nat) (v:Value):RS w0 (w2.setCell ⟨rb,i,none⟩ v) g A c b l:=
 ⟨((Kb.set rb i w2 v).block g (blk_lt h.blk) (Ne.symm hne)).trans h.blk,h.ge,h.bel.setCell hr v,h.suf⟩
theorem inf23:(Try.prog.info? 23).map (·.size)=some 2:=by kernel_rfl
theorem inf25:(Try.prog.info? 25).map (·.size)=some 2:=by kernel_rfl
theorem call_calls (w0 w : World) (g : Nat) (A : Option Addr) (c : Nat) (b l : List Int) (hi_ : In w0 A c b) (h : RS w0 w g A c b l) :
    Calls Try.prog 83 #[.pointer (some ⟨g,0,none⟩)] w fun e w'=>Left w0 w g A c b (fun x:S25 => .agg #[.int .i64 x.f0,.int .i64 x.f1]) (pairP 0 63 1 1099511627776 l) e w':=by
  have HI:=Aside0.mk hi_;have HNE:=Aside0.mk (rs_ne h);have HW0:=Aside0.mk h.bel.size;obtain ⟨wa,hwa⟩:∃ wa,wa=w.alloc (.cells #[.int .i64 0,.int .i64 0] 27 (0,0)):=⟨_,rfl⟩;have HWA:=Aside0.mk hwa;have HS:Aside0 (RS w0 wa g A c b l∧Kb g w wa):=⟨by rw[hwa];exact h.below (al_below w _),by rw[hwa];exact Kb.below (al_below w _)⟩;have HX:Aside0 (wa.heap[w.heap.size]?=some (.cells #[.int .i64 0,.int .i64 0] 27 (0,0))):=⟨by rw[hwa];exact heap_alloc_new w _⟩;clear hi_ h hwa;have hu:=Try.underlying27;go_enter Try.func83,Try.ntmps83
  go_upto_region 1 with fail
  rw[←HWA.out];rcases hp:numP 0 63 l with n|⟨x,r⟩
  ·have HQ:Aside0 (pairP 0 63 1 1099511627776 l = .bad n):=⟨pair_bad1 hp⟩;go_wp2_with (go_at_call 80;refine (num_calls w0 _ g A c b l 0 63 (by decide) (by decide) (by decide) HI.out HS.out.1).mono ?_;rintro e w1 ⟨hk,hb,hm⟩;simp only[hp,pan] at hm;subst hm;have HK:=Aside0.mk (And.intro (HS.out.2.trans hk) hb);clear hk hb)
   refine ⟨rfl,HK.out.1,HK.out.2,?_⟩;rw[HQ.out];rfl
  ·go_upto_region 2 with (go_at_call 80;refine (num_calls w0 _ g A c b l 0 63 (by decide) (by decide) (by decide) HI.out HS.out.1).mono ?_;rintro e w1 ⟨hk,hb,hm⟩;simp only[hp] at hm;obtain ⟨rfl,hs1⟩:=hm;have HK:=Aside0.mk (And.intro (HS.out.2.trans hk) (And.intro hb hs1));have HX1:=Aside0.mk (kb_blk hk HNE.out HX.out);clear hk hb hs1)
   rcases hq:numP 1 1099511627776 r with n|⟨y,s⟩
   ·have HQ:Aside0 (pairP 0 63 1 1099511627776 l = .bad n):=⟨pair_bad2 hp hq⟩;go_wp2_with (go_at_call 80;refine (num_calls w0 _ g A c b r 1 1099511627776 (by decide) (by decide) (by decide) HI.out HK.out.2.2).mono ?_;rintro e w2 ⟨hk,hb,hm⟩;simp only[hq,pan] at hm;subst hm;have HK2:=Aside0.mk (And.intro (HK.out.1.trans hk) hb);clear hk hb)
    refine ⟨rfl,HK2.out.1,HK2.out.2,?_⟩;rw[HQ.out];rfl
   ·have HQ:Aside0 (pairP 0 63 1 1099511627776 l = .ok ⟨x,y⟩ s):=⟨pair_ok hp hq⟩;go_wp2_with (go_at_call 80;refine (num_calls w0 _ g A c b r 1 1099511627776 (by decide) (by decide) (by decide) HI.out HK.out.2.2).mono ?_;rintro e w2 ⟨hk,hb,hm⟩;simp only[hq] at hm;obtain ⟨rfl,hs2⟩:=hm;have HK2:=Aside0.mk (And.intro (HK.out.1.trans hk) (And.intro hb hs2));have HX2:=Aside0.mk (kb_blk hk HNE.out HX1.out);have kc0:w2.cell? ⟨w.heap.size,0,none⟩=some (.int .i64 0):=(blk_cell HX2.out 0).trans rfl;have kc1:w2.cell? ⟨w.heap.size,1,none⟩=some (.int .i64 0):=(blk_cell HX2.out 1).trans rfl;have kf0:=blk_frozen HX2.out 0;have kf1:=blk_frozen HX2.out 1;clear hk hb hs2)
    have HBL:Aside0 (((w2.setCell ⟨w.heap.size,0,none⟩ (.int .i64 x)).setCell ⟨w.heap.size,1,none⟩ (.int .i64 y)).heap[w.heap.size]?=some (.cells #[.int .i64 x,.int .i64 y] 27 (0,0))):=⟨by
     have:=blk_set (blk_set HX2.out 0 (.int .i64 x)) 1 (.int .i64 y)
     simpa using this⟩
    refine bodyPost_ret (results_cell_row rfl _ _ w.heap.size 27 _ (0,0) _ (by rfl) HBL.out hu rfl inf27) rfl ?_;have hr0:w0.heap.size≤w.heap.size:=HW0.out;refine ⟨(HK2.out.1.setNew (Nat.le_refl _) 0 _).setNew (Nat.le_refl _) 1 _,((HK2.out.2.2.setOther HNE.out hr0 0 _).setOther HNE.out hr0 1 _).bel,?_⟩;rw[HQ.out];exact ⟨rfl,(HK2.out.2.2.setOther HNE.out hr0 0 _).setOther HNE.out hr0 1 _⟩
theorem epoch_calls (w0 w : World) (g : Nat) (A : Option Addr) (c : Nat) (b l : List Int) (hi_ : In w0 A c b) (h : RS w0 w g A c b l) :
    Calls Try.prog 100 #[.pointer (some ⟨g,0,none⟩)] w fun e w'=>Left w0 w g A c b (fun x:S25 => .agg #[.int .i64 x.f0,.int .i64 x.f1]) (pairP 1 1099511627776 0 15 l) e w':=by
  have HI:=Aside0.mk hi_;have HNE:=Aside0.mk (rs_ne h);have HW0:=Aside0.mk h.bel.size;obtain ⟨wa,hwa⟩:∃ wa,wa=w.alloc (.cells #[.int .i64 0,.int .i64 0] 23 (0,0)):=⟨_,rfl⟩;have HWA:=Aside0.mk hwa;have HS:Aside0 (RS w0 wa g A c b l∧Kb g w wa):=⟨by rw[hwa];exact h.below (al_below w _),by rw[hwa];exact Kb.below (al_below w _)⟩;have HX:Aside0 (wa.heap[w.heap.size]?=some (.cells #[.int .i64 0,.int .i64 0] 23 (0,0))):=⟨by rw[hwa];exact heap_alloc_new w _⟩;clear hi_ h hwa;have hu:=Try.underlying23;go_enter Try.func100,Try.ntmps100
  go_upto_region 1 with fail
  rw[←HWA.out];rcases hp:numP 1 1099511627776 l with n|⟨x,r⟩
  ·have HQ:Aside0 (pairP 1 1099511627776 0 15 l = .bad n):=⟨pair_bad1 hp⟩;go_wp2_with (go_at_call 80;refine (num_calls w0 _ g A c b l 1 1099511627776 (by decide) (by decide) (by decide) HI.out HS.out.1).mono ?_;rintro e w1 ⟨hk,hb,hm⟩;simp only[hp,pan] at hm;subst hm;have HK:=Aside0.mk (And.intro (HS.out.2.trans hk) hb);clear hk hb)
   refine ⟨rfl,HK.out.1,HK.out.2,?_⟩;rw[HQ.out];rfl
  ·go_upto_region 2 with (go_at_call 80;refine (num_calls w0 _ g A c b l 1 1099511627776 (by decide) (by decide) (by decide) HI.out HS.out.1).mono ?_;rintro e w1 ⟨hk,hb,hm⟩;simp only[hp] at hm;obtain ⟨rfl,hs1⟩:=hm;have HK:=Aside0.mk (And.intro (HS.out.2.trans hk) (And.intro hb hs1));have HX1:=Aside0.mk (kb_blk hk HNE.out HX.out);clear hk hb hs1)
   rcases hq:numP 0 15 r with n|⟨y,s⟩
   ·have HQ:Aside0 (pairP 1 1099511627776 0 15 l = .bad n):=⟨pair_bad2 hp hq⟩;go_wp2_with (go_at_call 80;refine (num_calls w0 _ g A c b r 0 15 (by decide) (by decide) (by decide) HI.out HK.out.2.2).mono ?_;rintro e w2 ⟨hk,hb,hm⟩;simp only[hq,pan] at hm;subst hm;have HK2:=Aside0.mk (And.intro (HK.out.1.trans hk) hb);clear hk hb)
    refine ⟨rfl,HK2.out.1,HK2.out.2,?_⟩;rw[HQ.out];rfl
   ·have HQ:Aside0 (pairP 1 1099511627776 0 15 l = .ok ⟨x,y⟩ s):=⟨pair_ok hp hq⟩;go_wp2_with (go_at_call 80;refine (num_calls w0 _ g A c b r 0 15 (by decide) (by decide) (by decide) HI.out HK.out.2.2).mono ?_;rintro e w2 ⟨hk,hb,hm⟩;simp only[hq] at hm;obtain ⟨rfl,hs2⟩:=hm;have HK2:=Aside0.mk (And.intro (HK.out.1.trans hk) (And.intro hb hs2));have HX2:=Aside0.mk (kb_blk hk HNE.out HX1.out);have kc0:w2.cell? ⟨w.heap.size,0,none⟩=some (.int .i64 0):=(blk_cell HX2.out 0).trans rfl;have kc1:w2.cell? ⟨w.heap.size,1,none⟩=some (.int .i64 0):=(blk_cell HX2.out 1).trans rfl;have kf0:=blk_frozen HX2.out 0;have kf1:=blk_frozen HX2.out 1;clear hk hb hs2)
    have HBL:Aside0 (((w2.setCell ⟨w.heap.size,0,none⟩ (.int .i64 x)).setCell ⟨w.heap.size,1,none⟩ (.int .i64 y)).heap[w.heap.size]?=some (.cells #[.int .i64 x,.int .i64 y] 23 (0,0))):=⟨by
     have:=blk_set (blk_set HX2.out 0 (.int .i64 x)) 1 (.int .i64 y)
     simpa using this⟩
    refine bodyPost_ret (results_cell_row rfl _ _ w.heap.size 23 _ (0,0) _ (by rfl) HBL.out hu rfl inf23) rfl ?_;have hr0:w0.heap.size≤w.heap.size:=HW0.out;refine ⟨(HK2.out.1.setNew (Nat.le_refl _) 0 _).setNew (Nat.le_refl _) 1 _,((HK2.out.2.2.setOther HNE.out hr0 0 _).setOther HNE.out hr0 1 _).bel,?_⟩;rw[HQ.out];exact ⟨rfl,(HK2.out.2.2.setOther HNE.out hr0 0 _).setOther HNE.out hr0 1 _⟩
theorem rights_calls (w0 w : World) (g : Nat) (A : Option Addr) (c : Nat) (b l : List Int) (hi_ : In w0 A c b) (h : RS w0 w g A c b l) :
    Calls Try.prog 101 #[.pointer (some ⟨g,0,none⟩)] w fun e w'=>Left w0 w g A c b (fun x:S25 => .agg #[.int .i64 x.f0,.int .i64 x.f1]) (pairP 0 1099511627776 0 1099511627776 l) e w':=by
  have HI:=Aside0.mk hi_;have HNE:=Aside0.mk (rs_ne h);have HW0:=Aside0.mk h.bel.size;obtain ⟨wa,hwa⟩:∃ wa,wa=w.alloc (.cells #[.int .i64 0,.int .i64 0] 25 (0,0)):=⟨_,rfl⟩;have HWA:=Aside0.mk hwa;have HS:Aside0 (RS w0 wa g A c b l∧Kb g w wa):=⟨by rw[hwa];exact h.below (al_below w _),by rw[hwa];exact Kb.below (al_below w _)⟩;have HX:Aside0 (wa.heap[w.heap.size]?=some (.cells #[.int .i64 0,.int .i64 0] 25 (0,0))):=⟨by rw[hwa];exact heap_alloc_new w _⟩;clear hi_ h hwa;have hu:=Try.underlying25;go_enter Try.func101,Try.ntmps101
  go_upto_region 1 with fail
  rw[←HWA.out];rcases hp:numP 0 1099511627776 l with n|⟨x,r⟩
  ·have HQ:Aside0 (pairP 0 1099511627776 0 1099511627776 l = .bad n):=⟨pair_bad1 hp⟩;go_wp2_with (go_at_call 80;refine (num_calls w0 _ g A c b l 0 1099511627776 (by decide) (by decide) (by decide) HI.out HS.out.1).mono ?_;rintro e w1 ⟨hk,hb,hm⟩;simp only[hp,pan] at hm;subst hm;have HK:=Aside0.mk (And.intro (HS.out.2.trans hk) hb);clear hk hb)
   refine ⟨rfl,HK.out.1,HK.out.2,?_⟩;rw[HQ.out];rfl
  ·go_upto_region 2 with (go_at_call 80;refine (num_calls w0 _ g A c b l 0 1099511627776 (by decide) (by decide) (by decide) HI.out HS.out.1).mono ?_;rintro e w1 ⟨hk,hb,hm⟩;simp only[hp] at hm;obtain ⟨rfl,hs1⟩:=hm;have HK:=Aside0.mk (And.intro (HS.out.2.trans hk) (And.intro hb hs1));have HX1:=Aside0.mk (kb_blk hk HNE.out HX.out);clear hk hb hs1)
   rcases hq:numP 0 1099511627776 r with n|⟨y,s⟩
   ·have HQ:Aside0 (pairP 0 1099511627776 0 1099511627776 l = .bad n):=⟨pair_bad2 hp hq⟩;go_wp2_with (go_at_call 80;refine (num_calls w0 _ g A c b r 0 1099511627776 (by decide) (by decide) (by decide) HI.out HK.out.2.2).mono ?_;rintro e w2 ⟨hk,hb,hm⟩;simp only[hq,pan] at hm;subst hm;have HK2:=Aside0.mk (And.intro (HK.out.1.trans hk) hb);clear hk hb)
    refine ⟨rfl,HK2.out.1,HK2.out.2,?_⟩;rw[HQ.out];rfl
   ·have HQ:Aside0 (pairP 0 1099511627776 0 1099511627776 l = .ok ⟨x,y⟩ s):=⟨pair_ok hp hq⟩;go_wp2_with (go_at_call 80;refine (num_calls w0 _ g A c b r 0 1099511627776 (by decide) (by decide) (by decide) HI.out HK.out.2.2).mono ?_;rintro e w2 ⟨hk,hb,hm⟩;simp only[hq] at hm;obtain ⟨rfl,hs2⟩:=hm;have HK2:=Aside0.mk (And.intro (HK.out.1.trans hk) (And.intro hb hs2));have HX2:=Aside0.mk (kb_blk hk HNE.out HX1.out);have kc0:w2.cell? ⟨w.heap.size,0,none⟩=some (.int .i64 0):=(blk_cell HX2.out 0).trans rfl;have kc1:w2.cell? ⟨w.heap.size,1,none⟩=some (.int .i64 0):=(blk_cell HX2.out 1).trans rfl;have kf0:=blk_frozen HX2.out 0;have kf1:=blk_frozen HX2.out 1;clear hk hb hs2)
    have HBL:Aside0 (((w2.setCell ⟨w.heap.size,0,none⟩ (.int .i64 x)).setCell ⟨w.heap.size,1,none⟩ (.int .i64 y)).heap[w.heap.size]?=some (.cells #[.int .i64 x,.int .i64 y] 25 (0,0))):=⟨by
     have:=blk_set (blk_set HX2.out 0 (.int .i64 x)) 1 (.int .i64 y)
     simpa using this⟩
    refine bodyPost_ret (results_cell_row rfl _ _ w.heap.size 25 _ (0,0) _ (by rfl) HBL.out hu rfl inf25) rfl ?_;have hr0:w0.heap.size≤w.heap.size:=HW0.out;refine ⟨(HK2.out.1.setNew (Nat.le_refl _) 0 _).setNew (Nat.le_refl _) 1 _,((HK2.out.2.2.setOther HNE.out hr0 0 _).setOther HNE.out hr0 1 _).bel,?_⟩;rw[HQ.out];exact ⟨rfl,(HK2.out.2.2.setOther HNE.out hr0 0 _).setOther HNE.out hr0 1 _⟩
theorem cap_calls (w0 w:World) (g:Nat) (A:Option Addr) (c:Nat) (b l:List Int) (hi_:In w0 A c b) (h:RS w0 w g A c b l):
  Calls Try.prog 98 #[.pointer (some ⟨g,0,none⟩)] w fun e w'=>Left w0 w g A c b (fun x:S25 => .tuple #[.int .i64 x.f0,.int .i64 x.f1]) (pairP 1 1099511627776 0 1099511627776 l) e w':=by
 have HI:=Aside0.mk hi_;have HS:=Aside0.mk h;clear hi_ h;go_enter Try.func98,Try.ntmps98
 rcases hp:numP 1 1099511627776 l with n|⟨x,r⟩
 ·have HQ:Aside0 (pairP 1 1099511627776 0 1099511627776 l = .bad n):=⟨pair_bad1 hp⟩;go_wp2_with (go_at_call 80;refine (num_calls w0 _ g A c b l 1 1099511627776 (by decide) (by decide) (by decide) HI.out HS.out).mono ?_;rintro e w1 ⟨hk,hb,hm⟩;simp only[hp,pan] at hm;subst hm;have HK:=Aside0.mk (And.intro hk hb);clear hk hb)
  refine ⟨rfl,HK.out.1,HK.out.2,?_⟩;rw[HQ.out];rfl
 ·go_upto_region 2 with (go_at_call 80;refine (num_calls w0 _ g A c b l 1 1099511627776 (by decide) (by decide) (by decide) HI.out HS.out).mono ?_;rintro e w1 ⟨hk,hb,hm⟩;simp only[hp] at hm;obtain ⟨rfl,hs1⟩:=hm;have HK:=Aside0.mk (And.intro hk (And.intro hb hs1));clear hk hb hs1)
  rcases hq:numP 0 1099511627776 r with n|⟨y,s⟩
  ·have HQ:Aside0 (pairP 1 1099511627776 0 1099511627776 l = .bad n):=⟨pair_bad2 hp hq⟩;go_wp2_with (go_at_call 80;refine (num_calls w0 _ g A c b r 0 1099511627776 (by decide) (by decide) (by decide) HI.out HK.out.2.2).mono ?_;rintro e w2 ⟨hk,hb,hm⟩;simp only[hq,pan] at hm;subst hm;have HK2:=Aside0.mk (And.intro (HK.out.1.trans hk) hb);clear hk hb)
   refine ⟨rfl,HK2.out.1,HK2.out.2,?_⟩;rw[HQ.out];rfl
  ·have HQ:Aside0 (pairP 1 1099511627776 0 1099511627776 l = .ok ⟨x,y⟩ s):=⟨pair_ok hp hq⟩;go_wp2_with (go_at_call 80;refine (num_calls w0 _ g A c b r 0 1099511627776 (by decide) (by decide) (by decide) HI.out HK.out.2.2).mono ?_;rintro e w2 ⟨hk,hb,hm⟩;simp only[hq] at hm;obtain ⟨rfl,hs2⟩:=hm;have HK2:=Aside0.mk (And.intro (HK.out.1.trans hk) (And.intro hb hs2));clear hk hb hs2)
   go_ret2
   refine ⟨HK2.out.1,HK2.out.2.1,?_⟩;rw[HQ.out];exact ⟨rfl,HK2.out.2.2⟩
theorem op_calls (w0 w : World) (g : Nat) (A : Option Addr) (c : Nat) (b l : List Int) (hi_ : In w0 A c b) (h : RS w0 w g A c b l) :
    Calls Try.prog 84 #[.pointer (some ⟨g,0,none⟩)] w fun e w'=>Left w0 w g A c b (fun o:Sp.Op => .agg #[.int .i64 o.kind,.string o.name,.int .i64 o.a,.int .i64 o.b]) (opP l) e w':=by
  have HI:=Aside0.mk hi_;have HNE:=Aside0.mk (rs_ne h);have HW0:=Aside0.mk h.bel.size;obtain ⟨wa,hwa⟩:∃ wa,wa=w.alloc (.cells #[.int .i64 0,.string ⟨#[]⟩,.int .i64 0,.int .i64 0] 29 (0,0)):=⟨_,rfl⟩;have HWA:=Aside0.mk hwa;have HK0:Aside0 (Kb g w wa∧Below w0.heap.size w0 wa∧RS w0 wa g A c b l):=⟨by rw[hwa];exact ⟨Kb.below (al_below w _),(h.below (al_below w _)).bel,h.below (al_below w _)⟩⟩;have HX0:Aside0 (wa.heap[w.heap.size]?=some (.cells #[.int .i64 0,.string ⟨#[]⟩,.int .i64 0,.int .i64 0] 29 (0,0))):=⟨by rw[hwa];exact heap_alloc_new w _⟩;clear hi_ h hwa;have hu:=Try.underlying29;have HP:Aside0 (opP l=bnd (numP 1 11) (fun k=>bnd (nameP eB) fun s=>bnd signP fun a=>bnd signP fun b=>ret ⟨k,s,a,b⟩) l):=⟨rfl⟩;go_enter Try.func84,Try.ntmps84
  go_upto_region 1 with fail
  rw[←HWA.out];rcases h0:numP 1 11 l with n|⟨x,l1⟩
  ·have HQ:Aside0 (opP l = .bad n):=⟨by rw[HP.out,bnd_bad h0]⟩;go_wp2_with (go_at_call 80;refine (num_calls w0 _ g A c b l 1 11 (by decide) (by decide) (by decide) HI.out HK0.out.2.2).mono ?_;rintro e w1 ⟨hk,hb,hm⟩;simp only[h0,pan] at hm;subst hm;have HE:=Aside0.mk (And.intro (HK0.out.1.trans hk) hb);clear hk hb)
   refine ⟨rfl,HE.out.1,HE.out.2,?_⟩;rw[HQ.out];rfl
  ·go_upto_region 2 with (go_at_call 80;refine (num_calls w0 _ g A c b l 1 11 (by decide) (by decide) (by decide) HI.out HK0.out.2.2).mono ?_;rintro e w1 ⟨hk,hb,hm⟩;simp only[h0] at hm;obtain ⟨rfl,hs1⟩:=hm;have HK1:=Aside0.mk (And.intro (HK0.out.1.trans hk) (And.intro hb hs1));have HX1:=Aside0.mk (kb_blk hk HNE.out HX0.out);clear hk hb hs1)
   rcases h1:nameP eB l1 with n|⟨s,l2⟩
   ·have HQ:Aside0 (opP l = .bad n):=⟨by rw[HP.out,bnd_ok h0,bnd_bad h1]⟩;go_wp2_with (go_at_call 97;refine (name_calls w0 _ g A c b l1 eB HI.out HK1.out.2.2).mono ?_;rintro e w1 ⟨hk,hb,hm⟩;simp only[h1,pan] at hm;subst hm;have HE:=Aside0.mk (And.intro (HK1.out.1.trans hk) hb);clear hk hb)
    refine ⟨rfl,HE.out.1,HE.out.2,?_⟩;rw[HQ.out];rfl
   ·go_upto_region 3 with (go_at_call 97;refine (name_calls w0 _ g A c b l1 eB HI.out HK1.out.2.2).mono ?_;rintro e w2 ⟨hk,hb,hm⟩;simp only[h1] at hm;obtain ⟨rfl,hs1⟩:=hm;have HK2:=Aside0.mk (And.intro (HK1.out.1.trans hk) (And.intro hb hs1));have HX2:=Aside0.mk (kb_blk hk HNE.out HX1.out);clear hk hb hs1)
    rcases h2:signP l2 with n|⟨a,l3⟩
    ·have HQ:Aside0 (opP l = .bad n):=⟨by rw[HP.out,bnd_ok h0,bnd_ok h1,bnd_bad h2]⟩;go_wp2_with (go_at_call 87;refine (signed_calls w0 _ g A c b l2 HI.out HK2.out.2.2).mono ?_;rintro e w1 ⟨hk,hb,hm⟩;simp only[h2,pan] at hm;subst hm;have HE:=Aside0.mk (And.intro (HK2.out.1.trans hk) hb);clear hk hb)
     refine ⟨rfl,HE.out.1,HE.out.2,?_⟩;rw[HQ.out];rfl
    ·go_upto_region 4 with (go_at_call 87;refine (signed_calls w0 _ g A c b l2 HI.out HK2.out.2.2).mono ?_;rintro e w3 ⟨hk,hb,hm⟩;simp only[h2] at hm;obtain ⟨rfl,hs1⟩:=hm;have HK3:=Aside0.mk (And.intro (HK2.out.1.trans hk) (And.intro hb hs1));have HX3:=Aside0.mk (kb_blk hk HNE.out HX2.out);clear hk hb hs1)
     rcases h3:signP l3 with n|⟨b2,l4⟩
     ·have HQ:Aside0 (opP l = .bad n):=⟨by rw[HP.out,bnd_ok h0,bnd_ok h1,bnd_ok h2,bnd_bad h3]⟩;go_wp2_with (go_at_call 87;refine (signed_calls w0 _ g A c b l3 HI.out HK3.out.2.2).mono ?_;rintro e w1 ⟨hk,hb,hm⟩;simp only[h3,pan] at hm;subst hm;have HE:=Aside0.mk (And.intro (HK3.out.1.trans hk) hb);clear hk hb)
      refine ⟨rfl,HE.out.1,HE.out.2,?_⟩;rw[HQ.out];rfl
     ·go_wp2_with (go_at_call 87;refine (signed_calls w0 _ g A c b l3 HI.out HK3.out.2.2).mono ?_;rintro e w4 ⟨hk,hb,hm⟩;simp only[h3] at hm;obtain ⟨rfl,hs1⟩:=hm;have HK4:=Aside0.mk (And.intro (HK3.out.1.trans hk) (And.intro hb hs1));have HX4:=Aside0.mk (kb_blk hk HNE.out HX3.out);clear hk hb hs1;have kc0:=(blk_cell HX4.out 0);have kf0:=blk_frozen HX4.out 0;have kc1:=(blk_cell HX4.out 1);have kf1:=blk_frozen HX4.out 1;have kc2:=(blk_cell HX4.out 2);have kf2:=blk_frozen HX4.out 2;have kc3:=(blk_cell HX4.out 3);have kf3:=blk_frozen HX4.out 3)
      have HQ:Aside0 (opP l = .ok ⟨x,s,a,b2⟩ l4):=⟨by rw[HP.out,bnd_ok h0,bnd_ok h1,bnd_ok h2,bnd_ok h3];rfl⟩
      have HBL:Aside0 (((((w4.setCell ⟨w.heap.size,0,none⟩ (.int .i64 x)).setCell ⟨w.heap.size,1,none⟩ (.string s)).setCell ⟨w.heap.size,2,none⟩ (.int .i64 a)).setCell ⟨w.heap.size,3,none⟩ (.int .i64 b2)).heap[w.heap.size]?=some (.cells #[.int .i64 x,.string s,.int .i64 a,.int .i64 b2] 29 (0,0))):=⟨by
       have:=(blk_set (blk_set (blk_set (blk_set HX4.out 0 (.int .i64 x)) 1 (.string s)) 2 (.int .i64 a)) 3 (.int .i64 b2))
       simpa using this⟩
      refine bodyPost_ret (results_cell_row rfl _ _ w.heap.size 29 _ (0,0) _ (by rfl) HBL.out hu rfl inf29) rfl ?_;refine ⟨((((HK4.out.1.setNew (Nat.le_refl _) 0 _).setNew (Nat.le_refl _) 1 _).setNew (Nat.le_refl _) 2 _).setNew (Nat.le_refl _) 3 _),((((HK4.out.2.2.setOther HNE.out HW0.out 0 _).setOther HNE.out HW0.out 1 _).setOther HNE.out HW0.out 2 _).setOther HNE.out HW0.out 3 _).bel,?_⟩;rw[HQ.out];exact ⟨rfl,((((HK4.out.2.2.setOther HNE.out HW0.out 0 _).setOther HNE.out HW0.out 1 _).setOther HNE.out HW0.out 2 _).setOther HNE.out HW0.out 3 _)⟩
def vcells (v:S87):List Value:=[.string v.f0,.int .i64 v.f1,.int .i64 v.f2,.int .i64 v.f3,.int .i64 v.f4.f0,.int .i64 v.f4.f1,.int .i64 v.f5]
def rowV (l:List S87):List Value:=l.flatMap vcells
theorem rowV_append (a b:List S87):rowV (a++b)=rowV a++rowV b:=List.flatMap_append ..
theorem rowV_len (l:List S87):(rowV l).length=l.length * 7:=by
 induction l with
 | nil=>rfl
 | cons v r ih=>unfold rowV at ih ⊢;rw[List.flatMap_cons,List.length_append,ih,List.length_cons];simp[vcells];omega
theorem inf87:(Try.prog.info? 87).map (fun i=>(i.zero.map (·.cells),i.size,i.bytes))=some (some #[.string ⟨#[]⟩,.int .i64 0,.int .i64 0,.int .i64 0,.int .i64 0,.int .i64 0,.int .i64 0],7,64):=by kernel_rfl
theorem made_row (n:Nat):madeCells #[Value.string ⟨#[]⟩,.int .i64 0,.int .i64 0,.int .i64 0,.int .i64 0,.int .i64 0,.int .i64 0] (n * 7)=(rowV (List.replicate n z87)).toArray:=by
 apply Array.toList_inj.mp;rw[List.toList_toArray];unfold madeCells;rw[Array.toList_map,Array.toList_range]
 induction n with
 | zero=>rfl
 | succ n ih=>
  rw[Nat.succ_mul,List.range_add,List.map_append,ih,List.replicate_succ',rowV_append]
  congr 1
  have h:∀ j,(n * 7+j) % 7=j % 7:=fun j=>by omega
  simp[List.range_succ,rowV,vcells,h,z87,z25]
theorem run_mk (w:World) (n:Int) (h0:0≤n) (h1:n≤64):(Instr.makeSlice 31 (.int .i64 n) (.int .i64 n)).run Try.prog w = .ok (.slice (some ⟨w.heap.size,0,none⟩) n.toNat n.toNat) (w.alloc (.cells (rowV (List.replicate n.toNat z87)).toArray 87)):=by
 obtain ⟨i,hi,hz⟩:=Option.map_eq_some_iff.1 inf87;simp only[Prod.mk.injEq] at hz;obtain ⟨z,hz0,hz1⟩:=Option.map_eq_some_iff.1 hz.1;have hr:=run_make (P:=Try.prog) w 31 87 i z Try.underlying31 hi hz0 .i64 .i64 n n h0 (Int.le_refl _) (by rw[hz.2.2];omega) (by omega);rw[hr,hz.2.1,hz1,made_row]
def gath (done:List S87):R (List S87)→R (List S87)
 | .bad k => .bad k
 | .ok r s => .ok (done++r) s
theorem go_step {m:Nat} {a:ByteArray} {l r:List Int} {v:S87} (h:viewP a l = .ok v r):viewsGo (m+1) a l=gath [v] (viewsGo m v.f0 r):=by
 rw[viewsGo,bnd_ok h];cases hh:viewsGo m v.f0 r with
 | bad k=>rw[bnd_bad hh];rfl
 | ok x s=>rw[bnd_ok hh];rfl
theorem gath_gath (a b:List S87) (x:R (List S87)):gath a (gath b x)=gath (a++b) x:=by cases x<;>simp[gath]
def LeftV (w0 w : World) (g : Nat) (A : Option Addr) (c : Nat) (b : List Int) (r : R (List S87)) (e : Ending) (w1 : World) : Prop :=
  Kb g w w1 ∧ Below w0.heap.size w0 w1 ∧ match r with
    | .bad k=>e=pan ((b.length:Int) - k)
    | .ok xs l=>(∃ vb,e = .returned (.slice (some ⟨vb,0,none⟩) xs.length xs.length)∧w.heap.size≤vb∧w1.heap[vb]?=some (.cells (rowV xs).toArray 87 (0,0)))∧RS w0 w1 g A c b l
theorem seven (pre post:List Value) (z0 z1 z2 z3 z4 z5 z6 a0 a1 a2 a3 a4 a5 a6:Value) (p:Nat) (hp:p=pre.length):
  ((((((((pre++[z0,z1,z2,z3,z4,z5,z6]++post).toArray.setIfInBounds p a0).setIfInBounds (p+1) a1).setIfInBounds (p+2) a2).setIfInBounds (p+3) a3).setIfInBounds (p+4) a4).setIfInBounds (p+5) a5).setIfInBounds (p+6) a6)=(pre++[a0,a1,a2,a3,a4,a5,a6]++post).toArray:=by
 subst hp;simp[List.set_append]
theorem get_u {cs:Array Value} {j:Nat} (h:j<cs.size):∃ u,cs[j]?=some u:=⟨cs[j],Array.getElem?_eq_getElem h⟩
theorem views_calls (w0 w : World) (g : Nat) (A : Option Addr) (c : Nat) (b l : List Int) (hi_ : In w0 A c b) (h : RS w0 w g A c b l) :
    Calls Try.prog 99 #[.pointer (some ⟨g,0,none⟩)] w fun e w'=>LeftV w0 w g A c b (viewsP l) e w':=by
  have HI:=Aside0.mk hi_;have HS:=Aside0.mk h;have HNE:=Aside0.mk (rs_ne h);clear hi_ h;have hu87:=Try.underlying87;have hu25:=Try.underlying25;go_enter Try.func99,Try.ntmps99
  rcases hp:numP 0 64 l with n|⟨n,r⟩
  ·have HQ:Aside0 (viewsP l = .bad n):=⟨by unfold viewsP;rw[bnd_bad hp]⟩;go_wp2_with (go_at_call 80;refine (num_calls w0 _ g A c b l 0 64 (by decide) (by decide) (by decide) HI.out HS.out).mono ?_;rintro e w1 ⟨hk,hb,hm⟩;simp only[hp,pan] at hm;subst hm;have HK:=Aside0.mk (And.intro hk hb);clear hk hb)
   refine ⟨rfl,HK.out.1,HK.out.2,?_⟩;rw[HQ.out];rfl
  · have hc := ((numP_codec 0 64 (by decide) (by decide)).one l n r (HS.out.isB HI.out.isB) hp).1
    have HP:Aside0 (viewsP l=viewsGo n.toNat eB r):=⟨by unfold viewsP;rw[bnd_ok hp]⟩;obtain ⟨n,rfl⟩:∃ m:Nat,n=(m:Int):=⟨n.toNat,by omega⟩;rw[Int.toNat_natCast] at HP;have hn64:(n:Int)≤64:=hc.2;have hmk:=fun W=>run_mk W (n:Int) (by omega) hn64;simp only[Int.toNat_natCast] at hmk;clear hc
    go_wp2_with (first
     | ((with_reducible refine gate_dst (N:=9) rfl ?_);refine Kd.event_run rfl (by simp only[execOp];simp[hmk];rfl) ?_)
     | (go_at_call 80;refine (num_calls w0 _ g A c b l 0 64 (by decide) (by decide) (by decide) HI.out HS.out).mono ?_;rintro e w1 ⟨hk,hb,hm⟩;simp only[hp] at hm;obtain ⟨rfl,hs1⟩:=hm;have HK:=Aside0.mk (And.intro hk (And.intro hb hs1));clear hk hb hs1))
    obtain ⟨w2,hw2⟩:∃ w2,w2=w1.alloc (.cells (rowV (List.replicate n z87)).toArray 87 (0,0)):=⟨_,rfl⟩;rw[←hw2];obtain ⟨vb,hvb⟩:∃ vb,vb=w1.heap.size:=⟨_,rfl⟩;rw[←hvb];have H0:Aside0 (Kb g w w2∧RS w0 w2 g A c b r∧w2.heap[vb]?=some (.cells (rowV (List.replicate n z87)).toArray 87 (0,0))):=⟨by rw[hw2];exact HK.out.1.trans (Kb.below (al_below w1 _)),by rw[hw2];exact HK.out.2.2.below (al_below w1 _),by rw[hw2,hvb];exact heap_alloc_new w1 _⟩;have HVG:Aside0 (w.heap.size≤vb∧vb≠g∧w0.heap.size≤vb):=⟨by rw[hvb];exact ⟨HK.out.1.size,rs_ne HK.out.2.2,HK.out.2.1.size⟩⟩;clear hw2 hvb hmk;go_loopw [4,12] (fun v4 v12 wr=>∃ (i:Nat) (a:ByteArray) (done:List S87) (li:List Int),v4 = .string a∧v12 = .int .i64 (i:Int)∧Aside0 (i≤n∧done.length=i∧viewsGo n eB r=gath done (viewsGo (n - i) a li)∧Kb g w wr∧RS w0 wr g A c b li∧wr.heap[vb]?=some (.cells (rowV done++rowV (List.replicate (n - i) z87)).toArray 87 (0,0)))) (fun _ v12 _=>n - (intOf v12).toNat)
    case atStart=>exact ⟨0,eB,[],r,rfl,rfl,⟨Nat.zero_le _,rfl,by cases hh:viewsGo (n - 0) eB r<;>simp[Nat.sub_zero] at hh<;>simp[hh,gath],H0.out.1,H0.out.2.1,by simpa [rowV] using H0.out.2.2⟩⟩
    case round=>
     obtain ⟨i,a,done,li,rfl,rfl,HR⟩:=hrel;by_cases hlt:i<n
     · have hi0 : (0 : Int) ≤ (i : Int) := by omega
       have hi1:(i:Int)<(n:Int):=by omega
       have HLT:=Aside0.mk hlt;clear hlt;obtain ⟨m,hm⟩:∃ m,n - i=m+1:=⟨n - i - 1,by have:=HLT.out;omega⟩;have HM:=Aside0.mk hm;clear hm;obtain ⟨cs0,hcs0⟩:∃ cs0,cs0=(rowV done++rowV (List.replicate (n - i) z87)).toArray:=⟨_,rfl⟩;have HCS0:=Aside0.mk hcs0;have HZ0:Aside0 (cs0.size=n * 7):=⟨by rw[hcs0,List.size_toArray,List.length_append,rowV_len,rowV_len,List.length_replicate,HR.out.2.1];have:=HR.out.1;omega⟩;clear hcs0;have H0:Aside0 (Kb g w wr∧RS w0 wr g A c b li∧wr.heap[vb]?=some (.cells cs0 87 (0,0))):=⟨HR.out.2.2.2.1,HR.out.2.2.2.2.1,by rw[HCS0.out];exact HR.out.2.2.2.2.2⟩;obtain ⟨li0,hli⟩:∃ li0,li0=li:=⟨_,rfl⟩;rw[←hli] at H0;have HLI:=Aside0.mk hli;clear hli;have HVP:Aside0 (viewP a li0=bnd (nameP a) (fun s=>bnd (pairP 1 1099511627776 0 1099511627776) fun c=>bnd (numP 0 1099511627776) fun v=>bnd (pairP 0 1099511627776 0 1099511627776) fun r=>bnd (numP 0 1099511627776) fun h=>ret ⟨s,c.f0,c.f1,v,r,h⟩) li0):=⟨rfl⟩;go_upto_region 7 with fail
       rcases h0:nameP a li0 with n0|⟨s,li1⟩
       ·have HQ:Aside0 (viewsP l = .bad n0):=⟨by rw[HP.out,HR.out.2.2.1,HM.out,viewsGo,←HLI.out,bnd_bad (show viewP a li0 = .bad n0 from by rw[HVP.out,bnd_bad h0])];rfl⟩;go_wp2_with (go_at_call 97;refine (name_calls w0 _ g A c b li0 a HI.out H0.out.2.1).mono ?_;rintro e w5 ⟨hk,hb,hm⟩;simp only[h0,pan] at hm;subst hm;have HE:=Aside0.mk (And.intro (H0.out.1.trans hk) hb);clear hk hb)
        refine ⟨rfl,HE.out.1,HE.out.2,?_⟩;rw[HQ.out];rfl
       ·go_upto_region 8 with (go_at_call 97;refine (name_calls w0 _ g A c b li0 a HI.out H0.out.2.1).mono ?_;rintro e w5 ⟨hk,hb,hm⟩;simp only[h0] at hm;obtain ⟨rfl,hs1⟩:=hm;have HK5:=Aside0.mk (And.intro (H0.out.1.trans hk) (And.intro hb hs1));have HX:=Aside0.mk (kb_blk hk HVG.out.2.1 H0.out.2.2);clear hk hb hs1;obtain ⟨u0,hu0⟩:=get_u (cs:=cs0) (j:=i * 7+0) (by have:=HZ0.out;have:=HLT.out;omega);have kc0:w5.cell? ⟨vb,i * 7,none⟩=some u0:=(blk_cell HX.out (i * 7)).trans hu0;have kf0:w5.frozen? ⟨vb,i * 7,none⟩=false:=blk_frozen HX.out (i * 7))
        obtain ⟨wz0,hwz⟩:∃ wz:World,wz=(w5.setCell ⟨vb,i * 7,none⟩ (.string s)):=⟨_,rfl⟩;obtain ⟨cs1,hcs⟩:∃ cs,cs=(cs0.setIfInBounds (i * 7) (.string s)):=⟨_,rfl⟩;have HCS1:=Aside0.mk hcs;have H1:Aside0 (Kb g w wz0∧RS w0 wz0 g A c b li1∧wz0.heap[vb]?=some (.cells cs1 87 (0,0))):=⟨by rw[hwz];exact (HK5.out.1.setNew HVG.out.1 (i * 7) _),by rw[hwz];exact (HK5.out.2.2.setOther HVG.out.2.1 HVG.out.2.2 (i * 7) _),by rw[hwz,hcs];exact (blk_set HX.out (i * 7) (.string s))⟩;have HZ1:Aside0 (cs1.size=n * 7):=⟨by rw[hcs];simp only[Array.size_setIfInBounds];exact HZ0.out⟩;rw[←hwz];clear hwz hcs HK5 HX kc0 kf0 hu0;rcases h1:pairP 1 1099511627776 0 1099511627776 li1 with n0|⟨p,li2⟩
        ·have HQ:Aside0 (viewsP l = .bad n0):=⟨by rw[HP.out,HR.out.2.2.1,HM.out,viewsGo,←HLI.out,bnd_bad (show viewP a li0 = .bad n0 from by rw[HVP.out,bnd_ok h0,bnd_bad h1])];rfl⟩;go_wp2_with (go_at_call 98;refine (cap_calls w0 _ g A c b li1 HI.out H1.out.2.1).mono ?_;rintro e w5 ⟨hk,hb,hm⟩;simp only[h1,pan] at hm;subst hm;have HE:=Aside0.mk (And.intro (H1.out.1.trans hk) hb);clear hk hb)
         refine ⟨rfl,HE.out.1,HE.out.2,?_⟩;rw[HQ.out];rfl
        ·go_upto_region 9 with (go_at_call 98;refine (cap_calls w0 _ g A c b li1 HI.out H1.out.2.1).mono ?_;rintro e w5 ⟨hk,hb,hm⟩;simp only[h1] at hm;obtain ⟨rfl,hs1⟩:=hm;have HK5:=Aside0.mk (And.intro (H1.out.1.trans hk) (And.intro hb hs1));have HX:=Aside0.mk (kb_blk hk HVG.out.2.1 H1.out.2.2);clear hk hb hs1;obtain ⟨u1,hu1⟩:=get_u (cs:=cs1) (j:=i * 7+1) (by have:=HZ1.out;have:=HLT.out;omega);have kc1:w5.cell? ⟨vb,i * 7+1,none⟩=some u1:=(blk_cell HX.out _).trans hu1;have kf1:w5.frozen? ⟨vb,i * 7+1,none⟩=false:=blk_frozen HX.out _;obtain ⟨u2,hu2⟩:=get_u (cs:=cs1) (j:=i * 7+2) (by have:=HZ1.out;have:=HLT.out;omega);have kc2:w5.cell? ⟨vb,i * 7+2,none⟩=some u2:=(blk_cell HX.out _).trans hu2;have kf2:w5.frozen? ⟨vb,i * 7+2,none⟩=false:=blk_frozen HX.out _)
         obtain ⟨wz1,hwz⟩:∃ wz:World,wz=((w5.setCell ⟨vb,i * 7+1,none⟩ (.int .i64 p.f0)).setCell ⟨vb,i * 7+2,none⟩ (.int .i64 p.f1)):=⟨_,rfl⟩;obtain ⟨cs2,hcs⟩:∃ cs,cs=((cs1.setIfInBounds (i * 7+1) (.int .i64 p.f0)).setIfInBounds (i * 7+2) (.int .i64 p.f1)):=⟨_,rfl⟩;have HCS2:=Aside0.mk hcs;have H2:Aside0 (Kb g w wz1∧RS w0 wz1 g A c b li2∧wz1.heap[vb]?=some (.cells cs2 87 (0,0))):=⟨by rw[hwz];exact ((HK5.out.1.setNew HVG.out.1 (i * 7+1) _).setNew HVG.out.1 (i * 7+2) _),by rw[hwz];exact ((HK5.out.2.2.setOther HVG.out.2.1 HVG.out.2.2 (i * 7+1) _).setOther HVG.out.2.1 HVG.out.2.2 (i * 7+2) _),by rw[hwz,hcs];exact (blk_set (blk_set HX.out (i * 7+1) (.int .i64 p.f0)) (i * 7+2) (.int .i64 p.f1))⟩;have HZ2:Aside0 (cs2.size=n * 7):=⟨by rw[hcs];simp only[Array.size_setIfInBounds];exact HZ1.out⟩;rw[←hwz];clear hwz hcs HK5 HX kc1 kf1 hu1 kc2 kf2 hu2;rcases h2:numP 0 1099511627776 li2 with n0|⟨ve,li3⟩
         ·have HQ:Aside0 (viewsP l = .bad n0):=⟨by rw[HP.out,HR.out.2.2.1,HM.out,viewsGo,←HLI.out,bnd_bad (show viewP a li0 = .bad n0 from by rw[HVP.out,bnd_ok h0,bnd_ok h1,bnd_bad h2])];rfl⟩;go_wp2_with (go_at_call 80;refine (num_calls w0 _ g A c b li2 0 1099511627776 (by decide) (by decide) (by decide) HI.out H2.out.2.1).mono ?_;rintro e w5 ⟨hk,hb,hm⟩;simp only[h2,pan] at hm;subst hm;have HE:=Aside0.mk (And.intro (H2.out.1.trans hk) hb);clear hk hb)
          refine ⟨rfl,HE.out.1,HE.out.2,?_⟩;rw[HQ.out];rfl
         ·go_upto_region 10 with (go_at_call 80;refine (num_calls w0 _ g A c b li2 0 1099511627776 (by decide) (by decide) (by decide) HI.out H2.out.2.1).mono ?_;rintro e w5 ⟨hk,hb,hm⟩;simp only[h2] at hm;obtain ⟨rfl,hs1⟩:=hm;have HK5:=Aside0.mk (And.intro (H2.out.1.trans hk) (And.intro hb hs1));have HX:=Aside0.mk (kb_blk hk HVG.out.2.1 H2.out.2.2);clear hk hb hs1;obtain ⟨u3,hu3⟩:=get_u (cs:=cs2) (j:=i * 7+3) (by have:=HZ2.out;have:=HLT.out;omega);have kc3:w5.cell? ⟨vb,i * 7+3,none⟩=some u3:=(blk_cell HX.out _).trans hu3;have kf3:w5.frozen? ⟨vb,i * 7+3,none⟩=false:=blk_frozen HX.out _)
          obtain ⟨wz2,hwz⟩:∃ wz:World,wz=(w5.setCell ⟨vb,i * 7+3,none⟩ (.int .i64 ve)):=⟨_,rfl⟩;obtain ⟨cs3,hcs⟩:∃ cs,cs=(cs2.setIfInBounds (i * 7+3) (.int .i64 ve)):=⟨_,rfl⟩;have HCS3:=Aside0.mk hcs;have H3:Aside0 (Kb g w wz2∧RS w0 wz2 g A c b li3∧wz2.heap[vb]?=some (.cells cs3 87 (0,0))):=⟨by rw[hwz];exact (HK5.out.1.setNew HVG.out.1 (i * 7+3) _),by rw[hwz];exact (HK5.out.2.2.setOther HVG.out.2.1 HVG.out.2.2 (i * 7+3) _),by rw[hwz,hcs];exact (blk_set HX.out (i * 7+3) (.int .i64 ve))⟩;have HZ3:Aside0 (cs3.size=n * 7):=⟨by rw[hcs];simp only[Array.size_setIfInBounds];exact HZ2.out⟩;rw[←hwz];clear hwz hcs HK5 HX kc3 kf3 hu3;rcases h3:pairP 0 1099511627776 0 1099511627776 li3 with n0|⟨rt,li4⟩
          ·have HQ:Aside0 (viewsP l = .bad n0):=⟨by rw[HP.out,HR.out.2.2.1,HM.out,viewsGo,←HLI.out,bnd_bad (show viewP a li0 = .bad n0 from by rw[HVP.out,bnd_ok h0,bnd_ok h1,bnd_ok h2,bnd_bad h3])];rfl⟩;go_wp2_with (go_at_call 101;refine (rights_calls w0 _ g A c b li3 HI.out H3.out.2.1).mono ?_;rintro e w5 ⟨hk,hb,hm⟩;simp only[h3,pan] at hm;subst hm;have HE:=Aside0.mk (And.intro (H3.out.1.trans hk) hb);clear hk hb)
           refine ⟨rfl,HE.out.1,HE.out.2,?_⟩;rw[HQ.out];rfl
          ·go_upto_region 11 with (go_at_call 101;refine (rights_calls w0 _ g A c b li3 HI.out H3.out.2.1).mono ?_;rintro e w5 ⟨hk,hb,hm⟩;simp only[h3] at hm;obtain ⟨rfl,hs1⟩:=hm;have HK5:=Aside0.mk (And.intro (H3.out.1.trans hk) (And.intro hb hs1));have HX:=Aside0.mk (kb_blk hk HVG.out.2.1 H3.out.2.2);clear hk hb hs1;obtain ⟨u4,hu4⟩:=get_u (cs:=cs3) (j:=i * 7+4) (by have:=HZ3.out;have:=HLT.out;omega);have kc4:w5.cell? ⟨vb,i * 7+4,none⟩=some u4:=(blk_cell HX.out _).trans hu4;have kf4:w5.frozen? ⟨vb,i * 7+4,none⟩=false:=blk_frozen HX.out _;obtain ⟨u5,hu5⟩:=get_u (cs:=cs3) (j:=i * 7+5) (by have:=HZ3.out;have:=HLT.out;omega);have kc5:w5.cell? ⟨vb,i * 7+5,none⟩=some u5:=(blk_cell HX.out _).trans hu5;have kf5:w5.frozen? ⟨vb,i * 7+5,none⟩=false:=blk_frozen HX.out _)
           obtain ⟨wz3,hwz⟩:∃ wz:World,wz=((w5.setCell ⟨vb,i * 7+4,none⟩ (.int .i64 rt.f0)).setCell ⟨vb,i * 7+5,none⟩ (.int .i64 rt.f1)):=⟨_,rfl⟩;obtain ⟨cs4,hcs⟩:∃ cs,cs=((cs3.setIfInBounds (i * 7+4) (.int .i64 rt.f0)).setIfInBounds (i * 7+5) (.int .i64 rt.f1)):=⟨_,rfl⟩;have HCS4:=Aside0.mk hcs;have H4:Aside0 (Kb g w wz3∧RS w0 wz3 g A c b li4∧wz3.heap[vb]?=some (.cells cs4 87 (0,0))):=⟨by rw[hwz];exact ((HK5.out.1.setNew HVG.out.1 (i * 7+4) _).setNew HVG.out.1 (i * 7+5) _),by rw[hwz];exact ((HK5.out.2.2.setOther HVG.out.2.1 HVG.out.2.2 (i * 7+4) _).setOther HVG.out.2.1 HVG.out.2.2 (i * 7+5) _),by rw[hwz,hcs];exact (blk_set (blk_set HX.out (i * 7+4) (.int .i64 rt.f0)) (i * 7+5) (.int .i64 rt.f1))⟩;have HZ4:Aside0 (cs4.size=n * 7):=⟨by rw[hcs];simp only[Array.size_setIfInBounds];exact HZ3.out⟩;rw[←hwz];clear hwz hcs HK5 HX kc4 kf4 hu4 kc5 kf5 hu5;rcases h4:numP 0 1099511627776 li4 with n0|⟨hd,li5⟩
           ·have HQ:Aside0 (viewsP l = .bad n0):=⟨by rw[HP.out,HR.out.2.2.1,HM.out,viewsGo,←HLI.out,bnd_bad (show viewP a li0 = .bad n0 from by rw[HVP.out,bnd_ok h0,bnd_ok h1,bnd_ok h2,bnd_ok h3,bnd_bad h4])];rfl⟩;go_wp2_with (go_at_call 80;refine (num_calls w0 _ g A c b li4 0 1099511627776 (by decide) (by decide) (by decide) HI.out H4.out.2.1).mono ?_;rintro e w5 ⟨hk,hb,hm⟩;simp only[h4,pan] at hm;subst hm;have HE:=Aside0.mk (And.intro (H4.out.1.trans hk) hb);clear hk hb)
            refine ⟨rfl,HE.out.1,HE.out.2,?_⟩;rw[HQ.out];rfl
           ·go_upto_region 12 with (go_at_call 80;refine (num_calls w0 _ g A c b li4 0 1099511627776 (by decide) (by decide) (by decide) HI.out H4.out.2.1).mono ?_;rintro e w5 ⟨hk,hb,hm⟩;simp only[h4] at hm;obtain ⟨rfl,hs1⟩:=hm;have HK5:=Aside0.mk (And.intro (H4.out.1.trans hk) (And.intro hb hs1));have HX:=Aside0.mk (kb_blk hk HVG.out.2.1 H4.out.2.2);clear hk hb hs1;obtain ⟨u6,hu6⟩:=get_u (cs:=cs4) (j:=i * 7+6) (by have:=HZ4.out;have:=HLT.out;omega);have kc6:w5.cell? ⟨vb,i * 7+6,none⟩=some u6:=(blk_cell HX.out _).trans hu6;have kf6:w5.frozen? ⟨vb,i * 7+6,none⟩=false:=blk_frozen HX.out _)
            obtain ⟨wz4,hwz⟩:∃ wz:World,wz=(w5.setCell ⟨vb,i * 7+6,none⟩ (.int .i64 hd)):=⟨_,rfl⟩;obtain ⟨cs5,hcs⟩:∃ cs,cs=(cs4.setIfInBounds (i * 7+6) (.int .i64 hd)):=⟨_,rfl⟩;have HCS5:=Aside0.mk hcs;have H5:Aside0 (Kb g w wz4∧RS w0 wz4 g A c b li5∧wz4.heap[vb]?=some (.cells cs5 87 (0,0))):=⟨by rw[hwz];exact (HK5.out.1.setNew HVG.out.1 (i * 7+6) _),by rw[hwz];exact (HK5.out.2.2.setOther HVG.out.2.1 HVG.out.2.2 (i * 7+6) _),by rw[hwz,hcs];exact (blk_set HX.out (i * 7+6) (.int .i64 hd))⟩;have HZ5:Aside0 (cs5.size=n * 7):=⟨by rw[hcs];simp only[Array.size_setIfInBounds];exact HZ4.out⟩;rw[←hwz];clear hwz hcs HK5 HX kc6 kf6 hu6;have HVW:Aside0 (viewP a li0 = .ok ⟨s,p.f0,p.f1,ve,rt,hd⟩ li5):=⟨by rw[HVP.out,bnd_ok h0,bnd_ok h1,bnd_ok h2,bnd_ok h3,bnd_ok h4];rfl⟩
            have HFIN:Aside0 (cs5=(rowV (done++[⟨s,p.f0,p.f1,ve,rt,hd⟩])++rowV (List.replicate (n - (i+1)) z87)).toArray):=⟨by
             rw[HCS5.out,HCS4.out,HCS3.out,HCS2.out,HCS1.out,HCS0.out,HM.out,List.replicate_succ,show n - (i+1)=m from by have:=HM.out;omega];have h7:=seven (rowV done) (rowV (List.replicate m z87)) (.string ⟨#[]⟩) (.int .i64 0) (.int .i64 0) (.int .i64 0) (.int .i64 0) (.int .i64 0) (.int .i64 0) (.string s) (.int .i64 p.f0) (.int .i64 p.f1) (.int .i64 ve) (.int .i64 rt.f0) (.int .i64 rt.f1) (.int .i64 hd) (i * 7) (by rw[rowV_len,HR.out.2.1]);have e1:rowV (z87::List.replicate m z87)=[.string ⟨#[]⟩,.int .i64 0,.int .i64 0,.int .i64 0,.int .i64 0,.int .i64 0,.int .i64 0]++rowV (List.replicate m z87):=rfl;have e2:rowV (done++[(⟨s,p.f0,p.f1,ve,rt,hd⟩:S87)])=rowV done++[.string s,.int .i64 p.f0,.int .i64 p.f1,.int .i64 ve,.int .i64 rt.f0,.int .i64 rt.f1,.int .i64 hd]:=by rw[rowV_append];rfl
             rw[e1,e2,←List.append_assoc];exact h7⟩
            have kc:wz4.cell? ⟨vb,i * 7,none⟩=some (.string s):=(blk_cell H5.out.2.2 _).trans (by
             rw[HFIN.out,rowV_append];have hl:(rowV done).length=i * 7:=by rw[rowV_len,HR.out.2.1]
             simp[←hl,rowV,vcells])
            go_wp2_with fail
            go_roundw
            case rel=>exact ⟨i+1,s,done++[⟨s,p.f0,p.f1,ve,rt,hd⟩],li5,rfl,by go_num,⟨by have:=HLT.out;omega,by rw[List.length_append,HR.out.2.1];rfl,by rw[HR.out.2.2.1,HM.out,←HLI.out,go_step HVW.out,gath_gath,show n - (i+1)=m from by have:=HM.out;omega],H5.out.1,H5.out.2.1,by rw[←HFIN.out];exact H5.out.2.2⟩⟩
            case measure=>simp only[intOf];have:=HLT.out;first|omega|(go_num;omega)|(simp;omega)
     ·have hi1:¬((i:Int)<(n:Int)):=by omega
      have hin:i=n:=by have:=HR.out.1;omega
      have HQ:Aside0 (viewsP l = .ok done li):=⟨by rw[HP.out,HR.out.2.2.1,hin,Nat.sub_self,viewsGo];simp[ret,gath]⟩;have HB5:Aside0 (wr.heap[vb]?=some (.cells (rowV done).toArray 87 (0,0))):=⟨by have:=HR.out.2.2.2.2.2;rw[hin,Nat.sub_self,List.replicate_zero] at this;simpa [rowV] using this⟩;have HLD:Aside0 (done.length=n):=⟨by rw[HR.out.2.1,hin]⟩;clear hin;go_wp2_with fail
      go_ret
      refine ⟨HR.out.2.2.2.1,HR.out.2.2.2.2.1.bel,?_⟩;rw[HQ.out];exact ⟨⟨vb,by rw[HLD.out];rfl,HVG.out.1,HB5.out⟩,HR.out.2.2.2.2.1⟩
theorem blk_far {w:World} {k g:Nat} {o:Obj} (h:w.heap[k]?=some o) (hne:g≠k) (i:Nat) (v:Value):(w.setCell ⟨g,i,none⟩ v).heap[k]?=some o:=(Below.heap_setCell w ⟨g,i,none⟩ v k (Ne.symm hne)).trans h
theorem setRow_far {w:World} {k g:Nat} (hne:k≠g) (cs:Array Value):(w.setRow g cs).heap[k]?=w.heap[k]?:=by
 simp[World.setRow,Array.getElem?_modify,Ne.symm hne]
theorem setRow_blk {w:World} {g:Nat} {t:TypeId} {old:Array Value} (h:w.heap[g]?=some (.cells old t (0,0))) (cs:Array Value):(w.setRow g cs).heap[g]?=some (.cells cs t (0,0)):=by
 simp[World.setRow,Array.getElem?_modify,h]
theorem Kb.setRowNew {g rb:Nat} {w w2:World} (h:Kb g w w2) (hr:w.heap.size≤rb) (cs:Array Value):Kb g w (w2.setRow rb cs):=
 ⟨by rw[size_setRow];exact h.size,fun k hk hg=>(setRow_far (by omega) cs).trans (h.block k hk hg)⟩
theorem RS.setRowOther {w0 w2:World} {g rb:Nat} {A:Option Addr} {c:Nat} {b l:List Int} (h:RS w0 w2 g A c b l) (hne:rb≠g) (hr:w0.heap.size≤rb) (cs:Array Value):RS w0 (w2.setRow rb cs) g A c b l:=
 ⟨(setRow_far (Ne.symm hne) cs).trans h.blk,h.ge,below_setRow h.bel hr cs,h.suf⟩
def NewV (w w1:World) (A:Option Addr) (c:Nat) (xs:List S87):Prop:=(A=none∧c=0∧xs=[]) ∨ ∃ vb,A=some ⟨vb,0,none⟩∧c=xs.length∧w.heap.size≤vb∧w1.heap[vb]?=some (.cells (rowV xs).toArray 87 (0,0))
def LeftM (w0 w : World) (g : Nat) (A : Option Addr) (c : Nat) (b : List Int) (r : R Msg) (e : Ending) (w1 : World) : Prop :=
  Kb g w w1 ∧ Below w0.heap.size w0 w1 ∧ match r with
    | .bad k=>e=pan ((b.length:Int) - k)
    | .ok m l=>(∃ A1 c1,e = .returned (MV m A1 c1)∧NewV w w1 A1 c1 m.views)∧RS w0 w1 g A c b l
end Go.Proofs.Ytpgdmmjbhjbbhaa.Rd
end
