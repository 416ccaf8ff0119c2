/- texts that the proof needs, laid together by a program of this session. -/
import Derived.WalkKit
import Derived.ProofKit
import Derived.OpenShut
import Derived.ShutString
import Derived.ChangeOld
import Derived.Below
import Derived.SizedLaws
import Derived.Deep.Slices
import Derived.Deep.AppendLies
import Derived.Test.YtpgdmmjbhjbbhaaKWireKept9
set_option maxRecDepth 100000
set_option maxHeartbeats 16000000
set_option linter.unusedVariables false
set_option linter.unusedSimpArgs false
section
namespace Go.Proofs.Ytpgdmmjbhjbbhaa.P
open Go.RowKit YtpgdmmjbhjbbhaaW.PrintWords YtpgdmmjbhjbbhaaW.PrintLast YtpgdmmjbhjbbhaaW.PrintMore
attribute [local go_sem] Go.Proofs.Ytpgdmmjbhjbbhaa.StrLe.leq_str Go.Proofs.Ytpgdmmjbhjbbhaa.StrLe.gtr_str
attribute [local go_sem] max2_int min2_int max_two min_two max_three min_three max_four min_four
def IsS132 (w0 W:World) (g:Nat) (f0:List Int) (f1:Int) (f2:Bool):Prop:=∃ A0 c0,W.heap[g]?=some (.cells #[.slice A0 f0.length c0,.int .i64 f1,.bool f2] 132 (0,0))∧(w0.heap.size≤g∧f0.length≤c0)∧Kd.C (Kd.int .u8) w0 A0 f0.length f0
theorem IsS132.kept {w0 W:World} {g:Nat} {f0:List Int} {f1:Int} {f2:Bool} {W1:World} {S:Nat→Prop} (h:IsS132 w0 W g f0 f1 f2) (hk:Kept W W1 S) (hne:¬S g):IsS132 w0 W1 g f0 f1 f2:=by
 obtain ⟨A0,c0,hb,hg,hr0⟩:=h;exact ⟨A0,c0,blk_kept hb hk hne,hg,hr0⟩
theorem IsS132.far {w0 W:World} {g:Nat} {f0:List Int} {f1:Int} {f2:Bool} {p:Addr} (h:IsS132 w0 W g f0 f1 f2) (hne:g≠p.block) (u:Value):IsS132 w0 (W.setCell p u) g f0 f1 f2:=by
 obtain ⟨A0,c0,hb,hg,hr0⟩:=h;exact ⟨A0,c0,blk_far hb hne u,hg,hr0⟩
def sluiceref2_reader_cut.l0:Nat→Int→List Int→Int→Bool→Option (Bool×Int×Bool)
 | 0,_,_,_,_=>none
 | k+1,x3,x1000,x1001,x1002=>if x3<10 then (if (wrap64 (x1001+x3)) ≥ (x1000.length:Int) then (some (true,x1001,x1002)) else (if 0≤(wrap64 (x1001+x3)) then (if (wrap64 (x1001+x3))<(x1000.length:Int) then (if (rd x1000 (wrap64 (x1001+x3)))<128 then (some (false,x1001,x1002)) else (sluiceref2_reader_cut.l0 k (wrap64 (x3+1)) x1000 x1001 x1002)) else (none)) else (none))) else (some (false,x1001,x1002))
def sluiceref2_reader_cut.f (k:Nat) (s0_0:List Int) (s0_1:Int) (s0_2:Bool):Option (Bool×Int×Bool):=sluiceref2_reader_cut.l0 k 0 s0_0 s0_1 s0_2
def sluiceref2_reader_short.f (s0_0:List Int) (s0_1:Int) (s0_2:Bool):Option (Int×Bool):=some ((s0_0.length:Int),true)
def sluiceref2_reader_raw.l0:Nat→Int→Int→Int→List Int→Int→Bool→Option (Int×Int×Bool×Int×Bool)
 | 0,_,_,_,_,_,_=>none
 | k+1,x5,x6,x7,x1000,x1001,x1002=>if x7<10 then (if (wrap64 (x1001+x7)) ≥ (x1000.length:Int) then (some (0,0,false,x1001,x1002)) else (if 0≤(wrap64 (x1001+x7)) then (if (wrap64 (x1001+x7))<(x1000.length:Int) then (if (rd x1000 (wrap64 (x1001+x7)))<128 then (if x7=0 then (if x7<9 then (some (IntKind.u64.wrap (x5+(IntKind.u64.wrap (x6 * (IntKind.u64.wrap (Int.tmod (rd x1000 (wrap64 (x1001+x7))) 128))))),wrap64 (x7+1),true,x1001,x1002)) else (some (IntKind.u64.wrap (x5+(IntKind.u64.wrap (x6 * (IntKind.u64.wrap (Int.tmod (rd x1000 (wrap64 (x1001+x7))) 128))))),wrap64 (x7+1),((rd x1000 (wrap64 (x1001+x7))) == 1),x1001,x1002))) else (if (rd x1000 (wrap64 (x1001+x7))) > 0 then (if x7<9 then (some (IntKind.u64.wrap (x5+(IntKind.u64.wrap (x6 * (IntKind.u64.wrap (Int.tmod (rd x1000 (wrap64 (x1001+x7))) 128))))),wrap64 (x7+1),true,x1001,x1002)) else (some (IntKind.u64.wrap (x5+(IntKind.u64.wrap (x6 * (IntKind.u64.wrap (Int.tmod (rd x1000 (wrap64 (x1001+x7))) 128))))),wrap64 (x7+1),((rd x1000 (wrap64 (x1001+x7))) == 1),x1001,x1002))) else (some (IntKind.u64.wrap (x5+(IntKind.u64.wrap (x6 * (IntKind.u64.wrap (Int.tmod (rd x1000 (wrap64 (x1001+x7))) 128))))),wrap64 (x7+1),false,x1001,x1002)))) else (sluiceref2_reader_raw.l0 k (IntKind.u64.wrap (x5+(IntKind.u64.wrap (x6 * (IntKind.u64.wrap (Int.tmod (rd x1000 (wrap64 (x1001+x7))) 128)))))) (IntKind.u64.wrap (x6 * 128)) (wrap64 (x7+1)) x1000 x1001 x1002)) else (none)) else (none))) else (some (0,10,false,x1001,x1002))
def sluiceref2_reader_raw.f (k:Nat) (s0_0:List Int) (s0_1:Int) (s0_2:Bool):Option (Int×Int×Bool×Int×Bool):=sluiceref2_reader_raw.l0 k 0 1 0 s0_0 s0_1 s0_2
def sluiceref2_reader_num.f (k:Nat) (s0_0:List Int) (s0_1:Int) (s0_2:Bool) (a1:Int) (a2:Int):Option (Int×Int×Bool):=if s0_2=true then (some (0,s0_1,s0_2)) else ((sluiceref2_reader_cut.f k s0_0 s0_1 s0_2).bind fun bt254=>(if bt254.1=true then ((sluiceref2_reader_short.f s0_0 bt254.2.1 bt254.2.2).bind fun bt257=>(some (0,bt257.1,bt257.2))) else ((sluiceref2_reader_raw.f k s0_0 bt254.2.1 bt254.2.2).bind fun bt259=>(if bt259.2.2.1=true then (if bt259.1 > (IntKind.u64.wrap (a2)) then (some (0,bt259.2.2.2.1,true)) else (if bt259.1<(IntKind.u64.wrap (a1)) then (some (0,bt259.2.2.2.1,true)) else (some (wrap64 (bt259.1),wrap64 (bt259.2.2.2.1+bt259.2.1),bt259.2.2.2.2)))) else (some (0,bt259.2.2.2.1,true))))))
def sluiceref2_reader_call.f (k:Nat) (s0_0:List Int) (s0_1:Int) (s0_2:Bool):Option (Int×Int×Int×Bool):=(sluiceref2_reader_num.f k s0_0 s0_1 s0_2 0 63).bind fun bt265=>((sluiceref2_reader_num.f k s0_0 bt265.2.1 bt265.2.2 1 1099511627776).bind fun bt268=>(some (bt265.1,bt268.1,bt268.2.1,bt268.2.2)))
def sluiceref2_reader_sign.f (k:Nat) (s0_0:List Int) (s0_1:Int) (s0_2:Bool):Option (Int×Int×Bool):=if s0_2=true then (some (0,s0_1,s0_2)) else ((sluiceref2_reader_cut.f k s0_0 s0_1 s0_2).bind fun bt271=>(if bt271.1=true then ((sluiceref2_reader_short.f s0_0 bt271.2.1 bt271.2.2).bind fun bt274=>(some (0,bt274.1,bt274.2))) else ((sluiceref2_reader_raw.f k s0_0 bt271.2.1 bt271.2.2).bind fun bt276=>(if bt276.2.2.1=true then (if (Int.tmod bt276.1 2)=0 then (some (wrap64 (IntKind.u64.wrap (Int.tdiv bt276.1 2)),wrap64 (bt276.2.2.2.1+bt276.2.1),bt276.2.2.2.2)) else (some (wrap64 ((wrap64 (-(wrap64 (IntKind.u64.wrap (Int.tdiv bt276.1 2))))) - 1),wrap64 (bt276.2.2.2.1+bt276.2.1),bt276.2.2.2.2))) else (some (0,bt276.2.2.2.1,true))))))
def sluiceref2_reader_rights.f (k:Nat) (s0_0:List Int) (s0_1:Int) (s0_2:Bool):Option (Int×Int×Int×Bool):=(sluiceref2_reader_num.f k s0_0 s0_1 s0_2 0 1099511627776).bind fun bt292=>((sluiceref2_reader_num.f k s0_0 bt292.2.1 bt292.2.2 0 1099511627776).bind fun bt295=>(some (bt292.1,bt295.1,bt295.2.1,bt295.2.2)))
def sluiceref2_reader_epoch.f (k:Nat) (s0_0:List Int) (s0_1:Int) (s0_2:Bool):Option (Int×Int×Int×Bool):=(sluiceref2_reader_num.f k s0_0 s0_1 s0_2 1 1099511627776).bind fun bt302=>((sluiceref2_reader_num.f k s0_0 bt302.2.1 bt302.2.2 0 15).bind fun bt305=>(some (bt302.1,bt305.1,bt305.2.1,bt305.2.2)))
def sluiceref2_reader_done.f (s0_0:List Int) (s0_1:Int) (s0_2:Bool):Option (Int×Int×Int×Bool):=if s0_2=true then (some (s0_1,20,s0_1,s0_2)) else (if s0_1<(s0_0.length:Int) then (some (s0_1,20,s0_1,s0_2)) else (some (0,0,s0_1,s0_2)))
mutual
def sluicelaw2_back.j0:Nat→List Int→Bool→Option (Bool×List Int)
 | 0,_,_=>none
 | k+1,x0,x6=>sluicelaw2_back.l0 k x0 x6 0
def sluicelaw2_back.l0:Nat→List Int→Bool→Int→Option (Bool×List Int)
 | 0,_,_,_=>none
 | k+1,x0,x6,x7=>if x7<(x0.length:Int) then (if 0≤x7 then (sluicelaw2_back.l0 k (x0.set (x7:Int).toNat 85) x6 (wrap64 (x7+1))) else (none)) else (some (x6,x0))
end
def sluicelaw2_back.f (k:Nat) (l0:List Int) (l1:List Int):Option (Bool×List Int):=if (l0.length:Int)=(wrap64 ((l1.length:Int)+2)) then (if 0≤(l1.length:Int) then (if (l1.length:Int)≤(l0.length:Int) then ((sluicelaw2_alike.f (l0.take ((l1.length:Int):Int).toNat) l1).bind fun t323=>(if t323=true then (if (l1.length:Int)<(l0.length:Int) then (if (rd l0 (l1.length:Int))=165 then (if 0≤(wrap64 ((l1.length:Int)+1)) then (if (wrap64 ((l1.length:Int)+1))<(l0.length:Int) then (sluicelaw2_back.j0 k l0 ((rd l0 (wrap64 ((l1.length:Int)+1))) == 90)) else (none)) else (none)) else (sluicelaw2_back.j0 k l0 false)) else (none)) else (sluicelaw2_back.j0 k l0 false))) else (none)) else (none)) else (sluicelaw2_back.j0 k l0 false)
def sluicelaw2_within.f (a0:Int) (a1:Int):Option (Int):=if a0<0 then (if a1=0 then (none) else (some (Int.tmod (wrap64 (-(wrap64 (a0+1)))) a1))) else (if a1=0 then (none) else (some (Int.tmod a0 a1)))
def sluicelaw2_sameSegment.f (a0_0:Int) (a0_1:Int) (a0_2:Int) (a0_3:Int) (l0_4:List Int) (a1_0:Int) (a1_1:Int) (a1_2:Int) (a1_3:Int) (l1_4:List Int):Option (Bool):=if a0_0=a1_0 then (if a0_1=a1_1 then (if a0_2=a1_2 then (if a0_3=a1_3 then ((sluicelaw2_alike.f l0_4 l1_4).bind fun t331=>(some t331)) else (some false)) else (some false)) else (some false)) else (some false)
def sluiceref2_RightSegment.f (a0_0:Int) (a0_1:Int) (a0_2:Int) (a0_3:Int) (l0_4:List Int):Option (Bool):=(sluiceref2_within.f a0_0 0 15).bind fun t333=>(if t333=true then ((sluiceref2_within.f a0_1 0 15).bind fun t334=>(if t334=true then ((sluiceref2_within.f a0_2 0 1099511627776).bind fun t335=>(if t335=true then ((sluiceref2_within.f a0_3 0 1099511627776).bind fun t336=>(if t336=true then (if (l0_4.length:Int)≤4000 then (some ((a0_2 == 0) == ((l0_4.length:Int) == 0))) else (some false)) else (some false))) else (some false))) else (some false))) else (some false))
def sluiceref2_EncodeSegment.f (k:Nat) (a0_0:Int) (a0_1:Int) (a0_2:Int) (a0_3:Int) (l0_4:List Int):Option (List Int×Int):=(sluiceref2_RightSegment.f a0_0 a0_1 a0_2 a0_3 l0_4).bind fun t338=>(if t338=true then ((sluiceref2_plain.f k ([]:List Int) (([a0_0,a0_1,a0_2,a0_3,(l0_4.length:Int)]:List Int))).bind fun t342=>(if t342.length+l0_4.length<140737488355328 then (some ((t342++l0_4),0)) else (none))) else (some (([]:List Int),21)))
def sluiceref2_EncodeRequest.j0:Nat→Bool→Int→Int→Int→ByteArray→Int→Int→Option (List Int×Int)
 | 0,_,_,_,_,_,_,_=>none
 | k+1,x13,x378000,x378001,x379000,x379001,x379002,x379003=>if x13=true then (some (([]:List Int),21)) else ((sluiceref2_putCall.f k ([]:List Int) x378000 x378001).bind fun t381=>((sluiceref2_putOp.f k t381 x379000 x379001 x379002 x379003).bind fun t384=>(some (t384,0))))
def sluiceref2_EncodeRequest.f (k:Nat) (a0_0:Int) (a0_1:Int) (a1_0:Int) (a1_1:ByteArray) (a1_2:Int) (a1_3:Int):Option (List Int×Int):=(sluiceref2_call.f a0_0 a0_1).bind fun t379=>(if t379=true then ((sluiceref2_op.f k a1_0 a1_1 a1_2 a1_3).bind fun t380=>(sluiceref2_EncodeRequest.j0 k (!t380) a0_0 a0_1 a1_0 a1_1 a1_2 a1_3)) else (sluiceref2_EncodeRequest.j0 k true a0_0 a0_1 a1_0 a1_1 a1_2 a1_3))
def sluiceref2_EncodeReply.j0:Nat→Bool→Int→Int→Int→Int→Option (List Int×Int)
 | 0,_,_,_,_,_=>none
 | k+1,x13,x399000,x399001,x399002,x399003=>if x13=true then (some (([]:List Int),21)) else ((sluiceref2_putCall.f k ([]:List Int) x399000 x399001).bind fun t401=>((sluiceref2_plain.f k t401 (([x399002]:List Int))).bind fun t407=>((sluiceref2_signed.f k t407 x399003).bind fun t410=>(some (t410,0)))))
def sluiceref2_EncodeReply.f (k:Nat) (a0_0:Int) (a0_1:Int) (a0_2:Int) (a0_3:Int):Option (List Int×Int):=(sluiceref2_call.f a0_0 a0_1).bind fun t399=>(if t399=true then ((sluiceref2_within.f a0_2 0 255).bind fun t400=>(sluiceref2_EncodeReply.j0 k (!t400) a0_0 a0_1 a0_2 a0_3)) else (sluiceref2_EncodeReply.j0 k true a0_0 a0_1 a0_2 a0_3))
def sluicelaw2_fill.l0:Nat→List Int→Int→Int→Option (List Int)
 | 0,_,_,_=>none
 | k+1,x0,x1,x4=>if x4<(x0.length:Int) then (if 0≤x4 then (sluicelaw2_fill.l0 k (x0.set (x4:Int).toNat ((wrap64 ((Int.tmod x1 250)+1)) % 256)) x1 (wrap64 (x4+1))) else (none)) else (some x0)
def sluicelaw2_fill.f (k:Nat) (l0:List Int) (a1:Int):Option (List Int):=sluicelaw2_fill.l0 k l0 a1 0
theorem sluicelaw2_fill.calls (k : Nat) (P0_ : Nat → Prop) (u9000_ : Value) (l0 : List Int) (a1 : Int) (r : List Int) (w0 w : World) (hB : Below w0.heap.size w0 w) (ho0 : Kd.R (Kd.int .u8) 5 w w0.heap.size P0_ u9000_ l0) (h : sluicelaw2_fill.f k l0 a1 = some r) :
    Calls Try.prog 108 #[u9000_,.int .i64 a1] w fun e w'=>e = .returned (.tuple #[])∧Kd.R (Kd.int .u8) 5 w' w0.heap.size (fun k_=>(P0_ k_∨w.heap.size≤k_)) u9000_ r∧Below w0.heap.size w0 w'∧Kept w w' (fun k_=>P0_ k_):=by
  have HO0:=Aside0.mk (show Kd.R (Kd.int .u8) 5 w w0.heap.size (fun k_=>(P0_ k_∨w.heap.size≤k_)) u9000_ l0 from Kd.R_mono ho0 (fun k_ hk=>(.inl hk)));have HK:=Aside0.mk (Kept.refl w (fun k_=>P0_ k_));have HW0:=Aside0.mk hB.size;have HB:=Aside0.mk hB;clear hB;have H:(sluicelaw2_fill.l0 k l0 a1 0)=some r:=h;clear h;have H':=Aside0.mk H;clear H;go_enter Try.func108,Try.ntmps108
  go_wp2
  go_loopg [4] k (fun kq v4 w'=>∃ (x0_1:List Int) (x4_1:Int),v4 = .int .i64 x4_1∧Aside0 (sluicelaw2_fill.l0 kq x0_1 a1 x4_1=some r)∧Aside0 (kq≤k)∧Aside0 (Kd.R (Kd.int .u8) 5 w' w0.heap.size (fun k_=>(P0_ k_∨w.heap.size≤k_)) u9000_ x0_1)∧Aside0 (Kept w w' (fun k_=>P0_ k_))∧Aside0 (Below w0.heap.size w0 w'))
  case atStart=>exact ⟨(l0),(0),(by first|rfl|(simp;done)|(simp[*];done)),H',⟨Nat.le_refl _⟩,⟨by (with_reducible repeat (first|apply Kd.R_alloc|apply Kd.R_drewN|apply Kd.R_drew));exact HO0.out⟩,⟨by repeat (first|(with_reducible first|exact HK.out|apply Kept.alloc|apply Kept.drewN|apply Kept.drew)|exact HK.out)⟩,⟨by repeat (first|(with_reducible first|exact HB.out|apply below_alloc|apply pw_below_drewN|apply below_drew1)|exact HB.out)⟩⟩
  case round=>
   clear H';try clear c1
   try clear p2
   obtain ⟨x0_1,x4_1,rfl,HA,HK1,HO_0,HK,HB⟩:=hrel;cases gk with
   | zero=>exact absurd HA.out (by simp[sluicelaw2_fill.l0])
   | succ k1=>
    have H:=HA.out;clear HA;simp only[sluicelaw2_fill.l0] at H;by_cases c3:x4_1<(x0_1.length:Int)
    ·rw[if_pos c3] at H;have c3b0:decide (x4_1<(x0_1.length:Int))=true:=decide_eq_true c3;clear c3;by_cases c4:0≤x4_1
     ·rw[if_pos c4] at H;have c4b0:decide (0≤x4_1)=true:=decide_eq_true c4;clear c4;obtain ⟨y434,hy434⟩:∃ y_:List Int,y_=(x0_1.set (x4_1:Int).toNat ((wrap64 ((Int.tmod a1 250)+1)) % 256)):=⟨_,rfl⟩;replace H:(sluicelaw2_fill.l0 k1 y434 a1 (wrap64 (x4_1+1)))=some r:=by first|(rw[hy434];with_reducible exact H)|(have H2_:=(Option.bind_some _ _).symm.trans H;rw[hy434];with_reducible exact H2_)|(have H2_:=(Option.bind_some _ _).symm.trans H;with_reducible exact H2_)|with_reducible exact H|(rw[hy434];exact H)|exact H
      have Ny434:=Aside0.mk hy434;clear hy434;have H':=Aside0.mk H;clear H;obtain ⟨Ao6,co6,eo6⟩:=Kd.R_slice HO_0.out;subst eo6;have p5:0≤(x4_1:Int):=of_decide_eq_true (by first|(with_reducible assumption)|assumption);have q5:(x4_1:Int)<((x0_1.length:Int):Int):=of_decide_eq_true (by first|(with_reducible assumption)|assumption);obtain ⟨go5,co5,eo5,gb5,gl5,cl5,HG5⟩:=Kd.R_form HO_0.out (by omega)
      (first|cases eo5|(injection eo5 with ea_ en_ ec_;(first|subst ea_|(injection ea_ with ea_;subst ea_));subst ec_;clear en_))
      have GB5:=Aside0.mk gb5;have GG5:=Aside0.mk HG5;clear gb5 gl5 HG5;have HMgo5:=Aside0.mk (show (P0_ go5∨w.heap.size≤go5) from (HO_0.out.1 _ rfl));obtain ⟨hx5_0,hf5_0⟩:=Kd.R_celln 0 HO_0.out (x4_1:Int) p5 q5;replace p5:=eq_true p5;replace q5:=eq_true q5;have HP7:=Kd.R_putg HO_0.out (x4_1:Int) ((wrap64 ((Int.tmod a1 250)+1)) % 256);go_wp2_with (first|((with_reducible refine gate_store (t:=5) (p:=17) rfl ?_);refine store_event (t:=5) (p:=17) (v:=?vo_w8) (w1:=(wr.setCell ⟨go5,(x4_1:Int).toNat,none⟩ (.int .u8 ((wrap64 ((Int.tmod a1 250)+1)) % 256)))) ?hg ?ho ?hn ?hr ?_;(case ho=>rfl);(case hg=>rfl);(case hn=>rfl);(case hr=>first|(go_simp;done)|(go_simp;rfl));intro w8 hw;have hg:wr.grownBy w8 (some go5):=(by rw[hw];exact HP7.2);have hp_:Kd.R (Kd.int .u8) 5 w8 w0.heap.size (fun k_=>(P0_ k_∨w.heap.size≤k_)) (.slice (some ⟨go5,0,none⟩) x0_1.length co6) y434:=(by rw[hw,Ny434.out];exact HP7.1);clear HP7;have n0_:=Aside0.mk (hp_);have n1_:=Aside0.mk ((by rw[hw];exact below_set (HB.out) GB5.out:Below w0.heap.size w0 w8));have n2_:=Aside0.mk (Kept.of_grown (S:=(fun k_=>P0_ k_)) hg (by repeat (first|(with_reducible first|exact HK.out|apply Kept.alloc|apply Kept.drewN|apply Kept.drew)|exact HK.out)) (fun k_ e_=>(HO_0.out.1 k_ e_)));clear HO_0;clear HB;clear HK;have HO_0:=n0_;have HB:=n1_;have HK:=n2_;clear n0_ n1_ n2_;clear hg hw hp_))
      go_roundg k1
      case measure=>have:=HK1.out;omega
      case rel=>exact ⟨(y434),(wrap64 (x4_1+1)),(by first|rfl|(simp;done)|(simp[*];done)),H',⟨by have:=HK1.out;omega⟩,⟨by (with_reducible repeat (first|apply Kd.R_alloc|apply Kd.R_drewN|apply Kd.R_drew));exact HO_0.out⟩,⟨by repeat (first|(with_reducible first|exact HK.out|apply Kept.alloc|apply Kept.drewN|apply Kept.drew)|exact HK.out)⟩,⟨by repeat (first|(with_reducible first|exact HB.out|apply below_alloc|apply pw_below_drewN|apply below_drew1)|exact HB.out)⟩⟩
     ·rw[if_neg c4] at H;exact absurd H (by simp)
    ·rw[if_neg c3] at H;have c3b0:decide (x4_1<(x0_1.length:Int))=false:=decide_eq_false c3;clear c3;obtain rfl:=Option.some.inj H;obtain ⟨Ao9,co9,eo9⟩:=Kd.R_slice HO_0.out;subst eo9;go_wp2
     first|go_end0|((try simp only[Exit.inBlock,Exit.then]);refine bodyPost_ret (results_none rfl _ _ _) rfl ?_)
     exact ⟨by first|rfl|(simp[errW_none,errW_some]<;>rfl)|(simp[*,errW_none,errW_some]<;>rfl),by (with_reducible repeat (first|apply Kd.R_alloc|apply Kd.R_drewN|apply Kd.R_drew));exact HO_0.out,by repeat (first|(with_reducible first|exact HB.out|apply below_alloc|apply pw_below_drewN|apply below_drew1)|exact HB.out),by repeat (first|(with_reducible first|exact HK.out|apply Kept.alloc|apply Kept.drewN|apply Kept.drew)|exact HK.out)⟩
def sluicelaw2_fillViews.l0:Nat→List (S87)→Int→Int→Option ((List (S87)))
 | 0,_,_,_=>none
 | k+1,x0,x1,x4=>if x4<(x0.length:Int) then (if 0≤x4 then (sluicelaw2_fillViews.l0 k (x0.set (x4:Int).toNat (⟨(⟨#[109,97,114,107]⟩:ByteArray),x1,0,0,(⟨0,0⟩:S25),0⟩:S87)) x1 (wrap64 (x4+1))) else (none)) else (some x0)
def sluicelaw2_fillViews.f (k:Nat) (l0:List (S87)) (a1:Int):Option ((List (S87))):=sluicelaw2_fillViews.l0 k l0 a1 0
theorem sluicelaw2_fillViews.calls (k : Nat) (P0_ : Nat → Prop) (u9000_ : Value) (l0 : List (S87)) (a1 : Int) (r : List (S87)) (w0 w : World) (hB : Below w0.heap.size w0 w) (ho0 : Kd.R k87 87 w w0.heap.size P0_ u9000_ l0) (h : sluicelaw2_fillViews.f k l0 a1 = some r) :
    Calls Try.prog 110 #[u9000_,.int .i64 a1] w fun e w'=>e = .returned (.tuple #[])∧Kd.R k87 87 w' w0.heap.size (fun k_=>(P0_ k_∨w.heap.size≤k_)) u9000_ r∧Below w0.heap.size w0 w'∧Kept w w' (fun k_=>P0_ k_):=by
  have hu87:=Try.underlying87;have HO0:=Aside0.mk (show Kd.R k87 87 w w0.heap.size (fun k_=>(P0_ k_∨w.heap.size≤k_)) u9000_ l0 from Kd.R_mono ho0 (fun k_ hk=>(.inl hk)));have HK:=Aside0.mk (Kept.refl w (fun k_=>P0_ k_));have HW0:=Aside0.mk hB.size;have HB:=Aside0.mk hB;clear hB;have H:(sluicelaw2_fillViews.l0 k l0 a1 0)=some r:=h;clear h;have H':=Aside0.mk H;clear H;go_enter Try.func110,Try.ntmps110
  go_wp2
  go_loopg [4] k (fun kq v4 w'=>∃ (x0_1:List (S87)) (x4_1:Int),v4 = .int .i64 x4_1∧Aside0 (sluicelaw2_fillViews.l0 kq x0_1 a1 x4_1=some r)∧Aside0 (kq≤k)∧Aside0 (Kd.R k87 87 w' w0.heap.size (fun k_=>(P0_ k_∨w.heap.size≤k_)) u9000_ x0_1)∧Aside0 (Kept w w' (fun k_=>P0_ k_))∧Aside0 (Below w0.heap.size w0 w'))
  case atStart=>exact ⟨(l0),(0),(by first|rfl|(simp;done)|(simp[*];done)),H',⟨Nat.le_refl _⟩,⟨by (with_reducible repeat (first|apply Kd.R_alloc|apply Kd.R_drewN|apply Kd.R_drew));exact HO0.out⟩,⟨by repeat (first|(with_reducible first|exact HK.out|apply Kept.alloc|apply Kept.drewN|apply Kept.drew)|exact HK.out)⟩,⟨by repeat (first|(with_reducible first|exact HB.out|apply below_alloc|apply pw_below_drewN|apply below_drew1)|exact HB.out)⟩⟩
  case round=>
   clear H';try clear c1
   try clear p2
   obtain ⟨x0_1,x4_1,rfl,HA,HK1,HO_0,HK,HB⟩:=hrel;cases gk with
   | zero=>exact absurd HA.out (by simp[sluicelaw2_fillViews.l0])
   | succ k1=>
    have H:=HA.out;clear HA;simp only[sluicelaw2_fillViews.l0] at H;by_cases c3:x4_1<(x0_1.length:Int)
    ·rw[if_pos c3] at H;have c3b0:decide (x4_1<(x0_1.length:Int))=true:=decide_eq_true c3;clear c3;by_cases c4:0≤x4_1
     ·rw[if_pos c4] at H;have c4b0:decide (0≤x4_1)=true:=decide_eq_true c4;clear c4;obtain ⟨y435,hy435⟩:∃ y_:List (S87),y_=(x0_1.set (x4_1:Int).toNat (⟨(⟨#[109,97,114,107]⟩:ByteArray),a1,0,0,(⟨0,0⟩:S25),0⟩:S87)):=⟨_,rfl⟩;replace H:(sluicelaw2_fillViews.l0 k1 y435 a1 (wrap64 (x4_1+1)))=some r:=by first|(rw[hy435];with_reducible exact H)|(have H2_:=(Option.bind_some _ _).symm.trans H;rw[hy435];with_reducible exact H2_)|(have H2_:=(Option.bind_some _ _).symm.trans H;with_reducible exact H2_)|with_reducible exact H|(rw[hy435];exact H)|exact H
      have Ny435:=Aside0.mk hy435;clear hy435;have H':=Aside0.mk H;clear H;obtain ⟨Ao6,co6,eo6⟩:=Kd.R_slice HO_0.out;subst eo6;have p5:0≤(x4_1:Int):=of_decide_eq_true (by first|(with_reducible assumption)|assumption);have q5:(x4_1:Int)<((x0_1.length:Int):Int):=of_decide_eq_true (by first|(with_reducible assumption)|assumption);obtain ⟨go5,co5,eo5,gb5,gl5,cl5,HG5⟩:=Kd.R_form HO_0.out (by omega)
      (first|cases eo5|(injection eo5 with ea_ en_ ec_;(first|subst ea_|(injection ea_ with ea_;subst ea_));subst ec_;clear en_))
      have GB5:=Aside0.mk gb5;have GG5:=Aside0.mk HG5;clear gb5 gl5 HG5;have HMgo5:=Aside0.mk (show (P0_ go5∨w.heap.size≤go5) from (HO_0.out.1 _ rfl));obtain ⟨ce5,hcl5,hM5,hcc5,hfr5⟩:=Kd.R_elem HO_0.out z87 (x4_1:Int) p5 q5;obtain rfl:=k87_openM hM5;have hx5_0:wr.cell? ⟨go5,(x4_1:Int).toNat * 7,none⟩=some (.string ((rd_T87 x0_1 x4_1).f0)):=hcc5 0 _ rfl;have hx5_1:wr.cell? ⟨go5,(x4_1:Int).toNat * 7+1,none⟩=some (.int .i64 ((rd_T87 x0_1 x4_1).f1)):=hcc5 1 _ rfl;have hx5_2:wr.cell? ⟨go5,(x4_1:Int).toNat * 7+2,none⟩=some (.int .i64 ((rd_T87 x0_1 x4_1).f2)):=hcc5 2 _ rfl;have hx5_3:wr.cell? ⟨go5,(x4_1:Int).toNat * 7+3,none⟩=some (.int .i64 ((rd_T87 x0_1 x4_1).f3)):=hcc5 3 _ rfl;have hx5_4:wr.cell? ⟨go5,(x4_1:Int).toNat * 7+4,none⟩=some (.int .i64 ((rd_T87 x0_1 x4_1).f4.f0)):=hcc5 4 _ rfl;have hx5_5:wr.cell? ⟨go5,(x4_1:Int).toNat * 7+5,none⟩=some (.int .i64 ((rd_T87 x0_1 x4_1).f4.f1)):=hcc5 5 _ rfl;have hx5_6:wr.cell? ⟨go5,(x4_1:Int).toNat * 7+6,none⟩=some (.int .i64 ((rd_T87 x0_1 x4_1).f5)):=hcc5 6 _ rfl;have hf5_0:wr.frozen? ⟨go5,(x4_1:Int).toNat * 7,none⟩=false:=hfr5 0;have hf5_1:wr.frozen? ⟨go5,(x4_1:Int).toNat * 7+1,none⟩=false:=hfr5 1;have hf5_2:wr.frozen? ⟨go5,(x4_1:Int).toNat * 7+2,none⟩=false:=hfr5 2;have hf5_3:wr.frozen? ⟨go5,(x4_1:Int).toNat * 7+3,none⟩=false:=hfr5 3;have hf5_4:wr.frozen? ⟨go5,(x4_1:Int).toNat * 7+4,none⟩=false:=hfr5 4;have hf5_5:wr.frozen? ⟨go5,(x4_1:Int).toNat * 7+5,none⟩=false:=hfr5 5;have hf5_6:wr.frozen? ⟨go5,(x4_1:Int).toNat * 7+6,none⟩=false:=hfr5 6;clear hcl5 hcc5 hfr5 hM5;replace p5:=eq_true p5;replace q5:=eq_true q5;have HX7:=Aside0.mk (show Kd.R k87 87 wr w0.heap.size (fun k_=>(P0_ k_∨w.heap.size≤k_)) (.slice (some ⟨go5,0,none⟩) x0_1.length co6) x0_1 from (by (with_reducible repeat (first|apply Kd.R_alloc|apply Kd.R_drewN|apply Kd.R_drew));exact HO_0.out));obtain ⟨ce7,hcl7,hM7,hcc7,hfr7⟩:=Kd.R_elem HX7.out z87 (x4_1:Int) (of_decide_eq_true (by first|(with_reducible assumption)|assumption)) (by have h_:(x4_1:Int)<((x0_1.length:Int):Int):=of_decide_eq_true (by first|(with_reducible assumption)|assumption);first|exact h_|(have e_:=(Kd.R_reads' HO_0.out).1;omega)|simpa using h_);obtain rfl:=k87_openM hM7;have HP7:=Kd.R_seg HX7.out (x4_1:Int) (of_decide_eq_true (by first|(with_reducible assumption)|assumption)) (by have h_:(x4_1:Int)<((x0_1.length:Int):Int):=of_decide_eq_true (by first|(with_reducible assumption)|assumption);first|exact h_|(have e_:=(Kd.R_reads' HO_0.out).1;omega)|simpa using h_) (seg:=[.string (⟨#[109,97,114,107]⟩:ByteArray),.int .i64 a1,.int .i64 0,.int .i64 0,.int .i64 0,.int .i64 0,.int .i64 0]) (j:=0) hcl7 hcc7 (show 7≤7 from by decide) (x':=(⟨(⟨#[109,97,114,107]⟩:ByteArray),a1,0,0,(⟨0,0⟩:S25),0⟩:S87)) (k87_mkM _ _ _ (⟨(⟨#[109,97,114,107]⟩:ByteArray),a1,0,0,(⟨0,0⟩:S25),0⟩:S87)) (fun _ hk=>hk);have hx7_0:=hcc7 0 _ rfl;(try simp only[show (k87).sz=7 from rfl,Nat.mul_one,Nat.add_zero] at hx7_0)
      have hf7_0:=hfr7 0;(try simp only[show (k87).sz=7 from rfl,Nat.mul_one,Nat.add_zero] at hf7_0)
      have hx7_1:=hcc7 1 _ rfl;(try simp only[show (k87).sz=7 from rfl,Nat.mul_one,Nat.add_zero] at hx7_1)
      have hf7_1:=hfr7 1;(try simp only[show (k87).sz=7 from rfl,Nat.mul_one,Nat.add_zero] at hf7_1)
      have hx7_2:=hcc7 2 _ rfl;(try simp only[show (k87).sz=7 from rfl,Nat.mul_one,Nat.add_zero] at hx7_2)
      have hf7_2:=hfr7 2;(try simp only[show (k87).sz=7 from rfl,Nat.mul_one,Nat.add_zero] at hf7_2)
      have hx7_3:=hcc7 3 _ rfl;(try simp only[show (k87).sz=7 from rfl,Nat.mul_one,Nat.add_zero] at hx7_3)
      have hf7_3:=hfr7 3;(try simp only[show (k87).sz=7 from rfl,Nat.mul_one,Nat.add_zero] at hf7_3)
      have hx7_4:=hcc7 4 _ rfl;(try simp only[show (k87).sz=7 from rfl,Nat.mul_one,Nat.add_zero] at hx7_4)
      have hf7_4:=hfr7 4;(try simp only[show (k87).sz=7 from rfl,Nat.mul_one,Nat.add_zero] at hf7_4)
      have hx7_5:=hcc7 5 _ rfl;(try simp only[show (k87).sz=7 from rfl,Nat.mul_one,Nat.add_zero] at hx7_5)
      have hf7_5:=hfr7 5;(try simp only[show (k87).sz=7 from rfl,Nat.mul_one,Nat.add_zero] at hf7_5)
      have hx7_6:=hcc7 6 _ rfl;(try simp only[show (k87).sz=7 from rfl,Nat.mul_one,Nat.add_zero] at hx7_6)
      have hf7_6:=hfr7 6;(try simp only[show (k87).sz=7 from rfl,Nat.mul_one,Nat.add_zero] at hf7_6)
      clear hcl7 hcc7 hfr7 hM7;go_wp2_with (first|((with_reducible refine gate_store (t:=87) (p:=15) rfl ?_);refine store_event (t:=87) (p:=15) (v:=?vo_w8) (w1:=(((((((wr.setCell ⟨go5,(x4_1:Int).toNat * 7,none⟩ (.string (⟨#[109,97,114,107]⟩:ByteArray))).setCell ⟨go5,(x4_1:Int).toNat * 7+1,none⟩ (.int .i64 a1)).setCell ⟨go5,(x4_1:Int).toNat * 7+2,none⟩ (.int .i64 0)).setCell ⟨go5,(x4_1:Int).toNat * 7+3,none⟩ (.int .i64 0)).setCell ⟨go5,(x4_1:Int).toNat * 7+4,none⟩ (.int .i64 0)).setCell ⟨go5,(x4_1:Int).toNat * 7+5,none⟩ (.int .i64 0)).setCell ⟨go5,(x4_1:Int).toNat * 7+6,none⟩ (.int .i64 0))) ?hg ?ho ?hn ?hr ?_;(case ho=>rfl);(case hg=>rfl);(case hn=>rfl);(case hr=>first|(go_simp;done)|(go_simp;rfl));intro w8 hw;have hg:wr.grownBy w8 (some go5):=(by rw[hw];exact HP7.2);have hp_:Kd.R k87 87 w8 w0.heap.size (fun k_=>(P0_ k_∨w.heap.size≤k_)) (.slice (some ⟨go5,0,none⟩) x0_1.length co6) y435:=(by rw[hw,Ny435.out];exact HP7.1);clear HP7;have n0_:=Aside0.mk (hp_);have n1_:=Aside0.mk ((by rw[hw];exact below_set (below_set (below_set (below_set (below_set (below_set (below_set (HB.out) GB5.out) GB5.out) GB5.out) GB5.out) GB5.out) GB5.out) GB5.out:Below w0.heap.size w0 w8));have n2_:=Aside0.mk (Kept.of_grown (S:=(fun k_=>P0_ k_)) hg (by repeat (first|(with_reducible first|exact HK.out|apply Kept.alloc|apply Kept.drewN|apply Kept.drew)|exact HK.out)) (fun k_ e_=>(HO_0.out.1 k_ e_)));clear HO_0;clear HB;clear HK;have HO_0:=n0_;have HB:=n1_;have HK:=n2_;clear n0_ n1_ n2_;clear hg hw hp_))
      go_roundg k1
      case measure=>have:=HK1.out;omega
      case rel=>exact ⟨(y435),(wrap64 (x4_1+1)),(by first|rfl|(simp;done)|(simp[*];done)),H',⟨by have:=HK1.out;omega⟩,⟨by (with_reducible repeat (first|apply Kd.R_alloc|apply Kd.R_drewN|apply Kd.R_drew));exact HO_0.out⟩,⟨by repeat (first|(with_reducible first|exact HK.out|apply Kept.alloc|apply Kept.drewN|apply Kept.drew)|exact HK.out)⟩,⟨by repeat (first|(with_reducible first|exact HB.out|apply below_alloc|apply pw_below_drewN|apply below_drew1)|exact HB.out)⟩⟩
     ·rw[if_neg c4] at H;exact absurd H (by simp)
    ·rw[if_neg c3] at H;have c3b0:decide (x4_1<(x0_1.length:Int))=false:=decide_eq_false c3;clear c3;obtain rfl:=Option.some.inj H;obtain ⟨Ao9,co9,eo9⟩:=Kd.R_slice HO_0.out;subst eo9;go_wp2
     first|go_end0|((try simp only[Exit.inBlock,Exit.then]);refine bodyPost_ret (results_none rfl _ _ _) rfl ?_)
     exact ⟨by first|rfl|(simp[errW_none,errW_some]<;>rfl)|(simp[*,errW_none,errW_some]<;>rfl),by (with_reducible repeat (first|apply Kd.R_alloc|apply Kd.R_drewN|apply Kd.R_drew));exact HO_0.out,by repeat (first|(with_reducible first|exact HB.out|apply below_alloc|apply pw_below_drewN|apply below_drew1)|exact HB.out),by repeat (first|(with_reducible first|exact HK.out|apply Kept.alloc|apply Kept.drewN|apply Kept.drew)|exact HK.out)⟩
def sluicelaw2_isCall.f (a0_0:Int) (a0_1:Int):Option (Bool):=if a0_0 ≥ 0 then (if a0_0<64 then (if a0_1 ≥ 1 then (some (decide (a0_1≤1099511627776))) else (some false)) else (some false)) else (some false)
def sluicelaw2_isOp.f (k:Nat) (a0_0:Int) (a0_1:ByteArray) (a0_2:Int) (a0_3:Int):Option (Bool):=(sluiceref2_EncodeRequest.f k 0 1 a0_0 a0_1 a0_2 a0_3).bind fun bt446=>(some (bt446.2 == 0))
def sluicelaw2_one.f (a0:Int) (a1:Int) (a2:Int) (a3:Bool):Option (Bool×Bool):=if a1=0 then (some (true,(a0 == 0))) else (if a1=20 then (if a0 ≥ 0 then (if a0≤a2 then (some (false,a3)) else (some (false,false))) else (some (false,false))) else (some (false,false)))
end Go.Proofs.Ytpgdmmjbhjbbhaa.P
end
section
namespace Go.Proofs.Ytpgdmmjbhjbbhaa.Lw
open Go Go.RowKit P Sp Vd En Wr Rd YtpgdmmjbhjbbhaaW.PrintWords YtpgdmmjbhjbbhaaW.PrintLast YtpgdmmjbhjbbhaaW.PrintMore
theorem lit_row {l:List Int} {w:World} {b:Nat} {t:TypeId} {cs:Array Value} (h:w.heap[b]?=some (.cells cs t (0,0))) (hc:cs.toList=l.map (Value.int .u8)) (hl:l.length≤1000):Kd.C (Kd.int .u8) w (some ⟨b,0,none⟩) l.length l:=by
 obtain rfl:cs=(l.map (Value.int .u8)).toArray:=by rw[←hc]
 refine Kd.C_of_reads (d:=(0:Int)) (h1:=fun _=>rfl) ⟨rfl,by omega,fun _=>⟨_,rfl,fun j hj=>?_⟩⟩;rw[add_plain,cell_of_row _ b j _ t (0,0) h];simp only[List.getElem?_toArray,List.getElem?_map,List.getElem?_eq_getElem hj,Option.map_some,List.getD_eq_getElem?_getD,Option.getD_some]
theorem toList_inj {a b : ByteArray} : a.toList = b.toList ↔ a = b := by
  rw[ByteArray.toList_eq,ByteArray.toList_eq];constructor
  ·intro h;cases a with
   | mk x=>
    cases b with
    | mk y=>
     have:x=y:=Array.toList_inj.mp h;rw[this]
  ·rintro rfl;rfl
theorem strOf_inj {a b:List Int} (ha:IsB a) (hb:IsB b):(strOfNums a).toList=(strOfNums b).toList ↔ a=b:=by
 rw[toList_inj];constructor
 ·intro h;rw[←bytesOf_strOf ha,←bytesOf_strOf hb,h]
 ·rintro rfl;rfl
theorem alike_law {a b:List Int} (ha:IsB a) (hb:IsB b):sluicelaw2_alike.f a b=some (dcd (a=b)):=by
 unfold sluicelaw2_alike.f
 congr 1
 exact bool_dcd (by rw[beq_iff_eq,strOf_inj ha hb])
theorem alike_calls (A0:Option Addr) (c0:Nat) (a:List Int) (A1:Option Addr) (c1:Nat) (b:List Int) (w:World) (ha:In w A0 c0 a) (hb:In w A1 c1 b):
  Calls Try.prog 37 #[.slice A0 a.length c0,.slice A1 b.length c1] w fun e w'=>e = .returned (.bool (dcd (a=b)))∧Below w.heap.size w w':=
 (sluicelaw2_alike.calls A0 c0 a A1 c1 b _ w ha.row ha.cap hb.row hb.cap (alike_law ha.isB hb.isB)).mono fun e w' h=>⟨h.1,h.2.below⟩
theorem S87.ext_iff' {x y:S87}:x=y ↔ x.f0=y.f0∧x.f1=y.f1∧x.f2=y.f2∧x.f3=y.f3∧(x.f4.f0=y.f4.f0∧x.f4.f1=y.f4.f1)∧x.f5=y.f5:=by
 obtain ⟨a,b,c,d,⟨e,f⟩,g⟩:=x;obtain ⟨a',b',c',d',⟨e',f'⟩,g'⟩:=y;simp only[S87.mk.injEq,S25.mk.injEq]
theorem sameViews_go (x y : List S87) (hl : x.length = y.length) (hm : x.length ≤ 9223372036854775807) : ∀ n i : Nat, i + n = x.length → ∃ k, sluicelaw2_sameViews.l0 k x y (i : Int) = some (dcd (x.drop i = y.drop i)) := by
  intro n
  induction n with
  | zero=>
   intro i hi;refine ⟨1,?_⟩;unfold sluicelaw2_sameViews.l0;rw[if_neg (by omega),List.drop_of_length_le (by omega),List.drop_of_length_le (by omega),dcd_pos rfl]
  | succ n ih=>
   intro i hi;obtain ⟨k,hk⟩:=ih (i+1) (by omega);refine ⟨k+1,?_⟩;unfold sluicelaw2_sameViews.l0
   have e1:x.drop i=rd_T87 x i::x.drop (i+1):=by
    rw[List.drop_eq_getElem_cons (by omega)];simp[rd_T87,List.getD_eq_getElem?_getD,List.getElem?_eq_getElem (show i<x.length by omega)]
   have e2:y.drop i=rd_T87 y i::y.drop (i+1):=by
    rw[List.drop_eq_getElem_cons (by omega)];simp[rd_T87,List.getD_eq_getElem?_getD,List.getElem?_eq_getElem (show i<y.length by omega)]
   rw[if_pos (by omega),if_pos (by omega),if_pos (by omega),e1,e2]
   have hw:wrap64 ((i:Int)+1)=((i+1:Nat):Int):=by
    rw[wrap64];simp[IntKind.wrap,IntKind.bits,IntKind.signed];omega
   by_cases he:rd_T87 x (i:Int)=rd_T87 y (i:Int)
   ·rw[if_neg (by rw[he];simp),hw,hk,he]
    congr 1
    exact bool_dcd (by rw[dcd_iff];simp)
   ·rw[if_pos ?_]
    ·rw[dcd_neg (fun h=>he (List.cons.inj h).1)]
    ·rw[S87.ext_iff'] at he;simp only[Bool.or_eq_true,Bool.not_eq_true',beq_eq_false_iff_ne,ne_eq,toList_inj];exact Classical.byContradiction fun h=>he (by simp only[not_or,Classical.not_not] at h;exact ⟨h.1,h.2.1,h.2.2.1,h.2.2.2.1,h.2.2.2.2.1,h.2.2.2.2.2⟩)
theorem sameViews_calls (A0:Option Addr) (c0:Nat) (x:List S87) (A1:Option Addr) (c1:Nat) (y:List S87) (w:World) (hx:Kd.C k87 w A0 x.length x) (hxc:x.length≤c0) (hy:Kd.C k87 w A1 y.length y) (hyc:y.length≤c1):
  Calls Try.prog 40 #[.slice A0 x.length c0,.slice A1 y.length c1] w fun e w'=>e = .returned (.bool (dcd (x=y)))∧Below w.heap.size w w':=by
 have hm:x.length≤9223372036854775807:=by have:=hx.2.1;omega
 obtain ⟨k,hk⟩:∃ k,sluicelaw2_sameViews.f k x y=some (dcd (x=y)):=by
  by_cases hl:x.length=y.length
  ·obtain ⟨k,hk⟩:=sameViews_go x y hl hm x.length 0 (by omega);exact ⟨k,by unfold sluicelaw2_sameViews.f;rw[if_pos (by omega)];exact hk⟩
  ·exact ⟨0,by unfold sluicelaw2_sameViews.f;rw[if_neg (by omega),dcd_neg (fun h=>hl (by rw[h]))]⟩
 exact (sluicelaw2_sameViews.calls k A0 c0 x A1 c1 y _ w hx hxc hy hyc hk).mono fun e w' h=>⟨h.1,h.2.below⟩
theorem sameSegment_calls (s t:Seg) (A0:Option Addr) (c0:Nat) (A1:Option Addr) (c1:Nat) (w:World) (ha:In w A0 c0 s.data) (hb:In w A1 c1 t.data):
  Calls Try.prog 29 #[SV s A0 c0,SV t A1 c1] w fun e w'=>e = .returned (.bool (dcd (s=t)))∧Below w.heap.size w w':=by
 have HX:=Aside0.mk (And.intro ha hb);clear ha hb;have hu47:=Try.underlying47;unfold SV;obtain ⟨wa,hwa⟩:∃ wa,wa=(w.alloc (.cells (SVc s A0 c0) 47 (0,0))).alloc (.cells (SVc t A1 c1) 47 (0,0)):=⟨_,rfl⟩;have HWA:=Aside0.mk hwa;have HB:Aside0 (Below w.heap.size w wa):=⟨by rw[hwa];exact below_al2 w _ _⟩
 have BK:Aside0 (wa.heap[w.heap.size]?=some (.cells (SVc s A0 c0) 47 (0,0))∧wa.heap[w.heap.size+1]?=some (.cells (SVc t A1 c1) 47 (0,0))):=⟨by
  rw[hwa];refine ⟨(Below.heap_alloc _ _ _ (by simp)).trans (heap_alloc_new w _),?_⟩;have:=heap_alloc_new (w.alloc (.cells (SVc s A0 c0) 47 (0,0))) (.cells (SVc t A1 c1) 47 (0,0))
  rwa [show (w.alloc (.cells (SVc s A0 c0) 47 (0,0))).heap.size=w.heap.size+1 by simp] at this⟩
 clear hwa;obtain ⟨vv,hvv⟩:∃ vv,dcd (s.data=t.data)=vv:=⟨_,rfl⟩;have HVI:Aside0 (s.data=t.data ↔ vv=true):=⟨by rw[←hvv,dcd_iff]⟩;have HVV:=Aside0.mk hvv;clear hvv;have ka0:wa.cell? ⟨w.heap.size,0,none⟩=some (.int .i64 s.src):=(blk_cell BK.out.1 0).trans rfl;have ka1:wa.cell? ⟨w.heap.size,1,none⟩=some (.int .i64 s.dst):=(blk_cell BK.out.1 1).trans rfl;have ka2:wa.cell? ⟨w.heap.size,2,none⟩=some (.int .i64 s.seq):=(blk_cell BK.out.1 2).trans rfl;have ka3:wa.cell? ⟨w.heap.size,3,none⟩=some (.int .i64 s.ack):=(blk_cell BK.out.1 3).trans rfl;have ka4:wa.cell? ⟨w.heap.size,4,none⟩=some (.slice A0 s.data.length c0):=(blk_cell BK.out.1 4).trans rfl;have kb0:wa.cell? ⟨w.heap.size+1,0,none⟩=some (.int .i64 t.src):=(blk_cell BK.out.2 0).trans rfl;have kb1:wa.cell? ⟨w.heap.size+1,1,none⟩=some (.int .i64 t.dst):=(blk_cell BK.out.2 1).trans rfl;have kb2:wa.cell? ⟨w.heap.size+1,2,none⟩=some (.int .i64 t.seq):=(blk_cell BK.out.2 2).trans rfl;have kb3:wa.cell? ⟨w.heap.size+1,3,none⟩=some (.int .i64 t.ack):=(blk_cell BK.out.2 3).trans rfl;have kb4:wa.cell? ⟨w.heap.size+1,4,none⟩=some (.slice A1 t.data.length c1):=(blk_cell BK.out.2 4).trans rfl;go_enter Try.func29,Try.ntmps29
 go_upto_region 1 with fail
 rw[←HWA.out];go_wp2_with (go_at_call 37;refine (alike_calls A0 c0 s.data A1 c1 t.data _ ⟨Kd.C_below HX.out.1.row HB.out,HX.out.1.isB,HX.out.1.cap⟩ ⟨Kd.C_below HX.out.2.row HB.out,HX.out.2.isB,HX.out.2.cap⟩).mono ?_;rintro e w1 ⟨rfl,hb⟩;rw[HVV.out];have n0_:=Aside0.mk (below_step HB.out hb);clear HB hb;have HB:=n0_;clear n0_)
 all_goals go_ret
 all_goals refine ⟨congrArg (fun b=>Ending.returned (Value.bool b)) (bool_dcd ?_),HB.out⟩
 all_goals clear HX HWA hu47 BK HVV HB
 all_goals rw[show s=t ↔ s.src=t.src∧s.dst=t.dst∧s.seq=t.seq∧s.ack=t.ack∧s.data=t.data from ⟨fun h=>by subst h;simp,fun h=>by cases s;cases t;simp_all⟩,HVI.out]
 all_goals clear HVI
 all_goals first|(simp[*];done)|(cases vv<;>first|(simp[*];done)|contradiction|(simp_all;done))
theorem msg_iff (m n:Msg):m=n ↔ m.kind=n.kind∧m.name.toList=n.name.toList∧m.cap=n.cap∧m.recaps=n.recaps∧(m.epoch.f0=n.epoch.f0∧m.epoch.f1=n.epoch.f1)∧(m.over.f0=n.over.f0∧m.over.f1=n.over.f1)∧m.views=n.views∧(m.rights.f0=n.rights.f0∧m.rights.f1=n.rights.f1)∧m.held=n.held∧(m.call.f0=n.call.f0∧m.call.f1=n.call.f1)∧(m.op.kind=n.op.kind∧m.op.name.toList=n.op.name.toList∧m.op.a=n.op.a∧m.op.b=n.op.b)∧m.err=n.err∧m.value=n.value:=by
 obtain ⟨a1,a2,a3,a4,⟨a5,a6⟩,⟨a7,a8⟩,⟨a9,b1⟩,b2,⟨b3,b4⟩,⟨b5,b6,b7,b8⟩,b9,c1,c2⟩:=m;obtain ⟨d1,d2,d3,d4,⟨d5,d6⟩,⟨d7,d8⟩,⟨d9,e1⟩,e2,⟨e3,e4⟩,⟨e5,e6,e7,e8⟩,e9,f1,f2⟩:=n;simp only[Msg.mk.injEq,S25.mk.injEq,Sp.Op.mk.injEq,toList_inj];constructor<;>(rintro h;simp[h])
theorem same_calls (m n:Msg) (A:Option Addr) (c:Nat) (A2:Option Addr) (c2:Nat) (w:World) (hx:Kd.C k87 w A m.views.length m.views) (hxc:m.views.length≤c) (hy:Kd.C k87 w A2 n.views.length n.views) (hyc:n.views.length≤c2):
  Calls Try.prog 20 #[MV m A c,MV n A2 c2] w fun e w'=>e = .returned (.bool (dcd (m=n)))∧Below w.heap.size w w':=by
 have HX:=Aside0.mk (And.intro hx hxc);have HY:=Aside0.mk (And.intro hy hyc);clear hx hxc hy hyc;have hu33:=Try.underlying33;have hu23:=Try.underlying23;have hu25:=Try.underlying25;have hu27:=Try.underlying27;have hu29:=Try.underlying29;unfold MV;obtain ⟨wa,hwa⟩:∃ wa,wa=(w.alloc (.cells (MVc m A c) 33 (0,0))).alloc (.cells (MVc n A2 c2) 33 (0,0)):=⟨_,rfl⟩;have HWA:=Aside0.mk hwa;have HB:Aside0 (Below w.heap.size w wa):=⟨by rw[hwa];exact below_al2 w _ _⟩
 have BK:Aside0 (wa.heap[w.heap.size]?=some (.cells (MVc m A c) 33 (0,0))∧wa.heap[w.heap.size+1]?=some (.cells (MVc n A2 c2) 33 (0,0))):=⟨by
  rw[hwa];refine ⟨(Below.heap_alloc _ _ _ (by simp)).trans (heap_alloc_new w _),?_⟩;have:=heap_alloc_new (w.alloc (.cells (MVc m A c) 33 (0,0))) (.cells (MVc n A2 c2) 33 (0,0))
  rwa [show (w.alloc (.cells (MVc m A c) 33 (0,0))).heap.size=w.heap.size+1 by simp] at this⟩
 clear hwa;obtain ⟨vv,hvv⟩:∃ vv,dcd (m.views=n.views)=vv:=⟨_,rfl⟩;have HVI:Aside0 (m.views=n.views ↔ vv=true):=⟨by rw[←hvv,dcd_iff]⟩;have HVV:=Aside0.mk hvv;clear hvv;have ka0:wa.cell? ⟨w.heap.size,0,none⟩=some (.int .i64 m.kind):=(blk_cell BK.out.1 0).trans rfl;have kb0:wa.cell? ⟨w.heap.size+1,0,none⟩=some (.int .i64 n.kind):=(blk_cell BK.out.2 0).trans rfl;have ka1:wa.cell? ⟨w.heap.size,1,none⟩=some (.string m.name):=(blk_cell BK.out.1 1).trans rfl;have kb1:wa.cell? ⟨w.heap.size+1,1,none⟩=some (.string n.name):=(blk_cell BK.out.2 1).trans rfl;have ka2:wa.cell? ⟨w.heap.size,2,none⟩=some (.int .i64 m.cap):=(blk_cell BK.out.1 2).trans rfl;have kb2:wa.cell? ⟨w.heap.size+1,2,none⟩=some (.int .i64 n.cap):=(blk_cell BK.out.2 2).trans rfl;have ka3:wa.cell? ⟨w.heap.size,3,none⟩=some (.int .i64 m.recaps):=(blk_cell BK.out.1 3).trans rfl;have kb3:wa.cell? ⟨w.heap.size+1,3,none⟩=some (.int .i64 n.recaps):=(blk_cell BK.out.2 3).trans rfl;have ka4:wa.cell? ⟨w.heap.size,4,none⟩=some (.int .i64 m.epoch.f0):=(blk_cell BK.out.1 4).trans rfl;have kb4:wa.cell? ⟨w.heap.size+1,4,none⟩=some (.int .i64 n.epoch.f0):=(blk_cell BK.out.2 4).trans rfl;have ka5:wa.cell? ⟨w.heap.size,5,none⟩=some (.int .i64 m.epoch.f1):=(blk_cell BK.out.1 5).trans rfl;have kb5:wa.cell? ⟨w.heap.size+1,5,none⟩=some (.int .i64 n.epoch.f1):=(blk_cell BK.out.2 5).trans rfl;have ka6:wa.cell? ⟨w.heap.size,6,none⟩=some (.int .i64 m.over.f0):=(blk_cell BK.out.1 6).trans rfl;have kb6:wa.cell? ⟨w.heap.size+1,6,none⟩=some (.int .i64 n.over.f0):=(blk_cell BK.out.2 6).trans rfl;have ka7:wa.cell? ⟨w.heap.size,7,none⟩=some (.int .i64 m.over.f1):=(blk_cell BK.out.1 7).trans rfl;have kb7:wa.cell? ⟨w.heap.size+1,7,none⟩=some (.int .i64 n.over.f1):=(blk_cell BK.out.2 7).trans rfl;have ka19:wa.cell? ⟨w.heap.size,19,none⟩=some (.slice A m.views.length c):=(blk_cell BK.out.1 19).trans rfl;have kb19:wa.cell? ⟨w.heap.size+1,19,none⟩=some (.slice A2 n.views.length c2):=(blk_cell BK.out.2 19).trans rfl;go_enter Try.func20,Try.ntmps20
 go_upto_region 1 with fail
 rw[←HWA.out];go_wp2_with (go_at_call 40;refine (sameViews_calls A c m.views A2 c2 n.views _ (Kd.C_below HX.out.1 HB.out) HX.out.2 (Kd.C_below HY.out.1 HB.out) HY.out.2).mono ?_;rintro e w1 ⟨rfl,hb⟩;rw[HVV.out];have n0_:=Aside0.mk (below_step HB.out hb);have n1_:=Aside0.mk (And.intro (blk_keep hb BK.out.1) (blk_keep hb BK.out.2));clear HB BK hb ka0 kb0 ka1 kb1 ka2 kb2 ka3 kb3 ka4 kb4 ka5 kb5 ka6 kb6 ka7 kb7 ka19 kb19;have HB:=n0_;have BK:=n1_;clear n0_ n1_;have ka8:w1.cell? ⟨w.heap.size,8,none⟩=some (.int .i64 m.rights.f0):=(blk_cell BK.out.1 8).trans rfl;have kb8:w1.cell? ⟨w.heap.size+1,8,none⟩=some (.int .i64 n.rights.f0):=(blk_cell BK.out.2 8).trans rfl;have ka9:w1.cell? ⟨w.heap.size,9,none⟩=some (.int .i64 m.rights.f1):=(blk_cell BK.out.1 9).trans rfl;have kb9:w1.cell? ⟨w.heap.size+1,9,none⟩=some (.int .i64 n.rights.f1):=(blk_cell BK.out.2 9).trans rfl;have ka10:w1.cell? ⟨w.heap.size,10,none⟩=some (.int .i64 m.held):=(blk_cell BK.out.1 10).trans rfl;have kb10:w1.cell? ⟨w.heap.size+1,10,none⟩=some (.int .i64 n.held):=(blk_cell BK.out.2 10).trans rfl;have ka11:w1.cell? ⟨w.heap.size,11,none⟩=some (.int .i64 m.call.f0):=(blk_cell BK.out.1 11).trans rfl;have kb11:w1.cell? ⟨w.heap.size+1,11,none⟩=some (.int .i64 n.call.f0):=(blk_cell BK.out.2 11).trans rfl;have ka12:w1.cell? ⟨w.heap.size,12,none⟩=some (.int .i64 m.call.f1):=(blk_cell BK.out.1 12).trans rfl;have kb12:w1.cell? ⟨w.heap.size+1,12,none⟩=some (.int .i64 n.call.f1):=(blk_cell BK.out.2 12).trans rfl;have ka13:w1.cell? ⟨w.heap.size,13,none⟩=some (.int .i64 m.op.kind):=(blk_cell BK.out.1 13).trans rfl;have kb13:w1.cell? ⟨w.heap.size+1,13,none⟩=some (.int .i64 n.op.kind):=(blk_cell BK.out.2 13).trans rfl;have ka14:w1.cell? ⟨w.heap.size,14,none⟩=some (.string m.op.name):=(blk_cell BK.out.1 14).trans rfl;have kb14:w1.cell? ⟨w.heap.size+1,14,none⟩=some (.string n.op.name):=(blk_cell BK.out.2 14).trans rfl;have ka15:w1.cell? ⟨w.heap.size,15,none⟩=some (.int .i64 m.op.a):=(blk_cell BK.out.1 15).trans rfl;have kb15:w1.cell? ⟨w.heap.size+1,15,none⟩=some (.int .i64 n.op.a):=(blk_cell BK.out.2 15).trans rfl;have ka16:w1.cell? ⟨w.heap.size,16,none⟩=some (.int .i64 m.op.b):=(blk_cell BK.out.1 16).trans rfl;have kb16:w1.cell? ⟨w.heap.size+1,16,none⟩=some (.int .i64 n.op.b):=(blk_cell BK.out.2 16).trans rfl;have ka17:w1.cell? ⟨w.heap.size,17,none⟩=some (.int .i64 m.err):=(blk_cell BK.out.1 17).trans rfl;have kb17:w1.cell? ⟨w.heap.size+1,17,none⟩=some (.int .i64 n.err):=(blk_cell BK.out.2 17).trans rfl;have ka18:w1.cell? ⟨w.heap.size,18,none⟩=some (.int .i64 m.value):=(blk_cell BK.out.1 18).trans rfl;have kb18:w1.cell? ⟨w.heap.size+1,18,none⟩=some (.int .i64 n.value):=(blk_cell BK.out.2 18).trans rfl)
 all_goals go_ret
 all_goals refine ⟨congrArg (fun b=>Ending.returned (Value.bool b)) (bool_dcd ?_),HB.out⟩
 all_goals clear HX HY HWA hu33 hu23 hu25 hu27 hu29 BK HVV HB
 all_goals rw[msg_iff,HVI.out]
 all_goals clear HVI
 all_goals (first|(simp[*];done)|(cases vv<;>first|(simp[*];done)|contradiction|(simp at *;done)|(simp_all;done)))
theorem In.below {w w1:World} {A:Option Addr} {c:Nat} {l:List Int} (h:In w A c l) (hb:Below w.heap.size w w1):In w1 A c l:=⟨Kd.C_below h.row hb,h.isB,h.cap⟩
theorem in_of_R {w:World} {base:Nat} {ok:Nat→Prop} {v:Value} {l:List Int} (h:Kd.R (Kd.int .u8) 5 w base ok v l) (hb:IsB l):∃ A c,v = .slice A l.length c∧In w A c l:=by
 obtain ⟨A,c,hv,hc,hC⟩:=Kd.R_reads h;exact ⟨A,c,hv,hC,hb,hc⟩
theorem in_lit {l:List Int} {w:World} {b:Nat} {t:TypeId} {cs:Array Value} {n:Nat} (h:w.heap[b]?=some (.cells cs t (0,0))) (hc:cs.toList=l.map (Value.int .u8)) (hl:l.length≤1000) (hb:IsB l) (hn:n=l.length):In w (some ⟨b,0,none⟩) n l:=⟨lit_row h hc hl,hb,by omega⟩
theorem views_nil (w:World) (A:Option Addr):Kd.C k87 w A ([]:List S87).length []:=⟨rfl,by simp,fun h=>by simp at h⟩
theorem isB_of {l:List Int} (h:∀ x ∈ l,decide (0≤x∧x≤255)=true):IsB l:=fun x hx=>of_decide_eq_true (h x hx)
theorem mEx_isI:isI mEx.op.a∧isI mEx.op.b:=⟨by unfold isI;decide,by unfold isI;decide⟩
def bM:List Int:=[3,1,107,10,0,2,1]
def bS:List Int:=[0,1,0,7,0]
def bQ:List Int:=[3,1,2,1,107,10,0]
def bR:List Int:=[0,9,0,5]
theorem bM_B:IsB bM:=isB_of (by decide)
theorem bS_B:IsB bS:=isB_of (by decide)
theorem bQ_B:IsB bQ:=isB_of (by decide)
theorem bR_B:IsB bR:=isB_of (by decide)
theorem enc_ex (w:World):Calls Try.prog 16 #[.agg #[.int .i64 3,.string ⟨#[107]⟩,.int .i64 10,.int .i64 0,.int .i64 2,.int .i64 1,.int .i64 0,.int .i64 0,.int .i64 0,.int .i64 0,.int .i64 0,.int .i64 0,.int .i64 0,.int .i64 0,.string ⟨#[]⟩,.int .i64 0,.int .i64 0,.int .i64 0,.int .i64 0,.slice none 0 0]] w fun e w'=>∃ A c,e = .returned (.tuple #[.slice A 7 c,.int .i64 0])∧In w' A c bM∧Below w.heap.size w w':=by
 refine (encode_calls mEx mEx_isI none 0 w (views_nil _ _) (Nat.le_refl _)).mono ?_;rintro e w' ⟨v,he,hR,hb⟩;rw[lay_right mEx_right] at he hR;simp only[mEx_bytes] at hR;obtain ⟨A,c,rfl,hi⟩:=in_of_R hR bM_B;exact ⟨A,c,he,hi,hb⟩
theorem dec_ex (w:World) (A:Option Addr) (c:Nat) (h:In w A c bM):Calls Try.prog 18 #[.slice A 7 c] w fun e w'=>∃ A1 c1,e = .returned (.tuple #[.agg (MVc mEx A1 c1),.int .i64 0,.int .i64 0])∧Below w.heap.size w w':=by
 refine (decode_calls w A c bM h).mono ?_;rintro e w' ⟨hb,A1,c1,he,_⟩;have hw:whole zMsg msgP bM=(mEx,0,0):=by rw[show bM=msgB mEx from mEx_bytes.symm];exact whole_back msgP_codec _ mEx_right
 rw[hw] at he;exact ⟨A1,c1,he,hb⟩
theorem seg_ex (w:World):Calls Try.prog 27 #[.agg #[.int .i64 0,.int .i64 1,.int .i64 0,.int .i64 7,.slice none 0 0]] w fun e w'=>∃ A c,e = .returned (.tuple #[.slice A 5 c,.int .i64 0])∧In w' A c bS∧Below w.heap.size w w':=by
 refine (encseg_calls sEx none 0 w ⟨rfl,by decide,fun h=>absurd h (by decide)⟩ (Nat.le_refl _) (fun x h=>by cases h)).mono ?_;rintro e w' ⟨v,he,hR,hb⟩;rw[lay_right sEx_right] at he hR;simp only[sEx_bytes] at hR;obtain ⟨A,c,rfl,hi⟩:=in_of_R hR bS_B;exact ⟨A,c,he,hi,hb⟩
theorem req_ex (w:World) (A:Option Addr) (c:Nat) (h:In w A c bQ):Calls Try.prog 33 #[.slice A 7 c] w fun e w'=>e = .returned (.tuple #[.agg #[.int .i64 3,.int .i64 1],.agg #[.int .i64 2,.string ⟨#[107]⟩,.int .i64 5,.int .i64 0],.int .i64 0,.int .i64 0])∧Below w.heap.size w w':=by
 refine (decreq_calls w A c bQ h).mono ?_;rintro e w' ⟨hb,he⟩;have hw:whole (z25,zOp) reqP bQ=(qEx,0,0):=by rw[show bQ=reqB qEx from qEx_bytes.symm];exact whole_back reqP_codec _ qEx_right
 rw[hw] at he;exact ⟨he,hb⟩
theorem rep_ex (w:World):Calls Try.prog 34 #[.agg #[.int .i64 0,.int .i64 9,.int .i64 0,.int .i64 (-3)]] w fun e w'=>∃ A c,e = .returned (.tuple #[.slice A 4 c,.int .i64 0])∧In w' A c bR∧Below w.heap.size w w':=by
 refine (encrep_calls rEx w (by unfold isI;decide)).mono ?_;rintro e w' ⟨v,he,hR,hb⟩;rw[lay_right rEx_right] at he hR;simp only[rEx_bytes] at hR;obtain ⟨A,c,rfl,hi⟩:=in_of_R hR bR_B;exact ⟨A,c,he,hi,hb⟩
theorem val_ex (w:World) (A1:Option Addr) (c1:Nat):Calls Try.prog 21 #[.agg (MVc mEx A1 c1)] w fun e w'=>e = .returned (.bool true)∧Below w.heap.size w w':=by
 refine (valid_calls mEx mEx_isI A1 c1 w (views_nil _ _) (Nat.zero_le _)).mono ?_;rintro e w' ⟨he,hb⟩;rw[dcd_pos mEx_right] at he;exact ⟨he,hb⟩
theorem alike_ex (A0:Option Addr) (c0:Nat) (A1:Option Addr) (c1:Nat) (b:List Int) (n:Nat) (hn:b.length=n) (w:World) (ha:In w A0 c0 b) (hb:In w A1 c1 b):
  Calls Try.prog 37 #[.slice A0 n c0,.slice A1 n c1] w fun e w'=>e = .returned (.bool true)∧Below w.heap.size w w':=by
 subst hn;refine (alike_calls A0 c0 b A1 c1 b w ha hb).mono ?_;rintro e w' ⟨he,hb⟩;rw[dcd_pos rfl] at he;exact ⟨he,hb⟩
theorem in_new (w:World) (l:List Int) (cs:Array Value) (n:Nat) (hc:cs.toList=l.map (Value.int .u8)) (hl:l.length≤1000) (hb:IsB l) (hn:n=l.length):In (w.alloc (.cells cs 5 (0,0))) (some ⟨w.heap.size,0,none⟩) n l:=in_lit (heap_alloc_new w _) hc hl hb hn
structure AF (w W:World) (Ab As Ar A1:Option Addr) (cb cs cr c1 g3 g8 g9:Nat):Prop where
 bel:Below w.heap.size w W
 b:In W Ab cb bM
 s:In W As cs bS
 r:In W Ar cr bR
 m:W.heap[g3]?=some (.cells (MVc mEx A1 c1) 33 (0,0))
 c:W.heap[g8]?=some (.cells #[.int .i64 3,.int .i64 1] 27 (0,0))
 o:W.heap[g9]?=some (.cells #[.int .i64 2,.string ⟨#[107]⟩,.int .i64 5,.int .i64 0] 29 (0,0))
theorem AF.below {w W W1:World} {Ab As Ar A1:Option Addr} {cb cs cr c1 g3 g8 g9:Nat} (h:AF w W Ab As Ar A1 cb cs cr c1 g3 g8 g9) (k:Below W.heap.size W W1):AF w W1 Ab As Ar A1 cb cs cr c1 g3 g8 g9:=
 ⟨below_step h.bel k,In.below h.b k,In.below h.s k,In.below h.r k,blk_keep k h.m,blk_keep k h.c,blk_keep k h.o⟩
theorem AF.new {w W:World} {Ab As Ar A1:Option Addr} {cb cs cr c1 g3 g8 g9:Nat} (h:AF w W Ab As Ar A1 cb cs cr c1 g3 g8 g9) (o:Obj):AF w (W.alloc o) Ab As Ar A1 cb cs cr c1 g3 g8 g9:=h.below (al_below W o)
theorem able_calls (w:World):Calls Try.prog 12 #[] w fun e w'=>e = .returned (.bool true)∧Below w.heap.size w w':=by
 have hu33:=Try.underlying33;have hu23:=Try.underlying23;have hu25:=Try.underlying25;have hu27:=Try.underlying27;have hu29:=Try.underlying29;have hu47:=Try.underlying47;have hu50:=Try.underlying50;go_enter Try.func12,Try.ntmps12
 go_upto_region 2 with (go_at_call 16;refine (enc_ex _).mono ?_;rintro e w1 ⟨Ab,cb,rfl,hi,hb⟩;have H1:=Aside0.mk (And.intro hb hi);clear hi hb)
 obtain ⟨wa,hwa⟩:∃ wa,wa=w1.alloc (.cells #[.int .u8 3,.int .u8 1,.int .u8 107,.int .u8 10,.int .u8 0,.int .u8 2,.int .u8 1] 5 (0,0)):=⟨_,rfl⟩;have HWA:=Aside0.mk hwa;have HIA:Aside0 (In wa (some ⟨w1.heap.size,0,none⟩) 7 bM):=⟨by rw[hwa];exact in_new w1 bM _ _ rfl (by decide) bM_B rfl⟩;have HBA:Aside0 (Below w.heap.size w wa∧Below w1.heap.size w1 wa):=⟨by rw[hwa];exact ⟨below_step H1.out.1 (al_below _ _),al_below _ _⟩⟩;have HMV:=Aside0.mk mv_one;clear hwa
 go_upto_region 3 with (first
  | (refine wpList_store_row rfl 33 (.tmp 3) (.tmp 23) rfl w2.heap.size (MVc mEx A1 c1) (by rfl) (by rfl) 33 _ H2.out.2 inf33 rfl (mv_one _ _ _) ?_)
  | (go_at_call 18;rw[←HWA.out];refine (dec_ex _ _ _ HIA.out).mono ?_;rintro e w2 ⟨A1,c1,rfl,hb⟩;have H2:=Aside0.mk (And.intro hb (heap_alloc_new w2 (.cells (MVc zMsg none 0) 33 (0,0))));clear hb))
 obtain ⟨w3,hw3⟩:∃ w3,w3=(w2.alloc (.cells (MVc zMsg none 0) 33 (0,0))).setRow w2.heap.size (MVc mEx A1 c1):=⟨_,rfl⟩;have HW3:=Aside0.mk hw3;rw[mv_zero] at HW3
 have H3:Aside0 (Below w.heap.size w w3∧In w3 Ab cb bM∧w3.heap[w2.heap.size]?=some (.cells (MVc mEx A1 c1) 33 (0,0))):=⟨by
  have h1:=below_step HBA.out.1 H2.out.1;have h2:Below w2.heap.size w2 w3:=by rw[hw3];exact below_setRow (al_below _ _) (Nat.le_refl _) _
  refine ⟨below_step h1 h2,In.below (In.below (In.below H1.out.2 HBA.out.2) H2.out.1) h2,?_⟩;rw[hw3];exact setRow_blk H2.out.2 _⟩
 rw[←HW3.out];clear hw3 HW3 H2 HWA HIA HBA H1;go_upto_region 4 with (go_at_call 27;refine (seg_ex _).mono ?_;rintro e w4 ⟨As,cs,rfl,hi,hb⟩;have H4:=Aside0.mk (And.intro (below_step H3.out.1 hb) (And.intro (In.below H3.out.2.1 hb) (And.intro (blk_keep hb H3.out.2.2) hi)));clear hi hb)
 obtain ⟨wa,hwa⟩:∃ wa,wa=w4.alloc (.cells #[.int .u8 3,.int .u8 1,.int .u8 2,.int .u8 1,.int .u8 107,.int .u8 10,.int .u8 0] 5 (0,0)):=⟨_,rfl⟩;have HWA:=Aside0.mk hwa;have HIA:Aside0 (In wa (some ⟨w4.heap.size,0,none⟩) 7 bQ):=⟨by rw[hwa];exact in_new w4 bQ _ _ rfl (by decide) bQ_B rfl⟩;have HBA:Aside0 (Below w4.heap.size w4 wa):=⟨by rw[hwa];exact al_below _ _⟩;clear hwa;go_upto_region 5 with (go_at_call 33;rw[←HWA.out];refine (req_ex _ _ _ HIA.out).mono ?_;rintro e w5 ⟨rfl,hb⟩;have H5:=Aside0.mk hb;clear hb)
 obtain ⟨w6,hw6⟩:∃ w6,w6=(w5.alloc (.cells #[.int .i64 3,.int .i64 1] 27 (0,0))).alloc (.cells #[.int .i64 2,.string ⟨#[107]⟩,.int .i64 5,.int .i64 0] 29 (0,0)):=⟨_,rfl⟩;have HW6:=Aside0.mk hw6
 have H6:Aside0 (Below w5.heap.size w5 w6∧w6.heap[w5.heap.size]?=some (.cells #[.int .i64 3,.int .i64 1] 27 (0,0))∧w6.heap[w5.heap.size+1]?=some (.cells #[.int .i64 2,.string ⟨#[107]⟩,.int .i64 5,.int .i64 0] 29 (0,0))):=⟨by
  rw[hw6];refine ⟨below_al2 w5 _ _,(Below.heap_alloc _ _ _ (by simp)).trans (heap_alloc_new w5 _),?_⟩;have:=heap_alloc_new (w5.alloc (.cells #[.int .i64 3,.int .i64 1] 27 (0,0))) (.cells #[.int .i64 2,.string ⟨#[107]⟩,.int .i64 5,.int .i64 0] 29 (0,0))
  rwa [show (w5.alloc (.cells #[.int .i64 3,.int .i64 1] 27 (0,0))).heap.size=w5.heap.size+1 by simp] at this⟩
 rw[←HW6.out];clear hw6 HW6 HWA HIA;have HK:Aside0 (Below w4.heap.size w4 w6):=⟨below_step (below_step HBA.out H5.out) H6.out.1⟩;go_upto_region 6 with (go_at_call 34;refine (rep_ex _).mono ?_;rintro e w7 ⟨Ar,cr,rfl,hi,hb⟩;have HF:Aside0 (AF w w7 Ab As Ar A1 cb cs cr c1 w2.heap.size w5.heap.size (w5.heap.size+1)):=⟨⟨below_step (below_step H4.out.1 HK.out) hb,In.below (In.below H4.out.2.1 HK.out) hb,In.below (In.below H4.out.2.2.2 HK.out) hb,hi,blk_keep hb (blk_keep HK.out H4.out.2.2.1),blk_keep hb H6.out.2.1,blk_keep hb H6.out.2.2⟩⟩;clear hi hb)
 clear H3 H4 H5 H6 HK HBA
 go_wp2_with (first
  | (go_at_call 37;refine (alike_ex Ab cb _ _ bM 7 rfl _ (AF.new HF.out _).b (in_new _ bM _ _ rfl (by decide) bM_B rfl)).mono ?_;rintro e wx ⟨rfl,hb⟩;have n0_:=Aside0.mk (AF.below (AF.new HF.out _) hb);clear HF hb;have HF:=n0_;clear n0_;have km0:wx.cell? ⟨w2.heap.size,0,none⟩=some (.int .i64 3):=(blk_cell HF.out.m 0).trans rfl;have km2:wx.cell? ⟨w2.heap.size,2,none⟩=some (.int .i64 10):=(blk_cell HF.out.m 2).trans rfl;have km4:wx.cell? ⟨w2.heap.size,4,none⟩=some (.int .i64 2):=(blk_cell HF.out.m 4).trans rfl;have kc0:wx.cell? ⟨w5.heap.size,0,none⟩=some (.int .i64 3):=(blk_cell HF.out.c 0).trans rfl;have ko2:wx.cell? ⟨w5.heap.size+1,2,none⟩=some (.int .i64 5):=(blk_cell HF.out.o 2).trans rfl)
  | (go_at_call 37;refine (alike_ex As cs _ _ bS 5 rfl _ (AF.new HF.out _).s (in_new _ bS _ _ rfl (by decide) bS_B rfl)).mono ?_;rintro e wx ⟨rfl,hb⟩;clear km0 km2 km4 kc0 ko2;have n0_:=Aside0.mk (AF.below (AF.new HF.out _) hb);clear HF hb;have HF:=n0_;clear n0_;have km0:wx.cell? ⟨w2.heap.size,0,none⟩=some (.int .i64 3):=(blk_cell HF.out.m 0).trans rfl;have km2:wx.cell? ⟨w2.heap.size,2,none⟩=some (.int .i64 10):=(blk_cell HF.out.m 2).trans rfl;have km4:wx.cell? ⟨w2.heap.size,4,none⟩=some (.int .i64 2):=(blk_cell HF.out.m 4).trans rfl;have kc0:wx.cell? ⟨w5.heap.size,0,none⟩=some (.int .i64 3):=(blk_cell HF.out.c 0).trans rfl;have ko2:wx.cell? ⟨w5.heap.size+1,2,none⟩=some (.int .i64 5):=(blk_cell HF.out.o 2).trans rfl)
  | (go_at_call 37;refine (alike_ex Ar cr _ _ bR 4 rfl _ (AF.new HF.out _).r (in_new _ bR _ _ rfl (by decide) bR_B rfl)).mono ?_;rintro e wx ⟨rfl,hb⟩;clear km0 km2 km4 kc0 ko2;have n0_:=Aside0.mk (AF.below (AF.new HF.out _) hb);clear HF hb;have HF:=n0_;clear n0_;have km0:wx.cell? ⟨w2.heap.size,0,none⟩=some (.int .i64 3):=(blk_cell HF.out.m 0).trans rfl;have km2:wx.cell? ⟨w2.heap.size,2,none⟩=some (.int .i64 10):=(blk_cell HF.out.m 2).trans rfl;have km4:wx.cell? ⟨w2.heap.size,4,none⟩=some (.int .i64 2):=(blk_cell HF.out.m 4).trans rfl;have kc0:wx.cell? ⟨w5.heap.size,0,none⟩=some (.int .i64 3):=(blk_cell HF.out.c 0).trans rfl;have ko2:wx.cell? ⟨w5.heap.size+1,2,none⟩=some (.int .i64 5):=(blk_cell HF.out.o 2).trans rfl)
  | ((with_reducible refine gate_dst (N:=106) rfl ?_);refine gate_guard (by kernel_rfl) ?_;refine wpList_load_row rfl 33 (.tmp 3) rfl w2.heap.size (by rfl) 33 (MVc mEx A1 c1) (0,0) _ HF.out.m Try.underlying33 rfl inf33 ?_)
  | (go_at_call 21;refine (val_ex _ A1 c1).mono ?_;rintro e wy ⟨rfl,hb⟩;have HE:=Aside0.mk (below_step HF.out.bel hb);clear hb))
 go_ret
 exact ⟨rfl,HE.out⟩
theorem msgV_views {m:Msg} (h:msgV m):m.views.length≤64:=by
 have h2:=h.2;unfold restV at h2;have hz:∀ m2:Msg,m=m2→m2.views.length≤64→m.views.length≤64:=fun m2 e k=>e ▸ k
 split at h2
 ·exact hz _ h2.2.2 (Nat.zero_le _)
 ·split at h2
  ·exact hz _ h2.2.2.2.2 (Nat.zero_le _)
  ·split at h2
   ·exact h2.1.1
   ·exact hz _ h2.2.2.2.2.2.2 (Nat.zero_le _)
theorem In_nil (w:World):In w none 0 []:=⟨⟨rfl,by decide,fun h=>absurd h (by decide)⟩,(fun x h=>by cases h),Nat.le_refl _⟩
theorem two_blocks (w:World) (a b:Obj):((w.alloc a).alloc b).heap[w.heap.size]?=some a∧((w.alloc a).alloc b).heap[w.heap.size+1]?=some b:=by
 refine ⟨(Below.heap_alloc _ _ _ (by simp)).trans (heap_alloc_new w _),?_⟩;have:=heap_alloc_new (w.alloc a) b
 rwa [show (w.alloc a).heap.size=w.heap.size+1 by simp] at this
theorem sv_one (s:Seg) (A:Option Addr) (c:Nat):(SVc s A c).all (·.oneCell')=true:=by simp[SVc,Value.oneCell']
end Go.Proofs.Ytpgdmmjbhjbbhaa.Lw
end
section
namespace Go.Proofs.Ytpgdmmjbhjbbhaa.Ow
open Go Go.ChangeShapes Go.WideShapes Go.ChangeAt Go.RowKit P Sp Vd En Wr Rd Lw YtpgdmmjbhjbbhaaW.PrintWords
def Fit {H:Type} (t:TypeId) (d:DataW H):Prop:=∀ n ∈ d.weights Try.prog t,n≤140737488351232
theorem fit_all {H:Type} {ts:List TypeId} {ds:List (DataW H)} (h:(DataW.weightsEach Try.prog ts ds).all (· ≤ reachBytes)=true) {j:Nat} {t:TypeId} {d:DataW H} (ht:ts[j]?=some t) (hd:ds[j]?=some d):Fit t d:=fun n hn=>by
 have:=List.all_eq_true.1 h _ (DataW.weights_mem_each ht hd n hn);exact of_decide_eq_true this
theorem fit_field {H:Type} {t tj:TypeId} {fs:Array Field} {parts:List (DataW H)} {d:DataW H} (hu:Try.prog.underlying t=some (.struct fs)) (h:Fit t (.agg parts)) (j:Nat) (ht:(fs.toList.map (·.type))[j]?=some tj) (hd:parts[j]?=some d):Fit tj d:=fun n hn=>
 h n (by simp only[DataW.weights,hu];exact DataW.weights_mem_each ht hd n hn)
theorem weights_all {H:Type} {e:TypeId}:∀ {l:List (DataW H)} {d:DataW H},d ∈ l → ∀ n ∈ d.weights Try.prog e,n ∈ DataW.weightsAll Try.prog e l
 | x :: r, d, h, n, hn => by
   simp only[DataW.weightsAll,List.mem_append];rcases List.mem_cons.1 h with rfl|h
   ·exact .inl hn
   ·exact .inr (weights_all h n hn)
 | [],_,h,_,_=>by cases h
theorem fit_slice {H:Type} {t e:TypeId} {elems spare:List (DataW H)} (hu:Try.prog.underlying t=some (.slice e)) (h:Fit t (.slice elems spare)):(elems.length+spare.length) * Try.prog.bytesOf e≤140737488351232∧∀ d ∈ elems,Fit e d:=
 ⟨h _ (by simp[DataW.weights,hu]),fun d hd n hn=>h n (by simp only[DataW.weights,hu,List.mem_cons,List.mem_append];exact .inr (.inl (weights_all hd n hn)))⟩
theorem fits {k:IntKind} {a0:Int} (w0:(Lit.int .i64 a0).wf=true):isI a0:=by simpa [isI,Lit.wf,IntKind.min,IntKind.max,IntKind.signed,IntKind.bits] using w0
section
variable {H:Type} {enc:TypeId×Value→H} {w:World} {spare:Nat→Bool} {held:Bool}
theorem int_open {t:TypeId} {fuel:Nat} {cs:List Value} {x:DataW H×List MemPlace} (ht:Try.prog.underlying t=some (.int .i64)) (h:DataW.trod enc Try.prog w 0 spare held fuel t cs=some x):∃ n,cs=[.int .i64 n]∧isI n:=by
 obtain ⟨n,g,_,hw⟩:=DataW.trod_int ht h;exact ⟨n,g,fits (k := .i64) hw⟩
theorem str_open {t:TypeId} {fuel:Nat} {cs:List Value} {x:DataW H×List MemPlace} (ht:Try.prog.underlying t=some .string) (h:DataW.trod enc Try.prog w 0 spare held fuel t cs=some x):∃ s,cs=[.string s]:=by
 obtain ⟨s,g,_⟩:=DataW.trod_string ht h;exact ⟨s,g⟩
theorem isB_wf {l:List Int} (h:∀ n ∈ l,(Lit.int .u8 n).wf=true):IsB l:=fun n hn=>by
 have:=h n hn;simp[Lit.wf,IntKind.min,IntKind.max,IntKind.signed,IntKind.bits] at this;omega
theorem bytes_open {fuel:Nat} {cs:List Value} {x:DataW H×List MemPlace} (h:DataW.trod enc Try.prog w 0 spare held fuel 36 cs=some x) (hf:Fit 36 x.1):
  ∃ (A:Option Addr) (c:Nat) (xs:List Int),cs=[.slice A xs.length c]∧In w A c xs∧xs.length≤140737488351232:=by
 obtain ⟨v,rfl⟩:∃ v,cs=[v]:=by
  rcases DataW.trod_slice Try.underlying36 h with ⟨g,_⟩|⟨a,l,c,_,_,_,_,g,_⟩
  ·exact ⟨_,g⟩
  ·exact ⟨_,g⟩
 rcases open_ints Try.underlying36 Try.underlying5 (by kernel_rfl) h with ⟨hcs,_⟩|⟨a,l,c,zs,hcs,_,hl,hm,hz,hy,hcell,hwz⟩
 ·obtain rfl:v = .slice none 0 0:=by simpa using hcs
  exact ⟨none,0,[],rfl,In_nil _,by simp⟩
 ·obtain rfl:v = .slice (some a) l c:=by simpa using hcs
  have hlz:l≤zs.length:=by rw[hz];split<;>omega
  have hlen:(zs.take l).length=l:=by rw[List.length_take];omega
  refine ⟨some a,c,zs.take l,by rw[hlen],⟨Kd.C_of_reads (d:=(0:Int)) (h1:=fun _=>rfl) ⟨rfl,by simp only[maxLen] at hm;omega,fun _=>⟨a,rfl,fun j hj=>?_⟩⟩,isB_wf (fun n hn=>hwz n (List.mem_of_mem_take hn)),by omega⟩,?_⟩
  ·rw[hcell j (by omega),List.getD_eq_getElem?_getD,List.getD_eq_getElem?_getD,List.getElem?_take,if_pos (by omega)]
  ·rw[hy] at hf;have h1:=(fit_slice Try.underlying36 hf).1;rw[show Try.prog.bytesOf 5=1 by kernel_rfl] at h1;have h2:(lits (H:=H) .u8 (zs.take l)).length=(zs.take l).length:=by simp[lits]
   omega
theorem Epoch_open {fuel:Nat} {cs:List Value} {x:DataW H×List MemPlace} (h:DataW.trod enc Try.prog w 0 spare held fuel 23 cs=some x):∃ p:S25,cs=[.int .i64 p.f0,.int .i64 p.f1]:=by
 obtain ⟨ys,n,_,hx,hcl,hyl,hf⟩:=DataW.trod_struct Try.underlying23 h;have hcl2:cs.length=2:=hcl.trans (by kernel_rfl);have hyl2:ys.length=2:=hyl
 match cs,hcl2 with
 | [c0,c1],_=>
  match ys,hyl2 with
  | [y0,y1],_=>
   have eint:Try.prog.cellsOf 3=1:=by kernel_rfl
   have g0:DataW.trod enc Try.prog w 0 spare held n 3 (List.take (Try.prog.cellsOf 3) (List.drop 0 [c0,c1]))=some y0:=hf 0 _ rfl;rw[eint] at g0;replace g0:DataW.trod enc Try.prog w 0 spare held n 3 [c0]=some y0:=g0;obtain ⟨n0,q0,i0⟩:=int_open Try.underlying3 g0;have g1:DataW.trod enc Try.prog w 0 spare held n 3 (List.take (Try.prog.cellsOf 3) (List.drop 1 [c0,c1]))=some y1:=hf 1 _ rfl;rw[eint] at g1;replace g1:DataW.trod enc Try.prog w 0 spare held n 3 [c1]=some y1:=g1;obtain ⟨n1,q1,i1⟩:=int_open Try.underlying3 g1;simp only[List.cons.injEq,and_true] at q0 q1;exact ⟨⟨n0,n1⟩,by rw[q0,q1]⟩
theorem Rights_open {fuel:Nat} {cs:List Value} {x:DataW H×List MemPlace} (h:DataW.trod enc Try.prog w 0 spare held fuel 25 cs=some x):∃ p:S25,cs=[.int .i64 p.f0,.int .i64 p.f1]:=by
 obtain ⟨ys,n,_,hx,hcl,hyl,hf⟩:=DataW.trod_struct Try.underlying25 h;have hcl2:cs.length=2:=hcl.trans (by kernel_rfl);have hyl2:ys.length=2:=hyl
 match cs,hcl2 with
 | [c0,c1],_=>
  match ys,hyl2 with
  | [y0,y1],_=>
   have eint:Try.prog.cellsOf 3=1:=by kernel_rfl
   have g0:DataW.trod enc Try.prog w 0 spare held n 3 (List.take (Try.prog.cellsOf 3) (List.drop 0 [c0,c1]))=some y0:=hf 0 _ rfl;rw[eint] at g0;replace g0:DataW.trod enc Try.prog w 0 spare held n 3 [c0]=some y0:=g0;obtain ⟨n0,q0,i0⟩:=int_open Try.underlying3 g0;have g1:DataW.trod enc Try.prog w 0 spare held n 3 (List.take (Try.prog.cellsOf 3) (List.drop 1 [c0,c1]))=some y1:=hf 1 _ rfl;rw[eint] at g1;replace g1:DataW.trod enc Try.prog w 0 spare held n 3 [c1]=some y1:=g1;obtain ⟨n1,q1,i1⟩:=int_open Try.underlying3 g1;simp only[List.cons.injEq,and_true] at q0 q1;exact ⟨⟨n0,n1⟩,by rw[q0,q1]⟩
theorem Call_open {fuel:Nat} {cs:List Value} {x:DataW H×List MemPlace} (h:DataW.trod enc Try.prog w 0 spare held fuel 27 cs=some x):∃ p:S25,cs=[.int .i64 p.f0,.int .i64 p.f1]:=by
 obtain ⟨ys,n,_,hx,hcl,hyl,hf⟩:=DataW.trod_struct Try.underlying27 h;have hcl2:cs.length=2:=hcl.trans (by kernel_rfl);have hyl2:ys.length=2:=hyl
 match cs,hcl2 with
 | [c0,c1],_=>
  match ys,hyl2 with
  | [y0,y1],_=>
   have eint:Try.prog.cellsOf 3=1:=by kernel_rfl
   have g0:DataW.trod enc Try.prog w 0 spare held n 3 (List.take (Try.prog.cellsOf 3) (List.drop 0 [c0,c1]))=some y0:=hf 0 _ rfl;rw[eint] at g0;replace g0:DataW.trod enc Try.prog w 0 spare held n 3 [c0]=some y0:=g0;obtain ⟨n0,q0,i0⟩:=int_open Try.underlying3 g0;have g1:DataW.trod enc Try.prog w 0 spare held n 3 (List.take (Try.prog.cellsOf 3) (List.drop 1 [c0,c1]))=some y1:=hf 1 _ rfl;rw[eint] at g1;replace g1:DataW.trod enc Try.prog w 0 spare held n 3 [c1]=some y1:=g1;obtain ⟨n1,q1,i1⟩:=int_open Try.underlying3 g1;simp only[List.cons.injEq,and_true] at q0 q1;exact ⟨⟨n0,n1⟩,by rw[q0,q1]⟩
theorem Op_open {fuel:Nat} {cs:List Value} {x:DataW H×List MemPlace} (h:DataW.trod enc Try.prog w 0 spare held fuel 29 cs=some x):∃ o:Sp.Op,cs=[.int .i64 o.kind,.string o.name,.int .i64 o.a,.int .i64 o.b]∧isI o.kind∧isI o.a∧isI o.b:=by
 obtain ⟨ys,n,_,hx,hcl,hyl,hf⟩:=DataW.trod_struct Try.underlying29 h;have hcl2:cs.length=4:=hcl.trans (by kernel_rfl);have hyl2:ys.length=4:=hyl
 match cs,hcl2 with
 | [c0,c1,c2,c3],_=>
  match ys,hyl2 with
  | [y0,y1,y2,y3],_=>
   have eint:Try.prog.cellsOf 3=1:=by kernel_rfl
   have estr:Try.prog.cellsOf 9=1:=by kernel_rfl
   have g0:DataW.trod enc Try.prog w 0 spare held n 3 (List.take (Try.prog.cellsOf 3) (List.drop 0 [c0,c1,c2,c3]))=some y0:=hf 0 _ rfl;rw[eint] at g0;replace g0:DataW.trod enc Try.prog w 0 spare held n 3 [c0]=some y0:=g0;obtain ⟨n0,q0,i0⟩:=int_open Try.underlying3 g0;have g1:DataW.trod enc Try.prog w 0 spare held n 9 (List.take (Try.prog.cellsOf 9) (List.drop 1 [c0,c1,c2,c3]))=some y1:=hf 1 _ rfl;rw[estr] at g1;replace g1:DataW.trod enc Try.prog w 0 spare held n 9 [c1]=some y1:=g1;obtain ⟨n1,q1⟩:=str_open Try.underlying9 g1;have g2:DataW.trod enc Try.prog w 0 spare held n 3 (List.take (Try.prog.cellsOf 3) (List.drop 2 [c0,c1,c2,c3]))=some y2:=hf 2 _ rfl;rw[eint] at g2;replace g2:DataW.trod enc Try.prog w 0 spare held n 3 [c2]=some y2:=g2;obtain ⟨n2,q2,i2⟩:=int_open Try.underlying3 g2;have g3:DataW.trod enc Try.prog w 0 spare held n 3 (List.take (Try.prog.cellsOf 3) (List.drop 3 [c0,c1,c2,c3]))=some y3:=hf 3 _ rfl;rw[eint] at g3;replace g3:DataW.trod enc Try.prog w 0 spare held n 3 [c3]=some y3:=g3;obtain ⟨n3,q3,i3⟩:=int_open Try.underlying3 g3;simp only[List.cons.injEq,and_true] at q0 q1 q2 q3;exact ⟨⟨n0,n1,n2,n3⟩,by rw[q0,q1,q2,q3],i0,i2,i3⟩
theorem Rep_open {fuel:Nat} {cs:List Value} {x:DataW H×List MemPlace} (h:DataW.trod enc Try.prog w 0 spare held fuel 50 cs=some x):∃ r:Rep,cs=(RVc r).toList∧isI r.err∧isI r.value:=by
 obtain ⟨ys,n,_,hx,hcl,hyl,hf⟩:=DataW.trod_struct Try.underlying50 h;have hcl2:cs.length=4:=hcl.trans (by kernel_rfl);have hyl2:ys.length=3:=hyl
 match cs,hcl2 with
 | [c0,c1,c2,c3],_=>
  match ys,hyl2 with
  | [y0,y1,y2],_=>
   have eCall:Try.prog.cellsOf 27=2:=by kernel_rfl
   have eerr:Try.prog.cellsOf 30=1:=by kernel_rfl
   have eint:Try.prog.cellsOf 3=1:=by kernel_rfl
   have g0:DataW.trod enc Try.prog w 0 spare held n 27 (List.take (Try.prog.cellsOf 27) (List.drop 0 [c0,c1,c2,c3]))=some y0:=hf 0 _ rfl;rw[eCall] at g0;replace g0:DataW.trod enc Try.prog w 0 spare held n 27 [c0,c1]=some y0:=g0;obtain ⟨n0,q0⟩:=Call_open g0;have g1:DataW.trod enc Try.prog w 0 spare held n 30 (List.take (Try.prog.cellsOf 30) (List.drop 2 [c0,c1,c2,c3]))=some y1:=hf 1 _ rfl;rw[eerr] at g1;replace g1:DataW.trod enc Try.prog w 0 spare held n 30 [c2]=some y1:=g1;obtain ⟨n1,q1,i1⟩:=int_open Try.underlying30 g1;have g2:DataW.trod enc Try.prog w 0 spare held n 3 (List.take (Try.prog.cellsOf 3) (List.drop 3 [c0,c1,c2,c3]))=some y2:=hf 2 _ rfl;rw[eint] at g2;replace g2:DataW.trod enc Try.prog w 0 spare held n 3 [c3]=some y2:=g2;obtain ⟨n2,q2,i2⟩:=int_open Try.underlying3 g2;simp only[List.cons.injEq,and_true] at q0 q1 q2;exact ⟨⟨n0,n1,n2⟩,by rw[q0.1,q0.2,q1,q2];rfl,i1,i2⟩
theorem View_open {fuel:Nat} {cs:List Value} {x:DataW H×List MemPlace} (h:DataW.trod enc Try.prog w 0 spare held fuel 87 cs=some x):∃ v:S87,cs=vcells v∧isI v.f5:=by
 obtain ⟨ys,n,_,hx,hcl,hyl,hf⟩:=DataW.trod_struct Try.underlying87 h;have hcl2:cs.length=7:=hcl.trans (by kernel_rfl);have hyl2:ys.length=6:=hyl
 match cs,hcl2 with
 | [c0,c1,c2,c3,c4,c5,c6],_=>
  match ys,hyl2 with
  | [y0,y1,y2,y3,y4,y5],_=>
   have estr:Try.prog.cellsOf 9=1:=by kernel_rfl
   have eint:Try.prog.cellsOf 3=1:=by kernel_rfl
   have eRights:Try.prog.cellsOf 25=2:=by kernel_rfl
   have g0:DataW.trod enc Try.prog w 0 spare held n 9 (List.take (Try.prog.cellsOf 9) (List.drop 0 [c0,c1,c2,c3,c4,c5,c6]))=some y0:=hf 0 _ rfl;rw[estr] at g0;replace g0:DataW.trod enc Try.prog w 0 spare held n 9 [c0]=some y0:=g0;obtain ⟨n0,q0⟩:=str_open Try.underlying9 g0;have g1:DataW.trod enc Try.prog w 0 spare held n 3 (List.take (Try.prog.cellsOf 3) (List.drop 1 [c0,c1,c2,c3,c4,c5,c6]))=some y1:=hf 1 _ rfl;rw[eint] at g1;replace g1:DataW.trod enc Try.prog w 0 spare held n 3 [c1]=some y1:=g1;obtain ⟨n1,q1,i1⟩:=int_open Try.underlying3 g1;have g2:DataW.trod enc Try.prog w 0 spare held n 3 (List.take (Try.prog.cellsOf 3) (List.drop 2 [c0,c1,c2,c3,c4,c5,c6]))=some y2:=hf 2 _ rfl;rw[eint] at g2;replace g2:DataW.trod enc Try.prog w 0 spare held n 3 [c2]=some y2:=g2;obtain ⟨n2,q2,i2⟩:=int_open Try.underlying3 g2;have g3:DataW.trod enc Try.prog w 0 spare held n 3 (List.take (Try.prog.cellsOf 3) (List.drop 3 [c0,c1,c2,c3,c4,c5,c6]))=some y3:=hf 3 _ rfl;rw[eint] at g3;replace g3:DataW.trod enc Try.prog w 0 spare held n 3 [c3]=some y3:=g3;obtain ⟨n3,q3,i3⟩:=int_open Try.underlying3 g3;have g4:DataW.trod enc Try.prog w 0 spare held n 25 (List.take (Try.prog.cellsOf 25) (List.drop 4 [c0,c1,c2,c3,c4,c5,c6]))=some y4:=hf 4 _ rfl;rw[eRights] at g4;replace g4:DataW.trod enc Try.prog w 0 spare held n 25 [c4,c5]=some y4:=g4;obtain ⟨n4,q4⟩:=Rights_open g4;have g5:DataW.trod enc Try.prog w 0 spare held n 3 (List.take (Try.prog.cellsOf 3) (List.drop 6 [c0,c1,c2,c3,c4,c5,c6]))=some y5:=hf 5 _ rfl;rw[eint] at g5;replace g5:DataW.trod enc Try.prog w 0 spare held n 3 [c6]=some y5:=g5;obtain ⟨n5,q5,i5⟩:=int_open Try.underlying3 g5;simp only[List.cons.injEq,and_true] at q0 q1 q2 q3 q4 q5;exact ⟨⟨n0,n1,n2,n3,n4,n5⟩,by rw[q0,q1,q2,q3,q4.1,q4.2,q5];rfl,i5⟩
def VIn (w:World) (A:Option Addr) (c:Nat) (xs:List S87):Prop:=Kd.C k87 w A xs.length xs∧xs.length≤c∧xs.length * 64≤140737488351232∧∀ v ∈ xs,isI v.f5
theorem views_open {fuel:Nat} {cs:List Value} {x:DataW H×List MemPlace} (h:DataW.trod enc Try.prog w 0 spare held fuel 31 cs=some x) (hfit:Fit 31 x.1):
  ∃ (A:Option Addr) (c:Nat) (xs:List S87),cs=[.slice A xs.length c]∧VIn w A c xs:=by
 rcases Go.Deep.open_slice Try.underlying31 h with ⟨hcs,_⟩|⟨ad,l,c,m,n,D,Pl,hcs,_,hl,hm,hmm,hx,hi⟩
 ·exact ⟨none,0,[],hcs,views_nil _ _,Nat.le_refl _,by simp,fun v hv=>by cases hv⟩
 ·have hlm:l≤m:=by rw[hmm];split<;>omega
  have e7:Try.prog.cellsOf 87=7:=by kernel_rfl
  have hone : ∀ i : Nat, i < l → ∃ v : S87, w.cells? 0 (ad.add (i * 7)) 7 = some (vcells v) ∧ isI v.f5 := fun i hlt => by
    obtain ⟨cs',hc,ht⟩:=hi i (by omega);rw[e7] at hc;obtain ⟨v,rfl,hv⟩:=View_open ht;exact ⟨v,hc,hv⟩
  have hlen:((List.range l).attach.map fun i=>(hone i.1 (List.mem_range.1 i.2)).choose).length=l:=by simp
  refine ⟨some ad,c,(List.range l).attach.map fun i=>(hone i.1 (List.mem_range.1 i.2)).choose,by rw[hlen];exact hcs,⟨rfl,by rw[hlen];simp only[maxLen] at hm;omega,fun _=>⟨ad,rfl,fun j p hj=>?_⟩⟩,by rw[hlen];exact hl,?_,?_⟩
  ·have hjl:j<l:=by have:=(List.getElem?_eq_some_iff.1 hj).1;simpa using this
   simp only[List.getElem?_map,List.getElem?_attach,List.getElem?_range hjl,Option.pmap_some,Option.map_some,Option.some.injEq] at hj;obtain ⟨hc,_⟩:=(hone j hjl).choose_spec;rw[hj] at hc;refine ⟨vcells p,rfl,k87_mk w p,fun i u hu=>?_⟩;obtain ⟨_,_,hat⟩:=World.cells?_some hc;have hi7:i<7:=by have:=(List.getElem?_eq_some_iff.1 hu).1;simpa [vcells] using this
   rw[show ad.add (j * k87.sz+i)=(ad.add (j * 7)).add i from by rw[Go.Proofs.YtpgdmmjbhjbbhaaW.PrintWords.add_add];rfl];exact (hat i hi7).trans hu
  ·rw[hlen];rw[hx] at hfit;have h1:=(fit_slice Try.underlying31 hfit).1;rw[show Try.prog.bytesOf 87=64 by kernel_rfl] at h1;simp only[List.length_map,List.length_range] at h1;omega
  ·intro v hv;obtain ⟨i,_,rfl⟩:=List.mem_map.1 hv;exact (hone i.1 (List.mem_range.1 i.2)).choose_spec.2
theorem Msg_open {fuel:Nat} {cs:List Value} {x:DataW H×List MemPlace} (h:DataW.trod enc Try.prog w 0 spare held fuel 33 cs=some x) (hfit:Fit 33 x.1):∃ (m:Msg) (A:Option Addr) (c:Nat),cs=(MVc m A c).toList∧(isI m.op.a∧isI m.op.b)∧isI m.kind∧isI m.err∧VIn w A c m.views:=by
 obtain ⟨ys,n,_,hx,hcl,hyl,hf⟩:=DataW.trod_struct Try.underlying33 h;have hcl2:cs.length=20:=hcl.trans (by kernel_rfl);have hyl2:ys.length=13:=hyl
 match cs,hcl2 with
 | [c0,c1,c2,c3,c4,c5,c6,c7,c8,c9,c10,c11,c12,c13,c14,c15,c16,c17,c18,c19],_=>
  match ys,hyl2 with
  | [y0,y1,y2,y3,y4,y5,y6,y7,y8,y9,y10,y11,y12],_=>
   have eint:Try.prog.cellsOf 3=1:=by kernel_rfl
   have estr:Try.prog.cellsOf 9=1:=by kernel_rfl
   have eEpoch:Try.prog.cellsOf 23=2:=by kernel_rfl
   have eRights:Try.prog.cellsOf 25=2:=by kernel_rfl
   have eCall:Try.prog.cellsOf 27=2:=by kernel_rfl
   have eOp:Try.prog.cellsOf 29=4:=by kernel_rfl
   have eerr:Try.prog.cellsOf 30=1:=by kernel_rfl
   have eviews:Try.prog.cellsOf 31=1:=by kernel_rfl
   have g0:DataW.trod enc Try.prog w 0 spare held n 3 (List.take (Try.prog.cellsOf 3) (List.drop 0 [c0,c1,c2,c3,c4,c5,c6,c7,c8,c9,c10,c11,c12,c13,c14,c15,c16,c17,c18,c19]))=some y0:=hf 0 _ rfl;rw[eint] at g0;replace g0:DataW.trod enc Try.prog w 0 spare held n 3 [c0]=some y0:=g0;obtain ⟨n0,q0,i0⟩:=int_open Try.underlying3 g0;have g1:DataW.trod enc Try.prog w 0 spare held n 9 (List.take (Try.prog.cellsOf 9) (List.drop 1 [c0,c1,c2,c3,c4,c5,c6,c7,c8,c9,c10,c11,c12,c13,c14,c15,c16,c17,c18,c19]))=some y1:=hf 1 _ rfl;rw[estr] at g1;replace g1:DataW.trod enc Try.prog w 0 spare held n 9 [c1]=some y1:=g1;obtain ⟨n1,q1⟩:=str_open Try.underlying9 g1;have g2:DataW.trod enc Try.prog w 0 spare held n 3 (List.take (Try.prog.cellsOf 3) (List.drop 2 [c0,c1,c2,c3,c4,c5,c6,c7,c8,c9,c10,c11,c12,c13,c14,c15,c16,c17,c18,c19]))=some y2:=hf 2 _ rfl;rw[eint] at g2;replace g2:DataW.trod enc Try.prog w 0 spare held n 3 [c2]=some y2:=g2;obtain ⟨n2,q2,i2⟩:=int_open Try.underlying3 g2;have g3:DataW.trod enc Try.prog w 0 spare held n 3 (List.take (Try.prog.cellsOf 3) (List.drop 3 [c0,c1,c2,c3,c4,c5,c6,c7,c8,c9,c10,c11,c12,c13,c14,c15,c16,c17,c18,c19]))=some y3:=hf 3 _ rfl;rw[eint] at g3;replace g3:DataW.trod enc Try.prog w 0 spare held n 3 [c3]=some y3:=g3;obtain ⟨n3,q3,i3⟩:=int_open Try.underlying3 g3;have g4:DataW.trod enc Try.prog w 0 spare held n 23 (List.take (Try.prog.cellsOf 23) (List.drop 4 [c0,c1,c2,c3,c4,c5,c6,c7,c8,c9,c10,c11,c12,c13,c14,c15,c16,c17,c18,c19]))=some y4:=hf 4 _ rfl;rw[eEpoch] at g4;replace g4:DataW.trod enc Try.prog w 0 spare held n 23 [c4,c5]=some y4:=g4;obtain ⟨n4,q4⟩:=Epoch_open g4;have g5:DataW.trod enc Try.prog w 0 spare held n 23 (List.take (Try.prog.cellsOf 23) (List.drop 6 [c0,c1,c2,c3,c4,c5,c6,c7,c8,c9,c10,c11,c12,c13,c14,c15,c16,c17,c18,c19]))=some y5:=hf 5 _ rfl;rw[eEpoch] at g5;replace g5:DataW.trod enc Try.prog w 0 spare held n 23 [c6,c7]=some y5:=g5;obtain ⟨n5,q5⟩:=Epoch_open g5;have g6:DataW.trod enc Try.prog w 0 spare held n 25 (List.take (Try.prog.cellsOf 25) (List.drop 8 [c0,c1,c2,c3,c4,c5,c6,c7,c8,c9,c10,c11,c12,c13,c14,c15,c16,c17,c18,c19]))=some y6:=hf 6 _ rfl;rw[eRights] at g6;replace g6:DataW.trod enc Try.prog w 0 spare held n 25 [c8,c9]=some y6:=g6;obtain ⟨n6,q6⟩:=Rights_open g6;have g7:DataW.trod enc Try.prog w 0 spare held n 3 (List.take (Try.prog.cellsOf 3) (List.drop 10 [c0,c1,c2,c3,c4,c5,c6,c7,c8,c9,c10,c11,c12,c13,c14,c15,c16,c17,c18,c19]))=some y7:=hf 7 _ rfl;rw[eint] at g7;replace g7:DataW.trod enc Try.prog w 0 spare held n 3 [c10]=some y7:=g7;obtain ⟨n7,q7,i7⟩:=int_open Try.underlying3 g7;have g8:DataW.trod enc Try.prog w 0 spare held n 27 (List.take (Try.prog.cellsOf 27) (List.drop 11 [c0,c1,c2,c3,c4,c5,c6,c7,c8,c9,c10,c11,c12,c13,c14,c15,c16,c17,c18,c19]))=some y8:=hf 8 _ rfl;rw[eCall] at g8;replace g8:DataW.trod enc Try.prog w 0 spare held n 27 [c11,c12]=some y8:=g8;obtain ⟨n8,q8⟩:=Call_open g8;have g9:DataW.trod enc Try.prog w 0 spare held n 29 (List.take (Try.prog.cellsOf 29) (List.drop 13 [c0,c1,c2,c3,c4,c5,c6,c7,c8,c9,c10,c11,c12,c13,c14,c15,c16,c17,c18,c19]))=some y9:=hf 9 _ rfl;rw[eOp] at g9;replace g9:DataW.trod enc Try.prog w 0 spare held n 29 [c13,c14,c15,c16]=some y9:=g9;obtain ⟨n9,q9,i9⟩:=Op_open g9;have g10:DataW.trod enc Try.prog w 0 spare held n 30 (List.take (Try.prog.cellsOf 30) (List.drop 17 [c0,c1,c2,c3,c4,c5,c6,c7,c8,c9,c10,c11,c12,c13,c14,c15,c16,c17,c18,c19]))=some y10:=hf 10 _ rfl;rw[eerr] at g10;replace g10:DataW.trod enc Try.prog w 0 spare held n 30 [c17]=some y10:=g10;obtain ⟨n10,q10,i10⟩:=int_open Try.underlying30 g10;have g11:DataW.trod enc Try.prog w 0 spare held n 3 (List.take (Try.prog.cellsOf 3) (List.drop 18 [c0,c1,c2,c3,c4,c5,c6,c7,c8,c9,c10,c11,c12,c13,c14,c15,c16,c17,c18,c19]))=some y11:=hf 11 _ rfl;rw[eint] at g11;replace g11:DataW.trod enc Try.prog w 0 spare held n 3 [c18]=some y11:=g11;obtain ⟨n11,q11,i11⟩:=int_open Try.underlying3 g11;have g12:DataW.trod enc Try.prog w 0 spare held n 31 (List.take (Try.prog.cellsOf 31) (List.drop 19 [c0,c1,c2,c3,c4,c5,c6,c7,c8,c9,c10,c11,c12,c13,c14,c15,c16,c17,c18,c19]))=some y12:=hf 12 _ rfl;rw[eviews] at g12;replace g12:DataW.trod enc Try.prog w 0 spare held n 31 [c19]=some y12:=g12;have k12:Fit 31 y12.1:=fit_field Try.underlying33 (by rw[hx] at hfit;exact hfit) 12 rfl rfl;obtain ⟨A12,C12,n12,q12,i12⟩:=views_open g12 k12;simp only[List.cons.injEq,and_true] at q0 q1 q2 q3 q4 q5 q6 q7 q8 q9 q10 q11 q12;exact ⟨⟨n0,n1,n2,n3,n4,n5,n6,n7,n8,n9,n10,n11,n12⟩,A12,C12,by rw[q0,q1,q2,q3,q4.1,q4.2,q5.1,q5.2,q6.1,q6.2,q7,q8.1,q8.2,q9.1,q9.2.1,q9.2.2.1,q9.2.2.2,q10,q11,q12];rfl,⟨i9.2.1,i9.2.2⟩,i0,i10,i12⟩
theorem Seg_open {fuel:Nat} {cs:List Value} {x:DataW H×List MemPlace} (h:DataW.trod enc Try.prog w 0 spare held fuel 47 cs=some x) (hfit:Fit 47 x.1):∃ (s:Seg) (A:Option Addr) (c:Nat),cs=(SVc s A c).toList∧In w A c s.data∧s.data.length≤140737488351232:=by
 obtain ⟨ys,n,_,hx,hcl,hyl,hf⟩:=DataW.trod_struct Try.underlying47 h;have hcl2:cs.length=5:=hcl.trans (by kernel_rfl);have hyl2:ys.length=5:=hyl
 match cs,hcl2 with
 | [c0,c1,c2,c3,c4],_=>
  match ys,hyl2 with
  | [y0,y1,y2,y3,y4],_=>
   have eint:Try.prog.cellsOf 3=1:=by kernel_rfl
   have ebytes:Try.prog.cellsOf 36=1:=by kernel_rfl
   have g0:DataW.trod enc Try.prog w 0 spare held n 3 (List.take (Try.prog.cellsOf 3) (List.drop 0 [c0,c1,c2,c3,c4]))=some y0:=hf 0 _ rfl;rw[eint] at g0;replace g0:DataW.trod enc Try.prog w 0 spare held n 3 [c0]=some y0:=g0;obtain ⟨n0,q0,i0⟩:=int_open Try.underlying3 g0;have g1:DataW.trod enc Try.prog w 0 spare held n 3 (List.take (Try.prog.cellsOf 3) (List.drop 1 [c0,c1,c2,c3,c4]))=some y1:=hf 1 _ rfl;rw[eint] at g1;replace g1:DataW.trod enc Try.prog w 0 spare held n 3 [c1]=some y1:=g1;obtain ⟨n1,q1,i1⟩:=int_open Try.underlying3 g1;have g2:DataW.trod enc Try.prog w 0 spare held n 3 (List.take (Try.prog.cellsOf 3) (List.drop 2 [c0,c1,c2,c3,c4]))=some y2:=hf 2 _ rfl;rw[eint] at g2;replace g2:DataW.trod enc Try.prog w 0 spare held n 3 [c2]=some y2:=g2;obtain ⟨n2,q2,i2⟩:=int_open Try.underlying3 g2;have g3:DataW.trod enc Try.prog w 0 spare held n 3 (List.take (Try.prog.cellsOf 3) (List.drop 3 [c0,c1,c2,c3,c4]))=some y3:=hf 3 _ rfl;rw[eint] at g3;replace g3:DataW.trod enc Try.prog w 0 spare held n 3 [c3]=some y3:=g3;obtain ⟨n3,q3,i3⟩:=int_open Try.underlying3 g3;have g4:DataW.trod enc Try.prog w 0 spare held n 36 (List.take (Try.prog.cellsOf 36) (List.drop 4 [c0,c1,c2,c3,c4]))=some y4:=hf 4 _ rfl;rw[ebytes] at g4;replace g4:DataW.trod enc Try.prog w 0 spare held n 36 [c4]=some y4:=g4;have k4:Fit 36 y4.1:=fit_field Try.underlying47 (by rw[hx] at hfit;exact hfit) 4 rfl rfl;obtain ⟨A4,C4,n4,q4,i4⟩:=bytes_open g4 k4;simp only[List.cons.injEq,and_true] at q0 q1 q2 q3 q4;exact ⟨⟨n0,n1,n2,n3,n4⟩,A4,C4,by rw[q0,q1,q2,q3,q4];rfl,i4⟩
end
end Go.Proofs.Ytpgdmmjbhjbbhaa.Ow
end
section
namespace Go.Proofs.Ytpgdmmjbhjbbhaa.Gw
open Go Go.RowKit YtpgdmmjbhjbbhaaW.PrintWords
structure Grew (W w':World) (e:TypeId) (sz:Nat) (v:Value) (n:Nat) (xs ys:List Value) (v':Value):Prop where
 own:w'.ownsRow 0 e sz v' (n+1) (xs++ys)
 grow:W.grownBy w' v.ownBlock
 lies:(∃ g cap,v = .slice (some ⟨g,0,none⟩) n cap∧v' = .slice (some ⟨g,0,none⟩) (n+1) cap)∨(∃ cap,v' = .slice (some ⟨W.heap.size,0,none⟩) (n+1) cap∧W.grownBy w' none)
section
variable {P:Program}
theorem run_grew (w:World) (t ty e:TypeId) (i:TypeInfo) (z:Value) (size bytes:Nat) (ht:P.underlying t=some (.slice e)) (hi:P.info? e=some i) (hz:i.zero=some z)
  (hsize:i.size=size) (hby:i.bytes=bytes) (hzs:z.cells.size=size) (hsz:0<size) (v:Value) (n:Nat) (xs:List Value) (hown:w.ownsRow 0 e size v n xs)
  (a:Addr) (c:Nat) (news:List Value) (hl:news.length=1 * size) (hnews:∀ j u,news[j]?=some u→w.cell? (a.add j)=some u) (h1:∀ u ∈ news,u.oneCell'=true)
  (hb0:0<bytes) (hbytes:(n+1) * bytes≤140737488355328):
  ∃ v' w',(Builtin.append_ #[t,t] ty #[v,.slice (some a) 1 c]).run P w = .ok v' w'∧Grew w w' e size v n xs news v':=by
 have hle:n+1≤140737488355328:=Nat.le_trans (Nat.le_mul_of_pos_right _ hb0) hbytes;have hmax:n+1≤maxLen:=by simp only[maxLen];omega
 obtain ⟨v',w',hr,h2,h3,_,h5⟩:=run_append_own_at (P:=P) w 0 t ty e i z size bytes ht hi hz hsize hby hzs hsz v n xs hown a 1 c news hl hnews h1 hmax hbytes (Nat.zero_le _);refine ⟨v',w',hr,h2,h3,?_⟩;rcases hown.2 with ⟨rfl,rfl⟩|⟨g,cap,cur,rfl,hbg,hg,hnc,hcm,hcs,htake⟩
 ·right
  obtain ⟨g,cap,rfl,_,_⟩:=h2.form (by omega);rcases h5 with h5|h5
  ·simp[Value.ownBlock] at h5
  ·have:g=w.heap.size:=by simpa [Value.ownBlock] using h5
   subst this;exact ⟨cap,rfl,h3⟩
 ·by_cases hroom:n+1≤cap
  ·left
   have hfit:n * i.size+news.length≤cur.size:=by rw[hsize,hl,hcs,←Nat.add_mul];exact Nat.mul_le_mul_right _ hroom
   have hr2:=run_append_room (P:=P) w t ty e i ht hi g n cap cur hg a 1 c news (by rw[hsize];exact hl) hnews h1 hroom hfit;rw[hr] at hr2
   injection hr2 with ha hb
   exact ⟨g,cap,rfl,ha⟩
  ·right
   have holds:∀ j u,xs[j]?=some u→w.cell? ((⟨g,0,none⟩:Addr).add j)=some u:=hown.cells (g:=g) rfl;have hr2:=run_append_grow (P:=P) w t ty e i z ht hi hz ⟨g,0,none⟩ n cap xs (by rw[hsize];exact hown.1) holds a 1 c news (by rw[hsize];exact hl) hnews (by omega) (by omega) (growslice_fits (by omega) (by rw[hby];exact hbytes));rw[hr] at hr2
   injection hr2 with ha hb
   subst hb;exact ⟨_,ha,⟨rfl,rfl,rfl,by simp,fun k hk _=>heap_alloc_old w.drew _ hk⟩⟩
theorem wpList_grew (w:World) {ops:Array Oper} {rest:List Oper} {o:Oper} {a:Act} {Q:Exit→Act→World→Prop} (hgd:o.guard=none) (s x:Operand) (t:TypeId)
  (ho:o.op = .call { callee := .builtin .append,args := #[s,x],argTypes := #[t,t] })
  (e:TypeId) (z:Value) (size bytes:Nat) (ht:P.underlying t=some (.slice e)) (hinfo:(P.info? e).map (fun i=>(i.zero,i.size,i.bytes))=some (some z,size,bytes))
  (hzs:z.cells.size=size) (hsz:0<size) (hb0:0<bytes) (v:Value) (n:Nat) (xs:List Value) (hs:a.eval s=v) (hown:w.ownsRow 0 e size v n xs)
  (B c:Nat) (news:Array Value) (hx:a.eval x = .slice (some ⟨B,0,none⟩) 1 c) (hB:w.heap[B]?=some (.cells news e (0,0))) (hl:news.size=1 * size) (h1:∀ u ∈ news.toList,u.oneCell'=true)
  (hbytes:(n+1) * bytes≤140737488355328)
  (h:∀ v' w',Grew w w' e size v n xs news.toList v'→wpList P ops Q rest (a.put o.dst v') w'):wpList P ops Q (o::rest) a w:=by
 obtain ⟨i,hi,hzz⟩:=Option.map_eq_some_iff.1 hinfo;simp only[Prod.mk.injEq] at hzz;obtain ⟨hz0,hz1,hz2⟩:=hzz;refine wpList_plain hgd fun K hK=>?_;obtain ⟨v',w',hr,hgr⟩:=run_grew (P:=P) w t o.type e i z size bytes ht hi hz0 hz1 hz2 hzs hsz v n xs hown ⟨B,0,none⟩ c news.toList (by simpa using hl) (World.news_of_block hB) h1 hb0 hbytes;unfold Oper.wp execOp;simp only[ho,resolve,invoke,builtin,Sem.run_bind,Sem.run_pure,Result.andThen_ok,List.map_toArray,List.map_cons,List.map_nil,hs,hx,hr];exact hK _ _ (h v' w' hgr)
end
end Go.Proofs.Ytpgdmmjbhjbbhaa.Gw
end
