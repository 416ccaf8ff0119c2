/- texts that the proof needs, laid together by a program of this session. -/
import Derived.Recover
import Derived.Laws.Pointers
import Derived.Test.YtpgdmmjbhjbbhaaKWireAll8
set_option maxRecDepth 100000
set_option maxHeartbeats 16000000
set_option linter.unusedVariables false
set_option linter.unusedSimpArgs false
section
namespace Go.Proofs.Ytpgdmmjbhjbbhaa.Rd
open Go Go.RowKit P Sp Vd En Wr YtpgdmmjbhjbbhaaW.PrintWords YtpgdmmjbhjbbhaaW.PrintLast YtpgdmmjbhjbbhaaW.PrintMore
theorem mz_cells:MVc zMsg none 0 = #[.int .i64 0,.string ⟨#[]⟩,.int .i64 0,.int .i64 0,.int .i64 0,.int .i64 0,.int .i64 0,.int .i64 0,.int .i64 0,.int .i64 0,.int .i64 0,.int .i64 0,.int .i64 0,.int .i64 0,.string ⟨#[]⟩,.int .i64 0,.int .i64 0,.int .i64 0,.int .i64 0,.slice none 0 0]:=rfl
theorem mv_all (m:Msg) (A:Option Addr) (c:Nat):(MVc m A c).all (·.oneCell')=true:=by simp[MVc,Value.oneCell']
theorem opt_y {α β:Type} {c:Prop} [Decidable c] {z:α} {p:Rdr α} {f:α→Rdr β} (h:c):bnd (optP c z p) f=bnd p f:=by unfold optP;rw[if_pos h]
theorem opt_n {α β:Type} {c:Prop} [Decidable c] {z:α} {p:Rdr α} {f:α→Rdr β} (h:¬c):bnd (optP c z p) f=f z:=by unfold optP;rw[if_neg h];rfl
structure NX (w0 w W:World) (g gb:Nat) (A:Option Addr) (c:Nat) (b l:List Int) (cs:Array Value):Prop where
 kb:Kb g w W
 rs:RS w0 W g A c b l
 res:W.heap[w.heap.size]?=some (.cells (MVc zMsg none 0) 33 (0,0))
 box:W.heap[gb]?=some (.cells cs 33 (0,0))
section
variable {w0 w W W1:World} {g gb:Nat} {A:Option Addr} {c:Nat} {b l l1:List Int} {cs cs2:Array Value}
def NP (w0 w:World) (g gb:Nat):Prop:=g<w.heap.size∧w.heap.size<gb∧w0.heap.size≤w.heap.size
theorem NX.call (h:NX w0 w W g gb A c b l cs) (hp:NP w0 w g gb) (k:Kb g W W1) (hs:RS w0 W1 g A c b l1):NX w0 w W1 g gb A c b l1 cs:=
 ⟨h.kb.trans k,hs,kb_blk k (by have:=hp.1;omega) h.res,kb_blk k (by have:=hp.1;have:=hp.2.1;omega) h.box⟩
theorem NX.set (h:NX w0 w W g gb A c b l cs) (hp:NP w0 w g gb) (j:Nat) (u:Value) (hc:cs.setIfInBounds j u=cs2):NX w0 w (W.setCell ⟨gb,j,none⟩ u) g gb A c b l cs2:=
 ⟨h.kb.setNew (Nat.le_of_lt hp.2.1) j u,h.rs.setOther (by have:=hp;unfold NP at this;omega) (by have:=hp;unfold NP at this;omega) j u,blk_far h.res (by have:=hp.2.1;omega) j u,by subst hc;simpa using blk_set h.box j u⟩
theorem NX.end_ (h:NX w0 w W g gb A c b l1 cs) (hp:NP w0 w g gb) (m:Msg) (hm:m.views=[]) (hq:msgP l = .ok m l1):LeftM w0 w g A c b (msgP l) (.returned (.agg (MVc m none 0))) (W.setRow w.heap.size (MVc m none 0)):=by
 have hr:=h.rs.setRowOther (rb:=w.heap.size) (by have:=hp.1;omega) hp.2.2 (MVc m none 0);refine ⟨h.kb.setRowNew (Nat.le_refl _) _,hr.bel,?_⟩;rw[hq];exact ⟨⟨none,0,rfl,.inl ⟨rfl,rfl,hm⟩⟩,hr⟩
theorem bad_end {n:Nat} (hk:Kb g w W) (hb:Below w0.heap.size w0 W) (hq:msgP l = .bad n):LeftM w0 w g A c b (msgP l) (pan ((b.length:Int) - n)) W:=by
 refine ⟨hk,hb,?_⟩;rw[hq]
end
theorem msg_calls (w0 w : World) (g : Nat) (A : Option Addr) (c : Nat) (b l : List Int) (hi_ : In w0 A c b) (h : RS w0 w g A c b l) :
    Calls Try.prog 61 #[.pointer (some ⟨g,0,none⟩)] w fun e w'=>LeftM w0 w g A c b (msgP l) e w':=by
  have HI:=Aside0.mk hi_;obtain ⟨wa,hwa⟩:∃ wa,wa=w.alloc (.cells (MVc zMsg none 0) 33 (0,0)):=⟨_,rfl⟩;have HWA:=Aside0.mk hwa;rw[mz_cells] at HWA;have H0:Aside0 (Kb g w wa∧RS w0 wa g A c b l∧wa.heap[w.heap.size]?=some (.cells (MVc zMsg none 0) 33 (0,0))∧wa.heap.size=w.heap.size+1∧g<w.heap.size∧w0.heap.size≤w.heap.size):=⟨by rw[hwa];exact ⟨Kb.below (al_below w _),h.below (al_below w _),heap_alloc_new w _,by simp,blk_lt h.blk,h.bel.size⟩⟩;have HBK:Aside0 (∀ k r,numP 1 10 l = .ok k r→1≤k∧k≤10):=⟨fun k r hk=>((numP_codec 1 10 (by decide) (by decide)).one l k r (h.isB hi_.isB) hk).1⟩;clear hi_ h hwa;have hu33:=Try.underlying33;have hu23:=Try.underlying23;have hu25:=Try.underlying25;have hu27:=Try.underlying27;have hu29:=Try.underlying29;go_enter Try.func61,Try.ntmps61
  go_upto_region 1 with fail
  rw[←HWA.out];rcases hn:numP 1 10 l with n0|⟨k,l0⟩
  ·have HQ:Aside0 (msgP l = .bad n0):=⟨bnd_bad hn⟩;go_wp2_with (go_at_call 80;refine (num_calls w0 _ g A c b l 1 10 (by decide) (by decide) (by decide) HI.out H0.out.2.1).mono ?_;rintro e w5 ⟨hk,hb,hm⟩;simp only[hn,pan] at hm;subst hm;have HE:=Aside0.mk (And.intro (H0.out.1.trans hk) hb);clear hk hb)
   exact ⟨rfl,bad_end HE.out.1 HE.out.2 HQ.out⟩
  have HK:=Aside0.mk (HBK.out k l0 hn);have HC:Aside0 (msgP l=restP k l0):=⟨bnd_ok hn⟩
  go_upto_region 2 with (first
   | (go_at_call 80;refine (num_calls w0 _ g A c b l 1 10 (by decide) (by decide) (by decide) HI.out H0.out.2.1).mono ?_;rintro e w1 ⟨hk,hb,hm⟩;simp only[hn] at hm;obtain ⟨rfl,hs1⟩:=hm;have H1:Aside0 (Kb g w w1∧RS w0 w1 g A c b l0∧w1.heap[w.heap.size]?=some (.cells (MVc zMsg none 0) 33 (0,0))∧w.heap.size<w1.heap.size):=⟨H0.out.1.trans hk,hs1,kb_blk hk (by have:=H0.out.2.2.2.2.1;omega) H0.out.2.2.1,by have:=hk.size;have:=H0.out.2.2.2.1;omega⟩;clear hk hb hs1)
   | ((with_reducible refine gate_dst (N:=3) rfl ?_);refine box_event ?hg (N:=3) ?hd (cs := #[.int .i64 0,.string ⟨#[]⟩,.int .i64 0,.int .i64 0,.int .i64 0,.int .i64 0,.int .i64 0,.int .i64 0,.int .i64 0,.int .i64 0,.int .i64 0,.int .i64 0,.int .i64 0,.int .i64 0,.string ⟨#[]⟩,.int .i64 0,.int .i64 0,.int .i64 0,.int .i64 0,.slice none 0 0]) (t:=33) ?hr ?_;(case hd=>rfl);(case hg=>rfl);(case hr=>first|(go_simp;done)|(go_simp;rfl));intro gb hg w2 hbox hb;have HG:Aside0 (gb=w1.heap.size):=⟨hg⟩;have H2:=Aside0.mk (And.intro (H1.out.1.trans (Kb.below hb)) (And.intro (H1.out.2.1.below hb) (And.intro (blk_keep hb H1.out.2.2.1) hbox)));clear hg hb hbox;go_loud (refine wpList_store_row rfl 33 (.tmp 3) (.tmp 6) rfl gb (MVc { zMsg with kind:=k } none 0) (by rfl) (by rfl) 33 _ H2.out.2.2.2 inf33 rfl (mv_all _ _ _) ?_)))
  (try simp only[Act.put,List.setIfInBounds_toArray,List.set_cons_zero,List.set_cons_succ])
  obtain ⟨w3,hw3⟩:∃ w3,w3=w2.setRow gb (MVc { zMsg with kind:=k } none 0):=⟨_,rfl⟩;have HNP:Aside0 (NP w0 w g gb):=⟨by have:=HG.out;have:=H0.out.2.2.2.2;have:=H1.out.2.2.2;unfold NP;omega⟩
  have M1:Aside0 (NX w0 w w3 g gb A c b l0 (MVc { zMsg with kind:=k } none 0)):=⟨by
   have hp:=HNP.out;unfold NP at hp;rw[hw3];exact ⟨H2.out.1.setRowNew (by omega) _,H2.out.2.1.setRowOther (by omega) (by omega) _,(setRow_far (by omega) _).trans H2.out.2.2.1,setRow_blk H2.out.2.2.2 _⟩⟩
  rw[←hw3];clear hw3 H0 H1 H2 HG HWA hn HBK;have kk:w3.cell? ⟨gb,0,none⟩=some (.int .i64 k):=(blk_cell M1.out.box 0).trans rfl;by_cases k1:k=1
  ·have t1:(k == 1)=true:=by simp[k1]
   have HKI:=Aside0.mk k1;clear k1;have n0_:Aside0 (msgP l=bnd (pairP 0 63 1 1099511627776) (fun x=>bnd opP fun o=>ret (mAsk k x o)) l0):=⟨HC.out.trans (by unfold restP;rw[if_pos HKI.out];rfl)⟩;clear HC;have HC:=n0_;clear n0_;rcases h2:(pairP 0 63 1 1099511627776) l0 with n0|⟨x,l2⟩
   ·have HQ:Aside0 (msgP l = .bad n0):=⟨HC.out.trans (bnd_bad h2)⟩;go_wp2_with (go_at_call 83;refine (call_calls w0 _ g A c b l0 HI.out M1.out.rs).mono ?_;rintro e w5 ⟨hk,hb,hm⟩;simp only[h2,pan] at hm;subst hm;have HE:=Aside0.mk (And.intro (M1.out.kb.trans hk) hb);clear hk hb)
    exact ⟨rfl,bad_end HE.out.1 HE.out.2 HQ.out⟩
   have n0_:=Aside0.mk (HC.out.trans (bnd_ok h2));clear HC;have HC:=n0_;clear n0_;go_upto_region 5 with (go_at_call 83;refine (call_calls w0 _ g A c b l0 HI.out M1.out.rs).mono ?_;rintro e w4 ⟨hk,hb,hm⟩;simp only[h2] at hm;obtain ⟨rfl,hs1⟩:=hm;have M2:=Aside0.mk (M1.out.call HNP.out hk hs1);clear hk hb hs1 h2 kk;have kc11:w4.cell? ⟨gb,11,none⟩=some (.int .i64 0):=(blk_cell M2.out.box 11).trans rfl;have kf11:=blk_frozen M2.out.box 11;have kc12:w4.cell? ⟨gb,12,none⟩=some (.int .i64 0):=(blk_cell M2.out.box 12).trans rfl;have kf12:=blk_frozen M2.out.box 12)
   rcases h3:(opP) l2 with n0|⟨o,l3⟩
   ·have HQ:Aside0 (msgP l = .bad n0):=⟨HC.out.trans (bnd_bad h3)⟩;go_wp2_with (go_at_call 84;refine (op_calls w0 _ g A c b l2 HI.out ((M2.out.set HNP.out 11 (.int .i64 x.f0) rfl).set HNP.out 12 (.int .i64 x.f1) (cs2:=MVc { zMsg with kind:=k,call:=x } none 0) rfl).rs).mono ?_;rintro e w5 ⟨hk,hb,hm⟩;simp only[h3,pan] at hm;subst hm;have HE:=Aside0.mk (And.intro (((M2.out.set HNP.out 11 (.int .i64 x.f0) rfl).set HNP.out 12 (.int .i64 x.f1) (cs2:=MVc { zMsg with kind:=k,call:=x } none 0) rfl).kb.trans hk) hb);clear hk hb)
    exact ⟨rfl,bad_end HE.out.1 HE.out.2 HQ.out⟩
   have n0_:=Aside0.mk (HC.out.trans (bnd_ok h3));clear HC;have HC:=n0_;clear n0_;go_upto_region 6 with (go_at_call 84;refine (op_calls w0 _ g A c b l2 HI.out ((M2.out.set HNP.out 11 (.int .i64 x.f0) rfl).set HNP.out 12 (.int .i64 x.f1) (cs2:=MVc { zMsg with kind:=k,call:=x } none 0) rfl).rs).mono ?_;rintro e w5 ⟨hk,hb,hm⟩;simp only[h3] at hm;obtain ⟨rfl,hs1⟩:=hm;have M3:=Aside0.mk (((M2.out.set HNP.out 11 (.int .i64 x.f0) rfl).set HNP.out 12 (.int .i64 x.f1) (cs2:=MVc { zMsg with kind:=k,call:=x } none 0) rfl).call HNP.out hk hs1);clear hk hb hs1 h3 kc11 kf11 kc12 kf12;have kc13:w5.cell? ⟨gb,13,none⟩=some (.int .i64 0):=(blk_cell M3.out.box 13).trans rfl;have kf13:=blk_frozen M3.out.box 13;have kc14:w5.cell? ⟨gb,14,none⟩=some (.string ⟨#[]⟩):=(blk_cell M3.out.box 14).trans rfl;have kf14:=blk_frozen M3.out.box 14;have kc15:w5.cell? ⟨gb,15,none⟩=some (.int .i64 0):=(blk_cell M3.out.box 15).trans rfl;have kf15:=blk_frozen M3.out.box 15;have kc16:w5.cell? ⟨gb,16,none⟩=some (.int .i64 0):=(blk_cell M3.out.box 16).trans rfl;have kf16:=blk_frozen M3.out.box 16)
   clear kc13 kf13 kc14 kf14 kc15 kf15 kc16 kf16;have MZ:Aside0 (NX w0 w _ g gb A c b l3 (MVc (mAsk k x o) none 0)):=⟨((((M3.out.set HNP.out 13 (.int .i64 o.kind) rfl).set HNP.out 14 (.string o.name) rfl).set HNP.out 15 (.int .i64 o.a) rfl).set HNP.out 16 (.int .i64 o.b) (cs2:=MVc (mAsk k x o) none 0) rfl)⟩;go_wp2_with ((with_reducible refine gate_dst (N:=17) rfl ?_);refine wpList_load_row rfl 33 (.tmp 3) rfl gb (by rfl) 33 (MVc (mAsk k x o) none 0) (0,0) _ MZ.out.box hu33 rfl inf33 ?_;go_loud (refine wpList_store_row rfl 33 (.tmp 2) (.tmp 17) rfl w.heap.size (MVc (mAsk k x o) none 0) (by rfl) (by rfl) 33 _ MZ.out.res inf33 rfl (mv_all _ _ _) ?_))
   refine bodyPost_ret (results_cell_row rfl _ _ w.heap.size 33 _ (0,0) _ (by rfl) (setRow_blk MZ.out.res _) hu33 rfl inf33) rfl ?_;exact MZ.out.end_ HNP.out _ rfl HC.out
  have t1:(k == 1)=false:=by simp[k1]
  by_cases k2:k=2
  ·have t2:(k == 2)=true:=by simp[k2]
   have HKI:=Aside0.mk (And.intro k1 k2);clear k1 k2;have n0_:Aside0 (msgP l=bnd (pairP 0 63 1 1099511627776) (fun x=>bnd (nameP eB) fun s=>bnd (numP 0 255) fun e=>bnd (optP (capped e) z25 capP) fun p=>ret (mTold k x s e p)) l0):=⟨HC.out.trans (by unfold restP;rw[if_neg HKI.out.1,if_pos HKI.out.2];rfl)⟩;clear HC;have HC:=n0_;clear n0_;rcases h2:(pairP 0 63 1 1099511627776) l0 with n0|⟨x,l2⟩
   ·have HQ:Aside0 (msgP l = .bad n0):=⟨HC.out.trans (bnd_bad h2)⟩;go_wp2_with (go_at_call 83;refine (call_calls w0 _ g A c b l0 HI.out M1.out.rs).mono ?_;rintro e w5 ⟨hk,hb,hm⟩;simp only[h2,pan] at hm;subst hm;have HE:=Aside0.mk (And.intro (M1.out.kb.trans hk) hb);clear hk hb)
    exact ⟨rfl,bad_end HE.out.1 HE.out.2 HQ.out⟩
   have n0_:=Aside0.mk (HC.out.trans (bnd_ok h2));clear HC;have HC:=n0_;clear n0_;go_upto_region 9 with (go_at_call 83;refine (call_calls w0 _ g A c b l0 HI.out M1.out.rs).mono ?_;rintro e w4 ⟨hk,hb,hm⟩;simp only[h2] at hm;obtain ⟨rfl,hs1⟩:=hm;have M2:=Aside0.mk (M1.out.call HNP.out hk hs1);clear hk hb hs1 h2 kk;have kc11:w4.cell? ⟨gb,11,none⟩=some (.int .i64 0):=(blk_cell M2.out.box 11).trans rfl;have kf11:=blk_frozen M2.out.box 11;have kc12:w4.cell? ⟨gb,12,none⟩=some (.int .i64 0):=(blk_cell M2.out.box 12).trans rfl;have kf12:=blk_frozen M2.out.box 12)
   rcases h3:(nameP eB) l2 with n0|⟨t,l3⟩
   ·have HQ:Aside0 (msgP l = .bad n0):=⟨HC.out.trans (bnd_bad h3)⟩;go_wp2_with (go_at_call 97;refine (name_calls w0 _ g A c b l2 eB HI.out ((M2.out.set HNP.out 11 (.int .i64 x.f0) rfl).set HNP.out 12 (.int .i64 x.f1) (cs2:=MVc { zMsg with kind:=k,call:=x } none 0) rfl).rs).mono ?_;rintro e w5 ⟨hk,hb,hm⟩;simp only[h3,pan] at hm;subst hm;have HE:=Aside0.mk (And.intro (((M2.out.set HNP.out 11 (.int .i64 x.f0) rfl).set HNP.out 12 (.int .i64 x.f1) (cs2:=MVc { zMsg with kind:=k,call:=x } none 0) rfl).kb.trans hk) hb);clear hk hb)
    exact ⟨rfl,bad_end HE.out.1 HE.out.2 HQ.out⟩
   have n0_:=Aside0.mk (HC.out.trans (bnd_ok h3));clear HC;have HC:=n0_;clear n0_;go_upto_region 10 with (go_at_call 97;refine (name_calls w0 _ g A c b l2 eB HI.out ((M2.out.set HNP.out 11 (.int .i64 x.f0) rfl).set HNP.out 12 (.int .i64 x.f1) (cs2:=MVc { zMsg with kind:=k,call:=x } none 0) rfl).rs).mono ?_;rintro e w5 ⟨hk,hb,hm⟩;simp only[h3] at hm;obtain ⟨rfl,hs1⟩:=hm;have M3:=Aside0.mk (((M2.out.set HNP.out 11 (.int .i64 x.f0) rfl).set HNP.out 12 (.int .i64 x.f1) (cs2:=MVc { zMsg with kind:=k,call:=x } none 0) rfl).call HNP.out hk hs1);clear hk hb hs1 h3 kc11 kf11 kc12 kf12;have kc1:w5.cell? ⟨gb,1,none⟩=some (.string ⟨#[]⟩):=(blk_cell M3.out.box 1).trans rfl;have kf1:=blk_frozen M3.out.box 1)
   rcases h4:(numP 0 255) l3 with n0|⟨er,l4⟩
   ·have HQ:Aside0 (msgP l = .bad n0):=⟨HC.out.trans (bnd_bad h4)⟩;go_wp2_with (go_at_call 80;refine (num_calls w0 _ g A c b l3 0 255 (by decide) (by decide) (by decide) HI.out (M3.out.set HNP.out 1 (.string t) (cs2:=MVc { zMsg with kind:=k,call:=x,name:=t } none 0) rfl).rs).mono ?_;rintro e w5 ⟨hk,hb,hm⟩;simp only[h4,pan] at hm;subst hm;have HE:=Aside0.mk (And.intro ((M3.out.set HNP.out 1 (.string t) (cs2:=MVc { zMsg with kind:=k,call:=x,name:=t } none 0) rfl).kb.trans hk) hb);clear hk hb)
    exact ⟨rfl,bad_end HE.out.1 HE.out.2 HQ.out⟩
   have n0_:=Aside0.mk (HC.out.trans (bnd_ok h4));clear HC;have HC:=n0_;clear n0_;go_upto_region 11 with (go_at_call 80;refine (num_calls w0 _ g A c b l3 0 255 (by decide) (by decide) (by decide) HI.out (M3.out.set HNP.out 1 (.string t) (cs2:=MVc { zMsg with kind:=k,call:=x,name:=t } none 0) rfl).rs).mono ?_;rintro e w6 ⟨hk,hb,hm⟩;simp only[h4] at hm;obtain ⟨rfl,hs1⟩:=hm;have M4:=Aside0.mk ((M3.out.set HNP.out 1 (.string t) (cs2:=MVc { zMsg with kind:=k,call:=x,name:=t } none 0) rfl).call HNP.out hk hs1);clear hk hb hs1 h4 kc1 kf1;have kc17:w6.cell? ⟨gb,17,none⟩=some (.int .i64 0):=(blk_cell M4.out.box 17).trans rfl;have kf17:=blk_frozen M4.out.box 17)
   clear kc17 kf17;obtain ⟨w7,hw7⟩:∃ w7,w7=w6.setCell ⟨gb,17,none⟩ (.int .i64 er):=⟨_,rfl⟩;have M5:Aside0 (NX w0 w w7 g gb A c b l4 (MVc { zMsg with kind:=k,call:=x,name:=t,err:=er } none 0)):=⟨by rw[hw7];exact (M4.out.set HNP.out 17 (.int .i64 er) (cs2:=MVc { zMsg with kind:=k,call:=x,name:=t,err:=er } none 0) rfl)⟩;rw[←hw7];clear hw7;have ke:w7.cell? ⟨gb,17,none⟩=some (.int .i64 er):=(blk_cell M5.out.box 17).trans rfl;by_cases hq:capped er
   ·have HQ2:=Aside0.mk (dcd_pos hq);have n0_:Aside0 (msgP l=bnd (pairP 1 1099511627776 0 1099511627776) (fun p=>ret (mTold k x t er p)) l4):=⟨HC.out.trans (congrFun (opt_y hq) l4)⟩;clear HC;have HC:=n0_;clear n0_;clear hq;go_upto_region 12 with (go_at_call 58;refine (capped_calls _ _).mono ?_;rintro e wq ⟨rfl,hb⟩;rw[HQ2.out];have M6:=Aside0.mk (M5.out.call HNP.out (Kb.below hb) (M5.out.rs.below hb));clear hb ke)
    rcases h7:(pairP 1 1099511627776 0 1099511627776) l4 with n0|⟨q,l7⟩
    ·have HQ:Aside0 (msgP l = .bad n0):=⟨HC.out.trans (bnd_bad h7)⟩;go_wp2_with (go_at_call 98;refine (cap_calls w0 _ g A c b l4 HI.out M6.out.rs).mono ?_;rintro e w5 ⟨hk,hb,hm⟩;simp only[h7,pan] at hm;subst hm;have HE:=Aside0.mk (And.intro (M6.out.kb.trans hk) hb);clear hk hb)
     exact ⟨rfl,bad_end HE.out.1 HE.out.2 HQ.out⟩
    have n0_:=Aside0.mk (HC.out.trans (bnd_ok h7));clear HC;have HC:=n0_;clear n0_;go_upto_region 13 with (go_at_call 98;refine (cap_calls w0 _ g A c b l4 HI.out M6.out.rs).mono ?_;rintro e w9 ⟨hk,hb,hm⟩;simp only[h7] at hm;obtain ⟨rfl,hs1⟩:=hm;have M7:=Aside0.mk (M6.out.call HNP.out hk hs1);clear hk hb hs1 h7 ;have kc2:w9.cell? ⟨gb,2,none⟩=some (.int .i64 0):=(blk_cell M7.out.box 2).trans rfl;have kf2:=blk_frozen M7.out.box 2;have kc3:w9.cell? ⟨gb,3,none⟩=some (.int .i64 0):=(blk_cell M7.out.box 3).trans rfl;have kf3:=blk_frozen M7.out.box 3)
    clear kc2 kf2 kc3 kf3;have MZ:Aside0 (NX w0 w _ g gb A c b l7 (MVc (mTold k x t er q) none 0)):=⟨((M7.out.set HNP.out 2 (.int .i64 q.f0) rfl).set HNP.out 3 (.int .i64 q.f1) (cs2:=MVc (mTold k x t er q) none 0) rfl)⟩;go_wp2_with ((with_reducible refine gate_dst (N:=39) rfl ?_);refine wpList_load_row rfl 33 (.tmp 3) rfl gb (by rfl) 33 (MVc (mTold k x t er q) none 0) (0,0) _ MZ.out.box hu33 rfl inf33 ?_;go_loud (refine wpList_store_row rfl 33 (.tmp 2) (.tmp 39) rfl w.heap.size (MVc (mTold k x t er q) none 0) (by rfl) (by rfl) 33 _ MZ.out.res inf33 rfl (mv_all _ _ _) ?_))
    refine bodyPost_ret (results_cell_row rfl _ _ w.heap.size 33 _ (0,0) _ (by rfl) (setRow_blk MZ.out.res _) hu33 rfl inf33) rfl ?_;exact MZ.out.end_ HNP.out _ rfl HC.out
   ·have HQ2:=Aside0.mk (dcd_neg hq);have n0_:Aside0 (msgP l=ret (mTold k x t er z25) l4):=⟨HC.out.trans (congrFun (opt_n hq) l4)⟩;clear HC;have HC:=n0_;clear n0_;clear hq;go_upto_region 13 with (go_at_call 58;refine (capped_calls _ _).mono ?_;rintro e wq ⟨rfl,hb⟩;rw[HQ2.out];have M6:=Aside0.mk (M5.out.call HNP.out (Kb.below hb) (M5.out.rs.below hb));clear hb)
    clear ke;have MZ:Aside0 (NX w0 w _ g gb A c b l4 (MVc (mTold k x t er z25) none 0)):=⟨M6.out⟩;go_wp2_with ((with_reducible refine gate_dst (N:=39) rfl ?_);refine wpList_load_row rfl 33 (.tmp 3) rfl gb (by rfl) 33 (MVc (mTold k x t er z25) none 0) (0,0) _ MZ.out.box hu33 rfl inf33 ?_;go_loud (refine wpList_store_row rfl 33 (.tmp 2) (.tmp 39) rfl w.heap.size (MVc (mTold k x t er z25) none 0) (by rfl) (by rfl) 33 _ MZ.out.res inf33 rfl (mv_all _ _ _) ?_))
    refine bodyPost_ret (results_cell_row rfl _ _ w.heap.size 33 _ (0,0) _ (by rfl) (setRow_blk MZ.out.res _) hu33 rfl inf33) rfl ?_;exact MZ.out.end_ HNP.out _ rfl HC.out
  have t2:(k == 2)=false:=by simp[k2]
  by_cases k10:k=10
  ·have t10:(k == 10)=true:=by simp[k10]
   have HKI:=Aside0.mk (And.intro k1 (And.intro k2 k10));clear k1 k2 k10;have n0_:Aside0 (msgP l=bnd viewsP (fun l=>ret (mDig k l)) l0):=⟨HC.out.trans (by unfold restP;rw[if_neg HKI.out.1,if_neg HKI.out.2.1,if_pos HKI.out.2.2];rfl)⟩;clear HC;have HC:=n0_;clear n0_;rcases h2:viewsP l0 with n0|⟨xs,l2⟩
   ·have HQ:Aside0 (msgP l = .bad n0):=⟨HC.out.trans (bnd_bad h2)⟩;go_wp2_with (go_at_call 99;refine (views_calls w0 _ g A c b l0 HI.out M1.out.rs).mono ?_;rintro e w5 ⟨hk,hb,hm⟩;simp only[h2,pan] at hm;subst hm;have HE:=Aside0.mk (And.intro (M1.out.kb.trans hk) hb);clear hk hb)
    exact ⟨rfl,bad_end HE.out.1 HE.out.2 HQ.out⟩
   have n0_:=Aside0.mk (HC.out.trans (bnd_ok h2));clear HC;have HC:=n0_;clear n0_;go_upto_region 16 with (go_at_call 99;refine (views_calls w0 _ g A c b l0 HI.out M1.out.rs).mono ?_;rintro e w4 ⟨hk,hb,hm⟩;simp only[h2] at hm;obtain ⟨⟨vb,rfl,hvb,hvc⟩,hs1⟩:=hm;have M2:=Aside0.mk (And.intro (M1.out.call HNP.out hk hs1) (And.intro hvc (And.intro hvb (And.intro (blk_lt M1.out.box) (blk_lt M1.out.res)))));clear hk hb hs1 h2 kk hvb hvc;have kc19:w4.cell? ⟨gb,19,none⟩=some (.slice none 0 0):=(blk_cell M2.out.1.box 19).trans rfl;have kf19:=blk_frozen M2.out.1.box 19)
   clear kc19 kf19;have MZ:Aside0 (NX w0 w (w4.setCell ⟨gb,19,none⟩ (.slice (some ⟨vb,0,none⟩) xs.length xs.length)) g gb A c b l2 (MVc (mDig k xs) (some ⟨vb,0,none⟩) xs.length)):=⟨M2.out.1.set HNP.out 19 _ rfl⟩;go_wp2_with ((with_reducible refine gate_dst (N:=45) rfl ?_);refine wpList_load_row rfl 33 (.tmp 3) rfl gb (by rfl) 33 (MVc (mDig k xs) (some ⟨vb,0,none⟩) xs.length) (0,0) _ MZ.out.box hu33 rfl inf33 ?_;go_loud (refine wpList_store_row rfl 33 (.tmp 2) (.tmp 45) rfl w.heap.size (MVc (mDig k xs) (some ⟨vb,0,none⟩) xs.length) (by rfl) (by rfl) 33 _ MZ.out.res inf33 rfl (mv_all _ _ _) ?_))
   refine bodyPost_ret (results_cell_row rfl _ _ w.heap.size 33 _ (0,0) _ (by rfl) (setRow_blk MZ.out.res _) hu33 rfl inf33) rfl ?_;have hr:=MZ.out.rs.setRowOther (rb:=w.heap.size) (by have:=HNP.out.1;omega) HNP.out.2.2 (MVc (mDig k xs) (some ⟨vb,0,none⟩) xs.length);refine ⟨MZ.out.kb.setRowNew (Nat.le_refl _) _,hr.bel,?_⟩;rw[HC.out];have h5:=M2.out.2.2;exact ⟨⟨some ⟨vb,0,none⟩,xs.length,rfl,.inr ⟨vb,rfl,rfl,by omega,(setRow_far (by omega) _).trans (blk_far M2.out.2.1 (by omega) _ _)⟩⟩,hr⟩
  have t10:(k == 10)=false:=by simp[k10]
  have HKI:=Aside0.mk (And.intro k1 (And.intro k2 k10));clear k1 k2 k10;have n0_:Aside0 (msgP l=bnd (nameP eB) (fun s=>bnd (pairP 1 1099511627776 0 1099511627776) fun p=>bnd (optP (hasEp k) z25 epochP) fun ep=>bnd (optP (k=7) z25 epochP) fun ov=>bnd (optP (hasRt k) z25 rightsP) fun rt=>bnd (optP (k=4) 0 (numP 0 1099511627776)) fun h=>ret (mOf k s p ep ov rt h)) l0):=⟨HC.out.trans (by unfold restP;rw[if_neg HKI.out.1,if_neg HKI.out.2.1,if_neg HKI.out.2.2];rfl)⟩;clear HC;have HC:=n0_;clear n0_;rcases h2:(nameP eB) l0 with n0|⟨t,l2⟩
  ·have HQ:Aside0 (msgP l = .bad n0):=⟨HC.out.trans (bnd_bad h2)⟩;go_wp2_with (go_at_call 97;refine (name_calls w0 _ g A c b l0 eB HI.out M1.out.rs).mono ?_;rintro e w5 ⟨hk,hb,hm⟩;simp only[h2,pan] at hm;subst hm;have HE:=Aside0.mk (And.intro (M1.out.kb.trans hk) hb);clear hk hb)
   exact ⟨rfl,bad_end HE.out.1 HE.out.2 HQ.out⟩
  have n0_:=Aside0.mk (HC.out.trans (bnd_ok h2));clear HC;have HC:=n0_;clear n0_;go_upto_region 18 with (go_at_call 97;refine (name_calls w0 _ g A c b l0 eB HI.out M1.out.rs).mono ?_;rintro e w4 ⟨hk,hb,hm⟩;simp only[h2] at hm;obtain ⟨rfl,hs1⟩:=hm;have M2:=Aside0.mk (M1.out.call HNP.out hk hs1);clear hk hb hs1 h2 kk;have kc1:w4.cell? ⟨gb,1,none⟩=some (.string ⟨#[]⟩):=(blk_cell M2.out.box 1).trans rfl;have kf1:=blk_frozen M2.out.box 1)
  rcases h3:(pairP 1 1099511627776 0 1099511627776) l2 with n0|⟨q,l3⟩
  ·have HQ:Aside0 (msgP l = .bad n0):=⟨HC.out.trans (bnd_bad h3)⟩;go_wp2_with (go_at_call 98;refine (cap_calls w0 _ g A c b l2 HI.out (M2.out.set HNP.out 1 (.string t) (cs2:=MVc { zMsg with kind:=k,name:=t } none 0) rfl).rs).mono ?_;rintro e w5 ⟨hk,hb,hm⟩;simp only[h3,pan] at hm;subst hm;have HE:=Aside0.mk (And.intro ((M2.out.set HNP.out 1 (.string t) (cs2:=MVc { zMsg with kind:=k,name:=t } none 0) rfl).kb.trans hk) hb);clear hk hb)
   exact ⟨rfl,bad_end HE.out.1 HE.out.2 HQ.out⟩
  have n0_:=Aside0.mk (HC.out.trans (bnd_ok h3));clear HC;have HC:=n0_;clear n0_;go_upto_region 19 with (go_at_call 98;refine (cap_calls w0 _ g A c b l2 HI.out (M2.out.set HNP.out 1 (.string t) (cs2:=MVc { zMsg with kind:=k,name:=t } none 0) rfl).rs).mono ?_;rintro e w5 ⟨hk,hb,hm⟩;simp only[h3] at hm;obtain ⟨rfl,hs1⟩:=hm;have M3:=Aside0.mk ((M2.out.set HNP.out 1 (.string t) (cs2:=MVc { zMsg with kind:=k,name:=t } none 0) rfl).call HNP.out hk hs1);clear hk hb hs1 h3 kc1 kf1;have kc2:w5.cell? ⟨gb,2,none⟩=some (.int .i64 0):=(blk_cell M3.out.box 2).trans rfl;have kf2:=blk_frozen M3.out.box 2;have kc3:w5.cell? ⟨gb,3,none⟩=some (.int .i64 0):=(blk_cell M3.out.box 3).trans rfl;have kf3:=blk_frozen M3.out.box 3)
  clear kc2 kf2 kc3 kf3;obtain ⟨w6,hw6⟩:∃ w6,w6=(w5.setCell ⟨gb,2,none⟩ (.int .i64 q.f0)).setCell ⟨gb,3,none⟩ (.int .i64 q.f1):=⟨_,rfl⟩;have M4:Aside0 (NX w0 w w6 g gb A c b l3 (MVc (mOf k t q z25 z25 z25 0) none 0)):=⟨by rw[hw6];exact ((M3.out.set HNP.out 2 (.int .i64 q.f0) rfl).set HNP.out 3 (.int .i64 q.f1) (cs2:=MVc (mOf k t q z25 z25 z25 0) none 0) rfl)⟩;rw[←hw6];clear hw6;have hk7:k=3∨k=4∨k=5∨k=6∨k=7∨(k=8∨k=9):=by have:=HK.out;have:=HKI.out;omega
  have kk:w6.cell? ⟨gb,0,none⟩=some (.int .i64 k):=(blk_cell M4.out.box 0).trans rfl;clear M1 M2 M3;rcases hk7 with hk|hk|hk|hk|hk|hk
  ·have t3:(k == 3)=true:=by simp[hk]
   have HKK:=Aside0.mk hk;have n0_:Aside0 (msgP l=(bnd (pairP 1 1099511627776 0 15) fun ep=>ret (mOf k t q ep z25 z25 0)) l3):=⟨HC.out.trans (by have hk:=HKK.out;simp only[opt_y (show hasEp k from by unfold hasEp;omega),opt_n (show ¬(k=7) from by omega),opt_n (show ¬hasRt k from by unfold hasRt;omega),opt_n (show ¬(k=4) from by omega)];rfl)⟩;clear HC;have HC:=n0_;clear n0_;rcases h5:(pairP 1 1099511627776 0 15) l3 with n0|⟨ep,l5⟩
   ·have HQ:Aside0 (msgP l = .bad n0):=⟨HC.out.trans (bnd_bad h5)⟩;go_wp2_with (go_at_call 100;refine (epoch_calls w0 _ g A c b l3 HI.out M4.out.rs).mono ?_;rintro e w5 ⟨hk,hb,hm⟩;simp only[h5,pan] at hm;subst hm;have HE:=Aside0.mk (And.intro (M4.out.kb.trans hk) hb);clear hk hb)
    exact ⟨rfl,bad_end HE.out.1 HE.out.2 HQ.out⟩
   have n0_:=Aside0.mk (HC.out.trans (bnd_ok h5));clear HC;have HC:=n0_;clear n0_;go_upto_region 32 with (go_at_call 100;refine (epoch_calls w0 _ g A c b l3 HI.out M4.out.rs).mono ?_;rintro e w7 ⟨hk,hb,hm⟩;simp only[h5] at hm;obtain ⟨rfl,hs1⟩:=hm;have M5:=Aside0.mk (M4.out.call HNP.out hk hs1);clear hk hb hs1 h5 kk;have kc4:w7.cell? ⟨gb,4,none⟩=some (.int .i64 0):=(blk_cell M5.out.box 4).trans rfl;have kf4:=blk_frozen M5.out.box 4;have kc5:w7.cell? ⟨gb,5,none⟩=some (.int .i64 0):=(blk_cell M5.out.box 5).trans rfl;have kf5:=blk_frozen M5.out.box 5;have kk:w7.cell? ⟨gb,0,none⟩=some (.int .i64 k):=(blk_cell M5.out.box 0).trans rfl)
   clear hk;clear kc4 kf4 kc5 kf5 kk;have MZ:Aside0 (NX w0 w _ g gb A c b l5 (MVc (mOf k t q ep z25 z25 0) none 0)):=⟨((M5.out.set HNP.out 4 (.int .i64 ep.f0) rfl).set HNP.out 5 (.int .i64 ep.f1) (cs2:=MVc (mOf k t q ep z25 z25 0) none 0) rfl)⟩;go_wp2_with ((with_reducible refine gate_dst (N:=87) rfl ?_);refine wpList_load_row rfl 33 (.tmp 3) rfl gb (by rfl) 33 (MVc (mOf k t q ep z25 z25 0) none 0) (0,0) _ MZ.out.box hu33 rfl inf33 ?_;go_loud (refine wpList_store_row rfl 33 (.tmp 2) (.tmp 87) rfl w.heap.size (MVc (mOf k t q ep z25 z25 0) none 0) (by rfl) (by rfl) 33 _ MZ.out.res inf33 rfl (mv_all _ _ _) ?_))
   refine bodyPost_ret (results_cell_row rfl _ _ w.heap.size 33 _ (0,0) _ (by rfl) (setRow_blk MZ.out.res _) hu33 rfl inf33) rfl ?_;exact MZ.out.end_ HNP.out _ rfl HC.out
  ·have t3:(k == 3)=false:=by simp[hk]
   have t7:(k == 7)=false:=by simp[hk]
   have t4:(k == 4)=true:=by simp[hk]
   have HKK:=Aside0.mk hk;have n0_:Aside0 (msgP l=(bnd (pairP 1 1099511627776 0 15) fun ep=>bnd (pairP 0 1099511627776 0 1099511627776) fun rt=>bnd (numP 0 1099511627776) fun h=>ret (mOf k t q ep z25 rt h)) l3):=⟨HC.out.trans (by have hk:=HKK.out;simp only[opt_y (show hasEp k from by unfold hasEp;omega),opt_n (show ¬(k=7) from by omega),opt_y (show hasRt k from by unfold hasRt;omega),opt_y (show (k=4) from by omega)];rfl)⟩;clear HC;have HC:=n0_;clear n0_;rcases h5:(pairP 1 1099511627776 0 15) l3 with n0|⟨ep,l5⟩
   ·have HQ:Aside0 (msgP l = .bad n0):=⟨HC.out.trans (bnd_bad h5)⟩;go_wp2_with (go_at_call 100;refine (epoch_calls w0 _ g A c b l3 HI.out M4.out.rs).mono ?_;rintro e w5 ⟨hk,hb,hm⟩;simp only[h5,pan] at hm;subst hm;have HE:=Aside0.mk (And.intro (M4.out.kb.trans hk) hb);clear hk hb)
    exact ⟨rfl,bad_end HE.out.1 HE.out.2 HQ.out⟩
   have n0_:=Aside0.mk (HC.out.trans (bnd_ok h5));clear HC;have HC:=n0_;clear n0_;go_upto_region 29 with (go_at_call 100;refine (epoch_calls w0 _ g A c b l3 HI.out M4.out.rs).mono ?_;rintro e w7 ⟨hk,hb,hm⟩;simp only[h5] at hm;obtain ⟨rfl,hs1⟩:=hm;have M5:=Aside0.mk (M4.out.call HNP.out hk hs1);clear hk hb hs1 h5 kk;have kc4:w7.cell? ⟨gb,4,none⟩=some (.int .i64 0):=(blk_cell M5.out.box 4).trans rfl;have kf4:=blk_frozen M5.out.box 4;have kc5:w7.cell? ⟨gb,5,none⟩=some (.int .i64 0):=(blk_cell M5.out.box 5).trans rfl;have kf5:=blk_frozen M5.out.box 5;have kk:w7.cell? ⟨gb,0,none⟩=some (.int .i64 k):=(blk_cell M5.out.box 0).trans rfl)
   rcases h6:(pairP 0 1099511627776 0 1099511627776) l5 with n0|⟨rt,l6⟩
   ·have HQ:Aside0 (msgP l = .bad n0):=⟨HC.out.trans (bnd_bad h6)⟩;go_wp2_with (go_at_call 101;refine (rights_calls w0 _ g A c b l5 HI.out ((M5.out.set HNP.out 4 (.int .i64 ep.f0) rfl).set HNP.out 5 (.int .i64 ep.f1) (cs2:=MVc (mOf k t q ep z25 z25 0) none 0) rfl).rs).mono ?_;rintro e w5 ⟨hk,hb,hm⟩;simp only[h6,pan] at hm;subst hm;have HE:=Aside0.mk (And.intro (((M5.out.set HNP.out 4 (.int .i64 ep.f0) rfl).set HNP.out 5 (.int .i64 ep.f1) (cs2:=MVc (mOf k t q ep z25 z25 0) none 0) rfl).kb.trans hk) hb);clear hk hb)
    exact ⟨rfl,bad_end HE.out.1 HE.out.2 HQ.out⟩
   have n0_:=Aside0.mk (HC.out.trans (bnd_ok h6));clear HC;have HC:=n0_;clear n0_;go_upto_region 31 with (go_at_call 101;refine (rights_calls w0 _ g A c b l5 HI.out ((M5.out.set HNP.out 4 (.int .i64 ep.f0) rfl).set HNP.out 5 (.int .i64 ep.f1) (cs2:=MVc (mOf k t q ep z25 z25 0) none 0) rfl).rs).mono ?_;rintro e w8 ⟨hk,hb,hm⟩;simp only[h6] at hm;obtain ⟨rfl,hs1⟩:=hm;have M6:=Aside0.mk (((M5.out.set HNP.out 4 (.int .i64 ep.f0) rfl).set HNP.out 5 (.int .i64 ep.f1) (cs2:=MVc (mOf k t q ep z25 z25 0) none 0) rfl).call HNP.out hk hs1);clear hk hb hs1 h6 kc4 kf4 kc5 kf5 kk;have kc8:w8.cell? ⟨gb,8,none⟩=some (.int .i64 0):=(blk_cell M6.out.box 8).trans rfl;have kf8:=blk_frozen M6.out.box 8;have kc9:w8.cell? ⟨gb,9,none⟩=some (.int .i64 0):=(blk_cell M6.out.box 9).trans rfl;have kf9:=blk_frozen M6.out.box 9;have kk:w8.cell? ⟨gb,0,none⟩=some (.int .i64 k):=(blk_cell M6.out.box 0).trans rfl)
   rcases h7:(numP 0 1099511627776) l6 with n0|⟨h,l7⟩
   ·have HQ:Aside0 (msgP l = .bad n0):=⟨HC.out.trans (bnd_bad h7)⟩;go_wp2_with (go_at_call 80;refine (num_calls w0 _ g A c b l6 0 1099511627776 (by decide) (by decide) (by decide) HI.out ((M6.out.set HNP.out 8 (.int .i64 rt.f0) rfl).set HNP.out 9 (.int .i64 rt.f1) (cs2:=MVc (mOf k t q ep z25 rt 0) none 0) rfl).rs).mono ?_;rintro e w5 ⟨hk,hb,hm⟩;simp only[h7,pan] at hm;subst hm;have HE:=Aside0.mk (And.intro (((M6.out.set HNP.out 8 (.int .i64 rt.f0) rfl).set HNP.out 9 (.int .i64 rt.f1) (cs2:=MVc (mOf k t q ep z25 rt 0) none 0) rfl).kb.trans hk) hb);clear hk hb)
    exact ⟨rfl,bad_end HE.out.1 HE.out.2 HQ.out⟩
   have n0_:=Aside0.mk (HC.out.trans (bnd_ok h7));clear HC;have HC:=n0_;clear n0_;go_upto_region 32 with (go_at_call 80;refine (num_calls w0 _ g A c b l6 0 1099511627776 (by decide) (by decide) (by decide) HI.out ((M6.out.set HNP.out 8 (.int .i64 rt.f0) rfl).set HNP.out 9 (.int .i64 rt.f1) (cs2:=MVc (mOf k t q ep z25 rt 0) none 0) rfl).rs).mono ?_;rintro e w9 ⟨hk,hb,hm⟩;simp only[h7] at hm;obtain ⟨rfl,hs1⟩:=hm;have M7:=Aside0.mk (((M6.out.set HNP.out 8 (.int .i64 rt.f0) rfl).set HNP.out 9 (.int .i64 rt.f1) (cs2:=MVc (mOf k t q ep z25 rt 0) none 0) rfl).call HNP.out hk hs1);clear hk hb hs1 h7 kc8 kf8 kc9 kf9 kk;have kc10:w9.cell? ⟨gb,10,none⟩=some (.int .i64 0):=(blk_cell M7.out.box 10).trans rfl;have kf10:=blk_frozen M7.out.box 10;have kk:w9.cell? ⟨gb,0,none⟩=some (.int .i64 k):=(blk_cell M7.out.box 0).trans rfl)
   clear hk;clear kc10 kf10 kk;have MZ:Aside0 (NX w0 w _ g gb A c b l7 (MVc (mOf k t q ep z25 rt h) none 0)):=⟨(M7.out.set HNP.out 10 (.int .i64 h) (cs2:=MVc (mOf k t q ep z25 rt h) none 0) rfl)⟩;go_wp2_with ((with_reducible refine gate_dst (N:=87) rfl ?_);refine wpList_load_row rfl 33 (.tmp 3) rfl gb (by rfl) 33 (MVc (mOf k t q ep z25 rt h) none 0) (0,0) _ MZ.out.box hu33 rfl inf33 ?_;go_loud (refine wpList_store_row rfl 33 (.tmp 2) (.tmp 87) rfl w.heap.size (MVc (mOf k t q ep z25 rt h) none 0) (by rfl) (by rfl) 33 _ MZ.out.res inf33 rfl (mv_all _ _ _) ?_))
   refine bodyPost_ret (results_cell_row rfl _ _ w.heap.size 33 _ (0,0) _ (by rfl) (setRow_blk MZ.out.res _) hu33 rfl inf33) rfl ?_;exact MZ.out.end_ HNP.out _ rfl HC.out
  ·have t3:(k == 3)=false:=by simp[hk]
   have t7:(k == 7)=false:=by simp[hk]
   have t4:(k == 4)=false:=by simp[hk]
   have t5:(k == 5)=true:=by simp[hk]
   have t6:(k == 6)=false:=by simp[hk]
   have HKK:=Aside0.mk hk;have n0_:Aside0 (msgP l=(bnd (pairP 1 1099511627776 0 15) fun ep=>bnd (pairP 0 1099511627776 0 1099511627776) fun rt=>ret (mOf k t q ep z25 rt 0)) l3):=⟨HC.out.trans (by have hk:=HKK.out;simp only[opt_y (show hasEp k from by unfold hasEp;omega),opt_n (show ¬(k=7) from by omega),opt_y (show hasRt k from by unfold hasRt;omega),opt_n (show ¬(k=4) from by omega)];rfl)⟩;clear HC;have HC:=n0_;clear n0_;rcases h5:(pairP 1 1099511627776 0 15) l3 with n0|⟨ep,l5⟩
   ·have HQ:Aside0 (msgP l = .bad n0):=⟨HC.out.trans (bnd_bad h5)⟩;go_wp2_with (go_at_call 100;refine (epoch_calls w0 _ g A c b l3 HI.out M4.out.rs).mono ?_;rintro e w5 ⟨hk,hb,hm⟩;simp only[h5,pan] at hm;subst hm;have HE:=Aside0.mk (And.intro (M4.out.kb.trans hk) hb);clear hk hb)
    exact ⟨rfl,bad_end HE.out.1 HE.out.2 HQ.out⟩
   have n0_:=Aside0.mk (HC.out.trans (bnd_ok h5));clear HC;have HC:=n0_;clear n0_;go_upto_region 29 with (go_at_call 100;refine (epoch_calls w0 _ g A c b l3 HI.out M4.out.rs).mono ?_;rintro e w7 ⟨hk,hb,hm⟩;simp only[h5] at hm;obtain ⟨rfl,hs1⟩:=hm;have M5:=Aside0.mk (M4.out.call HNP.out hk hs1);clear hk hb hs1 h5 kk;have kc4:w7.cell? ⟨gb,4,none⟩=some (.int .i64 0):=(blk_cell M5.out.box 4).trans rfl;have kf4:=blk_frozen M5.out.box 4;have kc5:w7.cell? ⟨gb,5,none⟩=some (.int .i64 0):=(blk_cell M5.out.box 5).trans rfl;have kf5:=blk_frozen M5.out.box 5;have kk:w7.cell? ⟨gb,0,none⟩=some (.int .i64 k):=(blk_cell M5.out.box 0).trans rfl)
   rcases h6:(pairP 0 1099511627776 0 1099511627776) l5 with n0|⟨rt,l6⟩
   ·have HQ:Aside0 (msgP l = .bad n0):=⟨HC.out.trans (bnd_bad h6)⟩;go_wp2_with (go_at_call 101;refine (rights_calls w0 _ g A c b l5 HI.out ((M5.out.set HNP.out 4 (.int .i64 ep.f0) rfl).set HNP.out 5 (.int .i64 ep.f1) (cs2:=MVc (mOf k t q ep z25 z25 0) none 0) rfl).rs).mono ?_;rintro e w5 ⟨hk,hb,hm⟩;simp only[h6,pan] at hm;subst hm;have HE:=Aside0.mk (And.intro (((M5.out.set HNP.out 4 (.int .i64 ep.f0) rfl).set HNP.out 5 (.int .i64 ep.f1) (cs2:=MVc (mOf k t q ep z25 z25 0) none 0) rfl).kb.trans hk) hb);clear hk hb)
    exact ⟨rfl,bad_end HE.out.1 HE.out.2 HQ.out⟩
   have n0_:=Aside0.mk (HC.out.trans (bnd_ok h6));clear HC;have HC:=n0_;clear n0_;go_upto_region 32 with (go_at_call 101;refine (rights_calls w0 _ g A c b l5 HI.out ((M5.out.set HNP.out 4 (.int .i64 ep.f0) rfl).set HNP.out 5 (.int .i64 ep.f1) (cs2:=MVc (mOf k t q ep z25 z25 0) none 0) rfl).rs).mono ?_;rintro e w8 ⟨hk,hb,hm⟩;simp only[h6] at hm;obtain ⟨rfl,hs1⟩:=hm;have M6:=Aside0.mk (((M5.out.set HNP.out 4 (.int .i64 ep.f0) rfl).set HNP.out 5 (.int .i64 ep.f1) (cs2:=MVc (mOf k t q ep z25 z25 0) none 0) rfl).call HNP.out hk hs1);clear hk hb hs1 h6 kc4 kf4 kc5 kf5 kk;have kc8:w8.cell? ⟨gb,8,none⟩=some (.int .i64 0):=(blk_cell M6.out.box 8).trans rfl;have kf8:=blk_frozen M6.out.box 8;have kc9:w8.cell? ⟨gb,9,none⟩=some (.int .i64 0):=(blk_cell M6.out.box 9).trans rfl;have kf9:=blk_frozen M6.out.box 9;have kk:w8.cell? ⟨gb,0,none⟩=some (.int .i64 k):=(blk_cell M6.out.box 0).trans rfl)
   clear hk;clear kc8 kf8 kc9 kf9 kk;have MZ:Aside0 (NX w0 w _ g gb A c b l6 (MVc (mOf k t q ep z25 rt 0) none 0)):=⟨((M6.out.set HNP.out 8 (.int .i64 rt.f0) rfl).set HNP.out 9 (.int .i64 rt.f1) (cs2:=MVc (mOf k t q ep z25 rt 0) none 0) rfl)⟩;go_wp2_with ((with_reducible refine gate_dst (N:=87) rfl ?_);refine wpList_load_row rfl 33 (.tmp 3) rfl gb (by rfl) 33 (MVc (mOf k t q ep z25 rt 0) none 0) (0,0) _ MZ.out.box hu33 rfl inf33 ?_;go_loud (refine wpList_store_row rfl 33 (.tmp 2) (.tmp 87) rfl w.heap.size (MVc (mOf k t q ep z25 rt 0) none 0) (by rfl) (by rfl) 33 _ MZ.out.res inf33 rfl (mv_all _ _ _) ?_))
   refine bodyPost_ret (results_cell_row rfl _ _ w.heap.size 33 _ (0,0) _ (by rfl) (setRow_blk MZ.out.res _) hu33 rfl inf33) rfl ?_;exact MZ.out.end_ HNP.out _ rfl HC.out
  ·have t3:(k == 3)=false:=by simp[hk]
   have t7:(k == 7)=false:=by simp[hk]
   have t4:(k == 4)=false:=by simp[hk]
   have t5:(k == 5)=false:=by simp[hk]
   have t6:(k == 6)=true:=by simp[hk]
   have HKK:=Aside0.mk hk;have n0_:Aside0 (msgP l=(bnd (pairP 1 1099511627776 0 15) fun ep=>bnd (pairP 0 1099511627776 0 1099511627776) fun rt=>ret (mOf k t q ep z25 rt 0)) l3):=⟨HC.out.trans (by have hk:=HKK.out;simp only[opt_y (show hasEp k from by unfold hasEp;omega),opt_n (show ¬(k=7) from by omega),opt_y (show hasRt k from by unfold hasRt;omega),opt_n (show ¬(k=4) from by omega)];rfl)⟩;clear HC;have HC:=n0_;clear n0_;rcases h5:(pairP 1 1099511627776 0 15) l3 with n0|⟨ep,l5⟩
   ·have HQ:Aside0 (msgP l = .bad n0):=⟨HC.out.trans (bnd_bad h5)⟩;go_wp2_with (go_at_call 100;refine (epoch_calls w0 _ g A c b l3 HI.out M4.out.rs).mono ?_;rintro e w5 ⟨hk,hb,hm⟩;simp only[h5,pan] at hm;subst hm;have HE:=Aside0.mk (And.intro (M4.out.kb.trans hk) hb);clear hk hb)
    exact ⟨rfl,bad_end HE.out.1 HE.out.2 HQ.out⟩
   have n0_:=Aside0.mk (HC.out.trans (bnd_ok h5));clear HC;have HC:=n0_;clear n0_;go_upto_region 29 with (go_at_call 100;refine (epoch_calls w0 _ g A c b l3 HI.out M4.out.rs).mono ?_;rintro e w7 ⟨hk,hb,hm⟩;simp only[h5] at hm;obtain ⟨rfl,hs1⟩:=hm;have M5:=Aside0.mk (M4.out.call HNP.out hk hs1);clear hk hb hs1 h5 kk;have kc4:w7.cell? ⟨gb,4,none⟩=some (.int .i64 0):=(blk_cell M5.out.box 4).trans rfl;have kf4:=blk_frozen M5.out.box 4;have kc5:w7.cell? ⟨gb,5,none⟩=some (.int .i64 0):=(blk_cell M5.out.box 5).trans rfl;have kf5:=blk_frozen M5.out.box 5;have kk:w7.cell? ⟨gb,0,none⟩=some (.int .i64 k):=(blk_cell M5.out.box 0).trans rfl)
   rcases h6:(pairP 0 1099511627776 0 1099511627776) l5 with n0|⟨rt,l6⟩
   ·have HQ:Aside0 (msgP l = .bad n0):=⟨HC.out.trans (bnd_bad h6)⟩;go_wp2_with (go_at_call 101;refine (rights_calls w0 _ g A c b l5 HI.out ((M5.out.set HNP.out 4 (.int .i64 ep.f0) rfl).set HNP.out 5 (.int .i64 ep.f1) (cs2:=MVc (mOf k t q ep z25 z25 0) none 0) rfl).rs).mono ?_;rintro e w5 ⟨hk,hb,hm⟩;simp only[h6,pan] at hm;subst hm;have HE:=Aside0.mk (And.intro (((M5.out.set HNP.out 4 (.int .i64 ep.f0) rfl).set HNP.out 5 (.int .i64 ep.f1) (cs2:=MVc (mOf k t q ep z25 z25 0) none 0) rfl).kb.trans hk) hb);clear hk hb)
    exact ⟨rfl,bad_end HE.out.1 HE.out.2 HQ.out⟩
   have n0_:=Aside0.mk (HC.out.trans (bnd_ok h6));clear HC;have HC:=n0_;clear n0_;go_upto_region 32 with (go_at_call 101;refine (rights_calls w0 _ g A c b l5 HI.out ((M5.out.set HNP.out 4 (.int .i64 ep.f0) rfl).set HNP.out 5 (.int .i64 ep.f1) (cs2:=MVc (mOf k t q ep z25 z25 0) none 0) rfl).rs).mono ?_;rintro e w8 ⟨hk,hb,hm⟩;simp only[h6] at hm;obtain ⟨rfl,hs1⟩:=hm;have M6:=Aside0.mk (((M5.out.set HNP.out 4 (.int .i64 ep.f0) rfl).set HNP.out 5 (.int .i64 ep.f1) (cs2:=MVc (mOf k t q ep z25 z25 0) none 0) rfl).call HNP.out hk hs1);clear hk hb hs1 h6 kc4 kf4 kc5 kf5 kk;have kc8:w8.cell? ⟨gb,8,none⟩=some (.int .i64 0):=(blk_cell M6.out.box 8).trans rfl;have kf8:=blk_frozen M6.out.box 8;have kc9:w8.cell? ⟨gb,9,none⟩=some (.int .i64 0):=(blk_cell M6.out.box 9).trans rfl;have kf9:=blk_frozen M6.out.box 9;have kk:w8.cell? ⟨gb,0,none⟩=some (.int .i64 k):=(blk_cell M6.out.box 0).trans rfl)
   clear hk;clear kc8 kf8 kc9 kf9 kk;have MZ:Aside0 (NX w0 w _ g gb A c b l6 (MVc (mOf k t q ep z25 rt 0) none 0)):=⟨((M6.out.set HNP.out 8 (.int .i64 rt.f0) rfl).set HNP.out 9 (.int .i64 rt.f1) (cs2:=MVc (mOf k t q ep z25 rt 0) none 0) rfl)⟩;go_wp2_with ((with_reducible refine gate_dst (N:=87) rfl ?_);refine wpList_load_row rfl 33 (.tmp 3) rfl gb (by rfl) 33 (MVc (mOf k t q ep z25 rt 0) none 0) (0,0) _ MZ.out.box hu33 rfl inf33 ?_;go_loud (refine wpList_store_row rfl 33 (.tmp 2) (.tmp 87) rfl w.heap.size (MVc (mOf k t q ep z25 rt 0) none 0) (by rfl) (by rfl) 33 _ MZ.out.res inf33 rfl (mv_all _ _ _) ?_))
   refine bodyPost_ret (results_cell_row rfl _ _ w.heap.size 33 _ (0,0) _ (by rfl) (setRow_blk MZ.out.res _) hu33 rfl inf33) rfl ?_;exact MZ.out.end_ HNP.out _ rfl HC.out
  ·have t3:(k == 3)=false:=by simp[hk]
   have t7:(k == 7)=true:=by simp[hk]
   have HKK:=Aside0.mk hk;have n0_:Aside0 (msgP l=(bnd (pairP 1 1099511627776 0 15) fun ep=>bnd (pairP 1 1099511627776 0 15) fun ov=>ret (mOf k t q ep ov z25 0)) l3):=⟨HC.out.trans (by have hk:=HKK.out;simp only[opt_y (show hasEp k from by unfold hasEp;omega),opt_y (show (k=7) from by omega),opt_n (show ¬hasRt k from by unfold hasRt;omega),opt_n (show ¬(k=4) from by omega)];rfl)⟩;clear HC;have HC:=n0_;clear n0_;rcases h5:(pairP 1 1099511627776 0 15) l3 with n0|⟨ep,l5⟩
   ·have HQ:Aside0 (msgP l = .bad n0):=⟨HC.out.trans (bnd_bad h5)⟩;go_wp2_with (go_at_call 100;refine (epoch_calls w0 _ g A c b l3 HI.out M4.out.rs).mono ?_;rintro e w5 ⟨hk,hb,hm⟩;simp only[h5,pan] at hm;subst hm;have HE:=Aside0.mk (And.intro (M4.out.kb.trans hk) hb);clear hk hb)
    exact ⟨rfl,bad_end HE.out.1 HE.out.2 HQ.out⟩
   have n0_:=Aside0.mk (HC.out.trans (bnd_ok h5));clear HC;have HC:=n0_;clear n0_;go_upto_region 27 with (go_at_call 100;refine (epoch_calls w0 _ g A c b l3 HI.out M4.out.rs).mono ?_;rintro e w7 ⟨hk,hb,hm⟩;simp only[h5] at hm;obtain ⟨rfl,hs1⟩:=hm;have M5:=Aside0.mk (M4.out.call HNP.out hk hs1);clear hk hb hs1 h5 kk;have kc4:w7.cell? ⟨gb,4,none⟩=some (.int .i64 0):=(blk_cell M5.out.box 4).trans rfl;have kf4:=blk_frozen M5.out.box 4;have kc5:w7.cell? ⟨gb,5,none⟩=some (.int .i64 0):=(blk_cell M5.out.box 5).trans rfl;have kf5:=blk_frozen M5.out.box 5;have kk:w7.cell? ⟨gb,0,none⟩=some (.int .i64 k):=(blk_cell M5.out.box 0).trans rfl)
   rcases h6:(pairP 1 1099511627776 0 15) l5 with n0|⟨ov,l6⟩
   ·have HQ:Aside0 (msgP l = .bad n0):=⟨HC.out.trans (bnd_bad h6)⟩;go_wp2_with (go_at_call 100;refine (epoch_calls w0 _ g A c b l5 HI.out ((M5.out.set HNP.out 4 (.int .i64 ep.f0) rfl).set HNP.out 5 (.int .i64 ep.f1) (cs2:=MVc (mOf k t q ep z25 z25 0) none 0) rfl).rs).mono ?_;rintro e w5 ⟨hk,hb,hm⟩;simp only[h6,pan] at hm;subst hm;have HE:=Aside0.mk (And.intro (((M5.out.set HNP.out 4 (.int .i64 ep.f0) rfl).set HNP.out 5 (.int .i64 ep.f1) (cs2:=MVc (mOf k t q ep z25 z25 0) none 0) rfl).kb.trans hk) hb);clear hk hb)
    exact ⟨rfl,bad_end HE.out.1 HE.out.2 HQ.out⟩
   have n0_:=Aside0.mk (HC.out.trans (bnd_ok h6));clear HC;have HC:=n0_;clear n0_;go_upto_region 32 with (go_at_call 100;refine (epoch_calls w0 _ g A c b l5 HI.out ((M5.out.set HNP.out 4 (.int .i64 ep.f0) rfl).set HNP.out 5 (.int .i64 ep.f1) (cs2:=MVc (mOf k t q ep z25 z25 0) none 0) rfl).rs).mono ?_;rintro e w8 ⟨hk,hb,hm⟩;simp only[h6] at hm;obtain ⟨rfl,hs1⟩:=hm;have M6:=Aside0.mk (((M5.out.set HNP.out 4 (.int .i64 ep.f0) rfl).set HNP.out 5 (.int .i64 ep.f1) (cs2:=MVc (mOf k t q ep z25 z25 0) none 0) rfl).call HNP.out hk hs1);clear hk hb hs1 h6 kc4 kf4 kc5 kf5 kk;have kc6:w8.cell? ⟨gb,6,none⟩=some (.int .i64 0):=(blk_cell M6.out.box 6).trans rfl;have kf6:=blk_frozen M6.out.box 6;have kc7:w8.cell? ⟨gb,7,none⟩=some (.int .i64 0):=(blk_cell M6.out.box 7).trans rfl;have kf7:=blk_frozen M6.out.box 7;have kk:w8.cell? ⟨gb,0,none⟩=some (.int .i64 k):=(blk_cell M6.out.box 0).trans rfl)
   clear hk;clear kc6 kf6 kc7 kf7 kk;have MZ:Aside0 (NX w0 w _ g gb A c b l6 (MVc (mOf k t q ep ov z25 0) none 0)):=⟨((M6.out.set HNP.out 6 (.int .i64 ov.f0) rfl).set HNP.out 7 (.int .i64 ov.f1) (cs2:=MVc (mOf k t q ep ov z25 0) none 0) rfl)⟩;go_wp2_with ((with_reducible refine gate_dst (N:=87) rfl ?_);refine wpList_load_row rfl 33 (.tmp 3) rfl gb (by rfl) 33 (MVc (mOf k t q ep ov z25 0) none 0) (0,0) _ MZ.out.box hu33 rfl inf33 ?_;go_loud (refine wpList_store_row rfl 33 (.tmp 2) (.tmp 87) rfl w.heap.size (MVc (mOf k t q ep ov z25 0) none 0) (by rfl) (by rfl) 33 _ MZ.out.res inf33 rfl (mv_all _ _ _) ?_))
   refine bodyPost_ret (results_cell_row rfl _ _ w.heap.size 33 _ (0,0) _ (by rfl) (setRow_blk MZ.out.res _) hu33 rfl inf33) rfl ?_;exact MZ.out.end_ HNP.out _ rfl HC.out
  ·have t3:(k == 3)=false:=by simp;omega
   have t7:(k == 7)=false:=by simp;omega
   have t4:(k == 4)=false:=by simp;omega
   have t5:(k == 5)=false:=by simp;omega
   have t6:(k == 6)=false:=by simp;omega
   have HKK:=Aside0.mk hk;have n0_:Aside0 (msgP l=(bnd (pairP 0 1099511627776 0 1099511627776) fun rt=>ret (mOf k t q z25 z25 rt 0)) l3):=⟨HC.out.trans (by have hk:=HKK.out;simp only[opt_n (show ¬hasEp k from by unfold hasEp;omega),opt_n (show ¬(k=7) from by omega),opt_y (show hasRt k from by unfold hasRt;omega),opt_n (show ¬(k=4) from by omega)];rfl)⟩;clear HC;have HC:=n0_;clear n0_;rcases h5:(pairP 0 1099511627776 0 1099511627776) l3 with n0|⟨rt,l5⟩
   ·have HQ:Aside0 (msgP l = .bad n0):=⟨HC.out.trans (bnd_bad h5)⟩;go_wp2_with (go_at_call 101;refine (rights_calls w0 _ g A c b l3 HI.out M4.out.rs).mono ?_;rintro e w5 ⟨hk,hb,hm⟩;simp only[h5,pan] at hm;subst hm;have HE:=Aside0.mk (And.intro (M4.out.kb.trans hk) hb);clear hk hb)
    exact ⟨rfl,bad_end HE.out.1 HE.out.2 HQ.out⟩
   have n0_:=Aside0.mk (HC.out.trans (bnd_ok h5));clear HC;have HC:=n0_;clear n0_;go_upto_region 32 with (go_at_call 101;refine (rights_calls w0 _ g A c b l3 HI.out M4.out.rs).mono ?_;rintro e w7 ⟨hk,hb,hm⟩;simp only[h5] at hm;obtain ⟨rfl,hs1⟩:=hm;have M5:=Aside0.mk (M4.out.call HNP.out hk hs1);clear hk hb hs1 h5 kk;have kc8:w7.cell? ⟨gb,8,none⟩=some (.int .i64 0):=(blk_cell M5.out.box 8).trans rfl;have kf8:=blk_frozen M5.out.box 8;have kc9:w7.cell? ⟨gb,9,none⟩=some (.int .i64 0):=(blk_cell M5.out.box 9).trans rfl;have kf9:=blk_frozen M5.out.box 9;have kk:w7.cell? ⟨gb,0,none⟩=some (.int .i64 k):=(blk_cell M5.out.box 0).trans rfl)
   clear hk;clear kc8 kf8 kc9 kf9 kk;have MZ:Aside0 (NX w0 w _ g gb A c b l5 (MVc (mOf k t q z25 z25 rt 0) none 0)):=⟨((M5.out.set HNP.out 8 (.int .i64 rt.f0) rfl).set HNP.out 9 (.int .i64 rt.f1) (cs2:=MVc (mOf k t q z25 z25 rt 0) none 0) rfl)⟩;go_wp2_with ((with_reducible refine gate_dst (N:=87) rfl ?_);refine wpList_load_row rfl 33 (.tmp 3) rfl gb (by rfl) 33 (MVc (mOf k t q z25 z25 rt 0) none 0) (0,0) _ MZ.out.box hu33 rfl inf33 ?_;go_loud (refine wpList_store_row rfl 33 (.tmp 2) (.tmp 87) rfl w.heap.size (MVc (mOf k t q z25 z25 rt 0) none 0) (by rfl) (by rfl) 33 _ MZ.out.res inf33 rfl (mv_all _ _ _) ?_))
   refine bodyPost_ret (results_cell_row rfl _ _ w.heap.size 33 _ (0,0) _ (by rfl) (setRow_blk MZ.out.res _) hu33 rfl inf33) rfl ?_;exact MZ.out.end_ HNP.out _ rfl HC.out
end Go.Proofs.Ytpgdmmjbhjbbhaa.Rd
end
section
namespace Go.Proofs.Ytpgdmmjbhjbbhaa.Rd
open Go Go.RowKit P Sp Vd En Wr YtpgdmmjbhjbbhaaW.PrintWords YtpgdmmjbhjbbhaaW.PrintLast YtpgdmmjbhjbbhaaW.PrintMore
theorem ta_yes (n:Int) (w:World):(Instr.typeAssert (.iface 138 (.int .i64 n)) 20 138 true).run Try.prog w = .ok (.tuple #[.int .i64 n,.bool true]) w:=by kernel_rfl
theorem ta_no (w:World):(Instr.typeAssert .nilIface 20 138 true).run Try.prog w = .ok (.tuple #[.int .i64 0,.bool false]) w:=by kernel_rfl
theorem catch_pan (p q:Addr) (x y n:Int) (w:World) (hc:w.cell? p=some (.int .i64 x)) (hz:w.frozen? p=false) (hd:(w.setCell p (.int .i64 n)).cell? q=some (.int .i64 y)) (hy:(w.setCell p (.int .i64 n)).frozen? q=false):
  CallsD Try.prog 96 #[.pointer (some p),.pointer (some q)] (.panicking [{ v := .iface 138 (.int .i64 n),recovered:=false }]) w fun e u' w'=>
   e = .returned (.tuple #[])∧u' = .panicking [{ v := .iface 138 (.int .i64 n),recovered:=true }]∧w'=(w.setCell p (.int .i64 n)).setCell q (.int .i64 20):=by
 refine callsD_of_wpS Try.func96 rfl fun c₀ cs hu=>?_;apply wpS_seq;apply wpS_region;simp[wpOpsS,go_sem,recoverD,hu,Try.ntmps96,Exit.thenS,ta_yes,ta_no,Array.replicate,List.replicate];apply wpS_seq;apply wpS_region;simp[wpOpsS,go_sem,Exit.thenS];refine wpS_cond (t:=true) (by simp[Act.eval]) ?_;simp only[if_true];apply wpS_region;simp[wpOpsS,go_sem,hc,hz,hd,hy,bodyPostS,results,Try.results96]
theorem catch_idle (p q:Addr) (w:World):
  CallsD Try.prog 96 #[.pointer (some p),.pointer (some q)] .returning w fun e u' w'=>e = .returned (.tuple #[])∧u' = .returning∧w'=w:=by
 refine callsD_of_wpS Try.func96 rfl fun c₀ cs hu=>?_;apply wpS_seq;apply wpS_region;simp[wpOpsS,go_sem,recoverD,hu,Try.ntmps96,Exit.thenS,ta_yes,ta_no,Array.replicate,List.replicate];apply wpS_seq;apply wpS_region;simp[wpOpsS,go_sem,Exit.thenS];refine wpS_cond (t:=false) (by simp[Act.eval]) ?_;simp only[Bool.false_eq_true,if_false];refine wpS_of_wp (wp_skip ?_);cases c₀
 simp_all[bodyPostS,results,Try.results96]
structure Ks (S:Nat→Prop) (w w1:World):Prop where
 size:w.heap.size≤w1.heap.size
 block:∀ k,k<w.heap.size → ¬S k→w1.heap[k]?=w.heap[k]?
theorem Ks.trans {S:Nat→Prop} {a b c:World} (h:Ks S a b) (k:Ks S b c):Ks S a c:=⟨Nat.le_trans h.size k.size,fun i hi hs=>(k.block i (Nat.lt_of_lt_of_le hi h.size) hs).trans (h.block i hi hs)⟩
theorem Ks.below {S:Nat→Prop} {a b:World} (h:Below a.heap.size a b):Ks S a b:=⟨h.size,fun i hi _=>h.block i hi⟩
theorem Ks.set {S:Nat→Prop} {a b:World} (h:Ks S a b) (g i:Nat) (v:Value) (hg:S g∨a.heap.size≤g):Ks S a (b.setCell ⟨g,i,none⟩ v):=
 ⟨Nat.le_trans h.size (Kb.set g i b v).size, fun k hk hs => ((Kb.set g i b v).block k (Nat.lt_of_lt_of_le hk h.size) (by
   rcases hg with hg|hg
   ·intro e;exact hs (e ▸ hg)
   ·omega)).trans (h.block k hk hs)⟩
def Fld {α : Type} (w0 w1 : World) (g : Nat) (S : Nat → Prop) (A : Option Addr) (c : Nat) (b : List Int) (r : R α) (Y : World → Prop) (X : α → World → Prop) (e : Ending) (w' : World) : Prop :=
  Ks (fun k => k = g ∨ S k) w1 w' ∧ Below w0.heap.size w0 w' ∧ Y w' ∧ match r with
    | .bad k=>e=pan ((b.length:Int) - k)
    | .ok x l=>e = .returned (.tuple #[])∧RS w0 w' g A c b l∧X x w'
def ReadP {α : Type} (w0 w : World) (S : Nat → Prop) (b : List Int) (r : R α) (Y : World → Prop) (X : α → World → Prop) (e : Ending) (w' : World) : Prop :=
  Ks S w w' ∧ Below w0.heap.size w0 w' ∧ Y w' ∧ ∃ pt er : Int, e = .returned (.tuple #[.int .i64 pt, .int .i64 er]) ∧ match r with
    | .bad k=>pt=(b.length:Int) - k∧er=20
    | .ok x []=>pt=0∧er=0∧X x w'
    | .ok x (d::l)=>pt=(b.length:Int) - (l.length+1)∧er=20
def Stable (n:Nat) (Y:World→Prop):Prop:=∀ w1 w2:World,Y w1→(∀ k,k<w1.heap.size→k≠n→k≠n+1→w2.heap[k]?=w1.heap[k]?)→w1.heap.size≤w2.heap.size→Y w2
theorem stable_set {n i:Nat} {Y:World→Prop} (h:Stable n Y) {w:World} (hy:Y w) (v:Value) {g:Nat} (hg:g=n∨g=n+1):Y (w.setCell ⟨g,i,none⟩ v):=
 h w _ hy (fun k _ h1 h2=>Below.heap_setCell w ⟨g,i,none⟩ v k (by rcases hg with rfl|rfl<;>assumption)) (Kb.set g i w v).size
theorem read_msg {α : Type} (cb : Nat) (w0 w : World) (A : Option Addr) (c : Nat) (b : List Int) (S : Nat → Prop) (r : R α) (Y : World → Prop) (X : α → World → Prop) (hi : In w0 A c b) (hB : Below w0.heap.size w0 w)
    (hS:∀ k,S k→k<w.heap.size) (hS0:∀ k,S k→w0.heap.size≤k) (hY:Stable w.heap.size Y) (hX:∀ x,Stable w.heap.size (X x))
    (hf:∀ w1,Below w.heap.size w w1→w1.heap.size=w.heap.size+1+1+1→RS w0 w1 (w.heap.size+1+1) A c b b→Calls Try.prog 60 #[.pointer (some ⟨w.heap.size+1+1,0,none⟩),.pointer (some ⟨cb,0,none⟩)] w1 fun e w'=>Fld w0 w1 (w.heap.size+1+1) S A c b r Y X e w'):
    Calls Try.prog 59 #[.slice A b.length c,.func (Fn.func 60) #[] #[.pointer (some ⟨cb,0,none⟩)]] w fun e w'=>ReadP w0 w S b r Y X e w':=by
  have hmf:∀ (fn:Fn) (first cap:Array Value) (w:World),(Instr.makeFunc fn first cap).run Try.prog w = .ok (.func fn first cap) w:=fun _ _ _ _=>rfl;obtain ⟨w1,hw1⟩:∃ w1,w1=(((w.alloc (.cells #[.int .i64 0] 3 (0,0))).alloc (.cells #[.int .i64 0] 30 (0,0))).alloc (.cells #[.slice A b.length c,.int .i64 0] 141 (0,0))):=⟨_,rfl⟩;have HW1:=Aside0.mk hw1;have hb1:Below w.heap.size w w1:=by rw[hw1];exact ((al_below w _).alloc (by simp) _).alloc (by simp;omega) _
  have hs1:w1.heap.size=w.heap.size+1+1+1:=by rw[hw1];simp
  have hP:w1.heap[w.heap.size]?=some (.cells #[.int .i64 0] 3 (0,0)):=by
   rw[hw1,Below.heap_alloc _ _ _ (by simp;omega),Below.heap_alloc _ _ _ (by simp)];exact heap_alloc_new w _
  have hE:w1.heap[w.heap.size+1]?=some (.cells #[.int .i64 0] 30 (0,0)):=by
   rw[hw1,Below.heap_alloc _ _ _ (by simp)];have:=heap_alloc_new (w.alloc (.cells #[.int .i64 0] 3 (0,0))) (.cells #[.int .i64 0] 30 (0,0))
   simpa using this
  have hR:RS w0 w1 (w.heap.size+1+1) A c b b:=⟨by
   have:=heap_alloc_new ((w.alloc (.cells #[.int .i64 0] 3 (0,0))).alloc (.cells #[.int .i64 0] 30 (0,0))) (.cells #[.slice A b.length c,.int .i64 0] 141 (0,0));rw[hw1];unfold pl;rw[Int.sub_self]
   simpa using this,by have:=hB.size;omega,hB.trans (hb1.mono hB.size),⟨[],rfl⟩⟩
  have HC:=Aside0.mk (hf w1 hb1 hs1 hR);have HBL:=Aside0.mk (And.intro hP hE);have HB1:=Aside0.mk (And.intro hb1 hs1);have HST:=Aside0.mk (And.intro hS (And.intro hS0 (And.intro hY hX)));have HSZ:=Aside0.mk hB.size;have HBB:=Aside0.mk hB;have HI:=Aside0.mk hi;clear hw1 hf hP hE hb1 hs1 hS hS0 hY hX hR hB hi;go_enter_defers Try.func59,Try.ntmps59
  go_wp2_with fail
  rw[←HW1.out];rcases hr:r with k|⟨x,l⟩
  ·refine HC.out.mono ?_;rintro e w2 ⟨hks,hbl,hy,hm⟩;simp only[hr,pan] at hm;subst hm
   have hnS : ∀ k, k = w.heap.size ∨ k = w.heap.size + 1 → ¬ (k = w.heap.size + 1 + 1 ∨ S k) := fun k hk h => by
     rcases h with h|h
     ·omega
     ·have:=HST.out.1 k h;omega
   have hP2:=(hks.block w.heap.size (by rw[HB1.out.2];omega) (hnS _ (.inl rfl))).trans HBL.out.1;have hE2:=(hks.block (w.heap.size+1) (by rw[HB1.out.2];omega) (hnS _ (.inr rfl))).trans HBL.out.2;have HK2:=Aside0.mk (And.intro hks (And.intro hbl hy));clear hks hbl hy hnS;go_wp2_with fail
   have hne:w.heap.size≠w.heap.size+1:=by omega
   have kp:w2.cell? ⟨w.heap.size,0,none⟩=some (.int .i64 0):=(blk_cell hP2 0).trans rfl;have kpf:=blk_frozen hP2 0;have hE3:∀ v,(w2.setCell ⟨w.heap.size,0,none⟩ v).heap[w.heap.size+1]?=some (.cells #[.int .i64 0] 30 (0,0)):=fun v=>blk_far hE2 hne 0 v;have ke:=fun v=>(blk_cell (hE3 v) 0).trans (rfl:_=some (Value.int .i64 0));have kef:=fun v=>blk_frozen (hE3 v) 0;refine leaves_cons (f:=96) (args := #[.pointer (some ⟨w.heap.size,0,none⟩),.pointer (some ⟨w.heap.size+1,0,none⟩)]) (by simp) (by simp[go_sem]) ?_;refine (catch_pan ⟨w.heap.size,0,none⟩ ⟨w.heap.size+1,0,none⟩ 0 0 _ _ kp kpf (ke _) (kef _)).mono ?_;rintro e u' w3 ⟨rfl,rfl,rfl⟩;have hf1:=blk_far (blk_set hP2 0 (.int .i64 ((b.length:Int) - k))) (Ne.symm hne) 0 (.int .i64 20);have hf2:=blk_set (hE3 (.int .i64 ((b.length:Int) - k))) 0 (.int .i64 20)
   have hfin:ReadP w0 w S b r Y X (.returned (.tuple #[.int .i64 ((b.length:Int) - k),.int .i64 20])) ((w2.setCell ⟨w.heap.size,0,none⟩ (.int .i64 ((b.length:Int) - k))).setCell ⟨w.heap.size+1,0,none⟩ (.int .i64 20)):=by
    rw[hr];refine ⟨?_,?_,stable_set HST.out.2.2.1 (stable_set HST.out.2.2.1 HK2.out.2.2 _ (.inl rfl)) _ (.inr rfl),_,_,rfl,rfl,rfl⟩
    ·refine Ks.set (Ks.set ⟨by have:=HK2.out.1.size;have:=HB1.out.2;omega,fun i hi hs=>(HK2.out.1.block i (by rw[HB1.out.2];omega) (fun h=>h.elim (fun h=>absurd h (by omega)) hs)).trans (HB1.out.1.block i hi)⟩ _ _ _ (.inr (Nat.le_refl _))) _ _ _ (.inr (by omega))
    ·exact (HK2.out.2.1.setCell HSZ.out _).setCell (by have:=HSZ.out;show _≤w.heap.size+1;omega) _
   have HFXN:=Aside0.mk hfin;clear hfin hP2 hE2 hE3 ke kef kp kpf;obtain ⟨wf,hwf⟩:∃ wf,wf=(w2.setCell ⟨w.heap.size,0,none⟩ (.int .i64 ((b.length:Int) - k))).setCell ⟨w.heap.size+1,0,none⟩ (.int .i64 20):=⟨_,rfl⟩;rw[←hwf] at hf1 hf2 HFXN ⊢;clear hwf;have kf1:wf.cell? ⟨w.heap.size,0,none⟩=some (.int .i64 ((b.length:Int) - k)):=(blk_cell hf1 0).trans rfl;have kf2:wf.cell? ⟨w.heap.size+1,0,none⟩=some (.int .i64 20):=(blk_cell hf2 0).trans rfl;clear hf1 hf2;simp[Leaves,settle,results,Try.results59,go_sem,kf1,kf2];exact HFXN.out
  ·refine HC.out.mono ?_;rintro e w2 ⟨hks,hbl,hy,hm⟩;simp only[hr] at hm;obtain ⟨rfl,hrs,hx⟩:=hm
   have hnS : ∀ k, k = w.heap.size ∨ k = w.heap.size + 1 → ¬ (k = w.heap.size + 1 + 1 ∨ S k) := fun k hk h => by
     rcases h with h|h
     ·omega
     ·have:=HST.out.1 k h;omega
   have hP2:=(hks.block w.heap.size (by rw[HB1.out.2];omega) (hnS _ (.inl rfl))).trans HBL.out.1;have hE2:=(hks.block (w.heap.size+1) (by rw[HB1.out.2];omega) (hnS _ (.inr rfl))).trans HBL.out.2;have kp:w2.cell? ⟨w.heap.size,0,none⟩=some (.int .i64 0):=(blk_cell hP2 0).trans rfl;have kpf:=blk_frozen hP2 0;have ke:w2.cell? ⟨w.heap.size+1,0,none⟩=some (.int .i64 0):=(blk_cell hE2 0).trans rfl;have kef:=blk_frozen hE2 0;have kr:w2.cell? ⟨w.heap.size+1+1,1,none⟩=some (.int .i64 (pl b l)):=(blk_cell hrs.blk 1).trans rfl;have hne:w.heap.size≠w.heap.size+1:=by omega
   have HK2:=Aside0.mk (And.intro hks (And.intro hbl (And.intro hy hx)));have HRS:=Aside0.mk hrs
   have HKS:Aside0 (∀ u v,Ks S w ((w2.setCell ⟨w.heap.size,0,none⟩ u).setCell ⟨w.heap.size+1,0,none⟩ v)∧Below w0.heap.size w0 ((w2.setCell ⟨w.heap.size,0,none⟩ u).setCell ⟨w.heap.size+1,0,none⟩ v)∧Y ((w2.setCell ⟨w.heap.size,0,none⟩ u).setCell ⟨w.heap.size+1,0,none⟩ v)∧X x ((w2.setCell ⟨w.heap.size,0,none⟩ u).setCell ⟨w.heap.size+1,0,none⟩ v)):=⟨fun u v=>by
    refine ⟨?_,?_,stable_set HST.out.2.2.1 (stable_set HST.out.2.2.1 hy _ (.inl rfl)) _ (.inr rfl),stable_set (HST.out.2.2.2 x) (stable_set (HST.out.2.2.2 x) hx _ (.inl rfl)) _ (.inr rfl)⟩
    ·refine Ks.set (Ks.set ⟨by have:=hks.size;have:=HB1.out.2;omega,fun i hi hs=>(hks.block i (by rw[HB1.out.2];omega) (fun h=>h.elim (fun h=>absurd h (by omega)) hs)).trans (HB1.out.1.block i hi)⟩ _ _ _ (.inr (Nat.le_refl _))) _ _ _ (.inr (by omega))
    ·exact (hbl.setCell HSZ.out _).setCell (by have:=HSZ.out;show _≤w.heap.size+1;omega) _⟩
   have HHE:Aside0 (∀ u v,((w2.setCell ⟨w.heap.size,0,none⟩ u).setCell ⟨w.heap.size+1,0,none⟩ v).heap[w.heap.size]?=some (.cells #[u] 3 (0,0))∧((w2.setCell ⟨w.heap.size,0,none⟩ u).setCell ⟨w.heap.size+1,0,none⟩ v).heap[w.heap.size+1]?=some (.cells #[v] 30 (0,0))):=⟨fun u v=>
    ⟨blk_far (blk_set hP2 0 u) (Ne.symm hne) 0 v,blk_set (blk_far hE2 hne 0 u) 0 v⟩⟩
   clear hks hbl hy hx hrs hnS hP2 hE2;rcases l with _|⟨d,l⟩
   ·have hpl:pl b []=(b.length:Int):=by unfold pl;simp
    rw[hpl] at kr;go_wp2_with fail
    refine leaves_cons (f:=96) (args := #[.pointer (some ⟨w.heap.size,0,none⟩),.pointer (some ⟨w.heap.size+1,0,none⟩)]) (by simp) (by simp[go_sem]) ?_;refine (catch_idle ⟨w.heap.size,0,none⟩ ⟨w.heap.size+1,0,none⟩ _).mono ?_;rintro e u' w3 ⟨rfl,rfl,rfl⟩;have hks:=HKS.out (.int .i64 (0)) (.int .i64 0);have hhe:=HHE.out (.int .i64 (0)) (.int .i64 0);obtain ⟨wf,hwf⟩:∃ wf,wf=(w2.setCell ⟨w.heap.size,0,none⟩ (.int .i64 (0))).setCell ⟨w.heap.size+1,0,none⟩ (.int .i64 0):=⟨_,rfl⟩;rw[←hwf] at hks hhe ⊢;clear hwf;have kf1:wf.cell? ⟨w.heap.size,0,none⟩=some (.int .i64 (0)):=(blk_cell hhe.1 0).trans rfl;have kf2:wf.cell? ⟨w.heap.size+1,0,none⟩=some (.int .i64 0):=(blk_cell hhe.2 0).trans rfl
    have HFXN:Aside0 (ReadP w0 w S b r Y X (.returned (.tuple #[.int .i64 (0),.int .i64 0])) wf):=⟨by
     rw[hr];exact ⟨hks.1,hks.2.1,hks.2.2.1,_,_,rfl,rfl,rfl,hks.2.2.2⟩⟩
    clear hks hhe;simp[Leaves,settle,results,Try.results59,go_sem,kf1,kf2];exact HFXN.out
   ·have hpl:pl b (d::l)<(b.length:Int):=by unfold pl;rw[List.length_cons];omega
    go_wp2_with fail
    refine leaves_cons (f:=96) (args := #[.pointer (some ⟨w.heap.size,0,none⟩),.pointer (some ⟨w.heap.size+1,0,none⟩)]) (by simp) (by simp[go_sem]) ?_;refine (catch_idle ⟨w.heap.size,0,none⟩ ⟨w.heap.size+1,0,none⟩ _).mono ?_;rintro e u' w3 ⟨rfl,rfl,rfl⟩;have hks:=HKS.out (.int .i64 (pl b (d::l))) (.int .i64 20);have hhe:=HHE.out (.int .i64 (pl b (d::l))) (.int .i64 20);obtain ⟨wf,hwf⟩:∃ wf,wf=(w2.setCell ⟨w.heap.size,0,none⟩ (.int .i64 (pl b (d::l)))).setCell ⟨w.heap.size+1,0,none⟩ (.int .i64 20):=⟨_,rfl⟩;rw[←hwf] at hks hhe ⊢;clear hwf;have kf1:wf.cell? ⟨w.heap.size,0,none⟩=some (.int .i64 (pl b (d::l))):=(blk_cell hhe.1 0).trans rfl;have kf2:wf.cell? ⟨w.heap.size+1,0,none⟩=some (.int .i64 20):=(blk_cell hhe.2 0).trans rfl
    have HFXN:Aside0 (ReadP w0 w S b r Y X (.returned (.tuple #[.int .i64 (pl b (d::l)),.int .i64 20])) wf):=⟨by
     rw[hr];exact ⟨hks.1,hks.2.1,hks.2.2.1,_,_,rfl,by unfold pl;rw[List.length_cons];omega,rfl⟩⟩
    clear hks hhe;simp[Leaves,settle,results,Try.results59,go_sem,kf1,kf2];exact HFXN.out
theorem read_seg {α : Type} (cb : Nat) (w0 w : World) (A : Option Addr) (c : Nat) (b : List Int) (S : Nat → Prop) (r : R α) (Y : World → Prop) (X : α → World → Prop) (hi : In w0 A c b) (hB : Below w0.heap.size w0 w)
    (hS:∀ k,S k→k<w.heap.size) (hS0:∀ k,S k→w0.heap.size≤k) (hY:Stable w.heap.size Y) (hX:∀ x,Stable w.heap.size (X x))
    (hf:∀ w1,Below w.heap.size w w1→w1.heap.size=w.heap.size+1+1+1→RS w0 w1 (w.heap.size+1+1) A c b b→Calls Try.prog 79 #[.pointer (some ⟨w.heap.size+1+1,0,none⟩),.pointer (some ⟨cb,0,none⟩)] w1 fun e w'=>Fld w0 w1 (w.heap.size+1+1) S A c b r Y X e w'):
    Calls Try.prog 59 #[.slice A b.length c,.func (Fn.func 79) #[] #[.pointer (some ⟨cb,0,none⟩)]] w fun e w'=>ReadP w0 w S b r Y X e w':=by
  have hmf:∀ (fn:Fn) (first cap:Array Value) (w:World),(Instr.makeFunc fn first cap).run Try.prog w = .ok (.func fn first cap) w:=fun _ _ _ _=>rfl;obtain ⟨w1,hw1⟩:∃ w1,w1=(((w.alloc (.cells #[.int .i64 0] 3 (0,0))).alloc (.cells #[.int .i64 0] 30 (0,0))).alloc (.cells #[.slice A b.length c,.int .i64 0] 141 (0,0))):=⟨_,rfl⟩;have HW1:=Aside0.mk hw1;have hb1:Below w.heap.size w w1:=by rw[hw1];exact ((al_below w _).alloc (by simp) _).alloc (by simp;omega) _
  have hs1:w1.heap.size=w.heap.size+1+1+1:=by rw[hw1];simp
  have hP:w1.heap[w.heap.size]?=some (.cells #[.int .i64 0] 3 (0,0)):=by
   rw[hw1,Below.heap_alloc _ _ _ (by simp;omega),Below.heap_alloc _ _ _ (by simp)];exact heap_alloc_new w _
  have hE:w1.heap[w.heap.size+1]?=some (.cells #[.int .i64 0] 30 (0,0)):=by
   rw[hw1,Below.heap_alloc _ _ _ (by simp)];have:=heap_alloc_new (w.alloc (.cells #[.int .i64 0] 3 (0,0))) (.cells #[.int .i64 0] 30 (0,0))
   simpa using this
  have hR:RS w0 w1 (w.heap.size+1+1) A c b b:=⟨by
   have:=heap_alloc_new ((w.alloc (.cells #[.int .i64 0] 3 (0,0))).alloc (.cells #[.int .i64 0] 30 (0,0))) (.cells #[.slice A b.length c,.int .i64 0] 141 (0,0));rw[hw1];unfold pl;rw[Int.sub_self]
   simpa using this,by have:=hB.size;omega,hB.trans (hb1.mono hB.size),⟨[],rfl⟩⟩
  have HC:=Aside0.mk (hf w1 hb1 hs1 hR);have HBL:=Aside0.mk (And.intro hP hE);have HB1:=Aside0.mk (And.intro hb1 hs1);have HST:=Aside0.mk (And.intro hS (And.intro hS0 (And.intro hY hX)));have HSZ:=Aside0.mk hB.size;have HBB:=Aside0.mk hB;have HI:=Aside0.mk hi;clear hw1 hf hP hE hb1 hs1 hS hS0 hY hX hR hB hi;go_enter_defers Try.func59,Try.ntmps59
  go_wp2_with fail
  rw[←HW1.out];rcases hr:r with k|⟨x,l⟩
  ·refine HC.out.mono ?_;rintro e w2 ⟨hks,hbl,hy,hm⟩;simp only[hr,pan] at hm;subst hm
   have hnS : ∀ k, k = w.heap.size ∨ k = w.heap.size + 1 → ¬ (k = w.heap.size + 1 + 1 ∨ S k) := fun k hk h => by
     rcases h with h|h
     ·omega
     ·have:=HST.out.1 k h;omega
   have hP2:=(hks.block w.heap.size (by rw[HB1.out.2];omega) (hnS _ (.inl rfl))).trans HBL.out.1;have hE2:=(hks.block (w.heap.size+1) (by rw[HB1.out.2];omega) (hnS _ (.inr rfl))).trans HBL.out.2;have HK2:=Aside0.mk (And.intro hks (And.intro hbl hy));clear hks hbl hy hnS;go_wp2_with fail
   have hne:w.heap.size≠w.heap.size+1:=by omega
   have kp:w2.cell? ⟨w.heap.size,0,none⟩=some (.int .i64 0):=(blk_cell hP2 0).trans rfl;have kpf:=blk_frozen hP2 0;have hE3:∀ v,(w2.setCell ⟨w.heap.size,0,none⟩ v).heap[w.heap.size+1]?=some (.cells #[.int .i64 0] 30 (0,0)):=fun v=>blk_far hE2 hne 0 v;have ke:=fun v=>(blk_cell (hE3 v) 0).trans (rfl:_=some (Value.int .i64 0));have kef:=fun v=>blk_frozen (hE3 v) 0;refine leaves_cons (f:=96) (args := #[.pointer (some ⟨w.heap.size,0,none⟩),.pointer (some ⟨w.heap.size+1,0,none⟩)]) (by simp) (by simp[go_sem]) ?_;refine (catch_pan ⟨w.heap.size,0,none⟩ ⟨w.heap.size+1,0,none⟩ 0 0 _ _ kp kpf (ke _) (kef _)).mono ?_;rintro e u' w3 ⟨rfl,rfl,rfl⟩;have hf1:=blk_far (blk_set hP2 0 (.int .i64 ((b.length:Int) - k))) (Ne.symm hne) 0 (.int .i64 20);have hf2:=blk_set (hE3 (.int .i64 ((b.length:Int) - k))) 0 (.int .i64 20)
   have hfin:ReadP w0 w S b r Y X (.returned (.tuple #[.int .i64 ((b.length:Int) - k),.int .i64 20])) ((w2.setCell ⟨w.heap.size,0,none⟩ (.int .i64 ((b.length:Int) - k))).setCell ⟨w.heap.size+1,0,none⟩ (.int .i64 20)):=by
    rw[hr];refine ⟨?_,?_,stable_set HST.out.2.2.1 (stable_set HST.out.2.2.1 HK2.out.2.2 _ (.inl rfl)) _ (.inr rfl),_,_,rfl,rfl,rfl⟩
    ·refine Ks.set (Ks.set ⟨by have:=HK2.out.1.size;have:=HB1.out.2;omega,fun i hi hs=>(HK2.out.1.block i (by rw[HB1.out.2];omega) (fun h=>h.elim (fun h=>absurd h (by omega)) hs)).trans (HB1.out.1.block i hi)⟩ _ _ _ (.inr (Nat.le_refl _))) _ _ _ (.inr (by omega))
    ·exact (HK2.out.2.1.setCell HSZ.out _).setCell (by have:=HSZ.out;show _≤w.heap.size+1;omega) _
   have HFXN:=Aside0.mk hfin;clear hfin hP2 hE2 hE3 ke kef kp kpf;obtain ⟨wf,hwf⟩:∃ wf,wf=(w2.setCell ⟨w.heap.size,0,none⟩ (.int .i64 ((b.length:Int) - k))).setCell ⟨w.heap.size+1,0,none⟩ (.int .i64 20):=⟨_,rfl⟩;rw[←hwf] at hf1 hf2 HFXN ⊢;clear hwf;have kf1:wf.cell? ⟨w.heap.size,0,none⟩=some (.int .i64 ((b.length:Int) - k)):=(blk_cell hf1 0).trans rfl;have kf2:wf.cell? ⟨w.heap.size+1,0,none⟩=some (.int .i64 20):=(blk_cell hf2 0).trans rfl;clear hf1 hf2;simp[Leaves,settle,results,Try.results59,go_sem,kf1,kf2];exact HFXN.out
  ·refine HC.out.mono ?_;rintro e w2 ⟨hks,hbl,hy,hm⟩;simp only[hr] at hm;obtain ⟨rfl,hrs,hx⟩:=hm
   have hnS : ∀ k, k = w.heap.size ∨ k = w.heap.size + 1 → ¬ (k = w.heap.size + 1 + 1 ∨ S k) := fun k hk h => by
     rcases h with h|h
     ·omega
     ·have:=HST.out.1 k h;omega
   have hP2:=(hks.block w.heap.size (by rw[HB1.out.2];omega) (hnS _ (.inl rfl))).trans HBL.out.1;have hE2:=(hks.block (w.heap.size+1) (by rw[HB1.out.2];omega) (hnS _ (.inr rfl))).trans HBL.out.2;have kp:w2.cell? ⟨w.heap.size,0,none⟩=some (.int .i64 0):=(blk_cell hP2 0).trans rfl;have kpf:=blk_frozen hP2 0;have ke:w2.cell? ⟨w.heap.size+1,0,none⟩=some (.int .i64 0):=(blk_cell hE2 0).trans rfl;have kef:=blk_frozen hE2 0;have kr:w2.cell? ⟨w.heap.size+1+1,1,none⟩=some (.int .i64 (pl b l)):=(blk_cell hrs.blk 1).trans rfl;have hne:w.heap.size≠w.heap.size+1:=by omega
   have HK2:=Aside0.mk (And.intro hks (And.intro hbl (And.intro hy hx)));have HRS:=Aside0.mk hrs
   have HKS:Aside0 (∀ u v,Ks S w ((w2.setCell ⟨w.heap.size,0,none⟩ u).setCell ⟨w.heap.size+1,0,none⟩ v)∧Below w0.heap.size w0 ((w2.setCell ⟨w.heap.size,0,none⟩ u).setCell ⟨w.heap.size+1,0,none⟩ v)∧Y ((w2.setCell ⟨w.heap.size,0,none⟩ u).setCell ⟨w.heap.size+1,0,none⟩ v)∧X x ((w2.setCell ⟨w.heap.size,0,none⟩ u).setCell ⟨w.heap.size+1,0,none⟩ v)):=⟨fun u v=>by
    refine ⟨?_,?_,stable_set HST.out.2.2.1 (stable_set HST.out.2.2.1 hy _ (.inl rfl)) _ (.inr rfl),stable_set (HST.out.2.2.2 x) (stable_set (HST.out.2.2.2 x) hx _ (.inl rfl)) _ (.inr rfl)⟩
    ·refine Ks.set (Ks.set ⟨by have:=hks.size;have:=HB1.out.2;omega,fun i hi hs=>(hks.block i (by rw[HB1.out.2];omega) (fun h=>h.elim (fun h=>absurd h (by omega)) hs)).trans (HB1.out.1.block i hi)⟩ _ _ _ (.inr (Nat.le_refl _))) _ _ _ (.inr (by omega))
    ·exact (hbl.setCell HSZ.out _).setCell (by have:=HSZ.out;show _≤w.heap.size+1;omega) _⟩
   have HHE:Aside0 (∀ u v,((w2.setCell ⟨w.heap.size,0,none⟩ u).setCell ⟨w.heap.size+1,0,none⟩ v).heap[w.heap.size]?=some (.cells #[u] 3 (0,0))∧((w2.setCell ⟨w.heap.size,0,none⟩ u).setCell ⟨w.heap.size+1,0,none⟩ v).heap[w.heap.size+1]?=some (.cells #[v] 30 (0,0))):=⟨fun u v=>
    ⟨blk_far (blk_set hP2 0 u) (Ne.symm hne) 0 v,blk_set (blk_far hE2 hne 0 u) 0 v⟩⟩
   clear hks hbl hy hx hrs hnS hP2 hE2;rcases l with _|⟨d,l⟩
   ·have hpl:pl b []=(b.length:Int):=by unfold pl;simp
    rw[hpl] at kr;go_wp2_with fail
    refine leaves_cons (f:=96) (args := #[.pointer (some ⟨w.heap.size,0,none⟩),.pointer (some ⟨w.heap.size+1,0,none⟩)]) (by simp) (by simp[go_sem]) ?_;refine (catch_idle ⟨w.heap.size,0,none⟩ ⟨w.heap.size+1,0,none⟩ _).mono ?_;rintro e u' w3 ⟨rfl,rfl,rfl⟩;have hks:=HKS.out (.int .i64 (0)) (.int .i64 0);have hhe:=HHE.out (.int .i64 (0)) (.int .i64 0);obtain ⟨wf,hwf⟩:∃ wf,wf=(w2.setCell ⟨w.heap.size,0,none⟩ (.int .i64 (0))).setCell ⟨w.heap.size+1,0,none⟩ (.int .i64 0):=⟨_,rfl⟩;rw[←hwf] at hks hhe ⊢;clear hwf;have kf1:wf.cell? ⟨w.heap.size,0,none⟩=some (.int .i64 (0)):=(blk_cell hhe.1 0).trans rfl;have kf2:wf.cell? ⟨w.heap.size+1,0,none⟩=some (.int .i64 0):=(blk_cell hhe.2 0).trans rfl
    have HFXN:Aside0 (ReadP w0 w S b r Y X (.returned (.tuple #[.int .i64 (0),.int .i64 0])) wf):=⟨by
     rw[hr];exact ⟨hks.1,hks.2.1,hks.2.2.1,_,_,rfl,rfl,rfl,hks.2.2.2⟩⟩
    clear hks hhe;simp[Leaves,settle,results,Try.results59,go_sem,kf1,kf2];exact HFXN.out
   ·have hpl:pl b (d::l)<(b.length:Int):=by unfold pl;rw[List.length_cons];omega
    go_wp2_with fail
    refine leaves_cons (f:=96) (args := #[.pointer (some ⟨w.heap.size,0,none⟩),.pointer (some ⟨w.heap.size+1,0,none⟩)]) (by simp) (by simp[go_sem]) ?_;refine (catch_idle ⟨w.heap.size,0,none⟩ ⟨w.heap.size+1,0,none⟩ _).mono ?_;rintro e u' w3 ⟨rfl,rfl,rfl⟩;have hks:=HKS.out (.int .i64 (pl b (d::l))) (.int .i64 20);have hhe:=HHE.out (.int .i64 (pl b (d::l))) (.int .i64 20);obtain ⟨wf,hwf⟩:∃ wf,wf=(w2.setCell ⟨w.heap.size,0,none⟩ (.int .i64 (pl b (d::l)))).setCell ⟨w.heap.size+1,0,none⟩ (.int .i64 20):=⟨_,rfl⟩;rw[←hwf] at hks hhe ⊢;clear hwf;have kf1:wf.cell? ⟨w.heap.size,0,none⟩=some (.int .i64 (pl b (d::l))):=(blk_cell hhe.1 0).trans rfl;have kf2:wf.cell? ⟨w.heap.size+1,0,none⟩=some (.int .i64 20):=(blk_cell hhe.2 0).trans rfl
    have HFXN:Aside0 (ReadP w0 w S b r Y X (.returned (.tuple #[.int .i64 (pl b (d::l)),.int .i64 20])) wf):=⟨by
     rw[hr];exact ⟨hks.1,hks.2.1,hks.2.2.1,_,_,rfl,by unfold pl;rw[List.length_cons];omega,rfl⟩⟩
    clear hks hhe;simp[Leaves,settle,results,Try.results59,go_sem,kf1,kf2];exact HFXN.out
theorem read_req {α : Type} (cb db : Nat) (w0 w : World) (A : Option Addr) (c : Nat) (b : List Int) (S : Nat → Prop) (r : R α) (Y : World → Prop) (X : α → World → Prop) (hi : In w0 A c b) (hB : Below w0.heap.size w0 w)
    (hS:∀ k,S k→k<w.heap.size) (hS0:∀ k,S k→w0.heap.size≤k) (hY:Stable w.heap.size Y) (hX:∀ x,Stable w.heap.size (X x))
    (hf:∀ w1,Below w.heap.size w w1→w1.heap.size=w.heap.size+1+1+1→RS w0 w1 (w.heap.size+1+1) A c b b→Calls Try.prog 82 #[.pointer (some ⟨w.heap.size+1+1,0,none⟩),.pointer (some ⟨cb,0,none⟩),.pointer (some ⟨db,0,none⟩)] w1 fun e w'=>Fld w0 w1 (w.heap.size+1+1) S A c b r Y X e w'):
    Calls Try.prog 59 #[.slice A b.length c,.func (Fn.func 82) #[] #[.pointer (some ⟨cb,0,none⟩),.pointer (some ⟨db,0,none⟩)]] w fun e w'=>ReadP w0 w S b r Y X e w':=by
  have hmf:∀ (fn:Fn) (first cap:Array Value) (w:World),(Instr.makeFunc fn first cap).run Try.prog w = .ok (.func fn first cap) w:=fun _ _ _ _=>rfl;obtain ⟨w1,hw1⟩:∃ w1,w1=(((w.alloc (.cells #[.int .i64 0] 3 (0,0))).alloc (.cells #[.int .i64 0] 30 (0,0))).alloc (.cells #[.slice A b.length c,.int .i64 0] 141 (0,0))):=⟨_,rfl⟩;have HW1:=Aside0.mk hw1;have hb1:Below w.heap.size w w1:=by rw[hw1];exact ((al_below w _).alloc (by simp) _).alloc (by simp;omega) _
  have hs1:w1.heap.size=w.heap.size+1+1+1:=by rw[hw1];simp
  have hP:w1.heap[w.heap.size]?=some (.cells #[.int .i64 0] 3 (0,0)):=by
   rw[hw1,Below.heap_alloc _ _ _ (by simp;omega),Below.heap_alloc _ _ _ (by simp)];exact heap_alloc_new w _
  have hE:w1.heap[w.heap.size+1]?=some (.cells #[.int .i64 0] 30 (0,0)):=by
   rw[hw1,Below.heap_alloc _ _ _ (by simp)];have:=heap_alloc_new (w.alloc (.cells #[.int .i64 0] 3 (0,0))) (.cells #[.int .i64 0] 30 (0,0))
   simpa using this
  have hR:RS w0 w1 (w.heap.size+1+1) A c b b:=⟨by
   have:=heap_alloc_new ((w.alloc (.cells #[.int .i64 0] 3 (0,0))).alloc (.cells #[.int .i64 0] 30 (0,0))) (.cells #[.slice A b.length c,.int .i64 0] 141 (0,0));rw[hw1];unfold pl;rw[Int.sub_self]
   simpa using this,by have:=hB.size;omega,hB.trans (hb1.mono hB.size),⟨[],rfl⟩⟩
  have HC:=Aside0.mk (hf w1 hb1 hs1 hR);have HBL:=Aside0.mk (And.intro hP hE);have HB1:=Aside0.mk (And.intro hb1 hs1);have HST:=Aside0.mk (And.intro hS (And.intro hS0 (And.intro hY hX)));have HSZ:=Aside0.mk hB.size;have HBB:=Aside0.mk hB;have HI:=Aside0.mk hi;clear hw1 hf hP hE hb1 hs1 hS hS0 hY hX hR hB hi;go_enter_defers Try.func59,Try.ntmps59
  go_wp2_with fail
  rw[←HW1.out];rcases hr:r with k|⟨x,l⟩
  ·refine HC.out.mono ?_;rintro e w2 ⟨hks,hbl,hy,hm⟩;simp only[hr,pan] at hm;subst hm
   have hnS : ∀ k, k = w.heap.size ∨ k = w.heap.size + 1 → ¬ (k = w.heap.size + 1 + 1 ∨ S k) := fun k hk h => by
     rcases h with h|h
     ·omega
     ·have:=HST.out.1 k h;omega
   have hP2:=(hks.block w.heap.size (by rw[HB1.out.2];omega) (hnS _ (.inl rfl))).trans HBL.out.1;have hE2:=(hks.block (w.heap.size+1) (by rw[HB1.out.2];omega) (hnS _ (.inr rfl))).trans HBL.out.2;have HK2:=Aside0.mk (And.intro hks (And.intro hbl hy));clear hks hbl hy hnS;go_wp2_with fail
   have hne:w.heap.size≠w.heap.size+1:=by omega
   have kp:w2.cell? ⟨w.heap.size,0,none⟩=some (.int .i64 0):=(blk_cell hP2 0).trans rfl;have kpf:=blk_frozen hP2 0;have hE3:∀ v,(w2.setCell ⟨w.heap.size,0,none⟩ v).heap[w.heap.size+1]?=some (.cells #[.int .i64 0] 30 (0,0)):=fun v=>blk_far hE2 hne 0 v;have ke:=fun v=>(blk_cell (hE3 v) 0).trans (rfl:_=some (Value.int .i64 0));have kef:=fun v=>blk_frozen (hE3 v) 0;refine leaves_cons (f:=96) (args := #[.pointer (some ⟨w.heap.size,0,none⟩),.pointer (some ⟨w.heap.size+1,0,none⟩)]) (by simp) (by simp[go_sem]) ?_;refine (catch_pan ⟨w.heap.size,0,none⟩ ⟨w.heap.size+1,0,none⟩ 0 0 _ _ kp kpf (ke _) (kef _)).mono ?_;rintro e u' w3 ⟨rfl,rfl,rfl⟩;have hf1:=blk_far (blk_set hP2 0 (.int .i64 ((b.length:Int) - k))) (Ne.symm hne) 0 (.int .i64 20);have hf2:=blk_set (hE3 (.int .i64 ((b.length:Int) - k))) 0 (.int .i64 20)
   have hfin:ReadP w0 w S b r Y X (.returned (.tuple #[.int .i64 ((b.length:Int) - k),.int .i64 20])) ((w2.setCell ⟨w.heap.size,0,none⟩ (.int .i64 ((b.length:Int) - k))).setCell ⟨w.heap.size+1,0,none⟩ (.int .i64 20)):=by
    rw[hr];refine ⟨?_,?_,stable_set HST.out.2.2.1 (stable_set HST.out.2.2.1 HK2.out.2.2 _ (.inl rfl)) _ (.inr rfl),_,_,rfl,rfl,rfl⟩
    ·refine Ks.set (Ks.set ⟨by have:=HK2.out.1.size;have:=HB1.out.2;omega,fun i hi hs=>(HK2.out.1.block i (by rw[HB1.out.2];omega) (fun h=>h.elim (fun h=>absurd h (by omega)) hs)).trans (HB1.out.1.block i hi)⟩ _ _ _ (.inr (Nat.le_refl _))) _ _ _ (.inr (by omega))
    ·exact (HK2.out.2.1.setCell HSZ.out _).setCell (by have:=HSZ.out;show _≤w.heap.size+1;omega) _
   have HFXN:=Aside0.mk hfin;clear hfin hP2 hE2 hE3 ke kef kp kpf;obtain ⟨wf,hwf⟩:∃ wf,wf=(w2.setCell ⟨w.heap.size,0,none⟩ (.int .i64 ((b.length:Int) - k))).setCell ⟨w.heap.size+1,0,none⟩ (.int .i64 20):=⟨_,rfl⟩;rw[←hwf] at hf1 hf2 HFXN ⊢;clear hwf;have kf1:wf.cell? ⟨w.heap.size,0,none⟩=some (.int .i64 ((b.length:Int) - k)):=(blk_cell hf1 0).trans rfl;have kf2:wf.cell? ⟨w.heap.size+1,0,none⟩=some (.int .i64 20):=(blk_cell hf2 0).trans rfl;clear hf1 hf2;simp[Leaves,settle,results,Try.results59,go_sem,kf1,kf2];exact HFXN.out
  ·refine HC.out.mono ?_;rintro e w2 ⟨hks,hbl,hy,hm⟩;simp only[hr] at hm;obtain ⟨rfl,hrs,hx⟩:=hm
   have hnS : ∀ k, k = w.heap.size ∨ k = w.heap.size + 1 → ¬ (k = w.heap.size + 1 + 1 ∨ S k) := fun k hk h => by
     rcases h with h|h
     ·omega
     ·have:=HST.out.1 k h;omega
   have hP2:=(hks.block w.heap.size (by rw[HB1.out.2];omega) (hnS _ (.inl rfl))).trans HBL.out.1;have hE2:=(hks.block (w.heap.size+1) (by rw[HB1.out.2];omega) (hnS _ (.inr rfl))).trans HBL.out.2;have kp:w2.cell? ⟨w.heap.size,0,none⟩=some (.int .i64 0):=(blk_cell hP2 0).trans rfl;have kpf:=blk_frozen hP2 0;have ke:w2.cell? ⟨w.heap.size+1,0,none⟩=some (.int .i64 0):=(blk_cell hE2 0).trans rfl;have kef:=blk_frozen hE2 0;have kr:w2.cell? ⟨w.heap.size+1+1,1,none⟩=some (.int .i64 (pl b l)):=(blk_cell hrs.blk 1).trans rfl;have hne:w.heap.size≠w.heap.size+1:=by omega
   have HK2:=Aside0.mk (And.intro hks (And.intro hbl (And.intro hy hx)));have HRS:=Aside0.mk hrs
   have HKS:Aside0 (∀ u v,Ks S w ((w2.setCell ⟨w.heap.size,0,none⟩ u).setCell ⟨w.heap.size+1,0,none⟩ v)∧Below w0.heap.size w0 ((w2.setCell ⟨w.heap.size,0,none⟩ u).setCell ⟨w.heap.size+1,0,none⟩ v)∧Y ((w2.setCell ⟨w.heap.size,0,none⟩ u).setCell ⟨w.heap.size+1,0,none⟩ v)∧X x ((w2.setCell ⟨w.heap.size,0,none⟩ u).setCell ⟨w.heap.size+1,0,none⟩ v)):=⟨fun u v=>by
    refine ⟨?_,?_,stable_set HST.out.2.2.1 (stable_set HST.out.2.2.1 hy _ (.inl rfl)) _ (.inr rfl),stable_set (HST.out.2.2.2 x) (stable_set (HST.out.2.2.2 x) hx _ (.inl rfl)) _ (.inr rfl)⟩
    ·refine Ks.set (Ks.set ⟨by have:=hks.size;have:=HB1.out.2;omega,fun i hi hs=>(hks.block i (by rw[HB1.out.2];omega) (fun h=>h.elim (fun h=>absurd h (by omega)) hs)).trans (HB1.out.1.block i hi)⟩ _ _ _ (.inr (Nat.le_refl _))) _ _ _ (.inr (by omega))
    ·exact (hbl.setCell HSZ.out _).setCell (by have:=HSZ.out;show _≤w.heap.size+1;omega) _⟩
   have HHE:Aside0 (∀ u v,((w2.setCell ⟨w.heap.size,0,none⟩ u).setCell ⟨w.heap.size+1,0,none⟩ v).heap[w.heap.size]?=some (.cells #[u] 3 (0,0))∧((w2.setCell ⟨w.heap.size,0,none⟩ u).setCell ⟨w.heap.size+1,0,none⟩ v).heap[w.heap.size+1]?=some (.cells #[v] 30 (0,0))):=⟨fun u v=>
    ⟨blk_far (blk_set hP2 0 u) (Ne.symm hne) 0 v,blk_set (blk_far hE2 hne 0 u) 0 v⟩⟩
   clear hks hbl hy hx hrs hnS hP2 hE2;rcases l with _|⟨d,l⟩
   ·have hpl:pl b []=(b.length:Int):=by unfold pl;simp
    rw[hpl] at kr;go_wp2_with fail
    refine leaves_cons (f:=96) (args := #[.pointer (some ⟨w.heap.size,0,none⟩),.pointer (some ⟨w.heap.size+1,0,none⟩)]) (by simp) (by simp[go_sem]) ?_;refine (catch_idle ⟨w.heap.size,0,none⟩ ⟨w.heap.size+1,0,none⟩ _).mono ?_;rintro e u' w3 ⟨rfl,rfl,rfl⟩;have hks:=HKS.out (.int .i64 (0)) (.int .i64 0);have hhe:=HHE.out (.int .i64 (0)) (.int .i64 0);obtain ⟨wf,hwf⟩:∃ wf,wf=(w2.setCell ⟨w.heap.size,0,none⟩ (.int .i64 (0))).setCell ⟨w.heap.size+1,0,none⟩ (.int .i64 0):=⟨_,rfl⟩;rw[←hwf] at hks hhe ⊢;clear hwf;have kf1:wf.cell? ⟨w.heap.size,0,none⟩=some (.int .i64 (0)):=(blk_cell hhe.1 0).trans rfl;have kf2:wf.cell? ⟨w.heap.size+1,0,none⟩=some (.int .i64 0):=(blk_cell hhe.2 0).trans rfl
    have HFXN:Aside0 (ReadP w0 w S b r Y X (.returned (.tuple #[.int .i64 (0),.int .i64 0])) wf):=⟨by
     rw[hr];exact ⟨hks.1,hks.2.1,hks.2.2.1,_,_,rfl,rfl,rfl,hks.2.2.2⟩⟩
    clear hks hhe;simp[Leaves,settle,results,Try.results59,go_sem,kf1,kf2];exact HFXN.out
   ·have hpl:pl b (d::l)<(b.length:Int):=by unfold pl;rw[List.length_cons];omega
    go_wp2_with fail
    refine leaves_cons (f:=96) (args := #[.pointer (some ⟨w.heap.size,0,none⟩),.pointer (some ⟨w.heap.size+1,0,none⟩)]) (by simp) (by simp[go_sem]) ?_;refine (catch_idle ⟨w.heap.size,0,none⟩ ⟨w.heap.size+1,0,none⟩ _).mono ?_;rintro e u' w3 ⟨rfl,rfl,rfl⟩;have hks:=HKS.out (.int .i64 (pl b (d::l))) (.int .i64 20);have hhe:=HHE.out (.int .i64 (pl b (d::l))) (.int .i64 20);obtain ⟨wf,hwf⟩:∃ wf,wf=(w2.setCell ⟨w.heap.size,0,none⟩ (.int .i64 (pl b (d::l)))).setCell ⟨w.heap.size+1,0,none⟩ (.int .i64 20):=⟨_,rfl⟩;rw[←hwf] at hks hhe ⊢;clear hwf;have kf1:wf.cell? ⟨w.heap.size,0,none⟩=some (.int .i64 (pl b (d::l))):=(blk_cell hhe.1 0).trans rfl;have kf2:wf.cell? ⟨w.heap.size+1,0,none⟩=some (.int .i64 20):=(blk_cell hhe.2 0).trans rfl
    have HFXN:Aside0 (ReadP w0 w S b r Y X (.returned (.tuple #[.int .i64 (pl b (d::l)),.int .i64 20])) wf):=⟨by
     rw[hr];exact ⟨hks.1,hks.2.1,hks.2.2.1,_,_,rfl,by unfold pl;rw[List.length_cons];omega,rfl⟩⟩
    clear hks hhe;simp[Leaves,settle,results,Try.results59,go_sem,kf1,kf2];exact HFXN.out
theorem read_rep {α : Type} (cb : Nat) (w0 w : World) (A : Option Addr) (c : Nat) (b : List Int) (S : Nat → Prop) (r : R α) (Y : World → Prop) (X : α → World → Prop) (hi : In w0 A c b) (hB : Below w0.heap.size w0 w)
    (hS:∀ k,S k→k<w.heap.size) (hS0:∀ k,S k→w0.heap.size≤k) (hY:Stable w.heap.size Y) (hX:∀ x,Stable w.heap.size (X x))
    (hf:∀ w1,Below w.heap.size w w1→w1.heap.size=w.heap.size+1+1+1→RS w0 w1 (w.heap.size+1+1) A c b b→Calls Try.prog 86 #[.pointer (some ⟨w.heap.size+1+1,0,none⟩),.pointer (some ⟨cb,0,none⟩)] w1 fun e w'=>Fld w0 w1 (w.heap.size+1+1) S A c b r Y X e w'):
    Calls Try.prog 59 #[.slice A b.length c,.func (Fn.func 86) #[] #[.pointer (some ⟨cb,0,none⟩)]] w fun e w'=>ReadP w0 w S b r Y X e w':=by
  have hmf:∀ (fn:Fn) (first cap:Array Value) (w:World),(Instr.makeFunc fn first cap).run Try.prog w = .ok (.func fn first cap) w:=fun _ _ _ _=>rfl;obtain ⟨w1,hw1⟩:∃ w1,w1=(((w.alloc (.cells #[.int .i64 0] 3 (0,0))).alloc (.cells #[.int .i64 0] 30 (0,0))).alloc (.cells #[.slice A b.length c,.int .i64 0] 141 (0,0))):=⟨_,rfl⟩;have HW1:=Aside0.mk hw1;have hb1:Below w.heap.size w w1:=by rw[hw1];exact ((al_below w _).alloc (by simp) _).alloc (by simp;omega) _
  have hs1:w1.heap.size=w.heap.size+1+1+1:=by rw[hw1];simp
  have hP:w1.heap[w.heap.size]?=some (.cells #[.int .i64 0] 3 (0,0)):=by
   rw[hw1,Below.heap_alloc _ _ _ (by simp;omega),Below.heap_alloc _ _ _ (by simp)];exact heap_alloc_new w _
  have hE:w1.heap[w.heap.size+1]?=some (.cells #[.int .i64 0] 30 (0,0)):=by
   rw[hw1,Below.heap_alloc _ _ _ (by simp)];have:=heap_alloc_new (w.alloc (.cells #[.int .i64 0] 3 (0,0))) (.cells #[.int .i64 0] 30 (0,0))
   simpa using this
  have hR:RS w0 w1 (w.heap.size+1+1) A c b b:=⟨by
   have:=heap_alloc_new ((w.alloc (.cells #[.int .i64 0] 3 (0,0))).alloc (.cells #[.int .i64 0] 30 (0,0))) (.cells #[.slice A b.length c,.int .i64 0] 141 (0,0));rw[hw1];unfold pl;rw[Int.sub_self]
   simpa using this,by have:=hB.size;omega,hB.trans (hb1.mono hB.size),⟨[],rfl⟩⟩
  have HC:=Aside0.mk (hf w1 hb1 hs1 hR);have HBL:=Aside0.mk (And.intro hP hE);have HB1:=Aside0.mk (And.intro hb1 hs1);have HST:=Aside0.mk (And.intro hS (And.intro hS0 (And.intro hY hX)));have HSZ:=Aside0.mk hB.size;have HBB:=Aside0.mk hB;have HI:=Aside0.mk hi;clear hw1 hf hP hE hb1 hs1 hS hS0 hY hX hR hB hi;go_enter_defers Try.func59,Try.ntmps59
  go_wp2_with fail
  rw[←HW1.out];rcases hr:r with k|⟨x,l⟩
  ·refine HC.out.mono ?_;rintro e w2 ⟨hks,hbl,hy,hm⟩;simp only[hr,pan] at hm;subst hm
   have hnS : ∀ k, k = w.heap.size ∨ k = w.heap.size + 1 → ¬ (k = w.heap.size + 1 + 1 ∨ S k) := fun k hk h => by
     rcases h with h|h
     ·omega
     ·have:=HST.out.1 k h;omega
   have hP2:=(hks.block w.heap.size (by rw[HB1.out.2];omega) (hnS _ (.inl rfl))).trans HBL.out.1;have hE2:=(hks.block (w.heap.size+1) (by rw[HB1.out.2];omega) (hnS _ (.inr rfl))).trans HBL.out.2;have HK2:=Aside0.mk (And.intro hks (And.intro hbl hy));clear hks hbl hy hnS;go_wp2_with fail
   have hne:w.heap.size≠w.heap.size+1:=by omega
   have kp:w2.cell? ⟨w.heap.size,0,none⟩=some (.int .i64 0):=(blk_cell hP2 0).trans rfl;have kpf:=blk_frozen hP2 0;have hE3:∀ v,(w2.setCell ⟨w.heap.size,0,none⟩ v).heap[w.heap.size+1]?=some (.cells #[.int .i64 0] 30 (0,0)):=fun v=>blk_far hE2 hne 0 v;have ke:=fun v=>(blk_cell (hE3 v) 0).trans (rfl:_=some (Value.int .i64 0));have kef:=fun v=>blk_frozen (hE3 v) 0;refine leaves_cons (f:=96) (args := #[.pointer (some ⟨w.heap.size,0,none⟩),.pointer (some ⟨w.heap.size+1,0,none⟩)]) (by simp) (by simp[go_sem]) ?_;refine (catch_pan ⟨w.heap.size,0,none⟩ ⟨w.heap.size+1,0,none⟩ 0 0 _ _ kp kpf (ke _) (kef _)).mono ?_;rintro e u' w3 ⟨rfl,rfl,rfl⟩;have hf1:=blk_far (blk_set hP2 0 (.int .i64 ((b.length:Int) - k))) (Ne.symm hne) 0 (.int .i64 20);have hf2:=blk_set (hE3 (.int .i64 ((b.length:Int) - k))) 0 (.int .i64 20)
   have hfin:ReadP w0 w S b r Y X (.returned (.tuple #[.int .i64 ((b.length:Int) - k),.int .i64 20])) ((w2.setCell ⟨w.heap.size,0,none⟩ (.int .i64 ((b.length:Int) - k))).setCell ⟨w.heap.size+1,0,none⟩ (.int .i64 20)):=by
    rw[hr];refine ⟨?_,?_,stable_set HST.out.2.2.1 (stable_set HST.out.2.2.1 HK2.out.2.2 _ (.inl rfl)) _ (.inr rfl),_,_,rfl,rfl,rfl⟩
    ·refine Ks.set (Ks.set ⟨by have:=HK2.out.1.size;have:=HB1.out.2;omega,fun i hi hs=>(HK2.out.1.block i (by rw[HB1.out.2];omega) (fun h=>h.elim (fun h=>absurd h (by omega)) hs)).trans (HB1.out.1.block i hi)⟩ _ _ _ (.inr (Nat.le_refl _))) _ _ _ (.inr (by omega))
    ·exact (HK2.out.2.1.setCell HSZ.out _).setCell (by have:=HSZ.out;show _≤w.heap.size+1;omega) _
   have HFXN:=Aside0.mk hfin;clear hfin hP2 hE2 hE3 ke kef kp kpf;obtain ⟨wf,hwf⟩:∃ wf,wf=(w2.setCell ⟨w.heap.size,0,none⟩ (.int .i64 ((b.length:Int) - k))).setCell ⟨w.heap.size+1,0,none⟩ (.int .i64 20):=⟨_,rfl⟩;rw[←hwf] at hf1 hf2 HFXN ⊢;clear hwf;have kf1:wf.cell? ⟨w.heap.size,0,none⟩=some (.int .i64 ((b.length:Int) - k)):=(blk_cell hf1 0).trans rfl;have kf2:wf.cell? ⟨w.heap.size+1,0,none⟩=some (.int .i64 20):=(blk_cell hf2 0).trans rfl;clear hf1 hf2;simp[Leaves,settle,results,Try.results59,go_sem,kf1,kf2];exact HFXN.out
  ·refine HC.out.mono ?_;rintro e w2 ⟨hks,hbl,hy,hm⟩;simp only[hr] at hm;obtain ⟨rfl,hrs,hx⟩:=hm
   have hnS : ∀ k, k = w.heap.size ∨ k = w.heap.size + 1 → ¬ (k = w.heap.size + 1 + 1 ∨ S k) := fun k hk h => by
     rcases h with h|h
     ·omega
     ·have:=HST.out.1 k h;omega
   have hP2:=(hks.block w.heap.size (by rw[HB1.out.2];omega) (hnS _ (.inl rfl))).trans HBL.out.1;have hE2:=(hks.block (w.heap.size+1) (by rw[HB1.out.2];omega) (hnS _ (.inr rfl))).trans HBL.out.2;have kp:w2.cell? ⟨w.heap.size,0,none⟩=some (.int .i64 0):=(blk_cell hP2 0).trans rfl;have kpf:=blk_frozen hP2 0;have ke:w2.cell? ⟨w.heap.size+1,0,none⟩=some (.int .i64 0):=(blk_cell hE2 0).trans rfl;have kef:=blk_frozen hE2 0;have kr:w2.cell? ⟨w.heap.size+1+1,1,none⟩=some (.int .i64 (pl b l)):=(blk_cell hrs.blk 1).trans rfl;have hne:w.heap.size≠w.heap.size+1:=by omega
   have HK2:=Aside0.mk (And.intro hks (And.intro hbl (And.intro hy hx)));have HRS:=Aside0.mk hrs
   have HKS:Aside0 (∀ u v,Ks S w ((w2.setCell ⟨w.heap.size,0,none⟩ u).setCell ⟨w.heap.size+1,0,none⟩ v)∧Below w0.heap.size w0 ((w2.setCell ⟨w.heap.size,0,none⟩ u).setCell ⟨w.heap.size+1,0,none⟩ v)∧Y ((w2.setCell ⟨w.heap.size,0,none⟩ u).setCell ⟨w.heap.size+1,0,none⟩ v)∧X x ((w2.setCell ⟨w.heap.size,0,none⟩ u).setCell ⟨w.heap.size+1,0,none⟩ v)):=⟨fun u v=>by
    refine ⟨?_,?_,stable_set HST.out.2.2.1 (stable_set HST.out.2.2.1 hy _ (.inl rfl)) _ (.inr rfl),stable_set (HST.out.2.2.2 x) (stable_set (HST.out.2.2.2 x) hx _ (.inl rfl)) _ (.inr rfl)⟩
    ·refine Ks.set (Ks.set ⟨by have:=hks.size;have:=HB1.out.2;omega,fun i hi hs=>(hks.block i (by rw[HB1.out.2];omega) (fun h=>h.elim (fun h=>absurd h (by omega)) hs)).trans (HB1.out.1.block i hi)⟩ _ _ _ (.inr (Nat.le_refl _))) _ _ _ (.inr (by omega))
    ·exact (hbl.setCell HSZ.out _).setCell (by have:=HSZ.out;show _≤w.heap.size+1;omega) _⟩
   have HHE:Aside0 (∀ u v,((w2.setCell ⟨w.heap.size,0,none⟩ u).setCell ⟨w.heap.size+1,0,none⟩ v).heap[w.heap.size]?=some (.cells #[u] 3 (0,0))∧((w2.setCell ⟨w.heap.size,0,none⟩ u).setCell ⟨w.heap.size+1,0,none⟩ v).heap[w.heap.size+1]?=some (.cells #[v] 30 (0,0))):=⟨fun u v=>
    ⟨blk_far (blk_set hP2 0 u) (Ne.symm hne) 0 v,blk_set (blk_far hE2 hne 0 u) 0 v⟩⟩
   clear hks hbl hy hx hrs hnS hP2 hE2;rcases l with _|⟨d,l⟩
   ·have hpl:pl b []=(b.length:Int):=by unfold pl;simp
    rw[hpl] at kr;go_wp2_with fail
    refine leaves_cons (f:=96) (args := #[.pointer (some ⟨w.heap.size,0,none⟩),.pointer (some ⟨w.heap.size+1,0,none⟩)]) (by simp) (by simp[go_sem]) ?_;refine (catch_idle ⟨w.heap.size,0,none⟩ ⟨w.heap.size+1,0,none⟩ _).mono ?_;rintro e u' w3 ⟨rfl,rfl,rfl⟩;have hks:=HKS.out (.int .i64 (0)) (.int .i64 0);have hhe:=HHE.out (.int .i64 (0)) (.int .i64 0);obtain ⟨wf,hwf⟩:∃ wf,wf=(w2.setCell ⟨w.heap.size,0,none⟩ (.int .i64 (0))).setCell ⟨w.heap.size+1,0,none⟩ (.int .i64 0):=⟨_,rfl⟩;rw[←hwf] at hks hhe ⊢;clear hwf;have kf1:wf.cell? ⟨w.heap.size,0,none⟩=some (.int .i64 (0)):=(blk_cell hhe.1 0).trans rfl;have kf2:wf.cell? ⟨w.heap.size+1,0,none⟩=some (.int .i64 0):=(blk_cell hhe.2 0).trans rfl
    have HFXN:Aside0 (ReadP w0 w S b r Y X (.returned (.tuple #[.int .i64 (0),.int .i64 0])) wf):=⟨by
     rw[hr];exact ⟨hks.1,hks.2.1,hks.2.2.1,_,_,rfl,rfl,rfl,hks.2.2.2⟩⟩
    clear hks hhe;simp[Leaves,settle,results,Try.results59,go_sem,kf1,kf2];exact HFXN.out
   ·have hpl:pl b (d::l)<(b.length:Int):=by unfold pl;rw[List.length_cons];omega
    go_wp2_with fail
    refine leaves_cons (f:=96) (args := #[.pointer (some ⟨w.heap.size,0,none⟩),.pointer (some ⟨w.heap.size+1,0,none⟩)]) (by simp) (by simp[go_sem]) ?_;refine (catch_idle ⟨w.heap.size,0,none⟩ ⟨w.heap.size+1,0,none⟩ _).mono ?_;rintro e u' w3 ⟨rfl,rfl,rfl⟩;have hks:=HKS.out (.int .i64 (pl b (d::l))) (.int .i64 20);have hhe:=HHE.out (.int .i64 (pl b (d::l))) (.int .i64 20);obtain ⟨wf,hwf⟩:∃ wf,wf=(w2.setCell ⟨w.heap.size,0,none⟩ (.int .i64 (pl b (d::l)))).setCell ⟨w.heap.size+1,0,none⟩ (.int .i64 20):=⟨_,rfl⟩;rw[←hwf] at hks hhe ⊢;clear hwf;have kf1:wf.cell? ⟨w.heap.size,0,none⟩=some (.int .i64 (pl b (d::l))):=(blk_cell hhe.1 0).trans rfl;have kf2:wf.cell? ⟨w.heap.size+1,0,none⟩=some (.int .i64 20):=(blk_cell hhe.2 0).trans rfl
    have HFXN:Aside0 (ReadP w0 w S b r Y X (.returned (.tuple #[.int .i64 (pl b (d::l)),.int .i64 20])) wf):=⟨by
     rw[hr];exact ⟨hks.1,hks.2.1,hks.2.2.1,_,_,rfl,by unfold pl;rw[List.length_cons];omega,rfl⟩⟩
    clear hks hhe;simp[Leaves,settle,results,Try.results59,go_sem,kf1,kf2];exact HFXN.out
end Go.Proofs.Ytpgdmmjbhjbbhaa.Rd
end
