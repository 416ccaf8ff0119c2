/- texts that the proof needs, laid together by a program of this session. -/
import Derived.Deep.RegionHeld3
import Derived.Deep.Cut
import Derived.Test.YtpgdmmjbhjbbhaaKWireAll15
set_option maxRecDepth 100000
set_option maxHeartbeats 16000000
set_option linter.unusedVariables false
set_option linter.unusedSimpArgs false
section
namespace Go.Proofs.Ytpgdmmjbhjbbhaa.Rf
open Go Go.RowKit P Sp Vd En Wr Rd Lw YtpgdmmjbhjbbhaaW.PrintWords YtpgdmmjbhjbbhaaW.PrintLast YtpgdmmjbhjbbhaaW.PrintMore
theorem Sty.refl (w:World):Sty w w:=fun _ _ _ _ h=>h
theorem signed_law (w W:World) (v:Value) (xs:List Int) (n:Int) (h:WR w W v xs) (hn:isI n) (hx:xs.length≤100000):
  Calls Try.prog 106 #[v,.int .i64 n] W fun e W'=>∃ v',e = .returned v'∧WR w W' v' (xs++signB n)∧Sty W W':=by
 refine (sluiceref2_signed.calls 111 (U8B w W) v xs n _ w W h.1 (wr_in h) (signed_f n xs hn (by omega) 111 (by decide))).mono ?_;rintro e W' ⟨v',he,hR,hb,hk⟩;exact ⟨v',he,wr_out hb hR,sty_of hk⟩
structure BS (w0 w W:World) (g:Nat) (cs:Array Value) (ty:TypeId) (v:Value) (xs:List Int):Prop where
 wr:WR w0 W v xs
 box:W.heap[g]?=some (.cells cs ty (0,0))
 st:Sty w W
section
variable {w0 w W W':World} {g:Nat} {cs:Array Value} {ty:TypeId} {v v':Value} {xs xs':List Int}
theorem BS.below (h:BS w0 w W g cs ty v xs) (k:Below W.heap.size W W'):BS w0 w W' g cs ty v xs:=⟨h.wr.below k,blk_keep k h.box,h.st.trans (Sty.below k)⟩
theorem BS.drew (h:BS w0 w W g cs ty v xs):BS w0 w W.drew g cs ty v xs:=h.below (below_drew1 (Below.refl _ _))
theorem BS.new (h:BS w0 w W g cs ty v xs) (o:Obj):BS w0 w (W.alloc o) g cs ty v xs:=h.below (al_below W o)
theorem BS.step (h:BS w0 w W g cs ty v xs) (ht:ty≠5) (k:WR w0 W' v' xs') (s:Sty W W'):BS w0 w W' g cs ty v' xs':=⟨k,s _ _ _ ht h.box,h.st.trans s⟩
theorem BS.own (h:BS w0 w W g cs ty v xs) (ht:ty≠5):some g≠v.ownBlock:=fun e=>by
 obtain ⟨_,c2,hc⟩:=(wr_in h.wr).1 g e.symm;rw[h.box] at hc
 injection hc with hc
 injection hc with _ h2
 exact ht h2
end
theorem nums1 (a:Int):numsB [a]=intB a:=by simp[numsB]
theorem o_cells {o:Sp.Op} {W:World} {g:Nat} (h:W.heap[g]?=some (.cells #[.int .i64 o.kind,.string o.name,.int .i64 o.a,.int .i64 o.b] 29 (0,0))):W.cell? ⟨g,0,none⟩=some (.int .i64 o.kind)∧W.cell? ⟨g,1,none⟩=some (.string o.name)∧W.cell? ⟨g,2,none⟩=some (.int .i64 o.a)∧W.cell? ⟨g,3,none⟩=some (.int .i64 o.b):=⟨(blk_cell h 0).trans rfl,(blk_cell h 1).trans rfl,(blk_cell h 2).trans rfl,(blk_cell h 3).trans rfl⟩
theorem r_cells {r:Rep} {W:World} {g:Nat} (h:W.heap[g]?=some (.cells #[.int .i64 r.call.f0,.int .i64 r.call.f1,.int .i64 r.err,.int .i64 r.value] 50 (0,0))):W.cell? ⟨g,0,none⟩=some (.int .i64 r.call.f0)∧W.cell? ⟨g,1,none⟩=some (.int .i64 r.call.f1)∧W.cell? ⟨g,2,none⟩=some (.int .i64 r.err)∧W.cell? ⟨g,3,none⟩=some (.int .i64 r.value):=⟨(blk_cell h 0).trans rfl,(blk_cell h 1).trans rfl,(blk_cell h 2).trans rfl,(blk_cell h 3).trans rfl⟩
theorem s_cells {s:Seg} {A:Option Addr} {c:Nat} {W:World} {g:Nat} (h:W.heap[g]?=some (.cells (SVc s A c) 47 (0,0))):W.cell? ⟨g,0,none⟩=some (.int .i64 s.src)∧W.cell? ⟨g,1,none⟩=some (.int .i64 s.dst)∧W.cell? ⟨g,2,none⟩=some (.int .i64 s.seq)∧W.cell? ⟨g,3,none⟩=some (.int .i64 s.ack)∧W.cell? ⟨g,4,none⟩=some (.slice A s.data.length c):=⟨(blk_cell h 0).trans rfl,(blk_cell h 1).trans rfl,(blk_cell h 2).trans rfl,(blk_cell h 3).trans rfl,(blk_cell h 4).trans rfl⟩
theorem putOp2_law (w0 w:World) (v:Value) (xs:List Int) (o:Sp.Op) (h:WR w0 w v xs) (hs:o.name.size≤100) (ho:isI o.a∧isI o.b) (hx:xs.length≤10000):
  Calls Try.prog 89 #[v,.agg #[.int .i64 o.kind,.string o.name,.int .i64 o.a,.int .i64 o.b]] w fun e w'=>∃ v',e = .returned v'∧WR w0 w' v' (xs++opB o)∧Sty w w':=by
 have HN:=Aside0.mk (And.intro hs ho);have HX:Aside0 (xs.length≤10000∧(numsB [o.kind]).length≤10∧(textB o.name).length≤110∧(signB o.a).length≤10):=⟨hx,by rw[nums1];exact intB_len _,textB_len hs,signB_len ho.1⟩;obtain ⟨wa,hwa⟩:∃ wa,wa=w.alloc (.cells #[.int .i64 o.kind,.string o.name,.int .i64 o.a,.int .i64 o.b] 29 (0,0)):=⟨_,rfl⟩;have HWA:=Aside0.mk hwa;have B0:Aside0 (BS w0 w wa w.heap.size #[.int .i64 o.kind,.string o.name,.int .i64 o.a,.int .i64 o.b] 29 v xs):=⟨by rw[hwa];exact ⟨h.below (al_below w _),heap_alloc_new w _,Sty.below (al_below w _)⟩⟩;clear hwa h hs ho hx;have hu29:=Try.underlying29;go_enter Try.func89,Try.ntmps89
 go_upto_region 1 with fail
 rw[←HWA.out];obtain ⟨k0,k1,k2,k3⟩:=o_cells B0.out.drew.box
 go_region_held3 (fun w' => w'.cell? ⟨w.heap.size, 0, none⟩ = some (.int .i64 o.kind) ∧ w'.cell? ⟨w.heap.size, 1, none⟩ = some (.string o.name) ∧ w'.cell? ⟨w.heap.size, 2, none⟩ = some (.int .i64 o.a) ∧ w'.cell? ⟨w.heap.size, 3, none⟩ = some (.int .i64 o.b)) (first | exact o_cells B4.out.box | exact o_cells B3.out.box | exact o_cells B2.out.box | exact o_cells B1.out.box | exact o_cells (B0.out.drew.new _).box | exact o_cells B0.out.drew.box) (first
   | (go_at_call 88;refine (plain1_law w0 _ v xs _ o.kind (B0.out.drew.new _).wr (heap_alloc_new _ _) (by have:=HX.out;(try simp only[List.length_append,List.length_nil]);omega)).mono ?_;rintro e w1 ⟨v1,rfl,hw,hs⟩;have B1:=Aside0.mk (BS.step (xs':=xs++numsB [o.kind]) (B0.out.drew.new _) (by decide) hw hs);clear hw hs)
   | (go_at_call 91;refine (text_law w0 _ v1 _ o.name B1.out.wr HN.out.1 (by have:=HX.out;(try simp only[List.length_append,List.length_nil]);omega)).mono ?_;rintro e w2 ⟨v2,rfl,hw,hs⟩;have B2:=Aside0.mk (BS.step (xs':=xs++numsB [o.kind]++textB o.name) B1.out (by decide) hw hs);clear hw hs)
   | (go_at_call 106;refine (signed_law w0 _ v3 _ o.b B3.out.wr HN.out.2.2 (by have:=HX.out;(try simp only[List.length_append,List.length_nil]);omega)).mono ?_;rintro e w4 ⟨v4,rfl,hw,hs⟩;have B4:=Aside0.mk (BS.step (xs':=xs++numsB [o.kind]++textB o.name++signB o.a++signB o.b) B3.out (by decide) hw hs);clear hw hs)
   | (go_at_call 106;refine (signed_law w0 _ v2 _ o.a B2.out.wr HN.out.2.1 (by have:=HX.out;(try simp only[List.length_append,List.length_nil]);omega)).mono ?_;rintro e w3 ⟨v3,rfl,hw,hs⟩;have B3:=Aside0.mk (BS.step (xs':=xs++numsB [o.kind]++textB o.name++signB o.a) B2.out (by decide) hw hs);clear hw hs))
 go_wp2_with fail
 go_ret
 refine ⟨v4,rfl,?_,B4.out.st⟩;have h9:=B4.out.wr;rw[nums1] at h9
 simpa only[opB,List.append_assoc] using h9
theorem rencrep2_calls (r:Rep) (w:World) (h:isI r.value):
  Calls Try.prog 74 #[.agg #[.int .i64 r.call.f0,.int .i64 r.call.f1,.int .i64 r.err,.int .i64 r.value]] w fun e w'=>∃ u,e = .returned (.tuple #[u,.int .i64 (lay repB repV r).2])∧Kd.R (Kd.int .u8) 5 w' w.heap.size (fun _=>True) u (lay repB repV r).1∧Below w.heap.size w w':=by
 have HI:=Aside0.mk h;have HX:Aside0 ((pairB r.call).length≤20∧(numsB [r.err]).length≤10):=⟨pairB_len _,by rw[nums1];exact intB_len _⟩;obtain ⟨wa,hwa⟩:∃ wa,wa=w.alloc (.cells #[.int .i64 r.call.f0,.int .i64 r.call.f1,.int .i64 r.err,.int .i64 r.value] 50 (0,0)):=⟨_,rfl⟩;have HWA:=Aside0.mk hwa;have B0:Aside0 (BS w w wa w.heap.size #[.int .i64 r.call.f0,.int .i64 r.call.f1,.int .i64 r.err,.int .i64 r.value] 50 (.slice none 0 0) []):=⟨by rw[hwa];exact ⟨WR.nil (al_below w _),heap_alloc_new w _,Sty.below (al_below w _)⟩⟩;clear hwa h;have hu50:=Try.underlying50;have hu27:=Try.underlying27;obtain ⟨bc,hbc⟩:∃ b,dcd (callV r.call)=b:=⟨_,rfl⟩;obtain ⟨be,hbe⟩:∃ b,bB r.err 0 255=b:=⟨_,rfl⟩;have HV:Aside0 (repV r ↔ bc=true∧be=true):=⟨by rw[←hbc,←hbe,dcd_iff];exact ⟨fun h=>⟨h.1,dcd_iff.mpr h.2.1⟩,fun h=>⟨h.1,dcd_iff.mp h.2,HI.out⟩⟩⟩;have HBC:=Aside0.mk (And.intro hbc hbe);clear hbc hbe;by_cases hv:repV r
 ·obtain ⟨rfl,rfl⟩:=HV.out.mp hv;rw[lay_ok hv];clear hv;go_enter Try.func74,Try.ntmps74
  go_upto_region 1 with fail
  rw[←HWA.out];obtain ⟨k0,k1,k2,k3⟩:=r_cells B0.out.box
  go_upto_region 3 with (first
   | (go_at_call 46;refine (rcall_calls _ _ _).mono ?_;rintro e w1 ⟨rfl,hb⟩;rw[HBC.out.1];have B1:=Aside0.mk (B0.out.below hb);clear hb k0 k1 k2 k3;obtain ⟨k0,k1,k2,k3⟩:=r_cells B1.out.box)
   | (go_at_call 43;refine (within_calls _ _ _ _).mono ?_;rintro e w2 ⟨rfl,hb⟩;rw[HBC.out.2];have B2:=Aside0.mk (B1.out.below hb);clear hb k0 k1 k2 k3))
  obtain ⟨k0,k1,k2,k3⟩:=r_cells B2.out.drew.box
  go_region_held3 (fun w' => w'.cell? ⟨w.heap.size, 0, none⟩ = some (.int .i64 r.call.f0) ∧ w'.cell? ⟨w.heap.size, 1, none⟩ = some (.int .i64 r.call.f1) ∧ w'.cell? ⟨w.heap.size, 2, none⟩ = some (.int .i64 r.err) ∧ w'.cell? ⟨w.heap.size, 3, none⟩ = some (.int .i64 r.value)) (first | exact r_cells B5.out.box | exact r_cells (B4.out.new _).box | exact r_cells B4.out.box | exact r_cells (B3.out.new _).box | exact r_cells B3.out.box | exact r_cells (B2.out.drew.new _).box | exact r_cells B2.out.drew.box) (first
    | (go_at_call 90;refine (putCall_law w _ _ [] r.call (by first|exact B2.out.drew.wr|exact (B2.out.drew.new _).wr) (by simp)).mono ?_;rintro e w3 ⟨v3,rfl,hw,hs⟩;have B3:Aside0 (BS w w w3 w.heap.size #[.int .i64 r.call.f0,.int .i64 r.call.f1,.int .i64 r.err,.int .i64 r.value] 50 v3 ([]++pairB r.call)):=⟨by first|exact B2.out.drew.step (by decide) hw hs|exact (B2.out.drew.new _).step (by decide) hw hs⟩;(try have HL:=Aside0.mk (hs _ _ _ (by decide) (heap_alloc_new w2.drew _)));clear hw hs)
    | (go_at_call 88;refine (plain1_law w _ v3 _ _ r.err (by first|exact B3.out.wr|exact (B3.out.new _).wr) (by first|exact HL.out|exact heap_alloc_new w3 _) (by have:=HX.out;(try simp only[List.length_append,List.length_nil]);omega)).mono ?_;rintro e w4 ⟨v4,rfl,hw,hs⟩;have B4:Aside0 (BS w w w4 w.heap.size #[.int .i64 r.call.f0,.int .i64 r.call.f1,.int .i64 r.err,.int .i64 r.value] 50 v4 ([]++pairB r.call++numsB [r.err])):=⟨by first|exact B3.out.step (by decide) hw hs|exact (B3.out.new _).step (by decide) hw hs⟩;clear hw hs)
    | (go_at_call 106;refine (signed_law w _ v4 _ r.value B4.out.wr HI.out (by have:=HX.out;(try simp only[List.length_append,List.length_nil]);omega)).mono ?_;rintro e w5 ⟨v5,rfl,hw,hs⟩;have B5:=Aside0.mk (BS.step (xs':=[]++pairB r.call++numsB [r.err]++signB r.value) B4.out (by decide) hw hs);clear hw hs))
  all_goals go_wp2_with fail
  all_goals go_ret2
  all_goals
   have h9:=B5.out.wr;rw[nums1] at h9;refine ⟨v5,rfl,?_,h9.1⟩;have h8:=h9.2
   simpa only[repB,List.nil_append,List.append_assoc] using h8
 ·rw[lay_no hv]
  have hn:bc=false∨(bc=true∧be=false):=by
   have:=fun h=>hv (HV.out.mpr h);cases bc<;>cases be<;>simp_all
  clear hv;go_enter Try.func74,Try.ntmps74
  go_upto_region 1 with fail
  rw[←HWA.out];obtain ⟨k0,k1,k2,k3⟩:=r_cells B0.out.box;rcases hn with rfl|⟨rfl,rfl⟩
  all_goals go_wp2_with (first
   | (go_at_call 46;refine (rcall_calls _ _ _).mono ?_;rintro e w1 ⟨rfl,hb⟩;rw[HBC.out.1];have n0_:=Aside0.mk (B0.out.below hb);clear hb B0 k0 k1 k2 k3;have B0:=n0_;clear n0_;obtain ⟨k0,k1,k2,k3⟩:=r_cells B0.out.box)
   | (go_at_call 43;refine (within_calls _ _ _ _).mono ?_;rintro e w2 ⟨rfl,hb⟩;rw[HBC.out.2];have n0_:=Aside0.mk (B0.out.below hb);clear hb B0 k0 k1 k2 k3;have B0:=n0_;clear n0_))
  all_goals go_ret2
  all_goals exact ⟨_,rfl,Kd.R_nil _ _ _ _ _,B0.out.wr.1⟩
theorem c_cells {x:S25} {W:World} {g:Nat} (h:W.heap[g]?=some (.cells #[.int .i64 x.f0,.int .i64 x.f1] 27 (0,0))):W.cell? ⟨g,0,none⟩=some (.int .i64 x.f0)∧W.cell? ⟨g,1,none⟩=some (.int .i64 x.f1):=⟨(blk_cell h 0).trans rfl,(blk_cell h 1).trans rfl⟩
theorem rencreq2_calls (x:S25) (o:Sp.Op) (w:World) (h:isI o.a∧isI o.b):
  Calls Try.prog 72 #[.agg #[.int .i64 x.f0,.int .i64 x.f1],.agg #[.int .i64 o.kind,.string o.name,.int .i64 o.a,.int .i64 o.b]] w fun e w'=>∃ u,e = .returned (.tuple #[u,.int .i64 (lay reqB reqV (x,o)).2])∧Kd.R (Kd.int .u8) 5 w' w.heap.size (fun _=>True) u (lay reqB reqV (x,o)).1∧Below w.heap.size w w':=by
 have HI:=Aside0.mk h;have HX:Aside0 ((pairB x).length≤20):=⟨pairB_len _⟩;obtain ⟨wa,hwa⟩:∃ wa,wa=(w.alloc (.cells #[.int .i64 x.f0,.int .i64 x.f1] 27 (0,0))).alloc (.cells #[.int .i64 o.kind,.string o.name,.int .i64 o.a,.int .i64 o.b] 29 (0,0)):=⟨_,rfl⟩;have HWA:=Aside0.mk hwa;have HC:Aside0 (wa.heap[w.heap.size]?=some (.cells #[.int .i64 x.f0,.int .i64 x.f1] 27 (0,0))):=⟨by rw[hwa];exact (two_blocks w _ _).1⟩;have B0:Aside0 (BS w wa wa (w.heap.size+1) #[.int .i64 o.kind,.string o.name,.int .i64 o.a,.int .i64 o.b] 29 (.slice none 0 0) []):=⟨by rw[hwa];exact ⟨WR.nil (below_al2 w _ _),(two_blocks w _ _).2,Sty.refl _⟩⟩;clear hwa h;have hu29:=Try.underlying29;have hu27:=Try.underlying27;obtain ⟨bc,hbc⟩:∃ b,dcd (callV ⟨x.f0,x.f1⟩)=b:=⟨_,rfl⟩;obtain ⟨be,hbe⟩:∃ b,oB o.kind o.name=b:=⟨_,rfl⟩;have HV:Aside0 (reqV (x,o) ↔ bc=true∧be=true):=⟨by rw[←hbc,←hbe,dcd_iff,oB_iff o HI.out];exact Iff.rfl⟩;have HBC:=Aside0.mk (And.intro hbc hbe);clear hbc hbe;by_cases hv:reqV (x,o)
 ·obtain ⟨rfl,rfl⟩:=HV.out.mp hv;have HN:Aside0 (o.name.size≤100):=⟨by have h9:o.name.size≤16:=name_size hv.2.2.1.1;omega⟩;rw[lay_ok hv];clear hv;go_enter Try.func72,Try.ntmps72
  go_upto_region 1 with fail
  rw[←HWA.out];obtain ⟨k0,k1⟩:=c_cells (B0.out.st _ _ _ (by decide) HC.out)
  go_upto_region 3 with (first
   | (go_at_call 46;refine (rcall_calls _ _ _).mono ?_;rintro e w1 ⟨rfl,hb⟩;rw[HBC.out.1];have B1:=Aside0.mk (B0.out.below hb);clear hb k0 k1;obtain ⟨k0,k1,k2,k3⟩:=o_cells B1.out.box)
   | (go_at_call 47;refine (rop_calls _ _ _ _ _).mono ?_;rintro e w2 ⟨rfl,hb⟩;rw[HBC.out.2];have B2:=Aside0.mk (B1.out.below hb);clear hb k0 k1 k2 k3))
  obtain ⟨k0,k1⟩:=c_cells (B2.out.drew.st _ _ _ (by decide) HC.out);obtain ⟨j0,j1,j2,j3⟩:=o_cells B2.out.drew.box
  go_region_held3 (fun w' => w'.cell? ⟨w.heap.size, 0, none⟩ = some (.int .i64 x.f0) ∧ w'.cell? ⟨w.heap.size, 1, none⟩ = some (.int .i64 x.f1) ∧ w'.cell? ⟨w.heap.size + 1, 0, none⟩ = some (.int .i64 o.kind) ∧ w'.cell? ⟨w.heap.size + 1, 1, none⟩ = some (.string o.name) ∧ w'.cell? ⟨w.heap.size + 1, 2, none⟩ = some (.int .i64 o.a) ∧ w'.cell? ⟨w.heap.size + 1, 3, none⟩ = some (.int .i64 o.b)) (first | exact ⟨(c_cells (B4.out.st _ _ _ (by decide) HC.out)).1, (c_cells (B4.out.st _ _ _ (by decide) HC.out)).2, o_cells B4.out.box⟩ | exact ⟨(c_cells (B3.out.st _ _ _ (by decide) HC.out)).1, (c_cells (B3.out.st _ _ _ (by decide) HC.out)).2, o_cells B3.out.box⟩ | exact ⟨(c_cells (B2.out.drew.st _ _ _ (by decide) HC.out)).1, (c_cells (B2.out.drew.st _ _ _ (by decide) HC.out)).2, o_cells B2.out.drew.box⟩) (first
    | (go_at_call 90;refine (putCall_law w _ _ [] x B2.out.drew.wr (by simp)).mono ?_;rintro e w3 ⟨v3,rfl,hw,hs⟩;have B3:=Aside0.mk (BS.step (xs':=[]++pairB x) B2.out.drew (by decide) hw hs);clear hw hs)
    | (go_at_call 89;refine (putOp2_law w _ v3 _ o B3.out.wr HN.out HI.out (by have:=HX.out;(try simp only[List.length_append,List.length_nil]);omega)).mono ?_;rintro e w4 ⟨v4,rfl,hw,hs⟩;have B4:=Aside0.mk (BS.step (xs':=[]++pairB x++opB o) B3.out (by decide) hw hs);clear hw hs))
  all_goals go_wp2_with fail
  all_goals go_ret2
  all_goals
   refine ⟨v4,rfl,?_,B4.out.wr.1⟩;have h8:=B4.out.wr.2
   simpa only[reqB,List.nil_append] using h8
 ·rw[lay_no hv]
  have hn:bc=false∨(bc=true∧be=false):=by
   have:=fun h=>hv (HV.out.mpr h);cases bc<;>cases be<;>simp_all
  clear hv;go_enter Try.func72,Try.ntmps72
  go_upto_region 1 with fail
  rw[←HWA.out];obtain ⟨k0,k1⟩:=c_cells (B0.out.st _ _ _ (by decide) HC.out);rcases hn with rfl|⟨rfl,rfl⟩
  all_goals go_wp2_with (first
   | (go_at_call 46;refine (rcall_calls _ _ _).mono ?_;rintro e w1 ⟨rfl,hb⟩;rw[HBC.out.1];have n0_:=Aside0.mk (B0.out.below hb);clear hb B0 k0 k1;have B0:=n0_;clear n0_;obtain ⟨k0,k1,k2,k3⟩:=o_cells B0.out.box)
   | (go_at_call 47;refine (rop_calls _ _ _ _ _).mono ?_;rintro e w2 ⟨rfl,hb⟩;rw[HBC.out.2];have n0_:=Aside0.mk (B0.out.below hb);clear hb B0;have B0:=n0_;clear n0_))
  all_goals go_ret2
  all_goals exact ⟨_,rfl,Kd.R_nil _ _ _ _ _,B0.out.wr.1⟩
theorem rencseg2_calls (s:Seg) (A:Option Addr) (c:Nat) (w:World) (h:In w A c s.data):
  Calls Try.prog 70 #[.agg (SVc s A c)] w fun e w'=>∃ u,e = .returned (.tuple #[u,.int .i64 (lay segB segV s).2])∧Kd.R (Kd.int .u8) 5 w' w.heap.size (fun _=>True) u (lay segB segV s).1∧Below w.heap.size w w':=by
 have HI:=Aside0.mk h;have hlI:(s.data.length:Int)≤9223372036854775807:=by have:=h.len;omega
 have hl0:(0:Int)≤(s.data.length:Int):=by omega
 have HX:Aside0 ((numsB [s.src,s.dst,s.seq,s.ack,(s.data.length:Int)]).length≤50):=⟨by have h1:=intB_len s.src;have h2:=intB_len s.dst;have h3:=intB_len s.seq;have h4:=intB_len s.ack;have h5:=intB_len s.data.length;simp only[numsB,List.flatMap_cons,List.flatMap_nil,List.length_append,List.length_nil];unfold intB at *;omega⟩;obtain ⟨wa,hwa⟩:∃ wa,wa=w.alloc (.cells (SVc s A c) 47 (0,0)):=⟨_,rfl⟩;have HWA:=Aside0.mk hwa;have B0:Aside0 (BS w w wa w.heap.size (SVc s A c) 47 (.slice none 0 0) []):=⟨by rw[hwa];exact ⟨WR.nil (al_below w _),heap_alloc_new w _,Sty.below (al_below w _)⟩⟩;clear hwa h;have hu47:=Try.underlying47;by_cases hv:segV s
 ·have HV:=Aside0.mk hv;have HD:Aside0 (s.data.length≤4000):=⟨((sg_iff s HI.out.isB).mp hv).2.1⟩;rw[lay_ok hv];clear hv;go_enter Try.func70,Try.ntmps70
  go_upto_region 1 with fail
  rw[←HWA.out]
  go_upto_region 3 with (first
   | ((with_reducible refine gate_dst (N:=4) rfl ?_);refine wpList_load_row rfl 47 (.tmp 1) rfl w.heap.size (by rfl) 47 (SVc s A c) (0,0) _ B0.out.box hu47 rfl inf47 ?_)
   | (go_at_call 26;refine (right_calls s A c _ (In.below HI.out B0.out.wr.1)).mono ?_;rintro e w1 ⟨rfl,hb⟩;rw[dcd_pos HV.out];have B1:=Aside0.mk (B0.out.below hb);clear hb))
  obtain ⟨k0,k1,k2,k3,k4⟩:=s_cells B1.out.drew.box
  go_region_held3 (fun w' => w'.cell? ⟨w.heap.size, 0, none⟩ = some (.int .i64 s.src) ∧ w'.cell? ⟨w.heap.size, 1, none⟩ = some (.int .i64 s.dst) ∧ w'.cell? ⟨w.heap.size, 2, none⟩ = some (.int .i64 s.seq) ∧ w'.cell? ⟨w.heap.size, 3, none⟩ = some (.int .i64 s.ack) ∧ w'.cell? ⟨w.heap.size, 4, none⟩ = some (.slice A s.data.length c)) (first | exact s_cells HR3.out.2.2 | exact s_cells B2.out.box | exact s_cells (B1.out.drew.new _).box | exact s_cells B1.out.drew.box) (first
    | (go_at_call 88;refine (plain_law w _ _ [] [s.src,s.dst,s.seq,s.ack,(s.data.length:Int)] _ _ _ (B1.out.drew.new _).wr (heap_alloc_new _ _) rfl (by simp) (by simp) (by simp)).mono ?_;rintro e w2 ⟨v2,rfl,hw,hs⟩;have B2:=Aside0.mk (BS.step (xs':=[]++numsB [s.src,s.dst,s.seq,s.ack,(s.data.length:Int)]) (B1.out.drew.new _) (by decide) hw hs);clear hw hs;have HZ:Aside0 ((([]++numsB [s.src,s.dst,s.seq,s.ack,(s.data.length:Int)]:List Int).length+s.data.length) * 1≤140737488355328):=⟨by have:=HX.out;have:=HD.out;rw[List.nil_append];omega⟩)
    | (refine Kd.R_append_rows_step (Kd.int .u8) (Rr:=Kd.K (Kd.int .u8) w2) (w0:=w) w.heap.size (by rfl) (.tmp 19) (.tmp 21) 36 5 (.int .u8 0) 1 (by rfl) Try.underlying36 inf8 rfl (by decide) (by decide) v2 _ s.data A s.data.length c (fun _=>True) (fun _=>False) (by rfl) (by rfl) B2.out.wr.2 (In.below HI.out B2.out.wr.1).row kM8 (fun _ hk=>hk.elim) (fun _ _=>trivial) B2.out.wr.1 B2.out.wr.1.size HZ.out ?_;intro v3 w3 hR3 hB3 hg3 hat3;have HR3:=Aside0.mk (And.intro hR3 (And.intro hB3 (blk_grown B2.out.box hg3 (B2.out.own (by decide)))));clear hR3 hB3 hg3 hat3))
  all_goals go_wp2_with fail
  all_goals go_ret2
  all_goals
   refine ⟨_,rfl,?_,HR3.out.2.1⟩;have h8:=HR3.out.1
   simpa [segB,numsB] using h8
 ·have HV:=Aside0.mk hv;rw[lay_no hv];clear hv;go_enter Try.func70,Try.ntmps70
  go_upto_region 1 with fail
  rw[←HWA.out]
  go_wp2_with (first
   | ((with_reducible refine gate_dst (N:=4) rfl ?_);refine wpList_load_row rfl 47 (.tmp 1) rfl w.heap.size (by rfl) 47 (SVc s A c) (0,0) _ B0.out.box hu47 rfl inf47 ?_)
   | (go_at_call 26;refine (right_calls s A c _ (In.below HI.out B0.out.wr.1)).mono ?_;rintro e w1 ⟨rfl,hb⟩;rw[dcd_neg HV.out];have B1:=Aside0.mk (B0.out.below hb);clear hb))
  go_ret2
  exact ⟨_,rfl,Kd.R_nil _ _ _ _ _,B1.out.wr.1⟩
end Go.Proofs.Ytpgdmmjbhjbbhaa.Rf
end
section
namespace Go.Proofs.Ytpgdmmjbhjbbhaa.Rf
open Go Go.RowKit P Sp Vd En Wr Rd Lw YtpgdmmjbhjbbhaaW.PrintWords YtpgdmmjbhjbbhaaW.PrintLast YtpgdmmjbhjbbhaaW.PrintMore
structure ES (w W:World) (m:Msg) (A:Option Addr) (c:Nat) (v:Value) (xs:List Int):Prop where
 wr:WR w W v xs
 box:W.heap[w.heap.size]?=some (.cells (MVc m A c) 33 (0,0))
section
variable {w W W':World} {m:Msg} {A:Option Addr} {c:Nat} {v v':Value} {xs xs':List Int}
theorem ES.below (h:ES w W m A c v xs) (k:Below W.heap.size W W'):ES w W' m A c v xs:=⟨h.wr.below k,blk_keep k h.box⟩
theorem ES.drew (h:ES w W m A c v xs):ES w W.drew m A c v xs:=h.below (below_drew1 (Below.refl _ _))
theorem ES.new (h:ES w W m A c v xs) (o:Obj):ES w (W.alloc o) m A c v xs:=h.below (al_below W o)
theorem ES.step (h:ES w W m A c v xs) (k:WR w W' v' xs') (s:Sty W W'):ES w W' m A c v' xs':=⟨k,s _ _ _ (by decide) h.box⟩
theorem ES.cell (h:ES w W m A c v xs) (i:Nat):W.cell? ⟨w.heap.size,i,none⟩=(MVc m A c)[i]?:=blk_cell h.box i
theorem ES.k99 (h:ES w W m A c v xs):W.cell? ⟨w.heap.size,0,none⟩=some (.int .i64 m.kind)∧W.cell? ⟨w.heap.size,4,none⟩=some (.int .i64 m.epoch.f0)∧W.cell? ⟨w.heap.size,5,none⟩=some (.int .i64 m.epoch.f1)∧W.cell? ⟨w.heap.size,6,none⟩=some (.int .i64 m.over.f0)∧W.cell? ⟨w.heap.size,7,none⟩=some (.int .i64 m.over.f1)∧W.cell? ⟨w.heap.size,8,none⟩=some (.int .i64 m.rights.f0)∧W.cell? ⟨w.heap.size,9,none⟩=some (.int .i64 m.rights.f1)∧W.cell? ⟨w.heap.size,10,none⟩=some (.int .i64 m.held):=⟨(h.cell 0).trans rfl,(h.cell 4).trans rfl,(h.cell 5).trans rfl,(h.cell 6).trans rfl,(h.cell 7).trans rfl,(h.cell 8).trans rfl,(h.cell 9).trans rfl,(h.cell 10).trans rfl⟩
theorem ES.k98 (h:ES w W m A c v xs):W.cell? ⟨w.heap.size,0,none⟩=some (.int .i64 m.kind)∧W.cell? ⟨w.heap.size,17,none⟩=some (.int .i64 m.err)∧W.cell? ⟨w.heap.size,2,none⟩=some (.int .i64 m.cap)∧W.cell? ⟨w.heap.size,3,none⟩=some (.int .i64 m.recaps):=⟨(h.cell 0).trans rfl,(h.cell 17).trans rfl,(h.cell 2).trans rfl,(h.cell 3).trans rfl⟩
theorem ES.k97 (h:ES w W m A c v xs):W.cell? ⟨w.heap.size,0,none⟩=some (.int .i64 m.kind)∧W.cell? ⟨w.heap.size,19,none⟩=some (.slice A m.views.length c):=⟨(h.cell 0).trans rfl,(h.cell 19).trans rfl⟩
theorem ES.k6 (h:ES w W m A c v xs):W.cell? ⟨w.heap.size,11,none⟩=some (.int .i64 m.call.f0)∧W.cell? ⟨w.heap.size,12,none⟩=some (.int .i64 m.call.f1)∧W.cell? ⟨w.heap.size,13,none⟩=some (.int .i64 m.op.kind)∧W.cell? ⟨w.heap.size,14,none⟩=some (.string m.op.name)∧W.cell? ⟨w.heap.size,15,none⟩=some (.int .i64 m.op.a)∧W.cell? ⟨w.heap.size,16,none⟩=some (.int .i64 m.op.b):=⟨(h.cell 11).trans rfl,(h.cell 12).trans rfl,(h.cell 13).trans rfl,(h.cell 14).trans rfl,(h.cell 15).trans rfl,(h.cell 16).trans rfl⟩
theorem ES.k8 (h:ES w W m A c v xs):W.cell? ⟨w.heap.size,11,none⟩=some (.int .i64 m.call.f0)∧W.cell? ⟨w.heap.size,12,none⟩=some (.int .i64 m.call.f1)∧W.cell? ⟨w.heap.size,1,none⟩=some (.string m.name)∧W.cell? ⟨w.heap.size,17,none⟩=some (.int .i64 m.err):=⟨(h.cell 11).trans rfl,(h.cell 12).trans rfl,(h.cell 1).trans rfl,(h.cell 17).trans rfl⟩
theorem ES.k20 (h:ES w W m A c v xs):W.cell? ⟨w.heap.size,1,none⟩=some (.string m.name)∧W.cell? ⟨w.heap.size,2,none⟩=some (.int .i64 m.cap)∧W.cell? ⟨w.heap.size,3,none⟩=some (.int .i64 m.recaps):=⟨(h.cell 1).trans rfl,(h.cell 2).trans rfl,(h.cell 3).trans rfl⟩
theorem nums_len:∀ l:List Int,(numsB l).length≤10 * l.length
 | []=>by simp[numsB]
 | a :: r => by
   have h1:=intB_len a;have h2:=nums_len r;have h3:numsB (a::r)=intB a++numsB r:=by simp[numsB]
   rw[h3,List.length_append,List.length_cons];omega
end
theorem xcells {W:World} {b:Nat} {x:S87} (h:W.heap[b]?=some (.cells #[.string x.f0,.int .i64 x.f1,.int .i64 x.f2,.int .i64 x.f3,.int .i64 x.f4.f0,.int .i64 x.f4.f1,.int .i64 x.f5] 87 (0,0))):W.cell? ⟨b,0,none⟩=some (.string x.f0)∧W.cell? ⟨b,1,none⟩=some (.int .i64 x.f1)∧W.cell? ⟨b,2,none⟩=some (.int .i64 x.f2)∧W.cell? ⟨b,3,none⟩=some (.int .i64 x.f3)∧W.cell? ⟨b,4,none⟩=some (.int .i64 x.f4.f0)∧W.cell? ⟨b,5,none⟩=some (.int .i64 x.f4.f1)∧W.cell? ⟨b,6,none⟩=some (.int .i64 x.f5):=⟨(blk_cell h 0).trans rfl,(blk_cell h 1).trans rfl,(blk_cell h 2).trans rfl,(blk_cell h 3).trans rfl,(blk_cell h 4).trans rfl,(blk_cell h 5).trans rfl,(blk_cell h 6).trans rfl⟩
theorem viewsV_name:∀ {a:ByteArray} {l:List S87},viewsV a l → ∀ x ∈ l,nameOk (bytesOf x.f0)
 | _,[],_,_,h=>by cases h
 | a, v :: r, h, x, hx => by
   rcases List.mem_cons.1 hx with rfl|hx
   ·exact (viewV_iff.mp h.1).2.1
   ·exact viewsV_name h.2 x hx
theorem renc1_calls (m:Msg) (h:isI m.op.a∧isI m.op.b) (A:Option Addr) (c:Nat) (w:World) (hr:Kd.C k87 w A m.views.length m.views) (hc:m.views.length≤c) (hk:m.kind=1) (hv:msgV m):
  Calls Try.prog 39 #[.agg (MVc m A c)] w fun e w'=>∃ v,e = .returned (.tuple #[v,.int .i64 0])∧WR w w' v (msgB m):=by
 have HLEN:Aside0 ((msgB m).length≤100000):=⟨by have:=msg_len hv;omega⟩;have HV:=Aside0.mk hv;have HR:=Aside0.mk (And.intro hr hc);have HI:=Aside0.mk h;have HN:Aside0 (m.op.name.size≤100):=⟨by have h1:=hv.2;unfold restV at h1;rw[if_pos hk] at h1;have:=name_size h1.2.1.2.1.1;omega⟩;have HT:Aside0 (msgB m=numsB [m.kind]++(pairB m.call++opB m.op)):=⟨by unfold msgB restB;simp[hk,numsB]⟩;have t1:(m.kind == 1)=true:=by simp[hk]
 clear hk;clear hv hr hc h;have hu33:=Try.underlying33;have hu27:=Try.underlying27;have hu29:=Try.underlying29;have hu23:=Try.underlying23;have hu25:=Try.underlying25;obtain ⟨wa,hwa⟩:∃ wa,wa=w.alloc (.cells (MVc m A c) 33 (0,0)):=⟨_,rfl⟩;have HWA:=Aside0.mk hwa;have E0:Aside0 (ES w wa m A c (.slice none 0 0) []):=⟨by rw[hwa];exact ⟨WR.nil (al_below w _),heap_alloc_new w _⟩⟩;clear hwa;go_enter Try.func39,Try.ntmps39
 go_upto_region 1 with fail
 rw[←HWA.out]
 go_upto_region 3 with (first
  | ((with_reducible refine gate_dst (N:=7) rfl ?_);refine wpList_load_row rfl 33 (.tmp 1) rfl w.heap.size (by rfl) 33 (MVc m A c) (0,0) _ E0.out.box Try.underlying33 rfl inf33 ?_)
  | (go_at_call 15;refine (rvalid_calls m HI.out A c _ (Kd.C_below HR.out.1 E0.out.wr.1) HR.out.2).mono ?_;rintro e w0 ⟨rfl,hb⟩;rw[dcd_pos HV.out];have E1:=Aside0.mk (ES.below E0.out hb);clear hb))
 have kz0:w0.cell? ⟨w.heap.size,0,none⟩=some (.int .i64 m.kind):=(E1.out.cell 0).trans rfl;go_upto_region 4 with (go_at_call 88;refine (plain_law w _ _ [] [m.kind] _ _ _ (E1.out.new _).wr (heap_alloc_new w0 _) rfl (by simp) (by simp) (by simp)).mono ?_;rintro e w1 ⟨v1,rfl,hw,hs⟩;have E2:=Aside0.mk ((E1.out.new _).step hw hs);clear hw hs kz0)
 have HX:Aside0 (([]++numsB [m.kind]:List Int).length≤10):=⟨by simpa [numsB] using intB_len m.kind⟩;have kz0:w1.cell? ⟨w.heap.size,0,none⟩=some (.int .i64 m.kind):=(E2.out.cell 0).trans rfl;clear E0 E1 HWA;go_upto_region 6 with fail
 clear kz0;obtain ⟨kz11,kz12,kz13,kz14,kz15,kz16⟩:=E2.out.drew.k6
 go_region_held3 (fun w' => w'.cell? ⟨w.heap.size, 11, none⟩ = some (.int .i64 m.call.f0) ∧ w'.cell? ⟨w.heap.size, 12, none⟩ = some (.int .i64 m.call.f1) ∧ w'.cell? ⟨w.heap.size, 13, none⟩ = some (.int .i64 m.op.kind) ∧ w'.cell? ⟨w.heap.size, 14, none⟩ = some (.string m.op.name) ∧ w'.cell? ⟨w.heap.size, 15, none⟩ = some (.int .i64 m.op.a) ∧ w'.cell? ⟨w.heap.size, 16, none⟩ = some (.int .i64 m.op.b)) (first | exact E4.out.k6 | exact E3.out.k6 | exact E2.out.drew.k6) (first
   | (go_at_call 90;refine (putCall_law w _ v1 ([]++numsB [m.kind]) m.call E2.out.drew.wr (by have:=HX.out;omega)).mono ?_;rintro e w2 ⟨v2,rfl,hw,hs⟩;have E3:=Aside0.mk (E2.out.drew.step hw hs);clear hw hs)
   | (go_at_call 89;refine (putOp2_law w _ v2 ([]++numsB [m.kind]++pairB m.call) m.op E3.out.wr HN.out HI.out (by have:=HX.out;have:=pairB_len m.call;rw[List.length_append];omega)).mono ?_;rintro e w3 ⟨v3,rfl,hw,hs⟩;have E4:=Aside0.mk (E3.out.step hw hs);clear hw hs))
 go_wp2_with fail
 go_ret2
 refine ⟨v3,rfl,?_⟩;rw[HT.out]
 simpa only[List.nil_append,List.append_assoc] using E4.out.wr
theorem rencO_calls (m:Msg) (h:isI m.op.a∧isI m.op.b) (A:Option Addr) (c:Nat) (w:World) (hr:Kd.C k87 w A m.views.length m.views) (hc:m.views.length≤c) (hk:m.kind=3∨m.kind=4∨m.kind=5∨m.kind=6∨m.kind=7∨m.kind=8∨m.kind=9) (hv:msgV m):
  Calls Try.prog 39 #[.agg (MVc m A c)] w fun e w'=>∃ v,e = .returned (.tuple #[v,.int .i64 0])∧WR w w' v (msgB m):=by
 have HLEN:Aside0 ((msgB m).length≤100000):=⟨by have:=msg_len hv;omega⟩;have HV:=Aside0.mk hv;have HR:=Aside0.mk (And.intro hr hc);have HI:=Aside0.mk h;have HN:Aside0 (m.name.size≤100):=⟨by have h1:=hv.2;unfold restV at h1;rw[if_neg (by omega),if_neg (by omega),if_neg (by omega)] at h1;have:=name_size h1.1.1;omega⟩;have HT:Aside0 (msgB m=numsB [m.kind]++(textB m.name++(numsB [m.cap,m.recaps]++(optB (hasEp m.kind) pairB m.epoch++(optB (m.kind=7) pairB m.over++(optB (hasRt m.kind) pairB m.rights++optB (m.kind=4) intB m.held)))))):=⟨by unfold msgB restB;rw[if_neg (by omega),if_neg (by omega),if_neg (by omega)];simp[numsB,pairB,capOf]⟩;have t1:(m.kind == 1)=false:=by simp;omega
 have t2:(m.kind == 2)=false:=by simp;omega
 have t10:(m.kind == 10)=false:=by simp;omega
 have HK:=Aside0.mk hk;clear hk;clear hv hr hc h;have hu33:=Try.underlying33;have hu27:=Try.underlying27;have hu29:=Try.underlying29;have hu23:=Try.underlying23;have hu25:=Try.underlying25;obtain ⟨wa,hwa⟩:∃ wa,wa=w.alloc (.cells (MVc m A c) 33 (0,0)):=⟨_,rfl⟩;have HWA:=Aside0.mk hwa;have E0:Aside0 (ES w wa m A c (.slice none 0 0) []):=⟨by rw[hwa];exact ⟨WR.nil (al_below w _),heap_alloc_new w _⟩⟩;clear hwa;go_enter Try.func39,Try.ntmps39
 go_upto_region 1 with fail
 rw[←HWA.out]
 go_upto_region 3 with (first
  | ((with_reducible refine gate_dst (N:=7) rfl ?_);refine wpList_load_row rfl 33 (.tmp 1) rfl w.heap.size (by rfl) 33 (MVc m A c) (0,0) _ E0.out.box Try.underlying33 rfl inf33 ?_)
  | (go_at_call 15;refine (rvalid_calls m HI.out A c _ (Kd.C_below HR.out.1 E0.out.wr.1) HR.out.2).mono ?_;rintro e w0 ⟨rfl,hb⟩;rw[dcd_pos HV.out];have E1:=Aside0.mk (ES.below E0.out hb);clear hb))
 have kz0:w0.cell? ⟨w.heap.size,0,none⟩=some (.int .i64 m.kind):=(E1.out.cell 0).trans rfl;go_upto_region 4 with (go_at_call 88;refine (plain_law w _ _ [] [m.kind] _ _ _ (E1.out.new _).wr (heap_alloc_new w0 _) rfl (by simp) (by simp) (by simp)).mono ?_;rintro e w1 ⟨v1,rfl,hw,hs⟩;have E2:=Aside0.mk ((E1.out.new _).step hw hs);clear hw hs kz0)
 have HX:Aside0 (([]++numsB [m.kind]:List Int).length≤10):=⟨by simpa [numsB] using intB_len m.kind⟩;have kz0:w1.cell? ⟨w.heap.size,0,none⟩=some (.int .i64 m.kind):=(E2.out.cell 0).trans rfl;clear E0 E1 HWA;go_upto_region 20 with fail
 clear kz0;go_cut [4,95,96,97,98,99,100,101,102,103,104] from 150 (fun s4 _ _ _ _ _ _ _ _ _ _ wx=>Aside0 (ES w wx m A c s4 ([]++numsB [m.kind]++textB m.name++numsB [m.cap,m.recaps])))
 case first =>
   obtain ⟨kz1,kz2,kz3⟩:=E2.out.drew.k20
   go_region_held3 (fun w' => w'.cell? ⟨w.heap.size, 1, none⟩ = some (.string m.name) ∧ w'.cell? ⟨w.heap.size, 2, none⟩ = some (.int .i64 m.cap) ∧ w'.cell? ⟨w.heap.size, 3, none⟩ = some (.int .i64 m.recaps)) (first | exact E4.out.k20 | exact (E3.out.new _).k20 | exact E3.out.k20 | exact (E2.out.drew.new _).k20 | exact E2.out.drew.k20) (first
     | (go_at_call 91;refine (text_law w _ v1 ([]++numsB [m.kind]) m.name (by first|exact E2.out.drew.wr|exact (E2.out.drew.new _).wr) HN.out (by have:=HX.out;omega)).mono ?_;rintro e w2 ⟨v2,rfl,hw,hs⟩;have E3:Aside0 (ES w w2 m A c v2 ([]++numsB [m.kind]++textB m.name)):=⟨by first|exact E2.out.drew.step hw hs|exact (E2.out.drew.new _).step hw hs⟩;(try have HL:=Aside0.mk (hs _ _ _ (by decide) (heap_alloc_new w1.drew _)));clear hw hs)
     | (go_at_call 88;refine (plain_law w _ v2 ([]++numsB [m.kind]++textB m.name) [m.cap,m.recaps] _ _ _ (by first|exact E3.out.wr|exact (E3.out.new _).wr) (by first|exact HL.out|exact heap_alloc_new w2 _) rfl (by simp) (by simp) (by have:=HX.out;have:=textB_len HN.out;rw[List.length_append];omega)).mono ?_;rintro e w3 ⟨v3,rfl,hw,hs⟩;have E4:Aside0 (ES w w3 m A c v3 ([]++numsB [m.kind]++textB m.name++numsB [m.cap,m.recaps])):=⟨by first|exact E3.out.step hw hs|exact (E3.out.new _).step hw hs⟩;clear hw hs))
   all_goals go_wp2_with fail
   all_goals go_meet
   all_goals exact ⟨E4.out⟩
 case rest=>
  clear E2;have E5:=hcut;clear hcut;have HXL:Aside0 ((numsB [m.kind]).length≤10∧(textB m.name).length≤110∧(numsB [m.cap,m.recaps]).length≤20):=⟨nums_len _,textB_len HN.out,nums_len _⟩;obtain ⟨kz0,kz4,kz5,kz6,kz7,kz8,kz9,kz10⟩:=E5.out.k99;rcases HK.out with hk|hk|hk|hk|hk|hk|hk
  all_goals
   (first|have l7:m.kind≤7:=by omega|have l7:¬m.kind≤7:=by omega)
   (first|have e7:(m.kind == 7)=true:=by simp[hk]|have e7:(m.kind == 7)=false:=by simp[hk])
   (first|have e4:(m.kind == 4)=true:=by simp[hk]|have e4:(m.kind == 4)=false:=by simp[hk])
   (first|have e3:(m.kind == 3)=true:=by simp[hk]|have e3:(m.kind == 3)=false:=by simp[hk])
   have HT2:=HT;simp only[optB,hasEp,hasRt,hk] at HT2;have HH:=Aside0.mk hk;clear HT HK hk
  case' inr.inl=>
   go_upto_region 28 with (go_at_call 88;refine (plain2_law w _ _ _ _ _ _ (E5.out.new _).wr (heap_alloc_new _ _) (by have:=HXL.out;have:=nums_len [m.epoch.f0,m.epoch.f1];have:=nums_len [m.rights.f0,m.rights.f1];simp only[List.length_append,List.length_nil,List.length_cons] at *;omega)).mono ?_;rintro e wn ⟨vn,rfl,hw,hs⟩;have n0_:=Aside0.mk ((E5.out.new _).step hw hs);clear E5 hw hs kz0 kz4 kz5 kz6 kz7 kz8 kz9 kz10;have E5:=n0_;clear n0_;obtain ⟨kz0,kz4,kz5,kz6,kz7,kz8,kz9,kz10⟩:=E5.out.k99)
   go_wp2_with (go_at_call 88;refine (plain1_law w _ _ _ _ _ (E5.out.new _).wr (heap_alloc_new _ _) (by have:=HXL.out;have:=nums_len [m.epoch.f0,m.epoch.f1];have:=nums_len [m.rights.f0,m.rights.f1];simp only[List.length_append,List.length_nil,List.length_cons] at *;omega)).mono ?_;rintro e wn ⟨vn,rfl,hw,hs⟩;have n0_:=Aside0.mk ((E5.out.new _).step hw hs);clear E5 hw hs kz0 kz4 kz5 kz6 kz7 kz8 kz9 kz10;have E5:=n0_;clear n0_;obtain ⟨kz0,kz4,kz5,kz6,kz7,kz8,kz9,kz10⟩:=E5.out.k99)
  case' inl=>go_wp2_with (go_at_call 88;refine (plain2_law w _ _ _ _ _ _ (E5.out.new _).wr (heap_alloc_new _ _) (by have:=HXL.out;have:=nums_len [m.epoch.f0,m.epoch.f1];have:=nums_len [m.rights.f0,m.rights.f1];simp only[List.length_append,List.length_nil,List.length_cons] at *;omega)).mono ?_;rintro e wn ⟨vn,rfl,hw,hs⟩;have n0_:=Aside0.mk ((E5.out.new _).step hw hs);clear E5 hw hs kz0 kz4 kz5 kz6 kz7 kz8 kz9 kz10;have E5:=n0_;clear n0_;obtain ⟨kz0,kz4,kz5,kz6,kz7,kz8,kz9,kz10⟩:=E5.out.k99)
  case' inr.inr.inl=>go_wp2_with (go_at_call 88;refine (plain2_law w _ _ _ _ _ _ (E5.out.new _).wr (heap_alloc_new _ _) (by have:=HXL.out;have:=nums_len [m.epoch.f0,m.epoch.f1];have:=nums_len [m.rights.f0,m.rights.f1];simp only[List.length_append,List.length_nil,List.length_cons] at *;omega)).mono ?_;rintro e wn ⟨vn,rfl,hw,hs⟩;have n0_:=Aside0.mk ((E5.out.new _).step hw hs);clear E5 hw hs kz0 kz4 kz5 kz6 kz7 kz8 kz9 kz10;have E5:=n0_;clear n0_;obtain ⟨kz0,kz4,kz5,kz6,kz7,kz8,kz9,kz10⟩:=E5.out.k99)
  case' inr.inr.inr.inl=>go_wp2_with (go_at_call 88;refine (plain2_law w _ _ _ _ _ _ (E5.out.new _).wr (heap_alloc_new _ _) (by have:=HXL.out;have:=nums_len [m.epoch.f0,m.epoch.f1];have:=nums_len [m.rights.f0,m.rights.f1];simp only[List.length_append,List.length_nil,List.length_cons] at *;omega)).mono ?_;rintro e wn ⟨vn,rfl,hw,hs⟩;have n0_:=Aside0.mk ((E5.out.new _).step hw hs);clear E5 hw hs kz0 kz4 kz5 kz6 kz7 kz8 kz9 kz10;have E5:=n0_;clear n0_;obtain ⟨kz0,kz4,kz5,kz6,kz7,kz8,kz9,kz10⟩:=E5.out.k99)
  case' inr.inr.inr.inr.inl=>go_wp2_with (go_at_call 88;refine (plain2_law w _ _ _ _ _ _ (E5.out.new _).wr (heap_alloc_new _ _) (by have:=HXL.out;have:=nums_len [m.epoch.f0,m.epoch.f1];have:=nums_len [m.rights.f0,m.rights.f1];simp only[List.length_append,List.length_nil,List.length_cons] at *;omega)).mono ?_;rintro e wn ⟨vn,rfl,hw,hs⟩;have n0_:=Aside0.mk ((E5.out.new _).step hw hs);clear E5 hw hs kz0 kz4 kz5 kz6 kz7 kz8 kz9 kz10;have E5:=n0_;clear n0_;obtain ⟨kz0,kz4,kz5,kz6,kz7,kz8,kz9,kz10⟩:=E5.out.k99)
  case' inr.inr.inr.inr.inr.inl=>go_wp2_with (go_at_call 88;refine (plain2_law w _ _ _ _ _ _ (E5.out.new _).wr (heap_alloc_new _ _) (by have:=HXL.out;have:=nums_len [m.epoch.f0,m.epoch.f1];have:=nums_len [m.rights.f0,m.rights.f1];simp only[List.length_append,List.length_nil,List.length_cons] at *;omega)).mono ?_;rintro e wn ⟨vn,rfl,hw,hs⟩;have n0_:=Aside0.mk ((E5.out.new _).step hw hs);clear E5 hw hs kz0 kz4 kz5 kz6 kz7 kz8 kz9 kz10;have E5:=n0_;clear n0_;obtain ⟨kz0,kz4,kz5,kz6,kz7,kz8,kz9,kz10⟩:=E5.out.k99)
  case' inr.inr.inr.inr.inr.inr=>go_wp2_with (go_at_call 88;refine (plain2_law w _ _ _ _ _ _ (E5.out.new _).wr (heap_alloc_new _ _) (by have:=HXL.out;have:=nums_len [m.epoch.f0,m.epoch.f1];have:=nums_len [m.rights.f0,m.rights.f1];simp only[List.length_append,List.length_nil,List.length_cons] at *;omega)).mono ?_;rintro e wn ⟨vn,rfl,hw,hs⟩;have n0_:=Aside0.mk ((E5.out.new _).step hw hs);clear E5 hw hs kz0 kz4 kz5 kz6 kz7 kz8 kz9 kz10;have E5:=n0_;clear n0_;obtain ⟨kz0,kz4,kz5,kz6,kz7,kz8,kz9,kz10⟩:=E5.out.k99)
  all_goals
   go_ret2
   refine ⟨_,rfl,?_⟩;have h9:=E5.out.wr;rw[HH.out] at h9;rw[HT2.out]
   simpa [numsB,pairB] using h9
theorem rencT_calls (m : Msg) (h : isI m.op.a ∧ isI m.op.b) (A : Option Addr) (c : Nat) (w : World) (hr : Kd.C k87 w A m.views.length m.views) (hc : m.views.length ≤ c) (hk : m.kind = 2) (hv : msgV m) :
    Calls Try.prog 39 #[.agg (MVc m A c)] w fun e w'=>∃ v,e = .returned (.tuple #[v,.int .i64 0])∧WR w w' v (msgB m):=by
  have HLEN:Aside0 ((msgB m).length≤100000):=⟨by have:=msg_len hv;omega⟩;have HV:=Aside0.mk hv;have HR:=Aside0.mk (And.intro hr hc);have HI:=Aside0.mk h;have HN:Aside0 (m.name.size≤100):=⟨by have h1:=hv.2;unfold restV at h1;rw[if_neg (by omega),if_pos hk] at h1;have:=name_size h1.2.1.1;omega⟩;have HT:Aside0 (msgB m=numsB [m.kind]++(pairB m.call++(textB m.name++(numsB [m.err]++optB (capped m.err) pairB (capOf m))))):=⟨by unfold msgB restB;rw[if_neg (by omega),if_pos hk];simp[numsB]⟩;have t1:(m.kind == 1)=false:=by simp[hk]
  have t2:(m.kind == 2)=true:=by simp[hk]
  clear hk;clear hv hr hc h;have hu33:=Try.underlying33;have hu27:=Try.underlying27;have hu29:=Try.underlying29;have hu23:=Try.underlying23;have hu25:=Try.underlying25;obtain ⟨wa,hwa⟩:∃ wa,wa=w.alloc (.cells (MVc m A c) 33 (0,0)):=⟨_,rfl⟩;have HWA:=Aside0.mk hwa;have E0:Aside0 (ES w wa m A c (.slice none 0 0) []):=⟨by rw[hwa];exact ⟨WR.nil (al_below w _),heap_alloc_new w _⟩⟩;clear hwa;go_enter Try.func39,Try.ntmps39
  go_upto_region 1 with fail
  rw[←HWA.out]
  go_upto_region 3 with (first
   | ((with_reducible refine gate_dst (N:=7) rfl ?_);refine wpList_load_row rfl 33 (.tmp 1) rfl w.heap.size (by rfl) 33 (MVc m A c) (0,0) _ E0.out.box Try.underlying33 rfl inf33 ?_)
   | (go_at_call 15;refine (rvalid_calls m HI.out A c _ (Kd.C_below HR.out.1 E0.out.wr.1) HR.out.2).mono ?_;rintro e w0 ⟨rfl,hb⟩;rw[dcd_pos HV.out];have E1:=Aside0.mk (ES.below E0.out hb);clear hb))
  have kz0:w0.cell? ⟨w.heap.size,0,none⟩=some (.int .i64 m.kind):=(E1.out.cell 0).trans rfl;go_upto_region 4 with (go_at_call 88;refine (plain_law w _ _ [] [m.kind] _ _ _ (E1.out.new _).wr (heap_alloc_new w0 _) rfl (by simp) (by simp) (by simp)).mono ?_;rintro e w1 ⟨v1,rfl,hw,hs⟩;have E2:=Aside0.mk ((E1.out.new _).step hw hs);clear hw hs kz0)
  have HX:Aside0 (([]++numsB [m.kind]:List Int).length≤10):=⟨by simpa [numsB] using intB_len m.kind⟩;have kz0:w1.cell? ⟨w.heap.size,0,none⟩=some (.int .i64 m.kind):=(E2.out.cell 0).trans rfl;clear E0 E1 HWA;go_upto_region 8 with fail
  clear kz0;go_cut [4,27,28,29,30,31,32,33,34,35,36,37] from 150 (fun s4 _ _ _ _ _ _ _ _ _ _ _ wx=>Aside0 (ES w wx m A c s4 ([]++numsB [m.kind]++pairB m.call++textB m.name++numsB [m.err])))
  case first =>
    obtain ⟨kz11,kz12,kz1,kz17⟩:=E2.out.drew.k8
    go_region_held3 (fun w' => w'.cell? ⟨w.heap.size, 11, none⟩ = some (.int .i64 m.call.f0) ∧ w'.cell? ⟨w.heap.size, 12, none⟩ = some (.int .i64 m.call.f1) ∧ w'.cell? ⟨w.heap.size, 1, none⟩ = some (.string m.name) ∧ w'.cell? ⟨w.heap.size, 17, none⟩ = some (.int .i64 m.err)) (first | exact E5.out.k8 | exact (E4.out.new _).k8 | exact E4.out.k8 | exact (E3.out.new _).k8 | exact E3.out.k8 | exact (E2.out.drew.new _).k8 | exact E2.out.drew.k8) (first
      | (go_at_call 90;refine (putCall_law w _ v1 ([]++numsB [m.kind]) m.call (by first|exact E2.out.drew.wr|exact (E2.out.drew.new _).wr) (by have:=HX.out;omega)).mono ?_;rintro e w2 ⟨v2,rfl,hw,hs⟩;have E3:Aside0 (ES w w2 m A c v2 ([]++numsB [m.kind]++pairB m.call)):=⟨by first|exact E2.out.drew.step hw hs|exact (E2.out.drew.new _).step hw hs⟩;(try have HL:=Aside0.mk (hs _ _ _ (by decide) (heap_alloc_new w1.drew _)));clear hw hs)
      | (go_at_call 91;refine (text_law w _ v2 ([]++numsB [m.kind]++pairB m.call) m.name (by first|exact E3.out.wr|exact (E3.out.new _).wr) HN.out (by have:=HX.out;have:=pairB_len m.call;rw[List.length_append];omega)).mono ?_;rintro e w3 ⟨v3,rfl,hw,hs⟩;have E4:Aside0 (ES w w3 m A c v3 ([]++numsB [m.kind]++pairB m.call++textB m.name)):=⟨by first|exact E3.out.step hw hs|exact (E3.out.new _).step hw hs⟩;(first|have HL2:=Aside0.mk (hs _ _ _ (by decide) HL.out)|have HL2:=Aside0.mk (hs _ _ _ (by decide) (heap_alloc_new w2 _))|skip);clear hw hs)
      | (go_at_call 88;refine (plain1_law w _ v3 ([]++numsB [m.kind]++pairB m.call++textB m.name) _ m.err (by first|exact E4.out.wr|exact (E4.out.new _).wr) (by first|exact HL2.out|exact heap_alloc_new w3 _) (by have:=HX.out;have:=pairB_len m.call;have:=textB_len HN.out;simp only[List.length_append] at *;omega)).mono ?_;rintro e w4 ⟨v4,rfl,hw,hs⟩;have E5:Aside0 (ES w w4 m A c v4 ([]++numsB [m.kind]++pairB m.call++textB m.name++numsB [m.err])):=⟨by first|exact E4.out.step hw hs|exact (E4.out.new _).step hw hs⟩;clear hw hs))
    all_goals go_wp2_with fail
    all_goals go_meet
    all_goals exact ⟨E5.out⟩
  case rest=>
   clear E2;have E5:=hcut;clear hcut;obtain ⟨kz0,kz17,kz2,kz3⟩:=E5.out.k98;have HXL:Aside0 ((numsB [m.kind]).length≤10∧(pairB m.call).length≤20∧(textB m.name).length≤110∧(numsB [m.err]).length≤10):=⟨nums_len _,pairB_len _,textB_len HN.out,nums_len _⟩;by_cases q0:m.err=0
   case' pos=>
    have e0:(m.err == 0)=true:=by simp[q0]
    have HT2:Aside0 (msgB m=numsB [m.kind]++(pairB m.call++(textB m.name++(numsB [m.err]++pairB (capOf m))))):=⟨by rw[HT.out,optB,if_pos (show capped m.err from .inl q0)]⟩
   case' neg=>
    have e0:(m.err == 0)=false:=by simp[q0]
    by_cases q1:m.err=101
    case' pos=>
     have e1:(m.err == 101)=true:=by simp[q1]
     have HT2:Aside0 (msgB m=numsB [m.kind]++(pairB m.call++(textB m.name++(numsB [m.err]++pairB (capOf m))))):=⟨by rw[HT.out,optB,if_pos (show capped m.err from .inr q1)]⟩
    case' neg=>
     have e1:(m.err == 101)=false:=by simp[q1]
     have HT2:Aside0 (msgB m=numsB [m.kind]++(pairB m.call++(textB m.name++(numsB [m.err]++[])))):=⟨by rw[HT.out,optB,if_neg (show ¬capped m.err from fun h=>h.elim q0 q1)]⟩
    clear q1
   all_goals clear q0 HT
   all_goals go_wp2_with (go_at_call 88;refine (plain2_law w _ _ _ _ _ _ (E5.out.new _).wr (heap_alloc_new _ _) (by have:=HXL.out;simp only[List.length_append,List.length_nil,List.length_cons] at *;omega)).mono ?_;rintro e wn ⟨vn,rfl,hw,hs⟩;have n0_:=Aside0.mk ((E5.out.new _).step hw hs);clear E5 hw hs kz0 kz17 kz2 kz3;have E5:=n0_;clear n0_;obtain ⟨kz0,kz17,kz2,kz3⟩:=E5.out.k98)
   all_goals go_ret2
   all_goals
    refine ⟨_,rfl,?_⟩;have h9:=E5.out.wr;rw[HT2.out]
    simpa [numsB,pairB,capOf] using h9
theorem rencD_calls (m : Msg) (h : isI m.op.a ∧ isI m.op.b) (A : Option Addr) (c : Nat) (w : World) (hr : Kd.C k87 w A m.views.length m.views) (hc : m.views.length ≤ c) (hk : m.kind = 10) (hv : msgV m) :
    Calls Try.prog 39 #[.agg (MVc m A c)] w fun e w'=>∃ v,e = .returned (.tuple #[v,.int .i64 0])∧WR w w' v (msgB m):=by
  have HLEN:Aside0 ((msgB m).length≤100000):=⟨by have:=msg_len hv;omega⟩;have HV:=Aside0.mk hv;have HR:=Aside0.mk (And.intro hr hc);have HI:=Aside0.mk h
  have HVL:Aside0 (m.views.length≤64∧∀ x ∈ m.views,x.f0.size≤100):=⟨by
   have h1:=hv.2;unfold restV at h1;rw[if_neg (by omega),if_neg (by omega),if_pos hk] at h1;exact ⟨h1.1.1,fun x hx=>by have:=name_size (viewsV_name h1.1.2 x hx);omega⟩⟩
  have HT:Aside0 (msgB m=numsB [m.kind]++(numsB [(m.views.length:Int)]++viewsB m.views)):=⟨by unfold msgB restB;rw[if_neg (by omega),if_neg (by omega),if_pos hk];simp[numsB,listB]⟩;have t1:(m.kind == 1)=false:=by simp[hk]
  have t2:(m.kind == 2)=false:=by simp[hk]
  have t10:(m.kind == 10)=true:=by simp[hk]
  have hlI:(m.views.length:Int)≤1000:=by have:=HVL.out.1;omega
  have hl0:(0:Int)≤(m.views.length:Int):=by omega
  have hu87:=Try.underlying87;clear hk;clear hv hr hc h;have hu33:=Try.underlying33;have hu27:=Try.underlying27;have hu29:=Try.underlying29;have hu23:=Try.underlying23;have hu25:=Try.underlying25;obtain ⟨wa,hwa⟩:∃ wa,wa=w.alloc (.cells (MVc m A c) 33 (0,0)):=⟨_,rfl⟩;have HWA:=Aside0.mk hwa;have E0:Aside0 (ES w wa m A c (.slice none 0 0) []):=⟨by rw[hwa];exact ⟨WR.nil (al_below w _),heap_alloc_new w _⟩⟩;clear hwa;go_enter Try.func39,Try.ntmps39
  go_upto_region 1 with fail
  rw[←HWA.out]
  go_upto_region 3 with (first
   | ((with_reducible refine gate_dst (N:=7) rfl ?_);refine wpList_load_row rfl 33 (.tmp 1) rfl w.heap.size (by rfl) 33 (MVc m A c) (0,0) _ E0.out.box Try.underlying33 rfl inf33 ?_)
   | (go_at_call 15;refine (rvalid_calls m HI.out A c _ (Kd.C_below HR.out.1 E0.out.wr.1) HR.out.2).mono ?_;rintro e w0 ⟨rfl,hb⟩;rw[dcd_pos HV.out];have E1:=Aside0.mk (ES.below E0.out hb);clear hb))
  have kz0:w0.cell? ⟨w.heap.size,0,none⟩=some (.int .i64 m.kind):=(E1.out.cell 0).trans rfl;go_upto_region 4 with (go_at_call 88;refine (plain_law w _ _ [] [m.kind] _ _ _ (E1.out.new _).wr (heap_alloc_new w0 _) rfl (by simp) (by simp) (by simp)).mono ?_;rintro e w1 ⟨v1,rfl,hw,hs⟩;have E2:=Aside0.mk ((E1.out.new _).step hw hs);clear hw hs kz0)
  have HX:Aside0 (([]++numsB [m.kind]:List Int).length≤10):=⟨by simpa [numsB] using intB_len m.kind⟩;have kz0:w1.cell? ⟨w.heap.size,0,none⟩=some (.int .i64 m.kind):=(E2.out.cell 0).trans rfl;clear E0 E1 HWA;go_upto_region 13 with fail
  clear kz0;obtain ⟨kz0,kz19⟩:=E2.out.k97;go_upto_region 14 with (go_at_call 88;refine (plain1_law w _ v1 _ _ (m.views.length:Int) (E2.out.new _).wr (heap_alloc_new _ _) (by have:=HX.out;omega)).mono ?_;rintro e w2 ⟨v2,rfl,hw,hs⟩;have E3:=Aside0.mk ((E2.out.new _).step hw hs);clear hw hs kz0 kz19)
  go_wp2_with fail
  go_loopw [4,5] (fun v4 v5 wr=>∃ (i:Nat),v5 = .int .i64 (i:Int)∧Aside0 (i≤m.views.length∧ES w wr m A c v4 ([]++numsB [m.kind]++numsB [(m.views.length:Int)]++viewsB (m.views.take i)))) (fun _ v5 _=>m.views.length - (intOf v5).toNat)
  case atStart=>exact ⟨0,rfl,⟨Nat.zero_le _,by simpa [viewsB] using E3.out⟩⟩
  case round=>
   obtain ⟨i,rfl,HQ⟩:=hrel;have EQ:=Aside0.mk HQ.out.2;obtain ⟨kz0,kz19⟩:=EQ.out.k97;by_cases hlt:i<m.views.length
   ·have hi0:(0:Int)≤(i:Int):=by omega
    have hi1:(i:Int)<(m.views.length:Int):=by omega
    have HLT:=Aside0.mk hlt;obtain ⟨ad,hA,c0,c1,c2,c3,c4,c5,c6⟩:=at_T87 (Kd.C_below HR.out.1 EQ.out.wr.1) (i:Int) hi0 hi1;obtain ⟨x,hx⟩:∃ x,x=rd_T87 m.views (i:Int):=⟨_,rfl⟩;have HX2:=Aside0.mk hx;have HXM:Aside0 (x.f0.size≤100):=⟨HVL.out.2 x (by rw[hx,rd_T87,Int.toNat_natCast,List.getD_eq_getElem?_getD,List.getElem?_eq_getElem hlt];exact List.getElem_mem _)⟩;rw[←hx] at c0 c1 c2 c3 c4 c5 c6;simp only[Int.toNat_natCast] at c0 c1 c2 c3 c4 c5 c6;subst hA;clear hx;obtain ⟨wb,hwb⟩:∃ wb,wb=wr.alloc (.cells #[.string x.f0,.int .i64 x.f1,.int .i64 x.f2,.int .i64 x.f3,.int .i64 x.f4.f0,.int .i64 x.f4.f1,.int .i64 x.f5] 87 (0,0)):=⟨_,rfl⟩;have HWB:=Aside0.mk hwb;have HBX:Aside0 (wb.heap[wr.heap.size]?=some (.cells #[.string x.f0,.int .i64 x.f1,.int .i64 x.f2,.int .i64 x.f3,.int .i64 x.f4.f0,.int .i64 x.f4.f1,.int .i64 x.f5] 87 (0,0))):=⟨by rw[hwb];exact heap_alloc_new wr _⟩;have E4:Aside0 (ES w wb m (some ad) c _ _):=⟨by rw[hwb];exact EQ.out.new _⟩;clear hwb;have HT2:Aside0 ([]++numsB [m.kind]++numsB [(m.views.length:Int)]++viewsB (m.views.take (i+1))=([]++numsB [m.kind]++numsB [(m.views.length:Int)]++viewsB (m.views.take i))++textB x.f0++numsB [x.f1,x.f2,x.f3,x.f4.f0,x.f4.f1,x.f5]):=⟨by rw[viewsB_take m.views i hlt,←HX2.out];simp[viewB,numsB,pairB]⟩
    have HTL:Aside0 (([]++numsB [m.kind]++numsB [(m.views.length:Int)]++viewsB (m.views.take i)).length+(textB x.f0).length+(numsB [x.f1,x.f2,x.f3,x.f4.f0,x.f4.f1,x.f5]).length≤100000):=⟨by
     have h1:=congrArg List.length HT2.out;have h2:=viewsB_le m.views (i+1);have h3:=HLEN.out;rw[HT.out] at h3;simp only[List.length_append,List.length_nil] at h1 h3 ⊢;omega⟩
    go_upto_region 18 with fail
    clear c0 c1 c2 c3 c4 c5 c6 kz0 kz19;rw[←HWB.out];have HBD:=Aside0.mk (blk_drew HBX.out);obtain ⟨kx0,kx1,kx2,kx3,kx4,kx5,kx6⟩:=xcells HBD.out
    go_region_held3 (fun w' => w'.cell? ⟨wr.heap.size, 0, none⟩ = some (.string x.f0) ∧ w'.cell? ⟨wr.heap.size, 1, none⟩ = some (.int .i64 x.f1) ∧ w'.cell? ⟨wr.heap.size, 2, none⟩ = some (.int .i64 x.f2) ∧ w'.cell? ⟨wr.heap.size, 3, none⟩ = some (.int .i64 x.f3) ∧ w'.cell? ⟨wr.heap.size, 4, none⟩ = some (.int .i64 x.f4.f0) ∧ w'.cell? ⟨wr.heap.size, 5, none⟩ = some (.int .i64 x.f4.f1) ∧ w'.cell? ⟨wr.heap.size, 6, none⟩ = some (.int .i64 x.f5)) (first | exact xcells HB4.out | exact xcells (blk_keep (al_below _ _) HB3.out) | exact xcells HB3.out | exact xcells (blk_keep (al_below _ _) HBD.out) | exact xcells HBD.out) (first
      | (go_at_call 91;refine (text_law w _ _ _ x.f0 (by first|exact E4.out.drew.wr|exact (E4.out.drew.new _).wr) HXM.out (by have:=HTL.out;omega)).mono ?_;rintro e w3 ⟨v3,rfl,hw,hs⟩;have E5:Aside0 (ES w w3 m (some ad) c v3 ([]++numsB [m.kind]++numsB [(m.views.length:Int)]++viewsB (m.views.take i)++textB x.f0)):=⟨by first|exact E4.out.drew.step hw hs|exact (E4.out.drew.new _).step hw hs⟩;have HB3:Aside0 (w3.heap[wr.heap.size]?=some (.cells #[.string x.f0,.int .i64 x.f1,.int .i64 x.f2,.int .i64 x.f3,.int .i64 x.f4.f0,.int .i64 x.f4.f1,.int .i64 x.f5] 87 (0,0))):=⟨by first|exact hs _ _ _ (by decide) HBD.out|exact hs _ _ _ (by decide) (blk_keep (al_below _ _) HBD.out)⟩;(try have HL:=Aside0.mk (hs _ _ _ (by decide) (heap_alloc_new wb.drew _)));clear hw hs)
      | (go_at_call 88;refine (plain_law w _ _ _ [x.f1,x.f2,x.f3,x.f4.f0,x.f4.f1,x.f5] _ _ _ (by first|exact E5.out.wr|exact (E5.out.new _).wr) (by first|exact HL.out|exact heap_alloc_new w3 _) rfl (by simp) (by simp) (by have:=HTL.out;simp only[List.length_append] at *;omega)).mono ?_;rintro e w4 ⟨v4,rfl,hw,hs⟩;have E6:Aside0 (ES w w4 m (some ad) c v4 ([]++numsB [m.kind]++numsB [(m.views.length:Int)]++viewsB (m.views.take (i+1)))):=⟨by rw[HT2.out];first|exact E5.out.step hw hs|exact (E5.out.new _).step hw hs⟩;have HB4:Aside0 (w4.heap[wr.heap.size]?=some (.cells #[.string x.f0,.int .i64 x.f1,.int .i64 x.f2,.int .i64 x.f3,.int .i64 x.f4.f0,.int .i64 x.f4.f1,.int .i64 x.f5] 87 (0,0))):=⟨by first|exact hs _ _ _ (by decide) HB3.out|exact hs _ _ _ (by decide) (blk_keep (al_below _ _) HB3.out)⟩;clear hw hs))
    all_goals go_wp2_with fail
    all_goals go_roundw
    all_goals first
     | exact ⟨i+1,by go_num,⟨by have:=HLT.out;omega,E6.out⟩⟩
     | (simp only[intOf];have:=HLT.out;first|omega|(go_num;omega)|(simp;omega))
   ·have hi1:¬((i:Int)<(m.views.length:Int)):=by omega
    have HI2:Aside0 (m.views.take i=m.views):=⟨List.take_of_length_le (by omega)⟩;go_wp2_with fail
    go_ret2
    refine ⟨_,rfl,?_⟩;have h9:=EQ.out.wr;rw[HI2.out] at h9;rw[HT.out]
    simpa using h9
theorem renc0_calls (m:Msg) (h:isI m.op.a∧isI m.op.b) (A:Option Addr) (c:Nat) (w:World) (hr:Kd.C k87 w A m.views.length m.views) (hc:m.views.length≤c) (hv:¬msgV m):
  Calls Try.prog 39 #[.agg (MVc m A c)] w fun e w'=>e = .returned (.tuple #[.slice none 0 0,.int .i64 21])∧Below w.heap.size w w':=by
 have HV:=Aside0.mk hv;have HR:=Aside0.mk (And.intro hr hc);have HI:=Aside0.mk h;clear hv hr hc h;have hu33:=Try.underlying33;obtain ⟨wa,hwa⟩:∃ wa,wa=w.alloc (.cells (MVc m A c) 33 (0,0)):=⟨_,rfl⟩;have HWA:=Aside0.mk hwa;have E0:Aside0 (ES w wa m A c (.slice none 0 0) []):=⟨by rw[hwa];exact ⟨WR.nil (al_below w _),heap_alloc_new w _⟩⟩;clear hwa;go_enter Try.func39,Try.ntmps39
 go_upto_region 1 with fail
 rw[←HWA.out]
 go_wp2_with (first
  | ((with_reducible refine gate_dst (N:=7) rfl ?_);refine wpList_load_row rfl 33 (.tmp 1) rfl w.heap.size (by rfl) 33 (MVc m A c) (0,0) _ E0.out.box Try.underlying33 rfl inf33 ?_)
  | (go_at_call 15;refine (rvalid_calls m HI.out A c _ (Kd.C_below HR.out.1 E0.out.wr.1) HR.out.2).mono ?_;rintro e w0 ⟨rfl,hb⟩;rw[dcd_neg HV.out];have E1:=Aside0.mk (below_step E0.out.wr.1 hb);clear hb))
 go_ret2
 exact ⟨rfl,E1.out⟩
theorem renc_calls (m:Msg) (h:isI m.op.a∧isI m.op.b) (A:Option Addr) (c:Nat) (w:World) (hr:Kd.C k87 w A m.views.length m.views) (hc:m.views.length≤c):
  Calls Try.prog 39 #[.agg (MVc m A c)] w fun e w'=>∃ v,e = .returned (.tuple #[v,.int .i64 (lay msgB msgV m).2])∧Kd.R (Kd.int .u8) 5 w' w.heap.size (fun _=>True) v (lay msgB msgV m).1∧Below w.heap.size w w':=by
 by_cases hv:msgV m
 ·rw[lay_ok hv];have hk:=hv.1;have fin:∀ (e:Ending) (w':World),(∃ v,e = .returned (.tuple #[v,.int .i64 0])∧WR w w' v (msgB m)) → ∃ v,e = .returned (.tuple #[v,.int .i64 0])∧Kd.R (Kd.int .u8) 5 w' w.heap.size (fun _=>True) v (msgB m)∧Below w.heap.size w w':=fun e w' ⟨v,he,hw⟩=>⟨v,he,hw.2,hw.1⟩;by_cases h1:m.kind=1
  ·exact (renc1_calls m h A c w hr hc h1 hv).mono fin
  by_cases h2:m.kind=2
  ·exact (rencT_calls m h A c w hr hc h2 hv).mono fin
  by_cases h3:m.kind=10
  ·exact (rencD_calls m h A c w hr hc h3 hv).mono fin
  ·exact (rencO_calls m h A c w hr hc (by omega) hv).mono fin
 ·rw[lay_no hv];exact (renc0_calls m h A c w hr hc hv).mono fun e w' h2=>⟨_,h2.1,Kd.R_nil _ _ _ _ _,h2.2⟩
end Go.Proofs.Ytpgdmmjbhjbbhaa.Rf
end
section
namespace Go.Proofs.Ytpgdmmjbhjbbhaa.Rf
open Go Go.RowKit P Sp Vd En Wr Rd Lw YtpgdmmjbhjbbhaaW.PrintWords YtpgdmmjbhjbbhaaW.PrintLast YtpgdmmjbhjbbhaaW.PrintMore
def St (b:List Int) (s:R Unit) (at_:Int) (wr:Bool):Prop:=match s with
 | .ok _ l=>wr=false∧(∃ pre,b=pre++l)∧at_=pl b l
 | .bad n=>wr=true∧at_=(b.length:Int) - n∧n≤b.length
def Post {α : Type} (p : Rdr α) (s : R Unit) (x : α) (s' : R Unit) : Prop := match s with
  | .bad n=>s' = .bad n
  | .ok _ l => match p l with
    | .bad n=>s' = .bad n
    | .ok y r=>x=y∧s' = .ok () r
theorem Post.bnd {α β:Type} {p:Rdr α} {f:α→Rdr β} {s s1 s2:R Unit} {x:α} {y:β} (h1:Post p s x s1) (h2:Post (f x) s1 y s2):Post (Sp.bnd p f) s y s2:=by
 cases s with
 | bad n=>
  simp only[Post] at h1;subst h1;exact h2
 | ok u l=>
  simp only[Post] at h1 ⊢;cases hp:p l with
  | bad n=>
   rw[hp] at h1;simp only at h1;subst h1;simp only[Post] at h2;rw[bnd_bad hp];exact h2
  | ok z r=>
   rw[hp] at h1;simp only at h1;obtain ⟨rfl,rfl⟩:=h1;simp only[Post] at h2;rw[bnd_ok hp];exact h2
theorem Post.ret {α:Type} (x:α) (s:R Unit):Post (Sp.ret x) s x s:=by
 cases s with
 | bad n=>rfl
 | ok u l=>exact ⟨rfl,rfl⟩
theorem rd_drop {b l:List Int} (h:∃ pre,b=pre++l) (j:Nat) (hj:j<l.length):rd b (pl b l+(j:Int))=l.getD j 0:=by
 obtain ⟨pre,rfl⟩:=h;have:(pl (pre++l) l+(j:Int)).toNat=pre.length+j:=by unfold pl;simp;omega
 unfold rd;rw[this];simp[List.getD_eq_getElem?_getD,List.getElem?_append_right]
theorem pl_le {b l:List Int} (h:∃ pre,b=pre++l):0≤pl b l∧pl b l+l.length=b.length:=by
 obtain ⟨pre,rfl⟩:=h;unfold pl;simp
theorem wrap_n (n:Int) (h0 : -9223372036854775808≤n) (h1:n≤9223372036854775807):wrap64 n=n:=IntWalk.wrap64_in _ ⟨h0,h1⟩
def isCut:NR→Bool
 | .cut=>true
 | _=>false
def cutN (n j:Nat) (l:List Int):Bool:=match n with
 | 0=>false
 | _+1=>isCut (numGo j l)
theorem cut_l (b l : List Int) (h : ∃ pre, b = pre ++ l) (hb : b.length ≤ 9223372036854775807) (hB : IsB l) (wr : Bool) : ∀ (n j : Nat) (l2 : List Int), j + n = 10 → l2 = l.drop j → j ≤ l.length → ∀ k, n + 1 ≤ k →
    sluiceref2_reader_cut.l0 k (j:Int) b (pl b l) wr=some (cutN n j l2,pl b l,wr):=by
  intro n
  induction n with
  | zero=>
   intro j l2 hj h2 hjl k hk;obtain ⟨k,rfl⟩:∃ i,k=i+1:=⟨k - 1,by omega⟩;rw[sluiceref2_reader_cut.l0,if_neg (by omega)];rfl
  | succ n ih=>
   intro j l2 hj h2 hjl k hk;obtain ⟨k,rfl⟩:∃ i,k=i+1:=⟨k - 1,by omega⟩;have hp:=pl_le h;rw[sluiceref2_reader_cut.l0,if_pos (by omega),wrap_n _ (by omega) (by omega)]
   show _=some (isCut (numGo j l2),pl b l,wr)
   by_cases hl:j<l.length
   ·have h3:l.drop j=l[j]::l.drop (j+1):=List.drop_eq_getElem_cons hl;have h4:=rd_drop h j hl;have h5:l.getD j 0=l[j]:=by simp[List.getD_eq_getElem?_getD,List.getElem?_eq_getElem hl]
    have hc:=hB l[j] (List.getElem_mem hl);rw[if_neg (by omega),if_pos (by omega),if_pos (by omega),h4,h5,h2,h3,numGo];by_cases hlt:l[j]<128
    ·rw[if_pos hlt,if_pos hlt]
     split<;>rfl
    ·rw[if_neg hlt,if_neg hlt,wrap_s (by omega),ih (j+1) _ (by omega) rfl (by omega) k (by omega)];cases n with
     | zero=>rw[if_pos (by omega)];rfl
     | succ n=>
      rw[if_neg (by omega)]
      show some (isCut (numGo (j+1) (l.drop (j+1))),_,_)=_
      cases numGo (j+1) (l.drop (j+1))<;>rfl
   ·rw[if_pos (by omega),h2,List.drop_of_length_le (by omega)];rfl
theorem cut_f (b l:List Int) (h:∃ pre,b=pre++l) (hb:b.length≤9223372036854775807) (hB:IsB l) (wr:Bool) (k:Nat) (hk:11≤k):sluiceref2_reader_cut.f k b (pl b l) wr=some (isCut (numGo 0 l),pl b l,wr):=
 cut_l b l h hb hB wr 10 0 l rfl rfl (Nat.zero_le _) k hk
theorem u_in {n:Int} (h0:0≤n) (h1:n<18446744073709551616):IntKind.u64.wrap n=n:=by simp[IntKind.wrap,IntKind.bits,IntKind.signed];omega
theorem raw_l (b l : List Int) (h : ∃ pre, b = pre ++ l) (hb : b.length ≤ 9223372036854775807) (hB : IsB l) (wr : Bool) : ∀ (n j : Nat) (acc : Int) (P : Nat) (l2 : List Int), j + n = 9 → P = 128 ^ j → l2 = l.drop j → j ≤ l.length → 0 ≤ acc → acc < (P : Int) → ∀ k, n + 2 ≤ k →
    (∀ m r,numGo j l2 = .ok m r→sluiceref2_reader_raw.l0 k acc (P:Int) (j:Int) b (pl b l) wr=some (acc+(P:Int) * (m:Int),(l.length:Int) - r.length,true,pl b l,wr)) ∧
    (numGo j l2 = .bad → ∃ x y,sluiceref2_reader_raw.l0 k acc (P:Int) (j:Int) b (pl b l) wr=some (x,y,false,pl b l,wr)):=by
  intro n
  induction n with
  | zero=>
   intro j acc P l2 hj hP h2 hjl ha0 ha1 k hk;obtain rfl:j=9:=by omega
   obtain ⟨k,rfl⟩:∃ i,k=i+1:=⟨k - 1,by omega⟩;have hp:=pl_le h;have hP9:P=9223372036854775808:=by rw[hP]
   subst hP9;by_cases hl:9<l.length
   ·have h3:l.drop 9=l[9]::l.drop (9+1):=List.drop_eq_getElem_cons hl;have h4:=rd_drop h 9 hl;have h5:l.getD 9 0=l[9]:=by simp[List.getD_eq_getElem?_getD,List.getElem?_eq_getElem hl]
    have hc:=hB l[9] (List.getElem_mem hl);have hdl:(l.drop (9+1)).length=l.length - 10:=by rw[List.length_drop]
    obtain ⟨c,hcc⟩:∃ c,l[9]=c:=⟨_,rfl⟩;rw[hcc] at h3 h5 hc;rw[sluiceref2_reader_raw.l0,if_pos (by omega),wrap_n _ (by omega) (by omega),if_neg (by omega),if_pos (by omega),if_pos (by omega),h4,h5,h2,h3,numGo];by_cases hlt:c<128
    · rw [if_pos hlt, if_pos hlt, if_neg (show ¬ ((9 : Nat) : Int) = 0 by omega)]
      by_cases h0:c > 0
      ·rw[if_pos h0,if_neg (show ¬((9:Nat):Int)<9 by omega)];by_cases h1:c=1
       ·subst h1;rw[if_pos (by omega)];refine ⟨fun m r hm=>?_,fun hm=>by cases hm⟩
        injection hm with hm1 hm2
        subst hm1 hm2;have e1:IntKind.u64.wrap (Int.tmod 1 128)=1:=by decide
        rw[e1,u_in (n:=((9223372036854775808:Nat):Int) * 1) (by omega) (by omega),u_in (by omega) (by omega),wrap_n _ (by omega) (by omega),hdl];simp only[beq_self_eq_true,Option.some.injEq,Prod.mk.injEq,and_true,true_and];exact ⟨by omega,by omega⟩
       ·rw[if_neg (by omega)];have:(c == 1)=false:=by simp[h1]
        rw[this];exact ⟨(fun m r hm=>by cases hm),fun _=>⟨_,_,rfl⟩⟩
      ·rw[if_neg h0,if_neg (by omega)];exact ⟨(fun m r hm=>by cases hm),fun _=>⟨_,_,rfl⟩⟩
    ·rw[if_neg hlt,if_neg hlt,if_pos (by omega)];refine ⟨(fun m r hm=>by cases hm),fun _=>?_⟩;obtain ⟨k,rfl⟩:∃ i,k=i+1:=⟨k - 1,by omega⟩;rw[sluiceref2_reader_raw.l0,if_neg (by rw[wrap_n _ (by omega) (by omega)];omega)];exact ⟨_,_,rfl⟩
   ·rw[h2,List.drop_of_length_le (by omega)];exact ⟨(fun m r hm=>by cases hm),fun hm=>by cases hm⟩
  | succ n ih=>
   intro j acc P l2 hj hP h2 hjl ha0 ha1 k hk;obtain ⟨k,rfl⟩:∃ i,k=i+1:=⟨k - 1,by omega⟩;have hp:=pl_le h
   have hPle:P * 128≤9223372036854775808:=by
    rw[hP,←Nat.pow_succ];exact Nat.le_trans (Nat.pow_le_pow_right (by decide) (show j+1≤9 by omega)) (by decide)
   by_cases hl:j<l.length
   ·have h3:l.drop j=l[j]::l.drop (j+1):=List.drop_eq_getElem_cons hl;have h4:=rd_drop h j hl;have h5:l.getD j 0=l[j]:=by simp[List.getD_eq_getElem?_getD,List.getElem?_eq_getElem hl]
    have hc:=hB l[j] (List.getElem_mem hl);have hdl:(l.drop (j+1)).length=l.length - (j+1):=by rw[List.length_drop]
    obtain ⟨c,hcc⟩:∃ c,l[j]=c:=⟨_,rfl⟩;rw[hcc] at h3 h5 hc;have hmod:Int.tmod c 128=c % 128:=Int.tmod_eq_emod_of_nonneg hc.1;have hm0:0≤c % 128∧c % 128≤127:=by omega
    have hq0:0≤(P:Int) * (c % 128):=Int.mul_nonneg (by omega) hm0.1;have hq1:(P:Int) * (c % 128)≤(P:Int) * 127:=Int.mul_le_mul_of_nonneg_left hm0.2 (by omega)
    have hv:IntKind.u64.wrap (acc+IntKind.u64.wrap ((P:Int) * IntKind.u64.wrap (Int.tmod c 128)))=acc+(P:Int) * (c % 128):=by
     rw[hmod,u_in (n:=c % 128) (by omega) (by omega),u_in hq0 (by omega),u_in (by omega) (by omega)]
    rw[sluiceref2_reader_raw.l0,if_pos (by omega),wrap_n (pl b l+(j:Int)) (by omega) (by omega),if_neg (by omega),if_pos (by omega),if_pos (by omega),h4,h5,hv,h2,h3,numGo];by_cases hlt:c<128
    ·have hcm:c % 128=c:=by omega
     rw[if_pos hlt,if_pos hlt,if_pos (show (j:Int)<9 by omega),wrap_s (by omega),hcm]
     have fin : ∀ m r, NR.ok c.toNat (l.drop (j + 1)) = .ok m r → some (acc + (P : Int) * c, ((j + 1 : Nat) : Int), true, pl b l, wr) = some (acc + (P : Int) * (m : Int), (l.length : Int) - r.length, true, pl b l, wr) := fun m r hm => by
       injection hm with hm1 hm2
       subst hm1 hm2;rw[hdl,show ((c.toNat:Nat):Int)=c by omega]
       congr 2
       congr 1
       omega
     by_cases h0:(j:Int)=0
     ·rw[if_pos h0,if_pos ⟨.inl (by omega),.inl (by omega)⟩];exact ⟨fin,fun hm=>by cases hm⟩
     ·rw[if_neg h0];by_cases h1:c > 0
      ·rw[if_pos h1,if_pos ⟨.inr h1,.inl (by omega)⟩];exact ⟨fin,fun hm=>by cases hm⟩
      ·rw[if_neg h1,if_neg (by omega)];exact ⟨(fun m r hm=>by cases hm),fun _=>⟨_,_,rfl⟩⟩
    ·rw[if_neg hlt,if_neg hlt,if_neg (by omega),wrap_s (by omega),u_in (n:=(P:Int) * 128) (by omega) (by omega)];have hI:=ih (j+1) (acc+(P:Int) * (c % 128)) (P * 128) (l.drop (j+1)) (by omega) (by rw[Nat.pow_succ,hP]) rfl (by omega) (by omega) (by push_cast;omega) k (by omega);rw[show ((P * 128:Nat):Int)=(P:Int) * 128 by push_cast;rfl] at hI;cases hg:numGo (j+1) (l.drop (j+1)) with
     | cut=>exact ⟨(fun m r hm=>by cases hm),fun hm=>by cases hm⟩
     | bad=>exact ⟨(fun m r hm=>by cases hm),fun _=>hI.2 hg⟩
     | ok m' r'=>
      refine ⟨fun m r hm=>?_,fun hm=>by cases hm⟩
      injection hm with hm1 hm2
      subst hm1 hm2;rw[hI.1 m' r' hg]
      congr 2
      rw[show ((c.toNat % 128+128 * m':Nat):Int)=c % 128+128 * (m':Int) by omega,Int.mul_add,←Int.mul_assoc,Int.add_assoc]
   ·rw[h2,List.drop_of_length_le (by omega)];exact ⟨(fun m r hm=>by cases hm),fun hm=>by cases hm⟩
theorem numGo_rest : ∀ (l : List Int) (k n : Nat) (r : List Int), numGo k l = .ok n r → ∃ pre, l = pre ++ r
  | [],k,n,r,h=>by simp[numGo] at h
  | c :: l, k, n, r, h => by
    unfold numGo at h
    split at h
    ·split at h
     ·cases h;exact ⟨[c],rfl⟩
     ·cases h
    ·split at h
     ·cases h
     ·split at h
      ·rename_i a b hq;cases h
       obtain ⟨pre,rfl⟩:=numGo_rest l (k+1) _ _ hq;exact ⟨c::pre,rfl⟩
      ·rename_i x hx
       first|cases h|exact absurd h (hx n r)
theorem raw_f (b l:List Int) (h:∃ pre,b=pre++l) (hb:b.length≤9223372036854775807) (hB:IsB l) (wr:Bool) (k:Nat) (hk:11≤k):
  (∀ m r,numGo 0 l = .ok m r→sluiceref2_reader_raw.f k b (pl b l) wr=some ((m:Int),(l.length:Int) - r.length,true,pl b l,wr)) ∧
  (numGo 0 l = .bad → ∃ x y,sluiceref2_reader_raw.f k b (pl b l) wr=some (x,y,false,pl b l,wr)):=by
 have:=raw_l b l h hb hB wr 9 0 0 1 l rfl rfl rfl (Nat.zero_le _) (by omega) (by decide) k (by omega);refine ⟨fun m r hm=>?_,fun hm=>?_⟩
 ·have h2:=this.1 m r hm;rw[show (0:Int)+((1:Nat):Int) * (m:Int)=(m:Int) by omega] at h2;exact h2
 ·exact this.2 hm
theorem num_f (b : List Int) (s : R Unit) (at_ : Int) (wr : Bool) (lo hi : Int) (hS : St b s at_ wr) (hb : b.length ≤ 9223372036854775807) (hB : IsB b) (h0 : 0 ≤ lo) (h1 : hi ≤ 9223372036854775807) (h2 : lo ≤ hi) (k : Nat) (hk : 11 ≤ k) :
    ∃ x at' wr' s',sluiceref2_reader_num.f k b at_ wr lo hi=some (x,at',wr')∧St b s' at' wr'∧Post (numP lo hi) s x s'∧0≤x∧x≤hi:=by
  unfold sluiceref2_reader_num.f;cases s with
  | bad n=>
   obtain ⟨rfl,ha,hn⟩:=hS;rw[if_pos rfl];exact ⟨0,at_,true,.bad n,rfl,⟨rfl,ha,hn⟩,rfl,by omega,by omega⟩
  | ok u l=>
   obtain ⟨rfl,hp,rfl⟩:=hS;have hBl:IsB l:=by obtain ⟨pre,rfl⟩:=hp;exact (IsB.append.mp hB).2
   have hle:=pl_le hp;rw[if_neg (by decide),cut_f b l hp hb hBl false k hk,Option.bind_some];have hr:=raw_f b l hp hb hBl false k hk;cases hg:numGo 0 l with
   | cut=>
    rw[if_pos (by rfl)];have hn:numP lo hi l = .bad 0:=by unfold numP rawP;rw[hg]
    refine ⟨0,b.length,true,.bad 0,rfl,⟨rfl,by omega,Nat.zero_le _⟩,?_,by omega,by omega⟩;simp only[Post];rw[hn]
   | bad=>
    obtain ⟨x,y,he⟩:=hr.2 hg;rw[if_neg (by simp[isCut])];simp only;rw[he,Option.bind_some,if_neg (by simp)];have hn:numP lo hi l = .bad l.length:=by unfold numP rawP;rw[hg]
    refine ⟨0,pl b l,true,.bad l.length,rfl,⟨rfl,rfl,by omega⟩,?_,by omega,by omega⟩;simp only[Post];rw[hn]
   | ok m r=>
    have he:=hr.1 m r hg;have hm:=numGo_one l 0 m r (by omega) hBl hg;have hm2:m<18446744073709551616:=hm.2.1;rw[if_neg (by simp[isCut])];simp only;rw[he,Option.bind_some,if_pos rfl];simp only;rw[u_in (n:=hi) (by omega) (by omega),u_in h0 (by omega)];by_cases hhi:(m:Int) > hi
    ·have hn:numP lo hi l = .bad l.length:=by unfold numP rawP;rw[hg];simp only;rw[if_neg (by omega)]
     rw[if_pos hhi];refine ⟨0,pl b l,true,.bad l.length,rfl,⟨rfl,rfl,by omega⟩,?_,by omega,by omega⟩;simp only[Post];rw[hn]
    ·rw[if_neg hhi];by_cases hlo:(m:Int)<lo
     ·have hn:numP lo hi l = .bad l.length:=by unfold numP rawP;rw[hg];simp only;rw[if_neg (by omega)]
      rw[if_pos hlo];refine ⟨0,pl b l,true,.bad l.length,rfl,⟨rfl,rfl,by omega⟩,?_,by omega,by omega⟩;simp only[Post];rw[hn]
     ·have hn:numP lo hi l = .ok (m:Int) r:=by unfold numP rawP;rw[hg];simp only;rw[if_pos (by omega)]
      rw[if_neg hlo];obtain ⟨q,hq⟩:=numGo_rest l 0 m r hg;obtain ⟨pre,hpre⟩:=hp;have hrl:r.length≤l.length:=by rw[hq];simp
      rw[wrap_n (m:Int) (by omega) (by omega),wrap_n (pl b l+((l.length:Int) - r.length)) (by omega) (by omega)];refine ⟨(m:Int),_,false,.ok () r,rfl,⟨rfl,⟨pre++q,by rw[List.append_assoc,←hq];exact hpre⟩,by unfold pl;omega⟩,?_,by omega,by omega⟩;simp only[Post];rw[hn];exact ⟨rfl,rfl⟩
theorem sign_f (b : List Int) (s : R Unit) (at_ : Int) (wr : Bool) (hS : St b s at_ wr) (hb : b.length ≤ 9223372036854775807) (hB : IsB b) (k : Nat) (hk : 11 ≤ k) :
    ∃ x at' wr' s',sluiceref2_reader_sign.f k b at_ wr=some (x,at',wr')∧St b s' at' wr'∧Post signP s x s':=by
  unfold sluiceref2_reader_sign.f;cases s with
  | bad n=>
   obtain ⟨rfl,ha,hn⟩:=hS;rw[if_pos rfl];exact ⟨0,at_,true,.bad n,rfl,⟨rfl,ha,hn⟩,rfl⟩
  | ok u l=>
   obtain ⟨rfl,hp,rfl⟩:=hS;have hBl:IsB l:=by obtain ⟨pre,rfl⟩:=hp;exact (IsB.append.mp hB).2
   have hle:=pl_le hp;rw[if_neg (by decide),cut_f b l hp hb hBl false k hk,Option.bind_some];have hr:=raw_f b l hp hb hBl false k hk;cases hg:numGo 0 l with
   | cut=>
    rw[if_pos (by rfl)];have hn:signP l = .bad 0:=by unfold signP rawP;rw[hg]
    refine ⟨0,b.length,true,.bad 0,rfl,⟨rfl,by omega,Nat.zero_le _⟩,?_⟩;simp only[Post];rw[hn]
   | bad=>
    obtain ⟨x,y,he⟩:=hr.2 hg;rw[if_neg (by simp[isCut])];simp only;rw[he,Option.bind_some,if_neg (by simp)];have hn:signP l = .bad l.length:=by unfold signP rawP;rw[hg]
    refine ⟨0,pl b l,true,.bad l.length,rfl,⟨rfl,rfl,by omega⟩,?_⟩;simp only[Post];rw[hn]
   | ok m r=>
    have he:=hr.1 m r hg;have hm:=numGo_one l 0 m r (by omega) hBl hg;have hm2:m<18446744073709551616:=hm.2.1;rw[if_neg (by simp[isCut])];simp only;rw[he,Option.bind_some,if_pos rfl];simp only;have hn:signP l = .ok (unsign m) r:=by unfold signP rawP;rw[hg]
    obtain ⟨q,hq⟩:=numGo_rest l 0 m r hg;obtain ⟨pre,hpre⟩:=hp;have hrl:r.length≤l.length:=by rw[hq];simp
    have hd:Int.tdiv (m:Int) 2=((m / 2:Nat):Int):=by rw[Int.tdiv_eq_ediv_of_nonneg (by omega)];omega
    have hmd:Int.tmod (m:Int) 2=((m % 2:Nat):Int):=by rw[Int.tmod_eq_emod_of_nonneg (by omega)];omega
    rw[hd,hmd,u_in (n:=((m / 2:Nat):Int)) (by omega) (by omega),wrap_n ((m / 2:Nat):Int) (by omega) (by omega),wrap_n (-((m / 2:Nat):Int)) (by omega) (by omega),wrap_n (-((m / 2:Nat):Int) - 1) (by omega) (by omega),wrap_n (pl b l+((l.length:Int) - r.length)) (by omega) (by omega)]
    have fin:∃ x at' wr' s',some (unsign m,pl b l+((l.length:Int) - r.length),false)=some (x,at',wr')∧St b s' at' wr'∧Post signP (.ok u l) x s':=by
     refine ⟨unsign m,_,false,.ok () r,rfl,⟨rfl,⟨pre++q,by rw[List.append_assoc,←hq];exact hpre⟩,by unfold pl;omega⟩,?_⟩;simp only[Post];rw[hn];exact ⟨rfl,rfl⟩
    by_cases h2:m % 2=0
    ·rw[if_pos (by omega)];rw[show unsign m=((m / 2:Nat):Int) by unfold unsign;rw[if_pos h2]] at fin;exact fin
    ·rw[if_neg (by omega)];rw[show unsign m = -((m / 2:Nat):Int) - 1 by unfold unsign;rw[if_neg h2]] at fin;exact fin
structure Src (b:List Int):Prop where
 len:b.length≤9223372036854775807
 isB:IsB b
def RSt (w0 w:World) (g:Nat) (b:List Int) (s:R Unit):Prop:=∃ at_ wr,IsS132 w0 w g b at_ wr∧St b s at_ wr∧Below w0.heap.size w0 w
theorem RSt.below {w0 w w1:World} {g:Nat} {b:List Int} {s:R Unit} (h:RSt w0 w g b s) (hb:Below w.heap.size w w1):RSt w0 w1 g b s:=by
 obtain ⟨at_,wr,h1,h2,h3⟩:=h;exact ⟨at_,wr,h1.below hb,h2,h3.trans (hb.mono h3.size)⟩
theorem RSt.bel {w0 w:World} {g:Nat} {b:List Int} {s:R Unit} (h:RSt w0 w g b s):Below w0.heap.size w0 w:=by
 obtain ⟨at_,wr,h1,h2,h3⟩:=h;exact h3
theorem num_calls (w0 w:World) (g:Nat) (b:List Int) (s:R Unit) (lo hi:Int) (h0:0≤lo) (h1:hi≤9223372036854775807) (h2:lo≤hi) (hs:Src b) (h:RSt w0 w g b s):
  Calls Try.prog 102 #[.pointer (some ⟨g,0,none⟩),.int .i64 lo,.int .i64 hi] w fun e w'=>∃ x s',e = .returned (.int .i64 x)∧RSt w0 w' g b s'∧Post (numP lo hi) s x s'∧KeepBut w w' g none∧0≤x∧x≤hi:=by
 obtain ⟨at_,wr,hI,hS,hB⟩:=h;obtain ⟨x,at',wr',s',hf,hS',hP,hx⟩:=num_f b s at_ wr lo hi hS hs.len hs.isB h0 h1 h2 11 (Nat.le_refl _);refine (sluiceref2_reader_num.calls 11 g b at_ wr lo hi x at' wr' w0 w hI hB hf).mono ?_;rintro e w' ⟨he,hI',hB',hk⟩;exact ⟨x,s',he,⟨at',wr',hI',hS',hB'⟩,hP,hk,hx⟩
theorem sign_calls (w0 w:World) (g:Nat) (b:List Int) (s:R Unit) (hs:Src b) (h:RSt w0 w g b s):
  Calls Try.prog 107 #[.pointer (some ⟨g,0,none⟩)] w fun e w'=>∃ x s',e = .returned (.int .i64 x)∧RSt w0 w' g b s'∧Post signP s x s'∧KeepBut w w' g none:=by
 obtain ⟨at_,wr,hI,hS,hB⟩:=h;obtain ⟨x,at',wr',s',hf,hS',hP⟩:=sign_f b s at_ wr hS hs.len hs.isB 11 (Nat.le_refl _);refine (sluiceref2_reader_sign.calls 11 g b at_ wr x at' wr' w0 w hI hB hf).mono ?_;rintro e w' ⟨he,hI',hB',hk⟩;exact ⟨x,s',he,⟨at',wr',hI',hS',hB'⟩,hP,hk⟩
theorem two_f {b:List Int} {s:R Unit} {at_:Int} {wr:Bool} {l1 h1 l2 h2:Int} (hS:St b s at_ wr) (hs:Src b) (a0:0≤l1) (a1:h1≤9223372036854775807) (a2:l1≤h1) (b0:0≤l2) (b1:h2≤9223372036854775807) (b2:l2≤h2):
  ∃ x y at' wr' s',((sluiceref2_reader_num.f 11 b at_ wr l1 h1).bind fun p=>(sluiceref2_reader_num.f 11 b p.2.1 p.2.2 l2 h2).bind fun q=>some (p.1,q.1,q.2.1,q.2.2))=some (x,y,at',wr')∧St b s' at' wr'∧Post (pairP l1 h1 l2 h2) s ⟨x,y⟩ s':=by
 obtain ⟨x,at1,wr1,s1,hf1,hS1,hP1,_⟩:=num_f b s at_ wr l1 h1 hS hs.len hs.isB a0 a1 a2 11 (Nat.le_refl _);obtain ⟨y,at2,wr2,s2,hf2,hS2,hP2,_⟩:=num_f b s1 at1 wr1 l2 h2 hS1 hs.len hs.isB b0 b1 b2 11 (Nat.le_refl _);refine ⟨x,y,at2,wr2,s2,?_,hS2,hP1.bnd (hP2.bnd (Post.ret _ _))⟩;rw[hf1,Option.bind_some]
 show ((sluiceref2_reader_num.f 11 b at1 wr1 l2 h2).bind _)=_
 rw[hf2,Option.bind_some]
def Two (w0 w:World) (g:Nat) (b:List Int) (p:Rdr S25) (s:R Unit) (e:Ending) (w':World):Prop:=
 ∃ x s',e = .returned (.agg #[.int .i64 x.f0,.int .i64 x.f1])∧RSt w0 w' g b s'∧Post p s x s'∧KeepBut w w' g none
theorem call_calls (w0 w:World) (g:Nat) (b:List Int) (s:R Unit) (hs:Src b) (h:RSt w0 w g b s):
  Calls Try.prog 104 #[.pointer (some ⟨g,0,none⟩)] w (Two w0 w g b callP s):=by
 obtain ⟨at_,wr,hI,hS,hB⟩:=h;obtain ⟨x,y,at',wr',s',hf,hS',hP⟩:=two_f (l1:=0) (h1:=63) (l2:=1) (h2:=1099511627776) hS hs (by decide) (by decide) (by decide) (by decide) (by decide) (by decide);refine (sluiceref2_reader_call.calls 11 g b at_ wr x y at' wr' w0 w hI hB hf).mono ?_;rintro e w' ⟨he,hI',hB',hk⟩;exact ⟨⟨x,y⟩,s',he,⟨at',wr',hI',hS',hB'⟩,hP,hk⟩
theorem rights_calls (w0 w:World) (g:Nat) (b:List Int) (s:R Unit) (hs:Src b) (h:RSt w0 w g b s):
  Calls Try.prog 118 #[.pointer (some ⟨g,0,none⟩)] w (Two w0 w g b rightsP s):=by
 obtain ⟨at_,wr,hI,hS,hB⟩:=h;obtain ⟨x,y,at',wr',s',hf,hS',hP⟩:=two_f (l1:=0) (h1:=1099511627776) (l2:=0) (h2:=1099511627776) hS hs (by decide) (by decide) (by decide) (by decide) (by decide) (by decide);refine (sluiceref2_reader_rights.calls 11 g b at_ wr x y at' wr' w0 w hI hB hf).mono ?_;rintro e w' ⟨he,hI',hB',hk⟩;exact ⟨⟨x,y⟩,s',he,⟨at',wr',hI',hS',hB'⟩,hP,hk⟩
theorem epoch_calls (w0 w:World) (g:Nat) (b:List Int) (s:R Unit) (hs:Src b) (h:RSt w0 w g b s):
  Calls Try.prog 117 #[.pointer (some ⟨g,0,none⟩)] w (Two w0 w g b epochP s):=by
 obtain ⟨at_,wr,hI,hS,hB⟩:=h;obtain ⟨x,y,at',wr',s',hf,hS',hP⟩:=two_f (l1:=1) (h1:=1099511627776) (l2:=0) (h2:=15) hS hs (by decide) (by decide) (by decide) (by decide) (by decide) (by decide);refine (sluiceref2_reader_epoch.calls 11 g b at_ wr x y at' wr' w0 w hI hB hf).mono ?_;rintro e w' ⟨he,hI',hB',hk⟩;exact ⟨⟨x,y⟩,s',he,⟨at',wr',hI',hS',hB'⟩,hP,hk⟩
def doneV (b:List Int):R Unit→Int×Int
 | .bad n=>((b.length:Int) - n,20)
 | .ok _ []=>(0,0)
 | .ok _ (c::l)=>(pl b (c::l),20)
theorem done_calls (w0 w:World) (g:Nat) (b:List Int) (s:R Unit) (hs:Src b) (h:RSt w0 w g b s):
  Calls Try.prog 93 #[.pointer (some ⟨g,0,none⟩)] w fun e w'=>e = .returned (.tuple #[.int .i64 (doneV b s).1,.int .i64 (doneV b s).2])∧RSt w0 w' g b s∧KeepBut w w' g none:=by
 obtain ⟨at_,wr,hI,hS,hB⟩:=h
 have hf:sluiceref2_reader_done.f b at_ wr=some ((doneV b s).1,(doneV b s).2,at_,wr):=by
  unfold sluiceref2_reader_done.f
  match s,hS with
  | .bad n,hS=>
   obtain ⟨rfl,rfl,hn⟩:=hS;rw[if_pos rfl];rfl
  | .ok u [],hS=>
   obtain ⟨rfl,hp,rfl⟩:=hS;have:=pl_le hp;simp only[List.length_nil] at this;rw[if_neg (by decide),if_neg (by omega)];rfl
  | .ok u (c::l),hS=>
   obtain ⟨rfl,hp,rfl⟩:=hS;have:=pl_le hp;simp only[List.length_cons] at this;rw[if_neg (by decide),if_pos (by omega)];rfl
 refine (sluiceref2_reader_done.calls g b at_ wr _ _ at_ wr w0 w hI hB hf).mono ?_;rintro e w' ⟨he,hI',hB',hk⟩;exact ⟨he,⟨at_,wr,hI',hS,hB'⟩,hk⟩
theorem take_calls (w0 w : World) (g : Nat) (b : List Int) (s : R Unit) (n : Nat) (hn : n ≤ 1000000) (hs : Src b) (h : RSt w0 w g b s) :
    Calls Try.prog 103 #[.pointer (some ⟨g,0,none⟩),.int .i64 (n:Int)] w fun e w'=>∃ x A1 c1 s',e = .returned (.slice A1 x.length c1)∧x.length≤c1∧Kd.C (Kd.int .u8) w0 A1 x.length x∧RSt w0 w' g b s'∧Post (takeP n) s x s'∧KeepBut w w' g none∧x.length≤n:=by
  have HR:=Aside0.mk h;obtain ⟨at_,wr,hI,hS,hB⟩:=h;have HI:=Aside0.mk hI;obtain ⟨A,c,hb,⟨hg,hcap⟩,hC⟩:=hI;cases s with
  | bad k=>
   obtain ⟨rfl,ha,hk⟩:=hS;have kz2:=cellS132_2 hb;clear hb hg hcap hC hB ha hk;go_enter Try.func103,Try.ntmps103
   go_wp2_with fail
   go_ret
   exact ⟨[],none,0,.bad k,rfl,Nat.le_refl _,Kd.C_nil _ _,HR.out,rfl,KeepBut.refl _ _ _,Nat.zero_le _⟩
  | ok u l=>
   obtain ⟨rfl,hp,rfl⟩:=hS;have hle:=pl_le hp;have hbl:=hs.len;have HS:=Aside0.mk hp;have HB:=Aside0.mk hB;have HC:=Aside0.mk hC;have hnI:(n:Int)≤1000000:=by omega
   obtain ⟨j,hj⟩:∃ j,j=pl b l:=⟨_,rfl⟩;rw[←hj] at hle hb HI;have kz0:=cellS132_0 hb;have kz1:=cellS132_1 hb;have kz2:=cellS132_2 hb;have hf1:=frozen_of_row w g 1 _ _ hb;have HJ:=Aside0.mk hj;have hw:wrap64 ((b.length:Int) - j)=(l.length:Int):=by rw[wrap_n _ (by omega) (by omega)];omega
   clear hp hb hC hB hj;go_enter Try.func103,Try.ntmps103
   by_cases hsh:l.length<n
   ·have HQ:Aside0 (takeP n l = .bad 0):=⟨by unfold takeP;rw[if_pos hsh]⟩;have hlt:(l.length:Int)<(n:Int):=by omega
    go_wp2_with fail
    go_quiet (fail)
    go_wp2_with (go_at_call 120;refine (sluiceref2_reader_short.calls g b j false b.length true w0 _ (HI.out.drewN _) (pw_below_drewN HB.out _) rfl).mono ?_;rintro e w1 ⟨rfl,hI1,hB1,hk1⟩;have HN:=Aside0.mk (And.intro hI1 (And.intro hB1 hk1));clear hI1 hB1 hk1)
    go_ret
    exact ⟨[],none,0,.bad 0,rfl,Nat.le_refl _,Kd.C_nil _ _,⟨_,_,HN.out.1,⟨rfl,by omega,Nat.zero_le _⟩,HN.out.2.1⟩,by simp only[Post];rw[HQ.out],HN.out.2.2,Nat.zero_le _⟩
   ·have HQ:Aside0 (takeP n l = .ok (l.take n) (l.drop n)):=⟨by unfold takeP;rw[if_neg hsh]⟩;have hlt:¬((l.length:Int)<(n:Int)):=by omega
    have hjn:wrap64 (j+(n:Int))=j+(n:Int):=wrap_n _ (by omega) (by omega);have hcut:=cut_mid (P:=Try.prog) 36 5 .i64 .i64 Try.underlying36 inf8f 1 inf8s A b.length c j (j+(n:Int)) hle.1 (by omega) (by omega) hcap
    have HCUT : Aside0 ((l.take n).length = (j + (n : Int)).toNat - j.toNat ∧ (l.take n).length ≤ c - j.toNat ∧ Kd.C (Kd.int .u8) w0 (if c = j.toNat then A else A.map (·.add (j.toNat * 1))) (l.take n).length (l.take n)) := ⟨by
      obtain ⟨pre,hp⟩:=HS.out;have hpj:j.toNat=pre.length:=by rw[HJ.out];unfold pl;rw[hp,List.length_append];omega
      have hx:(b.take (j.toNat+n)).drop j.toNat=l.take n:=by
       rw[hpj,hp,List.take_append,List.drop_append];simp
      have hm:=Kd.C_mid (k:=Kd.int .u8) (lo:=j.toNat) (hi:=j.toNat+n) HC.out (by omega) (by omega) hcap;rw[hx] at hm;have hl3:(l.take n).length=n:=by rw[List.length_take];omega
      refine ⟨by rw[hl3];omega,by rw[hl3];omega,hm⟩⟩
    obtain ⟨A1,hA1⟩:∃ A1,A1=(if c=j.toNat then A else A.map (·.add (j.toNat * 1))):=⟨_,rfl⟩;rw[←hA1] at hcut HCUT;obtain ⟨n1,hn1⟩:∃ n1,n1=(j+(n:Int)).toNat - j.toNat:=⟨_,rfl⟩;rw[←hn1] at hcut HCUT;obtain ⟨c1,hc1⟩:∃ c1,c1=c - j.toNat:=⟨_,rfl⟩;rw[←hc1] at hcut HCUT;clear hA1 hn1 hc1;go_wp2_with fail
    go_quiet (fail)
    go_wp2_with fail
    go_quiet (fail)
    go_wp2_with fail
    go_ret
    refine ⟨l.take n,A1,c1,.ok () (l.drop n),by rw[HCUT.out.1];rfl,HCUT.out.2.1,HCUT.out.2.2,⟨j+(n:Int),false,(HI.out.drewN _).set_1 _,⟨rfl,?_,by rw[HJ.out];unfold pl;rw[List.length_drop];omega⟩,below_set (pw_below_drewN HB.out _) (IsS132.ge HI.out)⟩,by simp only[Post];rw[HQ.out];exact ⟨rfl,rfl⟩,(keep_drewN (KeepBut.refl _ _ _) _).set_ _ _,List.length_take_le _ _⟩;obtain ⟨pre,hp⟩:=HS.out;exact ⟨pre++l.take n,by rw[hp,List.append_assoc,List.take_append_drop]⟩
end Go.Proofs.Ytpgdmmjbhjbbhaa.Rf
end
section
namespace Go.Proofs.Ytpgdmmjbhjbbhaa.Rf
open Go Go.RowKit P Sp Vd En Wr Lw YtpgdmmjbhjbbhaaW.PrintWords YtpgdmmjbhjbbhaaW.PrintLast YtpgdmmjbhjbbhaaW.PrintMore
open Go.Proofs.Ytpgdmmjbhjbbhaa.Rd (pl nameIn_ok nameIn_no nameIn_bad)
attribute [local go_sem] Go.Proofs.Ytpgdmmjbhjbbhaa.StrLe.leq_str Go.Proofs.Ytpgdmmjbhjbbhaa.StrLe.gtr_str
theorem Post.okS {α:Type} {p:Rdr α} {s:R Unit} {x:α} {u:Unit} {r:List Int} (h:Post p s x (.ok u r)):∃ l,s = .ok () l∧p l = .ok x r:=by
 cases s with
 | bad n=>cases h
 | ok v l=>
  simp only[Post] at h;cases hp:p l with
  | bad n=>rw[hp] at h;cases h
  | ok y q=>
   rw[hp] at h;simp only at h;obtain ⟨rfl,h⟩:=h
   injection h with _ h
   subst h;exact ⟨l,rfl,hp⟩
theorem name_bad {a:ByteArray} {m k:Nat} {s1:R Unit} {x:List Int} (h:Post (takeP m) s1 x (.bad k)) (t:ByteArray):Post (nameIn a m) s1 t (.bad k):=by
 cases s1 with
 | bad n=>exact h
 | ok u l=>
  simp only[Post] at h ⊢;cases hp:takeP m l with
  | bad n=>rw[hp] at h;rw[nameIn_bad hp];exact h
  | ok y q=>rw[hp] at h;cases h.2
theorem name_yes {w0 w w2 w3:World} {g:Nat} {b l x r2:List Int} {s:R Unit} {a t:ByteArray} {m:Nat} {u:Unit} (h2:RSt w0 w2 g b (.ok u r2)) (hb:Below w2.heap.size w2 w3) (hk:KeepBut w w2 g none) (hpp:∀ t s',Post (nameIn a m) (.ok () l) t s'→Post (nameP a) s t s') (ht:takeP m l = .ok x r2) (hT:t=strOfNums x) (hn:nameOk x) (ha:above a t):
  ∃ y s',Ending.returned (.string t) = .returned (.string y)∧RSt w0 w3 g b s'∧Post (nameP a) s y s'∧KeepBut w w3 g none:=
 ⟨t,.ok () r2,rfl,h2.below hb,hpp _ _ (by simp only[Post];rw[hT,nameIn_ok ht ⟨hn,by rw[←hT];exact ha⟩];exact ⟨rfl,rfl⟩),hk.trans (KeepBut.of_below hb g none) (.inl rfl)⟩
theorem name_no {w0 w w2 w3:World} {g:Nat} {b l x r2:List Int} {s:R Unit} {a t:ByteArray} {m:Nat} {u:Unit} {at2:Int} (h2:RSt w0 w2 g b (.ok u r2)) (hI:IsS132 w0 w2 g b at2 false) (hb:Below w2.heap.size w2 w3) (hI3:IsS132 w0 w3 g b at2 false) (hk:KeepBut w w2 g none) (hpp:∀ t s',Post (nameIn a m) (.ok () l) t s'→Post (nameP a) s t s') (ht:takeP m l = .ok x r2) (hT:t=strOfNums x) (ha:at2 - (m:Int)=pl b l) (hl:∃ pre,b=pre++l) (hn:¬(nameOk x∧above a t)):
  ∃ y s',Ending.returned (.string t) = .returned (.string y)∧RSt w0 ((w3.setCell ⟨g,1,none⟩ (.int .i64 (at2 - (m:Int)))).setCell ⟨g,2,none⟩ (.bool true)) g b s'∧Post (nameP a) s y s'∧KeepBut w ((w3.setCell ⟨g,1,none⟩ (.int .i64 (at2 - (m:Int)))).setCell ⟨g,2,none⟩ (.bool true)) g none:=by
 have hle:=pl_le hl;have hB:Below w0.heap.size w0 w3:=h2.bel.trans (hb.mono h2.bel.size);refine ⟨t,.bad l.length,rfl,⟨_,_,(hI3.set_1 _).set_2 _,⟨rfl,by rw[ha];rfl,by omega⟩,below_set (below_set hB hI3.ge) hI3.ge⟩,hpp _ _ ?_,((hk.trans (KeepBut.of_below hb g none) (.inl rfl)).set_ _ _).set_ _ _⟩;simp only[Post];rw[nameIn_no ht (by rw[←hT];exact hn)]
theorem name_calls (w0 w : World) (g : Nat) (b : List Int) (s : R Unit) (a : ByteArray) (hs : Src b) (h : RSt w0 w g b s) :
    Calls Try.prog 115 #[.pointer (some ⟨g,0,none⟩),.string a] w fun e w'=>∃ x s',e = .returned (.string x)∧RSt w0 w' g b s'∧Post (nameP a) s x s'∧KeepBut w w' g none:=by
  have HR:=Aside0.mk h;have HS:=Aside0.mk hs;clear h hs;go_enter Try.func115,Try.ntmps115
  go_upto_region 3 with (first
   | (go_at_call 102;refine (num_calls w0 _ g b s 1 16 (by decide) (by decide) (by decide) HS.out HR.out).mono ?_;rintro e w1 ⟨x1,s1,rfl,h1,p1,k1,r0,r1⟩;obtain ⟨m,rfl⟩:∃ m:Nat,x1=(m:Int):=⟨x1.toNat,by omega⟩;have HK:=Aside0.mk (And.intro h1 (And.intro p1 (And.intro k1 (And.intro r0 r1))));clear h1 p1 k1 r0 r1)
   | (go_at_call 103;refine (take_calls w0 _ g b s1 m (by have:=HK.out.2.2.2.2;omega) HS.out HK.out.1).mono ?_;rintro e w2 ⟨x,A1,c1,s2,rfl,hc1,hC,h2,p2,k2,-⟩;have hcv:=Kd.C_string (P:=Try.prog) (A:=A1) (c:=c1) Try.underlying36 Try.underlying5 Try.underlying9 (Kd.C_below hC h2.bel);obtain ⟨t,hT⟩:∃ t,t=strOfNums x:=⟨_,rfl⟩;rw[←hT] at hcv;have HT:=Aside0.mk hT;have HK2:=Aside0.mk (And.intro h2 (And.intro p2 k2));clear hc1 hC h2 p2 k2 hT))
  have HPP:Aside0 (∀ t s',Post (nameIn a m) s1 t s'→Post (nameP a) s t s'):=⟨fun t s' ht=>by
   show Post (Sp.bnd (numP 1 16) fun n=>nameIn a n.toNat) s t s'
   refine Post.bnd HK.out.2.1 ?_;simp only[Int.toNat_natCast];exact ht⟩
  have HKB:Aside0 (KeepBut w w2 g none):=⟨HK.out.2.2.1.trans HK2.out.2.2 (.inl rfl)⟩;have HR2:=Aside0.mk HK2.out.1;have HP2:=Aside0.mk HK2.out.2.1;clear hcv;obtain ⟨at2,wr2,hI,hS,hB⟩:=HK2.out.1;have HI:=Aside0.mk hI;obtain ⟨A,c,hb,⟨hg,hcap⟩,hC⟩:=hI;cases s2 with
  | bad k=>
   obtain ⟨rfl,ha,hk⟩:=hS;have kz2:=cellS132_2 hb;clear hb hg hcap hC hB ha hk;go_wp2_with fail
   go_ret
   exact ⟨_,.bad k,rfl,HR2.out,HPP.out _ _ (name_bad HP2.out _),HKB.out⟩
  | ok u r2=>
   obtain ⟨rfl,hp,hat⟩:=hS;obtain ⟨l,rfl,ht⟩:=HP2.out.okS
   have hx:x=l.take m∧r2=l.drop m∧m≤l.length:=by
    unfold takeP at ht
    split at ht
    ·cases ht
    ·injection ht with h1 h2
     exact ⟨h1.symm,h2.symm,by omega⟩
   have hbl:IsB l:=by
    obtain ⟨at1,wr1,_,hS1,_⟩:=HK.out.1;obtain ⟨_,⟨pre,hpre⟩,_⟩:=hS1;have:=HS.out.isB;rw[hpre] at this;exact (IsB.append.mp this).2
   have hbx:=Rd.takeP_isB ht hbl;have hnb:nB t=dcd (nameOk x):=by unfold nB;rw[HT.out,bytesOf_strOf hbx]
   have HX:Aside0 (bytesOf t=x):=⟨by rw[HT.out,bytesOf_strOf hbx]⟩;have hr2:r2.length+m=l.length:=by rw[hx.2.1,List.length_drop];omega
   have hle:=pl_le hp;have hbl2:=HS.out.len;have hm:=HK.out.2.2.2.2;have hw:wrap64 (at2 - (m:Int))=at2 - (m:Int):=wrap_n _ (by omega) (by rw[hat];omega);have HA:Aside0 (at2 - (m:Int)=pl b l):=⟨by rw[hat];unfold pl;omega⟩;have HL:Aside0 (takeP m l = .ok x r2):=⟨ht⟩;have HLL:Aside0 (∃ pre,b=pre++l):=⟨by obtain ⟨at1,wr1,_,hS1,_⟩:=HK.out.1;exact hS1.2.1⟩;have kz2:=cellS132_2 hb;clear hx hbl hbx hr2 hle hbl2 hm hat hp ht hb hg hcap hC hB;by_cases hn:nameOk x
   ·have hn1:nB t=true:=by rw[hnb];exact dcd_pos hn
    have HN:=Aside0.mk hn;clear hnb hn;cases hne:a.toList.isEmpty
    case true=>
     go_wp2_with (go_at_call 49;refine (rname_calls _ t).mono ?_;rintro e w3 ⟨rfl,hb⟩;rw[hn1];have HI3:=Aside0.mk (HI.out.below hb);have HB3:=Aside0.mk hb;obtain ⟨A_,c_,hb3,hg3,hC3⟩:=HI3.out;have kz1:=cellS132_1 hb3;have kz3:=cellS132_2 hb3;have hf1:=blk_frozen hb3 1;have hf2:=blk_frozen hb3 2;clear hb hb3 hg3 hC3)
     go_ret
     exact name_yes HR2.out HB3.out HKB.out HPP.out HL.out HT.out HN.out (by have h1:nameOk (bytesOf t):=(by rw[HX.out];exact HN.out);have h2:=above_nil h1;unfold above at h2 ⊢;rw[List.isEmpty_iff.mp hne];rw[show (⟨#[]⟩:ByteArray).toList=[] by simp] at h2;exact h2)
    case false=>
     by_cases hab:Go.Op.bytesLess a.toList t.toList=true
     ·go_wp2_with (go_at_call 49;refine (rname_calls _ t).mono ?_;rintro e w3 ⟨rfl,hb⟩;rw[hn1];have HI3:=Aside0.mk (HI.out.below hb);have HB3:=Aside0.mk hb;obtain ⟨A_,c_,hb3,hg3,hC3⟩:=HI3.out;have kz1:=cellS132_1 hb3;have kz3:=cellS132_2 hb3;have hf1:=blk_frozen hb3 1;have hf2:=blk_frozen hb3 2;clear hb hb3 hg3 hC3)
      go_ret
      exact name_yes HR2.out HB3.out HKB.out HPP.out HL.out HT.out HN.out hab
     ·have hab:Go.Op.bytesLess a.toList t.toList=false:=by simpa using hab
      go_wp2_with (go_at_call 49;refine (rname_calls _ t).mono ?_;rintro e w3 ⟨rfl,hb⟩;rw[hn1];have HI3:=Aside0.mk (HI.out.below hb);have HB3:=Aside0.mk hb;obtain ⟨A_,c_,hb3,hg3,hC3⟩:=HI3.out;have kz1:=cellS132_1 hb3;have kz3:=cellS132_2 hb3;have hf1:=blk_frozen hb3 1;have hf2:=blk_frozen hb3 2;clear hb hb3 hg3 hC3)
      go_ret
      exact name_no HR2.out HI.out HB3.out HI3.out HKB.out HPP.out HL.out HT.out HA.out HLL.out (fun h=>by have h2:Go.Op.bytesLess a.toList t.toList=true:=h.2;rw[hab] at h2;cases h2)
   ·have hn1:nB t=false:=by rw[hnb];exact dcd_neg hn
    have HN:=Aside0.mk hn;clear hnb hn;go_wp2_with (go_at_call 49;refine (rname_calls _ t).mono ?_;rintro e w3 ⟨rfl,hb⟩;rw[hn1];have HI3:=Aside0.mk (HI.out.below hb);have HB3:=Aside0.mk hb;obtain ⟨A_,c_,hb3,hg3,hC3⟩:=HI3.out;have kz1:=cellS132_1 hb3;have kz3:=cellS132_2 hb3;have hf1:=blk_frozen hb3 1;have hf2:=blk_frozen hb3 2;clear hb hb3 hg3 hC3)
    go_ret
    exact name_no HR2.out HI.out HB3.out HI3.out HKB.out HPP.out HL.out HT.out HA.out HLL.out (fun h=>HN.out h.1)
end Go.Proofs.Ytpgdmmjbhjbbhaa.Rf
end
