/- texts that the proof needs, laid together by a program of this session. -/
import Derived.Deep.RegionHeld3
import Derived.Test.YtpgdmmjbhjbbhaaKWireAll16
set_option maxRecDepth 100000
set_option maxHeartbeats 16000000
set_option linter.unusedVariables false
set_option linter.unusedSimpArgs false
section
namespace Go.Proofs.Ytpgdmmjbhjbbhaa.Rf
open Go Go.RowKit P Sp Vd En Wr Lw YtpgdmmjbhjbbhaaW.PrintWords YtpgdmmjbhjbbhaaW.PrintLast YtpgdmmjbhjbbhaaW.PrintMore
open Go.Proofs.Ytpgdmmjbhjbbhaa.Rd (pl setRow_far setRow_blk)
theorem IsS_heap {w0 W W1:World} {g:Nat} {f0:List Int} {f1:Int} {f2:Bool} (h:IsS132 w0 W g f0 f1 f2) (hq:W1.heap[g]?=W.heap[g]?):IsS132 w0 W1 g f0 f1 f2:=by
 obtain ⟨A0,c0,hb,hg,hr0⟩:=h;exact ⟨A0,c0,hq.trans hb,hg,hr0⟩
theorem RSt.lt {w0 w:World} {g:Nat} {b:List Int} {s:R Unit} (h:RSt w0 w g b s):g<w.heap.size:=by
 obtain ⟨at_,wr,h1,h2,h3⟩:=h;exact h1.lt
theorem RSt.al {w0 w:World} {g:Nat} {b:List Int} {s:R Unit} (h:RSt w0 w g b s) (o:Obj):RSt w0 (w.alloc o) g b s:=h.below (below_alloc (Below.refl _ _) o)
theorem RSt.other {w0 w:World} {g:Nat} {b:List Int} {s:R Unit} (h:RSt w0 w g b s) {k:Nat} (hk:k≠g) (hg:w0.heap.size≤k) (j:Nat) (v:Value):RSt w0 (w.setCell ⟨k,j,none⟩ v) g b s:=by
 obtain ⟨at_,wr,h1,h2,h3⟩:=h;exact ⟨at_,wr,h1.far (fun e=>hk e.symm) v,h2,below_set h3 hg⟩
theorem RSt.row {w0 w:World} {g:Nat} {b:List Int} {s:R Unit} (h:RSt w0 w g b s) {k:Nat} (hk:k≠g) (hg:w0.heap.size≤k) (cs:Array Value):RSt w0 (w.setRow k cs) g b s:=by
 obtain ⟨at_,wr,h1,h2,h3⟩:=h;exact ⟨at_,wr,IsS_heap h1 (setRow_far (fun e=>hk e.symm) cs),h2,below_setRow h3 hg cs⟩
theorem keep_row {w w1:World} {g k:Nat} (h:KeepBut w w1 g none) (hk:w.heap.size≤k) (cs:Array Value):KeepBut w (w1.setRow k cs) g none:=
 ⟨by rw[size_setRow];exact h.1,fun i hi h1 h2=>(setRow_far (by omega) cs).trans (h.2 i hi h1 h2)⟩
theorem keep_then {w w1 w2:World} {g:Nat} (h:KeepBut w w1 g none) (k:KeepBut w1 w2 g none):KeepBut w w2 g none:=h.trans k (.inl rfl)
theorem kb1 {w w1:World} {g k:Nat} {o:Obj} (h:KeepBut w w1 g none) (hk:k≠g) (hb:w.heap[k]?=some o):w1.heap[k]?=some o:=h.blk hb hk (by simp)
theorem blk_upd {w:World} {k j:Nat} {t:TypeId} {cs cs2:Array Value} {v:Value} (h:w.heap[k]?=some (.cells cs t (0,0))) (hc:cs.setIfInBounds j v=cs2):(w.setCell ⟨k,j,none⟩ v).heap[k]?=some (.cells cs2 t (0,0)):=by
 subst hc
 simpa using blk_set h j v
def Oc (k:Int) (s:ByteArray) (a b:Int):Array Value := #[.int .i64 k,.string s,.int .i64 a,.int .i64 b]
theorem op_calls (w0 w:World) (g:Nat) (b:List Int) (s:R Unit) (hs:Src b) (h:RSt w0 w g b s):
  Calls Try.prog 105 #[.pointer (some ⟨g,0,none⟩)] w fun e w'=>∃ x:Sp.Op,∃ s',e = .returned (.agg #[.int .i64 x.kind,.string x.name,.int .i64 x.a,.int .i64 x.b])∧RSt w0 w' g b s'∧Post opP s x s'∧KeepBut w w' g none:=by
 have HS:=Aside0.mk hs;obtain ⟨wa,hwa⟩:∃ wa,wa=w.alloc (.cells #[.int .i64 0,.string ⟨#[]⟩,.int .i64 0,.int .i64 0] 29 (0,0)):=⟨_,rfl⟩;have HWA:=Aside0.mk hwa;have HN:Aside0 (w.heap.size≠g∧w0.heap.size≤w.heap.size):=⟨fun e=>by have:=h.lt;omega,h.bel.size⟩;have H0:Aside0 (RSt w0 wa g b s∧KeepBut w wa g none∧wa.heap[w.heap.size]?=some (.cells #[.int .i64 0,.string ⟨#[]⟩,.int .i64 0,.int .i64 0] 29 (0,0))∧wa.heap.size=w.heap.size+1):=⟨by rw[hwa];exact ⟨h.al _,KeepBut.of_below (al_below w _) _ _,heap_alloc_new w _,by simp⟩⟩;clear hs h hwa;have hu:=Try.underlying29;go_enter Try.func105,Try.ntmps105
 go_upto_region 1 with fail
 rw[←HWA.out]
 go_upto_region 2 with (first
  | (go_at_call 102;refine (num_calls w0 _ g b s 1 11 (by decide) (by decide) (by decide) HS.out H0.out.1).mono ?_;rintro e w1 ⟨x,s1,rfl,h1,p1,k1,-,-⟩;have H1:=Aside0.mk (And.intro h1 (And.intro p1 (And.intro (keep_then H0.out.2.1 k1) (And.intro (kb1 k1 HN.out.1 H0.out.2.2.1) (show w.heap.size<w1.heap.size from by have:=k1.1;have:=H0.out.2.2.2;omega)))));clear h1 p1 k1)
  | ((with_reducible refine gate_dst (N:=3) rfl ?_);refine box_event ?hg (N:=3) ?hd (cs := #[.int .i64 0,.string ⟨#[]⟩,.int .i64 0,.int .i64 0]) (t:=29) ?hr ?_;(case hd=>rfl);(case hg=>rfl);(case hr=>first|(go_simp;done)|(go_simp;rfl));intro gb hg w2 hbox hb;have HG:Aside0 (w.heap.size<gb∧gb≠g):=⟨by rw[hg];exact H1.out.2.2.2.2,fun e=>by have:=H1.out.1.lt;omega⟩;have H2:=Aside0.mk (And.intro (H1.out.1.below hb) (And.intro (keep_then H1.out.2.2.1 (KeepBut.of_below hb _ _)) (And.intro (blk_keep hb H1.out.2.2.2.1) hbox)));clear hg hb hbox;go_loud (refine wpList_store_row rfl 29 (.tmp 3) (.tmp 6) rfl gb #[.int .i64 x,.string ⟨#[]⟩,.int .i64 0,.int .i64 0] (by rfl) (by rfl) 29 _ H2.out.2.2.2 inf29 rfl (by simp[Value.oneCell']) ?_)))
 obtain ⟨w3,hw3⟩:∃ w3,w3=w2.setRow gb #[.int .i64 x,.string ⟨#[]⟩,.int .i64 0,.int .i64 0]:=⟨_,rfl⟩;have HGE:Aside0 (w0.heap.size≤gb):=⟨by have:=HN.out.2;have:=HG.out.1;omega⟩
 have H3:Aside0 (RSt w0 w3 g b s1∧KeepBut w w3 g none∧w3.heap[w.heap.size]?=some (.cells (Oc 0 ⟨#[]⟩ 0 0) 29 (0,0))∧w3.heap[gb]?=some (.cells (Oc x ⟨#[]⟩ 0 0) 29 (0,0))):=⟨by
  rw[hw3];exact ⟨H2.out.1.row HG.out.2 HGE.out _,keep_row H2.out.2.1 (Nat.le_of_lt HG.out.1) _,(setRow_far (by have:=HG.out.1;omega) _).trans H2.out.2.2.1,setRow_blk H2.out.2.2.2 _⟩⟩
 have HP1:=Aside0.mk H1.out.2.1;(try simp only[Act.put,List.setIfInBounds_toArray,List.set_cons_zero,List.set_cons_succ])
 rw[←hw3];clear hw3 H1 H2
 go_wp2_with (first
  | (go_at_call 107;refine (sign_calls w0 _ g b s3 HS.out (H5.out.1.other HG.out.2 HGE.out 2 _)).mono ?_;rintro e w6 ⟨b2,s4,rfl,h1,p1,k1⟩;have H6:=Aside0.mk (And.intro h1 (And.intro p1 (And.intro (keep_then (keep_far H5.out.2.2.1 (p:=⟨gb,2,none⟩) (Nat.le_of_lt HG.out.1) (.int .i64 a)) k1) (And.intro (kb1 k1 HN.out.1 (blk_far H5.out.2.2.2.1 (Nat.ne_of_lt HG.out.1) _)) (kb1 k1 HG.out.2 (blk_upd (cs2:=Oc x t a 0) H5.out.2.2.2.2 rfl))))));clear h1 p1 k1 kc kf;have kc:w6.cell? ⟨gb,3,none⟩=some (.int .i64 0):=(blk_cell H6.out.2.2.2.2 3).trans rfl;have kf:=blk_frozen H6.out.2.2.2.2 3)
  | (go_at_call 107;refine (sign_calls w0 _ g b s2 HS.out (H4.out.1.other HG.out.2 HGE.out 1 _)).mono ?_;rintro e w5 ⟨a,s3,rfl,h1,p1,k1⟩;have H5:=Aside0.mk (And.intro h1 (And.intro p1 (And.intro (keep_then (keep_far H4.out.2.2.1 (p:=⟨gb,1,none⟩) (Nat.le_of_lt HG.out.1) (.string t)) k1) (And.intro (kb1 k1 HN.out.1 (blk_far H4.out.2.2.2.1 (Nat.ne_of_lt HG.out.1) _)) (kb1 k1 HG.out.2 (blk_upd (cs2:=Oc x t 0 0) H4.out.2.2.2.2 rfl))))));clear h1 p1 k1 kc kf;have kc:w5.cell? ⟨gb,2,none⟩=some (.int .i64 0):=(blk_cell H5.out.2.2.2.2 2).trans rfl;have kf:=blk_frozen H5.out.2.2.2.2 2)
  | (go_at_call 115;refine (name_calls w0 _ g b s1 ⟨#[]⟩ HS.out H3.out.1).mono ?_;rintro e w4 ⟨t,s2,rfl,h1,p1,k1⟩;have H4:=Aside0.mk (And.intro h1 (And.intro p1 (And.intro (keep_then H3.out.2.1 k1) (And.intro (kb1 k1 HN.out.1 H3.out.2.2.1) (kb1 k1 HG.out.2 H3.out.2.2.2)))));clear h1 p1 k1;have kc:w4.cell? ⟨gb,1,none⟩=some (.string ⟨#[]⟩):=(blk_cell H4.out.2.2.2.2 1).trans rfl;have kf:=blk_frozen H4.out.2.2.2.2 1)
  | ((with_reducible refine gate_dst (N:=16) rfl ?_);refine wpList_load_row rfl 29 (.tmp 3) rfl gb (by rfl) 29 (Oc x t a b2) (0,0) _ (blk_upd (cs2:=Oc x t a b2) H6.out.2.2.2.2 rfl) hu rfl inf29 ?_;go_loud (refine wpList_store_row rfl 29 (.tmp 2) (.tmp 16) rfl w.heap.size (Oc x t a b2) (by rfl) (by rfl) 29 _ (blk_far H6.out.2.2.2.1 (Nat.ne_of_lt HG.out.1) _) inf29 rfl (by simp[Oc,Value.oneCell']) ?_)))
 have HX:((w6.setCell ⟨gb,3,none⟩ (.int .i64 b2)).setRow w.heap.size (Oc x t a b2)).heap[w.heap.size]?=some (.cells (Oc x t a b2) 29 (0,0)):=setRow_blk (blk_far H6.out.2.2.2.1 (Nat.ne_of_lt HG.out.1) _) _;refine bodyPost_ret (results_cell_row rfl _ _ w.heap.size 29 _ (0,0) _ (by rfl) HX hu rfl inf29) rfl ?_;exact ⟨⟨x,t,a,b2⟩,s4,rfl,(H6.out.1.other HG.out.2 HGE.out 3 _).row HN.out.1 HN.out.2 _,HP1.out.bnd (H4.out.2.1.bnd (H5.out.2.1.bnd (H6.out.2.1.bnd (Post.ret _ _)))),keep_row (keep_far H6.out.2.2.1 (p:=⟨gb,3,none⟩) (Nat.le_of_lt HG.out.1) _) (Nat.le_refl _) _⟩
end Go.Proofs.Ytpgdmmjbhjbbhaa.Rf
end
section
namespace Go.Proofs.Ytpgdmmjbhjbbhaa.Lw
open Go Go.RowKit P Sp Vd En Wr Rd Rf YtpgdmmjbhjbbhaaW.PrintWords YtpgdmmjbhjbbhaaW.PrintLast YtpgdmmjbhjbbhaaW.PrintMore
def wv (m:Msg) (l:List S87):Msg:={ m with views:=l }
theorem wv_self (m:Msg):wv m m.views=m:=rfl
theorem wv_cells (m:Msg) (l:List S87) (h:l.length=m.views.length) (A:Option Addr) (c:Nat):MVc (wv m l) A c=MVc m A c:=by simp[MVc,wv,h]
theorem val_law (m:Msg) (l:List S87) (hl:l.length=m.views.length) (h:isI m.op.a∧isI m.op.b) (A:Option Addr) (c:Nat) (w:World) (hC:Kd.C k87 w A m.views.length l∧m.views.length≤c):
  Calls Try.prog 21 #[.agg (MVc m A c)] w fun e w'=>e = .returned (.bool (dcd (msgV (wv m l))))∧Below w.heap.size w w':=by
 rw[←wv_cells m l hl];exact valid_calls (wv m l) h A c w (by show Kd.C k87 w A l.length l;rw[hl];exact hC.1) (by show l.length≤c;rw[hl];exact hC.2)
theorem enc_law (m:Msg) (l:List S87) (hl:l.length=m.views.length) (h:isI m.op.a∧isI m.op.b) (A:Option Addr) (c:Nat) (w:World) (hC:Kd.C k87 w A m.views.length l∧m.views.length≤c) {pb:List Int} {er:Int} (hp:lay msgB msgV (wv m l)=(pb,er)):
  Calls Try.prog 16 #[.agg (MVc m A c)] w fun e w'=>∃ Ap cp,e = .returned (.tuple #[.slice Ap pb.length cp,.int .i64 er])∧In w' Ap cp pb∧Below w.heap.size w w':=by
 rw[←wv_cells m l hl];refine (encode_calls (wv m l) h A c w (by show Kd.C k87 w A l.length l;rw[hl];exact hC.1) (by show l.length≤c;rw[hl];exact hC.2)).mono ?_;rintro e w' ⟨v,he,hR,hb⟩;rw[hp] at he hR;obtain ⟨Ap,cp,rfl,hi⟩:=in_of_R hR (by have:=lay_isB (v:=msgV) (b_msg (wv m l));rwa [hp] at this);exact ⟨Ap,cp,he,hi,hb⟩
theorem rence_law (m:Msg) (l:List S87) (hl:l.length=m.views.length) (h:isI m.op.a∧isI m.op.b) (A:Option Addr) (c:Nat) (w:World) (hC:Kd.C k87 w A m.views.length l∧m.views.length≤c) {pb:List Int} {er:Int} (hp:lay msgB msgV (wv m l)=(pb,er)):
  Calls Try.prog 39 #[.agg (MVc m A c)] w fun e w'=>∃ Ap cp,e = .returned (.tuple #[.slice Ap pb.length cp,.int .i64 er])∧In w' Ap cp pb∧Below w.heap.size w w':=by
 rw[←wv_cells m l hl];refine (renc_calls (wv m l) h A c w (by show Kd.C k87 w A l.length l;rw[hl];exact hC.1) (by show l.length≤c;rw[hl];exact hC.2)).mono ?_;rintro e w' ⟨v,he,hR,hb⟩;rw[hp] at he hR;obtain ⟨Ap,cp,rfl,hi⟩:=in_of_R hR (by have:=lay_isB (v:=msgV) (b_msg (wv m l));rwa [hp] at this);exact ⟨Ap,cp,he,hi,hb⟩
theorem same_vs (x:List S87) (A0:Option Addr) (c0:Nat) (A1:Option Addr) (c1:Nat) (n:Nat) (hn:x.length=n) (w:World) (hx:Kd.C k87 w A0 n x∧n≤c0) (hy:Kd.C k87 w A1 n x∧n≤c1):
  Calls Try.prog 40 #[.slice A0 n c0,.slice A1 n c1] w fun e w'=>e = .returned (.bool true)∧Below w.heap.size w w':=by
 subst hn;refine (sameViews_calls A0 c0 x A1 c1 x w hx.1 hx.2 hy.1 hy.2).mono ?_;rintro e w' ⟨he,hb⟩;rw[dcd_pos rfl] at he;exact ⟨he,hb⟩
structure EX (w W:World) (m:Msg) (A:Option Addr) (c bx bs:Nat) (Av:Option Addr) (cv:Nat) (l:List S87):Prop where
 bel:Below w.heap.size w W
 bm:W.heap[w.heap.size]?=some (.cells (MVc m A c) 33 (0,0))
 box:W.heap[bx]?=some (.cells (MVc m Av cv) 33 (0,0))
 r:Kd.R k87 87 W w.heap.size (fun k=>bs≤k) (.slice Av (m.views.length+1) cv) (l++[mkV])
 len:l.length=m.views.length
section
variable {w W W1:World} {m:Msg} {A:Option Addr} {c bx bs:Nat} {Av:Option Addr} {cv:Nat} {l:List S87}
theorem EX.below (h:EX w W m A c bx bs Av cv l) (k:Below W.heap.size W W1):EX w W1 m A c bx bs Av cv l:=⟨below_step h.bel k,blk_keep k h.bm,blk_keep k h.box,Kd.R_below h.r k,h.len⟩
theorem EX.drew (h:EX w W m A c bx bs Av cv l):EX w W.drew m A c bx bs Av cv l:=h.below (below_drew1 (Below.refl _ _))
theorem EX.row (h:EX w W m A c bx bs Av cv l):Kd.C k87 W Av m.views.length l∧m.views.length≤cv:=by
 have h2:=Kd.R_reads' (Kd.R_take (m:=m.views.length) h.r (by simp[h.len]));rw[←h.len,List.take_left,h.len] at h2;exact ⟨h2.2.2,h2.2.1⟩
theorem EX.at_m (h:EX w W m A c bx bs Av cv l):W.cell? ⟨w.heap.size,19,none⟩=some (.slice A m.views.length c):=(blk_cell h.bm 19).trans rfl
theorem EX.head (h:EX w W m A c bx bs Av cv l):∃ g,Av=some ⟨g,0,none⟩:=by
 have h2:=Kd.R_reads' h.r;obtain ⟨ad,hA,_⟩:=h2.2.2.2.2 (by simp);subst hA;obtain ⟨g,rfl⟩:=Kd.R_head h.r;exact ⟨g,rfl⟩
theorem EX.mark {g:Nat} (h:EX w W m A c bx bs (some ⟨g,0,none⟩) cv l):W.cell? ⟨g,m.views.length * 7,none⟩=some (.string ⟨#[109,97,114,107]⟩):=by
 obtain ⟨c7,hc,hM,hcc,_⟩:=Kd.R_elem h.r mkV (m.views.length:Int) (by omega) (by omega);have hx:(l++[mkV]).getD (m.views.length:Int).toNat mkV=mkV:=by simp[List.getD_eq_getElem?_getD,h.len.symm]
 rw[hx] at hM;obtain rfl:=k87_openM hM;exact hcc 0 _ rfl
theorem EX.elem {g:Nat} (h:EX w W m A c bx bs (some ⟨g,0,none⟩) cv l) (i:Nat) (hi:i<m.views.length):∃ x:S87,x=rd_T87 l (i:Int)∧W.cell? ⟨g,i * 7+6,none⟩=some (.int .i64 x.f5)∧(∀ j u,[Value.string x.f0,.int .i64 x.f1,.int .i64 x.f2,.int .i64 x.f3,.int .i64 x.f4.f0,.int .i64 x.f4.f1,.int .i64 x.f5][j]?=some u→W.cell? ⟨g,i * 7+j,none⟩=some u):=by
 obtain ⟨c7,hc,hM,hcc,_⟩:=Kd.R_elem h.r mkV (i:Int) (by omega) (by omega)
 have hx:(l++[mkV]).getD (i:Int).toNat mkV=rd_T87 l (i:Int):=by
  have:=h.len;simp[rd_T87,List.getD_eq_getElem?_getD,List.getElem?_append_left (show i<l.length by omega),List.getElem?_eq_getElem (show i<l.length by omega)]
 rw[hx] at hM;obtain rfl:=k87_openM hM;exact ⟨_,rfl,hcc 6 _ rfl,fun j u hu=>hcc j u hu⟩
theorem EX.grown {g:Nat} (h:EX w W m A c bx bs (some ⟨g,0,none⟩) cv l) {i:Nat} {x:S87} (hR:Kd.R k87 87 W1 w.heap.size (fun k=>bs≤k) (.slice (some ⟨g,0,none⟩) (m.views.length+1) cv) ((l++[mkV]).set i x)) (hB:Below w.heap.size w W1) (hg:W.grownBy W1 (some g)) (hi:i<m.views.length) (hbx:w.heap.size<bx∧bx<bs):EX w W1 m A c bx bs (some ⟨g,0,none⟩) cv (l.set i x):=by
 have h1:bs≤g:=h.r.1 g rfl;rw[List.set_append_left _ _ (by rw[h.len];exact hi)] at hR;exact ⟨hB,blk_grown h.bm hg (by simp;omega),blk_grown h.box hg (by simp;omega),hR,by rw[List.length_set];exact h.len⟩
theorem EX.put {g:Nat} (h:EX w W m A c bx bs (some ⟨g,0,none⟩) cv l) {i:Nat} (hi:i<m.views.length) (hbx:w.heap.size<bx∧bx<bs) (u:Int):∃ l',EX w (W.setCell ⟨g,i * 7+6,none⟩ (.int .i64 u)) m A c bx bs (some ⟨g,0,none⟩) cv l':=by
 obtain ⟨x,_,_,hcc⟩:=h.elem i hi;obtain ⟨hR,hg⟩:=Kd.R_seg h.r (i:Int) (by omega) (by omega) (c:=[.string x.f0,.int .i64 x.f1,.int .i64 x.f2,.int .i64 x.f3,.int .i64 x.f4.f0,.int .i64 x.f4.f1,.int .i64 x.f5]) (seg:=[.int .i64 u]) (j:=6) rfl (fun j v hv=>by rw[Int.toNat_natCast];exact hcc j v hv) (show 6+1≤7 by decide) (x':=⟨x.f0,x.f1,x.f2,x.f3,x.f4,u⟩) (okp:=fun _=>False) (k87_mkM _ _ _ ⟨x.f0,x.f1,x.f2,x.f3,x.f4,u⟩) (fun _ h=>h.elim);rw[Int.toNat_natCast] at hR hg;have h1:bs≤g:=h.r.1 g rfl;exact ⟨_,h.grown hR (below_set h.bel (by omega)) hg hi hbx⟩
theorem EX.far (h:EX w W m A c bx bs Av cv l) {k:Nat} {cs:Array Value} (hk:W.heap[k]?=some (.cells cs 33 (0,0))) (h1:w.heap.size<k) (h2:bx≠k) (j:Nat) (v:Value):EX w (W.setCell ⟨k,j,none⟩ v) m A c bx bs Av cv l:=
 ⟨below_set h.bel (Nat.le_of_lt h1),blk_far h.bm (Nat.ne_of_lt h1) _,blk_far h.box h2 _,Kd.R_set h.r hk (by decide) _ _,h.len⟩
theorem lay_err {m:Msg} {pb:List Int} {er:Int} (hp:lay msgB msgV m=(pb,er)):(er == 0)=dcd (msgV m):=by
 by_cases hv:msgV m
 ·rw[lay_ok hv] at hp;rw[dcd_pos hv];injection hp with _ h2;subst h2;rfl
 ·rw[lay_no hv] at hp;rw[dcd_neg hv];injection hp with _ h2;subst h2;rfl
end
theorem encodes_calls (w : World) (m : Msg) (A : Option Addr) (c : Nat) (hI : isI m.op.a ∧ isI m.op.b) (hr : Kd.C k87 w A m.views.length m.views) (hc : m.views.length ≤ c) (hl : m.views.length * 64 ≤ 140737488351232) :
    Calls Try.prog 13 #[.agg (MVc m A c)] w fun e w'=>e = .returned (.bool true)∧Below w.heap.size w w':=by
  have HI:=Aside0.mk hI;have HR:=Aside0.mk (And.intro hr hc);have HL:=Aside0.mk hl;have hnI:(m.views.length:Int)≤9223372036854775806:=by omega
  have hn0:(0:Int)≤(m.views.length:Int):=by omega
  clear hI hr hc hl;have hu33:=Try.underlying33;have hu87:=Try.underlying87;obtain ⟨wa,hwa⟩:∃ wa,wa=w.alloc (.cells (MVc m A c) 33 (0,0)):=⟨_,rfl⟩;have HWA:=Aside0.mk hwa;have H0:Aside0 (Below w.heap.size w wa∧wa.heap[w.heap.size]?=some (.cells (MVc m A c) 33 (0,0))∧wa.heap.size=w.heap.size+1):=⟨by rw[hwa];exact ⟨al_below w _,heap_alloc_new w _,by simp⟩⟩;have H1:=Aside0.mk (heap_alloc_new wa (.cells (MVc zMsg none 0) 33 (0,0)));clear hwa;go_enter Try.func13,Try.ntmps13
  go_upto_region 1 with fail
  rw[←HWA.out]
  go_upto_region 2 with (first
   | ((with_reducible refine gate_dst (N:=13) rfl ?_);refine wpList_load_row rfl 33 (.tmp 1) rfl w.heap.size (by rfl) 33 (MVc m A c) (0,0) _ H0.out.2.1 Try.underlying33 rfl inf33 ?_)
   | (refine wpList_store_row rfl 33 (.tmp 3) (.tmp 13) rfl wa.heap.size (MVc m A c) (by rfl) (by rfl) 33 _ H1.out inf33 rfl (mv_one _ _ _) ?_))
  obtain ⟨w1,hw1⟩:∃ w1,w1=(wa.alloc (.cells (MVc zMsg none 0) 33 (0,0))).setRow wa.heap.size (MVc m A c):=⟨_,rfl⟩;have HW1:=Aside0.mk hw1;rw[mv_zero] at HW1
  have H2:Aside0 (Below w.heap.size w w1∧w1.heap[w.heap.size]?=some (.cells (MVc m A c) 33 (0,0))∧w1.heap[wa.heap.size]?=some (.cells (MVc m A c) 33 (0,0))∧w.heap.size<wa.heap.size∧wa.heap.size<w1.heap.size):=⟨by
   have hb:Below wa.heap.size wa w1:=by rw[hw1];exact below_setRow (al_below _ _) (Nat.le_refl _) _
   have h3:w1.heap[wa.heap.size]?=some (.cells (MVc m A c) 33 (0,0)):=by rw[hw1];exact setRow_blk H1.out _
   exact ⟨below_step H0.out.1 hb,blk_keep hb H0.out.2.1,h3,by have:=H0.out.2.2;omega,blk_lt h3⟩⟩
  rw[←HW1.out];clear hw1 HW1 H1 H0 HWA;have ka:w1.cell? ⟨w.heap.size,19,none⟩=some (.slice A m.views.length c):=(blk_cell H2.out.2.1 19).trans rfl;go_upto_region 3 with (go_at_call 38;refine (vlist_calls A c m.views _ (Kd.C_below HR.out.1 H2.out.1) HL.out).mono ?_;rintro e w2 ⟨v,rfl,hR,hb⟩;obtain ⟨Av,cv,rfl⟩:=Kd.R_slice hR;rw[show (m.views++[mkV]).length=m.views.length+1 by simp] at hR ⊢;have H3:Aside0 (Below w.heap.size w w2∧w2.heap[w.heap.size]?=some (.cells (MVc m A c) 33 (0,0))∧w2.heap[wa.heap.size]?=some (.cells (MVc m A c) 33 (0,0))∧Kd.R k87 87 w2 w.heap.size (fun k=>w1.heap.size≤k) (.slice Av (m.views.length+1) cv) (m.views++[mkV])):=⟨below_step H2.out.1 hb,blk_keep hb H2.out.2.1,blk_keep hb H2.out.2.2.1,Kd.R_lower (Kd.R_mono (Kd.R_bound hR) (fun k hk=>hk.2.1)) H2.out.1.size⟩;clear hR hb ka)
  have hcv:(m.views.length:Int)≤(cv:Int):=by have:=(Kd.R_reads' H3.out.2.2.2).2.1;omega
  have ka:w2.cell? ⟨w.heap.size,19,none⟩=some (.slice A m.views.length c):=(blk_cell H3.out.2.1 19).trans rfl;have kc:w2.cell? ⟨wa.heap.size,19,none⟩=some (.slice A m.views.length c):=(blk_cell H3.out.2.2.1 19).trans rfl;have kf:=blk_frozen H3.out.2.2.1 19;go_upto_region 5 with fail
  obtain ⟨w3,hw3⟩:∃ w3,w3=w2.setCell ⟨wa.heap.size,19,none⟩ (.slice Av m.views.length cv):=⟨_,rfl⟩
  have EX0:Aside0 (EX w w3 m A c wa.heap.size w1.heap.size Av cv m.views):=⟨by
   rw[hw3];exact ⟨below_set H3.out.1 (Nat.le_of_lt H2.out.2.2.2.1),blk_far H3.out.2.1 (Nat.ne_of_lt H2.out.2.2.2.1) _,blk_upd (cs2:=MVc m Av cv) H3.out.2.2.1 rfl,Kd.R_set H3.out.2.2.2 H3.out.2.2.1 (by decide) _ _,rfl⟩⟩
  have HBS:Aside0 (w.heap.size<wa.heap.size∧wa.heap.size<w1.heap.size):=⟨H2.out.2.2.2⟩;rw[←hw3];clear hw3 H3 H2 ka kc kf;obtain ⟨g,hg⟩:=EX0.out.head;subst hg;obtain ⟨pb,er,hp⟩:∃ pb er,lay msgB msgV m=(pb,er):=⟨_,_,rfl⟩;obtain ⟨bv,hbv⟩:∃ bv,dcd (msgV m)=bv:=⟨_,rfl⟩;have HP:=Aside0.mk (And.intro hp hbv);have hq:(er == 0)=bv:=by rw[←hbv];exact lay_err hp
  clear hp hbv
  go_upto_region 8 with (first
   | ((with_reducible refine gate_dst (N:=24) rfl ?_);refine wpList_load_row rfl 33 (.tmp 3) rfl wa.heap.size (by rfl) 33 (MVc m _ cv) (0,0) _ EX0.out.box Try.underlying33 rfl inf33 ?_)
   | ((with_reducible refine gate_dst (N:=27) rfl ?_);refine wpList_load_row rfl 33 (.tmp 3) rfl wa.heap.size (by rfl) 33 (MVc m _ cv) (0,0) _ EX0.out.box Try.underlying33 rfl inf33 ?_)
   | ((with_reducible refine gate_dst (N:=32) rfl ?_);refine wpList_load_row rfl 33 (.tmp 1) rfl w.heap.size (by rfl) 33 (MVc m A c) (0,0) _ EX0.out.bm Try.underlying33 rfl inf33 ?_)
   | (go_at_call 21;refine (val_law m m.views rfl HI.out _ cv _ EX0.out.row).mono ?_;rintro e w4 ⟨rfl,hb⟩;rw[wv_self,HP.out.2];have n0_:=Aside0.mk (EX0.out.below hb);clear EX0 hb;have EX0:=n0_;clear n0_)
   | (go_at_call 16;refine (enc_law m m.views rfl HI.out _ cv _ EX0.out.row HP.out.1).mono ?_;rintro e w5 ⟨Ap,cp,rfl,hi,hb⟩;have HP1:=Aside0.mk hi;have n0_:=Aside0.mk (EX0.out.below hb);clear EX0 hb hi;have EX0:=n0_;clear n0_)
   | (go_at_call 39;refine (rence_law m m.views rfl HI.out A c _ ⟨Kd.C_below HR.out.1 EX0.out.bel,HR.out.2⟩ HP.out.1).mono ?_;rintro e w6 ⟨Aq,cq,rfl,hi,hb⟩;have HP2:=Aside0.mk (And.intro (In.below HP1.out hb) hi);have n0_:=Aside0.mk (EX0.out.below hb);clear EX0 hb hi HP1;have EX0:=n0_;clear n0_))
  have HPD:Aside0 (In w6.drew Ap cp pb∧In w6.drew Aq cq pb):=⟨In.below HP2.out.1 (below_drew1 (Below.refl _ _)),In.below HP2.out.2 (below_drew1 (Below.refl _ _))⟩;have ka:=EX0.out.drew.at_m;have km:=EX0.out.drew.mark;have hn1:(m.views.length:Int)<((m.views.length+1:Nat):Int):=by omega
  have hn2:(m.views.length:Int)<(m.views.length:Int)+1:=by omega
  have hn3:(m.views.length:Int)+1≤9223372036854775807:=by omega
  go_region_held3 (fun w' => w'.cell? ⟨w.heap.size, 19, none⟩ = some (.slice A m.views.length c) ∧ w'.cell? ⟨g, m.views.length * 7, none⟩ = some (.string ⟨#[109, 97, 114, 107]⟩)) (first | exact ⟨EX2.out.at_m, EX2.out.mark⟩ | exact ⟨EX1.out.at_m, EX1.out.mark⟩ | exact ⟨EX0.out.drew.at_m, EX0.out.drew.mark⟩) (first
    | (go_at_call 37;refine (alike_ex Ap cp Aq cq pb _ rfl _ HPD.out.1 HPD.out.2).mono ?_;rintro e w7 ⟨rfl,hb⟩;have EX1:=Aside0.mk (EX0.out.drew.below hb);clear hb)
    | (go_at_call 40;refine (same_vs m.views _ cv A c _ rfl _ EX1.out.row ⟨Kd.C_below HR.out.1 EX1.out.bel,HR.out.2⟩).mono ?_;rintro e w8 ⟨rfl,hb⟩;have EX2:=Aside0.mk (EX1.out.below hb);clear hb))
  clear ka km HPD HP2 EX0 EX1;have hnS:((m.views.length+1:Nat):Int)=(m.views.length:Int)+1:=by omega
  go_wp2_with fail
  go_loopw [11] (fun v11 wr=>∃ (i:Nat) (l:List S87),v11 = .int .i64 (i:Int)∧Aside0 (i≤m.views.length∧EX w wr m A c wa.heap.size w1.heap.size (some ⟨g,0,none⟩) cv l)) (fun v11 _=>m.views.length - (intOf v11).toNat)
  case atStart=>exact ⟨0,m.views,rfl,⟨Nat.zero_le _,EX2.out⟩⟩
  case round=>
   obtain ⟨i,l,rfl,HQ⟩:=hrel;have EQ:=Aside0.mk HQ.out.2;by_cases hlt:i<m.views.length
   ·have hi0:(0:Int)≤(i:Int):=by omega
    have hi1:(i:Int)<(m.views.length:Int):=by omega
    have hi2:(i:Int)<(m.views.length:Int)+1:=by omega
    have HLT:=Aside0.mk hlt;obtain ⟨x,hx,kx,hcc⟩:=EQ.out.elem i hlt
    have kf:wr.frozen? ⟨g,i * 7+6,none⟩=false:=by
     obtain ⟨_,_,_,_,hf⟩:=Kd.R_elem EQ.out.r mkV (i:Int) (by omega) (by omega);exact hf 6
    clear hx hcc;go_wp2_with fail
    obtain ⟨l',hE⟩:=EQ.out.put HLT.out HBS.out (bits BinOp.xor IntKind.i64 x.f5 1);have E2:=Aside0.mk hE;clear hE kx kf;go_roundw
    case rel=>exact ⟨i+1,l',by go_num,⟨by have:=HLT.out;omega,E2.out⟩⟩
    case measure=>simp only[intOf];have:=HLT.out;first|omega|(go_num;omega)|(simp;omega)
   ·have hi1:¬((i:Int)<(m.views.length:Int)):=by omega
    go_upto_region 14 with fail
    have H1:=Aside0.mk (heap_alloc_new wr (.cells (MVc zMsg none 0) 33 (0,0)))
    go_upto_region 15 with (first
     | ((with_reducible refine gate_dst (N:=83) rfl ?_);refine wpList_load_row rfl 33 (.tmp 1) rfl w.heap.size (by rfl) 33 (MVc m A c) (0,0) _ EQ.out.bm Try.underlying33 rfl inf33 ?_)
     | (refine wpList_store_row rfl 33 (.tmp 12) (.tmp 83) rfl wr.heap.size (MVc m A c) (by rfl) (by rfl) 33 _ H1.out inf33 rfl (mv_one _ _ _) ?_))
    obtain ⟨w5,hw5⟩:∃ w5,w5=(wr.alloc (.cells (MVc zMsg none 0) 33 (0,0))).setRow wr.heap.size (MVc m A c):=⟨_,rfl⟩;have HW5:=Aside0.mk hw5;rw[mv_zero] at HW5
    have E5:Aside0 (EX w w5 m A c wa.heap.size w1.heap.size (some ⟨g,0,none⟩) cv l∧w5.heap[wr.heap.size]?=some (.cells (MVc m A c) 33 (0,0))∧w.heap.size<wr.heap.size∧wa.heap.size≠wr.heap.size):=⟨by
     have hb:Below wr.heap.size wr w5:=by rw[hw5];exact below_setRow (al_below _ _) (Nat.le_refl _) _
     have h1:=blk_lt EQ.out.box;have h2:=blk_lt EQ.out.bm;exact ⟨EQ.out.below hb,by rw[hw5];exact setRow_blk H1.out _,h2,by omega⟩⟩
    rw[←HW5.out];clear hw5 HW5 H1;have HZ:Aside0 ((0+m.views.length) * 64≤140737488355328):=⟨by have:=HL.out;omega⟩;go_upto_region 16 with ((with_reducible refine gate_dst (N:=87) rfl ?_);refine Kd.R_append_rows k87 (Rr:=Kd.K k87 w5) (w0:=w5) w5.heap.size rfl (.const (.slice none 0 0)) (.tmp 86) 31 87 _ 64 (by rfl) Try.underlying31 inf87 rfl (by decide) (by decide) (.slice none 0 0) [] l (some ⟨g,0,none⟩) m.views.length cv (fun _=>True) (fun _=>False) (by rfl) (by rfl) (Kd.R_nil _ _ _ _ _) E5.out.1.row.1 kM87 (fun _ hk=>hk.elim) (fun _ _=>trivial) (Below.refl _ _) (Nat.le_refl _) HZ.out ?_;intro v6 w6 hR hB hg hat;rw[List.nil_append] at hR;obtain ⟨Ay,cy,rfl⟩:=Kd.R_slice hR;rw[EQ.out.len] at hR ⊢;have E6:Aside0 (EX w w6 m A c wa.heap.size w1.heap.size (some ⟨g,0,none⟩) cv l∧w6.heap[wr.heap.size]?=some (.cells (MVc m A c) 33 (0,0))∧Kd.R k87 87 w6 w5.heap.size (fun _=>True) (.slice Ay m.views.length cy) l):=⟨E5.out.1.below hB,blk_keep hB E5.out.2.1,hR⟩;clear hR hB hg hat;have kc:w6.cell? ⟨wr.heap.size,19,none⟩=some (.slice A m.views.length c):=(blk_cell E6.out.2.1 19).trans rfl;have kf:=blk_frozen E6.out.2.1 19)
    obtain ⟨w7,hw7⟩:∃ w7,w7=w6.setCell ⟨wr.heap.size,19,none⟩ (.slice Ay m.views.length cy):=⟨_,rfl⟩
    have E7:Aside0 (EX w w7 m A c wa.heap.size w1.heap.size (some ⟨g,0,none⟩) cv l∧w7.heap[wr.heap.size]?=some (.cells (MVc m Ay cy) 33 (0,0))∧(Kd.C k87 w7 Ay m.views.length l∧m.views.length≤cy)):=⟨by
     rw[hw7];have hR:=Kd.R_reads' (Kd.R_set E6.out.2.2 E6.out.2.1 (by decide) 19 (.slice Ay m.views.length cy));exact ⟨E6.out.1.far E6.out.2.1 E5.out.2.2.1 E5.out.2.2.2 _ _,blk_upd (cs2:=MVc m Ay cy) E6.out.2.1 rfl,by have h1:=hR.2.2;rwa [←hR.1] at h1,hR.2.1⟩⟩
    rw[←hw7];clear hw7 E5 E6 EQ kc kf;obtain ⟨pb2,er2,hp⟩:∃ pb er,lay msgB msgV (wv m l)=(pb,er):=⟨_,_,rfl⟩;obtain ⟨bv2,hbv⟩:∃ bv,dcd (msgV (wv m l))=bv:=⟨_,rfl⟩;have HP2:=Aside0.mk (And.intro hp hbv);have hq2:(er2 == 0)=bv2:=by rw[←hbv];exact lay_err hp
    clear hp hbv
    go_wp2_with (first
     | ((with_reducible refine gate_dst (N:=90) rfl ?_);refine wpList_load_row rfl 33 (.tmp 3) rfl wa.heap.size (by rfl) 33 (MVc m _ cv) (0,0) _ E7.out.1.box Try.underlying33 rfl inf33 ?_)
     | ((with_reducible refine gate_dst (N:=95) rfl ?_);refine wpList_load_row rfl 33 (.tmp 12) rfl wr.heap.size (by rfl) 33 (MVc m Ay cy) (0,0) _ E8.out.2.1 Try.underlying33 rfl inf33 ?_)
     | ((with_reducible refine gate_dst (N:=108) rfl ?_);refine gate_guard (by kernel_rfl) ?_;refine wpList_load_row rfl 33 (.tmp 3) rfl wa.heap.size (by rfl) 33 (MVc m _ cv) (0,0) _ E10.out.box Try.underlying33 rfl inf33 ?_)
     | (go_at_call 16;refine (enc_law m l E7.out.1.len HI.out _ cv _ E7.out.1.row HP2.out.1).mono ?_;rintro e w8 ⟨Ap,cp,rfl,hi,hb⟩;have E8:Aside0 (EX w w8 m A c wa.heap.size w1.heap.size (some ⟨g,0,none⟩) cv l∧w8.heap[wr.heap.size]?=some (.cells (MVc m Ay cy) 33 (0,0))∧(Kd.C k87 w8 Ay m.views.length l∧m.views.length≤cy)∧In w8 Ap cp pb2):=⟨E7.out.1.below hb,blk_keep hb E7.out.2.1,⟨Kd.C_below E7.out.2.2.1 hb,E7.out.2.2.2⟩,hi⟩;clear hb hi E7)
     | (go_at_call 39;refine (rence_law m l E8.out.1.len HI.out Ay cy _ E8.out.2.2.1 HP2.out.1).mono ?_;rintro e w9 ⟨Aq,cq,rfl,hi,hb⟩;have E9:Aside0 (EX w w9 m A c wa.heap.size w1.heap.size (some ⟨g,0,none⟩) cv l∧In w9 Ap cp pb2∧In w9 Aq cq pb2):=⟨E8.out.1.below hb,In.below E8.out.2.2.2 hb,hi⟩;clear hb hi E8)
     | (go_at_call 37;refine (alike_ex Ap cp Aq cq pb2 _ rfl _ E9.out.2.1 E9.out.2.2).mono ?_;rintro e wx ⟨rfl,hb⟩;have E10:=Aside0.mk (E9.out.1.below hb);clear hb E9)
     | (go_at_call 21;refine (val_law m l E10.out.len HI.out _ cv _ E10.out.row).mono ?_;rintro e wy ⟨rfl,hb⟩;rw[HP2.out.2];have HE:=Aside0.mk (below_step E10.out.bel hb);clear hb))
    go_ret
    exact ⟨rfl,HE.out⟩
end Go.Proofs.Ytpgdmmjbhjbbhaa.Lw
end
section
namespace Go.Proofs.Ytpgdmmjbhjbbhaa.Lw
open Go Go.RowKit P Sp Vd En Wr Rd YtpgdmmjbhjbbhaaW.PrintWords YtpgdmmjbhjbbhaaW.PrintLast YtpgdmmjbhjbbhaaW.PrintMore
theorem back_go (ok:Bool):∀ (n i:Nat) (x:List Int),i+n=x.length→x.length≤9223372036854775807 → ∃ k r,sluicelaw2_back.l0 k x ok (i:Int)=some (ok,r)∧r.length=x.length∧(IsB x→IsB r)
 | 0,i,x,h,hl=>⟨1,x,by unfold sluicelaw2_back.l0;rw[if_neg (by omega)],rfl,fun hb=>hb⟩
 | n + 1, i, x, h, hl => by
   obtain ⟨k,r,hk,hr,hB⟩:=back_go ok n (i+1) (x.set i 85) (by simp;omega) (by simpa using hl);refine ⟨k+1,r,?_,by simpa using hr,fun hb=>hB (fun y hy=>(List.mem_or_eq_of_mem_set hy).elim (hb y) (fun e=>by subst e;exact ⟨by decide,by decide⟩))⟩;unfold sluicelaw2_back.l0
   have hw:wrap64 ((i:Int)+1)=((i+1:Nat):Int):=by
    unfold wrap64;omega
   rw[if_pos (by omega),if_pos (by omega),hw,Int.toNat_natCast,hk]
theorem back_f (b:List Int) (hb:IsB b) (hl:b.length≤140737488351232):∃ k r,sluicelaw2_back.f k (b++[165,90]) b=some (true,r)∧r.length=b.length+2∧IsB r:=by
 have hlen:(b++[165,90]:List Int).length=b.length+2:=by simp
 obtain ⟨k,r,hk,hr,hB⟩:=back_go true (b.length+2) 0 (b++[165,90]) (by omega) (by omega);refine ⟨k+1,r,?_,by omega,hB (IsB.append.mpr ⟨hb,fun y hy=>by rcases List.mem_cons.1 hy with rfl|hy;exact ⟨by decide,by decide⟩;rcases List.mem_cons.1 hy with rfl|hy;exact ⟨by decide,by decide⟩;cases hy⟩)⟩
 have h2:wrap64 ((b.length:Int)+2)=(b.length:Int)+2:=by
  unfold wrap64;omega
 have h1:wrap64 ((b.length:Int)+1)=((b.length+1:Nat):Int):=by
  unfold wrap64;omega
 have ht:(b++[165,90]:List Int).take b.length=b:=List.take_left;have r1:rd (b++[165,90]) (b.length:Int)=165:=by simp[rd,List.getD_eq_getElem?_getD]
 have r2:rd (b++[165,90]) ((b.length+1:Nat):Int)=90:=by simp[rd,List.getD_eq_getElem?_getD]
 unfold sluicelaw2_back.f;rw[h2,h1,hlen,if_pos (by omega),if_pos (by omega),if_pos (by omega),Int.toNat_natCast,ht,alike_law hb hb,Option.bind_some,dcd_pos rfl,if_pos rfl,if_pos (by omega),r1,if_pos rfl,if_pos (by omega),if_pos (by omega),r2];exact hk
theorem back_law (w0 w:World) (v:Value) (b:List Int) (lo hi:Nat) (hB:Below w0.heap.size w0 w) (hlo:w0.heap.size≤lo) (hR:Kd.R (Kd.int .u8) 5 w w0.heap.size (fun k=>lo≤k∧k<hi) v (b++[165,90])) (A1:Option Addr) (c1:Nat) (hb:In w0 A1 c1 b) (hl:b.length≤140737488351232):
  Calls Try.prog 42 #[v,.slice A1 b.length c1] w fun e w'=>e = .returned (.bool true)∧Below w0.heap.size w0 w'∧Kept w w' (fun k=>lo≤k∧k<hi):=by
 obtain ⟨k,r,hk,_⟩:=back_f b hb.isB hl;refine (sluicelaw2_back.calls k (fun k=>lo≤k∧k<hi) v _ A1 c1 b _ _ w0 w hB hR (Kd.C_kept_came (Kd.heap_int .u8) hb.row hB (fun k hk=>Nat.le_trans hlo hk.1)) hb.cap hk).mono ?_;rintro e w' ⟨he,_,h2,h3⟩;exact ⟨he,h2,h3⟩
theorem back_left (w0 w:World) (v:Value) (b:List Int) (lo hi:Nat) (hB:Below w0.heap.size w0 w) (hlo:w0.heap.size≤lo) (hR:Kd.R (Kd.int .u8) 5 w w0.heap.size (fun k=>lo≤k∧k<hi) v (b++[165,90])) (A1:Option Addr) (c1:Nat) (hb:In w0 A1 c1 b) (hl:b.length≤140737488351232):
  Calls Try.prog 42 #[v,.slice A1 b.length c1] w fun e w'=>e = .returned (.bool true)∧Below w0.heap.size w0 w'∧Kept w w' (fun k=>lo≤k∧k<hi)∧∃ r,r.length=b.length+2∧IsB r∧Kd.R (Kd.int .u8) 5 w' w0.heap.size (fun k=>lo≤k∧k<hi) v r:=by
 obtain ⟨k,r,hk,hr,hIB⟩:=back_f b hb.isB hl;refine (sluicelaw2_back.calls k (fun k=>lo≤k∧k<hi) v _ A1 c1 b _ _ w0 w hB hR (Kd.C_kept_came (Kd.heap_int .u8) hb.row hB (fun k hk=>Nat.le_trans hlo hk.1)) hb.cap hk).mono ?_;rintro e w' ⟨he,h1,h2,h3⟩;exact ⟨he,h2,h3,r,hr,hIB,Kd.R_of_own (Kd.own_of_R (h1:=fun _=>rfl) h1) hR.1⟩
theorem lent_in {w w1:World} {base:Nat} {v:Value} {b:List Int} (h:Kd.R (Kd.int .u8) 5 w1 w.heap.size (fun _=>True) v b) (hle:base≤w.heap.size):Kd.R (Kd.int .u8) 5 w1 base (fun k=>w.heap.size≤k∧k<w1.heap.size) v b:=
 Kd.R_lower (Kd.R_mono (Kd.R_bound h) (fun k hk=>⟨hk.2.1,hk.2.2.1⟩)) hle
end Go.Proofs.Ytpgdmmjbhjbbhaa.Lw
end
section
namespace Go.Proofs.Ytpgdmmjbhjbbhaa.Rf
open Go Go.RowKit P Sp Vd En Wr Lw YtpgdmmjbhjbbhaaW.PrintWords YtpgdmmjbhjbbhaaW.PrintLast YtpgdmmjbhjbbhaaW.PrintMore
open Go.Proofs.Ytpgdmmjbhjbbhaa.Rd (pl setRow_far setRow_blk)
def Vc (t:ByteArray) (c r v d u h:Int):Array Value := #[.string t,.int .i64 c,.int .i64 r,.int .i64 v,.int .i64 d,.int .i64 u,.int .i64 h]
structure VX (w0 w W:World) (g gb hi:Nat) (b:List Int) (s:R Unit) (cs:Array Value) (v:Value) (l:List S87):Prop where
 st:RSt w0 W g b s
 kb:KeepBut w W g none
 box:W.heap[gb]?=some (.cells cs 87 (0,0))
 row:Kd.R k87 87 W w.heap.size (fun k=>w.heap.size≤k∧k<hi) v l
section
variable {w0 w W W1:World} {g gb hi:Nat} {b:List Int} {s s1:R Unit} {cs cs2:Array Value} {v:Value} {l:List S87}
def VP (w0 w:World) (g gb hi:Nat):Prop:=g<w.heap.size∧w.heap.size≤gb∧hi≤gb∧w0.heap.size≤gb
theorem VX.call (h:VX w0 w W g gb hi b s cs v l) (hp:VP w0 w g gb hi) (h1:RSt w0 W1 g b s1) (k1:KeepBut W W1 g none):VX w0 w W1 g gb hi b s1 cs v l:=
 ⟨h1,keep_then h.kb k1,kb1 k1 (by have:=hp;unfold VP at this;omega) h.box,Kd.R_keep h.row k1 (fun k hk=>by have:=hp.1;omega)⟩
theorem VX.set (h:VX w0 w W g gb hi b s cs v l) (hp:VP w0 w g gb hi) (j:Nat) (u:Value) (hc:cs.setIfInBounds j u=cs2):VX w0 w (W.setCell ⟨gb,j,none⟩ u) g gb hi b s cs2 v l:=
 ⟨h.st.other (by have:=hp;unfold VP at this;omega) hp.2.2.2 j u,keep_far h.kb (p:=⟨gb,j,none⟩) hp.2.1 u,blk_upd h.box hc,Kd.R_far h.row (p:=⟨gb,j,none⟩) (fun k hk=>by have:=hp.2.2.1;show k≠gb;omega) u⟩
theorem VX.below (h:VX w0 w W g gb hi b s cs v l) (k:Below W.heap.size W W1):VX w0 w W1 g gb hi b s cs v l:=
 ⟨h.st.below k,keep_then h.kb (KeepBut.of_below k g none),blk_keep k h.box,Kd.R_below h.row k⟩
theorem VX.app (h:VX w0 w W g gb hi b s cs v l) (hp:VP w0 w g gb hi) (hw:w0.heap.size≤w.heap.size) (hg:W.grownBy W1 v.ownBlock):RSt w0 W1 g b s∧KeepBut w W1 g none∧W1.heap[gb]?=some (.cells cs 87 (0,0)):=by
 have ho:∀ k,v.ownBlock=some k→w.heap.size≤k∧k<hi:=h.row.1;unfold VP at hp;have hgg:W1.heap[g]?=W.heap[g]?:=hg.block g h.st.lt (fun e=>by have:=ho g e.symm;omega);refine ⟨?_,⟨Nat.le_trans h.kb.1 hg.size,fun i hi2 h1 h2=>?_⟩,blk_grown h.box hg (fun e=>by have:=ho gb e.symm;omega)⟩
 ·obtain ⟨at_,wr,h1,h2,h3⟩:=h.st;refine ⟨at_,wr,IsS_heap h1 hgg,h2,h3.trans ⟨hg.os,hg.tape,hg.output,hg.size,fun k hk=>?_⟩⟩;have:=h3.size;exact hg.block k (by omega) (fun e=>by have:=ho k e.symm;omega)
 ·have:=h.kb.1;exact (hg.block i (by omega) (fun e=>by have:=ho i e.symm;omega)).trans (h.kb.2 i hi2 h1 h2)
end
theorem view_post {a t:ByteArray} {c r v h:Int} {x:S25} {s2 s3 s4 s5 s6 s7 s8:R Unit} (h1:Post (nameP a) s2 t s3) (h2:Post (numP 1 1099511627776) s3 c s4) (h3:Post (numP 0 1099511627776) s4 r s5) (h4:Post (numP 0 1099511627776) s5 v s6) (h5:Post rightsP s6 x s7) (h6:Post (numP 0 1099511627776) s7 h s8):Post (viewP a) s2 ⟨t,c,r,v,x,h⟩ s8:=by
 have hb:(1099511627776:Int)=big:=rfl;rw[hb] at h2 h3 h4 h6
 have hc:Post capP s3 (⟨c,r⟩:S25) s5:=by
  unfold capP pairP;exact h2.bnd (h3.bnd (Post.ret (⟨c,r⟩:S25) _))
 unfold viewP;exact h1.bnd (hc.bnd (h4.bnd (h5.bnd (h6.bnd (Post.ret (⟨t,c,r,v,x,h⟩:S87) _)))))
theorem inf87s:(Try.prog.info? 87).map (·.size)=some 7:=by kernel_rfl
theorem R_step' {α:Type} {d:Kd α} {e base:Nat} {ok:Nat→Prop} {w w1:World} {v:Value} {xs:List α} (h:d.R e w base ok v xs) (hk:∀ k,ok k→w1.heap[k]?=w.heap[k]?):d.R e w1 base ok v xs:=Kd.R_step h (fun k ho _=>hk k ho)
theorem rviews_calls (w0 w : World) (g : Nat) (b : List Int) (s : R Unit) (hs : Src b) (h : RSt w0 w g b s) :
    Calls Try.prog 116 #[.pointer (some ⟨g,0,none⟩)] w fun e w'=>∃ (l:List S87) (s':R Unit) (v:Value),e = .returned v∧RSt w0 w' g b s'∧Post viewsP s l s'∧KeepBut w w' g none∧Kd.R k87 87 w' w.heap.size (fun k=>w.heap.size≤k∧k<w'.heap.size) v l:=by
  have HS:=Aside0.mk hs;have H0:=Aside0.mk (And.intro h (And.intro h.lt h.bel.size));clear hs h;have hu87:=Try.underlying87;have hu25:=Try.underlying25;have hu132:=Try.underlying132;go_enter Try.func116,Try.ntmps116
  go_upto_region 4 with (go_at_call 102;refine (num_calls w0 _ g b s 0 64 (by decide) (by decide) (by decide) HS.out H0.out.1).mono ?_;rintro e w1 ⟨n,s1,rfl,h1,p1,k1,r0,r1⟩;obtain ⟨n,rfl⟩:∃ m:Nat,n=(m:Int):=⟨n.toNat,by omega⟩;have H1:Aside0 (RSt w0 w1 g b s1∧KeepBut w w1 g none∧n≤64∧∀ (r:List S87) s',Post (viewsGo n eB) s1 r s'→Post viewsP s r s'):=⟨h1,k1,by omega,fun r s' hr=>p1.bnd (by rw[Int.toNat_natCast];exact hr)⟩;clear h1 p1 k1 r0 r1)
  go_loopw [3,4,5] (fun v3 v4 v5 wr=>∃ (m:Nat) (a:ByteArray) (l:List S87) (s2:R Unit),v4 = .string a∧v5 = .int .i64 (m:Int)∧Aside0 (RSt w0 wr g b s2∧KeepBut w wr g none∧l.length+m≤64∧(∀ (r:List S87) s',Post (viewsGo m a) s2 r s'→Post viewsP s (l++r) s')∧Kd.R k87 87 wr w.heap.size (fun k=>w.heap.size≤k∧k<wr.heap.size) v3 l)) (fun _ _ v5 _=>(intOf v5).toNat)
  case atStart=>exact ⟨n,eB,[],s1,rfl,rfl,⟨H1.out.1,H1.out.2.1,by have:=H1.out.2.2.1;simpa using this,fun r s' hr=>by simpa using H1.out.2.2.2 r s' hr,Kd.R_nil _ _ _ _ _⟩⟩
  case round=>
   obtain ⟨m,a,l,s2,rfl,rfl,HQ⟩:=hrel;obtain ⟨at2,wr2,hI,hSt,hB⟩:=HQ.out.1;have HI:=Aside0.mk hI;obtain ⟨A,c,hb,⟨hg,hcap⟩,hC⟩:=hI;have kz2:=cellS132_2 hb;have HST:=Aside0.mk hSt;clear hb hg hcap hC hB hSt
   have fin : (m = 0 ∨ wr2 = true) → Post viewsP s l s2 := fun hd => by
     have h2:=HQ.out.2.2.2.1 [] s2;rw[List.append_nil] at h2;refine h2 ?_;rcases hd with rfl|rfl
     ·exact Post.ret _ _
     ·have:=HST.out;cases s2 with
      | bad k=>rfl
      | ok u r=>exact absurd this.1 (by decide)
   have HF:=Aside0.mk fin;clear fin;by_cases hm:0<m
   ·have hmI:(0:Int)<(m:Int):=by omega
    have HM:=Aside0.mk hm;cases wr2 with
    | true=>
     go_wp2_with fail
     go_ret
     exact ⟨l,s2,_,rfl,HQ.out.1,HF.out (.inr (by simp)),HQ.out.2.1,HQ.out.2.2.2.2⟩
    | false=>
     go_upto_region 6 with fail
     clear kz2 HF HI HST
     go_upto_region 7 with (first
      | (go_at_call 115;refine (name_calls w0 _ g b s2 a HS.out HQ.out.1).mono ?_;rintro e w1 ⟨t,s3,rfl,h1,p1,k1⟩;have H2:=Aside0.mk (And.intro h1 (And.intro p1 k1));clear h1 p1 k1)
      | ((with_reducible refine gate_dst (N:=6) rfl ?_);refine box_event ?hg (N:=6) ?hd (cs := #[.string ⟨#[]⟩,.int .i64 0,.int .i64 0,.int .i64 0,.int .i64 0,.int .i64 0,.int .i64 0]) (t:=87) ?hr ?_;(case hd=>rfl);(case hg=>rfl);(case hr=>first|(go_simp;done)|(go_simp;rfl));intro gb hg w2 hbox hb;have HG:Aside0 (gb=w1.heap.size):=⟨hg⟩;have H3:=Aside0.mk (And.intro (H2.out.1.below hb) (And.intro (KeepBut.of_below hb g none) hbox));clear hg hb hbox;go_loud (refine wpList_store_row rfl 87 (.tmp 6) (.tmp 23) rfl gb (Vc t 0 0 0 0 0 0) (by rfl) (by rfl) 87 _ H3.out.2.2 inf87s rfl (by simp[Vc,Value.oneCell']) ?_)))
     (try simp only[Act.put,List.setIfInBounds_toArray,List.set_cons_zero,List.set_cons_succ])
     obtain ⟨w3,hw3⟩:∃ w3,w3=w2.setRow gb (Vc t 0 0 0 0 0 0):=⟨_,rfl⟩
     have HVP:Aside0 (VP w0 w g gb wr.heap.size):=⟨by
      have h1:=H0.out.2.1;have h2:=HG.out;have h3:=H2.out.2.2.1;have h4:=HQ.out.2.1.1;have h5:=H0.out.2.2;exact ⟨h1,by omega,by omega,by omega⟩⟩
     have V1:Aside0 (VX w0 w w3 g gb wr.heap.size b s3 (Vc t 0 0 0 0 0 0) u3 l):=⟨by
      have hk:=keep_then H2.out.2.2 H3.out.2.1;have hp:=HVP.out;unfold VP at hp;rw[hw3];refine ⟨H3.out.1.row (by omega) hp.2.2.2 _,keep_row (keep_then HQ.out.2.1 hk) hp.2.1 _,setRow_blk H3.out.2.2 _,?_⟩;exact R_step' (Kd.R_keep HQ.out.2.2.2.2 hk (fun k hk=>by omega)) (fun k hk=>setRow_far (by omega) _)⟩
     rw[←hw3];clear hw3 H3
     go_upto_region 11 with (first
      | (go_at_call 118;refine (rights_calls w0 _ g b s6 HS.out (V4.out.1.set HVP.out 3 (.int .i64 v1) (cs2:=Vc t c1 r1 v1 0 0 0) rfl).st).mono ?_;rintro e w6 ⟨x,s7,rfl,h1,p1,k1⟩;have V5:=Aside0.mk (And.intro ((V4.out.1.set HVP.out 3 (.int .i64 v1) (cs2:=Vc t c1 r1 v1 0 0 0) rfl).call HVP.out h1 k1) p1);clear h1 p1 k1 kc kf;have kc4:w6.cell? ⟨gb,4,none⟩=some (.int .i64 0):=(blk_cell V5.out.1.box 4).trans rfl;have kf4:=blk_frozen V5.out.1.box 4;have kc5:w6.cell? ⟨gb,5,none⟩=some (.int .i64 0):=(blk_cell V5.out.1.box 5).trans rfl;have kf5:=blk_frozen V5.out.1.box 5)
      | (go_at_call 102;refine (num_calls w0 _ g b s5 0 1099511627776 (by decide) (by decide) (by decide) HS.out (V3.out.1.set HVP.out 2 (.int .i64 r1) (cs2:=Vc t c1 r1 0 0 0 0) rfl).st).mono ?_;rintro e w5 ⟨v1,s6,rfl,h1,p1,k1,-,-⟩;have V4:=Aside0.mk (And.intro (((V3.out.1.set HVP.out 2 (.int .i64 r1) (cs2:=Vc t c1 r1 0 0 0 0) rfl)).call HVP.out h1 k1) p1);clear h1 p1 k1;(try clear kc kf);have kc:w5.cell? ⟨gb,3,none⟩=some (.int .i64 0):=(blk_cell V4.out.1.box 3).trans rfl;have kf:=blk_frozen V4.out.1.box 3)
      | (go_at_call 102;refine (num_calls w0 _ g b s4 0 1099511627776 (by decide) (by decide) (by decide) HS.out (V2.out.1.set HVP.out 1 (.int .i64 c1) (cs2:=Vc t c1 0 0 0 0 0) rfl).st).mono ?_;rintro e w4 ⟨r1,s5,rfl,h1,p1,k1,-,-⟩;have V3:=Aside0.mk (And.intro (((V2.out.1.set HVP.out 1 (.int .i64 c1) (cs2:=Vc t c1 0 0 0 0 0) rfl)).call HVP.out h1 k1) p1);clear h1 p1 k1;(try clear kc kf);have kc:w4.cell? ⟨gb,2,none⟩=some (.int .i64 0):=(blk_cell V3.out.1.box 2).trans rfl;have kf:=blk_frozen V3.out.1.box 2)
      | (go_at_call 102;refine (num_calls w0 _ g b s3 1 1099511627776 (by decide) (by decide) (by decide) HS.out V1.out.st).mono ?_;rintro e w3 ⟨c1,s4,rfl,h1,p1,k1,-,-⟩;have V2:=Aside0.mk (And.intro ((V1.out).call HVP.out h1 k1) p1);clear h1 p1 k1;(try clear kc kf);have kc:w3.cell? ⟨gb,1,none⟩=some (.int .i64 0):=(blk_cell V2.out.1.box 1).trans rfl;have kf:=blk_frozen V2.out.1.box 1))
     have V6:Aside0 (VX w0 w ((w6.setCell ⟨gb,4,none⟩ (.int .i64 x.f0)).setCell ⟨gb,5,none⟩ (.int .i64 x.f1)) g gb wr.heap.size b s7 (Vc t c1 r1 v1 x.f0 x.f1 0) u3 l):=⟨(V5.out.1.set HVP.out 4 (.int .i64 x.f0) (cs2:=Vc t c1 r1 v1 x.f0 0 0) rfl).set HVP.out 5 (.int .i64 x.f1) (cs2:=Vc t c1 r1 v1 x.f0 x.f1 0) rfl⟩;clear kc4 kc5 kf4 kf5;go_upto_region 12 with (go_at_call 102;refine (num_calls w0 _ g b s7 0 1099511627776 (by decide) (by decide) (by decide) HS.out V6.out.st).mono ?_;rintro e w7 ⟨h,s8,rfl,h1,p1,k1,-,-⟩;have V7:=Aside0.mk (And.intro (V6.out.call HVP.out h1 k1) p1);clear h1 p1 k1;have kc:w7.cell? ⟨gb,6,none⟩=some (.int .i64 0):=(blk_cell V7.out.1.box 6).trans rfl;have kf:=blk_frozen V7.out.1.box 6)
     obtain ⟨w8,hw8⟩:∃ w8,w8=w7.setCell ⟨gb,6,none⟩ (.int .i64 h):=⟨_,rfl⟩;have V8:Aside0 (VX w0 w w8 g gb wr.heap.size b s8 (Vc t c1 r1 v1 x.f0 x.f1 h) u3 l):=⟨by rw[hw8];exact V7.out.1.set HVP.out 6 (.int .i64 h) rfl⟩;rw[←hw8];clear hw8 kc kf;have HPV:Aside0 (Post (viewP a) s2 ⟨t,c1,r1,v1,x,h⟩ s8):=⟨view_post H2.out.2.1 V2.out.2 V3.out.2 V4.out.2 V5.out.2 V7.out.2⟩;have V9:Aside0 (VX w0 w (w8.alloc (.cells #[.string t,.int .i64 c1,.int .i64 r1,.int .i64 v1,.int .i64 x.f0,.int .i64 x.f1,.int .i64 h] 87 (0,0))) g gb wr.heap.size b s8 (Vc t c1 r1 v1 x.f0 x.f1 h) u3 l∧Kd.C k87 (w8.alloc (.cells #[.string t,.int .i64 c1,.int .i64 r1,.int .i64 v1,.int .i64 x.f0,.int .i64 x.f1,.int .i64 h] 87 (0,0))) (some ⟨w8.heap.size,0,none⟩) 1 [⟨t,c1,r1,v1,x,h⟩]):=⟨V8.out.below (al_below w8 _),views_row (xs:=[⟨t,c1,r1,v1,x,h⟩]) (heap_alloc_new w8 _) (by simp)⟩;have HL9:Aside0 ((l.length+1) * 64≤140737488355328):=⟨by have:=HQ.out.2.2.1;omega⟩;clear H2 V1 V2 V3 V4 V5 V6 V7
     go_upto_region 13 with (first
      | ((with_reducible refine gate_dst (N:=40) rfl ?_);refine wpList_load_row rfl 87 (.tmp 6) rfl gb (by rfl) 87 #[.string t,.int .i64 c1,.int .i64 r1,.int .i64 v1,.int .i64 x.f0,.int .i64 x.f1,.int .i64 h] (0,0) _ V8.out.box hu87 rfl inf87s ?_)
      | ((with_reducible refine gate_dst (N:=42) rfl ?_);refine Kd.R_append_rows k87 (Rr:=Kd.K k87 _) (w0:=w8.alloc (.cells #[.string t,.int .i64 c1,.int .i64 r1,.int .i64 v1,.int .i64 x.f0,.int .i64 x.f1,.int .i64 h] 87 (0,0))) w.heap.size rfl (.tmp 39) (.tmp 41) 31 87 _ 64 (by rfl) Try.underlying31 inf87 rfl (by decide) (by decide) u3 l [⟨t,c1,r1,v1,x,h⟩] (some ⟨w8.heap.size,0,none⟩) 1 1 (fun k=>w.heap.size≤k) (fun _=>False) (by rfl) (by rfl) (Kd.R_mono V9.out.1.row (fun k hk=>hk.1)) V9.out.2 kM87 (fun _ hk=>hk.elim) (fun k hk=>Nat.le_trans V9.out.1.kb.1 hk) (Below.refl _ _) V9.out.1.kb.1 HL9.out ?_;intro v10 w10 hR hB hg hat;have HA:=Aside0.mk (And.intro hR (V9.out.1.app HVP.out H0.out.2.2 hg));clear hR hB hg hat;have kc:w10.cell? ⟨gb,0,none⟩=some (.string t):=(blk_cell HA.out.2.2.2 0).trans rfl))
     have HNX:Aside0 (∀ (r:List S87) s',Post (viewsGo (m - 1) t) s8 r s'→Post viewsP s ((l++[⟨t,c1,r1,v1,x,h⟩])++r) s'):=⟨fun r s' hr=>by
      have h2:=HQ.out.2.2.2.1 (⟨t,c1,r1,v1,x,h⟩::r) s';rw[show l++(⟨t,c1,r1,v1,x,h⟩:S87)::r=(l++[⟨t,c1,r1,v1,x,h⟩])++r by simp,show m=(m - 1)+1 by have:=HM.out;omega] at h2;refine h2 ?_
      show Post (bnd (viewP a) fun v=>bnd (viewsGo (m - 1) v.f0) fun r=>Sp.ret (v::r)) s2 _ s'
      exact HPV.out.bnd (hr.bnd (Post.ret _ _))⟩
     have HFI:Aside0 (RSt w0 w10 g b s8∧KeepBut w w10 g none∧(l++[(⟨t,c1,r1,v1,x,h⟩:S87)]).length+(m - 1)≤64∧(∀ (r:List S87) s',Post (viewsGo (m - 1) t) s8 r s'→Post viewsP s ((l++[⟨t,c1,r1,v1,x,h⟩])++r) s')∧Kd.R k87 87 w10 w.heap.size (fun k=>w.heap.size≤k∧k<w10.heap.size) v10 (l++[⟨t,c1,r1,v1,x,h⟩])):=⟨HA.out.2.1,HA.out.2.2.1,by have h1:=HQ.out.2.2.1;have h2:=HM.out;simp only[List.length_append,List.length_cons,List.length_nil];omega,HNX.out,Kd.R_mono (Kd.R_bound HA.out.1) (fun k hk=>⟨hk.2.1,hk.2.2.1⟩)⟩;have hm64:(m:Int)≤64:=by have:=HQ.out.2.2.1;omega
     clear HNX HA HPV V8 V9 HL9 HQ HVP HG;go_wp2_with fail
     go_roundw
     case rel=>exact ⟨m - 1,t,_,s8,rfl,by have:=HM.out;first|(go_num;omega)|go_num|(congr 1;omega),HFI⟩
     case measure=>simp only[intOf];have:=HM.out;first|omega|(go_num;omega)|(simp;omega)
   ·have hmI:¬((0:Int)<(m:Int)):=by omega
    go_wp2_with fail
    go_ret
    exact ⟨l,s2,_,rfl,HQ.out.1,HF.out (.inl (by omega)),HQ.out.2.1,HQ.out.2.2.2.2⟩
end Go.Proofs.Ytpgdmmjbhjbbhaa.Rf
end
section
namespace Go.Proofs.Ytpgdmmjbhjbbhaa.Rf
open Go Go.RowKit P Sp Vd En Wr Lw YtpgdmmjbhjbbhaaW.PrintWords YtpgdmmjbhjbbhaaW.PrintLast YtpgdmmjbhjbbhaaW.PrintMore
open Go.Proofs.Ytpgdmmjbhjbbhaa.Rd (pl setRow_far setRow_blk mv_zero mv_one)
theorem opt_yes {α:Type} {c:Prop} [Decidable c] {z x:α} {p:Rdr α} {s s':R Unit} (hc:c) (h:Post p s x s'):Post (optP c z p) s x s':=by unfold optP;rw[if_pos hc];exact h
theorem opt_no {α:Type} {c:Prop} [Decidable c] {z:α} {p:Rdr α} {s:R Unit} (hc:¬c):Post (optP c z p) s z s:=by unfold optP;rw[if_neg hc];exact Post.ret _ _
theorem cap_post {c r:Int} {s s1 s2:R Unit} (h2:Post (numP 1 1099511627776) s c s1) (h3:Post (numP 0 1099511627776) s1 r s2):Post capP s (⟨c,r⟩:S25) s2:=by
 have hb:(1099511627776:Int)=big:=rfl;rw[hb] at h2 h3;unfold capP pairP;exact h2.bnd (h3.bnd (Post.ret (⟨c,r⟩:S25) _))
theorem held_post {h:Int} {s s1:R Unit} (h2:Post (numP 0 1099511627776) s h s1):Post (numP 0 big) s h s1:=by
 have hb:(1099511627776:Int)=big:=rfl;rw[hb] at h2;exact h2
theorem of_post {k:Int} {t:ByteArray} {q ep ov rt:S25} {h:Int} {s1 s2 s3 s4 s5 s6 s7:R Unit} (h1:Post (nameP eB) s1 t s2) (hc:Post capP s2 q s3) (he:Post (optP (hasEp k) z25 epochP) s3 ep s4) (ho:Post (optP (k=7) z25 epochP) s4 ov s5) (hr:Post (optP (hasRt k) z25 rightsP) s5 rt s6) (hh:Post (optP (k=4) 0 (numP 0 big)) s6 h s7):Post (ofP k) s1 (mOf k t q ep ov rt h) s7:=by
 unfold ofP;exact h1.bnd (hc.bnd (he.bnd (ho.bnd (hr.bnd (hh.bnd (Post.ret _ _))))))
theorem bad_post {α:Type} {p:Rdr α} {n:Nat} {x:α} {s':R Unit} (h:Post p (.bad n) x s'):s' = .bad n:=h
theorem rest_of {k:Int} (h1:k≠1) (h2:k≠2) (h3:k≠10):restP k=ofP k:=by unfold restP;rw[if_neg h1,if_neg h2,if_neg h3]
theorem kind_bad {s s1 : R Unit} (h : Post (numP 1 10) s 0 s1) : ∃ n, s1 = .bad n := by
  cases s1 with
  | bad n=>exact ⟨n,rfl⟩
  | ok u r=>
   obtain ⟨l,_,hp⟩:=h.okS;unfold numP at hp;cases hr:rawP l with
   | bad n=>rw[hr] at hp;cases hp
   | ok n r2=>
    rw[hr] at hp;simp only at hp
    split at hp
    ·rename_i hc
     injection hp with h1 _
     rw[h1] at hc;exact absurd hc.1 (by decide)
    ·cases hp
structure MX (w0 w W:World) (g gb:Nat) (b:List Int) (s:R Unit) (cs:Array Value):Prop where
 st:RSt w0 W g b s
 kb:KeepBut w W g none
 res:W.heap[w.heap.size]?=some (.cells (MVc zMsg none 0) 33 (0,0))
 box:W.heap[gb]?=some (.cells cs 33 (0,0))
section
variable {w0 w W W1:World} {g gb:Nat} {b:List Int} {s s1:R Unit} {cs cs2:Array Value}
def MP (w0 w:World) (g gb:Nat):Prop:=g<w.heap.size∧w.heap.size<gb∧w0.heap.size≤w.heap.size
theorem MX.call (h:MX w0 w W g gb b s cs) (hp:MP w0 w g gb) (h1:RSt w0 W1 g b s1) (k1:KeepBut W W1 g none):MX w0 w W1 g gb b s1 cs:=
 ⟨h1,keep_then h.kb k1,kb1 k1 (by have:=hp;unfold MP at this;omega) h.res,kb1 k1 (by have:=hp;unfold MP at this;omega) h.box⟩
theorem MX.set (h:MX w0 w W g gb b s cs) (hp:MP w0 w g gb) (j:Nat) (u:Value) (hc:cs.setIfInBounds j u=cs2):MX w0 w (W.setCell ⟨gb,j,none⟩ u) g gb b s cs2:=
 ⟨h.st.other (by have:=hp;unfold MP at this;omega) (by have:=hp;unfold MP at this;omega) j u,keep_far h.kb (p:=⟨gb,j,none⟩) (Nat.le_of_lt hp.2.1) u,blk_far h.res (Nat.ne_of_lt hp.2.1) u,blk_upd h.box hc⟩
theorem MX.done (h:MX w0 w W g gb b s cs) (hp:MP w0 w g gb) (cs2:Array Value):RSt w0 (W.setRow w.heap.size cs2) g b s∧KeepBut w (W.setRow w.heap.size cs2) g none∧(W.setRow w.heap.size cs2).heap[w.heap.size]?=some (.cells cs2 33 (0,0)):=
 ⟨h.st.row (by have:=hp;unfold MP at this;omega) hp.2.2 _,keep_row h.kb (Nat.le_refl _) _,setRow_blk h.res _⟩
def RMsg (w0 w:World) (g:Nat) (b:List Int) (s:R Unit) (e:Ending) (w':World):Prop:=
 ∃ (m:Msg) (s':R Unit) (A:Option Addr) (c:Nat),e = .returned (.agg (MVc m A c))∧RSt w0 w' g b s'∧Post msgP s m s'∧KeepBut w w' g none∧Kd.R k87 87 w' w.heap.size (fun k=>w.heap.size≤k∧k<w'.heap.size) (.slice A m.views.length c) m.views
theorem MX.end_ (h:MX w0 w W g gb b s1 cs) (hp:MP w0 w g gb) (m:Msg) (hm:m.views=[]) (hpo:Post msgP s m s1):RMsg w0 w g b s (.returned (.agg (MVc m none 0))) (W.setRow w.heap.size (MVc m none 0)):=by
 have h2:=h.done hp (MVc m none 0);exact ⟨m,s1,none,0,rfl,h2.1,hpo,h2.2.1,by rw[hm];exact Kd.R_nil _ _ _ _ _⟩
end
theorem rmsg_calls (w0 w : World) (g : Nat) (b : List Int) (s : R Unit) (hs : Src b) (h : RSt w0 w g b s) :
    Calls Try.prog 92 #[.pointer (some ⟨g,0,none⟩)] w (RMsg w0 w g b s):=by
  have HS:=Aside0.mk hs;obtain ⟨wa,hwa⟩:∃ wa,wa=w.alloc (.cells (MVc zMsg none 0) 33 (0,0)):=⟨_,rfl⟩;have HWA:=Aside0.mk hwa;rw[mv_zero] at HWA;have H0:Aside0 (RSt w0 wa g b s∧KeepBut w wa g none∧wa.heap[w.heap.size]?=some (.cells (MVc zMsg none 0) 33 (0,0))∧wa.heap.size=w.heap.size+1∧g<w.heap.size∧w0.heap.size≤w.heap.size):=⟨by rw[hwa];exact ⟨h.al _,KeepBut.of_below (al_below w _) _ _,heap_alloc_new w _,by simp,h.lt,h.bel.size⟩⟩;clear hs h hwa;have hu33:=Try.underlying33;have hu23:=Try.underlying23;have hu25:=Try.underlying25;have hu27:=Try.underlying27;have hu29:=Try.underlying29;go_enter Try.func92,Try.ntmps92
  go_upto_region 1 with fail
  rw[←HWA.out]
  go_upto_region 2 with (first
   | (go_at_call 102;refine (num_calls w0 _ g b s 1 10 (by decide) (by decide) (by decide) HS.out H0.out.1).mono ?_;rintro e w1 ⟨k,s1,rfl,h1,p1,k1,r0,r1⟩;have H1:Aside0 (RSt w0 w1 g b s1∧Post (numP 1 10) s k s1∧KeepBut w w1 g none∧w1.heap[w.heap.size]?=some (.cells (MVc zMsg none 0) 33 (0,0))∧w.heap.size<w1.heap.size∧0≤k∧k≤10):=⟨h1,p1,keep_then H0.out.2.1 k1,kb1 k1 (by have:=H0.out.2.2.2.2.1;omega) H0.out.2.2.1,by have:=k1.1;have:=H0.out.2.2.2.1;omega,r0,r1⟩;clear h1 p1 k1 r0 r1)
   | ((with_reducible refine gate_dst (N:=3) rfl ?_);refine box_event ?hg (N:=3) ?hd (cs := #[.int .i64 0,.string ⟨#[]⟩,.int .i64 0,.int .i64 0,.int .i64 0,.int .i64 0,.int .i64 0,.int .i64 0,.int .i64 0,.int .i64 0,.int .i64 0,.int .i64 0,.int .i64 0,.int .i64 0,.string ⟨#[]⟩,.int .i64 0,.int .i64 0,.int .i64 0,.int .i64 0,.slice none 0 0]) (t:=33) ?hr ?_;(case hd=>rfl);(case hg=>rfl);(case hr=>first|(go_simp;done)|(go_simp;rfl));intro gb hg w2 hbox hb;have HG:Aside0 (gb=w1.heap.size):=⟨hg⟩;have H2:=Aside0.mk (And.intro (H1.out.1.below hb) (And.intro (keep_then H1.out.2.2.1 (KeepBut.of_below hb g none)) (And.intro (blk_keep hb H1.out.2.2.2.1) hbox)));clear hg hb hbox;go_loud (refine wpList_store_row rfl 33 (.tmp 3) (.tmp 6) rfl gb (MVc { zMsg with kind:=k } none 0) (by rfl) (by rfl) 33 _ H2.out.2.2.2 inf33 rfl (mv_one _ _ _) ?_)))
  (try simp only[Act.put,List.setIfInBounds_toArray,List.set_cons_zero,List.set_cons_succ])
  obtain ⟨w3,hw3⟩:∃ w3,w3=w2.setRow gb (MVc { zMsg with kind:=k } none 0):=⟨_,rfl⟩;have HMP:Aside0 (MP w0 w g gb):=⟨by have:=HG.out;have:=H0.out;have:=H1.out.2.2.2.2.1;unfold MP;omega⟩
  have M1:Aside0 (MX w0 w w3 g gb b s1 (MVc { zMsg with kind:=k } none 0)):=⟨by
   have hp:=HMP.out;unfold MP at hp;rw[hw3];exact ⟨H2.out.1.row (by omega) (by omega) _,keep_row H2.out.2.1 (by omega) _,(setRow_far (by omega) _).trans H2.out.2.2.1,setRow_blk H2.out.2.2.2 _⟩⟩
  have HK:Aside0 (Post (numP 1 10) s k s1∧0≤k∧k≤10):=⟨H1.out.2.1,H1.out.2.2.2.2.2⟩;rw[←hw3];clear hw3 H0 H1 H2 HG HWA;have kk:w3.cell? ⟨gb,0,none⟩=some (.int .i64 k):=(blk_cell M1.out.box 0).trans rfl;by_cases k1:k=1
  ·have t1:(k == 1)=true:=by simp[k1]
   have HKI:=Aside0.mk k1;clear k1
   go_upto_region 6 with (first
    | (go_at_call 105;refine (op_calls w0 _ g b s2 HS.out ((M2.out.1.set HMP.out 11 (.int .i64 x.f0) rfl).set HMP.out 12 (.int .i64 x.f1) (cs2:=MVc { zMsg with kind:=k,call:=x } none 0) rfl).st).mono ?_;rintro e w5 ⟨o,s3,rfl,h1,p1,k1⟩;have M3:=Aside0.mk (And.intro (((M2.out.1.set HMP.out 11 (.int .i64 x.f0) rfl).set HMP.out 12 (.int .i64 x.f1) (cs2:=MVc { zMsg with kind:=k,call:=x } none 0) rfl).call HMP.out h1 k1) p1);clear h1 p1 k1 kc11 kf11 kc12 kf12;have kc13:w5.cell? ⟨gb,13,none⟩=some (.int .i64 0):=(blk_cell M3.out.1.box 13).trans rfl;have kf13:=blk_frozen M3.out.1.box 13;have kc14:w5.cell? ⟨gb,14,none⟩=some (.string ⟨#[]⟩):=(blk_cell M3.out.1.box 14).trans rfl;have kf14:=blk_frozen M3.out.1.box 14;have kc15:w5.cell? ⟨gb,15,none⟩=some (.int .i64 0):=(blk_cell M3.out.1.box 15).trans rfl;have kf15:=blk_frozen M3.out.1.box 15;have kc16:w5.cell? ⟨gb,16,none⟩=some (.int .i64 0):=(blk_cell M3.out.1.box 16).trans rfl;have kf16:=blk_frozen M3.out.1.box 16)
    | (go_at_call 104;refine (call_calls w0 _ g b s1 HS.out M1.out.st).mono ?_;rintro e w4 ⟨x,s2,rfl,h1,p1,k1⟩;have M2:=Aside0.mk (And.intro (M1.out.call HMP.out h1 k1) p1);clear h1 p1 k1 kk;have kc11:w4.cell? ⟨gb,11,none⟩=some (.int .i64 0):=(blk_cell M2.out.1.box 11).trans rfl;have kf11:=blk_frozen M2.out.1.box 11;have kc12:w4.cell? ⟨gb,12,none⟩=some (.int .i64 0):=(blk_cell M2.out.1.box 12).trans rfl;have kf12:=blk_frozen M2.out.1.box 12))
   clear kc13 kf13 kc14 kf14 kc15 kf15 kc16 kf16;have MZ:Aside0 (MX w0 w _ g gb b s3 (MVc (mAsk k x o) none 0)):=⟨((((M3.out.1.set HMP.out 13 (.int .i64 o.kind) rfl).set HMP.out 14 (.string o.name) rfl).set HMP.out 15 (.int .i64 o.a) rfl).set HMP.out 16 (.int .i64 o.b) (cs2:=MVc (mAsk k x o) none 0) rfl)⟩;go_wp2_with ((with_reducible refine gate_dst (N:=17) rfl ?_);refine wpList_load_row rfl 33 (.tmp 3) rfl gb (by rfl) 33 (MVc (mAsk k x o) none 0) (0,0) _ MZ.out.box hu33 rfl inf33 ?_;go_loud (refine wpList_store_row rfl 33 (.tmp 2) (.tmp 17) rfl w.heap.size (MVc (mAsk k x o) none 0) (by rfl) (by rfl) 33 _ MZ.out.res inf33 rfl (mv_one _ _ _) ?_))
   refine bodyPost_ret (results_cell_row rfl _ _ w.heap.size 33 _ (0,0) _ (by rfl) (MZ.out.done HMP.out _).2.2 hu33 rfl inf33) rfl ?_;exact MZ.out.end_ HMP.out _ rfl (HK.out.1.bnd (show Post (restP k) s1 (mAsk k x o) s3 from by unfold restP;rw[if_pos HKI.out];exact M2.out.2.bnd (M3.out.2.bnd (Post.ret _ _))))
  have t1:(k == 1)=false:=by simp[k1]
  by_cases k2:k=2
  ·have t2:(k == 2)=true:=by simp[k2]
   have HKI:=Aside0.mk (And.intro k1 k2);clear k1 k2
   go_upto_region 11 with (first
    | (go_at_call 102;refine (num_calls w0 _ g b s3 0 255 (by decide) (by decide) (by decide) HS.out (M3.out.1.set HMP.out 1 (.string t) (cs2:=MVc { zMsg with kind:=k,call:=x,name:=t } none 0) rfl).st).mono ?_;rintro e w6 ⟨er,s4,rfl,h1,p1,k1,-,-⟩;have M4:=Aside0.mk (And.intro ((M3.out.1.set HMP.out 1 (.string t) (cs2:=MVc { zMsg with kind:=k,call:=x,name:=t } none 0) rfl).call HMP.out h1 k1) p1);clear h1 p1 k1 kc1 kf1;have kc17:w6.cell? ⟨gb,17,none⟩=some (.int .i64 0):=(blk_cell M4.out.1.box 17).trans rfl;have kf17:=blk_frozen M4.out.1.box 17)
    | (go_at_call 115;refine (name_calls w0 _ g b s2 ⟨#[]⟩ HS.out ((M2.out.1.set HMP.out 11 (.int .i64 x.f0) rfl).set HMP.out 12 (.int .i64 x.f1) (cs2:=MVc { zMsg with kind:=k,call:=x } none 0) rfl).st).mono ?_;rintro e w5 ⟨t,s3,rfl,h1,p1,k1⟩;have M3:=Aside0.mk (And.intro (((M2.out.1.set HMP.out 11 (.int .i64 x.f0) rfl).set HMP.out 12 (.int .i64 x.f1) (cs2:=MVc { zMsg with kind:=k,call:=x } none 0) rfl).call HMP.out h1 k1) p1);clear h1 p1 k1 kc11 kf11 kc12 kf12;have kc1:w5.cell? ⟨gb,1,none⟩=some (.string ⟨#[]⟩):=(blk_cell M3.out.1.box 1).trans rfl;have kf1:=blk_frozen M3.out.1.box 1)
    | (go_at_call 104;refine (call_calls w0 _ g b s1 HS.out M1.out.st).mono ?_;rintro e w4 ⟨x,s2,rfl,h1,p1,k1⟩;have M2:=Aside0.mk (And.intro (M1.out.call HMP.out h1 k1) p1);clear h1 p1 k1 kk;have kc11:w4.cell? ⟨gb,11,none⟩=some (.int .i64 0):=(blk_cell M2.out.1.box 11).trans rfl;have kf11:=blk_frozen M2.out.1.box 11;have kc12:w4.cell? ⟨gb,12,none⟩=some (.int .i64 0):=(blk_cell M2.out.1.box 12).trans rfl;have kf12:=blk_frozen M2.out.1.box 12))
   clear kc17 kf17;obtain ⟨w7,hw7⟩:∃ w7,w7=w6.setCell ⟨gb,17,none⟩ (.int .i64 er):=⟨_,rfl⟩;have M5:Aside0 (MX w0 w w7 g gb b s4 (MVc { zMsg with kind:=k,call:=x,name:=t,err:=er } none 0)):=⟨by rw[hw7];exact (M4.out.1.set HMP.out 17 (.int .i64 er) (cs2:=MVc { zMsg with kind:=k,call:=x,name:=t,err:=er } none 0) rfl)⟩;rw[←hw7];clear hw7;have ke:w7.cell? ⟨gb,17,none⟩=some (.int .i64 er):=(blk_cell M5.out.box 17).trans rfl;by_cases q0:er=0
   ·have e0:(er == 0)=true:=by simp[q0]
    have HQ0:=Aside0.mk q0;clear q0
    go_upto_region 14 with (first
     | (go_at_call 102;refine (num_calls w0 _ g b s6 0 1099511627776 (by decide) (by decide) (by decide) HS.out (M6.out.1.set HMP.out 2 (.int .i64 cp) (cs2:=MVc { zMsg with kind:=k,call:=x,name:=t,err:=er,cap:=cp } none 0) rfl).st).mono ?_;rintro e w9 ⟨rc,s7,rfl,h1,p1,k1,-,-⟩;have M7:=Aside0.mk (And.intro ((M6.out.1.set HMP.out 2 (.int .i64 cp) (cs2:=MVc { zMsg with kind:=k,call:=x,name:=t,err:=er,cap:=cp } none 0) rfl).call HMP.out h1 k1) p1);clear h1 p1 k1 kc2 kf2;have kc3:w9.cell? ⟨gb,3,none⟩=some (.int .i64 0):=(blk_cell M7.out.1.box 3).trans rfl;have kf3:=blk_frozen M7.out.1.box 3)
     | (go_at_call 102;refine (num_calls w0 _ g b s4 1 1099511627776 (by decide) (by decide) (by decide) HS.out M5.out.st).mono ?_;rintro e w8 ⟨cp,s6,rfl,h1,p1,k1,-,-⟩;have M6:=Aside0.mk (And.intro (M5.out.call HMP.out h1 k1) p1);clear h1 p1 k1 ke;have kc2:w8.cell? ⟨gb,2,none⟩=some (.int .i64 0):=(blk_cell M6.out.1.box 2).trans rfl;have kf2:=blk_frozen M6.out.1.box 2))
    clear kc3 kf3;have MZ:Aside0 (MX w0 w _ g gb b s7 (MVc (mTold k x t er ⟨cp,rc⟩) none 0)):=⟨(M7.out.1.set HMP.out 3 (.int .i64 rc) (cs2:=MVc (mTold k x t er ⟨cp,rc⟩) none 0) rfl)⟩;go_wp2_with ((with_reducible refine gate_dst (N:=43) rfl ?_);refine wpList_load_row rfl 33 (.tmp 3) rfl gb (by rfl) 33 (MVc (mTold k x t er ⟨cp,rc⟩) none 0) (0,0) _ MZ.out.box hu33 rfl inf33 ?_;go_loud (refine wpList_store_row rfl 33 (.tmp 2) (.tmp 43) rfl w.heap.size (MVc (mTold k x t er ⟨cp,rc⟩) none 0) (by rfl) (by rfl) 33 _ MZ.out.res inf33 rfl (mv_one _ _ _) ?_))
    refine bodyPost_ret (results_cell_row rfl _ _ w.heap.size 33 _ (0,0) _ (by rfl) (MZ.out.done HMP.out _).2.2 hu33 rfl inf33) rfl ?_;exact MZ.out.end_ HMP.out _ rfl (HK.out.1.bnd (show Post (restP k) s1 (mTold k x t er (⟨cp,rc⟩:S25)) s7 from by unfold restP;rw[if_neg HKI.out.1,if_pos HKI.out.2];exact M2.out.2.bnd (M3.out.2.bnd (M4.out.2.bnd ((opt_yes (Or.inl HQ0.out) (cap_post M6.out.2 M7.out.2):Post (optP (capped er) z25 capP) s4 (⟨cp,rc⟩:S25) s7).bnd (Post.ret _ _))))))
   have e0:(er == 0)=false:=by simp[q0]
   by_cases q1:er=101
   ·have e1:(er == 101)=true:=by simp[q1]
    have HQ0:=Aside0.mk q1;clear q0 q1
    go_upto_region 14 with (first
     | (go_at_call 102;refine (num_calls w0 _ g b s6 0 1099511627776 (by decide) (by decide) (by decide) HS.out (M6.out.1.set HMP.out 2 (.int .i64 cp) (cs2:=MVc { zMsg with kind:=k,call:=x,name:=t,err:=er,cap:=cp } none 0) rfl).st).mono ?_;rintro e w9 ⟨rc,s7,rfl,h1,p1,k1,-,-⟩;have M7:=Aside0.mk (And.intro ((M6.out.1.set HMP.out 2 (.int .i64 cp) (cs2:=MVc { zMsg with kind:=k,call:=x,name:=t,err:=er,cap:=cp } none 0) rfl).call HMP.out h1 k1) p1);clear h1 p1 k1 kc2 kf2;have kc3:w9.cell? ⟨gb,3,none⟩=some (.int .i64 0):=(blk_cell M7.out.1.box 3).trans rfl;have kf3:=blk_frozen M7.out.1.box 3)
     | (go_at_call 102;refine (num_calls w0 _ g b s4 1 1099511627776 (by decide) (by decide) (by decide) HS.out M5.out.st).mono ?_;rintro e w8 ⟨cp,s6,rfl,h1,p1,k1,-,-⟩;have M6:=Aside0.mk (And.intro (M5.out.call HMP.out h1 k1) p1);clear h1 p1 k1 ke;have kc2:w8.cell? ⟨gb,2,none⟩=some (.int .i64 0):=(blk_cell M6.out.1.box 2).trans rfl;have kf2:=blk_frozen M6.out.1.box 2))
    clear kc3 kf3;have MZ:Aside0 (MX w0 w _ g gb b s7 (MVc (mTold k x t er ⟨cp,rc⟩) none 0)):=⟨(M7.out.1.set HMP.out 3 (.int .i64 rc) (cs2:=MVc (mTold k x t er ⟨cp,rc⟩) none 0) rfl)⟩;go_wp2_with ((with_reducible refine gate_dst (N:=43) rfl ?_);refine wpList_load_row rfl 33 (.tmp 3) rfl gb (by rfl) 33 (MVc (mTold k x t er ⟨cp,rc⟩) none 0) (0,0) _ MZ.out.box hu33 rfl inf33 ?_;go_loud (refine wpList_store_row rfl 33 (.tmp 2) (.tmp 43) rfl w.heap.size (MVc (mTold k x t er ⟨cp,rc⟩) none 0) (by rfl) (by rfl) 33 _ MZ.out.res inf33 rfl (mv_one _ _ _) ?_))
    refine bodyPost_ret (results_cell_row rfl _ _ w.heap.size 33 _ (0,0) _ (by rfl) (MZ.out.done HMP.out _).2.2 hu33 rfl inf33) rfl ?_;exact MZ.out.end_ HMP.out _ rfl (HK.out.1.bnd (show Post (restP k) s1 (mTold k x t er (⟨cp,rc⟩:S25)) s7 from by unfold restP;rw[if_neg HKI.out.1,if_pos HKI.out.2];exact M2.out.2.bnd (M3.out.2.bnd (M4.out.2.bnd ((opt_yes (Or.inr HQ0.out) (cap_post M6.out.2 M7.out.2):Post (optP (capped er) z25 capP) s4 (⟨cp,rc⟩:S25) s7).bnd (Post.ret _ _))))))
   ·have e1:(er == 101)=false:=by simp[q1]
    have HQ0:Aside0 (¬capped er):=⟨fun h=>h.elim q0 q1⟩;clear q0 q1;go_upto_region 14 with fail
    clear ke;have MZ:Aside0 (MX w0 w _ g gb b s4 (MVc (mTold k x t er z25) none 0)):=⟨M5.out⟩;go_wp2_with ((with_reducible refine gate_dst (N:=43) rfl ?_);refine wpList_load_row rfl 33 (.tmp 3) rfl gb (by rfl) 33 (MVc (mTold k x t er z25) none 0) (0,0) _ MZ.out.box hu33 rfl inf33 ?_;go_loud (refine wpList_store_row rfl 33 (.tmp 2) (.tmp 43) rfl w.heap.size (MVc (mTold k x t er z25) none 0) (by rfl) (by rfl) 33 _ MZ.out.res inf33 rfl (mv_one _ _ _) ?_))
    refine bodyPost_ret (results_cell_row rfl _ _ w.heap.size 33 _ (0,0) _ (by rfl) (MZ.out.done HMP.out _).2.2 hu33 rfl inf33) rfl ?_;exact MZ.out.end_ HMP.out _ rfl (HK.out.1.bnd (show Post (restP k) s1 (mTold k x t er z25) s4 from by unfold restP;rw[if_neg HKI.out.1,if_pos HKI.out.2];exact M2.out.2.bnd (M3.out.2.bnd (M4.out.2.bnd ((opt_no HQ0.out:Post (optP (capped er) z25 capP) s4 z25 s4).bnd (Post.ret _ _))))))
  have t2:(k == 2)=false:=by simp[k2]
  by_cases k10:k=10
  ·have t10:(k == 10)=true:=by simp[k10]
   have HKI:=Aside0.mk (And.intro k1 (And.intro k2 k10));clear k1 k2 k10;go_upto_region 17 with (go_at_call 116;refine (rviews_calls w0 _ g b s1 HS.out M1.out.st).mono ?_;rintro e w4 ⟨l,s2,v,rfl,h1,p1,k1,hR⟩;obtain ⟨A,c,rfl⟩:=Kd.R_slice hR;have M2:=Aside0.mk (And.intro (M1.out.call HMP.out h1 k1) (And.intro p1 (And.intro hR (And.intro (blk_lt M1.out.box) (And.intro (blk_lt M1.out.res) k1.1)))));clear h1 p1 k1 hR kk;have kc19:w4.cell? ⟨gb,19,none⟩=some (.slice none 0 0):=(blk_cell M2.out.1.box 19).trans rfl;have kf19:=blk_frozen M2.out.1.box 19)
   clear kc19 kf19;have MZ:Aside0 (MX w0 w (w4.setCell ⟨gb,19,none⟩ (.slice A l.length c)) g gb b s2 (MVc (mDig k l) A c)):=⟨M2.out.1.set HMP.out 19 _ rfl⟩;go_wp2_with ((with_reducible refine gate_dst (N:=49) rfl ?_);refine wpList_load_row rfl 33 (.tmp 3) rfl gb (by rfl) 33 (MVc (mDig k l) A c) (0,0) _ MZ.out.box hu33 rfl inf33 ?_;go_loud (refine wpList_store_row rfl 33 (.tmp 2) (.tmp 49) rfl w.heap.size (MVc (mDig k l) A c) (by rfl) (by rfl) 33 _ MZ.out.res inf33 rfl (mv_one _ _ _) ?_))
   refine bodyPost_ret (results_cell_row rfl _ _ w.heap.size 33 _ (0,0) _ (by rfl) (MZ.out.done HMP.out _).2.2 hu33 rfl inf33) rfl ?_;refine ⟨mDig k l,s2,A,c,rfl,(MZ.out.done HMP.out _).1,HK.out.1.bnd (show Post (restP k) s1 (mDig k l) s2 from by unfold restP;rw[if_neg HKI.out.1,if_neg HKI.out.2.1,if_pos HKI.out.2.2];exact M2.out.2.1.bnd (Post.ret _ _)),(MZ.out.done HMP.out _).2.1,?_⟩;have h5:w3.heap.size≤w4.heap.size∧gb<w3.heap.size∧w.heap.size<w3.heap.size:=⟨M2.out.2.2.2.2.2,M2.out.2.2.2.1,M2.out.2.2.2.2.1⟩;refine Kd.R_mono (Kd.R_lower (R_step' M2.out.2.2.1 (fun k hk=>?_)) (Nat.le_of_lt h5.2.2)) (fun k hk=>⟨by omega,by rw[size_setRow];simpa [World.setCell] using hk.2⟩);exact (setRow_far (by omega) _).trans (Below.heap_setCell w4 ⟨gb,19,none⟩ _ k (by show k≠gb;omega))
  have t10:(k == 10)=false:=by simp[k10]
  have HKI:=Aside0.mk (And.intro k1 (And.intro k2 k10));clear k1 k2 k10
  go_upto_region 21 with (first
   | (go_at_call 102;refine (num_calls w0 _ g b s3 0 1099511627776 (by decide) (by decide) (by decide) HS.out (M3.out.1.set HMP.out 2 (.int .i64 cp) (cs2:=MVc { zMsg with kind:=k,name:=t,cap:=cp } none 0) rfl).st).mono ?_;rintro e w6 ⟨rc,s4,rfl,h1,p1,k1,-,-⟩;have M4:=Aside0.mk (And.intro ((M3.out.1.set HMP.out 2 (.int .i64 cp) (cs2:=MVc { zMsg with kind:=k,name:=t,cap:=cp } none 0) rfl).call HMP.out h1 k1) p1);clear h1 p1 k1 kc2 kf2;have kc3:w6.cell? ⟨gb,3,none⟩=some (.int .i64 0):=(blk_cell M4.out.1.box 3).trans rfl;have kf3:=blk_frozen M4.out.1.box 3)
   | (go_at_call 102;refine (num_calls w0 _ g b s2 1 1099511627776 (by decide) (by decide) (by decide) HS.out (M2.out.1.set HMP.out 1 (.string t) (cs2:=MVc { zMsg with kind:=k,name:=t } none 0) rfl).st).mono ?_;rintro e w5 ⟨cp,s3,rfl,h1,p1,k1,-,-⟩;have M3:=Aside0.mk (And.intro ((M2.out.1.set HMP.out 1 (.string t) (cs2:=MVc { zMsg with kind:=k,name:=t } none 0) rfl).call HMP.out h1 k1) p1);clear h1 p1 k1 kc1 kf1;have kc2:w5.cell? ⟨gb,2,none⟩=some (.int .i64 0):=(blk_cell M3.out.1.box 2).trans rfl;have kf2:=blk_frozen M3.out.1.box 2)
   | (go_at_call 115;refine (name_calls w0 _ g b s1 ⟨#[]⟩ HS.out M1.out.st).mono ?_;rintro e w4 ⟨t,s2,rfl,h1,p1,k1⟩;have M2:=Aside0.mk (And.intro (M1.out.call HMP.out h1 k1) p1);clear h1 p1 k1 kk;have kc1:w4.cell? ⟨gb,1,none⟩=some (.string ⟨#[]⟩):=(blk_cell M2.out.1.box 1).trans rfl;have kf1:=blk_frozen M2.out.1.box 1))
  clear kc3 kf3;obtain ⟨w7,hw7⟩:∃ w7,w7=w6.setCell ⟨gb,3,none⟩ (.int .i64 rc):=⟨_,rfl⟩;have M5:Aside0 (MX w0 w w7 g gb b s4 (MVc (mOf k t ⟨cp,rc⟩ z25 z25 z25 0) none 0)):=⟨by rw[hw7];exact (M4.out.1.set HMP.out 3 (.int .i64 rc) (cs2:=MVc (mOf k t ⟨cp,rc⟩ z25 z25 z25 0) none 0) rfl)⟩;rw[←hw7];clear hw7;have HPF:Aside0 (∀ (ep ov rt:S25) (h:Int) (s5 s6 s7 s8:R Unit),Post (optP (hasEp k) z25 epochP) s4 ep s5→Post (optP (k=7) z25 epochP) s5 ov s6→Post (optP (hasRt k) z25 rightsP) s6 rt s7→Post (optP (k=4) 0 (numP 0 big)) s7 h s8→Post (restP k) s1 (mOf k t ⟨cp,rc⟩ ep ov rt h) s8):=⟨fun ep ov rt h s5 s6 s7 s8 h1 h2 h3 h4=>by rw[rest_of HKI.out.1 HKI.out.2.1 HKI.out.2.2];exact of_post M2.out.2 (cap_post M3.out.2 M4.out.2) h1 h2 h3 h4⟩
  have HB0:Aside0 (k=0 → ∃ n,s1 = .bad n∧s4 = .bad n):=⟨fun h0=>by
   have h1:=HK.out.1;rw[h0] at h1;obtain ⟨n,hn⟩:=kind_bad h1;have h2:=M2.out.2;have h3:=M3.out.2;have h4:=M4.out.2;rw[hn] at h2;rw[bad_post h2] at h3;rw[bad_post h3] at h4;exact ⟨n,hn,bad_post h4⟩⟩
  have hk7:k=3∨k=4∨(k=0∨k=5∨k=6)∨k=7∨(k=8∨k=9):=by have:=HK.out.2;have:=HKI.out;omega
  have kk:w7.cell? ⟨gb,0,none⟩=some (.int .i64 k):=(blk_cell M5.out.box 0).trans rfl;clear M1 M2 M3 M4;rcases hk7 with hk|hk|hk|hk|hk
  ·have l7:k≤7:=by omega
   have e7:(k == 7)=false:=by simp[hk]
   have e3:(k == 3)=true:=by simp[hk]
   have e4:(k == 4)=false:=by simp[hk]
   have HKK:=Aside0.mk hk;clear hk
   go_upto_region 30 with (first
    | (go_at_call 117;refine (epoch_calls w0 _ g b s4 HS.out M5.out.st).mono ?_;rintro e w8 ⟨ep,s6,rfl,h1,p1,k1⟩;have M6:=Aside0.mk (And.intro (M5.out.call HMP.out h1 k1) p1);clear h1 p1 k1 kk;have kc4:w8.cell? ⟨gb,4,none⟩=some (.int .i64 0):=(blk_cell M6.out.1.box 4).trans rfl;have kf4:=blk_frozen M6.out.1.box 4;have kc5:w8.cell? ⟨gb,5,none⟩=some (.int .i64 0):=(blk_cell M6.out.1.box 5).trans rfl;have kf5:=blk_frozen M6.out.1.box 5;have kk:w8.cell? ⟨gb,0,none⟩=some (.int .i64 k):=(blk_cell M6.out.1.box 0).trans rfl))
   clear kc4 kf4 kc5 kf5 kk;have MZ:Aside0 (MX w0 w _ g gb b s6 (MVc (mOf k t ⟨cp,rc⟩ ep z25 z25 0) none 0)):=⟨((M6.out.1.set HMP.out 4 (.int .i64 ep.f0) rfl).set HMP.out 5 (.int .i64 ep.f1) (cs2:=MVc (mOf k t ⟨cp,rc⟩ ep z25 z25 0) none 0) rfl)⟩;go_wp2_with ((with_reducible refine gate_dst (N:=84) rfl ?_);refine wpList_load_row rfl 33 (.tmp 3) rfl gb (by rfl) 33 (MVc (mOf k t ⟨cp,rc⟩ ep z25 z25 0) none 0) (0,0) _ MZ.out.box hu33 rfl inf33 ?_;go_loud (refine wpList_store_row rfl 33 (.tmp 2) (.tmp 84) rfl w.heap.size (MVc (mOf k t ⟨cp,rc⟩ ep z25 z25 0) none 0) (by rfl) (by rfl) 33 _ MZ.out.res inf33 rfl (mv_one _ _ _) ?_))
   refine bodyPost_ret (results_cell_row rfl _ _ w.heap.size 33 _ (0,0) _ (by rfl) (MZ.out.done HMP.out _).2.2 hu33 rfl inf33) rfl ?_;exact MZ.out.end_ HMP.out _ rfl (HK.out.1.bnd (HPF.out ep z25 z25 0 _ _ _ _ (opt_yes (by simp[hasEp,HKK.out]) M6.out.2) (opt_no (by simp[HKK.out])) (opt_no (by simp[hasRt,HKK.out])) (opt_no (by simp[HKK.out]))))
  ·have l7:k≤7:=by omega
   have e7:(k == 7)=false:=by simp[hk]
   have e3:(k == 3)=false:=by simp[hk]
   have e4:(k == 4)=true:=by simp[hk]
   have HKK:=Aside0.mk hk;clear hk
   go_upto_region 30 with (first
    | (go_at_call 102;refine (num_calls w0 _ g b s7 0 1099511627776 (by decide) (by decide) (by decide) HS.out ((M7.out.1.set HMP.out 8 (.int .i64 rt.f0) rfl).set HMP.out 9 (.int .i64 rt.f1) (cs2:=MVc (mOf k t ⟨cp,rc⟩ ep z25 rt 0) none 0) rfl).st).mono ?_;rintro e w10 ⟨h,s8,rfl,h1,p1,k1,-,-⟩;have M8:=Aside0.mk (And.intro (((M7.out.1.set HMP.out 8 (.int .i64 rt.f0) rfl).set HMP.out 9 (.int .i64 rt.f1) (cs2:=MVc (mOf k t ⟨cp,rc⟩ ep z25 rt 0) none 0) rfl).call HMP.out h1 k1) p1);clear h1 p1 k1 kc8 kf8 kc9 kf9 kk;have kc10:w10.cell? ⟨gb,10,none⟩=some (.int .i64 0):=(blk_cell M8.out.1.box 10).trans rfl;have kf10:=blk_frozen M8.out.1.box 10;have kk:w10.cell? ⟨gb,0,none⟩=some (.int .i64 k):=(blk_cell M8.out.1.box 0).trans rfl)
    | (go_at_call 118;refine (rights_calls w0 _ g b s6 HS.out ((M6.out.1.set HMP.out 4 (.int .i64 ep.f0) rfl).set HMP.out 5 (.int .i64 ep.f1) (cs2:=MVc (mOf k t ⟨cp,rc⟩ ep z25 z25 0) none 0) rfl).st).mono ?_;rintro e w9 ⟨rt,s7,rfl,h1,p1,k1⟩;have M7:=Aside0.mk (And.intro (((M6.out.1.set HMP.out 4 (.int .i64 ep.f0) rfl).set HMP.out 5 (.int .i64 ep.f1) (cs2:=MVc (mOf k t ⟨cp,rc⟩ ep z25 z25 0) none 0) rfl).call HMP.out h1 k1) p1);clear h1 p1 k1 kc4 kf4 kc5 kf5 kk;have kc8:w9.cell? ⟨gb,8,none⟩=some (.int .i64 0):=(blk_cell M7.out.1.box 8).trans rfl;have kf8:=blk_frozen M7.out.1.box 8;have kc9:w9.cell? ⟨gb,9,none⟩=some (.int .i64 0):=(blk_cell M7.out.1.box 9).trans rfl;have kf9:=blk_frozen M7.out.1.box 9;have kk:w9.cell? ⟨gb,0,none⟩=some (.int .i64 k):=(blk_cell M7.out.1.box 0).trans rfl)
    | (go_at_call 117;refine (epoch_calls w0 _ g b s4 HS.out M5.out.st).mono ?_;rintro e w8 ⟨ep,s6,rfl,h1,p1,k1⟩;have M6:=Aside0.mk (And.intro (M5.out.call HMP.out h1 k1) p1);clear h1 p1 k1 kk;have kc4:w8.cell? ⟨gb,4,none⟩=some (.int .i64 0):=(blk_cell M6.out.1.box 4).trans rfl;have kf4:=blk_frozen M6.out.1.box 4;have kc5:w8.cell? ⟨gb,5,none⟩=some (.int .i64 0):=(blk_cell M6.out.1.box 5).trans rfl;have kf5:=blk_frozen M6.out.1.box 5;have kk:w8.cell? ⟨gb,0,none⟩=some (.int .i64 k):=(blk_cell M6.out.1.box 0).trans rfl))
   clear kc10 kf10 kk;have MZ:Aside0 (MX w0 w _ g gb b s8 (MVc (mOf k t ⟨cp,rc⟩ ep z25 rt h) none 0)):=⟨(M8.out.1.set HMP.out 10 (.int .i64 h) (cs2:=MVc (mOf k t ⟨cp,rc⟩ ep z25 rt h) none 0) rfl)⟩;go_wp2_with ((with_reducible refine gate_dst (N:=84) rfl ?_);refine wpList_load_row rfl 33 (.tmp 3) rfl gb (by rfl) 33 (MVc (mOf k t ⟨cp,rc⟩ ep z25 rt h) none 0) (0,0) _ MZ.out.box hu33 rfl inf33 ?_;go_loud (refine wpList_store_row rfl 33 (.tmp 2) (.tmp 84) rfl w.heap.size (MVc (mOf k t ⟨cp,rc⟩ ep z25 rt h) none 0) (by rfl) (by rfl) 33 _ MZ.out.res inf33 rfl (mv_one _ _ _) ?_))
   refine bodyPost_ret (results_cell_row rfl _ _ w.heap.size 33 _ (0,0) _ (by rfl) (MZ.out.done HMP.out _).2.2 hu33 rfl inf33) rfl ?_;exact MZ.out.end_ HMP.out _ rfl (HK.out.1.bnd (HPF.out ep z25 rt h _ _ _ _ (opt_yes (by simp[hasEp,HKK.out]) M6.out.2) (opt_no (by simp[HKK.out])) (opt_yes (by simp[hasRt,HKK.out]) M7.out.2) (opt_yes HKK.out (held_post M8.out.2))))
  ·have l7:k≤7:=by omega
   have e7:(k == 7)=false:=by simp;omega
   have e3:(k == 3)=false:=by simp;omega
   have e4:(k == 4)=false:=by simp;omega
   have HKK:=Aside0.mk hk;clear hk
   go_upto_region 30 with (first
    | (go_at_call 118;refine (rights_calls w0 _ g b s6 HS.out ((M6.out.1.set HMP.out 4 (.int .i64 ep.f0) rfl).set HMP.out 5 (.int .i64 ep.f1) (cs2:=MVc (mOf k t ⟨cp,rc⟩ ep z25 z25 0) none 0) rfl).st).mono ?_;rintro e w9 ⟨rt,s7,rfl,h1,p1,k1⟩;have M7:=Aside0.mk (And.intro (((M6.out.1.set HMP.out 4 (.int .i64 ep.f0) rfl).set HMP.out 5 (.int .i64 ep.f1) (cs2:=MVc (mOf k t ⟨cp,rc⟩ ep z25 z25 0) none 0) rfl).call HMP.out h1 k1) p1);clear h1 p1 k1 kc4 kf4 kc5 kf5 kk;have kc8:w9.cell? ⟨gb,8,none⟩=some (.int .i64 0):=(blk_cell M7.out.1.box 8).trans rfl;have kf8:=blk_frozen M7.out.1.box 8;have kc9:w9.cell? ⟨gb,9,none⟩=some (.int .i64 0):=(blk_cell M7.out.1.box 9).trans rfl;have kf9:=blk_frozen M7.out.1.box 9;have kk:w9.cell? ⟨gb,0,none⟩=some (.int .i64 k):=(blk_cell M7.out.1.box 0).trans rfl)
    | (go_at_call 117;refine (epoch_calls w0 _ g b s4 HS.out M5.out.st).mono ?_;rintro e w8 ⟨ep,s6,rfl,h1,p1,k1⟩;have M6:=Aside0.mk (And.intro (M5.out.call HMP.out h1 k1) p1);clear h1 p1 k1 kk;have kc4:w8.cell? ⟨gb,4,none⟩=some (.int .i64 0):=(blk_cell M6.out.1.box 4).trans rfl;have kf4:=blk_frozen M6.out.1.box 4;have kc5:w8.cell? ⟨gb,5,none⟩=some (.int .i64 0):=(blk_cell M6.out.1.box 5).trans rfl;have kf5:=blk_frozen M6.out.1.box 5;have kk:w8.cell? ⟨gb,0,none⟩=some (.int .i64 k):=(blk_cell M6.out.1.box 0).trans rfl))
   clear kc8 kf8 kc9 kf9 kk;have MZ:Aside0 (MX w0 w _ g gb b s7 (MVc (mOf k t ⟨cp,rc⟩ ep z25 rt 0) none 0)):=⟨((M7.out.1.set HMP.out 8 (.int .i64 rt.f0) rfl).set HMP.out 9 (.int .i64 rt.f1) (cs2:=MVc (mOf k t ⟨cp,rc⟩ ep z25 rt 0) none 0) rfl)⟩;go_wp2_with ((with_reducible refine gate_dst (N:=84) rfl ?_);refine wpList_load_row rfl 33 (.tmp 3) rfl gb (by rfl) 33 (MVc (mOf k t ⟨cp,rc⟩ ep z25 rt 0) none 0) (0,0) _ MZ.out.box hu33 rfl inf33 ?_;go_loud (refine wpList_store_row rfl 33 (.tmp 2) (.tmp 84) rfl w.heap.size (MVc (mOf k t ⟨cp,rc⟩ ep z25 rt 0) none 0) (by rfl) (by rfl) 33 _ MZ.out.res inf33 rfl (mv_one _ _ _) ?_))
   refine bodyPost_ret (results_cell_row rfl _ _ w.heap.size 33 _ (0,0) _ (by rfl) (MZ.out.done HMP.out _).2.2 hu33 rfl inf33) rfl ?_
   exact MZ.out.end_ HMP.out _ rfl (HK.out.1.bnd (by
    by_cases h0:k=0
    ·obtain ⟨n,e1,e4⟩:=HB0.out h0;have h6:=M6.out.2;have h7:=M7.out.2;rw[e4] at h6;rw[bad_post h6] at h7;rw[bad_post h7,e1];rfl
    ·have hk:=HKK.out;exact HPF.out ep z25 rt 0 _ _ _ _ (opt_yes (by unfold hasEp;omega) M6.out.2) (opt_no (by omega)) (opt_yes (by unfold hasRt;omega) M7.out.2) (opt_no (by omega))))
  ·have l7:k≤7:=by omega
   have e7:(k == 7)=true:=by simp[hk]
   have HKK:=Aside0.mk hk;clear hk
   go_upto_region 25 with (first
    | (go_at_call 117;refine (epoch_calls w0 _ g b s6 HS.out ((M6.out.1.set HMP.out 4 (.int .i64 ep.f0) rfl).set HMP.out 5 (.int .i64 ep.f1) (cs2:=MVc (mOf k t ⟨cp,rc⟩ ep z25 z25 0) none 0) rfl).st).mono ?_;rintro e w9 ⟨ov,s7,rfl,h1,p1,k1⟩;have M7:=Aside0.mk (And.intro (((M6.out.1.set HMP.out 4 (.int .i64 ep.f0) rfl).set HMP.out 5 (.int .i64 ep.f1) (cs2:=MVc (mOf k t ⟨cp,rc⟩ ep z25 z25 0) none 0) rfl).call HMP.out h1 k1) p1);clear h1 p1 k1 kc4 kf4 kc5 kf5 kk;have kc6:w9.cell? ⟨gb,6,none⟩=some (.int .i64 0):=(blk_cell M7.out.1.box 6).trans rfl;have kf6:=blk_frozen M7.out.1.box 6;have kc7:w9.cell? ⟨gb,7,none⟩=some (.int .i64 0):=(blk_cell M7.out.1.box 7).trans rfl;have kf7:=blk_frozen M7.out.1.box 7;have kk:w9.cell? ⟨gb,0,none⟩=some (.int .i64 k):=(blk_cell M7.out.1.box 0).trans rfl)
    | (go_at_call 117;refine (epoch_calls w0 _ g b s4 HS.out M5.out.st).mono ?_;rintro e w8 ⟨ep,s6,rfl,h1,p1,k1⟩;have M6:=Aside0.mk (And.intro (M5.out.call HMP.out h1 k1) p1);clear h1 p1 k1 kk;have kc4:w8.cell? ⟨gb,4,none⟩=some (.int .i64 0):=(blk_cell M6.out.1.box 4).trans rfl;have kf4:=blk_frozen M6.out.1.box 4;have kc5:w8.cell? ⟨gb,5,none⟩=some (.int .i64 0):=(blk_cell M6.out.1.box 5).trans rfl;have kf5:=blk_frozen M6.out.1.box 5;have kk:w8.cell? ⟨gb,0,none⟩=some (.int .i64 k):=(blk_cell M6.out.1.box 0).trans rfl))
   clear kc6 kf6 kc7 kf7 kk;have MZ:Aside0 (MX w0 w _ g gb b s7 (MVc (mOf k t ⟨cp,rc⟩ ep ov z25 0) none 0)):=⟨((M7.out.1.set HMP.out 6 (.int .i64 ov.f0) rfl).set HMP.out 7 (.int .i64 ov.f1) (cs2:=MVc (mOf k t ⟨cp,rc⟩ ep ov z25 0) none 0) rfl)⟩;go_wp2_with ((with_reducible refine gate_dst (N:=71) rfl ?_);refine wpList_load_row rfl 33 (.tmp 3) rfl gb (by rfl) 33 (MVc (mOf k t ⟨cp,rc⟩ ep ov z25 0) none 0) (0,0) _ MZ.out.box hu33 rfl inf33 ?_;go_loud (refine wpList_store_row rfl 33 (.tmp 2) (.tmp 71) rfl w.heap.size (MVc (mOf k t ⟨cp,rc⟩ ep ov z25 0) none 0) (by rfl) (by rfl) 33 _ MZ.out.res inf33 rfl (mv_one _ _ _) ?_))
   refine bodyPost_ret (results_cell_row rfl _ _ w.heap.size 33 _ (0,0) _ (by rfl) (MZ.out.done HMP.out _).2.2 hu33 rfl inf33) rfl ?_;exact MZ.out.end_ HMP.out _ rfl (HK.out.1.bnd (HPF.out ep ov z25 0 _ _ _ _ (opt_yes (by simp[hasEp,HKK.out]) M6.out.2) (opt_yes HKK.out M7.out.2) (opt_no (by simp[hasRt,HKK.out])) (opt_no (by simp[HKK.out]))))
  ·have l7:¬k≤7:=by omega
   have e7:(k == 7)=false:=by simp;omega
   have e3:(k == 3)=false:=by simp;omega
   have e4:(k == 4)=false:=by simp;omega
   have HKK:=Aside0.mk hk;clear hk
   go_upto_region 30 with (first
    | (go_at_call 118;refine (rights_calls w0 _ g b s4 HS.out M5.out.st).mono ?_;rintro e w8 ⟨rt,s6,rfl,h1,p1,k1⟩;have M6:=Aside0.mk (And.intro (M5.out.call HMP.out h1 k1) p1);clear h1 p1 k1 kk;have kc8:w8.cell? ⟨gb,8,none⟩=some (.int .i64 0):=(blk_cell M6.out.1.box 8).trans rfl;have kf8:=blk_frozen M6.out.1.box 8;have kc9:w8.cell? ⟨gb,9,none⟩=some (.int .i64 0):=(blk_cell M6.out.1.box 9).trans rfl;have kf9:=blk_frozen M6.out.1.box 9;have kk:w8.cell? ⟨gb,0,none⟩=some (.int .i64 k):=(blk_cell M6.out.1.box 0).trans rfl))
   clear kc8 kf8 kc9 kf9 kk;have MZ:Aside0 (MX w0 w _ g gb b s6 (MVc (mOf k t ⟨cp,rc⟩ z25 z25 rt 0) none 0)):=⟨((M6.out.1.set HMP.out 8 (.int .i64 rt.f0) rfl).set HMP.out 9 (.int .i64 rt.f1) (cs2:=MVc (mOf k t ⟨cp,rc⟩ z25 z25 rt 0) none 0) rfl)⟩;go_wp2_with ((with_reducible refine gate_dst (N:=84) rfl ?_);refine wpList_load_row rfl 33 (.tmp 3) rfl gb (by rfl) 33 (MVc (mOf k t ⟨cp,rc⟩ z25 z25 rt 0) none 0) (0,0) _ MZ.out.box hu33 rfl inf33 ?_;go_loud (refine wpList_store_row rfl 33 (.tmp 2) (.tmp 84) rfl w.heap.size (MVc (mOf k t ⟨cp,rc⟩ z25 z25 rt 0) none 0) (by rfl) (by rfl) 33 _ MZ.out.res inf33 rfl (mv_one _ _ _) ?_))
   refine bodyPost_ret (results_cell_row rfl _ _ w.heap.size 33 _ (0,0) _ (by rfl) (MZ.out.done HMP.out _).2.2 hu33 rfl inf33) rfl ?_
   exact MZ.out.end_ HMP.out _ rfl (HK.out.1.bnd (by
    have hk:=HKK.out;exact HPF.out z25 z25 rt 0 _ _ _ _ (opt_no (by unfold hasEp;omega)) (opt_no (by omega)) (opt_yes (by unfold hasRt;omega) M6.out.2) (opt_no (by omega))))
end Go.Proofs.Ytpgdmmjbhjbbhaa.Rf
end
section
namespace Go.Proofs.Ytpgdmmjbhjbbhaa.Rf
open Go Go.RowKit P Sp Vd En Wr Lw YtpgdmmjbhjbbhaaW.PrintWords YtpgdmmjbhjbbhaaW.PrintLast YtpgdmmjbhjbbhaaW.PrintMore
open Go.Proofs.Ytpgdmmjbhjbbhaa.Rd (pl In setRow_far setRow_blk CVc OVc DecQP results_two_two blk_as)
theorem done_whole {α:Type} {p:Rdr α} {b:List Int} {x:α} {s:R Unit} (h:Post p (.ok () b) x s) (z:α):(doneV b s=(0,0)∧whole z p b=(x,0,0)) ∨ ∃ pt,doneV b s=(pt,20)∧whole z p b=(z,pt,20):=by
 simp only[Post] at h;unfold whole;cases hp:p b with
 | bad n=>
  rw[hp] at h;subst h;exact .inr ⟨_,rfl,rfl⟩
 | ok y r=>
  rw[hp] at h;simp only at h;obtain ⟨rfl,rfl⟩:=h;cases r with
  | nil=>exact .inl ⟨rfl,rfl⟩
  | cons c l=>
   refine .inr ⟨_,rfl,?_⟩;simp only[pl,List.length_cons]
   push_cast
   rfl
theorem RSt.new {w W:World} {A:Option Addr} {c:Nat} {b:List Int} (hB:Below w.heap.size w W) (hc:b.length≤c) (hC:Kd.C (Kd.int .u8) w A b.length b) {g:Nat} {W1:World} (hb:W1.heap[g]?=some (.cells #[.slice A b.length c,.int .i64 0,.bool false] 132 (0,0))) (hg:g=W.heap.size) (h1:Below W.heap.size W W1):RSt w W1 g b (.ok () b):=
 ⟨0,false,⟨A,c,hb,⟨by rw[hg];exact hB.size,hc⟩,hC⟩,⟨rfl,⟨[],rfl⟩,by unfold pl;omega⟩,hB.trans (h1.mono hB.size)⟩
theorem blk_is {w:World} {g:Nat} {t:TypeId} {cs cs2:Array Value} (h:w.heap[g]?=some (.cells cs t (0,0))) (e:cs=cs2):w.heap[g]?=some (.cells cs2 t (0,0)):=e ▸ h
theorem rdecreq_calls (w:World) (A:Option Addr) (c:Nat) (b:List Int) (hi:In w A c b):
  Calls Try.prog 73 #[.slice A b.length c] w fun e w'=>DecQP w (whole (z25,zOp) reqP b) e w':=by
 have HI:=Aside0.mk hi;have HS:Aside0 (Src b):=⟨⟨hi.len,hi.isB⟩⟩;obtain ⟨wa,hwa⟩:∃ wa,wa=(w.alloc (.cells #[.int .i64 0,.int .i64 0] 27 (0,0))).alloc (.cells #[.int .i64 0,.string ⟨#[]⟩,.int .i64 0,.int .i64 0] 29 (0,0)):=⟨_,rfl⟩;have HWA:=Aside0.mk hwa
 have HB:Aside0 (Below w.heap.size w wa∧wa.heap.size=w.heap.size+1+1∧wa.heap[w.heap.size]?=some (.cells (CVc z25) 27 (0,0))∧wa.heap[w.heap.size+1]?=some (.cells (OVc zOp) 29 (0,0))):=⟨by
  rw[hwa];refine ⟨below_al2 w _ _,by simp,(Below.heap_alloc _ _ _ (by simp)).trans (heap_alloc_new w _),?_⟩;have:=heap_alloc_new (w.alloc (.cells #[.int .i64 0,.int .i64 0] 27 (0,0))) (.cells #[.int .i64 0,.string ⟨#[]⟩,.int .i64 0,.int .i64 0] 29 (0,0))
  simpa [OVc,zOp,eB] using this⟩
 have hu29:=Try.underlying29;have hu27:=Try.underlying27;have hne:w.heap.size≠w.heap.size+1:=by omega
 clear hwa hi;go_enter Try.func73,Try.ntmps73
 go_upto_region 1 with fail
 rw[←HWA.out];go_upto_region 2 with ((with_reducible refine gate_dst (N:=13) rfl ?_);refine box_event ?hg (N:=13) ?hd (cs := #[.slice A b.length c,.int .i64 0,.bool false]) (t:=132) ?hr ?_;(case hd=>rfl);(case hg=>rfl);(case hr=>first|(go_simp;done)|(go_simp;rfl));intro g hg w1 hbox hb;have H1:Aside0 (RSt w w1 g b (.ok () b)∧w1.heap[w.heap.size]?=some (.cells (CVc z25) 27 (0,0))∧w1.heap[w.heap.size+1]?=some (.cells (OVc zOp) 29 (0,0))∧w.heap.size+1<g∧g<w1.heap.size):=⟨RSt.new HB.out.1 HI.out.cap HI.out.row hbox hg hb,blk_keep hb HB.out.2.2.1,blk_keep hb HB.out.2.2.2,by rw[hg,HB.out.2.1];omega,blk_lt hbox⟩;clear hg hbox hb)
 have HN:Aside0 (w.heap.size≠g∧w.heap.size+1≠g):=⟨by have:=H1.out.2.2.2.1;omega⟩
 go_upto_region 3 with (first
  | (go_at_call 104;refine (call_calls w _ g b _ HS.out H1.out.1).mono ?_;rintro e w2 ⟨x,s1,rfl,h1,p1,k1⟩;have H2:Aside0 (RSt w w2 g b s1∧Post callP (.ok () b) x s1∧w2.heap[w.heap.size]?=some (.cells (CVc z25) 27 (0,0))∧w2.heap[w.heap.size+1]?=some (.cells (OVc zOp) 29 (0,0))):=⟨h1,p1,kb1 k1 HN.out.1 H1.out.2.1,kb1 k1 HN.out.2 H1.out.2.2.1⟩;clear h1 p1 k1)
  | ((with_reducible refine gate_dst (N:=7) rfl ?_);refine box_event ?hg (N:=7) ?hd (cs := #[.int .i64 0,.int .i64 0]) (t:=27) ?hr ?_;(case hd=>rfl);(case hg=>rfl);(case hr=>first|(go_simp;done)|(go_simp;rfl));intro gc hg w3 hbox hb;have HG:Aside0 (w.heap.size+1<gc∧gc≠g∧w.heap.size≤gc):=⟨by have:=H1.out.2.2.2.1;have:=H2.out.1.lt;omega⟩;have H3:=Aside0.mk (And.intro (H2.out.1.below hb) (And.intro (blk_keep hb H2.out.2.2.1) (And.intro (blk_keep hb H2.out.2.2.2) hbox)));clear hg hb hbox;go_loud (refine wpList_store_row rfl 27 (.tmp 7) (.tmp 15) rfl gc (CVc x) (by rfl) (by rfl) 27 _ H3.out.2.2.2 inf27 rfl (by simp[CVc,Value.oneCell']) ?_)))
 obtain ⟨w4,hw4⟩:∃ w4,w4=w3.setRow gc (CVc x):=⟨_,rfl⟩
 have H4:Aside0 (RSt w w4 g b s1∧w4.heap[w.heap.size]?=some (.cells (CVc z25) 27 (0,0))∧w4.heap[w.heap.size+1]?=some (.cells (OVc zOp) 29 (0,0))∧w4.heap[gc]?=some (.cells (CVc x) 27 (0,0))):=⟨by
  rw[hw4];exact ⟨H3.out.1.row HG.out.2.1 HG.out.2.2 _,(setRow_far (by have:=HG.out.1;omega) _).trans H3.out.2.1,(setRow_far (by have:=HG.out.1;omega) _).trans H3.out.2.2.1,setRow_blk H3.out.2.2.2 _⟩⟩
 have HP1:=Aside0.mk H2.out.2.1;(try simp only[Act.put,List.setIfInBounds_toArray,List.set_cons_zero,List.set_cons_succ])
 rw[←hw4];clear hw4 H2 H3 H1
 go_upto_region 4 with (first
  | (go_at_call 105;refine (op_calls w _ g b _ HS.out H4.out.1).mono ?_;rintro e w5 ⟨o,s2,rfl,h1,p1,k1⟩;have H5:Aside0 (RSt w w5 g b s2∧Post opP s1 o s2∧w5.heap[w.heap.size]?=some (.cells (CVc z25) 27 (0,0))∧w5.heap[w.heap.size+1]?=some (.cells (OVc zOp) 29 (0,0))∧w5.heap[gc]?=some (.cells (CVc x) 27 (0,0))):=⟨h1,p1,kb1 k1 HN.out.1 H4.out.2.1,kb1 k1 HN.out.2 H4.out.2.2.1,kb1 k1 HG.out.2.1 H4.out.2.2.2⟩;clear h1 p1 k1)
  | ((with_reducible refine gate_dst (N:=8) rfl ?_);refine box_event ?hg (N:=8) ?hd (cs := #[.int .i64 0,.string ⟨#[]⟩,.int .i64 0,.int .i64 0]) (t:=29) ?hr ?_;(case hd=>rfl);(case hg=>rfl);(case hr=>first|(go_simp;done)|(go_simp;rfl));intro gd hg w6 hbox hb;have HG2:Aside0 (gc<gd∧gd≠g):=⟨by rw[hg];exact blk_lt H5.out.2.2.2.2,by have:=H5.out.1.lt;omega⟩;have H6:=Aside0.mk (And.intro (H5.out.1.below hb) (And.intro (blk_keep hb H5.out.2.2.1) (And.intro (blk_keep hb H5.out.2.2.2.1) (And.intro (blk_keep hb H5.out.2.2.2.2) hbox))));clear hg hb hbox;go_loud (refine wpList_store_row rfl 29 (.tmp 8) (.tmp 17) rfl gd (OVc o) (by rfl) (by rfl) 29 _ H6.out.2.2.2.2 inf29 rfl (by simp[OVc,Value.oneCell']) ?_)))
 obtain ⟨w7,hw7⟩:∃ w7,w7=w6.setRow gd (OVc o):=⟨_,rfl⟩
 have H7:Aside0 (RSt w w7 g b s2∧w7.heap[w.heap.size]?=some (.cells (CVc z25) 27 (0,0))∧w7.heap[w.heap.size+1]?=some (.cells (OVc zOp) 29 (0,0))∧w7.heap[gc]?=some (.cells (CVc x) 27 (0,0))∧w7.heap[gd]?=some (.cells (OVc o) 29 (0,0))):=⟨by
  rw[hw7];have:=HG.out;have:=HG2.out;exact ⟨H6.out.1.row HG2.out.2 (by omega) _,(setRow_far (by omega) _).trans H6.out.2.1,(setRow_far (by omega) _).trans H6.out.2.2.1,(setRow_far (by omega) _).trans H6.out.2.2.2.1,setRow_blk H6.out.2.2.2.2 _⟩⟩
 have HP:Aside0 (Post reqP (.ok () b) (x,o) s2):=⟨HP1.out.bnd (H5.out.2.1.bnd (Post.ret _ _))⟩;(try simp only[Act.put,List.setIfInBounds_toArray,List.set_cons_zero,List.set_cons_succ])
 rw[←hw7];clear hw7 H4 H5 H6 HP1;obtain ⟨dv,hdv⟩:∃ dv,dv=doneV b s2:=⟨_,rfl⟩;have HDV:=Aside0.mk hdv;clear hdv;go_upto_region 5 with (go_at_call 93;refine (done_calls w _ g b _ HS.out H7.out.1).mono ?_;rintro e w8 ⟨rfl,h1,k1⟩;rw[←HDV.out];have H8:Aside0 (Below w.heap.size w w8∧w8.heap[w.heap.size]?=some (.cells (CVc z25) 27 (0,0))∧w8.heap[w.heap.size+1]?=some (.cells (OVc zOp) 29 (0,0))∧w8.heap[gc]?=some (.cells (CVc x) 27 (0,0))∧w8.heap[gd]?=some (.cells (OVc o) 29 (0,0))):=⟨h1.bel,kb1 k1 HN.out.1 H7.out.2.1,kb1 k1 HN.out.2 H7.out.2.2.1,kb1 k1 HG.out.2.1 H7.out.2.2.2.1,kb1 k1 HG2.out.2 H7.out.2.2.2.2⟩;clear h1 k1)
 obtain ⟨d1,d2⟩:=dv;rcases done_whole HP.out (z25,zOp) with ⟨hd,hW⟩|⟨pt,hd,hW⟩
 ·have hd2:=HDV.out.trans hd
  injection hd2 with e1 e2
  subst e1 e2;have HW:=Aside0.mk hW;clear hd hW;have kc0:w8.cell? ⟨w.heap.size,0,none⟩=some (.int .i64 0):=(blk_cell H8.out.2.1 0).trans rfl;have kcf0:=blk_frozen H8.out.2.1 0;have kc1:w8.cell? ⟨w.heap.size,1,none⟩=some (.int .i64 0):=(blk_cell H8.out.2.1 1).trans rfl;have kcf1:=blk_frozen H8.out.2.1 1;have ko0:w8.cell? ⟨w.heap.size+1,0,none⟩=some (.int .i64 0):=(blk_cell H8.out.2.2.1 0).trans rfl;have kof0:=blk_frozen H8.out.2.2.1 0;have ko1:w8.cell? ⟨w.heap.size+1,1,none⟩=some (.string ⟨#[]⟩):=(blk_cell H8.out.2.2.1 1).trans rfl;have kof1:=blk_frozen H8.out.2.2.1 1;have ko2:w8.cell? ⟨w.heap.size+1,2,none⟩=some (.int .i64 0):=(blk_cell H8.out.2.2.1 2).trans rfl;have kof2:=blk_frozen H8.out.2.2.1 2;have ko3:w8.cell? ⟨w.heap.size+1,3,none⟩=some (.int .i64 0):=(blk_cell H8.out.2.2.1 3).trans rfl;have kof3:=blk_frozen H8.out.2.2.1 3;have kx0:w8.cell? ⟨gc,0,none⟩=some (.int .i64 x.f0):=(blk_cell H8.out.2.2.2.1 0).trans rfl;have kx1:w8.cell? ⟨gc,1,none⟩=some (.int .i64 x.f1):=(blk_cell H8.out.2.2.2.1 1).trans rfl;have ky0:w8.cell? ⟨gd,0,none⟩=some (.int .i64 o.kind):=(blk_cell H8.out.2.2.2.2 0).trans rfl;have ky1:w8.cell? ⟨gd,1,none⟩=some (.string o.name):=(blk_cell H8.out.2.2.2.2 1).trans rfl;have ky2:w8.cell? ⟨gd,2,none⟩=some (.int .i64 o.a):=(blk_cell H8.out.2.2.2.2 2).trans rfl;have ky3:w8.cell? ⟨gd,3,none⟩=some (.int .i64 o.b):=(blk_cell H8.out.2.2.2.2 3).trans rfl;have hn1:w.heap.size≠gc:=by have:=HG.out;omega
  have hn2:w.heap.size+1≠gc:=by have:=HG.out;omega
  have hn3:w.heap.size≠gd:=by have:=HG.out;have:=HG2.out;omega
  have hn4:w.heap.size+1≠gd:=by have:=HG.out;have:=HG2.out;omega
  have hn5:=Ne.symm hn1;have hn6:=Ne.symm hn2;have hn7:=Ne.symm hn3;have hn8:=Ne.symm hn4;have hne2:=Ne.symm hne;go_upto_region 7 with fail
  go_region
  all_goals go_wp2
  all_goals (try simp only[Exit.inBlock,Exit.then])
  all_goals
   have he1:=blk_far (p:=⟨w.heap.size+1,3,none⟩) (blk_far (p:=⟨w.heap.size+1,2,none⟩) (blk_far (p:=⟨w.heap.size+1,1,none⟩) (blk_far (p:=⟨w.heap.size+1,0,none⟩) (blk_set (blk_set H8.out.2.1 0 (.int .i64 x.f0)) 1 (.int .i64 x.f1)) hne (.int .i64 o.kind)) hne (.string o.name)) hne (.int .i64 o.a)) hne (.int .i64 o.b);have he2:=blk_set (blk_set (blk_set (blk_set (blk_far (p:=⟨w.heap.size,1,none⟩) (blk_far (p:=⟨w.heap.size,0,none⟩) H8.out.2.2.1 hne2 (.int .i64 x.f0)) hne2 (.int .i64 x.f1)) 0 (.int .i64 o.kind)) 1 (.string o.name)) 2 (.int .i64 o.a)) 3 (.int .i64 o.b);refine bodyPost_ret (v := .tuple #[.agg (CVc x),.agg (OVc o),.int .i64 0,.int .i64 0]) ?_ rfl ?_
   ·exact results_two_two (fn:=Try.f73) (p:=2) (p2:=3) (q:=4) (r:=5) rfl _ _ w.heap.size (w.heap.size+1) 27 29 _ _ (0,0) (0,0) _ _ (by rfl) (blk_as he1 (cs2:=CVc x) rfl) hu27 rfl inf27 (by rfl) (blk_as he2 (cs2:=OVc o) rfl) hu29 rfl inf29
   refine ⟨Below.drew ((((((H8.out.1.setCell (Nat.le_refl _) _).setCell (Nat.le_refl _) _).setCell (Nat.le_succ _) _).setCell (Nat.le_succ _) _).setCell (Nat.le_succ _) _).setCell (Nat.le_succ _) _),?_⟩;rw[HW.out]
 ·have hd2:=HDV.out.trans hd
  injection hd2 with e1 e2
  subst e1 e2;have HW:=Aside0.mk hW;clear hd hW;have kc0:w8.cell? ⟨w.heap.size,0,none⟩=some (.int .i64 0):=(blk_cell H8.out.2.1 0).trans rfl;have kcf0:=blk_frozen H8.out.2.1 0;have kc1:w8.cell? ⟨w.heap.size,1,none⟩=some (.int .i64 0):=(blk_cell H8.out.2.1 1).trans rfl;have kcf1:=blk_frozen H8.out.2.1 1;have ko0:w8.cell? ⟨w.heap.size+1,0,none⟩=some (.int .i64 0):=(blk_cell H8.out.2.2.1 0).trans rfl;have kof0:=blk_frozen H8.out.2.2.1 0;have ko1:w8.cell? ⟨w.heap.size+1,1,none⟩=some (.string ⟨#[]⟩):=(blk_cell H8.out.2.2.1 1).trans rfl;have kof1:=blk_frozen H8.out.2.2.1 1;have ko2:w8.cell? ⟨w.heap.size+1,2,none⟩=some (.int .i64 0):=(blk_cell H8.out.2.2.1 2).trans rfl;have kof2:=blk_frozen H8.out.2.2.1 2;have ko3:w8.cell? ⟨w.heap.size+1,3,none⟩=some (.int .i64 0):=(blk_cell H8.out.2.2.1 3).trans rfl;have kof3:=blk_frozen H8.out.2.2.1 3;have hne2:=Ne.symm hne;go_wp2
  (try simp only[Exit.inBlock,Exit.then])
  have he1:=blk_far (p:=⟨w.heap.size+1,3,none⟩) (blk_far (p:=⟨w.heap.size+1,2,none⟩) (blk_far (p:=⟨w.heap.size+1,1,none⟩) (blk_far (p:=⟨w.heap.size+1,0,none⟩) (blk_set (blk_set H8.out.2.1 0 (.int .i64 0)) 1 (.int .i64 0)) hne (.int .i64 0)) hne (.string ⟨#[]⟩)) hne (.int .i64 0)) hne (.int .i64 0);have he2:=blk_set (blk_set (blk_set (blk_set (blk_far (p:=⟨w.heap.size,1,none⟩) (blk_far (p:=⟨w.heap.size,0,none⟩) H8.out.2.2.1 hne2 (.int .i64 0)) hne2 (.int .i64 0)) 0 (.int .i64 0)) 1 (.string ⟨#[]⟩)) 2 (.int .i64 0)) 3 (.int .i64 0);refine bodyPost_ret (v := .tuple #[.agg (CVc z25),.agg (OVc zOp),.int .i64 d1,.int .i64 20]) ?_ rfl ?_
  ·exact results_two_two (fn:=Try.f73) (p:=2) (p2:=3) (q:=4) (r:=5) rfl _ _ w.heap.size (w.heap.size+1) 27 29 _ _ (0,0) (0,0) _ _ (by rfl) (blk_is he1 (cs2:=CVc z25) rfl) hu27 rfl inf27 (by rfl) (blk_is he2 (cs2:=OVc zOp) rfl) hu29 rfl inf29
  refine ⟨((((((H8.out.1.setCell (Nat.le_refl _) _).setCell (Nat.le_refl _) _).setCell (Nat.le_succ _) _).setCell (Nat.le_succ _) _).setCell (Nat.le_succ _) _).setCell (Nat.le_succ _) _),?_⟩;rw[HW.out]
end Go.Proofs.Ytpgdmmjbhjbbhaa.Rf
end
