/- texts that the proof needs, laid together by a program of this session. -/
import Derived.Test.YtpgdmmjbhjbbhaaKWireOne9
section
namespace Go.Proofs.Ytpgdmmjbhjbbhaa.Rd
open Go Go.RowKit Go.Proofs.Ytpgdmmjbhjbbhaa.P Go.Proofs.Ytpgdmmjbhjbbhaa.Sp Go.Proofs.Ytpgdmmjbhjbbhaa.Vd Go.Proofs.Ytpgdmmjbhjbbhaa.En Go.Proofs.Ytpgdmmjbhjbbhaa.Wr Go.Proofs.YtpgdmmjbhjbbhaaW.PrintWords Go.Proofs.YtpgdmmjbhjbbhaaW.PrintLast Go.Proofs.YtpgdmmjbhjbbhaaW.PrintMore
set_option linter.unusedVariables false
set_option linter.unusedSimpArgs false
def RVc (r : Rep) : Array Value := #[.int .i64 r.call.f0, .int .i64 r.call.f1, .int .i64 r.err, .int .i64 r.value]
def XR (cb : Nat) (r : Rep) (w : World) : Prop := w.heap[cb]? = some (.cells (RVc r) 50 (0, 0))
theorem stable_XR {n cb : Nat} (h : cb < n) (r : Rep) : Stable n (XR cb r) := fun w1 w2 h3 hk _ => (hk cb (blk_lt h3) (by omega) (by omega)).trans h3
set_option maxHeartbeats 4000000 in
set_option maxRecDepth 100000 in
theorem rep1_calls (w0 w1 : World) (g cb : Nat) (A : Option Addr) (c : Nat) (b : List Int) (hi : In w0 A c b) (h : RS w0 w1 g A c b b) (hne : cb ≠ g) (hge : w0.heap.size ≤ cb) (hy : w1.heap[cb]? = some (.cells (RVc zRep) 50 (0, 0))) :
    Calls Try.prog 86 #[.pointer (some ⟨g, 0, none⟩), .pointer (some ⟨cb, 0, none⟩)] w1 fun e w' => Fld w0 w1 g (fun k => k = cb) A c b (repP b) (YB cb 50 4) (XR cb) e w' := by
  have HI := Aside0.mk hi
  have HNE := Aside0.mk (And.intro hne hge)
  have H0 : Aside0 (Ks (fun k => k = g ∨ k = cb) w1 w1 ∧ RS w0 w1 g A c b b ∧ w1.heap[cb]? = some (.cells (RVc zRep) 50 (0, 0))) := ⟨⟨Nat.le_refl _, fun _ _ _ => rfl⟩, h, hy⟩
  have HP : Aside0 (repP b = (bnd (pairP 0 63 1 1099511627776) fun x => bnd (numP 0 255) fun er => bnd signP fun v => ret ⟨x, er, v⟩) b) := ⟨rfl⟩
  have hu50 := Try.underlying50
  have hu27 := Try.underlying27
  clear hi h hne hge hy
  go_enter Try.func86, Try.ntmps86
  rcases h0 : pairP 0 63 1 1099511627776 b with n0 | ⟨x, l1⟩
  · have HQ : Aside0 (repP b = .bad n0) := ⟨by rw [HP.out, bnd_bad h0]⟩
    go_wp2_with (go_at_call 83; refine (call_calls w0 _ g A c b b HI.out H0.out.2.1).mono ?_; rintro e w2 ⟨hk, hb, hm⟩; simp only [h0, pan] at hm; subst hm; have HE := Aside0.mk (And.intro hk hb); clear hk hb)
    refine ⟨rfl, ⟨HE.out.1.size, fun i hi hs => HE.out.1.block i hi (fun e => hs (.inl e))⟩, HE.out.2, ⟨_, kb_blk HE.out.1 HNE.out.1 H0.out.2.2, rfl⟩, ?_⟩
    rw [HQ.out]
    rfl
  · go_upto_region 1 with (go_at_call 83; refine (call_calls w0 _ g A c b b HI.out H0.out.2.1).mono ?_; rintro e w2 ⟨hk, hb, hm⟩; simp only [h0] at hm; obtain ⟨rfl, hs1⟩ := hm; have HX := Aside0.mk (kb_blk hk HNE.out.1 H0.out.2.2); have HK := Aside0.mk (And.intro hk hs1); clear hk hb hs1; have kc0 : w2.cell? ⟨cb, 0, none⟩ = some (.int .i64 0) := (blk_cell HX.out 0).trans rfl; have kc1 : w2.cell? ⟨cb, 1, none⟩ = some (.int .i64 0) := (blk_cell HX.out 1).trans rfl; have kf0 := blk_frozen HX.out 0; have kf1 := blk_frozen HX.out 1)
    obtain ⟨w3, hw3⟩ : ∃ w3, w3 = (w2.setCell ⟨cb, 0, none⟩ (.int .i64 x.f0)).setCell ⟨cb, 1, none⟩ (.int .i64 x.f1) := ⟨_, rfl⟩
    have hbk := blk_set (blk_set HX.out 0 (.int .i64 x.f0)) 1 (.int .i64 x.f1)
    have H1 : Aside0 (Ks (fun k => k = g ∨ k = cb) w1 w3 ∧ RS w0 w3 g A c b l1 ∧ w3.heap[cb]? = some (.cells (RVc ⟨x, 0, 0⟩) 50 (0, 0))) := ⟨by
      rw [hw3]
      exact ⟨Ks.set (Ks.set ⟨HK.out.1.size, fun i hi hs => HK.out.1.block i hi (fun e => hs (.inl e))⟩ _ _ _ (.inl (.inr rfl))) _ _ _ (.inl (.inr rfl)), (HK.out.2.setOther HNE.out.1 HNE.out.2 0 _).setOther HNE.out.1 HNE.out.2 1 _, hbk⟩⟩
    rw [← hw3]
    clear hw3 hbk HX HK kc0 kc1 kf0 kf1
    rcases h1 : numP 0 255 l1 with n0 | ⟨er, l2⟩
    · have HQ : Aside0 (repP b = .bad n0) := ⟨by rw [HP.out, bnd_ok h0, bnd_bad h1]⟩
      go_wp2_with (go_at_call 80; refine (num_calls w0 _ g A c b l1 0 255 (by decide) (by decide) (by decide) HI.out H1.out.2.1).mono ?_; rintro e w4 ⟨hk, hb, hm⟩; simp only [h1, pan] at hm; subst hm; have HE := Aside0.mk (And.intro hk hb); clear hk hb)
      refine ⟨rfl, H1.out.1.trans ⟨HE.out.1.size, fun i hi hs => HE.out.1.block i hi (fun e => hs (.inl e))⟩, HE.out.2, ⟨_, kb_blk HE.out.1 HNE.out.1 H1.out.2.2, rfl⟩, ?_⟩
      rw [HQ.out]
      rfl
    · go_upto_region 2 with (go_at_call 80; refine (num_calls w0 _ g A c b l1 0 255 (by decide) (by decide) (by decide) HI.out H1.out.2.1).mono ?_; rintro e w4 ⟨hk, hb, hm⟩; simp only [h1] at hm; obtain ⟨rfl, hs1⟩ := hm; have HX := Aside0.mk (kb_blk hk HNE.out.1 H1.out.2.2); have HK := Aside0.mk (And.intro hk hs1); clear hk hb hs1; have kc0 : w4.cell? ⟨cb, 2, none⟩ = some (.int .i64 0) := (blk_cell HX.out 2).trans rfl; have kf0 := blk_frozen HX.out 2)
      obtain ⟨w5, hw5⟩ : ∃ w5, w5 = w4.setCell ⟨cb, 2, none⟩ (.int .i64 er) := ⟨_, rfl⟩
      have hbk := blk_set HX.out 2 (.int .i64 er)
      have H2 : Aside0 (Ks (fun k => k = g ∨ k = cb) w1 w5 ∧ RS w0 w5 g A c b l2 ∧ w5.heap[cb]? = some (.cells (RVc ⟨x, er, 0⟩) 50 (0, 0))) := ⟨by
        rw [hw5]
        exact ⟨H1.out.1.trans (Ks.set ⟨HK.out.1.size, fun i hi hs => HK.out.1.block i hi (fun e => hs (.inl e))⟩ _ _ _ (.inl (.inr rfl))), HK.out.2.setOther HNE.out.1 HNE.out.2 2 _, hbk⟩⟩
      rw [← hw5]
      clear hw5 hbk HX HK kc0 kf0
      rcases h2 : signP l2 with n0 | ⟨v, l3⟩
      · have HQ : Aside0 (repP b = .bad n0) := ⟨by rw [HP.out, bnd_ok h0, bnd_ok h1, bnd_bad h2]⟩
        go_wp2_with (go_at_call 87; refine (signed_calls w0 _ g A c b l2 HI.out H2.out.2.1).mono ?_; rintro e w6 ⟨hk, hb, hm⟩; simp only [h2, pan] at hm; subst hm; have HE := Aside0.mk (And.intro hk hb); clear hk hb)
        refine ⟨rfl, H2.out.1.trans ⟨HE.out.1.size, fun i hi hs => HE.out.1.block i hi (fun e => hs (.inl e))⟩, HE.out.2, ⟨_, kb_blk HE.out.1 HNE.out.1 H2.out.2.2, rfl⟩, ?_⟩
        rw [HQ.out]
        rfl
      · have HQ : Aside0 (repP b = .ok ⟨x, er, v⟩ l3) := ⟨by rw [HP.out, bnd_ok h0, bnd_ok h1, bnd_ok h2]; rfl⟩
        go_wp2_with (go_at_call 87; refine (signed_calls w0 _ g A c b l2 HI.out H2.out.2.1).mono ?_; rintro e w6 ⟨hk, hb, hm⟩; simp only [h2] at hm; obtain ⟨rfl, hs1⟩ := hm; have HX := Aside0.mk (kb_blk hk HNE.out.1 H2.out.2.2); have HK := Aside0.mk (And.intro hk hs1); clear hk hb hs1; have kc0 : w6.cell? ⟨cb, 3, none⟩ = some (.int .i64 0) := (blk_cell HX.out 3).trans rfl; have kf0 := blk_frozen HX.out 3)
        (first | go_end0 | ((try simp only [Exit.inBlock, Exit.then]); refine bodyPost_ret (results_none rfl _ _ _) rfl ?_))
        have hbk := blk_set HX.out 3 (.int .i64 v)
        have hrs := HK.out.2.setOther HNE.out.1 HNE.out.2 3 (.int .i64 v)
        refine ⟨H2.out.1.trans (Ks.set ⟨HK.out.1.size, fun i hi hs => HK.out.1.block i hi (fun e => hs (.inl e))⟩ _ _ _ (.inl (.inr rfl))), hrs.bel, ⟨_, hbk, rfl⟩, ?_⟩
        rw [HQ.out]
        exact ⟨rfl, hrs, hbk⟩
theorem rv_one (r : Rep) : (RVc r).all (·.oneCell') = true := by simp [RVc, Value.oneCell']
theorem inf50 : (Try.prog.info? 50).map (·.size) = some 4 := by kernel_rfl
theorem build_zeroR (a : Act) (W : World) {o : Oper} (ho : o.op = .build 50 #[]) : (execOp a.eval o).run Try.prog W = .ok (.value (.agg (RVc zRep))) W := by
  unfold execOp
  rw [ho]
  have hu50 := Try.underlying50
  have h : (Instr.build 50 #[]).run Try.prog W = .ok (.agg (RVc zRep)) W := by kernel_rfl
  simp [h]
/-- What DecodeReply answers. -/
def DecRP (w : World) (x : Rep × Int × Int) (e : Ending) (w' : World) : Prop :=
  Below w.heap.size w w' ∧ e = .returned (.tuple #[.agg (RVc x.1), .int .i64 x.2.1, .int .i64 x.2.2])
set_option maxHeartbeats 4000000 in
set_option maxRecDepth 100000 in
theorem decrep_calls (w : World) (A : Option Addr) (c : Nat) (b : List Int) (hi : In w A c b) :
    Calls Try.prog 35 #[.slice A b.length c] w fun e w' => DecRP w (whole zRep repP b) e w' := by
  have hmf : ∀ (fn : Fn) (first cap : Array Value) (w : World), (Instr.makeFunc fn first cap).run Try.prog w = .ok (.func fn first cap) w := fun _ _ _ _ => rfl
  obtain ⟨wa, hwa⟩ : ∃ wa, wa = w.alloc (.cells (RVc zRep) 50 (0, 0)) := ⟨_, rfl⟩
  have HWA := Aside0.mk hwa
  have HB : Aside0 (Below w.heap.size w wa ∧ wa.heap.size = w.heap.size + 1 ∧ wa.heap[w.heap.size]? = some (.cells (RVc zRep) 50 (0, 0))) := ⟨by rw [hwa]; exact ⟨al_below w _, by simp, heap_alloc_new w _⟩⟩
  have HRD : Aside0 (Calls Try.prog 59 #[.slice A b.length c, .func (Fn.func 86) #[] #[.pointer (some ⟨w.heap.size, 0, none⟩)]] wa fun e w' => ReadP w wa (fun k => k = w.heap.size) b (repP b) (YB w.heap.size 50 4) (XR w.heap.size) e w') := ⟨by
    have hsz := HB.out.2.1
    refine read_rep w.heap.size w wa A c b _ (repP b) _ _ hi HB.out.1 (fun k hk => by omega) (fun k hk => by omega) (stable_Y (by omega) (by omega)) (fun m => stable_XR (by omega) m) ?_
    intro w1 hb1 hs1 hr1
    exact rep1_calls w w1 _ w.heap.size A c b hi hr1 (by omega) (Nat.le_refl _) (blk_keep hb1 HB.out.2.2)⟩
  have hu50 := Try.underlying50
  clear hwa hi
  rw [show RVc zRep = #[.int .i64 0, .int .i64 0, .int .i64 0, .int .i64 0] from rfl] at HWA
  go_enter Try.func35, Try.ntmps35
  go_upto_region 1 with fail
  rw [← HWA.out]
  go_upto_region 2 with (go_at_call 59; refine HRD.out.mono ?_; rintro e w2 ⟨hks, hbl, hy, pt, er, rfl, hm⟩; have HK := Aside0.mk (And.intro hks (And.intro hbl (And.intro hy hm))); clear hks hbl hy hm)
  rcases hp : repP b with k | ⟨m, l⟩
  · have HW : Aside0 (whole zRep repP b = (zRep, (b.length : Int) - k, 20)) := ⟨by unfold whole; rw [hp]⟩
    rw [hp] at HK
    obtain ⟨old, ho, hos⟩ := HK.out.2.2.1
    (try obtain ⟨rfl, rfl⟩ := HK.out.2.2.2)
    have HC := Aside0.mk (And.intro ho hos)
    have HB3 := Aside0.mk (setRow_blk ho (RVc zRep))
    clear ho hos
    go_wp2_with (first | ((with_reducible refine gate_dst (N := 13) rfl ?_); refine Kd.event_run (v := .agg (RVc zRep)) (w1 := w2) rfl (build_zeroR _ _ rfl) ?_; go_loud (refine wpList_store_row rfl 50 (.tmp 2) (.tmp 13) rfl w.heap.size (RVc zRep) (by rfl) (by rfl) 50 _ HC.out.1 inf50 HC.out.2 (rv_one _) ?_)) | ((with_reducible refine gate_dst (N := 14) rfl ?_); refine wpList_load_row rfl 50 (.tmp 2) rfl w.heap.size (by rfl) 50 (RVc zRep) (0, 0) _ HB3.out Try.underlying50 rfl inf50 ?_; refine Kd.event_run (v := .int .i64 ((b.length : Int) - k)) rfl (by rfl) ?_; refine Kd.event_run (v := .int .i64 (20)) rfl (by rfl) ?_; go_loud (refine wpList_store_row rfl 50 (.tmp 2) (.tmp 14) rfl w.heap.size (RVc zRep) (by rfl) (by rfl) 50 _ HB3.out inf50 rfl (rv_one _) ?_)))
    have HB4 := setRow_blk HB3.out (RVc zRep)
    (try simp only [Exit.inBlock, Exit.then])
    refine bodyPost_ret (v := .tuple #[.agg (RVc zRep), .int .i64 ((b.length : Int) - k), .int .i64 20]) ?_ rfl ?_
    · exact results_cell_two (fn := Try.f35) (p := 2) (q := 3) (r := 4) rfl _ _ w.heap.size 50 _ (0, 0) _ (by rfl) HB4 hu50 rfl inf50
    refine ⟨below_setRow (below_setRow HK.out.2.1 (Nat.le_refl _) _) (Nat.le_refl _) _, ?_⟩; rw [HW.out]; (try rfl)
  · rcases l with _ | ⟨d, l⟩
    · have HW : Aside0 (whole zRep repP b = (m, 0, 0)) := ⟨by unfold whole; rw [hp]⟩
      rw [hp] at HK
      obtain ⟨hpt, her, hbk⟩ := HK.out.2.2.2
      subst hpt her
      have HC := Aside0.mk (show w2.heap[w.heap.size]? = some (.cells (RVc m) 50 (0, 0)) from hbk)
      clear hbk
      go_wp2_with ((with_reducible refine gate_dst (N := 14) rfl ?_); refine wpList_load_row rfl 50 (.tmp 2) rfl w.heap.size (by rfl) 50 (RVc m) (0, 0) _ HC.out Try.underlying50 rfl inf50 ?_; refine Kd.event_run (v := .int .i64 (0)) rfl (by rfl) ?_; refine Kd.event_run (v := .int .i64 (0)) rfl (by rfl) ?_; go_loud (refine wpList_store_row rfl 50 (.tmp 2) (.tmp 14) rfl w.heap.size (RVc m) (by rfl) (by rfl) 50 _ HC.out inf50 rfl (rv_one _) ?_))
      have HB4 := setRow_blk HC.out (RVc m)
      (try simp only [Exit.inBlock, Exit.then])
      refine bodyPost_ret (v := .tuple #[.agg (RVc m), .int .i64 0, .int .i64 0]) ?_ rfl ?_
      · exact results_cell_two (fn := Try.f35) (p := 2) (q := 3) (r := 4) rfl _ _ w.heap.size 50 _ (0, 0) _ (by rfl) HB4 hu50 rfl inf50
      refine ⟨below_setRow HK.out.2.1 (Nat.le_refl _) _, ?_⟩
      rw [HW.out]
      (try rfl)
    · have HW : Aside0 (whole zRep repP b = (zRep, (b.length : Int) - (l.length + 1), 20)) := ⟨by unfold whole; rw [hp]⟩
      rw [hp] at HK
      obtain ⟨old, ho, hos⟩ := HK.out.2.2.1
      (try obtain ⟨rfl, rfl⟩ := HK.out.2.2.2)
      have HC := Aside0.mk (And.intro ho hos)
      have HB3 := Aside0.mk (setRow_blk ho (RVc zRep))
      clear ho hos
      go_wp2_with (first | ((with_reducible refine gate_dst (N := 13) rfl ?_); refine Kd.event_run (v := .agg (RVc zRep)) (w1 := w2) rfl (build_zeroR _ _ rfl) ?_; go_loud (refine wpList_store_row rfl 50 (.tmp 2) (.tmp 13) rfl w.heap.size (RVc zRep) (by rfl) (by rfl) 50 _ HC.out.1 inf50 HC.out.2 (rv_one _) ?_)) | ((with_reducible refine gate_dst (N := 14) rfl ?_); refine wpList_load_row rfl 50 (.tmp 2) rfl w.heap.size (by rfl) 50 (RVc zRep) (0, 0) _ HB3.out Try.underlying50 rfl inf50 ?_; refine Kd.event_run (v := .int .i64 ((b.length : Int) - (l.length + 1))) rfl (by rfl) ?_; refine Kd.event_run (v := .int .i64 (20)) rfl (by rfl) ?_; go_loud (refine wpList_store_row rfl 50 (.tmp 2) (.tmp 14) rfl w.heap.size (RVc zRep) (by rfl) (by rfl) 50 _ HB3.out inf50 rfl (rv_one _) ?_)))
      have HB4 := setRow_blk HB3.out (RVc zRep)
      (try simp only [Exit.inBlock, Exit.then])
      refine bodyPost_ret (v := .tuple #[.agg (RVc zRep), .int .i64 ((b.length : Int) - (l.length + 1)), .int .i64 20]) ?_ rfl ?_
      · exact results_cell_two (fn := Try.f35) (p := 2) (q := 3) (r := 4) rfl _ _ w.heap.size 50 _ (0, 0) _ (by rfl) HB4 hu50 rfl inf50
      refine ⟨below_setRow (below_setRow HK.out.2.1 (Nat.le_refl _) _) (Nat.le_refl _) _, ?_⟩; rw [HW.out]; (try rfl)
end Go.Proofs.Ytpgdmmjbhjbbhaa.Rd
end
section
namespace Go.Proofs.Ytpgdmmjbhjbbhaa.Rd
open Go Go.RowKit Go.Proofs.Ytpgdmmjbhjbbhaa.P Go.Proofs.Ytpgdmmjbhjbbhaa.Sp Go.Proofs.Ytpgdmmjbhjbbhaa.Vd Go.Proofs.Ytpgdmmjbhjbbhaa.En Go.Proofs.Ytpgdmmjbhjbbhaa.Wr Go.Proofs.YtpgdmmjbhjbbhaaW.PrintWords Go.Proofs.YtpgdmmjbhjbbhaaW.PrintLast Go.Proofs.YtpgdmmjbhjbbhaaW.PrintMore
set_option linter.unusedVariables false
set_option linter.unusedSimpArgs false
def CVc (x : S25) : Array Value := #[.int .i64 x.f0, .int .i64 x.f1]
def OVc (o : Sp.Op) : Array Value := #[.int .i64 o.kind, .string o.name, .int .i64 o.a, .int .i64 o.b]
/-- The two variables stand. -/
def YQ (cb db : Nat) (w : World) : Prop := ∃ (x : S25) (o : Sp.Op), w.heap[cb]? = some (.cells (CVc x) 27 (0, 0)) ∧ w.heap[db]? = some (.cells (OVc o) 29 (0, 0))
def XQ (cb db : Nat) (y : S25 × Sp.Op) (w : World) : Prop := w.heap[cb]? = some (.cells (CVc y.1) 27 (0, 0)) ∧ w.heap[db]? = some (.cells (OVc y.2) 29 (0, 0))
theorem stable_XQ {n cb db : Nat} (h : cb < n) (h2 : db < n) (y : S25 × Sp.Op) : Stable n (XQ cb db y) := fun w1 w2 h3 hk _ => ⟨(hk cb (blk_lt h3.1) (by omega) (by omega)).trans h3.1, (hk db (blk_lt h3.2) (by omega) (by omega)).trans h3.2⟩
theorem stable_YQ {n cb db : Nat} (h : cb < n) (h2 : db < n) : Stable n (YQ cb db) := fun w1 w2 ⟨x, o, h3, h4⟩ hk hs => ⟨x, o, stable_XQ h h2 (x, o) w1 w2 ⟨h3, h4⟩ hk hs⟩
set_option maxHeartbeats 4000000 in
set_option maxRecDepth 100000 in
theorem req1_calls (w0 w1 : World) (g cb db : Nat) (A : Option Addr) (c : Nat) (b : List Int) (hi : In w0 A c b) (h : RS w0 w1 g A c b b) (hne : cb ≠ g ∧ db ≠ g ∧ cb ≠ db) (hge : w0.heap.size ≤ cb ∧ w0.heap.size ≤ db) (hy : w1.heap[cb]? = some (.cells (CVc z25) 27 (0, 0))) (hz : w1.heap[db]? = some (.cells (OVc zOp) 29 (0, 0))) :
    Calls Try.prog 82 #[.pointer (some ⟨g, 0, none⟩), .pointer (some ⟨cb, 0, none⟩), .pointer (some ⟨db, 0, none⟩)] w1 fun e w' => Fld w0 w1 g (fun k => k = cb ∨ k = db) A c b (reqP b) (YQ cb db) (XQ cb db) e w' := by
  have HI := Aside0.mk hi
  have HNE := Aside0.mk (And.intro hne hge)
  have H0 : Aside0 (RS w0 w1 g A c b b ∧ w1.heap[cb]? = some (.cells (CVc z25) 27 (0, 0)) ∧ w1.heap[db]? = some (.cells (OVc zOp) 29 (0, 0))) := ⟨h, hy, hz⟩
  have HP : Aside0 (reqP b = (bnd (pairP 0 63 1 1099511627776) fun x => bnd opP fun o => ret (x, o)) b) := ⟨rfl⟩
  have hu29 := Try.underlying29
  have hu27 := Try.underlying27
  clear hi h hne hge hy hz
  go_enter Try.func82, Try.ntmps82
  rcases h0 : pairP 0 63 1 1099511627776 b with n0 | ⟨x, l1⟩
  · have HQ : Aside0 (reqP b = .bad n0) := ⟨by rw [HP.out, bnd_bad h0]⟩
    go_wp2_with (go_at_call 83; refine (call_calls w0 _ g A c b b HI.out H0.out.1).mono ?_; rintro e w2 ⟨hk, hb, hm⟩; simp only [h0, pan] at hm; subst hm; have HE := Aside0.mk (And.intro hk hb); clear hk hb)
    refine ⟨rfl, ⟨HE.out.1.size, fun i hi hs => HE.out.1.block i hi (fun e => hs (.inl e))⟩, HE.out.2, ⟨_, _, kb_blk HE.out.1 HNE.out.1.1 H0.out.2.1, kb_blk HE.out.1 HNE.out.1.2.1 H0.out.2.2⟩, ?_⟩
    rw [HQ.out]
    rfl
  · go_upto_region 1 with (go_at_call 83; refine (call_calls w0 _ g A c b b HI.out H0.out.1).mono ?_; rintro e w2 ⟨hk, hb, hm⟩; simp only [h0] at hm; obtain ⟨rfl, hs1⟩ := hm; have HX := Aside0.mk (kb_blk hk HNE.out.1.1 H0.out.2.1); have HY := Aside0.mk (kb_blk hk HNE.out.1.2.1 H0.out.2.2); have HK := Aside0.mk (And.intro hk hs1); clear hk hb hs1; have kc0 : w2.cell? ⟨cb, 0, none⟩ = some (.int .i64 0) := (blk_cell HX.out 0).trans rfl; have kc1 : w2.cell? ⟨cb, 1, none⟩ = some (.int .i64 0) := (blk_cell HX.out 1).trans rfl; have kf0 := blk_frozen HX.out 0; have kf1 := blk_frozen HX.out 1)
    obtain ⟨w3, hw3⟩ : ∃ w3, w3 = (w2.setCell ⟨cb, 0, none⟩ (.int .i64 x.f0)).setCell ⟨cb, 1, none⟩ (.int .i64 x.f1) := ⟨_, rfl⟩
    have hbk := blk_set (blk_set HX.out 0 (.int .i64 x.f0)) 1 (.int .i64 x.f1)
    have hby := blk_far (blk_far HY.out HNE.out.1.2.2 0 (.int .i64 x.f0)) HNE.out.1.2.2 1 (.int .i64 x.f1)
    have H1 : Aside0 (Ks (fun k => k = g ∨ k = cb ∨ k = db) w1 w3 ∧ RS w0 w3 g A c b l1 ∧ w3.heap[cb]? = some (.cells (CVc x) 27 (0, 0)) ∧ w3.heap[db]? = some (.cells (OVc zOp) 29 (0, 0))) := ⟨by
      rw [hw3]
      exact ⟨Ks.set (Ks.set ⟨HK.out.1.size, fun i hi hs => HK.out.1.block i hi (fun e => hs (.inl e))⟩ _ _ _ (.inl (.inr (.inl rfl)))) _ _ _ (.inl (.inr (.inl rfl))), (HK.out.2.setOther HNE.out.1.1 HNE.out.2.1 0 _).setOther HNE.out.1.1 HNE.out.2.1 1 _, hbk, hby⟩⟩
    rw [← hw3]
    clear hw3 hbk hby HX HY HK kc0 kc1 kf0 kf1
    rcases h1 : opP l1 with n0 | ⟨o, l2⟩
    · have HQ : Aside0 (reqP b = .bad n0) := ⟨by rw [HP.out, bnd_ok h0, bnd_bad h1]⟩
      go_wp2_with (go_at_call 84; refine (op_calls w0 _ g A c b l1 HI.out H1.out.2.1).mono ?_; rintro e w4 ⟨hk, hb, hm⟩; simp only [h1, pan] at hm; subst hm; have HE := Aside0.mk (And.intro hk hb); clear hk hb)
      refine ⟨rfl, H1.out.1.trans ⟨HE.out.1.size, fun i hi hs => HE.out.1.block i hi (fun e => hs (.inl e))⟩, HE.out.2, ⟨_, _, kb_blk HE.out.1 HNE.out.1.1 H1.out.2.2.1, kb_blk HE.out.1 HNE.out.1.2.1 H1.out.2.2.2⟩, ?_⟩
      rw [HQ.out]
      rfl
    · have HQ : Aside0 (reqP b = .ok (x, o) l2) := ⟨by rw [HP.out, bnd_ok h0, bnd_ok h1]; rfl⟩
      go_wp2_with (go_at_call 84; refine (op_calls w0 _ g A c b l1 HI.out H1.out.2.1).mono ?_; rintro e w4 ⟨hk, hb, hm⟩; simp only [h1] at hm; obtain ⟨rfl, hs1⟩ := hm; have HX := Aside0.mk (kb_blk hk HNE.out.1.1 H1.out.2.2.1); have HY := Aside0.mk (kb_blk hk HNE.out.1.2.1 H1.out.2.2.2); have HK := Aside0.mk (And.intro hk hs1); clear hk hb hs1; have kc0 : w4.cell? ⟨db, 0, none⟩ = some (.int .i64 0) := (blk_cell HY.out 0).trans rfl; have kc1 : w4.cell? ⟨db, 1, none⟩ = some (.string eB) := (blk_cell HY.out 1).trans rfl; have kc2 : w4.cell? ⟨db, 2, none⟩ = some (.int .i64 0) := (blk_cell HY.out 2).trans rfl; have kc3 : w4.cell? ⟨db, 3, none⟩ = some (.int .i64 0) := (blk_cell HY.out 3).trans rfl; have kf0 := blk_frozen HY.out 0; have kf1 := blk_frozen HY.out 1; have kf2 := blk_frozen HY.out 2; have kf3 := blk_frozen HY.out 3)
      (first | go_end0 | ((try simp only [Exit.inBlock, Exit.then]); refine bodyPost_ret (results_none rfl _ _ _) rfl ?_))
      have hbk := blk_set (blk_set (blk_set (blk_set HY.out 0 (.int .i64 o.kind)) 1 (.string o.name)) 2 (.int .i64 o.a)) 3 (.int .i64 o.b)
      have hbx := blk_far (blk_far (blk_far (blk_far HX.out (Ne.symm HNE.out.1.2.2) 0 (.int .i64 o.kind)) (Ne.symm HNE.out.1.2.2) 1 (.string o.name)) (Ne.symm HNE.out.1.2.2) 2 (.int .i64 o.a)) (Ne.symm HNE.out.1.2.2) 3 (.int .i64 o.b)
      have hrs := (((HK.out.2.setOther HNE.out.1.2.1 HNE.out.2.2 0 (.int .i64 o.kind)).setOther HNE.out.1.2.1 HNE.out.2.2 1 (.string o.name)).setOther HNE.out.1.2.1 HNE.out.2.2 2 (.int .i64 o.a)).setOther HNE.out.1.2.1 HNE.out.2.2 3 (.int .i64 o.b)
      refine ⟨H1.out.1.trans (Ks.set (Ks.set (Ks.set (Ks.set ⟨HK.out.1.size, fun i hi hs => HK.out.1.block i hi (fun e => hs (.inl e))⟩ _ _ _ (.inl (.inr (.inr rfl)))) _ _ _ (.inl (.inr (.inr rfl)))) _ _ _ (.inl (.inr (.inr rfl)))) _ _ _ (.inl (.inr (.inr rfl)))), hrs.bel, ⟨x, o, hbx, hbk⟩, ?_⟩
      rw [HQ.out]
      exact ⟨rfl, hrs, hbx, hbk⟩
theorem results_two_two {P : Program} {fn : Func} {p p2 q r : Tmp} {ty ty2 : TypeId} (h : fn.results = #[.cell p ty, .cell p2 ty2, .tmp q, .tmp r]) (tmps : Array Value) (w : World) (g g2 : Nat) (t t2 : TypeId) (cs cs2 : Array Value) (fr fr2 : Nat × Nat) (d d2 : TypeDesc)
    (hp : tmps.getD p undef = .pointer (some ⟨g, 0, none⟩)) (hg : w.heap[g]? = some (.cells cs t fr))
    (hu : P.underlying ty = some d) (hd : (match d with | .struct _ | .array _ _ => true | _ => false) = true) (hi : (P.info? ty).map (·.size) = some cs.size)
    (hp2 : tmps.getD p2 undef = .pointer (some ⟨g2, 0, none⟩)) (hg2 : w.heap[g2]? = some (.cells cs2 t2 fr2))
    (hu2 : P.underlying ty2 = some d2) (hd2 : (match d2 with | .struct _ | .array _ _ => true | _ => false) = true) (hi2 : (P.info? ty2).map (·.size) = some cs2.size) :
    (results fn tmps).run P w = .ok (.tuple #[.agg cs, .agg cs2, tmps.getD q undef, tmps.getD r undef]) w := by
  have hp' : tmps[p]?.getD undef = .pointer (some ⟨g, 0, none⟩) := by simpa using hp
  have hp2' : tmps[p2]?.getD undef = .pointer (some ⟨g2, 0, none⟩) := by simpa using hp2
  simp [results, h, hp', hp2', asAddr, run_loadVar_row w g t ty cs fr d hg hu hd hi, run_loadVar_row w g2 t2 ty2 cs2 fr2 d2 hg2 hu2 hd2 hi2]
theorem blk_as {w : World} {g : Nat} {t : TypeId} {cs cs2 : Array Value} (h : w.heap[g]? = some (.cells cs t (0, 0))) (e : cs = cs2) : w.drew.heap[g]? = some (.cells cs2 t (0, 0)) := e ▸ h
/-- What DecodeRequest answers. -/
def DecQP (w : World) (y : (S25 × Sp.Op) × Int × Int) (e : Ending) (w' : World) : Prop :=
  Below w.heap.size w w' ∧ e = .returned (.tuple #[.agg (CVc y.1.1), .agg (OVc y.1.2), .int .i64 y.2.1, .int .i64 y.2.2])
set_option maxHeartbeats 4000000 in
set_option maxRecDepth 100000 in
theorem decreq_calls (w : World) (A : Option Addr) (c : Nat) (b : List Int) (hi : In w A c b) :
    Calls Try.prog 33 #[.slice A b.length c] w fun e w' => DecQP w (whole (z25, zOp) reqP b) e w' := by
  have hmf : ∀ (fn : Fn) (first cap : Array Value) (w : World), (Instr.makeFunc fn first cap).run Try.prog w = .ok (.func fn first cap) w := fun _ _ _ _ => rfl
  obtain ⟨wa, hwa⟩ : ∃ wa, wa = (w.alloc (.cells #[.int .i64 0, .int .i64 0] 27 (0, 0))).alloc (.cells #[.int .i64 0, .string ⟨#[]⟩, .int .i64 0, .int .i64 0] 29 (0, 0)) := ⟨_, rfl⟩
  have HWA := Aside0.mk hwa
  have HB : Aside0 (Below w.heap.size w wa ∧ wa.heap.size = w.heap.size + 1 + 1 ∧ wa.heap[w.heap.size]? = some (.cells (CVc z25) 27 (0, 0)) ∧ wa.heap[w.heap.size + 1]? = some (.cells (OVc zOp) 29 (0, 0))) := ⟨by
    rw [hwa]
    refine ⟨below_al2 w _ _, by simp, (Below.heap_alloc _ _ _ (by simp)).trans (heap_alloc_new w _), ?_⟩
    have := heap_alloc_new (w.alloc (.cells #[.int .i64 0, .int .i64 0] 27 (0, 0))) (.cells #[.int .i64 0, .string ⟨#[]⟩, .int .i64 0, .int .i64 0] 29 (0, 0))
    simpa [OVc, zOp, eB] using this⟩
  have HRD : Aside0 (Calls Try.prog 59 #[.slice A b.length c, .func (Fn.func 82) #[] #[.pointer (some ⟨w.heap.size, 0, none⟩), .pointer (some ⟨w.heap.size + 1, 0, none⟩)]] wa fun e w' => ReadP w wa (fun k => k = w.heap.size ∨ k = w.heap.size + 1) b (reqP b) (YQ w.heap.size (w.heap.size + 1)) (XQ w.heap.size (w.heap.size + 1)) e w') := ⟨by
    have hsz := HB.out.2.1
    refine read_req w.heap.size (w.heap.size + 1) w wa A c b _ (reqP b) _ _ hi HB.out.1 (fun k hk => by omega) (fun k hk => by omega) (stable_YQ (by omega) (by omega)) (fun m => stable_XQ (by omega) (by omega) m) ?_
    intro w1 hb1 hs1 hr1
    exact req1_calls w w1 _ w.heap.size (w.heap.size + 1) A c b hi hr1 ⟨by omega, by omega, by omega⟩ ⟨by omega, by omega⟩ (blk_keep hb1 HB.out.2.2.1) (blk_keep hb1 HB.out.2.2.2)⟩
  have hu29 := Try.underlying29
  have hu27 := Try.underlying27
  have hne : w.heap.size ≠ w.heap.size + 1 := by omega
  clear hwa hi
  go_enter Try.func33, Try.ntmps33
  go_upto_region 1 with fail
  rw [← HWA.out]
  go_upto_region 2 with (go_at_call 59; refine HRD.out.mono ?_; rintro e w2 ⟨hks, hbl, hy, pt, er, rfl, hm⟩; have HK := Aside0.mk (And.intro hks (And.intro hbl (And.intro hy hm))); clear hks hbl hy hm)
  rcases hp : reqP b with k | ⟨⟨x, o⟩, l⟩
  · have HW : Aside0 (whole (z25, zOp) reqP b = ((z25, zOp), (b.length : Int) - k, 20)) := ⟨by unfold whole; rw [hp]⟩
    rw [hp] at HK
    (try obtain ⟨rfl, rfl⟩ := HK.out.2.2.2)
    obtain ⟨x, o, hx, ho⟩ := HK.out.2.2.1
    have HX := Aside0.mk (And.intro hx ho)
    clear hx ho
    have kc0 : w2.cell? ⟨w.heap.size, 0, none⟩ = some (.int .i64 x.f0) := (blk_cell HX.out.1 0).trans rfl
    have kc1 : w2.cell? ⟨w.heap.size, 1, none⟩ = some (.int .i64 x.f1) := (blk_cell HX.out.1 1).trans rfl
    have kf0 := blk_frozen HX.out.1 0
    have kf1 := blk_frozen HX.out.1 1
    have ko0 : w2.cell? ⟨w.heap.size + 1, 0, none⟩ = some (.int .i64 o.kind) := (blk_cell HX.out.2 0).trans rfl
    have ko1 : w2.cell? ⟨w.heap.size + 1, 1, none⟩ = some (.string o.name) := (blk_cell HX.out.2 1).trans rfl
    have ko2 : w2.cell? ⟨w.heap.size + 1, 2, none⟩ = some (.int .i64 o.a) := (blk_cell HX.out.2 2).trans rfl
    have ko3 : w2.cell? ⟨w.heap.size + 1, 3, none⟩ = some (.int .i64 o.b) := (blk_cell HX.out.2 3).trans rfl
    have kg0 := blk_frozen HX.out.2 0
    have kg1 := blk_frozen HX.out.2 1
    have kg2 := blk_frozen HX.out.2 2
    have kg3 := blk_frozen HX.out.2 3
    go_upto_region 4 with fail
    obtain ⟨w3, hw3⟩ : ∃ w3, w3 = (((((w2.setCell ⟨w.heap.size, 0, none⟩ (.int .i64 0)).setCell ⟨w.heap.size, 1, none⟩ (.int .i64 0)).setCell ⟨w.heap.size + 1, 0, none⟩ (.int .i64 0)).setCell ⟨w.heap.size + 1, 1, none⟩ (.string ⟨#[]⟩)).setCell ⟨w.heap.size + 1, 2, none⟩ (.int .i64 0)).setCell ⟨w.heap.size + 1, 3, none⟩ (.int .i64 0) := ⟨_, rfl⟩
    have hq1 := blk_far (g := w.heap.size + 1) (blk_far (g := w.heap.size + 1) (blk_far (g := w.heap.size + 1) (blk_far (g := w.heap.size + 1) (blk_set (blk_set HX.out.1 0 (.int .i64 0)) 1 (.int .i64 0)) (Ne.symm hne) 0 (.int .i64 0)) (Ne.symm hne) 1 (.string ⟨#[]⟩)) (Ne.symm hne) 2 (.int .i64 0)) (Ne.symm hne) 3 (.int .i64 0)
    have hq2 := blk_set (blk_set (blk_set (blk_set (blk_far (g := w.heap.size) (blk_far (g := w.heap.size) HX.out.2 hne 0 (.int .i64 0)) hne 1 (.int .i64 0)) 0 (.int .i64 0)) 1 (.string ⟨#[]⟩)) 2 (.int .i64 0)) 3 (.int .i64 0)
    have H3 : Aside0 (w3.heap[w.heap.size]? = some (.cells (CVc z25) 27 (0, 0)) ∧ w3.heap[w.heap.size + 1]? = some (.cells (OVc zOp) 29 (0, 0))) := ⟨by rw [hw3]; exact ⟨hq1, hq2⟩⟩
    have HB3 : Aside0 (Below w.heap.size w w3) := ⟨by rw [hw3]; exact (((((HK.out.2.1.setCell (Nat.le_refl _) _).setCell (Nat.le_refl _) _).setCell (Nat.le_succ _) _).setCell (Nat.le_succ _) _).setCell (Nat.le_succ _) _).setCell (Nat.le_succ _) _⟩
    rw [← hw3]
    clear hw3 hq1 hq2 kc0 kc1 kf0 kf1 ko0 ko1 ko2 ko3 kg0 kg1 kg2 kg3
    have kc0 : w3.cell? ⟨w.heap.size, 0, none⟩ = some (.int .i64 0) := (blk_cell H3.out.1 0).trans rfl
    have kc1 : w3.cell? ⟨w.heap.size, 1, none⟩ = some (.int .i64 0) := (blk_cell H3.out.1 1).trans rfl
    have kf0 := blk_frozen H3.out.1 0
    have kf1 := blk_frozen H3.out.1 1
    have ko0 : w3.cell? ⟨w.heap.size + 1, 0, none⟩ = some (.int .i64 0) := (blk_cell H3.out.2 0).trans rfl
    have ko1 : w3.cell? ⟨w.heap.size + 1, 1, none⟩ = some (.string ⟨#[]⟩) := (blk_cell H3.out.2 1).trans rfl
    have ko2 : w3.cell? ⟨w.heap.size + 1, 2, none⟩ = some (.int .i64 0) := (blk_cell H3.out.2 2).trans rfl
    have ko3 : w3.cell? ⟨w.heap.size + 1, 3, none⟩ = some (.int .i64 0) := (blk_cell H3.out.2 3).trans rfl
    have kg0 := blk_frozen H3.out.2 0
    have kg1 := blk_frozen H3.out.2 1
    have kg2 := blk_frozen H3.out.2 2
    have kg3 := blk_frozen H3.out.2 3
    go_region
    all_goals go_wp2
    all_goals (try simp only [Exit.inBlock, Exit.then])
    all_goals
      have he1 := blk_far (g := w.heap.size + 1) (blk_far (g := w.heap.size + 1) (blk_far (g := w.heap.size + 1) (blk_far (g := w.heap.size + 1) (blk_set (blk_set H3.out.1 0 (.int .i64 0)) 1 (.int .i64 0)) (Ne.symm hne) 0 (.int .i64 0)) (Ne.symm hne) 1 (.string ⟨#[]⟩)) (Ne.symm hne) 2 (.int .i64 0)) (Ne.symm hne) 3 (.int .i64 0)
      have he2 := blk_set (blk_set (blk_set (blk_set (blk_far (g := w.heap.size) (blk_far (g := w.heap.size) H3.out.2 hne 0 (.int .i64 0)) hne 1 (.int .i64 0)) 0 (.int .i64 0)) 1 (.string ⟨#[]⟩)) 2 (.int .i64 0)) 3 (.int .i64 0)
      refine bodyPost_ret (v := .tuple #[.agg (CVc z25), .agg (OVc zOp), .int .i64 ((b.length : Int) - k), .int .i64 20]) ?_ rfl ?_
      · exact results_two_two (fn := Try.f33) (p := 2) (p2 := 3) (q := 4) (r := 5) rfl _ _ w.heap.size (w.heap.size + 1) 27 29 _ _ (0, 0) (0, 0) _ _ (by rfl) (blk_as he1 (cs2 := CVc z25) rfl) hu27 rfl inf27 (by rfl) (blk_as he2 (cs2 := OVc zOp) rfl) hu29 rfl inf29
      refine ⟨Below.drew ((((((HB3.out.setCell (Nat.le_refl _) _).setCell (Nat.le_refl _) _).setCell (Nat.le_succ _) _).setCell (Nat.le_succ _) _).setCell (Nat.le_succ _) _).setCell (Nat.le_succ _) _), ?_⟩
      rw [HW.out]
  · rcases l with _ | ⟨d, l⟩
    · have HW : Aside0 (whole (z25, zOp) reqP b = ((x, o), 0, 0)) := ⟨by unfold whole; rw [hp]⟩
      rw [hp] at HK
      obtain ⟨hpt, her, hbk⟩ := HK.out.2.2.2
      subst hpt her
      have HX := Aside0.mk (show w2.heap[w.heap.size]? = some (.cells (CVc x) 27 (0, 0)) ∧ w2.heap[w.heap.size + 1]? = some (.cells (OVc o) 29 (0, 0)) from hbk)
      clear hbk
      have kc0 : w2.cell? ⟨w.heap.size, 0, none⟩ = some (.int .i64 x.f0) := (blk_cell HX.out.1 0).trans rfl
      have kc1 : w2.cell? ⟨w.heap.size, 1, none⟩ = some (.int .i64 x.f1) := (blk_cell HX.out.1 1).trans rfl
      have kf0 := blk_frozen HX.out.1 0
      have kf1 := blk_frozen HX.out.1 1
      have ko0 : w2.cell? ⟨w.heap.size + 1, 0, none⟩ = some (.int .i64 o.kind) := (blk_cell HX.out.2 0).trans rfl
      have ko1 : w2.cell? ⟨w.heap.size + 1, 1, none⟩ = some (.string o.name) := (blk_cell HX.out.2 1).trans rfl
      have ko2 : w2.cell? ⟨w.heap.size + 1, 2, none⟩ = some (.int .i64 o.a) := (blk_cell HX.out.2 2).trans rfl
      have ko3 : w2.cell? ⟨w.heap.size + 1, 3, none⟩ = some (.int .i64 o.b) := (blk_cell HX.out.2 3).trans rfl
      have kg0 := blk_frozen HX.out.2 0
      have kg1 := blk_frozen HX.out.2 1
      have kg2 := blk_frozen HX.out.2 2
      have kg3 := blk_frozen HX.out.2 3
      go_upto_region 4 with fail
      go_region
      all_goals go_wp2
      all_goals (try simp only [Exit.inBlock, Exit.then])
      all_goals
        have he1 := blk_far (g := w.heap.size + 1) (blk_far (g := w.heap.size + 1) (blk_far (g := w.heap.size + 1) (blk_far (g := w.heap.size + 1) (blk_set (blk_set HX.out.1 0 (.int .i64 x.f0)) 1 (.int .i64 x.f1)) (Ne.symm hne) 0 (.int .i64 o.kind)) (Ne.symm hne) 1 (.string o.name)) (Ne.symm hne) 2 (.int .i64 o.a)) (Ne.symm hne) 3 (.int .i64 o.b)
        have he2 := blk_set (blk_set (blk_set (blk_set (blk_far (g := w.heap.size) (blk_far (g := w.heap.size) HX.out.2 hne 0 (.int .i64 x.f0)) hne 1 (.int .i64 x.f1)) 0 (.int .i64 o.kind)) 1 (.string o.name)) 2 (.int .i64 o.a)) 3 (.int .i64 o.b)
        refine bodyPost_ret (v := .tuple #[.agg (CVc x), .agg (OVc o), .int .i64 (0), .int .i64 0]) ?_ rfl ?_
        · exact results_two_two (fn := Try.f33) (p := 2) (p2 := 3) (q := 4) (r := 5) rfl _ _ w.heap.size (w.heap.size + 1) 27 29 _ _ (0, 0) (0, 0) _ _ (by rfl) (blk_as he1 (cs2 := CVc x) rfl) hu27 rfl inf27 (by rfl) (blk_as he2 (cs2 := OVc o) rfl) hu29 rfl inf29
        refine ⟨Below.drew ((((((HK.out.2.1.setCell (Nat.le_refl _) _).setCell (Nat.le_refl _) _).setCell (Nat.le_succ _) _).setCell (Nat.le_succ _) _).setCell (Nat.le_succ _) _).setCell (Nat.le_succ _) _), ?_⟩
        rw [HW.out]
    · have HW : Aside0 (whole (z25, zOp) reqP b = ((z25, zOp), (b.length : Int) - (l.length + 1), 20)) := ⟨by unfold whole; rw [hp]⟩
      rw [hp] at HK
      (try obtain ⟨rfl, rfl⟩ := HK.out.2.2.2)
      obtain ⟨x2, o2, hx, ho⟩ := HK.out.2.2.1
      have HX := Aside0.mk (And.intro hx ho)
      clear hx ho
      have kc0 : w2.cell? ⟨w.heap.size, 0, none⟩ = some (.int .i64 x2.f0) := (blk_cell HX.out.1 0).trans rfl
      have kc1 : w2.cell? ⟨w.heap.size, 1, none⟩ = some (.int .i64 x2.f1) := (blk_cell HX.out.1 1).trans rfl
      have kf0 := blk_frozen HX.out.1 0
      have kf1 := blk_frozen HX.out.1 1
      have ko0 : w2.cell? ⟨w.heap.size + 1, 0, none⟩ = some (.int .i64 o2.kind) := (blk_cell HX.out.2 0).trans rfl
      have ko1 : w2.cell? ⟨w.heap.size + 1, 1, none⟩ = some (.string o2.name) := (blk_cell HX.out.2 1).trans rfl
      have ko2 : w2.cell? ⟨w.heap.size + 1, 2, none⟩ = some (.int .i64 o2.a) := (blk_cell HX.out.2 2).trans rfl
      have ko3 : w2.cell? ⟨w.heap.size + 1, 3, none⟩ = some (.int .i64 o2.b) := (blk_cell HX.out.2 3).trans rfl
      have kg0 := blk_frozen HX.out.2 0
      have kg1 := blk_frozen HX.out.2 1
      have kg2 := blk_frozen HX.out.2 2
      have kg3 := blk_frozen HX.out.2 3
      go_upto_region 4 with fail
      obtain ⟨w3, hw3⟩ : ∃ w3, w3 = (((((w2.setCell ⟨w.heap.size, 0, none⟩ (.int .i64 0)).setCell ⟨w.heap.size, 1, none⟩ (.int .i64 0)).setCell ⟨w.heap.size + 1, 0, none⟩ (.int .i64 0)).setCell ⟨w.heap.size + 1, 1, none⟩ (.string ⟨#[]⟩)).setCell ⟨w.heap.size + 1, 2, none⟩ (.int .i64 0)).setCell ⟨w.heap.size + 1, 3, none⟩ (.int .i64 0) := ⟨_, rfl⟩
      have hq1 := blk_far (g := w.heap.size + 1) (blk_far (g := w.heap.size + 1) (blk_far (g := w.heap.size + 1) (blk_far (g := w.heap.size + 1) (blk_set (blk_set HX.out.1 0 (.int .i64 0)) 1 (.int .i64 0)) (Ne.symm hne) 0 (.int .i64 0)) (Ne.symm hne) 1 (.string ⟨#[]⟩)) (Ne.symm hne) 2 (.int .i64 0)) (Ne.symm hne) 3 (.int .i64 0)
      have hq2 := blk_set (blk_set (blk_set (blk_set (blk_far (g := w.heap.size) (blk_far (g := w.heap.size) HX.out.2 hne 0 (.int .i64 0)) hne 1 (.int .i64 0)) 0 (.int .i64 0)) 1 (.string ⟨#[]⟩)) 2 (.int .i64 0)) 3 (.int .i64 0)
      have H3 : Aside0 (w3.heap[w.heap.size]? = some (.cells (CVc z25) 27 (0, 0)) ∧ w3.heap[w.heap.size + 1]? = some (.cells (OVc zOp) 29 (0, 0))) := ⟨by rw [hw3]; exact ⟨hq1, hq2⟩⟩
      have HB3 : Aside0 (Below w.heap.size w w3) := ⟨by rw [hw3]; exact (((((HK.out.2.1.setCell (Nat.le_refl _) _).setCell (Nat.le_refl _) _).setCell (Nat.le_succ _) _).setCell (Nat.le_succ _) _).setCell (Nat.le_succ _) _).setCell (Nat.le_succ _) _⟩
      rw [← hw3]
      clear hw3 hq1 hq2 kc0 kc1 kf0 kf1 ko0 ko1 ko2 ko3 kg0 kg1 kg2 kg3
      have kc0 : w3.cell? ⟨w.heap.size, 0, none⟩ = some (.int .i64 0) := (blk_cell H3.out.1 0).trans rfl
      have kc1 : w3.cell? ⟨w.heap.size, 1, none⟩ = some (.int .i64 0) := (blk_cell H3.out.1 1).trans rfl
      have kf0 := blk_frozen H3.out.1 0
      have kf1 := blk_frozen H3.out.1 1
      have ko0 : w3.cell? ⟨w.heap.size + 1, 0, none⟩ = some (.int .i64 0) := (blk_cell H3.out.2 0).trans rfl
      have ko1 : w3.cell? ⟨w.heap.size + 1, 1, none⟩ = some (.string ⟨#[]⟩) := (blk_cell H3.out.2 1).trans rfl
      have ko2 : w3.cell? ⟨w.heap.size + 1, 2, none⟩ = some (.int .i64 0) := (blk_cell H3.out.2 2).trans rfl
      have ko3 : w3.cell? ⟨w.heap.size + 1, 3, none⟩ = some (.int .i64 0) := (blk_cell H3.out.2 3).trans rfl
      have kg0 := blk_frozen H3.out.2 0
      have kg1 := blk_frozen H3.out.2 1
      have kg2 := blk_frozen H3.out.2 2
      have kg3 := blk_frozen H3.out.2 3
      go_region
      all_goals go_wp2
      all_goals (try simp only [Exit.inBlock, Exit.then])
      all_goals
        have he1 := blk_far (g := w.heap.size + 1) (blk_far (g := w.heap.size + 1) (blk_far (g := w.heap.size + 1) (blk_far (g := w.heap.size + 1) (blk_set (blk_set H3.out.1 0 (.int .i64 0)) 1 (.int .i64 0)) (Ne.symm hne) 0 (.int .i64 0)) (Ne.symm hne) 1 (.string ⟨#[]⟩)) (Ne.symm hne) 2 (.int .i64 0)) (Ne.symm hne) 3 (.int .i64 0)
        have he2 := blk_set (blk_set (blk_set (blk_set (blk_far (g := w.heap.size) (blk_far (g := w.heap.size) H3.out.2 hne 0 (.int .i64 0)) hne 1 (.int .i64 0)) 0 (.int .i64 0)) 1 (.string ⟨#[]⟩)) 2 (.int .i64 0)) 3 (.int .i64 0)
        refine bodyPost_ret (v := .tuple #[.agg (CVc z25), .agg (OVc zOp), .int .i64 ((b.length : Int) - (l.length + 1)), .int .i64 20]) ?_ rfl ?_
        · exact results_two_two (fn := Try.f33) (p := 2) (p2 := 3) (q := 4) (r := 5) rfl _ _ w.heap.size (w.heap.size + 1) 27 29 _ _ (0, 0) (0, 0) _ _ (by rfl) (blk_as he1 (cs2 := CVc z25) rfl) hu27 rfl inf27 (by rfl) (blk_as he2 (cs2 := OVc zOp) rfl) hu29 rfl inf29
        refine ⟨Below.drew ((((((HB3.out.setCell (Nat.le_refl _) _).setCell (Nat.le_refl _) _).setCell (Nat.le_succ _) _).setCell (Nat.le_succ _) _).setCell (Nat.le_succ _) _).setCell (Nat.le_succ _) _), ?_⟩
        rw [HW.out]
end Go.Proofs.Ytpgdmmjbhjbbhaa.Rd
end
section
namespace Go.Proofs.Ytpgdmmjbhjbbhaa.Rd
open Go Go.RowKit Go.Proofs.Ytpgdmmjbhjbbhaa.P Go.Proofs.Ytpgdmmjbhjbbhaa.Sp Go.Proofs.Ytpgdmmjbhjbbhaa.Vd Go.Proofs.Ytpgdmmjbhjbbhaa.En Go.Proofs.Ytpgdmmjbhjbbhaa.Wr Go.Proofs.YtpgdmmjbhjbbhaaW.PrintWords Go.Proofs.YtpgdmmjbhjbbhaaW.PrintLast Go.Proofs.YtpgdmmjbhjbbhaaW.PrintMore
set_option linter.unusedVariables false
set_option linter.unusedSimpArgs false
def SGc (f t q a : Int) (v : Value) : Array Value := #[.int .i64 f, .int .i64 t, .int .i64 q, .int .i64 a, v]
/-- The segment lies in its variable, its data in new memory. -/
def XS (n cb : Nat) (s : Seg) (w : World) : Prop := ∃ v, w.heap[cb]? = some (.cells (SGc s.src s.dst s.seq s.ack v) 47 (0, 0)) ∧ Kd.R (Kd.int .u8) 5 w n (fun _ => True) v s.data
theorem R_keep2 {w1 w2 : World} {m : Nat} {v : Value} {xs : List Int} (h : Kd.R (Kd.int .u8) 5 w1 m (fun _ => True) v xs) (hk : ∀ k, k < w1.heap.size → m ≤ k → w2.heap[k]? = w1.heap[k]?) : Kd.R (Kd.int .u8) 5 w2 m (fun _ => True) v xs :=
  Kd.R_mono (Kd.R_move (Kd.R_bound h) (fun k hk2 => hk k hk2.2.2.1 hk2.2.1)) (fun _ _ => trivial)
theorem stable_XS {n cb : Nat} (h : cb < n) (s : Seg) : Stable n (XS (n + 1 + 1) cb s) := by
  rintro w1 w2 ⟨v, h3, h4⟩ hk hsz
  exact ⟨v, (hk cb (blk_lt h3) (by omega) (by omega)).trans h3, R_keep2 h4 (fun k h1 h2 => hk k h1 (by omega) (by omega))⟩
theorem takeP_len {n : Nat} {l x r : List Int} (h : takeP n l = .ok x r) : x.length = n := by
  unfold takeP at h
  split at h
  · cases h
  · cases h
    rw [List.length_take]
    omega
set_option maxHeartbeats 4000000 in
set_option maxRecDepth 100000 in
theorem seg1_calls (w0 w1 : World) (g cb n : Nat) (A : Option Addr) (c : Nat) (b : List Int) (hi : In w0 A c b) (h : RS w0 w1 g A c b b) (hne : cb ≠ g) (hge : w0.heap.size ≤ cb) (hn : n ≤ w1.heap.size) (hy : w1.heap[cb]? = some (.cells (SGc 0 0 0 0 (.slice none 0 0)) 47 (0, 0))) :
    Calls Try.prog 79 #[.pointer (some ⟨g, 0, none⟩), .pointer (some ⟨cb, 0, none⟩)] w1 fun e w' => Fld w0 w1 g (fun k => k = cb) A c b (segP b) (YB cb 47 5) (XS n cb) e w' := by
  have HI := Aside0.mk hi
  have HNE := Aside0.mk (And.intro hne (And.intro hge hn))
  have H0 : Aside0 (Ks (fun k => k = g ∨ k = cb) w1 w1 ∧ RS w0 w1 g A c b b ∧ w1.heap[cb]? = some (.cells (SGc 0 0 0 0 (.slice none 0 0)) 47 (0, 0))) := ⟨⟨Nat.le_refl _, fun _ _ _ => rfl⟩, h, hy⟩
  have HP : Aside0 (segP b = (bnd (numP 0 15) fun f => bnd (numP 0 15) fun t => bnd (numP 0 big) fun q => bnd (numP 0 big) fun a => bnd (numP (if q = 0 then 0 else 1) (if q = 0 then 0 else 4000)) fun n => bnd (takeP n.toNat) fun d => ret ⟨f, t, q, a, d⟩) b) := ⟨rfl⟩
  rw [show (big : Int) = 1099511627776 from rfl] at HP
  have hu47 := Try.underlying47
  clear hi h hne hge hn hy
  go_enter Try.func79, Try.ntmps79
  rcases h0 : numP 0 15 b with n0 | ⟨f, l1⟩
  · have HQ : Aside0 (segP b = .bad n0) := ⟨by rw [HP.out, bnd_bad h0]⟩
    go_wp2_with (go_at_call 80; refine (num_calls w0 _ g A c b b 0 15 (by decide) (by decide) (by decide) HI.out H0.out.2.1).mono ?_; rintro e we ⟨hk, hb, hm⟩; simp only [h0, pan] at hm; subst hm; have HE := Aside0.mk (And.intro hk hb); clear hk hb)
    refine ⟨rfl, H0.out.1.trans ⟨HE.out.1.size, fun i hi hs => HE.out.1.block i hi (fun e => hs (.inl e))⟩, HE.out.2, ⟨_, kb_blk HE.out.1 HNE.out.1 H0.out.2.2, rfl⟩, ?_⟩
    rw [HQ.out]
    rfl
  · rcases h1 : numP 0 15 l1 with n0 | ⟨t, l2⟩
    · have HQ : Aside0 (segP b = .bad n0) := ⟨by rw [HP.out, bnd_ok h0, bnd_bad h1]⟩
      go_wp2_with (first | (go_at_call 80; refine (num_calls w0 _ g A c b l1 0 15 (by decide) (by decide) (by decide) HI.out HK.out.2).mono ?_; rintro e we ⟨hk, hb, hm⟩; simp only [h1, pan] at hm; subst hm; have HE := Aside0.mk (And.intro hk hb); clear hk hb) | (go_at_call 80; refine (num_calls w0 _ g A c b b 0 15 (by decide) (by decide) (by decide) HI.out H0.out.2.1).mono ?_; rintro e wa ⟨hk, hb, hm⟩; simp only [h0] at hm; obtain ⟨rfl, hs1⟩ := hm; have HX := Aside0.mk (kb_blk hk HNE.out.1 H0.out.2.2); have HK := Aside0.mk (And.intro hk hs1); clear hk hb hs1))
      refine ⟨rfl, H0.out.1.trans (Ks.trans ⟨HK.out.1.size, fun i hi hs => HK.out.1.block i hi (fun e => hs (.inl e))⟩ ⟨HE.out.1.size, fun i hi hs => HE.out.1.block i hi (fun e => hs (.inl e))⟩), HE.out.2, ⟨_, kb_blk HE.out.1 HNE.out.1 HX.out, rfl⟩, ?_⟩
      rw [HQ.out]
      rfl
    · go_upto_region 1 with (first | (go_at_call 80; refine (num_calls w0 _ g A c b l1 0 15 (by decide) (by decide) (by decide) HI.out HK.out.2).mono ?_; rintro e wb ⟨hk, hb, hm⟩; simp only [h1] at hm; obtain ⟨rfl, hs1⟩ := hm; have HX2 := Aside0.mk (kb_blk hk HNE.out.1 HX.out); have HK2 := Aside0.mk (And.intro (HK.out.1.trans hk) hs1); clear hk hb hs1; have kc0 : wb.cell? ⟨cb, 0, none⟩ = some (.int .i64 0) := (blk_cell HX2.out 0).trans rfl; have kf0 := blk_frozen HX2.out 0; have kc1 : wb.cell? ⟨cb, 1, none⟩ = some (.int .i64 0) := (blk_cell HX2.out 1).trans rfl; have kf1 := blk_frozen HX2.out 1) | (go_at_call 80; refine (num_calls w0 _ g A c b b 0 15 (by decide) (by decide) (by decide) HI.out H0.out.2.1).mono ?_; rintro e wa ⟨hk, hb, hm⟩; simp only [h0] at hm; obtain ⟨rfl, hs1⟩ := hm; have HX := Aside0.mk (kb_blk hk HNE.out.1 H0.out.2.2); have HK := Aside0.mk (And.intro hk hs1); clear hk hb hs1))
      obtain ⟨w2, hw2⟩ : ∃ w2, w2 = (wb.setCell ⟨cb, 0, none⟩ (.int .i64 f)).setCell ⟨cb, 1, none⟩ (.int .i64 t) := ⟨_, rfl⟩
      have hbk := blk_set (blk_set HX2.out 0 (.int .i64 f)) 1 (.int .i64 t)
      have H1 : Aside0 (Ks (fun k => k = g ∨ k = cb) w1 w2 ∧ RS w0 w2 g A c b l2 ∧ w2.heap[cb]? = some (.cells (SGc f t 0 0 (.slice none 0 0)) 47 (0, 0))) := ⟨by
        rw [hw2]
        exact ⟨H0.out.1.trans (Ks.set (Ks.set ⟨HK2.out.1.size, fun i hi hs => HK2.out.1.block i hi (fun e => hs (.inl e))⟩ _ _ _ (.inl (.inr rfl))) _ _ _ (.inl (.inr rfl))), (HK2.out.2.setOther HNE.out.1 HNE.out.2.1 0 _).setOther HNE.out.1 HNE.out.2.1 1 _, hbk⟩⟩
      rw [← hw2]
      clear hw2 hbk HX HX2 HK HK2 kc0 kc1 kf0 kf1
      rcases h2 : numP 0 1099511627776 l2 with n0 | ⟨q, l3⟩
      · have HQ : Aside0 (segP b = .bad n0) := ⟨by rw [HP.out, bnd_ok h0, bnd_ok h1, bnd_bad h2]⟩
        go_wp2_with (go_at_call 80; refine (num_calls w0 _ g A c b l2 0 1099511627776 (by decide) (by decide) (by decide) HI.out H1.out.2.1).mono ?_; rintro e we ⟨hk, hb, hm⟩; simp only [h2, pan] at hm; subst hm; have HE := Aside0.mk (And.intro hk hb); clear hk hb)
        refine ⟨rfl, H1.out.1.trans ⟨HE.out.1.size, fun i hi hs => HE.out.1.block i hi (fun e => hs (.inl e))⟩, HE.out.2, ⟨_, kb_blk HE.out.1 HNE.out.1 H1.out.2.2, rfl⟩, ?_⟩
        rw [HQ.out]
        rfl
      · rcases h3 : numP 0 1099511627776 l3 with n0 | ⟨a, l4⟩
        · have HQ : Aside0 (segP b = .bad n0) := ⟨by rw [HP.out, bnd_ok h0, bnd_ok h1, bnd_ok h2, bnd_bad h3]⟩
          go_wp2_with (first | (go_at_call 80; refine (num_calls w0 _ g A c b l3 0 1099511627776 (by decide) (by decide) (by decide) HI.out HK.out.2).mono ?_; rintro e we ⟨hk, hb, hm⟩; simp only [h3, pan] at hm; subst hm; have HE := Aside0.mk (And.intro hk hb); clear hk hb) | (go_at_call 80; refine (num_calls w0 _ g A c b l2 0 1099511627776 (by decide) (by decide) (by decide) HI.out H1.out.2.1).mono ?_; rintro e wa ⟨hk, hb, hm⟩; simp only [h2] at hm; obtain ⟨rfl, hs1⟩ := hm; have HX := Aside0.mk (kb_blk hk HNE.out.1 H1.out.2.2); have HK := Aside0.mk (And.intro hk hs1); clear hk hb hs1))
          refine ⟨rfl, H1.out.1.trans (Ks.trans ⟨HK.out.1.size, fun i hi hs => HK.out.1.block i hi (fun e => hs (.inl e))⟩ ⟨HE.out.1.size, fun i hi hs => HE.out.1.block i hi (fun e => hs (.inl e))⟩), HE.out.2, ⟨_, kb_blk HE.out.1 HNE.out.1 HX.out, rfl⟩, ?_⟩
          rw [HQ.out]
          rfl
        · go_upto_region 2 with (first | (go_at_call 80; refine (num_calls w0 _ g A c b l3 0 1099511627776 (by decide) (by decide) (by decide) HI.out HK.out.2).mono ?_; rintro e wb ⟨hk, hb, hm⟩; simp only [h3] at hm; obtain ⟨rfl, hs1⟩ := hm; have HX2 := Aside0.mk (kb_blk hk HNE.out.1 HX.out); have HK2 := Aside0.mk (And.intro (HK.out.1.trans hk) hs1); clear hk hb hs1; have kc0 : wb.cell? ⟨cb, 2, none⟩ = some (.int .i64 0) := (blk_cell HX2.out 2).trans rfl; have kf0 := blk_frozen HX2.out 2; have kc1 : wb.cell? ⟨cb, 3, none⟩ = some (.int .i64 0) := (blk_cell HX2.out 3).trans rfl; have kf1 := blk_frozen HX2.out 3) | (go_at_call 80; refine (num_calls w0 _ g A c b l2 0 1099511627776 (by decide) (by decide) (by decide) HI.out H1.out.2.1).mono ?_; rintro e wa ⟨hk, hb, hm⟩; simp only [h2] at hm; obtain ⟨rfl, hs1⟩ := hm; have HX := Aside0.mk (kb_blk hk HNE.out.1 H1.out.2.2); have HK := Aside0.mk (And.intro hk hs1); clear hk hb hs1))
          obtain ⟨w3, hw3⟩ : ∃ w3, w3 = (wb.setCell ⟨cb, 2, none⟩ (.int .i64 q)).setCell ⟨cb, 3, none⟩ (.int .i64 a) := ⟨_, rfl⟩
          have hbk := blk_set (blk_set HX2.out 2 (.int .i64 q)) 3 (.int .i64 a)
          have H2 : Aside0 (Ks (fun k => k = g ∨ k = cb) w1 w3 ∧ RS w0 w3 g A c b l4 ∧ w3.heap[cb]? = some (.cells (SGc f t q a (.slice none 0 0)) 47 (0, 0))) := ⟨by
            rw [hw3]
            exact ⟨H1.out.1.trans (Ks.set (Ks.set ⟨HK2.out.1.size, fun i hi hs => HK2.out.1.block i hi (fun e => hs (.inl e))⟩ _ _ _ (.inl (.inr rfl))) _ _ _ (.inl (.inr rfl))), (HK2.out.2.setOther HNE.out.1 HNE.out.2.1 2 _).setOther HNE.out.1 HNE.out.2.1 3 _, hbk⟩⟩
          rw [← hw3]
          clear hw3 hbk HX HX2 HK HK2 kc0 kc1 kf0 kf1
          have kc2 : w3.cell? ⟨cb, 2, none⟩ = some (.int .i64 q) := (blk_cell H2.out.2.2 2).trans rfl
          have kf2 := blk_frozen H2.out.2.2 2
          by_cases hz : q = 0
          · have hz2 : (q == 0) = true := by simp [hz]
            go_upto_region 5 with fail
            clear kc2 kf2
            have HP5 : Aside0 (segP b = (bnd (numP 0 0) fun n => bnd (takeP n.toNat) fun d => ret ⟨f, t, q, a, d⟩) l4) := ⟨by rw [HP.out, bnd_ok h0, bnd_ok h1, bnd_ok h2, bnd_ok h3, if_pos hz, if_pos hz]⟩
            rcases h4 : numP 0 0 l4 with n0 | ⟨nn, l5⟩
            · have HQ : Aside0 (segP b = .bad n0) := ⟨by rw [HP5.out, bnd_bad h4]⟩
              go_wp2_with (go_at_call 80; refine (num_calls w0 _ g A c b l4 0 0 (by decide) (by decide) (by decide) HI.out H2.out.2.1).mono ?_; rintro e we ⟨hk, hb, hm⟩; simp only [h4, pan] at hm; subst hm; have HE := Aside0.mk (And.intro hk hb); clear hk hb)
              refine ⟨rfl, H2.out.1.trans ⟨HE.out.1.size, fun i hi hs => HE.out.1.block i hi (fun e => hs (.inl e))⟩, HE.out.2, ⟨_, kb_blk HE.out.1 HNE.out.1 H2.out.2.2, rfl⟩, ?_⟩
              rw [HQ.out]
              rfl
            · have hc := (numP_codec 0 0 (by decide) (by decide)).one l4 nn l5 (H2.out.2.1.isB HI.out.isB) h4
              obtain ⟨m, rfl⟩ : ∃ m : Nat, nn = (m : Int) := ⟨nn.toNat, by omega⟩
              have HM : Aside0 (m ≤ 1000000) := ⟨by omega⟩
              have HM2 : Aside0 (m ≤ 4000) := ⟨by omega⟩
              clear hc
              rcases h5 : takeP m l5 with n0 | ⟨d, l6⟩
              · have HQ : Aside0 (segP b = .bad n0) := ⟨by rw [HP5.out, bnd_ok h4, Int.toNat_natCast, bnd_bad h5]⟩
                go_wp2_with (first | (go_at_call 80; refine (num_calls w0 _ g A c b l4 0 0 (by decide) (by decide) (by decide) HI.out H2.out.2.1).mono ?_; rintro e wa ⟨hk, hb, hm⟩; simp only [h4] at hm; obtain ⟨rfl, hs1⟩ := hm; have HX := Aside0.mk (kb_blk hk HNE.out.1 H2.out.2.2); have HK := Aside0.mk (And.intro hk hs1); clear hk hb hs1) | (go_at_call 81; refine (bytes_calls w0 _ g A c b l5 m HM.out HI.out HK.out.2).mono ?_; rintro e we ⟨hk, hb, hm⟩; simp only [h5, pan] at hm; subst hm; have HE := Aside0.mk (And.intro hk hb); clear hk hb))
                refine ⟨rfl, H2.out.1.trans (Ks.trans ⟨HK.out.1.size, fun i hi hs => HK.out.1.block i hi (fun e => hs (.inl e))⟩ ⟨HE.out.1.size, fun i hi hs => HE.out.1.block i hi (fun e => hs (.inl e))⟩), HE.out.2, ⟨_, kb_blk HE.out.1 HNE.out.1 HX.out, rfl⟩, ?_⟩
                rw [HQ.out]
                rfl
              · have HQ : Aside0 (segP b = .ok ⟨f, t, q, a, d⟩ l6) := ⟨by rw [HP5.out, bnd_ok h4, Int.toNat_natCast, bnd_ok h5]; rfl⟩
                have HD : Aside0 (d.length ≤ 4000) := ⟨by have := takeP_len h5; have := HM2.out; omega⟩
                go_upto_region 6 with (first | (go_at_call 80; refine (num_calls w0 _ g A c b l4 0 0 (by decide) (by decide) (by decide) HI.out H2.out.2.1).mono ?_; rintro e wa ⟨hk, hb, hm⟩; simp only [h4] at hm; obtain ⟨rfl, hs1⟩ := hm; have HX := Aside0.mk (kb_blk hk HNE.out.1 H2.out.2.2); have HK := Aside0.mk (And.intro hk hs1); clear hk hb hs1) | (go_at_call 81; refine (bytes_calls w0 _ g A c b l5 m HM.out HI.out HK.out.2).mono ?_; rintro e wb ⟨hk, hb, hm⟩; simp only [h5] at hm; obtain ⟨⟨A1, c1, rfl, hc1, hC⟩, hs1⟩ := hm; have HX2 := Aside0.mk (kb_blk hk HNE.out.1 HX.out); have HK2 := Aside0.mk (And.intro (HK.out.1.trans hk) hs1); have HC := Aside0.mk (Kd.C_below hC hb); clear hk hb hs1 hc1 hC))
                have HHD : Aside0 ((0 + d.length) * 1 ≤ 140737488355328) := ⟨by have := HD.out; omega⟩
                go_wp2_with ((with_reducible refine gate_dst (N := 32) rfl ?_); refine Kd.R_append_rows (Kd.int .u8) (Rr := Kd.K (Kd.int .u8) wb) (w0 := wb) wb.heap.size rfl (.const (.slice none 0 0)) (.tmp 31) 36 5 (.int .u8 0) 1 (by rfl) Try.underlying36 inf8 rfl (by decide) (by decide) (.slice none 0 0) [] d A1 d.length c1 (fun _ => True) (fun _ => False) (by rfl) (by rfl) (Kd.R_nil _ _ _ _ _) HC.out kM8 (fun _ hk => hk.elim) (fun _ _ => trivial) (Below.refl _ _) (Nat.le_refl _) HHD.out ?_; intro v wc hR hB hg hat; rw [List.nil_append] at hR; obtain ⟨Av, cv, rfl⟩ := Kd.R_slice hR; have HR := Aside0.mk hR; have HX3 := Aside0.mk (blk_keep hB HX2.out); have HB3 := Aside0.mk hB; clear hR hB hg hat; have kc0 : wc.cell? ⟨cb, 4, none⟩ = some (.slice none 0 0) := (blk_cell HX3.out 4).trans rfl; have kf0 := blk_frozen HX3.out 4)
                (first | go_end0 | ((try simp only [Exit.inBlock, Exit.then]); refine bodyPost_ret (results_none rfl _ _ _) rfl ?_))
                have hbk := blk_set HX3.out 4 (.slice Av d.length cv)
                have hrs := (HK2.out.2.below HB3.out).setOther HNE.out.1 HNE.out.2.1 4 (.slice Av d.length cv)
                have hks : Ks (fun k => k = g ∨ k = cb) w1 wc := (H2.out.1.trans ⟨HK2.out.1.size, fun i hi hs => HK2.out.1.block i hi (fun e => hs (.inl e))⟩).trans ⟨HB3.out.size, fun i hi hs => HB3.out.block i hi⟩
                have hcb := blk_lt HX2.out
                refine ⟨Ks.set hks _ _ _ (.inl (.inr rfl)), hrs.bel, ⟨_, hbk, rfl⟩, ?_⟩
                rw [HQ.out]
                refine ⟨rfl, hrs, .slice Av d.length cv, hbk, Kd.R_lower (R_keep2 (w1 := wc) HR.out (fun k h1 h2 => Below.heap_setCell wc ⟨cb, 4, none⟩ _ k (fun e => by have : k = cb := e; omega))) (Nat.le_trans HNE.out.2.2 (H2.out.1.trans ⟨HK2.out.1.size, fun i hi hs => HK2.out.1.block i hi (fun e => hs (.inl e))⟩).size)⟩
          · have hz2 : (q == 0) = false := by simp [hz]
            go_upto_region 5 with fail
            clear kc2 kf2
            have HP5 : Aside0 (segP b = (bnd (numP 1 4000) fun n => bnd (takeP n.toNat) fun d => ret ⟨f, t, q, a, d⟩) l4) := ⟨by rw [HP.out, bnd_ok h0, bnd_ok h1, bnd_ok h2, bnd_ok h3, if_neg hz, if_neg hz]⟩
            rcases h4 : numP 1 4000 l4 with n0 | ⟨nn, l5⟩
            · have HQ : Aside0 (segP b = .bad n0) := ⟨by rw [HP5.out, bnd_bad h4]⟩
              go_wp2_with (go_at_call 80; refine (num_calls w0 _ g A c b l4 1 4000 (by decide) (by decide) (by decide) HI.out H2.out.2.1).mono ?_; rintro e we ⟨hk, hb, hm⟩; simp only [h4, pan] at hm; subst hm; have HE := Aside0.mk (And.intro hk hb); clear hk hb)
              refine ⟨rfl, H2.out.1.trans ⟨HE.out.1.size, fun i hi hs => HE.out.1.block i hi (fun e => hs (.inl e))⟩, HE.out.2, ⟨_, kb_blk HE.out.1 HNE.out.1 H2.out.2.2, rfl⟩, ?_⟩
              rw [HQ.out]
              rfl
            · have hc := (numP_codec 1 4000 (by decide) (by decide)).one l4 nn l5 (H2.out.2.1.isB HI.out.isB) h4
              obtain ⟨m, rfl⟩ : ∃ m : Nat, nn = (m : Int) := ⟨nn.toNat, by omega⟩
              have HM : Aside0 (m ≤ 1000000) := ⟨by omega⟩
              have HM2 : Aside0 (m ≤ 4000) := ⟨by omega⟩
              clear hc
              rcases h5 : takeP m l5 with n0 | ⟨d, l6⟩
              · have HQ : Aside0 (segP b = .bad n0) := ⟨by rw [HP5.out, bnd_ok h4, Int.toNat_natCast, bnd_bad h5]⟩
                go_wp2_with (first | (go_at_call 80; refine (num_calls w0 _ g A c b l4 1 4000 (by decide) (by decide) (by decide) HI.out H2.out.2.1).mono ?_; rintro e wa ⟨hk, hb, hm⟩; simp only [h4] at hm; obtain ⟨rfl, hs1⟩ := hm; have HX := Aside0.mk (kb_blk hk HNE.out.1 H2.out.2.2); have HK := Aside0.mk (And.intro hk hs1); clear hk hb hs1) | (go_at_call 81; refine (bytes_calls w0 _ g A c b l5 m HM.out HI.out HK.out.2).mono ?_; rintro e we ⟨hk, hb, hm⟩; simp only [h5, pan] at hm; subst hm; have HE := Aside0.mk (And.intro hk hb); clear hk hb))
                refine ⟨rfl, H2.out.1.trans (Ks.trans ⟨HK.out.1.size, fun i hi hs => HK.out.1.block i hi (fun e => hs (.inl e))⟩ ⟨HE.out.1.size, fun i hi hs => HE.out.1.block i hi (fun e => hs (.inl e))⟩), HE.out.2, ⟨_, kb_blk HE.out.1 HNE.out.1 HX.out, rfl⟩, ?_⟩
                rw [HQ.out]
                rfl
              · have HQ : Aside0 (segP b = .ok ⟨f, t, q, a, d⟩ l6) := ⟨by rw [HP5.out, bnd_ok h4, Int.toNat_natCast, bnd_ok h5]; rfl⟩
                have HD : Aside0 (d.length ≤ 4000) := ⟨by have := takeP_len h5; have := HM2.out; omega⟩
                go_upto_region 6 with (first | (go_at_call 80; refine (num_calls w0 _ g A c b l4 1 4000 (by decide) (by decide) (by decide) HI.out H2.out.2.1).mono ?_; rintro e wa ⟨hk, hb, hm⟩; simp only [h4] at hm; obtain ⟨rfl, hs1⟩ := hm; have HX := Aside0.mk (kb_blk hk HNE.out.1 H2.out.2.2); have HK := Aside0.mk (And.intro hk hs1); clear hk hb hs1) | (go_at_call 81; refine (bytes_calls w0 _ g A c b l5 m HM.out HI.out HK.out.2).mono ?_; rintro e wb ⟨hk, hb, hm⟩; simp only [h5] at hm; obtain ⟨⟨A1, c1, rfl, hc1, hC⟩, hs1⟩ := hm; have HX2 := Aside0.mk (kb_blk hk HNE.out.1 HX.out); have HK2 := Aside0.mk (And.intro (HK.out.1.trans hk) hs1); have HC := Aside0.mk (Kd.C_below hC hb); clear hk hb hs1 hc1 hC))
                have HHD : Aside0 ((0 + d.length) * 1 ≤ 140737488355328) := ⟨by have := HD.out; omega⟩
                go_wp2_with ((with_reducible refine gate_dst (N := 32) rfl ?_); refine Kd.R_append_rows (Kd.int .u8) (Rr := Kd.K (Kd.int .u8) wb) (w0 := wb) wb.heap.size rfl (.const (.slice none 0 0)) (.tmp 31) 36 5 (.int .u8 0) 1 (by rfl) Try.underlying36 inf8 rfl (by decide) (by decide) (.slice none 0 0) [] d A1 d.length c1 (fun _ => True) (fun _ => False) (by rfl) (by rfl) (Kd.R_nil _ _ _ _ _) HC.out kM8 (fun _ hk => hk.elim) (fun _ _ => trivial) (Below.refl _ _) (Nat.le_refl _) HHD.out ?_; intro v wc hR hB hg hat; rw [List.nil_append] at hR; obtain ⟨Av, cv, rfl⟩ := Kd.R_slice hR; have HR := Aside0.mk hR; have HX3 := Aside0.mk (blk_keep hB HX2.out); have HB3 := Aside0.mk hB; clear hR hB hg hat; have kc0 : wc.cell? ⟨cb, 4, none⟩ = some (.slice none 0 0) := (blk_cell HX3.out 4).trans rfl; have kf0 := blk_frozen HX3.out 4)
                (first | go_end0 | ((try simp only [Exit.inBlock, Exit.then]); refine bodyPost_ret (results_none rfl _ _ _) rfl ?_))
                have hbk := blk_set HX3.out 4 (.slice Av d.length cv)
                have hrs := (HK2.out.2.below HB3.out).setOther HNE.out.1 HNE.out.2.1 4 (.slice Av d.length cv)
                have hks : Ks (fun k => k = g ∨ k = cb) w1 wc := (H2.out.1.trans ⟨HK2.out.1.size, fun i hi hs => HK2.out.1.block i hi (fun e => hs (.inl e))⟩).trans ⟨HB3.out.size, fun i hi hs => HB3.out.block i hi⟩
                have hcb := blk_lt HX2.out
                refine ⟨Ks.set hks _ _ _ (.inl (.inr rfl)), hrs.bel, ⟨_, hbk, rfl⟩, ?_⟩
                rw [HQ.out]
                refine ⟨rfl, hrs, .slice Av d.length cv, hbk, Kd.R_lower (R_keep2 (w1 := wc) HR.out (fun k h1 h2 => Below.heap_setCell wc ⟨cb, 4, none⟩ _ k (fun e => by have : k = cb := e; omega))) (Nat.le_trans HNE.out.2.2 (H2.out.1.trans ⟨HK2.out.1.size, fun i hi hs => HK2.out.1.block i hi (fun e => hs (.inl e))⟩).size)⟩
theorem sg_one (f t q a : Int) (A : Option Addr) (n c : Nat) : (SGc f t q a (.slice A n c)).all (·.oneCell') = true := by simp [SGc, Value.oneCell']
theorem inf47 : (Try.prog.info? 47).map (·.size) = some 5 := by kernel_rfl
theorem build_zeroS (a : Act) (W : World) {o : Oper} (ho : o.op = .build 47 #[]) : (execOp a.eval o).run Try.prog W = .ok (.value (.agg (SGc 0 0 0 0 (.slice none 0 0)))) W := by
  unfold execOp
  rw [ho]
  have hu47 := Try.underlying47
  have h : (Instr.build 47 #[]).run Try.prog W = .ok (.agg (SGc 0 0 0 0 (.slice none 0 0))) W := by kernel_rfl
  simp [h]
/-- What DecodeSegment answers: the segment, its data in new memory, the place, the error. -/
def DecSP (w : World) (x : Seg × Int × Int) (e : Ending) (w' : World) : Prop :=
  Below w.heap.size w w' ∧ ∃ A1 c1, e = .returned (.tuple #[SV x.1 A1 c1, .int .i64 x.2.1, .int .i64 x.2.2]) ∧ Kd.R (Kd.int .u8) 5 w' w.heap.size (fun _ => True) (.slice A1 x.1.data.length c1) x.1.data
set_option maxHeartbeats 4000000 in
set_option maxRecDepth 100000 in
theorem decseg_calls (w : World) (A : Option Addr) (c : Nat) (b : List Int) (hi : In w A c b) :
    Calls Try.prog 28 #[.slice A b.length c] w fun e w' => DecSP w (whole zSeg segP b) e w' := by
  have hmf : ∀ (fn : Fn) (first cap : Array Value) (w : World), (Instr.makeFunc fn first cap).run Try.prog w = .ok (.func fn first cap) w := fun _ _ _ _ => rfl
  obtain ⟨wa, hwa⟩ : ∃ wa, wa = w.alloc (.cells (SGc 0 0 0 0 (.slice none 0 0)) 47 (0, 0)) := ⟨_, rfl⟩
  have HWA := Aside0.mk hwa
  have HB : Aside0 (Below w.heap.size w wa ∧ wa.heap.size = w.heap.size + 1 ∧ wa.heap[w.heap.size]? = some (.cells (SGc 0 0 0 0 (.slice none 0 0)) 47 (0, 0))) := ⟨by rw [hwa]; exact ⟨al_below w _, by simp, heap_alloc_new w _⟩⟩
  have HRD : Aside0 (Calls Try.prog 59 #[.slice A b.length c, .func (Fn.func 79) #[] #[.pointer (some ⟨w.heap.size, 0, none⟩)]] wa fun e w' => ReadP w wa (fun k => k = w.heap.size) b (segP b) (YB w.heap.size 47 5) (XS (wa.heap.size + 1 + 1) w.heap.size) e w') := ⟨by
    have hsz := HB.out.2.1
    refine read_seg w.heap.size w wa A c b _ (segP b) _ _ hi HB.out.1 (fun k hk => by omega) (fun k hk => by omega) (stable_Y (by omega) (by omega)) (fun m => stable_XS (by omega) m) ?_
    intro w1 hb1 hs1 hr1
    exact seg1_calls w w1 _ w.heap.size _ A c b hi hr1 (by omega) (Nat.le_refl _) (by omega) (blk_keep hb1 HB.out.2.2)⟩
  have hu47 := Try.underlying47
  clear hwa hi
  rw [show SGc 0 0 0 0 (.slice none 0 0) = #[.int .i64 0, .int .i64 0, .int .i64 0, .int .i64 0, .slice none 0 0] from rfl] at HWA
  go_enter Try.func28, Try.ntmps28
  go_upto_region 1 with fail
  rw [← HWA.out]
  go_upto_region 2 with (go_at_call 59; refine HRD.out.mono ?_; rintro e w2 ⟨hks, hbl, hy, pt, er, rfl, hm⟩; have HK := Aside0.mk (And.intro hks (And.intro hbl (And.intro hy hm))); clear hks hbl hy hm)
  rcases hp : segP b with k | ⟨m, l⟩
  · have HW : Aside0 (whole zSeg segP b = (zSeg, (b.length : Int) - k, 20)) := ⟨by unfold whole; rw [hp]⟩
    rw [hp] at HK
    obtain ⟨old, ho, hos⟩ := HK.out.2.2.1
    (try obtain ⟨rfl, rfl⟩ := HK.out.2.2.2)
    have HC := Aside0.mk (And.intro ho hos)
    have HB3 := Aside0.mk (setRow_blk ho (SGc 0 0 0 0 (.slice none 0 0)))
    clear ho hos
    go_wp2_with (first | ((with_reducible refine gate_dst (N := 13) rfl ?_); refine Kd.event_run (v := .agg (SGc 0 0 0 0 (.slice none 0 0))) (w1 := w2) rfl (build_zeroS _ _ rfl) ?_; go_loud (refine wpList_store_row rfl 47 (.tmp 2) (.tmp 13) rfl w.heap.size (SGc 0 0 0 0 (.slice none 0 0)) (by rfl) (by rfl) 47 _ HC.out.1 inf47 HC.out.2 (sg_one _ _ _ _ _ _ _) ?_)) | ((with_reducible refine gate_dst (N := 14) rfl ?_); refine wpList_load_row rfl 47 (.tmp 2) rfl w.heap.size (by rfl) 47 (SGc 0 0 0 0 (.slice none 0 0)) (0, 0) _ HB3.out Try.underlying47 rfl inf47 ?_; refine Kd.event_run (v := .int .i64 ((b.length : Int) - k)) rfl (by rfl) ?_; refine Kd.event_run (v := .int .i64 (20)) rfl (by rfl) ?_; go_loud (refine wpList_store_row rfl 47 (.tmp 2) (.tmp 14) rfl w.heap.size (SGc 0 0 0 0 (.slice none 0 0)) (by rfl) (by rfl) 47 _ HB3.out inf47 rfl (sg_one _ _ _ _ _ _ _) ?_)))
    have HB4 := setRow_blk HB3.out (SGc 0 0 0 0 (.slice none 0 0))
    (try simp only [Exit.inBlock, Exit.then])
    refine bodyPost_ret (v := .tuple #[.agg (SGc 0 0 0 0 (.slice none 0 0)), .int .i64 ((b.length : Int) - k), .int .i64 20]) ?_ rfl ?_
    · exact results_cell_two (fn := Try.f28) (p := 2) (q := 3) (r := 4) rfl _ _ w.heap.size 47 _ (0, 0) _ (by rfl) HB4 hu47 rfl inf47
    refine ⟨below_setRow (below_setRow HK.out.2.1 (Nat.le_refl _) _) (Nat.le_refl _) _, none, 0, ?_, ?_⟩
    · rw [HW.out]; rfl
    · rw [HW.out]; exact Kd.R_nil _ _ _ _ _
  · rcases l with _ | ⟨d, l⟩
    · have HW : Aside0 (whole zSeg segP b = (m, 0, 0)) := ⟨by unfold whole; rw [hp]⟩
      rw [hp] at HK
      obtain ⟨hpt, her, v, hbk, hR⟩ := HK.out.2.2.2
      subst hpt her
      obtain ⟨A1, c1, rfl⟩ := Kd.R_slice hR
      have HC := Aside0.mk hbk
      have HR := Aside0.mk hR
      clear hbk hR
      go_wp2_with ((with_reducible refine gate_dst (N := 14) rfl ?_); refine wpList_load_row rfl 47 (.tmp 2) rfl w.heap.size (by rfl) 47 (SGc m.src m.dst m.seq m.ack (.slice A1 m.data.length c1)) (0, 0) _ HC.out Try.underlying47 rfl inf47 ?_; refine Kd.event_run (v := .int .i64 (0)) rfl (by rfl) ?_; refine Kd.event_run (v := .int .i64 (0)) rfl (by rfl) ?_; go_loud (refine wpList_store_row rfl 47 (.tmp 2) (.tmp 14) rfl w.heap.size (SGc m.src m.dst m.seq m.ack (.slice A1 m.data.length c1)) (by rfl) (by rfl) 47 _ HC.out inf47 rfl (sg_one _ _ _ _ _ _ _) ?_))
      have HB4 := setRow_blk HC.out (SGc m.src m.dst m.seq m.ack (.slice A1 m.data.length c1))
      (try simp only [Exit.inBlock, Exit.then])
      refine bodyPost_ret (v := .tuple #[.agg (SGc m.src m.dst m.seq m.ack (.slice A1 m.data.length c1)), .int .i64 0, .int .i64 0]) ?_ rfl ?_
      · exact results_cell_two (fn := Try.f28) (p := 2) (q := 3) (r := 4) rfl _ _ w.heap.size 47 _ (0, 0) _ (by rfl) HB4 hu47 rfl inf47
      refine ⟨below_setRow HK.out.2.1 (Nat.le_refl _) _, A1, c1, ?_, ?_⟩
      · rw [HW.out]; rfl
      · rw [HW.out]
        have hsz := HB.out.2.1
        exact Kd.R_lower (R_keep2 HR.out (fun k h1 h2 => setRow_far (by omega) _)) (by omega)
    · have HW : Aside0 (whole zSeg segP b = (zSeg, (b.length : Int) - (l.length + 1), 20)) := ⟨by unfold whole; rw [hp]⟩
      rw [hp] at HK
      obtain ⟨old, ho, hos⟩ := HK.out.2.2.1
      (try obtain ⟨rfl, rfl⟩ := HK.out.2.2.2)
      have HC := Aside0.mk (And.intro ho hos)
      have HB3 := Aside0.mk (setRow_blk ho (SGc 0 0 0 0 (.slice none 0 0)))
      clear ho hos
      go_wp2_with (first | ((with_reducible refine gate_dst (N := 13) rfl ?_); refine Kd.event_run (v := .agg (SGc 0 0 0 0 (.slice none 0 0))) (w1 := w2) rfl (build_zeroS _ _ rfl) ?_; go_loud (refine wpList_store_row rfl 47 (.tmp 2) (.tmp 13) rfl w.heap.size (SGc 0 0 0 0 (.slice none 0 0)) (by rfl) (by rfl) 47 _ HC.out.1 inf47 HC.out.2 (sg_one _ _ _ _ _ _ _) ?_)) | ((with_reducible refine gate_dst (N := 14) rfl ?_); refine wpList_load_row rfl 47 (.tmp 2) rfl w.heap.size (by rfl) 47 (SGc 0 0 0 0 (.slice none 0 0)) (0, 0) _ HB3.out Try.underlying47 rfl inf47 ?_; refine Kd.event_run (v := .int .i64 ((b.length : Int) - (l.length + 1))) rfl (by rfl) ?_; refine Kd.event_run (v := .int .i64 (20)) rfl (by rfl) ?_; go_loud (refine wpList_store_row rfl 47 (.tmp 2) (.tmp 14) rfl w.heap.size (SGc 0 0 0 0 (.slice none 0 0)) (by rfl) (by rfl) 47 _ HB3.out inf47 rfl (sg_one _ _ _ _ _ _ _) ?_)))
      have HB4 := setRow_blk HB3.out (SGc 0 0 0 0 (.slice none 0 0))
      (try simp only [Exit.inBlock, Exit.then])
      refine bodyPost_ret (v := .tuple #[.agg (SGc 0 0 0 0 (.slice none 0 0)), .int .i64 ((b.length : Int) - (l.length + 1)), .int .i64 20]) ?_ rfl ?_
      · exact results_cell_two (fn := Try.f28) (p := 2) (q := 3) (r := 4) rfl _ _ w.heap.size 47 _ (0, 0) _ (by rfl) HB4 hu47 rfl inf47
      refine ⟨below_setRow (below_setRow HK.out.2.1 (Nat.le_refl _) _) (Nat.le_refl _) _, none, 0, ?_, ?_⟩
      · rw [HW.out]; rfl
      · rw [HW.out]; exact Kd.R_nil _ _ _ _ _
end Go.Proofs.Ytpgdmmjbhjbbhaa.Rd
end
section
namespace Go.Proofs.Ytpgdmmjbhjbbhaa.Sp
open Go Go.RowKit Go.Proofs.Ytpgdmmjbhjbbhaa.P Go.Proofs.YtpgdmmjbhjbbhaaW.PrintWords Go.Proofs.YtpgdmmjbhjbbhaaW.PrintLast Go.Proofs.YtpgdmmjbhjbbhaaW.PrintMore
set_option linter.unusedVariables false
set_option linter.unusedSimpArgs false
/-- A refusal's place lies within what was to be read; what is left is no longer than that. -/
def Safe {α : Type} (p : Rdr α) : Prop := (∀ l n, p l = .bad n → n ≤ l.length) ∧ ∀ l x r, p l = .ok x r → r.length ≤ l.length
theorem Safe.ret {α : Type} (x : α) : Safe (Sp.ret x) := ⟨fun l n h => (by cases h), fun l y r h => (by cases h; exact Nat.le_refl _)⟩
theorem Safe.bnd {α β : Type} {p : Rdr α} {f : α → Rdr β} (hp : Safe p) (hf : ∀ x, Safe (f x)) : Safe (Sp.bnd p f) := by
  refine ⟨fun l n h => ?_, fun l x r h => ?_⟩
  · cases hq : p l with
    | bad k => rw [bnd_bad hq] at h; cases h; exact hp.1 l _ hq
    | ok y s => rw [bnd_ok hq] at h; exact Nat.le_trans ((hf y).1 s n h) (hp.2 l y s hq)
  · cases hq : p l with
    | bad k => rw [bnd_bad hq] at h; cases h
    | ok y s => rw [bnd_ok hq] at h; exact Nat.le_trans ((hf y).2 s x r h) (hp.2 l y s hq)
theorem numGo_le : ∀ (l : List Int) (k n : Nat) (r : List Int), numGo k l = .ok n r → r.length ≤ l.length
  | [], k, n, r, h => by simp [numGo] at h
  | c :: l, k, n, r, h => by
    unfold numGo at h
    split at h
    · split at h
      · cases h; simp
      · cases h
    · split at h
      · cases h
      · split at h
        · rename_i a b hq
          cases h
          have := numGo_le l (k + 1) _ _ hq
          simp only [List.length_cons]; omega
        · rename_i x hx
          first | cases h | exact absurd h (hx n r)
theorem safe_raw : Safe rawP := by
  refine ⟨fun l n h => ?_, fun l x r h => ?_⟩
  · unfold rawP at h
    split at h
    · cases h; exact Nat.zero_le _
    · cases h; exact Nat.le_refl _
    · cases h
  · unfold rawP at h
    split at h
    · cases h
    · cases h
    · cases h; exact numGo_le l 0 _ _ (by assumption)
theorem safe_num (lo hi : Int) : Safe (numP lo hi) := by
  refine ⟨fun l n h => ?_, fun l x r h => ?_⟩
  · unfold numP at h
    split at h
    · rename_i n1 hq; cases h; exact safe_raw.1 l _ hq
    · split at h
      · cases h
      · cases h; exact Nat.le_refl _
  · unfold numP at h
    split at h
    · cases h
    · rename_i n1 r1 hq
      split at h
      · cases h; exact safe_raw.2 l _ _ hq
      · cases h
theorem safe_sign : Safe signP := by
  refine ⟨fun l n h => ?_, fun l x r h => ?_⟩
  · unfold signP at h
    split at h
    · rename_i n1 hq; cases h; exact safe_raw.1 l _ hq
    · cases h
  · unfold signP at h
    split at h
    · cases h
    · rename_i n1 r1 hq; cases h; exact safe_raw.2 l _ _ hq
theorem safe_take (n : Nat) : Safe (takeP n) := by
  refine ⟨fun l k h => ?_, fun l x r h => ?_⟩
  · unfold takeP at h
    split at h
    · cases h; exact Nat.zero_le _
    · cases h
  · unfold takeP at h
    split at h
    · cases h
    · cases h; rw [List.length_drop]; omega
theorem safe_nameIn (a : ByteArray) (n : Nat) : Safe (nameIn a n) := by
  refine ⟨fun l k h => ?_, fun l x r h => ?_⟩
  · unfold nameIn at h
    split at h
    · rename_i n1 hq; cases h; exact (safe_take n).1 l _ hq
    · split at h
      · cases h
      · cases h; exact Nat.le_refl _
  · unfold nameIn at h
    split at h
    · cases h
    · rename_i b1 r1 hq
      split at h
      · cases h; exact (safe_take n).2 l _ _ hq
      · cases h
theorem safe_name (a : ByteArray) : Safe (nameP a) := Safe.bnd (safe_num _ _) fun _ => safe_nameIn _ _
theorem safe_opt {α : Type} (c : Prop) [Decidable c] (z : α) {p : Rdr α} (h : Safe p) : Safe (optP c z p) := by
  unfold optP
  split
  · exact h
  · exact Safe.ret z
theorem safe_pair (a b c d : Int) : Safe (pairP a b c d) := Safe.bnd (safe_num _ _) fun _ => Safe.bnd (safe_num _ _) fun _ => Safe.ret _
theorem safe_op : Safe opP := by
  unfold opP
  repeat' first
    | exact Safe.ret _
    | exact safe_num _ _
    | exact safe_sign
    | exact safe_name _
    | refine Safe.bnd ?_ (fun _ => ?_)
theorem safe_view (a : ByteArray) : Safe (viewP a) := by
  unfold viewP
  repeat' first
    | exact Safe.ret _
    | exact safe_num _ _
    | exact safe_name _
    | exact safe_pair _ _ _ _
    | refine Safe.bnd ?_ (fun _ => ?_)
theorem safe_viewsGo : ∀ (n : Nat) (a : ByteArray), Safe (viewsGo n a)
  | 0, a => Safe.ret _
  | n + 1, a => by
    unfold viewsGo
    exact Safe.bnd (safe_view a) fun v => Safe.bnd (safe_viewsGo n v.f0) fun _ => Safe.ret _
theorem safe_views : Safe viewsP := Safe.bnd (safe_num _ _) fun n => safe_viewsGo _ _
theorem safe_rest (k : Int) : Safe (restP k) := by
  unfold restP
  split
  · exact Safe.bnd (safe_pair _ _ _ _) fun _ => Safe.bnd safe_op fun _ => Safe.ret _
  split
  · exact Safe.bnd (safe_pair _ _ _ _) fun _ => Safe.bnd (safe_name _) fun _ => Safe.bnd (safe_num _ _) fun _ => Safe.bnd (safe_opt _ _ (safe_pair _ _ _ _)) fun _ => Safe.ret _
  split
  · exact Safe.bnd safe_views fun _ => Safe.ret _
  · unfold ofP
    exact Safe.bnd (safe_name _) fun _ => Safe.bnd (safe_pair _ _ _ _) fun _ => Safe.bnd (safe_opt _ _ (safe_pair _ _ _ _)) fun _ => Safe.bnd (safe_opt _ _ (safe_pair _ _ _ _)) fun _ => Safe.bnd (safe_opt _ _ (safe_pair _ _ _ _)) fun _ => Safe.bnd (safe_opt _ _ (safe_num _ _)) fun _ => Safe.ret _
theorem safe_msg : Safe msgP := Safe.bnd (safe_num _ _) fun k => safe_rest k
theorem safe_seg : Safe segP := Safe.bnd (safe_num _ _) fun _ => Safe.bnd (safe_num _ _) fun _ => Safe.bnd (safe_num _ _) fun _ => Safe.bnd (safe_num _ _) fun _ => Safe.bnd (safe_num _ _) fun _ => Safe.bnd (safe_take _) fun _ => Safe.ret _
theorem safe_req : Safe reqP := Safe.bnd (safe_pair _ _ _ _) fun _ => Safe.bnd safe_op fun _ => Safe.ret _
theorem safe_rep : Safe repP := Safe.bnd (safe_pair _ _ _ _) fun _ => Safe.bnd (safe_num _ _) fun _ => Safe.bnd safe_sign fun _ => Safe.ret _
/-- What is right reads as it was. -/
theorem whole_back {α : Type} {p : Rdr α} {e : α → List Int} {v : α → Prop} (h : Codec p e v) (z : α) {x : α} (hx : v x) : whole z p (e x) = (x, 0, 0) := by
  have := h.back x [] hx
  rw [List.append_nil] at this
  unfold whole
  rw [this]
/-- What is read: the very bytes as which the thing is written; or nothing but a place within. -/
theorem whole_one {α : Type} {p : Rdr α} {e : α → List Int} {v : α → Prop} (h : Codec p e v) (hs : Safe p) (z : α) {b : List Int} (hb : IsB b) :
    (∃ x, whole z p b = (x, 0, 0) ∧ v x ∧ e x = b) ∨ ∃ n : Int, whole z p b = (z, n, 20) ∧ 0 ≤ n ∧ n ≤ b.length := by
  unfold whole
  split
  · rename_i n hq
    have := hs.1 b n hq
    exact .inr ⟨_, rfl, by omega, by omega⟩
  · rename_i x hq
    obtain ⟨h1, h2⟩ := h.one b x [] hb hq
    exact .inl ⟨x, rfl, h1, by rw [h2, List.append_nil]⟩
  · rename_i x c r hq
    have := hs.2 b x (c :: r) hq
    simp only [List.length_cons] at this
    exact .inr ⟨_, rfl, by omega, by omega⟩
theorem lay_right {α : Type} {e : α → List Int} {v : α → Prop} {x : α} (h : v x) : lay e v x = (e x, 0) := by unfold lay; rw [if_pos (dcd_pos h)]
theorem intB_1 {n : Int} (h0 : 0 ≤ n) (h1 : n < 128) : intB n = [n] := by
  rw [intB_of h0 (by omega), numB_lt (by omega)]
  congr 1
  omega
def kSt : ByteArray := ⟨#[107]⟩
def mEx : Msg := { zMsg with kind := 3, name := kSt, cap := 10, epoch := ⟨2, 1⟩ }
def sEx : Seg := ⟨0, 1, 0, 7, []⟩
def qEx : S25 × Op := (⟨3, 1⟩, ⟨2, kSt, 5, 0⟩)
def rEx : Rep := ⟨⟨0, 9⟩, 0, -3⟩
theorem name_k : nameOk (bytesOf kSt) := by
  refine ⟨by decide, by decide, ?_⟩
  have : bytesOf kSt = [107] := by decide
  rw [this]
  intro x hx
  rw [List.mem_singleton.mp hx]
  decide
theorem bytes_k : bytesOf kSt = [107] := by decide
theorem nameV_k : nameV eB kSt := nameV_nil.mpr name_k
theorem text_k : textB kSt = [1, 107] := by
  unfold textB
  rw [bytes_k, intB_1 (by decide) (by decide)]
  decide
theorem mEx_bytes : msgB mEx = [3, 1, 107, 10, 0, 2, 1] := by
  have h1 : ∀ n : Int, 0 ≤ n → n < 128 → intB n = [n] := fun n a b => intB_1 a b
  simp [msgB, restB, mEx, zMsg, optB, hasEp, hasRt, capOf, pairB, text_k, h1, z25]
theorem mEx_right : msgV mEx := by
  refine ⟨by decide, ?_⟩
  unfold restV
  rw [if_neg (by decide), if_neg (by decide), if_neg (by decide)]
  simp [mEx, zMsg, optV, hasEp, hasRt, capOf, capV, pairV, epochV, big, mOf, z25, nameV_k]
theorem sEx_bytes : segB sEx = [0, 1, 0, 7, 0] := by
  have h1 : ∀ n : Int, 0 ≤ n → n < 128 → intB n = [n] := fun n a b => intB_1 a b
  simp [segB, sEx, h1]
theorem sEx_right : segV sEx := by
  simp [segV, sEx, big, IsB]
theorem qEx_bytes : reqB qEx = [3, 1, 2, 1, 107, 10, 0] := by
  have h1 : ∀ n : Int, 0 ≤ n → n < 128 → intB n = [n] := fun n a b => intB_1 a b
  simp [reqB, qEx, opB, pairB, h1, text_k, signB, signN, numB_lt]
theorem qEx_right : reqV qEx := by
  refine ⟨?_, ?_⟩
  · simp [qEx, callV, pairV, big]
  · simp [qEx, opV, isI, nameV_k]
theorem rEx_bytes : repB rEx = [0, 9, 0, 5] := by
  have h1 : ∀ n : Int, 0 ≤ n → n < 128 → intB n = [n] := fun n a b => intB_1 a b
  simp [repB, rEx, pairB, h1, signB, signN, numB_lt]
theorem rEx_right : repV rEx := by
  simp [repV, rEx, callV, pairV, big, isI]
end Go.Proofs.Ytpgdmmjbhjbbhaa.Sp
end
section
namespace Go.Proofs.Ytpgdmmjbhjbbhaa.P
open Go.RowKit Go.Proofs.YtpgdmmjbhjbbhaaW.PrintWords Go.Proofs.YtpgdmmjbhjbbhaaW.PrintLast Go.Proofs.YtpgdmmjbhjbbhaaW.PrintMore
attribute [local go_sem] max2_int min2_int max_two min_two max_three min_three max_four min_four   -- for this text's walks alone
set_option linter.unusedVariables false
set_option linter.unusedSimpArgs false

def sluicelaw2_sameSegment.f (a0_0 : Int) (a0_1 : Int) (a0_2 : Int) (a0_3 : Int) (l0_4 : List Int) (a1_0 : Int) (a1_1 : Int) (a1_2 : Int) (a1_3 : Int) (l1_4 : List Int) : Option (Bool) := if a0_0 = a1_0 then (if a0_1 = a1_1 then (if a0_2 = a1_2 then (if a0_3 = a1_3 then ((sluicelaw2_alike.f l0_4 l1_4).bind fun t274 => (some t274)) else (some false)) else (some false)) else (some false)) else (some false)
set_option maxHeartbeats 8000000 in
set_option maxRecDepth 100000 in
theorem sluicelaw2_sameSegment.calls (a0_0 : Int) (a0_1 : Int) (a0_2 : Int) (a0_3 : Int) (A0_4 : Option Addr) (c0_4 : Nat) (l0_4 : List Int) (a1_0 : Int) (a1_1 : Int) (a1_2 : Int) (a1_3 : Int) (A1_4 : Option Addr) (c1_4 : Nat) (l1_4 : List Int) (r : Bool) (w : World) (hr0_4 : Kd.C (Kd.int .u8) w A0_4 l0_4.length l0_4) (hc0_4 : l0_4.length ≤ c0_4) (hr1_4 : Kd.C (Kd.int .u8) w A1_4 l1_4.length l1_4) (hc1_4 : l1_4.length ≤ c1_4) (h : sluicelaw2_sameSegment.f a0_0 a0_1 a0_2 a0_3 l0_4 a1_0 a1_1 a1_2 a1_3 l1_4 = some r) :
    Calls Try.prog 29 #[.agg #[.int .i64 a0_0, .int .i64 a0_1, .int .i64 a0_2, .int .i64 a0_3, .slice A0_4 l0_4.length c0_4], .agg #[.int .i64 a1_0, .int .i64 a1_1, .int .i64 a1_2, .int .i64 a1_3, .slice A1_4 l1_4.length c1_4]] w fun e w' => e = .returned (.bool r) ∧ Below w.heap.size w w' := by
  have hu47 := Try.underlying47
  have HR0_4 := Aside0.mk hr0_4
  have HC0_4 := Aside0.mk hc0_4
  clear hr0_4 hc0_4
  have HR1_4 := Aside0.mk hr1_4
  have HC1_4 := Aside0.mk hc1_4
  clear hr1_4 hc1_4
  have HB := Aside0.mk (Below.refl w.heap.size w)
  have H : (if a0_0 = a1_0 then (if a0_1 = a1_1 then (if a0_2 = a1_2 then (if a0_3 = a1_3 then ((sluicelaw2_alike.f l0_4 l1_4).bind fun t274 => (some t274)) else (some false)) else (some false)) else (some false)) else (some false)) = some r := h
  clear h
  by_cases c3 : a0_0 = a1_0
  · rw [if_pos c3] at H
    have c3b0 : (a0_0 == a1_0) = true := beq_iff_eq.mpr c3
    have c3b1 : (a0_0 != a1_0) = false := bne_eq_false_iff_eq.mpr c3
    clear c3
    by_cases c4 : a0_1 = a1_1
    · rw [if_pos c4] at H
      have c4b0 : (a0_1 == a1_1) = true := beq_iff_eq.mpr c4
      have c4b1 : (a0_1 != a1_1) = false := bne_eq_false_iff_eq.mpr c4
      clear c4
      by_cases c5 : a0_2 = a1_2
      · rw [if_pos c5] at H
        have c5b0 : (a0_2 == a1_2) = true := beq_iff_eq.mpr c5
        have c5b1 : (a0_2 != a1_2) = false := bne_eq_false_iff_eq.mpr c5
        clear c5
        by_cases c6 : a0_3 = a1_3
        · rw [if_pos c6] at H
          have c6b0 : (a0_3 == a1_3) = true := beq_iff_eq.mpr c6
          have c6b1 : (a0_3 != a1_3) = false := bne_eq_false_iff_eq.mpr c6
          clear c6
          replace H := Option.bind_eq_some_iff.mp H
          obtain ⟨t274, A70, H⟩ := H
          replace H : (some t274) = some r := H
          have A7 := Aside0.mk A70
          clear A70
          obtain rfl := Option.some.inj H
          go_enter Try.func29, Try.ntmps29
          go_wp2_with (first | ((with_reducible refine gate_dst (N := 2) rfl ?_); refine box_event ?hg (N := 2) ?hd (cs := #[.int .i64 a0_0, .int .i64 a0_1, .int .i64 a0_2, .int .i64 a0_3, .slice A0_4 l0_4.length c0_4]) (t := 47) ?hr ?_; (case hd => rfl); (case hg => rfl); (case hr => first | (go_simp; done) | (go_simp; rfl)); intro gb272 hg w8 hbox hb; have n0_ := Aside0.mk (below_step (by repeat (first | (with_reducible first | exact HB.out | apply below_alloc | apply pw_below_drewN | apply below_drew1) | exact HB.out)) hb); have n1_ := Aside0.mk (hbox); have n2_ := Aside0.mk ((by rw [hg]; exact (below_size (by repeat (first | (with_reducible first | exact HB.out | apply below_alloc | apply pw_below_drewN | apply below_drew1) | exact HB.out))) : w.heap.size ≤ gb272)); have n3_ := Aside0.mk ((by rw [hg]; exact (below_size (by repeat (first | (with_reducible first | exact HB.out | apply below_alloc | apply pw_below_drewN | apply below_drew1) | exact HB.out))) : w.heap.size ≤ gb272)); clear HB; have HB := n0_; have BK272 := n1_; have GW272 := n2_; have GE272 := n3_; clear n0_ n1_ n2_ n3_; clear hb hbox hg) | ((with_reducible refine gate_dst (N := 3) rfl ?_); refine box_event ?hg (N := 3) ?hd (cs := #[.int .i64 a1_0, .int .i64 a1_1, .int .i64 a1_2, .int .i64 a1_3, .slice A1_4 l1_4.length c1_4]) (t := 47) ?hr ?_; (case hd => rfl); (case hg => rfl); (case hr => first | (go_simp; done) | (go_simp; rfl)); intro gb273 hg w9 hbox hb; have n0_ := Aside0.mk (blk_below (g := gb272) (o := .cells #[.int .i64 a0_0, .int .i64 a0_1, .int .i64 a0_2, .int .i64 a0_3, .slice A0_4 l0_4.length c0_4] 47 (0, 0)) (by (with_reducible repeat (first | refine blk_drewN ?_ _ | refine blk_drew ?_ | refine blk_alloc ?_ _)); exact BK272.out) hb); have n1_ := Aside0.mk (below_step (by repeat (first | (with_reducible first | exact HB.out | apply below_alloc | apply pw_below_drewN | apply below_drew1 | refine below_set ?_ GE272.out) | exact HB.out)) hb); have n2_ := Aside0.mk (hbox); have n3_ := Aside0.mk ((by rw [hg]; exact (below_size (by repeat (first | (with_reducible first | exact HB.out | apply below_alloc | apply pw_below_drewN | apply below_drew1 | refine below_set ?_ GE272.out) | exact HB.out))) : w.heap.size ≤ gb273)); have n4_ := Aside0.mk ((by rw [hg]; exact (below_size (by repeat (first | (with_reducible first | exact HB.out | apply below_alloc | apply pw_below_drewN | apply below_drew1 | refine below_set ?_ GE272.out) | exact HB.out))) : w.heap.size ≤ gb273)); have n5_ := Aside0.mk ((by rw [hg]; exact Nat.ne_of_lt (blk_lt (g := gb272) (o := .cells #[.int .i64 a0_0, .int .i64 a0_1, .int .i64 a0_2, .int .i64 a0_3, .slice A0_4 l0_4.length c0_4] 47 (0, 0)) (by (with_reducible repeat (first | refine blk_drewN ?_ _ | refine blk_drew ?_ | refine blk_alloc ?_ _)); exact BK272.out)) : gb272 ≠ gb273)); have n6_ := Aside0.mk ((by rw [hg]; exact Nat.ne_of_gt (blk_lt (g := gb272) (o := .cells #[.int .i64 a0_0, .int .i64 a0_1, .int .i64 a0_2, .int .i64 a0_3, .slice A0_4 l0_4.length c0_4] 47 (0, 0)) (by (with_reducible repeat (first | refine blk_drewN ?_ _ | refine blk_drew ?_ | refine blk_alloc ?_ _)); exact BK272.out)) : gb273 ≠ gb272)); clear BK272; clear HB; have BK272 := n0_; have HB := n1_; have BK273 := n2_; have GW273 := n3_; have GE273 := n4_; have NB272_273 := n5_; have NB273_272 := n6_; clear n0_ n1_ n2_ n3_ n4_ n5_ n6_; clear hb hbox hg; have hnb10 := NB272_273.out; have hnc10 := NB273_272.out; have hcz11_0 : w9.cell? ⟨gb272, 0, none⟩ = some (.int .i64 a0_0) := (blk_cell BK272.out 0).trans rfl; have hcz11_1 : w9.cell? ⟨gb272, 1, none⟩ = some (.int .i64 a0_1) := (blk_cell BK272.out 1).trans rfl; have hcz11_2 : w9.cell? ⟨gb272, 2, none⟩ = some (.int .i64 a0_2) := (blk_cell BK272.out 2).trans rfl; have hcz11_3 : w9.cell? ⟨gb272, 3, none⟩ = some (.int .i64 a0_3) := (blk_cell BK272.out 3).trans rfl; have hcz11_4 : w9.cell? ⟨gb272, 4, none⟩ = some (.slice A0_4 l0_4.length c0_4) := (blk_cell BK272.out 4).trans rfl; have hfz11_0 := blk_frozen BK272.out 0; have hfz11_1 := blk_frozen BK272.out 1; have hfz11_2 := blk_frozen BK272.out 2; have hfz11_3 := blk_frozen BK272.out 3; have hfz11_4 := blk_frozen BK272.out 4; have hcz12_0 : w9.cell? ⟨gb273, 0, none⟩ = some (.int .i64 a1_0) := (blk_cell BK273.out 0).trans rfl; have hcz12_1 : w9.cell? ⟨gb273, 1, none⟩ = some (.int .i64 a1_1) := (blk_cell BK273.out 1).trans rfl; have hcz12_2 : w9.cell? ⟨gb273, 2, none⟩ = some (.int .i64 a1_2) := (blk_cell BK273.out 2).trans rfl; have hcz12_3 : w9.cell? ⟨gb273, 3, none⟩ = some (.int .i64 a1_3) := (blk_cell BK273.out 3).trans rfl; have hcz12_4 : w9.cell? ⟨gb273, 4, none⟩ = some (.slice A1_4 l1_4.length c1_4) := (blk_cell BK273.out 4).trans rfl; have hfz12_0 := blk_frozen BK273.out 0; have hfz12_1 := blk_frozen BK273.out 1; have hfz12_2 := blk_frozen BK273.out 2; have hfz12_3 := blk_frozen BK273.out 3; have hfz12_4 := blk_frozen BK273.out 4) | (go_at_call 37; (with_reducible refine (sluicelaw2_alike.calls _ _ l0_4 _ _ l1_4 t274 _ ?side1 ?side2 ?side3 ?side4 A7.out).mono ?_); (case side1 => repeat (first | exact (Kd.C_below HR0_4.out HB.out) | (with_reducible refine Kd.C_alloc ?_ _) | (with_reducible refine Kd.C_drewN ?_ _) | (with_reducible refine Kd.C_drew ?_))); (case side2 => exact HC0_4.out); (case side3 => repeat (first | exact (Kd.C_below HR1_4.out HB.out) | (with_reducible refine Kd.C_alloc ?_ _) | (with_reducible refine Kd.C_drewN ?_ _) | (with_reducible refine Kd.C_drew ?_))); (case side4 => exact HC1_4.out); rintro e w' ⟨rfl, ⟨nd, rfl⟩⟩))
          go_ret
          exact ⟨by first | rfl | (simp [errW_none, errW_some] <;> rfl) | (simp [*, errW_none, errW_some] <;> rfl), by repeat (first | (with_reducible first | exact HB.out | apply below_alloc | apply pw_below_drewN | apply below_drew1 | refine below_set ?_ GE272.out | refine below_set ?_ GE273.out) | exact HB.out)⟩
        · rw [if_neg c6] at H
          have c6b0 : (a0_3 == a1_3) = false := beq_eq_false_iff_ne.mpr c6
          have c6b1 : (a0_3 != a1_3) = true := bne_iff_ne.mpr c6
          obtain rfl := Option.some.inj H
          go_enter Try.func29, Try.ntmps29
          go_wp2_with (first | ((with_reducible refine gate_dst (N := 2) rfl ?_); refine box_event ?hg (N := 2) ?hd (cs := #[.int .i64 a0_0, .int .i64 a0_1, .int .i64 a0_2, .int .i64 a0_3, .slice A0_4 l0_4.length c0_4]) (t := 47) ?hr ?_; (case hd => rfl); (case hg => rfl); (case hr => first | (go_simp; done) | (go_simp; rfl)); intro gb272 hg w13 hbox hb; have n0_ := Aside0.mk (below_step (by repeat (first | (with_reducible first | exact HB.out | apply below_alloc | apply pw_below_drewN | apply below_drew1) | exact HB.out)) hb); have n1_ := Aside0.mk (hbox); have n2_ := Aside0.mk ((by rw [hg]; exact (below_size (by repeat (first | (with_reducible first | exact HB.out | apply below_alloc | apply pw_below_drewN | apply below_drew1) | exact HB.out))) : w.heap.size ≤ gb272)); have n3_ := Aside0.mk ((by rw [hg]; exact (below_size (by repeat (first | (with_reducible first | exact HB.out | apply below_alloc | apply pw_below_drewN | apply below_drew1) | exact HB.out))) : w.heap.size ≤ gb272)); clear HB; have HB := n0_; have BK272 := n1_; have GW272 := n2_; have GE272 := n3_; clear n0_ n1_ n2_ n3_; clear hb hbox hg) | ((with_reducible refine gate_dst (N := 3) rfl ?_); refine box_event ?hg (N := 3) ?hd (cs := #[.int .i64 a1_0, .int .i64 a1_1, .int .i64 a1_2, .int .i64 a1_3, .slice A1_4 l1_4.length c1_4]) (t := 47) ?hr ?_; (case hd => rfl); (case hg => rfl); (case hr => first | (go_simp; done) | (go_simp; rfl)); intro gb273 hg w14 hbox hb; have n0_ := Aside0.mk (blk_below (g := gb272) (o := .cells #[.int .i64 a0_0, .int .i64 a0_1, .int .i64 a0_2, .int .i64 a0_3, .slice A0_4 l0_4.length c0_4] 47 (0, 0)) (by (with_reducible repeat (first | refine blk_drewN ?_ _ | refine blk_drew ?_ | refine blk_alloc ?_ _)); exact BK272.out) hb); have n1_ := Aside0.mk (below_step (by repeat (first | (with_reducible first | exact HB.out | apply below_alloc | apply pw_below_drewN | apply below_drew1 | refine below_set ?_ GE272.out) | exact HB.out)) hb); have n2_ := Aside0.mk (hbox); have n3_ := Aside0.mk ((by rw [hg]; exact (below_size (by repeat (first | (with_reducible first | exact HB.out | apply below_alloc | apply pw_below_drewN | apply below_drew1 | refine below_set ?_ GE272.out) | exact HB.out))) : w.heap.size ≤ gb273)); have n4_ := Aside0.mk ((by rw [hg]; exact (below_size (by repeat (first | (with_reducible first | exact HB.out | apply below_alloc | apply pw_below_drewN | apply below_drew1 | refine below_set ?_ GE272.out) | exact HB.out))) : w.heap.size ≤ gb273)); have n5_ := Aside0.mk ((by rw [hg]; exact Nat.ne_of_lt (blk_lt (g := gb272) (o := .cells #[.int .i64 a0_0, .int .i64 a0_1, .int .i64 a0_2, .int .i64 a0_3, .slice A0_4 l0_4.length c0_4] 47 (0, 0)) (by (with_reducible repeat (first | refine blk_drewN ?_ _ | refine blk_drew ?_ | refine blk_alloc ?_ _)); exact BK272.out)) : gb272 ≠ gb273)); have n6_ := Aside0.mk ((by rw [hg]; exact Nat.ne_of_gt (blk_lt (g := gb272) (o := .cells #[.int .i64 a0_0, .int .i64 a0_1, .int .i64 a0_2, .int .i64 a0_3, .slice A0_4 l0_4.length c0_4] 47 (0, 0)) (by (with_reducible repeat (first | refine blk_drewN ?_ _ | refine blk_drew ?_ | refine blk_alloc ?_ _)); exact BK272.out)) : gb273 ≠ gb272)); clear BK272; clear HB; have BK272 := n0_; have HB := n1_; have BK273 := n2_; have GW273 := n3_; have GE273 := n4_; have NB272_273 := n5_; have NB273_272 := n6_; clear n0_ n1_ n2_ n3_ n4_ n5_ n6_; clear hb hbox hg; have hnb15 := NB272_273.out; have hnc15 := NB273_272.out; have hcz16_0 : w14.cell? ⟨gb272, 0, none⟩ = some (.int .i64 a0_0) := (blk_cell BK272.out 0).trans rfl; have hcz16_1 : w14.cell? ⟨gb272, 1, none⟩ = some (.int .i64 a0_1) := (blk_cell BK272.out 1).trans rfl; have hcz16_2 : w14.cell? ⟨gb272, 2, none⟩ = some (.int .i64 a0_2) := (blk_cell BK272.out 2).trans rfl; have hcz16_3 : w14.cell? ⟨gb272, 3, none⟩ = some (.int .i64 a0_3) := (blk_cell BK272.out 3).trans rfl; have hcz16_4 : w14.cell? ⟨gb272, 4, none⟩ = some (.slice A0_4 l0_4.length c0_4) := (blk_cell BK272.out 4).trans rfl; have hfz16_0 := blk_frozen BK272.out 0; have hfz16_1 := blk_frozen BK272.out 1; have hfz16_2 := blk_frozen BK272.out 2; have hfz16_3 := blk_frozen BK272.out 3; have hfz16_4 := blk_frozen BK272.out 4; have hcz17_0 : w14.cell? ⟨gb273, 0, none⟩ = some (.int .i64 a1_0) := (blk_cell BK273.out 0).trans rfl; have hcz17_1 : w14.cell? ⟨gb273, 1, none⟩ = some (.int .i64 a1_1) := (blk_cell BK273.out 1).trans rfl; have hcz17_2 : w14.cell? ⟨gb273, 2, none⟩ = some (.int .i64 a1_2) := (blk_cell BK273.out 2).trans rfl; have hcz17_3 : w14.cell? ⟨gb273, 3, none⟩ = some (.int .i64 a1_3) := (blk_cell BK273.out 3).trans rfl; have hcz17_4 : w14.cell? ⟨gb273, 4, none⟩ = some (.slice A1_4 l1_4.length c1_4) := (blk_cell BK273.out 4).trans rfl; have hfz17_0 := blk_frozen BK273.out 0; have hfz17_1 := blk_frozen BK273.out 1; have hfz17_2 := blk_frozen BK273.out 2; have hfz17_3 := blk_frozen BK273.out 3; have hfz17_4 := blk_frozen BK273.out 4))
          go_ret
          exact ⟨by first | rfl | (simp [errW_none, errW_some] <;> rfl) | (simp [*, errW_none, errW_some] <;> rfl), by repeat (first | (with_reducible first | exact HB.out | apply below_alloc | apply pw_below_drewN | apply below_drew1 | refine below_set ?_ GE272.out | refine below_set ?_ GE273.out) | exact HB.out)⟩
      · rw [if_neg c5] at H
        have c5b0 : (a0_2 == a1_2) = false := beq_eq_false_iff_ne.mpr c5
        have c5b1 : (a0_2 != a1_2) = true := bne_iff_ne.mpr c5
        obtain rfl := Option.some.inj H
        go_enter Try.func29, Try.ntmps29
        go_wp2_with (first | ((with_reducible refine gate_dst (N := 2) rfl ?_); refine box_event ?hg (N := 2) ?hd (cs := #[.int .i64 a0_0, .int .i64 a0_1, .int .i64 a0_2, .int .i64 a0_3, .slice A0_4 l0_4.length c0_4]) (t := 47) ?hr ?_; (case hd => rfl); (case hg => rfl); (case hr => first | (go_simp; done) | (go_simp; rfl)); intro gb272 hg w18 hbox hb; have n0_ := Aside0.mk (below_step (by repeat (first | (with_reducible first | exact HB.out | apply below_alloc | apply pw_below_drewN | apply below_drew1) | exact HB.out)) hb); have n1_ := Aside0.mk (hbox); have n2_ := Aside0.mk ((by rw [hg]; exact (below_size (by repeat (first | (with_reducible first | exact HB.out | apply below_alloc | apply pw_below_drewN | apply below_drew1) | exact HB.out))) : w.heap.size ≤ gb272)); have n3_ := Aside0.mk ((by rw [hg]; exact (below_size (by repeat (first | (with_reducible first | exact HB.out | apply below_alloc | apply pw_below_drewN | apply below_drew1) | exact HB.out))) : w.heap.size ≤ gb272)); clear HB; have HB := n0_; have BK272 := n1_; have GW272 := n2_; have GE272 := n3_; clear n0_ n1_ n2_ n3_; clear hb hbox hg) | ((with_reducible refine gate_dst (N := 3) rfl ?_); refine box_event ?hg (N := 3) ?hd (cs := #[.int .i64 a1_0, .int .i64 a1_1, .int .i64 a1_2, .int .i64 a1_3, .slice A1_4 l1_4.length c1_4]) (t := 47) ?hr ?_; (case hd => rfl); (case hg => rfl); (case hr => first | (go_simp; done) | (go_simp; rfl)); intro gb273 hg w19 hbox hb; have n0_ := Aside0.mk (blk_below (g := gb272) (o := .cells #[.int .i64 a0_0, .int .i64 a0_1, .int .i64 a0_2, .int .i64 a0_3, .slice A0_4 l0_4.length c0_4] 47 (0, 0)) (by (with_reducible repeat (first | refine blk_drewN ?_ _ | refine blk_drew ?_ | refine blk_alloc ?_ _)); exact BK272.out) hb); have n1_ := Aside0.mk (below_step (by repeat (first | (with_reducible first | exact HB.out | apply below_alloc | apply pw_below_drewN | apply below_drew1 | refine below_set ?_ GE272.out) | exact HB.out)) hb); have n2_ := Aside0.mk (hbox); have n3_ := Aside0.mk ((by rw [hg]; exact (below_size (by repeat (first | (with_reducible first | exact HB.out | apply below_alloc | apply pw_below_drewN | apply below_drew1 | refine below_set ?_ GE272.out) | exact HB.out))) : w.heap.size ≤ gb273)); have n4_ := Aside0.mk ((by rw [hg]; exact (below_size (by repeat (first | (with_reducible first | exact HB.out | apply below_alloc | apply pw_below_drewN | apply below_drew1 | refine below_set ?_ GE272.out) | exact HB.out))) : w.heap.size ≤ gb273)); have n5_ := Aside0.mk ((by rw [hg]; exact Nat.ne_of_lt (blk_lt (g := gb272) (o := .cells #[.int .i64 a0_0, .int .i64 a0_1, .int .i64 a0_2, .int .i64 a0_3, .slice A0_4 l0_4.length c0_4] 47 (0, 0)) (by (with_reducible repeat (first | refine blk_drewN ?_ _ | refine blk_drew ?_ | refine blk_alloc ?_ _)); exact BK272.out)) : gb272 ≠ gb273)); have n6_ := Aside0.mk ((by rw [hg]; exact Nat.ne_of_gt (blk_lt (g := gb272) (o := .cells #[.int .i64 a0_0, .int .i64 a0_1, .int .i64 a0_2, .int .i64 a0_3, .slice A0_4 l0_4.length c0_4] 47 (0, 0)) (by (with_reducible repeat (first | refine blk_drewN ?_ _ | refine blk_drew ?_ | refine blk_alloc ?_ _)); exact BK272.out)) : gb273 ≠ gb272)); clear BK272; clear HB; have BK272 := n0_; have HB := n1_; have BK273 := n2_; have GW273 := n3_; have GE273 := n4_; have NB272_273 := n5_; have NB273_272 := n6_; clear n0_ n1_ n2_ n3_ n4_ n5_ n6_; clear hb hbox hg; have hnb20 := NB272_273.out; have hnc20 := NB273_272.out; have hcz21_0 : w19.cell? ⟨gb272, 0, none⟩ = some (.int .i64 a0_0) := (blk_cell BK272.out 0).trans rfl; have hcz21_1 : w19.cell? ⟨gb272, 1, none⟩ = some (.int .i64 a0_1) := (blk_cell BK272.out 1).trans rfl; have hcz21_2 : w19.cell? ⟨gb272, 2, none⟩ = some (.int .i64 a0_2) := (blk_cell BK272.out 2).trans rfl; have hcz21_3 : w19.cell? ⟨gb272, 3, none⟩ = some (.int .i64 a0_3) := (blk_cell BK272.out 3).trans rfl; have hcz21_4 : w19.cell? ⟨gb272, 4, none⟩ = some (.slice A0_4 l0_4.length c0_4) := (blk_cell BK272.out 4).trans rfl; have hfz21_0 := blk_frozen BK272.out 0; have hfz21_1 := blk_frozen BK272.out 1; have hfz21_2 := blk_frozen BK272.out 2; have hfz21_3 := blk_frozen BK272.out 3; have hfz21_4 := blk_frozen BK272.out 4; have hcz22_0 : w19.cell? ⟨gb273, 0, none⟩ = some (.int .i64 a1_0) := (blk_cell BK273.out 0).trans rfl; have hcz22_1 : w19.cell? ⟨gb273, 1, none⟩ = some (.int .i64 a1_1) := (blk_cell BK273.out 1).trans rfl; have hcz22_2 : w19.cell? ⟨gb273, 2, none⟩ = some (.int .i64 a1_2) := (blk_cell BK273.out 2).trans rfl; have hcz22_3 : w19.cell? ⟨gb273, 3, none⟩ = some (.int .i64 a1_3) := (blk_cell BK273.out 3).trans rfl; have hcz22_4 : w19.cell? ⟨gb273, 4, none⟩ = some (.slice A1_4 l1_4.length c1_4) := (blk_cell BK273.out 4).trans rfl; have hfz22_0 := blk_frozen BK273.out 0; have hfz22_1 := blk_frozen BK273.out 1; have hfz22_2 := blk_frozen BK273.out 2; have hfz22_3 := blk_frozen BK273.out 3; have hfz22_4 := blk_frozen BK273.out 4))
        go_ret
        exact ⟨by first | rfl | (simp [errW_none, errW_some] <;> rfl) | (simp [*, errW_none, errW_some] <;> rfl), by repeat (first | (with_reducible first | exact HB.out | apply below_alloc | apply pw_below_drewN | apply below_drew1 | refine below_set ?_ GE272.out | refine below_set ?_ GE273.out) | exact HB.out)⟩
    · rw [if_neg c4] at H
      have c4b0 : (a0_1 == a1_1) = false := beq_eq_false_iff_ne.mpr c4
      have c4b1 : (a0_1 != a1_1) = true := bne_iff_ne.mpr c4
      obtain rfl := Option.some.inj H
      go_enter Try.func29, Try.ntmps29
      go_wp2_with (first | ((with_reducible refine gate_dst (N := 2) rfl ?_); refine box_event ?hg (N := 2) ?hd (cs := #[.int .i64 a0_0, .int .i64 a0_1, .int .i64 a0_2, .int .i64 a0_3, .slice A0_4 l0_4.length c0_4]) (t := 47) ?hr ?_; (case hd => rfl); (case hg => rfl); (case hr => first | (go_simp; done) | (go_simp; rfl)); intro gb272 hg w23 hbox hb; have n0_ := Aside0.mk (below_step (by repeat (first | (with_reducible first | exact HB.out | apply below_alloc | apply pw_below_drewN | apply below_drew1) | exact HB.out)) hb); have n1_ := Aside0.mk (hbox); have n2_ := Aside0.mk ((by rw [hg]; exact (below_size (by repeat (first | (with_reducible first | exact HB.out | apply below_alloc | apply pw_below_drewN | apply below_drew1) | exact HB.out))) : w.heap.size ≤ gb272)); have n3_ := Aside0.mk ((by rw [hg]; exact (below_size (by repeat (first | (with_reducible first | exact HB.out | apply below_alloc | apply pw_below_drewN | apply below_drew1) | exact HB.out))) : w.heap.size ≤ gb272)); clear HB; have HB := n0_; have BK272 := n1_; have GW272 := n2_; have GE272 := n3_; clear n0_ n1_ n2_ n3_; clear hb hbox hg) | ((with_reducible refine gate_dst (N := 3) rfl ?_); refine box_event ?hg (N := 3) ?hd (cs := #[.int .i64 a1_0, .int .i64 a1_1, .int .i64 a1_2, .int .i64 a1_3, .slice A1_4 l1_4.length c1_4]) (t := 47) ?hr ?_; (case hd => rfl); (case hg => rfl); (case hr => first | (go_simp; done) | (go_simp; rfl)); intro gb273 hg w24 hbox hb; have n0_ := Aside0.mk (blk_below (g := gb272) (o := .cells #[.int .i64 a0_0, .int .i64 a0_1, .int .i64 a0_2, .int .i64 a0_3, .slice A0_4 l0_4.length c0_4] 47 (0, 0)) (by (with_reducible repeat (first | refine blk_drewN ?_ _ | refine blk_drew ?_ | refine blk_alloc ?_ _)); exact BK272.out) hb); have n1_ := Aside0.mk (below_step (by repeat (first | (with_reducible first | exact HB.out | apply below_alloc | apply pw_below_drewN | apply below_drew1 | refine below_set ?_ GE272.out) | exact HB.out)) hb); have n2_ := Aside0.mk (hbox); have n3_ := Aside0.mk ((by rw [hg]; exact (below_size (by repeat (first | (with_reducible first | exact HB.out | apply below_alloc | apply pw_below_drewN | apply below_drew1 | refine below_set ?_ GE272.out) | exact HB.out))) : w.heap.size ≤ gb273)); have n4_ := Aside0.mk ((by rw [hg]; exact (below_size (by repeat (first | (with_reducible first | exact HB.out | apply below_alloc | apply pw_below_drewN | apply below_drew1 | refine below_set ?_ GE272.out) | exact HB.out))) : w.heap.size ≤ gb273)); have n5_ := Aside0.mk ((by rw [hg]; exact Nat.ne_of_lt (blk_lt (g := gb272) (o := .cells #[.int .i64 a0_0, .int .i64 a0_1, .int .i64 a0_2, .int .i64 a0_3, .slice A0_4 l0_4.length c0_4] 47 (0, 0)) (by (with_reducible repeat (first | refine blk_drewN ?_ _ | refine blk_drew ?_ | refine blk_alloc ?_ _)); exact BK272.out)) : gb272 ≠ gb273)); have n6_ := Aside0.mk ((by rw [hg]; exact Nat.ne_of_gt (blk_lt (g := gb272) (o := .cells #[.int .i64 a0_0, .int .i64 a0_1, .int .i64 a0_2, .int .i64 a0_3, .slice A0_4 l0_4.length c0_4] 47 (0, 0)) (by (with_reducible repeat (first | refine blk_drewN ?_ _ | refine blk_drew ?_ | refine blk_alloc ?_ _)); exact BK272.out)) : gb273 ≠ gb272)); clear BK272; clear HB; have BK272 := n0_; have HB := n1_; have BK273 := n2_; have GW273 := n3_; have GE273 := n4_; have NB272_273 := n5_; have NB273_272 := n6_; clear n0_ n1_ n2_ n3_ n4_ n5_ n6_; clear hb hbox hg; have hnb25 := NB272_273.out; have hnc25 := NB273_272.out; have hcz26_0 : w24.cell? ⟨gb272, 0, none⟩ = some (.int .i64 a0_0) := (blk_cell BK272.out 0).trans rfl; have hcz26_1 : w24.cell? ⟨gb272, 1, none⟩ = some (.int .i64 a0_1) := (blk_cell BK272.out 1).trans rfl; have hcz26_2 : w24.cell? ⟨gb272, 2, none⟩ = some (.int .i64 a0_2) := (blk_cell BK272.out 2).trans rfl; have hcz26_3 : w24.cell? ⟨gb272, 3, none⟩ = some (.int .i64 a0_3) := (blk_cell BK272.out 3).trans rfl; have hcz26_4 : w24.cell? ⟨gb272, 4, none⟩ = some (.slice A0_4 l0_4.length c0_4) := (blk_cell BK272.out 4).trans rfl; have hfz26_0 := blk_frozen BK272.out 0; have hfz26_1 := blk_frozen BK272.out 1; have hfz26_2 := blk_frozen BK272.out 2; have hfz26_3 := blk_frozen BK272.out 3; have hfz26_4 := blk_frozen BK272.out 4; have hcz27_0 : w24.cell? ⟨gb273, 0, none⟩ = some (.int .i64 a1_0) := (blk_cell BK273.out 0).trans rfl; have hcz27_1 : w24.cell? ⟨gb273, 1, none⟩ = some (.int .i64 a1_1) := (blk_cell BK273.out 1).trans rfl; have hcz27_2 : w24.cell? ⟨gb273, 2, none⟩ = some (.int .i64 a1_2) := (blk_cell BK273.out 2).trans rfl; have hcz27_3 : w24.cell? ⟨gb273, 3, none⟩ = some (.int .i64 a1_3) := (blk_cell BK273.out 3).trans rfl; have hcz27_4 : w24.cell? ⟨gb273, 4, none⟩ = some (.slice A1_4 l1_4.length c1_4) := (blk_cell BK273.out 4).trans rfl; have hfz27_0 := blk_frozen BK273.out 0; have hfz27_1 := blk_frozen BK273.out 1; have hfz27_2 := blk_frozen BK273.out 2; have hfz27_3 := blk_frozen BK273.out 3; have hfz27_4 := blk_frozen BK273.out 4))
      go_ret
      exact ⟨by first | rfl | (simp [errW_none, errW_some] <;> rfl) | (simp [*, errW_none, errW_some] <;> rfl), by repeat (first | (with_reducible first | exact HB.out | apply below_alloc | apply pw_below_drewN | apply below_drew1 | refine below_set ?_ GE272.out | refine below_set ?_ GE273.out) | exact HB.out)⟩
  · rw [if_neg c3] at H
    have c3b0 : (a0_0 == a1_0) = false := beq_eq_false_iff_ne.mpr c3
    have c3b1 : (a0_0 != a1_0) = true := bne_iff_ne.mpr c3
    obtain rfl := Option.some.inj H
    go_enter Try.func29, Try.ntmps29
    go_wp2_with (first | ((with_reducible refine gate_dst (N := 2) rfl ?_); refine box_event ?hg (N := 2) ?hd (cs := #[.int .i64 a0_0, .int .i64 a0_1, .int .i64 a0_2, .int .i64 a0_3, .slice A0_4 l0_4.length c0_4]) (t := 47) ?hr ?_; (case hd => rfl); (case hg => rfl); (case hr => first | (go_simp; done) | (go_simp; rfl)); intro gb272 hg w28 hbox hb; have n0_ := Aside0.mk (below_step (by repeat (first | (with_reducible first | exact HB.out | apply below_alloc | apply pw_below_drewN | apply below_drew1) | exact HB.out)) hb); have n1_ := Aside0.mk (hbox); have n2_ := Aside0.mk ((by rw [hg]; exact (below_size (by repeat (first | (with_reducible first | exact HB.out | apply below_alloc | apply pw_below_drewN | apply below_drew1) | exact HB.out))) : w.heap.size ≤ gb272)); have n3_ := Aside0.mk ((by rw [hg]; exact (below_size (by repeat (first | (with_reducible first | exact HB.out | apply below_alloc | apply pw_below_drewN | apply below_drew1) | exact HB.out))) : w.heap.size ≤ gb272)); clear HB; have HB := n0_; have BK272 := n1_; have GW272 := n2_; have GE272 := n3_; clear n0_ n1_ n2_ n3_; clear hb hbox hg) | ((with_reducible refine gate_dst (N := 3) rfl ?_); refine box_event ?hg (N := 3) ?hd (cs := #[.int .i64 a1_0, .int .i64 a1_1, .int .i64 a1_2, .int .i64 a1_3, .slice A1_4 l1_4.length c1_4]) (t := 47) ?hr ?_; (case hd => rfl); (case hg => rfl); (case hr => first | (go_simp; done) | (go_simp; rfl)); intro gb273 hg w29 hbox hb; have n0_ := Aside0.mk (blk_below (g := gb272) (o := .cells #[.int .i64 a0_0, .int .i64 a0_1, .int .i64 a0_2, .int .i64 a0_3, .slice A0_4 l0_4.length c0_4] 47 (0, 0)) (by (with_reducible repeat (first | refine blk_drewN ?_ _ | refine blk_drew ?_ | refine blk_alloc ?_ _)); exact BK272.out) hb); have n1_ := Aside0.mk (below_step (by repeat (first | (with_reducible first | exact HB.out | apply below_alloc | apply pw_below_drewN | apply below_drew1 | refine below_set ?_ GE272.out) | exact HB.out)) hb); have n2_ := Aside0.mk (hbox); have n3_ := Aside0.mk ((by rw [hg]; exact (below_size (by repeat (first | (with_reducible first | exact HB.out | apply below_alloc | apply pw_below_drewN | apply below_drew1 | refine below_set ?_ GE272.out) | exact HB.out))) : w.heap.size ≤ gb273)); have n4_ := Aside0.mk ((by rw [hg]; exact (below_size (by repeat (first | (with_reducible first | exact HB.out | apply below_alloc | apply pw_below_drewN | apply below_drew1 | refine below_set ?_ GE272.out) | exact HB.out))) : w.heap.size ≤ gb273)); have n5_ := Aside0.mk ((by rw [hg]; exact Nat.ne_of_lt (blk_lt (g := gb272) (o := .cells #[.int .i64 a0_0, .int .i64 a0_1, .int .i64 a0_2, .int .i64 a0_3, .slice A0_4 l0_4.length c0_4] 47 (0, 0)) (by (with_reducible repeat (first | refine blk_drewN ?_ _ | refine blk_drew ?_ | refine blk_alloc ?_ _)); exact BK272.out)) : gb272 ≠ gb273)); have n6_ := Aside0.mk ((by rw [hg]; exact Nat.ne_of_gt (blk_lt (g := gb272) (o := .cells #[.int .i64 a0_0, .int .i64 a0_1, .int .i64 a0_2, .int .i64 a0_3, .slice A0_4 l0_4.length c0_4] 47 (0, 0)) (by (with_reducible repeat (first | refine blk_drewN ?_ _ | refine blk_drew ?_ | refine blk_alloc ?_ _)); exact BK272.out)) : gb273 ≠ gb272)); clear BK272; clear HB; have BK272 := n0_; have HB := n1_; have BK273 := n2_; have GW273 := n3_; have GE273 := n4_; have NB272_273 := n5_; have NB273_272 := n6_; clear n0_ n1_ n2_ n3_ n4_ n5_ n6_; clear hb hbox hg; have hnb30 := NB272_273.out; have hnc30 := NB273_272.out; have hcz31_0 : w29.cell? ⟨gb272, 0, none⟩ = some (.int .i64 a0_0) := (blk_cell BK272.out 0).trans rfl; have hcz31_1 : w29.cell? ⟨gb272, 1, none⟩ = some (.int .i64 a0_1) := (blk_cell BK272.out 1).trans rfl; have hcz31_2 : w29.cell? ⟨gb272, 2, none⟩ = some (.int .i64 a0_2) := (blk_cell BK272.out 2).trans rfl; have hcz31_3 : w29.cell? ⟨gb272, 3, none⟩ = some (.int .i64 a0_3) := (blk_cell BK272.out 3).trans rfl; have hcz31_4 : w29.cell? ⟨gb272, 4, none⟩ = some (.slice A0_4 l0_4.length c0_4) := (blk_cell BK272.out 4).trans rfl; have hfz31_0 := blk_frozen BK272.out 0; have hfz31_1 := blk_frozen BK272.out 1; have hfz31_2 := blk_frozen BK272.out 2; have hfz31_3 := blk_frozen BK272.out 3; have hfz31_4 := blk_frozen BK272.out 4; have hcz32_0 : w29.cell? ⟨gb273, 0, none⟩ = some (.int .i64 a1_0) := (blk_cell BK273.out 0).trans rfl; have hcz32_1 : w29.cell? ⟨gb273, 1, none⟩ = some (.int .i64 a1_1) := (blk_cell BK273.out 1).trans rfl; have hcz32_2 : w29.cell? ⟨gb273, 2, none⟩ = some (.int .i64 a1_2) := (blk_cell BK273.out 2).trans rfl; have hcz32_3 : w29.cell? ⟨gb273, 3, none⟩ = some (.int .i64 a1_3) := (blk_cell BK273.out 3).trans rfl; have hcz32_4 : w29.cell? ⟨gb273, 4, none⟩ = some (.slice A1_4 l1_4.length c1_4) := (blk_cell BK273.out 4).trans rfl; have hfz32_0 := blk_frozen BK273.out 0; have hfz32_1 := blk_frozen BK273.out 1; have hfz32_2 := blk_frozen BK273.out 2; have hfz32_3 := blk_frozen BK273.out 3; have hfz32_4 := blk_frozen BK273.out 4))
    go_ret
    exact ⟨by first | rfl | (simp [errW_none, errW_some] <;> rfl) | (simp [*, errW_none, errW_some] <;> rfl), by repeat (first | (with_reducible first | exact HB.out | apply below_alloc | apply pw_below_drewN | apply below_drew1 | refine below_set ?_ GE272.out | refine below_set ?_ GE273.out) | exact HB.out)⟩

end Go.Proofs.Ytpgdmmjbhjbbhaa.P
end
section
namespace Go.Proofs.Ytpgdmmjbhjbbhaa.P
open Go.RowKit Go.Proofs.YtpgdmmjbhjbbhaaW.PrintWords Go.Proofs.YtpgdmmjbhjbbhaaW.PrintLast Go.Proofs.YtpgdmmjbhjbbhaaW.PrintMore
attribute [local go_sem] max2_int min2_int max_two min_two max_three min_three max_four min_four   -- for this text's walks alone
set_option linter.unusedVariables false
set_option linter.unusedSimpArgs false

def sluicelaw2_one.f (a0 : Int) (a1 : Int) (a2 : Int) (a3 : Bool) : Option (Bool × Bool) := if a1 = 0 then (some (true, (a0 == 0))) else (if a1 = 20 then (if a0 ≥ 0 then (if a0 ≤ a2 then (some (false, a3)) else (some (false, false))) else (some (false, false))) else (some (false, false)))
set_option maxHeartbeats 8000000 in
set_option maxRecDepth 100000 in
theorem sluicelaw2_one.calls (a0 : Int) (a1 : Int) (a2 : Int) (a3 : Bool) (r1 : Bool) (r2 : Bool) (w : World) (h : sluicelaw2_one.f a0 a1 a2 a3 = some (r1, r2)) :
    Calls Try.prog 36 #[.int .i64 a0, .int .i64 a1, .int .i64 a2, .bool a3] w fun e w' => e = .returned (.tuple #[.bool r1, .bool r2]) ∧ Drawn0 w w' := by
  have H : (if a1 = 0 then (some (true, (a0 == 0))) else (if a1 = 20 then (if a0 ≥ 0 then (if a0 ≤ a2 then (some (false, a3)) else (some (false, false))) else (some (false, false))) else (some (false, false)))) = some (r1, r2) := h
  clear h
  by_cases c5 : a1 = 0
  · rw [if_pos c5] at H
    have c5b0 : (a1 == 0) = true := beq_iff_eq.mpr c5
    have c5b1 : (a1 != 0) = false := bne_eq_false_iff_eq.mpr c5
    clear c5
    simp only [Option.some.injEq, Prod.mk.injEq] at H
    obtain ⟨rfl, rfl⟩ := H
    go_enter Try.func36, Try.ntmps36
    go_wp2
    go_ret2
    exact ⟨by first | rfl | (simp; done) | (simp [*]; done), by repeat (first | exact Drawn0.refl _ | apply Drawn0.step)⟩
  · rw [if_neg c5] at H
    have c5b0 : (a1 == 0) = false := beq_eq_false_iff_ne.mpr c5
    have c5b1 : (a1 != 0) = true := bne_iff_ne.mpr c5
    by_cases c6 : a1 = 20
    · rw [if_pos c6] at H
      have c6b0 : (a1 == 20) = true := beq_iff_eq.mpr c6
      have c6b1 : (a1 != 20) = false := bne_eq_false_iff_eq.mpr c6
      clear c6
      by_cases c7 : a0 ≥ 0
      · rw [if_pos c7] at H
        have c7b0 : decide (0 ≤ a0) = true := decide_eq_true c7
        clear c7
        by_cases c8 : a0 ≤ a2
        · rw [if_pos c8] at H
          have c8b0 : decide (a0 ≤ a2) = true := decide_eq_true c8
          clear c8
          simp only [Option.some.injEq, Prod.mk.injEq] at H
          obtain ⟨rfl, rfl⟩ := H
          go_enter Try.func36, Try.ntmps36
          go_wp2
          go_ret2
          exact ⟨by first | rfl | (simp; done) | (simp [*]; done), by repeat (first | exact Drawn0.refl _ | apply Drawn0.step)⟩
        · rw [if_neg c8] at H
          have c8b0 : decide (a0 ≤ a2) = false := decide_eq_false c8
          clear c8
          simp only [Option.some.injEq, Prod.mk.injEq] at H
          obtain ⟨rfl, rfl⟩ := H
          go_enter Try.func36, Try.ntmps36
          go_wp2
          go_ret2
          exact ⟨by first | rfl | (simp; done) | (simp [*]; done), by repeat (first | exact Drawn0.refl _ | apply Drawn0.step)⟩
      · rw [if_neg c7] at H
        have c7b0 : decide (0 ≤ a0) = false := decide_eq_false c7
        clear c7
        simp only [Option.some.injEq, Prod.mk.injEq] at H
        obtain ⟨rfl, rfl⟩ := H
        go_enter Try.func36, Try.ntmps36
        go_wp2
        go_ret2
        exact ⟨by first | rfl | (simp; done) | (simp [*]; done), by repeat (first | exact Drawn0.refl _ | apply Drawn0.step)⟩
    · rw [if_neg c6] at H
      have c6b0 : (a1 == 20) = false := beq_eq_false_iff_ne.mpr c6
      have c6b1 : (a1 != 20) = true := bne_iff_ne.mpr c6
      simp only [Option.some.injEq, Prod.mk.injEq] at H
      obtain ⟨rfl, rfl⟩ := H
      go_enter Try.func36, Try.ntmps36
      go_wp2
      go_ret2
      exact ⟨by first | rfl | (simp; done) | (simp [*]; done), by repeat (first | exact Drawn0.refl _ | apply Drawn0.step)⟩

end Go.Proofs.Ytpgdmmjbhjbbhaa.P
end
section
namespace Go.Proofs.Ytpgdmmjbhjbbhaa.Lw
open Go Go.RowKit Go.Proofs.Ytpgdmmjbhjbbhaa.P Go.Proofs.Ytpgdmmjbhjbbhaa.Sp Go.Proofs.Ytpgdmmjbhjbbhaa.Vd Go.Proofs.Ytpgdmmjbhjbbhaa.En Go.Proofs.Ytpgdmmjbhjbbhaa.Wr Go.Proofs.Ytpgdmmjbhjbbhaa.Rd Go.Proofs.YtpgdmmjbhjbbhaaW.PrintWords Go.Proofs.YtpgdmmjbhjbbhaaW.PrintLast Go.Proofs.YtpgdmmjbhjbbhaaW.PrintMore
set_option linter.unusedVariables false
set_option linter.unusedSimpArgs false
theorem lit_row {l : List Int} {w : World} {b : Nat} {t : TypeId} {cs : Array Value} (h : w.heap[b]? = some (.cells cs t (0, 0))) (hc : cs.toList = l.map (Value.int .u8)) (hl : l.length ≤ 1000) : Kd.C (Kd.int .u8) w (some ⟨b, 0, none⟩) l.length l := by
  obtain rfl : cs = (l.map (Value.int .u8)).toArray := by rw [← hc]
  refine Kd.C_of_reads (d := (0 : Int)) (h1 := fun _ => rfl) ⟨rfl, by omega, fun _ => ⟨_, rfl, fun j hj => ?_⟩⟩
  rw [add_plain, cell_of_row _ b j _ t (0, 0) h]
  simp only [List.getElem?_toArray, List.getElem?_map, List.getElem?_eq_getElem hj, Option.map_some, List.getD_eq_getElem?_getD, Option.getD_some]
set_option maxHeartbeats 1000000 in
set_option maxRecDepth 100000 in
theorem lent_calls (A : Option Addr) (c : Nat) (b : List Int) (w : World) (hr : Kd.C (Kd.int .u8) w A b.length b) (hl : b.length ≤ 140737488351232) :
    Calls Try.prog 19 #[.slice A b.length c] w fun e w' => ∃ v : Value, e = .returned v ∧ Kd.R (Kd.int .u8) 5 w' w.heap.size (fun _ => True) v (b ++ [165, 90]) ∧ Below w.heap.size w w' := by
  have HR := Aside0.mk hr
  have HL := Aside0.mk hl
  have HZ0 : Aside0 ((0 + b.length) * 1 ≤ 140737488355328) := ⟨by omega⟩
  clear hr hl
  go_enter Try.func19, Try.ntmps19
  go_wp2_with (refine Kd.R_append_row (Value.int .u8) (0 : Int) (h1 := fun _ => rfl) (w0 := w) w.heap.size rfl (.const (.slice none 0 0)) (.tmp 4) 36 5 (.int .u8 0) 1 rfl Try.underlying36 inf8 rfl (by omega) (.slice none 0 0) [] b A b.length c (fun _ => True) rfl rfl (fun _ _ => trivial) (Kd.R_nil _ _ _ _ _) HR.out (Below.refl _ _) (Nat.le_refl _) HZ0.out ?_)
  intro v1 w1 hR1 hB1 hg1 hat1
  have HR1 := Aside0.mk hR1
  have HB1 := Aside0.mk hB1
  clear hR1 hB1 hg1 hat1
  have HC2 : Aside0 (Kd.C (Kd.int .u8) (w1.alloc (.cells #[.int .u8 165, .int .u8 90] 5)) (some ⟨w1.heap.size, 0, none⟩) 2 [165, 90]) := ⟨lit_row (l := [165, 90]) (heap_alloc_new w1 _) rfl (by decide)⟩
  have HR2 : Aside0 (Kd.R (Kd.int .u8) 5 (w1.alloc (.cells #[.int .u8 165, .int .u8 90] 5)) w.heap.size (fun _ => True) v1 b) := ⟨Kd.R_below HR1.out ((Below.refl _ _).alloc (Nat.le_refl _) _)⟩
  have HB2 : Aside0 (Below w.heap.size w (w1.alloc (.cells #[.int .u8 165, .int .u8 90] 5))) := ⟨HB1.out.alloc HB1.out.size _⟩
  have HZ2 : Aside0 ((b.length + 2) * 1 ≤ 140737488355328) := ⟨by have := HL.out; omega⟩
  have HS2 : Aside0 (w.heap.size ≤ (w1.alloc (.cells #[.int .u8 165, .int .u8 90] 5)).heap.size) := ⟨HB2.out.size⟩
  go_wp2_with (refine Kd.R_append_row (Value.int .u8) (0 : Int) (h1 := fun _ => rfl) (w0 := w) w.heap.size rfl (.tmp 6) (.tmp 7) 36 5 (.int .u8 0) 1 rfl Try.underlying36 inf8 rfl (by omega) v1 b [165, 90] (some ⟨w1.heap.size, 0, none⟩) 2 2 (fun _ => True) rfl rfl (fun _ _ => trivial) HR2.out HC2.out HB2.out HS2.out HZ2.out ?_)
  intro v2 w2 hR2 hB2 hg2 hat2
  have HR3 := Aside0.mk hR2
  have HB3 := Aside0.mk hB2
  clear hR2 hB2 hg2 hat2
  go_wp2
  go_ret
  exact ⟨v2, rfl, HR3.out, HB3.out⟩
theorem toList_inj {a b : ByteArray} : a.toList = b.toList ↔ a = b := by
  rw [ByteArray.toList_eq, ByteArray.toList_eq]
  constructor
  · intro h
    cases a with
    | mk x =>
      cases b with
      | mk y =>
        have : x = y := Array.toList_inj.mp h
        rw [this]
  · rintro rfl; rfl
theorem strOf_inj {a b : List Int} (ha : IsB a) (hb : IsB b) : (strOfNums a).toList = (strOfNums b).toList ↔ a = b := by
  rw [toList_inj]
  constructor
  · intro h
    rw [← bytesOf_strOf ha, ← bytesOf_strOf hb, h]
  · rintro rfl; rfl
theorem alike_law {a b : List Int} (ha : IsB a) (hb : IsB b) : sluicelaw2_alike.f a b = some (dcd (a = b)) := by
  unfold sluicelaw2_alike.f
  congr 1
  exact bool_dcd (by rw [beq_iff_eq, strOf_inj ha hb])
theorem alike_calls (A0 : Option Addr) (c0 : Nat) (a : List Int) (A1 : Option Addr) (c1 : Nat) (b : List Int) (w : World) (ha : In w A0 c0 a) (hb : In w A1 c1 b) :
    Calls Try.prog 37 #[.slice A0 a.length c0, .slice A1 b.length c1] w fun e w' => e = .returned (.bool (dcd (a = b))) ∧ Below w.heap.size w w' :=
  (sluicelaw2_alike.calls A0 c0 a A1 c1 b _ w ha.row ha.cap hb.row hb.cap (alike_law ha.isB hb.isB)).mono fun e w' h => ⟨h.1, h.2.below⟩
theorem S87.ext_iff' {x y : S87} : x = y ↔ x.f0 = y.f0 ∧ x.f1 = y.f1 ∧ x.f2 = y.f2 ∧ x.f3 = y.f3 ∧ (x.f4.f0 = y.f4.f0 ∧ x.f4.f1 = y.f4.f1) ∧ x.f5 = y.f5 := by
  obtain ⟨a, b, c, d, ⟨e, f⟩, g⟩ := x
  obtain ⟨a', b', c', d', ⟨e', f'⟩, g'⟩ := y
  simp only [S87.mk.injEq, S25.mk.injEq]
theorem sameViews_go (x y : List S87) (hl : x.length = y.length) (hm : x.length ≤ 9223372036854775807) : ∀ n i : Nat, i + n = x.length → ∃ k, sluicelaw2_sameViews.l0 k x y (i : Int) = some (dcd (x.drop i = y.drop i)) := by
  intro n
  induction n with
  | zero =>
    intro i hi
    refine ⟨1, ?_⟩
    unfold sluicelaw2_sameViews.l0
    rw [if_neg (by omega), List.drop_of_length_le (by omega), List.drop_of_length_le (by omega), dcd_pos rfl]
  | succ n ih =>
    intro i hi
    obtain ⟨k, hk⟩ := ih (i + 1) (by omega)
    refine ⟨k + 1, ?_⟩
    unfold sluicelaw2_sameViews.l0
    have e1 : x.drop i = rd_T87 x i :: x.drop (i + 1) := by
      rw [List.drop_eq_getElem_cons (by omega)]; simp [rd_T87, List.getD_eq_getElem?_getD, List.getElem?_eq_getElem (show i < x.length by omega)]
    have e2 : y.drop i = rd_T87 y i :: y.drop (i + 1) := by
      rw [List.drop_eq_getElem_cons (by omega)]; simp [rd_T87, List.getD_eq_getElem?_getD, List.getElem?_eq_getElem (show i < y.length by omega)]
    rw [if_pos (by omega), if_pos (by omega), if_pos (by omega), e1, e2]
    have hw : wrap64 ((i : Int) + 1) = ((i + 1 : Nat) : Int) := by
      rw [wrap64]; simp [IntKind.wrap, IntKind.bits, IntKind.signed]; omega
    by_cases he : rd_T87 x (i : Int) = rd_T87 y (i : Int)
    · rw [if_neg (by rw [he]; simp), hw, hk, he]
      congr 1
      exact bool_dcd (by rw [dcd_iff]; simp)
    · rw [if_pos ?_]
      · rw [dcd_neg (fun h => he (List.cons.inj h).1)]
      · rw [S87.ext_iff'] at he
        simp only [Bool.or_eq_true, Bool.not_eq_true', beq_eq_false_iff_ne, ne_eq, toList_inj]
        exact Classical.byContradiction fun h => he (by simp only [not_or, Classical.not_not] at h; exact ⟨h.1, h.2.1, h.2.2.1, h.2.2.2.1, h.2.2.2.2.1, h.2.2.2.2.2⟩)
theorem sameViews_calls (A0 : Option Addr) (c0 : Nat) (x : List S87) (A1 : Option Addr) (c1 : Nat) (y : List S87) (w : World) (hx : Kd.C k87 w A0 x.length x) (hxc : x.length ≤ c0) (hy : Kd.C k87 w A1 y.length y) (hyc : y.length ≤ c1) :
    Calls Try.prog 40 #[.slice A0 x.length c0, .slice A1 y.length c1] w fun e w' => e = .returned (.bool (dcd (x = y))) ∧ Below w.heap.size w w' := by
  have hm : x.length ≤ 9223372036854775807 := by have := hx.2.1; omega
  obtain ⟨k, hk⟩ : ∃ k, sluicelaw2_sameViews.f k x y = some (dcd (x = y)) := by
    by_cases hl : x.length = y.length
    · obtain ⟨k, hk⟩ := sameViews_go x y hl hm x.length 0 (by omega)
      exact ⟨k, by unfold sluicelaw2_sameViews.f; rw [if_pos (by omega)]; exact hk⟩
    · exact ⟨0, by unfold sluicelaw2_sameViews.f; rw [if_neg (by omega), dcd_neg (fun h => hl (by rw [h]))]⟩
  exact (sluicelaw2_sameViews.calls k A0 c0 x A1 c1 y _ w hx hxc hy hyc hk).mono fun e w' h => ⟨h.1, h.2.below⟩
theorem seg_law {s t : Seg} (hs : IsB s.data) (ht : IsB t.data) : sluicelaw2_sameSegment.f s.src s.dst s.seq s.ack s.data t.src t.dst t.seq t.ack t.data = some (dcd (s = t)) := by
  obtain ⟨a, b, c, d, e⟩ := s
  obtain ⟨a', b', c', d', e'⟩ := t
  have hd : ∀ p : Prop, ¬ p → some false = some (dcd p) := fun p h => by rw [dcd_neg h]
  unfold sluicelaw2_sameSegment.f
  simp only at hs ht ⊢
  split
  · split
    · split
      · split
        · rw [alike_law hs ht]
          simp only [Option.bind_some]
          congr 1
          exact bool_dcd (by rw [dcd_iff]; simp [*])
        · exact hd _ (fun h => by cases h; contradiction)
      · exact hd _ (fun h => by cases h; contradiction)
    · exact hd _ (fun h => by cases h; contradiction)
  · exact hd _ (fun h => by cases h; contradiction)
theorem sameSegment_calls (s t : Seg) (A0 : Option Addr) (c0 : Nat) (A1 : Option Addr) (c1 : Nat) (w : World) (ha : In w A0 c0 s.data) (hb : In w A1 c1 t.data) :
    Calls Try.prog 29 #[SV s A0 c0, SV t A1 c1] w fun e w' => e = .returned (.bool (dcd (s = t))) ∧ Below w.heap.size w w' :=
  sluicelaw2_sameSegment.calls s.src s.dst s.seq s.ack A0 c0 s.data t.src t.dst t.seq t.ack A1 c1 t.data _ w ha.row ha.cap hb.row hb.cap (seg_law ha.isB hb.isB)
/-- of what is taken -/
theorem one_took (n : Int) (z : Bool) (w : World) :
    Calls Try.prog 36 #[.int .i64 0, .int .i64 0, .int .i64 n, .bool z] w fun e w' => e = .returned (.tuple #[.bool true, .bool true]) ∧ Below w.heap.size w w' :=
  (sluicelaw2_one.calls 0 0 n z true true w (by unfold sluicelaw2_one.f; rw [if_pos rfl]; rfl)).mono fun e w' h => ⟨h.1, h.2.below⟩
/-- of what is refused -/
theorem one_not (at_ n : Int) (w : World) (h0 : 0 ≤ at_) (h1 : at_ ≤ n) :
    Calls Try.prog 36 #[.int .i64 at_, .int .i64 20, .int .i64 n, .bool true] w fun e w' => e = .returned (.tuple #[.bool false, .bool true]) ∧ Below w.heap.size w w' :=
  (sluicelaw2_one.calls at_ 20 n true false true w (by unfold sluicelaw2_one.f; rw [if_neg (by decide), if_pos rfl, if_pos (show at_ ≥ 0 from h0), if_pos h1])).mono fun e w' h => ⟨h.1, h.2.below⟩
end Go.Proofs.Ytpgdmmjbhjbbhaa.Lw
end
