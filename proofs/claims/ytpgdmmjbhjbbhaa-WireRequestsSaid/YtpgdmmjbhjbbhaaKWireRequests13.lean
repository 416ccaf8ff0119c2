/- texts that the proof needs, laid together by a program of this session. -/
import Derived.Test.YtpgdmmjbhjbbhaaKWireRequests12
section
namespace Go.Proofs.Ytpgdmmjbhjbbhaa.Rd
open Go Go.RowKit Go.Proofs.Ytpgdmmjbhjbbhaa.P Go.Proofs.Ytpgdmmjbhjbbhaa.Sp Go.Proofs.Ytpgdmmjbhjbbhaa.Vd Go.Proofs.Ytpgdmmjbhjbbhaa.En Go.Proofs.Ytpgdmmjbhjbbhaa.Wr Go.Proofs.YtpgdmmjbhjbbhaaW.PrintWords Go.Proofs.YtpgdmmjbhjbbhaaW.PrintLast Go.Proofs.YtpgdmmjbhjbbhaaW.PrintMore
set_option linter.unusedVariables false
set_option linter.unusedSimpArgs false
def RVc (r : Rep) : Array Value := #[.int .i64 r.call.f0, .int .i64 r.call.f1, .int .i64 r.err, .int .i64 r.value]
def XR (cb : Nat) (r : Rep) (w : World) : Prop := w.heap[cb]? = some (.cells (RVc r) 50 (0, 0))
theorem stable_XR {n cb : Nat} (h : cb < n) (r : Rep) : Stable n (XR cb r) := fun w1 w2 h3 hk _ => (hk cb (blk_lt h3) (by omega) (by omega)).trans h3
set_option maxHeartbeats 4000000 in
set_option maxRecDepth 100000 in
theorem rep1_calls (w0 w1 : World) (g cb : Nat) (A : Option Addr) (c : Nat) (b : List Int) (hi : In w0 A c b) (h : RS w0 w1 g A c b b) (hne : cb ≠ g) (hge : w0.heap.size ≤ cb) (hy : w1.heap[cb]? = some (.cells (RVc zRep) 50 (0, 0))) :
    Calls Try.prog 86 #[.pointer (some ⟨g, 0, none⟩), .pointer (some ⟨cb, 0, none⟩)] w1 fun e w' => Fld w0 w1 g (fun k => k = cb) A c b (repP b) (YB cb 50 4) (XR cb) e w' := by
  have HI := Aside0.mk hi
  have HNE := Aside0.mk (And.intro hne hge)
  have H0 : Aside0 (Ks (fun k => k = g ∨ k = cb) w1 w1 ∧ RS w0 w1 g A c b b ∧ w1.heap[cb]? = some (.cells (RVc zRep) 50 (0, 0))) := ⟨⟨Nat.le_refl _, fun _ _ _ => rfl⟩, h, hy⟩
  have HP : Aside0 (repP b = (bnd (pairP 0 63 1 1099511627776) fun x => bnd (numP 0 255) fun er => bnd signP fun v => ret ⟨x, er, v⟩) b) := ⟨rfl⟩
  have hu50 := Try.underlying50
  have hu27 := Try.underlying27
  clear hi h hne hge hy
  go_enter Try.func86, Try.ntmps86
  rcases h0 : pairP 0 63 1 1099511627776 b with n0 | ⟨x, l1⟩
  · have HQ : Aside0 (repP b = .bad n0) := ⟨by rw [HP.out, bnd_bad h0]⟩
    go_wp2_with (go_at_call 83; refine (call_calls w0 _ g A c b b HI.out H0.out.2.1).mono ?_; rintro e w2 ⟨hk, hb, hm⟩; simp only [h0, pan] at hm; subst hm; have HE := Aside0.mk (And.intro hk hb); clear hk hb)
    refine ⟨rfl, ⟨HE.out.1.size, fun i hi hs => HE.out.1.block i hi (fun e => hs (.inl e))⟩, HE.out.2, ⟨_, kb_blk HE.out.1 HNE.out.1 H0.out.2.2, rfl⟩, ?_⟩
    rw [HQ.out]
    rfl
  · go_upto_region 1 with (go_at_call 83; refine (call_calls w0 _ g A c b b HI.out H0.out.2.1).mono ?_; rintro e w2 ⟨hk, hb, hm⟩; simp only [h0] at hm; obtain ⟨rfl, hs1⟩ := hm; have HX := Aside0.mk (kb_blk hk HNE.out.1 H0.out.2.2); have HK := Aside0.mk (And.intro hk hs1); clear hk hb hs1; have kc0 : w2.cell? ⟨cb, 0, none⟩ = some (.int .i64 0) := (blk_cell HX.out 0).trans rfl; have kc1 : w2.cell? ⟨cb, 1, none⟩ = some (.int .i64 0) := (blk_cell HX.out 1).trans rfl; have kf0 := blk_frozen HX.out 0; have kf1 := blk_frozen HX.out 1)
    obtain ⟨w3, hw3⟩ : ∃ w3, w3 = (w2.setCell ⟨cb, 0, none⟩ (.int .i64 x.f0)).setCell ⟨cb, 1, none⟩ (.int .i64 x.f1) := ⟨_, rfl⟩
    have hbk := blk_set (blk_set HX.out 0 (.int .i64 x.f0)) 1 (.int .i64 x.f1)
    have H1 : Aside0 (Ks (fun k => k = g ∨ k = cb) w1 w3 ∧ RS w0 w3 g A c b l1 ∧ w3.heap[cb]? = some (.cells (RVc ⟨x, 0, 0⟩) 50 (0, 0))) := ⟨by
      rw [hw3]
      exact ⟨Ks.set (Ks.set ⟨HK.out.1.size, fun i hi hs => HK.out.1.block i hi (fun e => hs (.inl e))⟩ _ _ _ (.inl (.inr rfl))) _ _ _ (.inl (.inr rfl)), (HK.out.2.setOther HNE.out.1 HNE.out.2 0 _).setOther HNE.out.1 HNE.out.2 1 _, hbk⟩⟩
    rw [← hw3]
    clear hw3 hbk HX HK kc0 kc1 kf0 kf1
    rcases h1 : numP 0 255 l1 with n0 | ⟨er, l2⟩
    · have HQ : Aside0 (repP b = .bad n0) := ⟨by rw [HP.out, bnd_ok h0, bnd_bad h1]⟩
      go_wp2_with (go_at_call 80; refine (num_calls w0 _ g A c b l1 0 255 (by decide) (by decide) (by decide) HI.out H1.out.2.1).mono ?_; rintro e w4 ⟨hk, hb, hm⟩; simp only [h1, pan] at hm; subst hm; have HE := Aside0.mk (And.intro hk hb); clear hk hb)
      refine ⟨rfl, H1.out.1.trans ⟨HE.out.1.size, fun i hi hs => HE.out.1.block i hi (fun e => hs (.inl e))⟩, HE.out.2, ⟨_, kb_blk HE.out.1 HNE.out.1 H1.out.2.2, rfl⟩, ?_⟩
      rw [HQ.out]
      rfl
    · go_upto_region 2 with (go_at_call 80; refine (num_calls w0 _ g A c b l1 0 255 (by decide) (by decide) (by decide) HI.out H1.out.2.1).mono ?_; rintro e w4 ⟨hk, hb, hm⟩; simp only [h1] at hm; obtain ⟨rfl, hs1⟩ := hm; have HX := Aside0.mk (kb_blk hk HNE.out.1 H1.out.2.2); have HK := Aside0.mk (And.intro hk hs1); clear hk hb hs1; have kc0 : w4.cell? ⟨cb, 2, none⟩ = some (.int .i64 0) := (blk_cell HX.out 2).trans rfl; have kf0 := blk_frozen HX.out 2)
      obtain ⟨w5, hw5⟩ : ∃ w5, w5 = w4.setCell ⟨cb, 2, none⟩ (.int .i64 er) := ⟨_, rfl⟩
      have hbk := blk_set HX.out 2 (.int .i64 er)
      have H2 : Aside0 (Ks (fun k => k = g ∨ k = cb) w1 w5 ∧ RS w0 w5 g A c b l2 ∧ w5.heap[cb]? = some (.cells (RVc ⟨x, er, 0⟩) 50 (0, 0))) := ⟨by
        rw [hw5]
        exact ⟨H1.out.1.trans (Ks.set ⟨HK.out.1.size, fun i hi hs => HK.out.1.block i hi (fun e => hs (.inl e))⟩ _ _ _ (.inl (.inr rfl))), HK.out.2.setOther HNE.out.1 HNE.out.2 2 _, hbk⟩⟩
      rw [← hw5]
      clear hw5 hbk HX HK kc0 kf0
      rcases h2 : signP l2 with n0 | ⟨v, l3⟩
      · have HQ : Aside0 (repP b = .bad n0) := ⟨by rw [HP.out, bnd_ok h0, bnd_ok h1, bnd_bad h2]⟩
        go_wp2_with (go_at_call 87; refine (signed_calls w0 _ g A c b l2 HI.out H2.out.2.1).mono ?_; rintro e w6 ⟨hk, hb, hm⟩; simp only [h2, pan] at hm; subst hm; have HE := Aside0.mk (And.intro hk hb); clear hk hb)
        refine ⟨rfl, H2.out.1.trans ⟨HE.out.1.size, fun i hi hs => HE.out.1.block i hi (fun e => hs (.inl e))⟩, HE.out.2, ⟨_, kb_blk HE.out.1 HNE.out.1 H2.out.2.2, rfl⟩, ?_⟩
        rw [HQ.out]
        rfl
      · have HQ : Aside0 (repP b = .ok ⟨x, er, v⟩ l3) := ⟨by rw [HP.out, bnd_ok h0, bnd_ok h1, bnd_ok h2]; rfl⟩
        go_wp2_with (go_at_call 87; refine (signed_calls w0 _ g A c b l2 HI.out H2.out.2.1).mono ?_; rintro e w6 ⟨hk, hb, hm⟩; simp only [h2] at hm; obtain ⟨rfl, hs1⟩ := hm; have HX := Aside0.mk (kb_blk hk HNE.out.1 H2.out.2.2); have HK := Aside0.mk (And.intro hk hs1); clear hk hb hs1; have kc0 : w6.cell? ⟨cb, 3, none⟩ = some (.int .i64 0) := (blk_cell HX.out 3).trans rfl; have kf0 := blk_frozen HX.out 3)
        (first | go_end0 | ((try simp only [Exit.inBlock, Exit.then]); refine bodyPost_ret (results_none rfl _ _ _) rfl ?_))
        have hbk := blk_set HX.out 3 (.int .i64 v)
        have hrs := HK.out.2.setOther HNE.out.1 HNE.out.2 3 (.int .i64 v)
        refine ⟨H2.out.1.trans (Ks.set ⟨HK.out.1.size, fun i hi hs => HK.out.1.block i hi (fun e => hs (.inl e))⟩ _ _ _ (.inl (.inr rfl))), hrs.bel, ⟨_, hbk, rfl⟩, ?_⟩
        rw [HQ.out]
        exact ⟨rfl, hrs, hbk⟩
theorem rv_one (r : Rep) : (RVc r).all (·.oneCell') = true := by simp [RVc, Value.oneCell']
theorem inf50 : (Try.prog.info? 50).map (·.size) = some 4 := by kernel_rfl
theorem build_zeroR (a : Act) (W : World) {o : Oper} (ho : o.op = .build 50 #[]) : (execOp a.eval o).run Try.prog W = .ok (.value (.agg (RVc zRep))) W := by
  unfold execOp
  rw [ho]
  have hu50 := Try.underlying50
  have h : (Instr.build 50 #[]).run Try.prog W = .ok (.agg (RVc zRep)) W := by kernel_rfl
  simp [h]
/-- What DecodeReply answers. -/
def DecRP (w : World) (x : Rep × Int × Int) (e : Ending) (w' : World) : Prop :=
  Below w.heap.size w w' ∧ e = .returned (.tuple #[.agg (RVc x.1), .int .i64 x.2.1, .int .i64 x.2.2])
set_option maxHeartbeats 4000000 in
set_option maxRecDepth 100000 in
theorem decrep_calls (w : World) (A : Option Addr) (c : Nat) (b : List Int) (hi : In w A c b) :
    Calls Try.prog 35 #[.slice A b.length c] w fun e w' => DecRP w (whole zRep repP b) e w' := by
  have hmf : ∀ (fn : Fn) (first cap : Array Value) (w : World), (Instr.makeFunc fn first cap).run Try.prog w = .ok (.func fn first cap) w := fun _ _ _ _ => rfl
  obtain ⟨wa, hwa⟩ : ∃ wa, wa = w.alloc (.cells (RVc zRep) 50 (0, 0)) := ⟨_, rfl⟩
  have HWA := Aside0.mk hwa
  have HB : Aside0 (Below w.heap.size w wa ∧ wa.heap.size = w.heap.size + 1 ∧ wa.heap[w.heap.size]? = some (.cells (RVc zRep) 50 (0, 0))) := ⟨by rw [hwa]; exact ⟨al_below w _, by simp, heap_alloc_new w _⟩⟩
  have HRD : Aside0 (Calls Try.prog 59 #[.slice A b.length c, .func (Fn.func 86) #[] #[.pointer (some ⟨w.heap.size, 0, none⟩)]] wa fun e w' => ReadP w wa (fun k => k = w.heap.size) b (repP b) (YB w.heap.size 50 4) (XR w.heap.size) e w') := ⟨by
    have hsz := HB.out.2.1
    refine read_rep w.heap.size w wa A c b _ (repP b) _ _ hi HB.out.1 (fun k hk => by omega) (fun k hk => by omega) (stable_Y (by omega) (by omega)) (fun m => stable_XR (by omega) m) ?_
    intro w1 hb1 hs1 hr1
    exact rep1_calls w w1 _ w.heap.size A c b hi hr1 (by omega) (Nat.le_refl _) (blk_keep hb1 HB.out.2.2)⟩
  have hu50 := Try.underlying50
  clear hwa hi
  rw [show RVc zRep = #[.int .i64 0, .int .i64 0, .int .i64 0, .int .i64 0] from rfl] at HWA
  go_enter Try.func35, Try.ntmps35
  go_upto_region 1 with fail
  rw [← HWA.out]
  go_upto_region 2 with (go_at_call 59; refine HRD.out.mono ?_; rintro e w2 ⟨hks, hbl, hy, pt, er, rfl, hm⟩; have HK := Aside0.mk (And.intro hks (And.intro hbl (And.intro hy hm))); clear hks hbl hy hm)
  rcases hp : repP b with k | ⟨m, l⟩
  · have HW : Aside0 (whole zRep repP b = (zRep, (b.length : Int) - k, 20)) := ⟨by unfold whole; rw [hp]⟩
    rw [hp] at HK
    obtain ⟨old, ho, hos⟩ := HK.out.2.2.1
    (try obtain ⟨rfl, rfl⟩ := HK.out.2.2.2)
    have HC := Aside0.mk (And.intro ho hos)
    have HB3 := Aside0.mk (setRow_blk ho (RVc zRep))
    clear ho hos
    go_wp2_with (first | ((with_reducible refine gate_dst (N := 13) rfl ?_); refine Kd.event_run (v := .agg (RVc zRep)) (w1 := w2) rfl (build_zeroR _ _ rfl) ?_; go_loud (refine wpList_store_row rfl 50 (.tmp 2) (.tmp 13) rfl w.heap.size (RVc zRep) (by rfl) (by rfl) 50 _ HC.out.1 inf50 HC.out.2 (rv_one _) ?_)) | ((with_reducible refine gate_dst (N := 14) rfl ?_); refine wpList_load_row rfl 50 (.tmp 2) rfl w.heap.size (by rfl) 50 (RVc zRep) (0, 0) _ HB3.out Try.underlying50 rfl inf50 ?_; refine Kd.event_run (v := .int .i64 ((b.length : Int) - k)) rfl (by rfl) ?_; refine Kd.event_run (v := .int .i64 (20)) rfl (by rfl) ?_; go_loud (refine wpList_store_row rfl 50 (.tmp 2) (.tmp 14) rfl w.heap.size (RVc zRep) (by rfl) (by rfl) 50 _ HB3.out inf50 rfl (rv_one _) ?_)))
    have HB4 := setRow_blk HB3.out (RVc zRep)
    (try simp only [Exit.inBlock, Exit.then])
    refine bodyPost_ret (v := .tuple #[.agg (RVc zRep), .int .i64 ((b.length : Int) - k), .int .i64 20]) ?_ rfl ?_
    · exact results_cell_two (fn := Try.f35) (p := 2) (q := 3) (r := 4) rfl _ _ w.heap.size 50 _ (0, 0) _ (by rfl) HB4 hu50 rfl inf50
    refine ⟨below_setRow (below_setRow HK.out.2.1 (Nat.le_refl _) _) (Nat.le_refl _) _, ?_⟩; rw [HW.out]; (try rfl)
  · rcases l with _ | ⟨d, l⟩
    · have HW : Aside0 (whole zRep repP b = (m, 0, 0)) := ⟨by unfold whole; rw [hp]⟩
      rw [hp] at HK
      obtain ⟨hpt, her, hbk⟩ := HK.out.2.2.2
      subst hpt her
      have HC := Aside0.mk (show w2.heap[w.heap.size]? = some (.cells (RVc m) 50 (0, 0)) from hbk)
      clear hbk
      go_wp2_with ((with_reducible refine gate_dst (N := 14) rfl ?_); refine wpList_load_row rfl 50 (.tmp 2) rfl w.heap.size (by rfl) 50 (RVc m) (0, 0) _ HC.out Try.underlying50 rfl inf50 ?_; refine Kd.event_run (v := .int .i64 (0)) rfl (by rfl) ?_; refine Kd.event_run (v := .int .i64 (0)) rfl (by rfl) ?_; go_loud (refine wpList_store_row rfl 50 (.tmp 2) (.tmp 14) rfl w.heap.size (RVc m) (by rfl) (by rfl) 50 _ HC.out inf50 rfl (rv_one _) ?_))
      have HB4 := setRow_blk HC.out (RVc m)
      (try simp only [Exit.inBlock, Exit.then])
      refine bodyPost_ret (v := .tuple #[.agg (RVc m), .int .i64 0, .int .i64 0]) ?_ rfl ?_
      · exact results_cell_two (fn := Try.f35) (p := 2) (q := 3) (r := 4) rfl _ _ w.heap.size 50 _ (0, 0) _ (by rfl) HB4 hu50 rfl inf50
      refine ⟨below_setRow HK.out.2.1 (Nat.le_refl _) _, ?_⟩
      rw [HW.out]
      (try rfl)
    · have HW : Aside0 (whole zRep repP b = (zRep, (b.length : Int) - (l.length + 1), 20)) := ⟨by unfold whole; rw [hp]⟩
      rw [hp] at HK
      obtain ⟨old, ho, hos⟩ := HK.out.2.2.1
      (try obtain ⟨rfl, rfl⟩ := HK.out.2.2.2)
      have HC := Aside0.mk (And.intro ho hos)
      have HB3 := Aside0.mk (setRow_blk ho (RVc zRep))
      clear ho hos
      go_wp2_with (first | ((with_reducible refine gate_dst (N := 13) rfl ?_); refine Kd.event_run (v := .agg (RVc zRep)) (w1 := w2) rfl (build_zeroR _ _ rfl) ?_; go_loud (refine wpList_store_row rfl 50 (.tmp 2) (.tmp 13) rfl w.heap.size (RVc zRep) (by rfl) (by rfl) 50 _ HC.out.1 inf50 HC.out.2 (rv_one _) ?_)) | ((with_reducible refine gate_dst (N := 14) rfl ?_); refine wpList_load_row rfl 50 (.tmp 2) rfl w.heap.size (by rfl) 50 (RVc zRep) (0, 0) _ HB3.out Try.underlying50 rfl inf50 ?_; refine Kd.event_run (v := .int .i64 ((b.length : Int) - (l.length + 1))) rfl (by rfl) ?_; refine Kd.event_run (v := .int .i64 (20)) rfl (by rfl) ?_; go_loud (refine wpList_store_row rfl 50 (.tmp 2) (.tmp 14) rfl w.heap.size (RVc zRep) (by rfl) (by rfl) 50 _ HB3.out inf50 rfl (rv_one _) ?_)))
      have HB4 := setRow_blk HB3.out (RVc zRep)
      (try simp only [Exit.inBlock, Exit.then])
      refine bodyPost_ret (v := .tuple #[.agg (RVc zRep), .int .i64 ((b.length : Int) - (l.length + 1)), .int .i64 20]) ?_ rfl ?_
      · exact results_cell_two (fn := Try.f35) (p := 2) (q := 3) (r := 4) rfl _ _ w.heap.size 50 _ (0, 0) _ (by rfl) HB4 hu50 rfl inf50
      refine ⟨below_setRow (below_setRow HK.out.2.1 (Nat.le_refl _) _) (Nat.le_refl _) _, ?_⟩; rw [HW.out]; (try rfl)
end Go.Proofs.Ytpgdmmjbhjbbhaa.Rd
end
section
namespace Go.Proofs.Ytpgdmmjbhjbbhaa.Rd
open Go Go.RowKit Go.Proofs.Ytpgdmmjbhjbbhaa.P Go.Proofs.Ytpgdmmjbhjbbhaa.Sp Go.Proofs.Ytpgdmmjbhjbbhaa.Vd Go.Proofs.Ytpgdmmjbhjbbhaa.En Go.Proofs.Ytpgdmmjbhjbbhaa.Wr Go.Proofs.YtpgdmmjbhjbbhaaW.PrintWords Go.Proofs.YtpgdmmjbhjbbhaaW.PrintLast Go.Proofs.YtpgdmmjbhjbbhaaW.PrintMore
set_option linter.unusedVariables false
set_option linter.unusedSimpArgs false
def CVc (x : S25) : Array Value := #[.int .i64 x.f0, .int .i64 x.f1]
def OVc (o : Sp.Op) : Array Value := #[.int .i64 o.kind, .string o.name, .int .i64 o.a, .int .i64 o.b]
/-- The two variables stand. -/
def YQ (cb db : Nat) (w : World) : Prop := ∃ (x : S25) (o : Sp.Op), w.heap[cb]? = some (.cells (CVc x) 27 (0, 0)) ∧ w.heap[db]? = some (.cells (OVc o) 29 (0, 0))
def XQ (cb db : Nat) (y : S25 × Sp.Op) (w : World) : Prop := w.heap[cb]? = some (.cells (CVc y.1) 27 (0, 0)) ∧ w.heap[db]? = some (.cells (OVc y.2) 29 (0, 0))
theorem stable_XQ {n cb db : Nat} (h : cb < n) (h2 : db < n) (y : S25 × Sp.Op) : Stable n (XQ cb db y) := fun w1 w2 h3 hk _ => ⟨(hk cb (blk_lt h3.1) (by omega) (by omega)).trans h3.1, (hk db (blk_lt h3.2) (by omega) (by omega)).trans h3.2⟩
theorem stable_YQ {n cb db : Nat} (h : cb < n) (h2 : db < n) : Stable n (YQ cb db) := fun w1 w2 ⟨x, o, h3, h4⟩ hk hs => ⟨x, o, stable_XQ h h2 (x, o) w1 w2 ⟨h3, h4⟩ hk hs⟩
set_option maxHeartbeats 4000000 in
set_option maxRecDepth 100000 in
theorem req1_calls (w0 w1 : World) (g cb db : Nat) (A : Option Addr) (c : Nat) (b : List Int) (hi : In w0 A c b) (h : RS w0 w1 g A c b b) (hne : cb ≠ g ∧ db ≠ g ∧ cb ≠ db) (hge : w0.heap.size ≤ cb ∧ w0.heap.size ≤ db) (hy : w1.heap[cb]? = some (.cells (CVc z25) 27 (0, 0))) (hz : w1.heap[db]? = some (.cells (OVc zOp) 29 (0, 0))) :
    Calls Try.prog 82 #[.pointer (some ⟨g, 0, none⟩), .pointer (some ⟨cb, 0, none⟩), .pointer (some ⟨db, 0, none⟩)] w1 fun e w' => Fld w0 w1 g (fun k => k = cb ∨ k = db) A c b (reqP b) (YQ cb db) (XQ cb db) e w' := by
  have HI := Aside0.mk hi
  have HNE := Aside0.mk (And.intro hne hge)
  have H0 : Aside0 (RS w0 w1 g A c b b ∧ w1.heap[cb]? = some (.cells (CVc z25) 27 (0, 0)) ∧ w1.heap[db]? = some (.cells (OVc zOp) 29 (0, 0))) := ⟨h, hy, hz⟩
  have HP : Aside0 (reqP b = (bnd (pairP 0 63 1 1099511627776) fun x => bnd opP fun o => ret (x, o)) b) := ⟨rfl⟩
  have hu29 := Try.underlying29
  have hu27 := Try.underlying27
  clear hi h hne hge hy hz
  go_enter Try.func82, Try.ntmps82
  rcases h0 : pairP 0 63 1 1099511627776 b with n0 | ⟨x, l1⟩
  · have HQ : Aside0 (reqP b = .bad n0) := ⟨by rw [HP.out, bnd_bad h0]⟩
    go_wp2_with (go_at_call 83; refine (call_calls w0 _ g A c b b HI.out H0.out.1).mono ?_; rintro e w2 ⟨hk, hb, hm⟩; simp only [h0, pan] at hm; subst hm; have HE := Aside0.mk (And.intro hk hb); clear hk hb)
    refine ⟨rfl, ⟨HE.out.1.size, fun i hi hs => HE.out.1.block i hi (fun e => hs (.inl e))⟩, HE.out.2, ⟨_, _, kb_blk HE.out.1 HNE.out.1.1 H0.out.2.1, kb_blk HE.out.1 HNE.out.1.2.1 H0.out.2.2⟩, ?_⟩
    rw [HQ.out]
    rfl
  · go_upto_region 1 with (go_at_call 83; refine (call_calls w0 _ g A c b b HI.out H0.out.1).mono ?_; rintro e w2 ⟨hk, hb, hm⟩; simp only [h0] at hm; obtain ⟨rfl, hs1⟩ := hm; have HX := Aside0.mk (kb_blk hk HNE.out.1.1 H0.out.2.1); have HY := Aside0.mk (kb_blk hk HNE.out.1.2.1 H0.out.2.2); have HK := Aside0.mk (And.intro hk hs1); clear hk hb hs1; have kc0 : w2.cell? ⟨cb, 0, none⟩ = some (.int .i64 0) := (blk_cell HX.out 0).trans rfl; have kc1 : w2.cell? ⟨cb, 1, none⟩ = some (.int .i64 0) := (blk_cell HX.out 1).trans rfl; have kf0 := blk_frozen HX.out 0; have kf1 := blk_frozen HX.out 1)
    obtain ⟨w3, hw3⟩ : ∃ w3, w3 = (w2.setCell ⟨cb, 0, none⟩ (.int .i64 x.f0)).setCell ⟨cb, 1, none⟩ (.int .i64 x.f1) := ⟨_, rfl⟩
    have hbk := blk_set (blk_set HX.out 0 (.int .i64 x.f0)) 1 (.int .i64 x.f1)
    have hby := blk_far (blk_far HY.out HNE.out.1.2.2 0 (.int .i64 x.f0)) HNE.out.1.2.2 1 (.int .i64 x.f1)
    have H1 : Aside0 (Ks (fun k => k = g ∨ k = cb ∨ k = db) w1 w3 ∧ RS w0 w3 g A c b l1 ∧ w3.heap[cb]? = some (.cells (CVc x) 27 (0, 0)) ∧ w3.heap[db]? = some (.cells (OVc zOp) 29 (0, 0))) := ⟨by
      rw [hw3]
      exact ⟨Ks.set (Ks.set ⟨HK.out.1.size, fun i hi hs => HK.out.1.block i hi (fun e => hs (.inl e))⟩ _ _ _ (.inl (.inr (.inl rfl)))) _ _ _ (.inl (.inr (.inl rfl))), (HK.out.2.setOther HNE.out.1.1 HNE.out.2.1 0 _).setOther HNE.out.1.1 HNE.out.2.1 1 _, hbk, hby⟩⟩
    rw [← hw3]
    clear hw3 hbk hby HX HY HK kc0 kc1 kf0 kf1
    rcases h1 : opP l1 with n0 | ⟨o, l2⟩
    · have HQ : Aside0 (reqP b = .bad n0) := ⟨by rw [HP.out, bnd_ok h0, bnd_bad h1]⟩
      go_wp2_with (go_at_call 84; refine (op_calls w0 _ g A c b l1 HI.out H1.out.2.1).mono ?_; rintro e w4 ⟨hk, hb, hm⟩; simp only [h1, pan] at hm; subst hm; have HE := Aside0.mk (And.intro hk hb); clear hk hb)
      refine ⟨rfl, H1.out.1.trans ⟨HE.out.1.size, fun i hi hs => HE.out.1.block i hi (fun e => hs (.inl e))⟩, HE.out.2, ⟨_, _, kb_blk HE.out.1 HNE.out.1.1 H1.out.2.2.1, kb_blk HE.out.1 HNE.out.1.2.1 H1.out.2.2.2⟩, ?_⟩
      rw [HQ.out]
      rfl
    · have HQ : Aside0 (reqP b = .ok (x, o) l2) := ⟨by rw [HP.out, bnd_ok h0, bnd_ok h1]; rfl⟩
      go_wp2_with (go_at_call 84; refine (op_calls w0 _ g A c b l1 HI.out H1.out.2.1).mono ?_; rintro e w4 ⟨hk, hb, hm⟩; simp only [h1] at hm; obtain ⟨rfl, hs1⟩ := hm; have HX := Aside0.mk (kb_blk hk HNE.out.1.1 H1.out.2.2.1); have HY := Aside0.mk (kb_blk hk HNE.out.1.2.1 H1.out.2.2.2); have HK := Aside0.mk (And.intro hk hs1); clear hk hb hs1; have kc0 : w4.cell? ⟨db, 0, none⟩ = some (.int .i64 0) := (blk_cell HY.out 0).trans rfl; have kc1 : w4.cell? ⟨db, 1, none⟩ = some (.string eB) := (blk_cell HY.out 1).trans rfl; have kc2 : w4.cell? ⟨db, 2, none⟩ = some (.int .i64 0) := (blk_cell HY.out 2).trans rfl; have kc3 : w4.cell? ⟨db, 3, none⟩ = some (.int .i64 0) := (blk_cell HY.out 3).trans rfl; have kf0 := blk_frozen HY.out 0; have kf1 := blk_frozen HY.out 1; have kf2 := blk_frozen HY.out 2; have kf3 := blk_frozen HY.out 3)
      (first | go_end0 | ((try simp only [Exit.inBlock, Exit.then]); refine bodyPost_ret (results_none rfl _ _ _) rfl ?_))
      have hbk := blk_set (blk_set (blk_set (blk_set HY.out 0 (.int .i64 o.kind)) 1 (.string o.name)) 2 (.int .i64 o.a)) 3 (.int .i64 o.b)
      have hbx := blk_far (blk_far (blk_far (blk_far HX.out (Ne.symm HNE.out.1.2.2) 0 (.int .i64 o.kind)) (Ne.symm HNE.out.1.2.2) 1 (.string o.name)) (Ne.symm HNE.out.1.2.2) 2 (.int .i64 o.a)) (Ne.symm HNE.out.1.2.2) 3 (.int .i64 o.b)
      have hrs := (((HK.out.2.setOther HNE.out.1.2.1 HNE.out.2.2 0 (.int .i64 o.kind)).setOther HNE.out.1.2.1 HNE.out.2.2 1 (.string o.name)).setOther HNE.out.1.2.1 HNE.out.2.2 2 (.int .i64 o.a)).setOther HNE.out.1.2.1 HNE.out.2.2 3 (.int .i64 o.b)
      refine ⟨H1.out.1.trans (Ks.set (Ks.set (Ks.set (Ks.set ⟨HK.out.1.size, fun i hi hs => HK.out.1.block i hi (fun e => hs (.inl e))⟩ _ _ _ (.inl (.inr (.inr rfl)))) _ _ _ (.inl (.inr (.inr rfl)))) _ _ _ (.inl (.inr (.inr rfl)))) _ _ _ (.inl (.inr (.inr rfl)))), hrs.bel, ⟨x, o, hbx, hbk⟩, ?_⟩
      rw [HQ.out]
      exact ⟨rfl, hrs, hbx, hbk⟩
theorem results_two_two {P : Program} {fn : Func} {p p2 q r : Tmp} {ty ty2 : TypeId} (h : fn.results = #[.cell p ty, .cell p2 ty2, .tmp q, .tmp r]) (tmps : Array Value) (w : World) (g g2 : Nat) (t t2 : TypeId) (cs cs2 : Array Value) (fr fr2 : Nat × Nat) (d d2 : TypeDesc)
    (hp : tmps.getD p undef = .pointer (some ⟨g, 0, none⟩)) (hg : w.heap[g]? = some (.cells cs t fr))
    (hu : P.underlying ty = some d) (hd : (match d with | .struct _ | .array _ _ => true | _ => false) = true) (hi : (P.info? ty).map (·.size) = some cs.size)
    (hp2 : tmps.getD p2 undef = .pointer (some ⟨g2, 0, none⟩)) (hg2 : w.heap[g2]? = some (.cells cs2 t2 fr2))
    (hu2 : P.underlying ty2 = some d2) (hd2 : (match d2 with | .struct _ | .array _ _ => true | _ => false) = true) (hi2 : (P.info? ty2).map (·.size) = some cs2.size) :
    (results fn tmps).run P w = .ok (.tuple #[.agg cs, .agg cs2, tmps.getD q undef, tmps.getD r undef]) w := by
  have hp' : tmps[p]?.getD undef = .pointer (some ⟨g, 0, none⟩) := by simpa using hp
  have hp2' : tmps[p2]?.getD undef = .pointer (some ⟨g2, 0, none⟩) := by simpa using hp2
  simp [results, h, hp', hp2', asAddr, run_loadVar_row w g t ty cs fr d hg hu hd hi, run_loadVar_row w g2 t2 ty2 cs2 fr2 d2 hg2 hu2 hd2 hi2]
theorem blk_as {w : World} {g : Nat} {t : TypeId} {cs cs2 : Array Value} (h : w.heap[g]? = some (.cells cs t (0, 0))) (e : cs = cs2) : w.drew.heap[g]? = some (.cells cs2 t (0, 0)) := e ▸ h
/-- What DecodeRequest answers. -/
def DecQP (w : World) (y : (S25 × Sp.Op) × Int × Int) (e : Ending) (w' : World) : Prop :=
  Below w.heap.size w w' ∧ e = .returned (.tuple #[.agg (CVc y.1.1), .agg (OVc y.1.2), .int .i64 y.2.1, .int .i64 y.2.2])
set_option maxHeartbeats 4000000 in
set_option maxRecDepth 100000 in
theorem decreq_calls (w : World) (A : Option Addr) (c : Nat) (b : List Int) (hi : In w A c b) :
    Calls Try.prog 33 #[.slice A b.length c] w fun e w' => DecQP w (whole (z25, zOp) reqP b) e w' := by
  have hmf : ∀ (fn : Fn) (first cap : Array Value) (w : World), (Instr.makeFunc fn first cap).run Try.prog w = .ok (.func fn first cap) w := fun _ _ _ _ => rfl
  obtain ⟨wa, hwa⟩ : ∃ wa, wa = (w.alloc (.cells #[.int .i64 0, .int .i64 0] 27 (0, 0))).alloc (.cells #[.int .i64 0, .string ⟨#[]⟩, .int .i64 0, .int .i64 0] 29 (0, 0)) := ⟨_, rfl⟩
  have HWA := Aside0.mk hwa
  have HB : Aside0 (Below w.heap.size w wa ∧ wa.heap.size = w.heap.size + 1 + 1 ∧ wa.heap[w.heap.size]? = some (.cells (CVc z25) 27 (0, 0)) ∧ wa.heap[w.heap.size + 1]? = some (.cells (OVc zOp) 29 (0, 0))) := ⟨by
    rw [hwa]
    refine ⟨below_al2 w _ _, by simp, (Below.heap_alloc _ _ _ (by simp)).trans (heap_alloc_new w _), ?_⟩
    have := heap_alloc_new (w.alloc (.cells #[.int .i64 0, .int .i64 0] 27 (0, 0))) (.cells #[.int .i64 0, .string ⟨#[]⟩, .int .i64 0, .int .i64 0] 29 (0, 0))
    simpa [OVc, zOp, eB] using this⟩
  have HRD : Aside0 (Calls Try.prog 59 #[.slice A b.length c, .func (Fn.func 82) #[] #[.pointer (some ⟨w.heap.size, 0, none⟩), .pointer (some ⟨w.heap.size + 1, 0, none⟩)]] wa fun e w' => ReadP w wa (fun k => k = w.heap.size ∨ k = w.heap.size + 1) b (reqP b) (YQ w.heap.size (w.heap.size + 1)) (XQ w.heap.size (w.heap.size + 1)) e w') := ⟨by
    have hsz := HB.out.2.1
    refine read_req w.heap.size (w.heap.size + 1) w wa A c b _ (reqP b) _ _ hi HB.out.1 (fun k hk => by omega) (fun k hk => by omega) (stable_YQ (by omega) (by omega)) (fun m => stable_XQ (by omega) (by omega) m) ?_
    intro w1 hb1 hs1 hr1
    exact req1_calls w w1 _ w.heap.size (w.heap.size + 1) A c b hi hr1 ⟨by omega, by omega, by omega⟩ ⟨by omega, by omega⟩ (blk_keep hb1 HB.out.2.2.1) (blk_keep hb1 HB.out.2.2.2)⟩
  have hu29 := Try.underlying29
  have hu27 := Try.underlying27
  have hne : w.heap.size ≠ w.heap.size + 1 := by omega
  clear hwa hi
  go_enter Try.func33, Try.ntmps33
  go_upto_region 1 with fail
  rw [← HWA.out]
  go_upto_region 2 with (go_at_call 59; refine HRD.out.mono ?_; rintro e w2 ⟨hks, hbl, hy, pt, er, rfl, hm⟩; have HK := Aside0.mk (And.intro hks (And.intro hbl (And.intro hy hm))); clear hks hbl hy hm)
  rcases hp : reqP b with k | ⟨⟨x, o⟩, l⟩
  · have HW : Aside0 (whole (z25, zOp) reqP b = ((z25, zOp), (b.length : Int) - k, 20)) := ⟨by unfold whole; rw [hp]⟩
    rw [hp] at HK
    (try obtain ⟨rfl, rfl⟩ := HK.out.2.2.2)
    obtain ⟨x, o, hx, ho⟩ := HK.out.2.2.1
    have HX := Aside0.mk (And.intro hx ho)
    clear hx ho
    have kc0 : w2.cell? ⟨w.heap.size, 0, none⟩ = some (.int .i64 x.f0) := (blk_cell HX.out.1 0).trans rfl
    have kc1 : w2.cell? ⟨w.heap.size, 1, none⟩ = some (.int .i64 x.f1) := (blk_cell HX.out.1 1).trans rfl
    have kf0 := blk_frozen HX.out.1 0
    have kf1 := blk_frozen HX.out.1 1
    have ko0 : w2.cell? ⟨w.heap.size + 1, 0, none⟩ = some (.int .i64 o.kind) := (blk_cell HX.out.2 0).trans rfl
    have ko1 : w2.cell? ⟨w.heap.size + 1, 1, none⟩ = some (.string o.name) := (blk_cell HX.out.2 1).trans rfl
    have ko2 : w2.cell? ⟨w.heap.size + 1, 2, none⟩ = some (.int .i64 o.a) := (blk_cell HX.out.2 2).trans rfl
    have ko3 : w2.cell? ⟨w.heap.size + 1, 3, none⟩ = some (.int .i64 o.b) := (blk_cell HX.out.2 3).trans rfl
    have kg0 := blk_frozen HX.out.2 0
    have kg1 := blk_frozen HX.out.2 1
    have kg2 := blk_frozen HX.out.2 2
    have kg3 := blk_frozen HX.out.2 3
    go_upto_region 4 with fail
    obtain ⟨w3, hw3⟩ : ∃ w3, w3 = (((((w2.setCell ⟨w.heap.size, 0, none⟩ (.int .i64 0)).setCell ⟨w.heap.size, 1, none⟩ (.int .i64 0)).setCell ⟨w.heap.size + 1, 0, none⟩ (.int .i64 0)).setCell ⟨w.heap.size + 1, 1, none⟩ (.string ⟨#[]⟩)).setCell ⟨w.heap.size + 1, 2, none⟩ (.int .i64 0)).setCell ⟨w.heap.size + 1, 3, none⟩ (.int .i64 0) := ⟨_, rfl⟩
    have hq1 := blk_far (g := w.heap.size + 1) (blk_far (g := w.heap.size + 1) (blk_far (g := w.heap.size + 1) (blk_far (g := w.heap.size + 1) (blk_set (blk_set HX.out.1 0 (.int .i64 0)) 1 (.int .i64 0)) (Ne.symm hne) 0 (.int .i64 0)) (Ne.symm hne) 1 (.string ⟨#[]⟩)) (Ne.symm hne) 2 (.int .i64 0)) (Ne.symm hne) 3 (.int .i64 0)
    have hq2 := blk_set (blk_set (blk_set (blk_set (blk_far (g := w.heap.size) (blk_far (g := w.heap.size) HX.out.2 hne 0 (.int .i64 0)) hne 1 (.int .i64 0)) 0 (.int .i64 0)) 1 (.string ⟨#[]⟩)) 2 (.int .i64 0)) 3 (.int .i64 0)
    have H3 : Aside0 (w3.heap[w.heap.size]? = some (.cells (CVc z25) 27 (0, 0)) ∧ w3.heap[w.heap.size + 1]? = some (.cells (OVc zOp) 29 (0, 0))) := ⟨by rw [hw3]; exact ⟨hq1, hq2⟩⟩
    have HB3 : Aside0 (Below w.heap.size w w3) := ⟨by rw [hw3]; exact (((((HK.out.2.1.setCell (Nat.le_refl _) _).setCell (Nat.le_refl _) _).setCell (Nat.le_succ _) _).setCell (Nat.le_succ _) _).setCell (Nat.le_succ _) _).setCell (Nat.le_succ _) _⟩
    rw [← hw3]
    clear hw3 hq1 hq2 kc0 kc1 kf0 kf1 ko0 ko1 ko2 ko3 kg0 kg1 kg2 kg3
    have kc0 : w3.cell? ⟨w.heap.size, 0, none⟩ = some (.int .i64 0) := (blk_cell H3.out.1 0).trans rfl
    have kc1 : w3.cell? ⟨w.heap.size, 1, none⟩ = some (.int .i64 0) := (blk_cell H3.out.1 1).trans rfl
    have kf0 := blk_frozen H3.out.1 0
    have kf1 := blk_frozen H3.out.1 1
    have ko0 : w3.cell? ⟨w.heap.size + 1, 0, none⟩ = some (.int .i64 0) := (blk_cell H3.out.2 0).trans rfl
    have ko1 : w3.cell? ⟨w.heap.size + 1, 1, none⟩ = some (.string ⟨#[]⟩) := (blk_cell H3.out.2 1).trans rfl
    have ko2 : w3.cell? ⟨w.heap.size + 1, 2, none⟩ = some (.int .i64 0) := (blk_cell H3.out.2 2).trans rfl
    have ko3 : w3.cell? ⟨w.heap.size + 1, 3, none⟩ = some (.int .i64 0) := (blk_cell H3.out.2 3).trans rfl
    have kg0 := blk_frozen H3.out.2 0
    have kg1 := blk_frozen H3.out.2 1
    have kg2 := blk_frozen H3.out.2 2
    have kg3 := blk_frozen H3.out.2 3
    go_region
    all_goals go_wp2
    all_goals (try simp only [Exit.inBlock, Exit.then])
    all_goals
      have he1 := blk_far (g := w.heap.size + 1) (blk_far (g := w.heap.size + 1) (blk_far (g := w.heap.size + 1) (blk_far (g := w.heap.size + 1) (blk_set (blk_set H3.out.1 0 (.int .i64 0)) 1 (.int .i64 0)) (Ne.symm hne) 0 (.int .i64 0)) (Ne.symm hne) 1 (.string ⟨#[]⟩)) (Ne.symm hne) 2 (.int .i64 0)) (Ne.symm hne) 3 (.int .i64 0)
      have he2 := blk_set (blk_set (blk_set (blk_set (blk_far (g := w.heap.size) (blk_far (g := w.heap.size) H3.out.2 hne 0 (.int .i64 0)) hne 1 (.int .i64 0)) 0 (.int .i64 0)) 1 (.string ⟨#[]⟩)) 2 (.int .i64 0)) 3 (.int .i64 0)
      refine bodyPost_ret (v := .tuple #[.agg (CVc z25), .agg (OVc zOp), .int .i64 ((b.length : Int) - k), .int .i64 20]) ?_ rfl ?_
      · exact results_two_two (fn := Try.f33) (p := 2) (p2 := 3) (q := 4) (r := 5) rfl _ _ w.heap.size (w.heap.size + 1) 27 29 _ _ (0, 0) (0, 0) _ _ (by rfl) (blk_as he1 (cs2 := CVc z25) rfl) hu27 rfl inf27 (by rfl) (blk_as he2 (cs2 := OVc zOp) rfl) hu29 rfl inf29
      refine ⟨Below.drew ((((((HB3.out.setCell (Nat.le_refl _) _).setCell (Nat.le_refl _) _).setCell (Nat.le_succ _) _).setCell (Nat.le_succ _) _).setCell (Nat.le_succ _) _).setCell (Nat.le_succ _) _), ?_⟩
      rw [HW.out]
  · rcases l with _ | ⟨d, l⟩
    · have HW : Aside0 (whole (z25, zOp) reqP b = ((x, o), 0, 0)) := ⟨by unfold whole; rw [hp]⟩
      rw [hp] at HK
      obtain ⟨hpt, her, hbk⟩ := HK.out.2.2.2
      subst hpt her
      have HX := Aside0.mk (show w2.heap[w.heap.size]? = some (.cells (CVc x) 27 (0, 0)) ∧ w2.heap[w.heap.size + 1]? = some (.cells (OVc o) 29 (0, 0)) from hbk)
      clear hbk
      have kc0 : w2.cell? ⟨w.heap.size, 0, none⟩ = some (.int .i64 x.f0) := (blk_cell HX.out.1 0).trans rfl
      have kc1 : w2.cell? ⟨w.heap.size, 1, none⟩ = some (.int .i64 x.f1) := (blk_cell HX.out.1 1).trans rfl
      have kf0 := blk_frozen HX.out.1 0
      have kf1 := blk_frozen HX.out.1 1
      have ko0 : w2.cell? ⟨w.heap.size + 1, 0, none⟩ = some (.int .i64 o.kind) := (blk_cell HX.out.2 0).trans rfl
      have ko1 : w2.cell? ⟨w.heap.size + 1, 1, none⟩ = some (.string o.name) := (blk_cell HX.out.2 1).trans rfl
      have ko2 : w2.cell? ⟨w.heap.size + 1, 2, none⟩ = some (.int .i64 o.a) := (blk_cell HX.out.2 2).trans rfl
      have ko3 : w2.cell? ⟨w.heap.size + 1, 3, none⟩ = some (.int .i64 o.b) := (blk_cell HX.out.2 3).trans rfl
      have kg0 := blk_frozen HX.out.2 0
      have kg1 := blk_frozen HX.out.2 1
      have kg2 := blk_frozen HX.out.2 2
      have kg3 := blk_frozen HX.out.2 3
      go_upto_region 4 with fail
      go_region
      all_goals go_wp2
      all_goals (try simp only [Exit.inBlock, Exit.then])
      all_goals
        have he1 := blk_far (g := w.heap.size + 1) (blk_far (g := w.heap.size + 1) (blk_far (g := w.heap.size + 1) (blk_far (g := w.heap.size + 1) (blk_set (blk_set HX.out.1 0 (.int .i64 x.f0)) 1 (.int .i64 x.f1)) (Ne.symm hne) 0 (.int .i64 o.kind)) (Ne.symm hne) 1 (.string o.name)) (Ne.symm hne) 2 (.int .i64 o.a)) (Ne.symm hne) 3 (.int .i64 o.b)
        have he2 := blk_set (blk_set (blk_set (blk_set (blk_far (g := w.heap.size) (blk_far (g := w.heap.size) HX.out.2 hne 0 (.int .i64 x.f0)) hne 1 (.int .i64 x.f1)) 0 (.int .i64 o.kind)) 1 (.string o.name)) 2 (.int .i64 o.a)) 3 (.int .i64 o.b)
        refine bodyPost_ret (v := .tuple #[.agg (CVc x), .agg (OVc o), .int .i64 (0), .int .i64 0]) ?_ rfl ?_
        · exact results_two_two (fn := Try.f33) (p := 2) (p2 := 3) (q := 4) (r := 5) rfl _ _ w.heap.size (w.heap.size + 1) 27 29 _ _ (0, 0) (0, 0) _ _ (by rfl) (blk_as he1 (cs2 := CVc x) rfl) hu27 rfl inf27 (by rfl) (blk_as he2 (cs2 := OVc o) rfl) hu29 rfl inf29
        refine ⟨Below.drew ((((((HK.out.2.1.setCell (Nat.le_refl _) _).setCell (Nat.le_refl _) _).setCell (Nat.le_succ _) _).setCell (Nat.le_succ _) _).setCell (Nat.le_succ _) _).setCell (Nat.le_succ _) _), ?_⟩
        rw [HW.out]
    · have HW : Aside0 (whole (z25, zOp) reqP b = ((z25, zOp), (b.length : Int) - (l.length + 1), 20)) := ⟨by unfold whole; rw [hp]⟩
      rw [hp] at HK
      (try obtain ⟨rfl, rfl⟩ := HK.out.2.2.2)
      obtain ⟨x2, o2, hx, ho⟩ := HK.out.2.2.1
      have HX := Aside0.mk (And.intro hx ho)
      clear hx ho
      have kc0 : w2.cell? ⟨w.heap.size, 0, none⟩ = some (.int .i64 x2.f0) := (blk_cell HX.out.1 0).trans rfl
      have kc1 : w2.cell? ⟨w.heap.size, 1, none⟩ = some (.int .i64 x2.f1) := (blk_cell HX.out.1 1).trans rfl
      have kf0 := blk_frozen HX.out.1 0
      have kf1 := blk_frozen HX.out.1 1
      have ko0 : w2.cell? ⟨w.heap.size + 1, 0, none⟩ = some (.int .i64 o2.kind) := (blk_cell HX.out.2 0).trans rfl
      have ko1 : w2.cell? ⟨w.heap.size + 1, 1, none⟩ = some (.string o2.name) := (blk_cell HX.out.2 1).trans rfl
      have ko2 : w2.cell? ⟨w.heap.size + 1, 2, none⟩ = some (.int .i64 o2.a) := (blk_cell HX.out.2 2).trans rfl
      have ko3 : w2.cell? ⟨w.heap.size + 1, 3, none⟩ = some (.int .i64 o2.b) := (blk_cell HX.out.2 3).trans rfl
      have kg0 := blk_frozen HX.out.2 0
      have kg1 := blk_frozen HX.out.2 1
      have kg2 := blk_frozen HX.out.2 2
      have kg3 := blk_frozen HX.out.2 3
      go_upto_region 4 with fail
      obtain ⟨w3, hw3⟩ : ∃ w3, w3 = (((((w2.setCell ⟨w.heap.size, 0, none⟩ (.int .i64 0)).setCell ⟨w.heap.size, 1, none⟩ (.int .i64 0)).setCell ⟨w.heap.size + 1, 0, none⟩ (.int .i64 0)).setCell ⟨w.heap.size + 1, 1, none⟩ (.string ⟨#[]⟩)).setCell ⟨w.heap.size + 1, 2, none⟩ (.int .i64 0)).setCell ⟨w.heap.size + 1, 3, none⟩ (.int .i64 0) := ⟨_, rfl⟩
      have hq1 := blk_far (g := w.heap.size + 1) (blk_far (g := w.heap.size + 1) (blk_far (g := w.heap.size + 1) (blk_far (g := w.heap.size + 1) (blk_set (blk_set HX.out.1 0 (.int .i64 0)) 1 (.int .i64 0)) (Ne.symm hne) 0 (.int .i64 0)) (Ne.symm hne) 1 (.string ⟨#[]⟩)) (Ne.symm hne) 2 (.int .i64 0)) (Ne.symm hne) 3 (.int .i64 0)
      have hq2 := blk_set (blk_set (blk_set (blk_set (blk_far (g := w.heap.size) (blk_far (g := w.heap.size) HX.out.2 hne 0 (.int .i64 0)) hne 1 (.int .i64 0)) 0 (.int .i64 0)) 1 (.string ⟨#[]⟩)) 2 (.int .i64 0)) 3 (.int .i64 0)
      have H3 : Aside0 (w3.heap[w.heap.size]? = some (.cells (CVc z25) 27 (0, 0)) ∧ w3.heap[w.heap.size + 1]? = some (.cells (OVc zOp) 29 (0, 0))) := ⟨by rw [hw3]; exact ⟨hq1, hq2⟩⟩
      have HB3 : Aside0 (Below w.heap.size w w3) := ⟨by rw [hw3]; exact (((((HK.out.2.1.setCell (Nat.le_refl _) _).setCell (Nat.le_refl _) _).setCell (Nat.le_succ _) _).setCell (Nat.le_succ _) _).setCell (Nat.le_succ _) _).setCell (Nat.le_succ _) _⟩
      rw [← hw3]
      clear hw3 hq1 hq2 kc0 kc1 kf0 kf1 ko0 ko1 ko2 ko3 kg0 kg1 kg2 kg3
      have kc0 : w3.cell? ⟨w.heap.size, 0, none⟩ = some (.int .i64 0) := (blk_cell H3.out.1 0).trans rfl
      have kc1 : w3.cell? ⟨w.heap.size, 1, none⟩ = some (.int .i64 0) := (blk_cell H3.out.1 1).trans rfl
      have kf0 := blk_frozen H3.out.1 0
      have kf1 := blk_frozen H3.out.1 1
      have ko0 : w3.cell? ⟨w.heap.size + 1, 0, none⟩ = some (.int .i64 0) := (blk_cell H3.out.2 0).trans rfl
      have ko1 : w3.cell? ⟨w.heap.size + 1, 1, none⟩ = some (.string ⟨#[]⟩) := (blk_cell H3.out.2 1).trans rfl
      have ko2 : w3.cell? ⟨w.heap.size + 1, 2, none⟩ = some (.int .i64 0) := (blk_cell H3.out.2 2).trans rfl
      have ko3 : w3.cell? ⟨w.heap.size + 1, 3, none⟩ = some (.int .i64 0) := (blk_cell H3.out.2 3).trans rfl
      have kg0 := blk_frozen H3.out.2 0
      have kg1 := blk_frozen H3.out.2 1
      have kg2 := blk_frozen H3.out.2 2
      have kg3 := blk_frozen H3.out.2 3
      go_region
      all_goals go_wp2
      all_goals (try simp only [Exit.inBlock, Exit.then])
      all_goals
        have he1 := blk_far (g := w.heap.size + 1) (blk_far (g := w.heap.size + 1) (blk_far (g := w.heap.size + 1) (blk_far (g := w.heap.size + 1) (blk_set (blk_set H3.out.1 0 (.int .i64 0)) 1 (.int .i64 0)) (Ne.symm hne) 0 (.int .i64 0)) (Ne.symm hne) 1 (.string ⟨#[]⟩)) (Ne.symm hne) 2 (.int .i64 0)) (Ne.symm hne) 3 (.int .i64 0)
        have he2 := blk_set (blk_set (blk_set (blk_set (blk_far (g := w.heap.size) (blk_far (g := w.heap.size) H3.out.2 hne 0 (.int .i64 0)) hne 1 (.int .i64 0)) 0 (.int .i64 0)) 1 (.string ⟨#[]⟩)) 2 (.int .i64 0)) 3 (.int .i64 0)
        refine bodyPost_ret (v := .tuple #[.agg (CVc z25), .agg (OVc zOp), .int .i64 ((b.length : Int) - (l.length + 1)), .int .i64 20]) ?_ rfl ?_
        · exact results_two_two (fn := Try.f33) (p := 2) (p2 := 3) (q := 4) (r := 5) rfl _ _ w.heap.size (w.heap.size + 1) 27 29 _ _ (0, 0) (0, 0) _ _ (by rfl) (blk_as he1 (cs2 := CVc z25) rfl) hu27 rfl inf27 (by rfl) (blk_as he2 (cs2 := OVc zOp) rfl) hu29 rfl inf29
        refine ⟨Below.drew ((((((HB3.out.setCell (Nat.le_refl _) _).setCell (Nat.le_refl _) _).setCell (Nat.le_succ _) _).setCell (Nat.le_succ _) _).setCell (Nat.le_succ _) _).setCell (Nat.le_succ _) _), ?_⟩
        rw [HW.out]
end Go.Proofs.Ytpgdmmjbhjbbhaa.Rd
end
section
namespace Go.Proofs.Ytpgdmmjbhjbbhaa.Rd
open Go Go.RowKit Go.Proofs.Ytpgdmmjbhjbbhaa.P Go.Proofs.Ytpgdmmjbhjbbhaa.Sp Go.Proofs.Ytpgdmmjbhjbbhaa.Vd Go.Proofs.Ytpgdmmjbhjbbhaa.En Go.Proofs.Ytpgdmmjbhjbbhaa.Wr Go.Proofs.YtpgdmmjbhjbbhaaW.PrintWords Go.Proofs.YtpgdmmjbhjbbhaaW.PrintLast Go.Proofs.YtpgdmmjbhjbbhaaW.PrintMore
set_option linter.unusedVariables false
set_option linter.unusedSimpArgs false
def SGc (f t q a : Int) (v : Value) : Array Value := #[.int .i64 f, .int .i64 t, .int .i64 q, .int .i64 a, v]
theorem R_keep2 {w1 w2 : World} {m : Nat} {v : Value} {xs : List Int} (h : Kd.R (Kd.int .u8) 5 w1 m (fun _ => True) v xs) (hk : ∀ k, k < w1.heap.size → m ≤ k → w2.heap[k]? = w1.heap[k]?) : Kd.R (Kd.int .u8) 5 w2 m (fun _ => True) v xs :=
  Kd.R_mono (Kd.R_move (Kd.R_bound h) (fun k hk2 => hk k hk2.2.2.1 hk2.2.1)) (fun _ _ => trivial)
theorem sg_one (f t q a : Int) (A : Option Addr) (n c : Nat) : (SGc f t q a (.slice A n c)).all (·.oneCell') = true := by simp [SGc, Value.oneCell']
theorem inf47 : (Try.prog.info? 47).map (·.size) = some 5 := by kernel_rfl
/-- What DecodeSegment answers: the segment, its data in new memory, the place, the error. -/
def DecSP (w : World) (x : Seg × Int × Int) (e : Ending) (w' : World) : Prop :=
  Below w.heap.size w w' ∧ ∃ A1 c1, e = .returned (.tuple #[SV x.1 A1 c1, .int .i64 x.2.1, .int .i64 x.2.2]) ∧ Kd.R (Kd.int .u8) 5 w' w.heap.size (fun _ => True) (.slice A1 x.1.data.length c1) x.1.data
end Go.Proofs.Ytpgdmmjbhjbbhaa.Rd
end
section
namespace Go.Proofs.Ytpgdmmjbhjbbhaa.Sp
open Go Go.RowKit Go.Proofs.Ytpgdmmjbhjbbhaa.P Go.Proofs.YtpgdmmjbhjbbhaaW.PrintWords Go.Proofs.YtpgdmmjbhjbbhaaW.PrintLast Go.Proofs.YtpgdmmjbhjbbhaaW.PrintMore
set_option linter.unusedVariables false
set_option linter.unusedSimpArgs false
/-- What is right reads as it was. -/
theorem whole_back {α : Type} {p : Rdr α} {e : α → List Int} {v : α → Prop} (h : Codec p e v) (z : α) {x : α} (hx : v x) : whole z p (e x) = (x, 0, 0) := by
  have := h.back x [] hx
  rw [List.append_nil] at this
  unfold whole
  rw [this]
theorem lay_right {α : Type} {e : α → List Int} {v : α → Prop} {x : α} (h : v x) : lay e v x = (e x, 0) := by unfold lay; rw [if_pos (dcd_pos h)]
theorem intB_1 {n : Int} (h0 : 0 ≤ n) (h1 : n < 128) : intB n = [n] := by
  rw [intB_of h0 (by omega), numB_lt (by omega)]
  congr 1
  omega
def kSt : ByteArray := ⟨#[107]⟩
def mEx : Msg := { zMsg with kind := 3, name := kSt, cap := 10, epoch := ⟨2, 1⟩ }
def sEx : Seg := ⟨0, 1, 0, 7, []⟩
def qEx : S25 × Op := (⟨3, 1⟩, ⟨2, kSt, 5, 0⟩)
def rEx : Rep := ⟨⟨0, 9⟩, 0, -3⟩
theorem name_k : nameOk (bytesOf kSt) := by
  refine ⟨by decide, by decide, ?_⟩
  have : bytesOf kSt = [107] := by decide
  rw [this]
  intro x hx
  rw [List.mem_singleton.mp hx]
  decide
theorem bytes_k : bytesOf kSt = [107] := by decide
theorem nameV_k : nameV eB kSt := nameV_nil.mpr name_k
theorem text_k : textB kSt = [1, 107] := by
  unfold textB
  rw [bytes_k, intB_1 (by decide) (by decide)]
  decide
theorem mEx_bytes : msgB mEx = [3, 1, 107, 10, 0, 2, 1] := by
  have h1 : ∀ n : Int, 0 ≤ n → n < 128 → intB n = [n] := fun n a b => intB_1 a b
  simp [msgB, restB, mEx, zMsg, optB, hasEp, hasRt, capOf, pairB, text_k, h1, z25]
theorem mEx_right : msgV mEx := by
  refine ⟨by decide, ?_⟩
  unfold restV
  rw [if_neg (by decide), if_neg (by decide), if_neg (by decide)]
  simp [mEx, zMsg, optV, hasEp, hasRt, capOf, capV, pairV, epochV, big, mOf, z25, nameV_k]
theorem sEx_bytes : segB sEx = [0, 1, 0, 7, 0] := by
  have h1 : ∀ n : Int, 0 ≤ n → n < 128 → intB n = [n] := fun n a b => intB_1 a b
  simp [segB, sEx, h1]
theorem sEx_right : segV sEx := by
  simp [segV, sEx, big, IsB]
theorem qEx_bytes : reqB qEx = [3, 1, 2, 1, 107, 10, 0] := by
  have h1 : ∀ n : Int, 0 ≤ n → n < 128 → intB n = [n] := fun n a b => intB_1 a b
  simp [reqB, qEx, opB, pairB, h1, text_k, signB, signN, numB_lt]
theorem qEx_right : reqV qEx := by
  refine ⟨?_, ?_⟩
  · simp [qEx, callV, pairV, big]
  · simp [qEx, opV, isI, nameV_k]
theorem rEx_bytes : repB rEx = [0, 9, 0, 5] := by
  have h1 : ∀ n : Int, 0 ≤ n → n < 128 → intB n = [n] := fun n a b => intB_1 a b
  simp [repB, rEx, pairB, h1, signB, signN, numB_lt]
theorem rEx_right : repV rEx := by
  simp [repV, rEx, callV, pairV, big, isI]
end Go.Proofs.Ytpgdmmjbhjbbhaa.Sp
end
