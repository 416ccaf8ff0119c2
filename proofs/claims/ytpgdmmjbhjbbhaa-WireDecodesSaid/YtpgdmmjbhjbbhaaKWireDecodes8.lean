/- texts that the proof needs, laid together by a program of this session. -/
import Derived.Test.YtpgdmmjbhjbbhaaKWireDecodes7
section
namespace Go.Proofs.Ytpgdmmjbhjbbhaa.Rd
open Go Go.RowKit Go.Proofs.Ytpgdmmjbhjbbhaa.P Go.Proofs.Ytpgdmmjbhjbbhaa.Sp Go.Proofs.Ytpgdmmjbhjbbhaa.Vd Go.Proofs.Ytpgdmmjbhjbbhaa.En Go.Proofs.Ytpgdmmjbhjbbhaa.Wr Go.Proofs.YtpgdmmjbhjbbhaaW.PrintWords Go.Proofs.YtpgdmmjbhjbbhaaW.PrintLast Go.Proofs.YtpgdmmjbhjbbhaaW.PrintMore
set_option linter.unusedVariables false
set_option linter.unusedSimpArgs false
set_option maxHeartbeats 8000000 in
set_option maxRecDepth 100000 in
theorem msg1_calls (w0 w : World) (g : Nat) (A : Option Addr) (c : Nat) (b l r0 : List Int) (hi_ : In w0 A c b) (h : RS w0 w g A c b l) (hk : numP 1 10 l = .ok 1 r0) :
    Calls Try.prog 61 #[.pointer (some ⟨g, 0, none⟩)] w fun e w' => LeftM w0 w g A c b (msgP l) e w' := by
  have HI := Aside0.mk hi_
  have HS := Aside0.mk h
  have HNE := Aside0.mk (rs_ne h)
  have HW0 := Aside0.mk h.bel.size
  have HP : Aside0 (msgP l = restP 1 r0) := ⟨by unfold msgP; rw [bnd_ok hk]⟩
  have hu33 := Try.underlying33
  have hu23 := Try.underlying23
  have hu25 := Try.underlying25
  have hu27 := Try.underlying27
  have hu29 := Try.underlying29
  obtain ⟨wa, hwa⟩ : ∃ wa, wa = w.alloc (.cells #[.int .i64 0, .string ⟨#[]⟩, .int .i64 0, .int .i64 0, .int .i64 0, .int .i64 0, .int .i64 0, .int .i64 0, .int .i64 0, .int .i64 0, .int .i64 0, .int .i64 0, .int .i64 0, .int .i64 0, .string ⟨#[]⟩, .int .i64 0, .int .i64 0, .int .i64 0, .int .i64 0, .slice none 0 0] 33 (0, 0)) := ⟨_, rfl⟩
  have HWA := Aside0.mk hwa
  have HA : Aside0 (Kb g w wa ∧ RS w0 wa g A c b l ∧ wa.heap[w.heap.size]? = some (.cells #[.int .i64 0, .string ⟨#[]⟩, .int .i64 0, .int .i64 0, .int .i64 0, .int .i64 0, .int .i64 0, .int .i64 0, .int .i64 0, .int .i64 0, .int .i64 0, .int .i64 0, .int .i64 0, .int .i64 0, .string ⟨#[]⟩, .int .i64 0, .int .i64 0, .int .i64 0, .int .i64 0, .slice none 0 0] 33 (0, 0))) := ⟨by rw [hwa]; exact ⟨Kb.below (al_below w _), h.below (al_below w _), heap_alloc_new w _⟩⟩
  clear hi_ h hwa
  go_enter Try.func61, Try.ntmps61
  go_upto_region 1 with fail
  rw [← HWA.out]
  go_upto_region 2 with (first | ((with_reducible refine gate_dst (N := 3) rfl ?_); refine box_event ?hg (N := 3) ?hd (cs := #[.int .i64 0, .string ⟨#[]⟩, .int .i64 0, .int .i64 0, .int .i64 0, .int .i64 0, .int .i64 0, .int .i64 0, .int .i64 0, .int .i64 0, .int .i64 0, .int .i64 0, .int .i64 0, .int .i64 0, .string ⟨#[]⟩, .int .i64 0, .int .i64 0, .int .i64 0, .int .i64 0, .slice none 0 0]) (t := 33) ?hr ?_; (case hd => rfl); (case hg => rfl); (case hr => first | (go_simp; done) | (go_simp; rfl)); intro mb hmb w6 hbox hb6; go_loud (refine wpList_store_row rfl 33 (.tmp 3) (.tmp 6) rfl mb #[.int .i64 1, .string ⟨#[]⟩, .int .i64 0, .int .i64 0, .int .i64 0, .int .i64 0, .int .i64 0, .int .i64 0, .int .i64 0, .int .i64 0, .int .i64 0, .int .i64 0, .int .i64 0, .int .i64 0, .string ⟨#[]⟩, .int .i64 0, .int .i64 0, .int .i64 0, .int .i64 0, .slice none 0 0] (by rfl) (by rfl) 33 #[.int .i64 0, .string ⟨#[]⟩, .int .i64 0, .int .i64 0, .int .i64 0, .int .i64 0, .int .i64 0, .int .i64 0, .int .i64 0, .int .i64 0, .int .i64 0, .int .i64 0, .int .i64 0, .int .i64 0, .string ⟨#[]⟩, .int .i64 0, .int .i64 0, .int .i64 0, .int .i64 0, .slice none 0 0] hbox inf33 rfl (by simp [Value.oneCell']) ?_)) | (go_at_call 80; refine (num_calls w0 _ g A c b l 1 10 (by decide) (by decide) (by decide) HI.out HA.out.2.1).mono ?_; rintro e w5 ⟨hkb, hb, hm⟩; simp only [hk] at hm; obtain ⟨rfl, hs1⟩ := hm; have HK5 := Aside0.mk (And.intro (HA.out.1.trans hkb) (And.intro hb hs1)); have HR5 := Aside0.mk (kb_blk hkb HNE.out HA.out.2.2); clear hkb hb hs1))
  obtain ⟨wm, hwm⟩ : ∃ wm, wm = w6.setRow mb #[.int .i64 1, .string ⟨#[]⟩, .int .i64 0, .int .i64 0, .int .i64 0, .int .i64 0, .int .i64 0, .int .i64 0, .int .i64 0, .int .i64 0, .int .i64 0, .int .i64 0, .int .i64 0, .int .i64 0, .string ⟨#[]⟩, .int .i64 0, .int .i64 0, .int .i64 0, .int .i64 0, .slice none 0 0] := ⟨_, rfl⟩
  have H0 : Aside0 (Kb g w wm ∧ RS w0 wm g A c b r0 ∧ wm.heap[mb]? = some (.cells #[.int .i64 1, .string ⟨#[]⟩, .int .i64 0, .int .i64 0, .int .i64 0, .int .i64 0, .int .i64 0, .int .i64 0, .int .i64 0, .int .i64 0, .int .i64 0, .int .i64 0, .int .i64 0, .int .i64 0, .string ⟨#[]⟩, .int .i64 0, .int .i64 0, .int .i64 0, .int .i64 0, .slice none 0 0] 33 (0, 0)) ∧ wm.heap[w.heap.size]? = some (.cells #[.int .i64 0, .string ⟨#[]⟩, .int .i64 0, .int .i64 0, .int .i64 0, .int .i64 0, .int .i64 0, .int .i64 0, .int .i64 0, .int .i64 0, .int .i64 0, .int .i64 0, .int .i64 0, .int .i64 0, .string ⟨#[]⟩, .int .i64 0, .int .i64 0, .int .i64 0, .int .i64 0, .slice none 0 0] 33 (0, 0))) := ⟨by rw [hwm]; exact ⟨(HK5.out.1.trans (Kb.below hb6)).setRowNew (by rw [hmb]; exact HK5.out.1.size) _, (HK5.out.2.2.below hb6).setRowOther (by rw [hmb]; exact rs_ne HK5.out.2.2) (by rw [hmb]; exact HK5.out.2.1.size) _, setRow_blk hbox _, (setRow_far (by rw [hmb]; exact Nat.ne_of_lt (blk_lt HR5.out)) _).trans (blk_keep hb6 HR5.out)⟩⟩
  have HMB : Aside0 (w.heap.size ≤ mb ∧ mb ≠ g ∧ w0.heap.size ≤ mb ∧ mb ≠ w.heap.size) := ⟨by rw [hmb]; exact ⟨HK5.out.1.size, rs_ne HK5.out.2.2, HK5.out.2.1.size, by have := blk_lt HR5.out; omega⟩⟩
  rw [← hwm]
  clear hwm hmb hbox hb6 HK5 HR5
  obtain ⟨li0, hli⟩ : ∃ li0, li0 = r0 := ⟨_, rfl⟩
  rw [← hli] at H0 HP
  clear hli hk
  have HSP : Aside0 (restP 1 li0 = (bnd (pairP 0 63 1 1099511627776) fun x => bnd opP fun o => ret (mAsk 1 x o)) li0) := ⟨rfl⟩
  have kk : wm.cell? ⟨mb, 0, none⟩ = some (.int .i64 1) := (blk_cell H0.out.2.2.1 0).trans rfl
  go_upto_region 4 with fail
  clear kk
  rcases h0 : pairP 0 63 1 1099511627776 li0 with n0 | ⟨x, li1⟩
  · have HQ : Aside0 (msgP l = .bad n0) := ⟨by rw [HP.out, HSP.out, bnd_bad h0]⟩
    go_wp2_with (go_at_call 83; refine (call_calls w0 _ g A c b li0 HI.out H0.out.2.1).mono ?_; rintro e w5 ⟨hk, hb, hm⟩; simp only [h0, pan] at hm; subst hm; have HE := Aside0.mk (And.intro (H0.out.1.trans hk) hb); clear hk hb)
    refine ⟨rfl, HE.out.1, HE.out.2, ?_⟩
    rw [HQ.out]
    rfl
  · go_upto_region 5 with (go_at_call 83; refine (call_calls w0 _ g A c b li0 HI.out H0.out.2.1).mono ?_; rintro e w5 ⟨hk, hb, hm⟩; simp only [h0] at hm; obtain ⟨rfl, hs1⟩ := hm; have HK5 := Aside0.mk (And.intro (H0.out.1.trans hk) (And.intro hb hs1)); have HX := Aside0.mk (kb_blk hk HMB.out.2.1 H0.out.2.2.1); have HXR := Aside0.mk (kb_blk hk HNE.out H0.out.2.2.2); clear hk hb hs1; have kc11 : w5.cell? ⟨mb, 11, none⟩ = some (.int .i64 0) := (blk_cell HX.out 11).trans rfl; have kf11 : w5.frozen? ⟨mb, 11, none⟩ = false := blk_frozen HX.out 11; have kc12 : w5.cell? ⟨mb, 12, none⟩ = some (.int .i64 0) := (blk_cell HX.out 12).trans rfl; have kf12 : w5.frozen? ⟨mb, 12, none⟩ = false := blk_frozen HX.out 12)
    obtain ⟨wz0, hwz⟩ : ∃ wz : World, wz = ((w5.setCell ⟨mb, 11, none⟩ (.int .i64 x.f0)).setCell ⟨mb, 12, none⟩ (.int .i64 x.f1)) := ⟨_, rfl⟩
    have hbk := (blk_set (blk_set HX.out 11 (.int .i64 x.f0)) 12 (.int .i64 x.f1))
    have H1 : Aside0 (Kb g w wz0 ∧ RS w0 wz0 g A c b li1 ∧ wz0.heap[mb]? = some (.cells #[.int .i64 1, .string ⟨#[]⟩, .int .i64 0, .int .i64 0, .int .i64 0, .int .i64 0, .int .i64 0, .int .i64 0, .int .i64 0, .int .i64 0, .int .i64 0, .int .i64 x.f0, .int .i64 x.f1, .int .i64 0, .string ⟨#[]⟩, .int .i64 0, .int .i64 0, .int .i64 0, .int .i64 0, .slice none 0 0] 33 (0, 0)) ∧ wz0.heap[w.heap.size]? = some (.cells #[.int .i64 0, .string ⟨#[]⟩, .int .i64 0, .int .i64 0, .int .i64 0, .int .i64 0, .int .i64 0, .int .i64 0, .int .i64 0, .int .i64 0, .int .i64 0, .int .i64 0, .int .i64 0, .int .i64 0, .string ⟨#[]⟩, .int .i64 0, .int .i64 0, .int .i64 0, .int .i64 0, .slice none 0 0] 33 (0, 0))) := ⟨by rw [hwz]; exact ⟨((HK5.out.1.setNew HMB.out.1 11 _).setNew HMB.out.1 12 _), ((HK5.out.2.2.setOther HMB.out.2.1 HMB.out.2.2.1 11 _).setOther HMB.out.2.1 HMB.out.2.2.1 12 _), by simpa using hbk, (blk_far (blk_far HXR.out HMB.out.2.2.2 11 (.int .i64 x.f0)) HMB.out.2.2.2 12 (.int .i64 x.f1))⟩⟩
    rw [← hwz]
    clear hwz hbk HK5 HX HXR kc11 kf11 kc12 kf12
    have kk : wz0.cell? ⟨mb, 0, none⟩ = some (.int .i64 1) := (blk_cell H1.out.2.2.1 0).trans rfl
    go_upto_region 5 with fail
    clear kk
    rcases h1 : opP li1 with n0 | ⟨o, li2⟩
    · have HQ : Aside0 (msgP l = .bad n0) := ⟨by rw [HP.out, HSP.out, bnd_ok h0, bnd_bad h1]⟩
      go_wp2_with (go_at_call 84; refine (op_calls w0 _ g A c b li1 HI.out H1.out.2.1).mono ?_; rintro e w5 ⟨hk, hb, hm⟩; simp only [h1, pan] at hm; subst hm; have HE := Aside0.mk (And.intro (H1.out.1.trans hk) hb); clear hk hb)
      refine ⟨rfl, HE.out.1, HE.out.2, ?_⟩
      rw [HQ.out]
      rfl
    · go_upto_region 6 with (go_at_call 84; refine (op_calls w0 _ g A c b li1 HI.out H1.out.2.1).mono ?_; rintro e w5 ⟨hk, hb, hm⟩; simp only [h1] at hm; obtain ⟨rfl, hs1⟩ := hm; have HK5 := Aside0.mk (And.intro (H1.out.1.trans hk) (And.intro hb hs1)); have HX := Aside0.mk (kb_blk hk HMB.out.2.1 H1.out.2.2.1); have HXR := Aside0.mk (kb_blk hk HNE.out H1.out.2.2.2); clear hk hb hs1; have kc13 : w5.cell? ⟨mb, 13, none⟩ = some (.int .i64 0) := (blk_cell HX.out 13).trans rfl; have kf13 : w5.frozen? ⟨mb, 13, none⟩ = false := blk_frozen HX.out 13; have kc14 : w5.cell? ⟨mb, 14, none⟩ = some (.string ⟨#[]⟩) := (blk_cell HX.out 14).trans rfl; have kf14 : w5.frozen? ⟨mb, 14, none⟩ = false := blk_frozen HX.out 14; have kc15 : w5.cell? ⟨mb, 15, none⟩ = some (.int .i64 0) := (blk_cell HX.out 15).trans rfl; have kf15 : w5.frozen? ⟨mb, 15, none⟩ = false := blk_frozen HX.out 15; have kc16 : w5.cell? ⟨mb, 16, none⟩ = some (.int .i64 0) := (blk_cell HX.out 16).trans rfl; have kf16 : w5.frozen? ⟨mb, 16, none⟩ = false := blk_frozen HX.out 16)
      obtain ⟨wz1, hwz⟩ : ∃ wz : World, wz = ((((w5.setCell ⟨mb, 13, none⟩ (.int .i64 o.kind)).setCell ⟨mb, 14, none⟩ (.string o.name)).setCell ⟨mb, 15, none⟩ (.int .i64 o.a)).setCell ⟨mb, 16, none⟩ (.int .i64 o.b)) := ⟨_, rfl⟩
      have hbk := (blk_set (blk_set (blk_set (blk_set HX.out 13 (.int .i64 o.kind)) 14 (.string o.name)) 15 (.int .i64 o.a)) 16 (.int .i64 o.b))
      have H2 : Aside0 (Kb g w wz1 ∧ RS w0 wz1 g A c b li2 ∧ wz1.heap[mb]? = some (.cells #[.int .i64 1, .string ⟨#[]⟩, .int .i64 0, .int .i64 0, .int .i64 0, .int .i64 0, .int .i64 0, .int .i64 0, .int .i64 0, .int .i64 0, .int .i64 0, .int .i64 x.f0, .int .i64 x.f1, .int .i64 o.kind, .string o.name, .int .i64 o.a, .int .i64 o.b, .int .i64 0, .int .i64 0, .slice none 0 0] 33 (0, 0)) ∧ wz1.heap[w.heap.size]? = some (.cells #[.int .i64 0, .string ⟨#[]⟩, .int .i64 0, .int .i64 0, .int .i64 0, .int .i64 0, .int .i64 0, .int .i64 0, .int .i64 0, .int .i64 0, .int .i64 0, .int .i64 0, .int .i64 0, .int .i64 0, .string ⟨#[]⟩, .int .i64 0, .int .i64 0, .int .i64 0, .int .i64 0, .slice none 0 0] 33 (0, 0))) := ⟨by rw [hwz]; exact ⟨((((HK5.out.1.setNew HMB.out.1 13 _).setNew HMB.out.1 14 _).setNew HMB.out.1 15 _).setNew HMB.out.1 16 _), ((((HK5.out.2.2.setOther HMB.out.2.1 HMB.out.2.2.1 13 _).setOther HMB.out.2.1 HMB.out.2.2.1 14 _).setOther HMB.out.2.1 HMB.out.2.2.1 15 _).setOther HMB.out.2.1 HMB.out.2.2.1 16 _), by simpa using hbk, (blk_far (blk_far (blk_far (blk_far HXR.out HMB.out.2.2.2 13 (.int .i64 o.kind)) HMB.out.2.2.2 14 (.string o.name)) HMB.out.2.2.2 15 (.int .i64 o.a)) HMB.out.2.2.2 16 (.int .i64 o.b))⟩⟩
      rw [← hwz]
      clear hwz hbk HK5 HX HXR kc13 kf13 kc14 kf14 kc15 kf15 kc16 kf16
      have kk : wz1.cell? ⟨mb, 0, none⟩ = some (.int .i64 1) := (blk_cell H2.out.2.2.1 0).trans rfl
      go_upto_region 6 with fail
      clear kk
      have HQ : Aside0 (msgP l = .ok (mAsk 1 x o) li2) := ⟨by rw [HP.out, HSP.out, bnd_ok h0, bnd_ok h1]; rfl⟩
      go_wp2_with ((with_reducible refine gate_dst (N := 17) rfl ?_); refine wpList_load_row rfl 33 (.tmp 3) rfl mb (by rfl) 33 _ (0, 0) _ H2.out.2.2.1 Try.underlying33 rfl inf33 ?_; go_loud (refine wpList_store_row rfl 33 (.tmp 2) (.tmp 17) rfl w.heap.size #[.int .i64 1, .string ⟨#[]⟩, .int .i64 0, .int .i64 0, .int .i64 0, .int .i64 0, .int .i64 0, .int .i64 0, .int .i64 0, .int .i64 0, .int .i64 0, .int .i64 x.f0, .int .i64 x.f1, .int .i64 o.kind, .string o.name, .int .i64 o.a, .int .i64 o.b, .int .i64 0, .int .i64 0, .slice none 0 0] (by rfl) (by rfl) 33 _ H2.out.2.2.2 inf33 rfl (by simp [Value.oneCell']) ?_))
      have HBL := setRow_blk H2.out.2.2.2 #[.int .i64 1, .string ⟨#[]⟩, .int .i64 0, .int .i64 0, .int .i64 0, .int .i64 0, .int .i64 0, .int .i64 0, .int .i64 0, .int .i64 0, .int .i64 0, .int .i64 x.f0, .int .i64 x.f1, .int .i64 o.kind, .string o.name, .int .i64 o.a, .int .i64 o.b, .int .i64 0, .int .i64 0, .slice none 0 0]
      (try simp only [Exit.inBlock, Exit.then])
      refine bodyPost_ret (v := .agg #[.int .i64 1, .string ⟨#[]⟩, .int .i64 0, .int .i64 0, .int .i64 0, .int .i64 0, .int .i64 0, .int .i64 0, .int .i64 0, .int .i64 0, .int .i64 0, .int .i64 x.f0, .int .i64 x.f1, .int .i64 o.kind, .string o.name, .int .i64 o.a, .int .i64 o.b, .int .i64 0, .int .i64 0, .slice none 0 0]) ?_ rfl ?_
      · exact results_cell_row rfl _ _ w.heap.size 33 _ (0, 0) _ (by rfl) HBL hu33 rfl inf33
      refine ⟨H2.out.1.setRowNew (Nat.le_refl _) _, (H2.out.2.1.setRowOther HNE.out HW0.out _).bel, ?_⟩
      rw [HQ.out]
      exact ⟨⟨none, 0, rfl, .inl ⟨rfl, rfl, rfl⟩⟩, H2.out.2.1.setRowOther HNE.out HW0.out _⟩
set_option maxHeartbeats 8000000 in
set_option maxRecDepth 100000 in
theorem msg10_calls (w0 w : World) (g : Nat) (A : Option Addr) (c : Nat) (b l r0 : List Int) (hi_ : In w0 A c b) (h : RS w0 w g A c b l) (hk : numP 1 10 l = .ok 10 r0) :
    Calls Try.prog 61 #[.pointer (some ⟨g, 0, none⟩)] w fun e w' => LeftM w0 w g A c b (msgP l) e w' := by
  have HI := Aside0.mk hi_
  have HS := Aside0.mk h
  have HNE := Aside0.mk (rs_ne h)
  have HW0 := Aside0.mk h.bel.size
  have HP : Aside0 (msgP l = restP 10 r0) := ⟨by unfold msgP; rw [bnd_ok hk]⟩
  have hu33 := Try.underlying33
  have hu23 := Try.underlying23
  have hu25 := Try.underlying25
  have hu27 := Try.underlying27
  have hu29 := Try.underlying29
  obtain ⟨wa, hwa⟩ : ∃ wa, wa = w.alloc (.cells #[.int .i64 0, .string ⟨#[]⟩, .int .i64 0, .int .i64 0, .int .i64 0, .int .i64 0, .int .i64 0, .int .i64 0, .int .i64 0, .int .i64 0, .int .i64 0, .int .i64 0, .int .i64 0, .int .i64 0, .string ⟨#[]⟩, .int .i64 0, .int .i64 0, .int .i64 0, .int .i64 0, .slice none 0 0] 33 (0, 0)) := ⟨_, rfl⟩
  have HWA := Aside0.mk hwa
  have HA : Aside0 (Kb g w wa ∧ RS w0 wa g A c b l ∧ wa.heap[w.heap.size]? = some (.cells #[.int .i64 0, .string ⟨#[]⟩, .int .i64 0, .int .i64 0, .int .i64 0, .int .i64 0, .int .i64 0, .int .i64 0, .int .i64 0, .int .i64 0, .int .i64 0, .int .i64 0, .int .i64 0, .int .i64 0, .string ⟨#[]⟩, .int .i64 0, .int .i64 0, .int .i64 0, .int .i64 0, .slice none 0 0] 33 (0, 0))) := ⟨by rw [hwa]; exact ⟨Kb.below (al_below w _), h.below (al_below w _), heap_alloc_new w _⟩⟩
  clear hi_ h hwa
  go_enter Try.func61, Try.ntmps61
  go_upto_region 1 with fail
  rw [← HWA.out]
  go_upto_region 2 with (first | ((with_reducible refine gate_dst (N := 3) rfl ?_); refine box_event ?hg (N := 3) ?hd (cs := #[.int .i64 0, .string ⟨#[]⟩, .int .i64 0, .int .i64 0, .int .i64 0, .int .i64 0, .int .i64 0, .int .i64 0, .int .i64 0, .int .i64 0, .int .i64 0, .int .i64 0, .int .i64 0, .int .i64 0, .string ⟨#[]⟩, .int .i64 0, .int .i64 0, .int .i64 0, .int .i64 0, .slice none 0 0]) (t := 33) ?hr ?_; (case hd => rfl); (case hg => rfl); (case hr => first | (go_simp; done) | (go_simp; rfl)); intro mb hmb w6 hbox hb6; go_loud (refine wpList_store_row rfl 33 (.tmp 3) (.tmp 6) rfl mb #[.int .i64 10, .string ⟨#[]⟩, .int .i64 0, .int .i64 0, .int .i64 0, .int .i64 0, .int .i64 0, .int .i64 0, .int .i64 0, .int .i64 0, .int .i64 0, .int .i64 0, .int .i64 0, .int .i64 0, .string ⟨#[]⟩, .int .i64 0, .int .i64 0, .int .i64 0, .int .i64 0, .slice none 0 0] (by rfl) (by rfl) 33 #[.int .i64 0, .string ⟨#[]⟩, .int .i64 0, .int .i64 0, .int .i64 0, .int .i64 0, .int .i64 0, .int .i64 0, .int .i64 0, .int .i64 0, .int .i64 0, .int .i64 0, .int .i64 0, .int .i64 0, .string ⟨#[]⟩, .int .i64 0, .int .i64 0, .int .i64 0, .int .i64 0, .slice none 0 0] hbox inf33 rfl (by simp [Value.oneCell']) ?_)) | (go_at_call 80; refine (num_calls w0 _ g A c b l 1 10 (by decide) (by decide) (by decide) HI.out HA.out.2.1).mono ?_; rintro e w5 ⟨hkb, hb, hm⟩; simp only [hk] at hm; obtain ⟨rfl, hs1⟩ := hm; have HK5 := Aside0.mk (And.intro (HA.out.1.trans hkb) (And.intro hb hs1)); have HR5 := Aside0.mk (kb_blk hkb HNE.out HA.out.2.2); clear hkb hb hs1))
  obtain ⟨wm, hwm⟩ : ∃ wm, wm = w6.setRow mb #[.int .i64 10, .string ⟨#[]⟩, .int .i64 0, .int .i64 0, .int .i64 0, .int .i64 0, .int .i64 0, .int .i64 0, .int .i64 0, .int .i64 0, .int .i64 0, .int .i64 0, .int .i64 0, .int .i64 0, .string ⟨#[]⟩, .int .i64 0, .int .i64 0, .int .i64 0, .int .i64 0, .slice none 0 0] := ⟨_, rfl⟩
  have H0 : Aside0 (Kb g w wm ∧ RS w0 wm g A c b r0 ∧ wm.heap[mb]? = some (.cells #[.int .i64 10, .string ⟨#[]⟩, .int .i64 0, .int .i64 0, .int .i64 0, .int .i64 0, .int .i64 0, .int .i64 0, .int .i64 0, .int .i64 0, .int .i64 0, .int .i64 0, .int .i64 0, .int .i64 0, .string ⟨#[]⟩, .int .i64 0, .int .i64 0, .int .i64 0, .int .i64 0, .slice none 0 0] 33 (0, 0)) ∧ wm.heap[w.heap.size]? = some (.cells #[.int .i64 0, .string ⟨#[]⟩, .int .i64 0, .int .i64 0, .int .i64 0, .int .i64 0, .int .i64 0, .int .i64 0, .int .i64 0, .int .i64 0, .int .i64 0, .int .i64 0, .int .i64 0, .int .i64 0, .string ⟨#[]⟩, .int .i64 0, .int .i64 0, .int .i64 0, .int .i64 0, .slice none 0 0] 33 (0, 0))) := ⟨by rw [hwm]; exact ⟨(HK5.out.1.trans (Kb.below hb6)).setRowNew (by rw [hmb]; exact HK5.out.1.size) _, (HK5.out.2.2.below hb6).setRowOther (by rw [hmb]; exact rs_ne HK5.out.2.2) (by rw [hmb]; exact HK5.out.2.1.size) _, setRow_blk hbox _, (setRow_far (by rw [hmb]; exact Nat.ne_of_lt (blk_lt HR5.out)) _).trans (blk_keep hb6 HR5.out)⟩⟩
  have HMB : Aside0 (w.heap.size ≤ mb ∧ mb ≠ g ∧ w0.heap.size ≤ mb ∧ mb ≠ w.heap.size) := ⟨by rw [hmb]; exact ⟨HK5.out.1.size, rs_ne HK5.out.2.2, HK5.out.2.1.size, by have := blk_lt HR5.out; omega⟩⟩
  rw [← hwm]
  clear hwm hmb hbox hb6 HK5 HR5
  obtain ⟨li0, hli⟩ : ∃ li0, li0 = r0 := ⟨_, rfl⟩
  rw [← hli] at H0 HP
  clear hli hk
  have HSP : Aside0 (restP 10 li0 = (bnd viewsP fun xs => ret (mDig 10 xs)) li0) := ⟨rfl⟩
  have kk : wm.cell? ⟨mb, 0, none⟩ = some (.int .i64 10) := (blk_cell H0.out.2.2.1 0).trans rfl
  go_upto_region 15 with fail
  clear kk
  rcases h0 : viewsP li0 with n0 | ⟨xs, li1⟩
  · have HQ : Aside0 (msgP l = .bad n0) := ⟨by rw [HP.out, HSP.out, bnd_bad h0]⟩
    go_wp2_with (go_at_call 99; refine (views_calls w0 _ g A c b li0 HI.out H0.out.2.1).mono ?_; rintro e w5 ⟨hk, hb, hm⟩; simp only [h0, pan] at hm; subst hm; have HE := Aside0.mk (And.intro (H0.out.1.trans hk) hb); clear hk hb)
    refine ⟨rfl, HE.out.1, HE.out.2, ?_⟩
    rw [HQ.out]
    rfl
  · go_upto_region 16 with (go_at_call 99; refine (views_calls w0 _ g A c b li0 HI.out H0.out.2.1).mono ?_; rintro e w5 ⟨hk, hb, hm⟩; simp only [h0] at hm; obtain ⟨⟨vb, rfl, hvb, hvh⟩, hs1⟩ := hm; have HVB := Aside0.mk (And.intro hvb hvh); have HK5 := Aside0.mk (And.intro (H0.out.1.trans hk) (And.intro hb hs1)); have HX := Aside0.mk (kb_blk hk HMB.out.2.1 H0.out.2.2.1); have HXR := Aside0.mk (kb_blk hk HNE.out H0.out.2.2.2); clear hk hb hs1 hvb hvh; have kc19 : w5.cell? ⟨mb, 19, none⟩ = some (.slice none 0 0) := (blk_cell HX.out 19).trans rfl; have kf19 : w5.frozen? ⟨mb, 19, none⟩ = false := blk_frozen HX.out 19)
    obtain ⟨wz0, hwz⟩ : ∃ wz : World, wz = (w5.setCell ⟨mb, 19, none⟩ (.slice (some ⟨vb, 0, none⟩) xs.length xs.length)) := ⟨_, rfl⟩
    have hbk := (blk_set HX.out 19 (.slice (some ⟨vb, 0, none⟩) xs.length xs.length))
    have H1 : Aside0 (Kb g w wz0 ∧ RS w0 wz0 g A c b li1 ∧ wz0.heap[mb]? = some (.cells #[.int .i64 10, .string ⟨#[]⟩, .int .i64 0, .int .i64 0, .int .i64 0, .int .i64 0, .int .i64 0, .int .i64 0, .int .i64 0, .int .i64 0, .int .i64 0, .int .i64 0, .int .i64 0, .int .i64 0, .string ⟨#[]⟩, .int .i64 0, .int .i64 0, .int .i64 0, .int .i64 0, .slice (some ⟨vb, 0, none⟩) xs.length xs.length] 33 (0, 0)) ∧ wz0.heap[w.heap.size]? = some (.cells #[.int .i64 0, .string ⟨#[]⟩, .int .i64 0, .int .i64 0, .int .i64 0, .int .i64 0, .int .i64 0, .int .i64 0, .int .i64 0, .int .i64 0, .int .i64 0, .int .i64 0, .int .i64 0, .int .i64 0, .string ⟨#[]⟩, .int .i64 0, .int .i64 0, .int .i64 0, .int .i64 0, .slice none 0 0] 33 (0, 0))) := ⟨by rw [hwz]; exact ⟨(HK5.out.1.setNew HMB.out.1 19 _), (HK5.out.2.2.setOther HMB.out.2.1 HMB.out.2.2.1 19 _), by simpa using hbk, (blk_far HXR.out HMB.out.2.2.2 19 (.slice (some ⟨vb, 0, none⟩) xs.length xs.length))⟩⟩
    have HVM : Aside0 (mb ≠ vb) := ⟨fun e => by have := blk_lt H0.out.2.2.1; have := HVB.out.1; omega⟩
    have HVZ : Aside0 (wm.heap.size ≤ vb ∧ wz0.heap[vb]? = some (.cells (rowV xs).toArray 87 (0, 0))) := ⟨by rw [hwz]; exact ⟨HVB.out.1, (blk_far HVB.out.2 HVM.out 19 (.slice (some ⟨vb, 0, none⟩) xs.length xs.length))⟩⟩
    rw [← hwz]
    clear hwz hbk HK5 HX HXR kc19 kf19
    have kk : wz0.cell? ⟨mb, 0, none⟩ = some (.int .i64 10) := (blk_cell H1.out.2.2.1 0).trans rfl
    go_upto_region 16 with fail
    clear kk
    have HQ : Aside0 (msgP l = .ok (mDig 10 xs) li1) := ⟨by rw [HP.out, HSP.out, bnd_ok h0]; rfl⟩
    go_wp2_with ((with_reducible refine gate_dst (N := 45) rfl ?_); refine wpList_load_row rfl 33 (.tmp 3) rfl mb (by rfl) 33 _ (0, 0) _ H1.out.2.2.1 Try.underlying33 rfl inf33 ?_; go_loud (refine wpList_store_row rfl 33 (.tmp 2) (.tmp 45) rfl w.heap.size #[.int .i64 10, .string ⟨#[]⟩, .int .i64 0, .int .i64 0, .int .i64 0, .int .i64 0, .int .i64 0, .int .i64 0, .int .i64 0, .int .i64 0, .int .i64 0, .int .i64 0, .int .i64 0, .int .i64 0, .string ⟨#[]⟩, .int .i64 0, .int .i64 0, .int .i64 0, .int .i64 0, .slice (some ⟨vb, 0, none⟩) xs.length xs.length] (by rfl) (by rfl) 33 _ H1.out.2.2.2 inf33 rfl (by simp [Value.oneCell']) ?_))
    have HBL := setRow_blk H1.out.2.2.2 #[.int .i64 10, .string ⟨#[]⟩, .int .i64 0, .int .i64 0, .int .i64 0, .int .i64 0, .int .i64 0, .int .i64 0, .int .i64 0, .int .i64 0, .int .i64 0, .int .i64 0, .int .i64 0, .int .i64 0, .string ⟨#[]⟩, .int .i64 0, .int .i64 0, .int .i64 0, .int .i64 0, .slice (some ⟨vb, 0, none⟩) xs.length xs.length]
    (try simp only [Exit.inBlock, Exit.then])
    refine bodyPost_ret (v := .agg #[.int .i64 10, .string ⟨#[]⟩, .int .i64 0, .int .i64 0, .int .i64 0, .int .i64 0, .int .i64 0, .int .i64 0, .int .i64 0, .int .i64 0, .int .i64 0, .int .i64 0, .int .i64 0, .int .i64 0, .string ⟨#[]⟩, .int .i64 0, .int .i64 0, .int .i64 0, .int .i64 0, .slice (some ⟨vb, 0, none⟩) xs.length xs.length]) ?_ rfl ?_
    · exact results_cell_row rfl _ _ w.heap.size 33 _ (0, 0) _ (by rfl) HBL hu33 rfl inf33
    refine ⟨H1.out.1.setRowNew (Nat.le_refl _) _, (H1.out.2.1.setRowOther HNE.out HW0.out _).bel, ?_⟩
    rw [HQ.out]
    exact ⟨⟨some ⟨vb, 0, none⟩, xs.length, rfl, .inr ⟨vb, rfl, rfl, Nat.le_trans (H0.out.1.size) HVZ.out.1, (setRow_far (fun e => by have := blk_lt H0.out.2.2.2; have := HVZ.out.1; omega) _).trans HVZ.out.2⟩⟩, H1.out.2.1.setRowOther HNE.out HW0.out _⟩
set_option maxHeartbeats 8000000 in
set_option maxRecDepth 100000 in
theorem msg3_calls (w0 w : World) (g : Nat) (A : Option Addr) (c : Nat) (b l r0 : List Int) (hi_ : In w0 A c b) (h : RS w0 w g A c b l) (hk : numP 1 10 l = .ok 3 r0) :
    Calls Try.prog 61 #[.pointer (some ⟨g, 0, none⟩)] w fun e w' => LeftM w0 w g A c b (msgP l) e w' := by
  have HI := Aside0.mk hi_
  have HS := Aside0.mk h
  have HNE := Aside0.mk (rs_ne h)
  have HW0 := Aside0.mk h.bel.size
  have HP : Aside0 (msgP l = restP 3 r0) := ⟨by unfold msgP; rw [bnd_ok hk]⟩
  have hu33 := Try.underlying33
  have hu23 := Try.underlying23
  have hu25 := Try.underlying25
  have hu27 := Try.underlying27
  have hu29 := Try.underlying29
  obtain ⟨wa, hwa⟩ : ∃ wa, wa = w.alloc (.cells #[.int .i64 0, .string ⟨#[]⟩, .int .i64 0, .int .i64 0, .int .i64 0, .int .i64 0, .int .i64 0, .int .i64 0, .int .i64 0, .int .i64 0, .int .i64 0, .int .i64 0, .int .i64 0, .int .i64 0, .string ⟨#[]⟩, .int .i64 0, .int .i64 0, .int .i64 0, .int .i64 0, .slice none 0 0] 33 (0, 0)) := ⟨_, rfl⟩
  have HWA := Aside0.mk hwa
  have HA : Aside0 (Kb g w wa ∧ RS w0 wa g A c b l ∧ wa.heap[w.heap.size]? = some (.cells #[.int .i64 0, .string ⟨#[]⟩, .int .i64 0, .int .i64 0, .int .i64 0, .int .i64 0, .int .i64 0, .int .i64 0, .int .i64 0, .int .i64 0, .int .i64 0, .int .i64 0, .int .i64 0, .int .i64 0, .string ⟨#[]⟩, .int .i64 0, .int .i64 0, .int .i64 0, .int .i64 0, .slice none 0 0] 33 (0, 0))) := ⟨by rw [hwa]; exact ⟨Kb.below (al_below w _), h.below (al_below w _), heap_alloc_new w _⟩⟩
  clear hi_ h hwa
  go_enter Try.func61, Try.ntmps61
  go_upto_region 1 with fail
  rw [← HWA.out]
  go_upto_region 2 with (first | ((with_reducible refine gate_dst (N := 3) rfl ?_); refine box_event ?hg (N := 3) ?hd (cs := #[.int .i64 0, .string ⟨#[]⟩, .int .i64 0, .int .i64 0, .int .i64 0, .int .i64 0, .int .i64 0, .int .i64 0, .int .i64 0, .int .i64 0, .int .i64 0, .int .i64 0, .int .i64 0, .int .i64 0, .string ⟨#[]⟩, .int .i64 0, .int .i64 0, .int .i64 0, .int .i64 0, .slice none 0 0]) (t := 33) ?hr ?_; (case hd => rfl); (case hg => rfl); (case hr => first | (go_simp; done) | (go_simp; rfl)); intro mb hmb w6 hbox hb6; go_loud (refine wpList_store_row rfl 33 (.tmp 3) (.tmp 6) rfl mb #[.int .i64 3, .string ⟨#[]⟩, .int .i64 0, .int .i64 0, .int .i64 0, .int .i64 0, .int .i64 0, .int .i64 0, .int .i64 0, .int .i64 0, .int .i64 0, .int .i64 0, .int .i64 0, .int .i64 0, .string ⟨#[]⟩, .int .i64 0, .int .i64 0, .int .i64 0, .int .i64 0, .slice none 0 0] (by rfl) (by rfl) 33 #[.int .i64 0, .string ⟨#[]⟩, .int .i64 0, .int .i64 0, .int .i64 0, .int .i64 0, .int .i64 0, .int .i64 0, .int .i64 0, .int .i64 0, .int .i64 0, .int .i64 0, .int .i64 0, .int .i64 0, .string ⟨#[]⟩, .int .i64 0, .int .i64 0, .int .i64 0, .int .i64 0, .slice none 0 0] hbox inf33 rfl (by simp [Value.oneCell']) ?_)) | (go_at_call 80; refine (num_calls w0 _ g A c b l 1 10 (by decide) (by decide) (by decide) HI.out HA.out.2.1).mono ?_; rintro e w5 ⟨hkb, hb, hm⟩; simp only [hk] at hm; obtain ⟨rfl, hs1⟩ := hm; have HK5 := Aside0.mk (And.intro (HA.out.1.trans hkb) (And.intro hb hs1)); have HR5 := Aside0.mk (kb_blk hkb HNE.out HA.out.2.2); clear hkb hb hs1))
  obtain ⟨wm, hwm⟩ : ∃ wm, wm = w6.setRow mb #[.int .i64 3, .string ⟨#[]⟩, .int .i64 0, .int .i64 0, .int .i64 0, .int .i64 0, .int .i64 0, .int .i64 0, .int .i64 0, .int .i64 0, .int .i64 0, .int .i64 0, .int .i64 0, .int .i64 0, .string ⟨#[]⟩, .int .i64 0, .int .i64 0, .int .i64 0, .int .i64 0, .slice none 0 0] := ⟨_, rfl⟩
  have H0 : Aside0 (Kb g w wm ∧ RS w0 wm g A c b r0 ∧ wm.heap[mb]? = some (.cells #[.int .i64 3, .string ⟨#[]⟩, .int .i64 0, .int .i64 0, .int .i64 0, .int .i64 0, .int .i64 0, .int .i64 0, .int .i64 0, .int .i64 0, .int .i64 0, .int .i64 0, .int .i64 0, .int .i64 0, .string ⟨#[]⟩, .int .i64 0, .int .i64 0, .int .i64 0, .int .i64 0, .slice none 0 0] 33 (0, 0)) ∧ wm.heap[w.heap.size]? = some (.cells #[.int .i64 0, .string ⟨#[]⟩, .int .i64 0, .int .i64 0, .int .i64 0, .int .i64 0, .int .i64 0, .int .i64 0, .int .i64 0, .int .i64 0, .int .i64 0, .int .i64 0, .int .i64 0, .int .i64 0, .string ⟨#[]⟩, .int .i64 0, .int .i64 0, .int .i64 0, .int .i64 0, .slice none 0 0] 33 (0, 0))) := ⟨by rw [hwm]; exact ⟨(HK5.out.1.trans (Kb.below hb6)).setRowNew (by rw [hmb]; exact HK5.out.1.size) _, (HK5.out.2.2.below hb6).setRowOther (by rw [hmb]; exact rs_ne HK5.out.2.2) (by rw [hmb]; exact HK5.out.2.1.size) _, setRow_blk hbox _, (setRow_far (by rw [hmb]; exact Nat.ne_of_lt (blk_lt HR5.out)) _).trans (blk_keep hb6 HR5.out)⟩⟩
  have HMB : Aside0 (w.heap.size ≤ mb ∧ mb ≠ g ∧ w0.heap.size ≤ mb ∧ mb ≠ w.heap.size) := ⟨by rw [hmb]; exact ⟨HK5.out.1.size, rs_ne HK5.out.2.2, HK5.out.2.1.size, by have := blk_lt HR5.out; omega⟩⟩
  rw [← hwm]
  clear hwm hmb hbox hb6 HK5 HR5
  obtain ⟨li0, hli⟩ : ∃ li0, li0 = r0 := ⟨_, rfl⟩
  rw [← hli] at H0 HP
  clear hli hk
  have HSP : Aside0 (restP 3 li0 = (bnd (nameP eB) fun s => bnd (pairP 1 1099511627776 0 1099511627776) fun p => bnd (pairP 1 1099511627776 0 15) fun ep => ret (mOf 3 s p ep z25 z25 0)) li0) := ⟨by unfold restP; rw [if_neg (by decide), if_neg (by decide), if_neg (by decide)]; unfold ofP optP; simp only [hasEp, hasRt, Int.reduceLE, Int.reduceEq, and_self, or_self, or_true, true_or, and_true, true_and, or_false, false_or, and_false, false_and, if_true, if_false, ite_true, ite_false, bnd_ret, reduceIte]; rfl⟩
  have kk : wm.cell? ⟨mb, 0, none⟩ = some (.int .i64 3) := (blk_cell H0.out.2.2.1 0).trans rfl
  go_upto_region 17 with fail
  clear kk
  rcases h0 : nameP eB li0 with n0 | ⟨s, li1⟩
  · have HQ : Aside0 (msgP l = .bad n0) := ⟨by rw [HP.out, HSP.out, bnd_bad h0]⟩
    go_wp2_with (go_at_call 97; refine (name_calls w0 _ g A c b li0 eB HI.out H0.out.2.1).mono ?_; rintro e w5 ⟨hk, hb, hm⟩; simp only [h0, pan] at hm; subst hm; have HE := Aside0.mk (And.intro (H0.out.1.trans hk) hb); clear hk hb)
    refine ⟨rfl, HE.out.1, HE.out.2, ?_⟩
    rw [HQ.out]
    rfl
  · go_upto_region 18 with (go_at_call 97; refine (name_calls w0 _ g A c b li0 eB HI.out H0.out.2.1).mono ?_; rintro e w5 ⟨hk, hb, hm⟩; simp only [h0] at hm; obtain ⟨rfl, hs1⟩ := hm; have HK5 := Aside0.mk (And.intro (H0.out.1.trans hk) (And.intro hb hs1)); have HX := Aside0.mk (kb_blk hk HMB.out.2.1 H0.out.2.2.1); have HXR := Aside0.mk (kb_blk hk HNE.out H0.out.2.2.2); clear hk hb hs1; have kc1 : w5.cell? ⟨mb, 1, none⟩ = some (.string ⟨#[]⟩) := (blk_cell HX.out 1).trans rfl; have kf1 : w5.frozen? ⟨mb, 1, none⟩ = false := blk_frozen HX.out 1)
    obtain ⟨wz0, hwz⟩ : ∃ wz : World, wz = (w5.setCell ⟨mb, 1, none⟩ (.string s)) := ⟨_, rfl⟩
    have hbk := (blk_set HX.out 1 (.string s))
    have H1 : Aside0 (Kb g w wz0 ∧ RS w0 wz0 g A c b li1 ∧ wz0.heap[mb]? = some (.cells #[.int .i64 3, .string s, .int .i64 0, .int .i64 0, .int .i64 0, .int .i64 0, .int .i64 0, .int .i64 0, .int .i64 0, .int .i64 0, .int .i64 0, .int .i64 0, .int .i64 0, .int .i64 0, .string ⟨#[]⟩, .int .i64 0, .int .i64 0, .int .i64 0, .int .i64 0, .slice none 0 0] 33 (0, 0)) ∧ wz0.heap[w.heap.size]? = some (.cells #[.int .i64 0, .string ⟨#[]⟩, .int .i64 0, .int .i64 0, .int .i64 0, .int .i64 0, .int .i64 0, .int .i64 0, .int .i64 0, .int .i64 0, .int .i64 0, .int .i64 0, .int .i64 0, .int .i64 0, .string ⟨#[]⟩, .int .i64 0, .int .i64 0, .int .i64 0, .int .i64 0, .slice none 0 0] 33 (0, 0))) := ⟨by rw [hwz]; exact ⟨(HK5.out.1.setNew HMB.out.1 1 _), (HK5.out.2.2.setOther HMB.out.2.1 HMB.out.2.2.1 1 _), by simpa using hbk, (blk_far HXR.out HMB.out.2.2.2 1 (.string s))⟩⟩
    rw [← hwz]
    clear hwz hbk HK5 HX HXR kc1 kf1
    have kk : wz0.cell? ⟨mb, 0, none⟩ = some (.int .i64 3) := (blk_cell H1.out.2.2.1 0).trans rfl
    go_upto_region 18 with fail
    clear kk
    rcases h1 : pairP 1 1099511627776 0 1099511627776 li1 with n0 | ⟨p, li2⟩
    · have HQ : Aside0 (msgP l = .bad n0) := ⟨by rw [HP.out, HSP.out, bnd_ok h0, bnd_bad h1]⟩
      go_wp2_with (go_at_call 98; refine (cap_calls w0 _ g A c b li1 HI.out H1.out.2.1).mono ?_; rintro e w5 ⟨hk, hb, hm⟩; simp only [h1, pan] at hm; subst hm; have HE := Aside0.mk (And.intro (H1.out.1.trans hk) hb); clear hk hb)
      refine ⟨rfl, HE.out.1, HE.out.2, ?_⟩
      rw [HQ.out]
      rfl
    · go_upto_region 19 with (go_at_call 98; refine (cap_calls w0 _ g A c b li1 HI.out H1.out.2.1).mono ?_; rintro e w5 ⟨hk, hb, hm⟩; simp only [h1] at hm; obtain ⟨rfl, hs1⟩ := hm; have HK5 := Aside0.mk (And.intro (H1.out.1.trans hk) (And.intro hb hs1)); have HX := Aside0.mk (kb_blk hk HMB.out.2.1 H1.out.2.2.1); have HXR := Aside0.mk (kb_blk hk HNE.out H1.out.2.2.2); clear hk hb hs1; have kc2 : w5.cell? ⟨mb, 2, none⟩ = some (.int .i64 0) := (blk_cell HX.out 2).trans rfl; have kf2 : w5.frozen? ⟨mb, 2, none⟩ = false := blk_frozen HX.out 2; have kc3 : w5.cell? ⟨mb, 3, none⟩ = some (.int .i64 0) := (blk_cell HX.out 3).trans rfl; have kf3 : w5.frozen? ⟨mb, 3, none⟩ = false := blk_frozen HX.out 3)
      obtain ⟨wz1, hwz⟩ : ∃ wz : World, wz = ((w5.setCell ⟨mb, 2, none⟩ (.int .i64 p.f0)).setCell ⟨mb, 3, none⟩ (.int .i64 p.f1)) := ⟨_, rfl⟩
      have hbk := (blk_set (blk_set HX.out 2 (.int .i64 p.f0)) 3 (.int .i64 p.f1))
      have H2 : Aside0 (Kb g w wz1 ∧ RS w0 wz1 g A c b li2 ∧ wz1.heap[mb]? = some (.cells #[.int .i64 3, .string s, .int .i64 p.f0, .int .i64 p.f1, .int .i64 0, .int .i64 0, .int .i64 0, .int .i64 0, .int .i64 0, .int .i64 0, .int .i64 0, .int .i64 0, .int .i64 0, .int .i64 0, .string ⟨#[]⟩, .int .i64 0, .int .i64 0, .int .i64 0, .int .i64 0, .slice none 0 0] 33 (0, 0)) ∧ wz1.heap[w.heap.size]? = some (.cells #[.int .i64 0, .string ⟨#[]⟩, .int .i64 0, .int .i64 0, .int .i64 0, .int .i64 0, .int .i64 0, .int .i64 0, .int .i64 0, .int .i64 0, .int .i64 0, .int .i64 0, .int .i64 0, .int .i64 0, .string ⟨#[]⟩, .int .i64 0, .int .i64 0, .int .i64 0, .int .i64 0, .slice none 0 0] 33 (0, 0))) := ⟨by rw [hwz]; exact ⟨((HK5.out.1.setNew HMB.out.1 2 _).setNew HMB.out.1 3 _), ((HK5.out.2.2.setOther HMB.out.2.1 HMB.out.2.2.1 2 _).setOther HMB.out.2.1 HMB.out.2.2.1 3 _), by simpa using hbk, (blk_far (blk_far HXR.out HMB.out.2.2.2 2 (.int .i64 p.f0)) HMB.out.2.2.2 3 (.int .i64 p.f1))⟩⟩
      rw [← hwz]
      clear hwz hbk HK5 HX HXR kc2 kf2 kc3 kf3
      have kk : wz1.cell? ⟨mb, 0, none⟩ = some (.int .i64 3) := (blk_cell H2.out.2.2.1 0).trans rfl
      go_upto_region 25 with fail
      clear kk
      rcases h2 : pairP 1 1099511627776 0 15 li2 with n0 | ⟨ep, li3⟩
      · have HQ : Aside0 (msgP l = .bad n0) := ⟨by rw [HP.out, HSP.out, bnd_ok h0, bnd_ok h1, bnd_bad h2]⟩
        go_wp2_with (go_at_call 100; refine (epoch_calls w0 _ g A c b li2 HI.out H2.out.2.1).mono ?_; rintro e w5 ⟨hk, hb, hm⟩; simp only [h2, pan] at hm; subst hm; have HE := Aside0.mk (And.intro (H2.out.1.trans hk) hb); clear hk hb)
        refine ⟨rfl, HE.out.1, HE.out.2, ?_⟩
        rw [HQ.out]
        rfl
      · go_upto_region 32 with (go_at_call 100; refine (epoch_calls w0 _ g A c b li2 HI.out H2.out.2.1).mono ?_; rintro e w5 ⟨hk, hb, hm⟩; simp only [h2] at hm; obtain ⟨rfl, hs1⟩ := hm; have HK5 := Aside0.mk (And.intro (H2.out.1.trans hk) (And.intro hb hs1)); have HX := Aside0.mk (kb_blk hk HMB.out.2.1 H2.out.2.2.1); have HXR := Aside0.mk (kb_blk hk HNE.out H2.out.2.2.2); clear hk hb hs1; have kc4 : w5.cell? ⟨mb, 4, none⟩ = some (.int .i64 0) := (blk_cell HX.out 4).trans rfl; have kf4 : w5.frozen? ⟨mb, 4, none⟩ = false := blk_frozen HX.out 4; have kc5 : w5.cell? ⟨mb, 5, none⟩ = some (.int .i64 0) := (blk_cell HX.out 5).trans rfl; have kf5 : w5.frozen? ⟨mb, 5, none⟩ = false := blk_frozen HX.out 5)
        obtain ⟨wz2, hwz⟩ : ∃ wz : World, wz = ((w5.setCell ⟨mb, 4, none⟩ (.int .i64 ep.f0)).setCell ⟨mb, 5, none⟩ (.int .i64 ep.f1)) := ⟨_, rfl⟩
        have hbk := (blk_set (blk_set HX.out 4 (.int .i64 ep.f0)) 5 (.int .i64 ep.f1))
        have H3 : Aside0 (Kb g w wz2 ∧ RS w0 wz2 g A c b li3 ∧ wz2.heap[mb]? = some (.cells #[.int .i64 3, .string s, .int .i64 p.f0, .int .i64 p.f1, .int .i64 ep.f0, .int .i64 ep.f1, .int .i64 0, .int .i64 0, .int .i64 0, .int .i64 0, .int .i64 0, .int .i64 0, .int .i64 0, .int .i64 0, .string ⟨#[]⟩, .int .i64 0, .int .i64 0, .int .i64 0, .int .i64 0, .slice none 0 0] 33 (0, 0)) ∧ wz2.heap[w.heap.size]? = some (.cells #[.int .i64 0, .string ⟨#[]⟩, .int .i64 0, .int .i64 0, .int .i64 0, .int .i64 0, .int .i64 0, .int .i64 0, .int .i64 0, .int .i64 0, .int .i64 0, .int .i64 0, .int .i64 0, .int .i64 0, .string ⟨#[]⟩, .int .i64 0, .int .i64 0, .int .i64 0, .int .i64 0, .slice none 0 0] 33 (0, 0))) := ⟨by rw [hwz]; exact ⟨((HK5.out.1.setNew HMB.out.1 4 _).setNew HMB.out.1 5 _), ((HK5.out.2.2.setOther HMB.out.2.1 HMB.out.2.2.1 4 _).setOther HMB.out.2.1 HMB.out.2.2.1 5 _), by simpa using hbk, (blk_far (blk_far HXR.out HMB.out.2.2.2 4 (.int .i64 ep.f0)) HMB.out.2.2.2 5 (.int .i64 ep.f1))⟩⟩
        rw [← hwz]
        clear hwz hbk HK5 HX HXR kc4 kf4 kc5 kf5
        have kk : wz2.cell? ⟨mb, 0, none⟩ = some (.int .i64 3) := (blk_cell H3.out.2.2.1 0).trans rfl
        go_upto_region 32 with fail
        clear kk
        have HQ : Aside0 (msgP l = .ok (mOf 3 s p ep z25 z25 0) li3) := ⟨by rw [HP.out, HSP.out, bnd_ok h0, bnd_ok h1, bnd_ok h2]; rfl⟩
        go_wp2_with ((with_reducible refine gate_dst (N := 87) rfl ?_); refine wpList_load_row rfl 33 (.tmp 3) rfl mb (by rfl) 33 _ (0, 0) _ H3.out.2.2.1 Try.underlying33 rfl inf33 ?_; go_loud (refine wpList_store_row rfl 33 (.tmp 2) (.tmp 87) rfl w.heap.size #[.int .i64 3, .string s, .int .i64 p.f0, .int .i64 p.f1, .int .i64 ep.f0, .int .i64 ep.f1, .int .i64 0, .int .i64 0, .int .i64 0, .int .i64 0, .int .i64 0, .int .i64 0, .int .i64 0, .int .i64 0, .string ⟨#[]⟩, .int .i64 0, .int .i64 0, .int .i64 0, .int .i64 0, .slice none 0 0] (by rfl) (by rfl) 33 _ H3.out.2.2.2 inf33 rfl (by simp [Value.oneCell']) ?_))
        have HBL := setRow_blk H3.out.2.2.2 #[.int .i64 3, .string s, .int .i64 p.f0, .int .i64 p.f1, .int .i64 ep.f0, .int .i64 ep.f1, .int .i64 0, .int .i64 0, .int .i64 0, .int .i64 0, .int .i64 0, .int .i64 0, .int .i64 0, .int .i64 0, .string ⟨#[]⟩, .int .i64 0, .int .i64 0, .int .i64 0, .int .i64 0, .slice none 0 0]
        (try simp only [Exit.inBlock, Exit.then])
        refine bodyPost_ret (v := .agg #[.int .i64 3, .string s, .int .i64 p.f0, .int .i64 p.f1, .int .i64 ep.f0, .int .i64 ep.f1, .int .i64 0, .int .i64 0, .int .i64 0, .int .i64 0, .int .i64 0, .int .i64 0, .int .i64 0, .int .i64 0, .string ⟨#[]⟩, .int .i64 0, .int .i64 0, .int .i64 0, .int .i64 0, .slice none 0 0]) ?_ rfl ?_
        · exact results_cell_row rfl _ _ w.heap.size 33 _ (0, 0) _ (by rfl) HBL hu33 rfl inf33
        refine ⟨H3.out.1.setRowNew (Nat.le_refl _) _, (H3.out.2.1.setRowOther HNE.out HW0.out _).bel, ?_⟩
        rw [HQ.out]
        exact ⟨⟨none, 0, rfl, .inl ⟨rfl, rfl, rfl⟩⟩, H3.out.2.1.setRowOther HNE.out HW0.out _⟩
end Go.Proofs.Ytpgdmmjbhjbbhaa.Rd
end
section
namespace Go.Proofs.Ytpgdmmjbhjbbhaa.Rd
open Go Go.RowKit Go.Proofs.Ytpgdmmjbhjbbhaa.P Go.Proofs.Ytpgdmmjbhjbbhaa.Sp Go.Proofs.Ytpgdmmjbhjbbhaa.Vd Go.Proofs.Ytpgdmmjbhjbbhaa.En Go.Proofs.Ytpgdmmjbhjbbhaa.Wr Go.Proofs.YtpgdmmjbhjbbhaaW.PrintWords Go.Proofs.YtpgdmmjbhjbbhaaW.PrintLast Go.Proofs.YtpgdmmjbhjbbhaaW.PrintMore
set_option linter.unusedVariables false
set_option linter.unusedSimpArgs false
set_option maxHeartbeats 8000000 in
set_option maxRecDepth 100000 in
theorem msg2t_calls (w0 w : World) (g : Nat) (A : Option Addr) (c : Nat) (b l r0 : List Int) (hi_ : In w0 A c b) (h : RS w0 w g A c b l) (hk : numP 1 10 l = .ok 2 r0) (hq : ∀ x s er r1, bnd (pairP 0 63 1 1099511627776) (fun x => bnd (nameP eB) fun s => bnd (numP 0 255) fun er => ret (x, s, er)) r0 = .ok (x, s, er) r1 → capped er) :
    Calls Try.prog 61 #[.pointer (some ⟨g, 0, none⟩)] w fun e w' => LeftM w0 w g A c b (msgP l) e w' := by
  have HI := Aside0.mk hi_
  have HS := Aside0.mk h
  have HNE := Aside0.mk (rs_ne h)
  have HW0 := Aside0.mk h.bel.size
  have HP : Aside0 (msgP l = restP 2 r0) := ⟨by unfold msgP; rw [bnd_ok hk]⟩
  have HQC := Aside0.mk hq
  clear hq
  have hu33 := Try.underlying33
  have hu23 := Try.underlying23
  have hu25 := Try.underlying25
  have hu27 := Try.underlying27
  have hu29 := Try.underlying29
  obtain ⟨wa, hwa⟩ : ∃ wa, wa = w.alloc (.cells #[.int .i64 0, .string ⟨#[]⟩, .int .i64 0, .int .i64 0, .int .i64 0, .int .i64 0, .int .i64 0, .int .i64 0, .int .i64 0, .int .i64 0, .int .i64 0, .int .i64 0, .int .i64 0, .int .i64 0, .string ⟨#[]⟩, .int .i64 0, .int .i64 0, .int .i64 0, .int .i64 0, .slice none 0 0] 33 (0, 0)) := ⟨_, rfl⟩
  have HWA := Aside0.mk hwa
  have HA : Aside0 (Kb g w wa ∧ RS w0 wa g A c b l ∧ wa.heap[w.heap.size]? = some (.cells #[.int .i64 0, .string ⟨#[]⟩, .int .i64 0, .int .i64 0, .int .i64 0, .int .i64 0, .int .i64 0, .int .i64 0, .int .i64 0, .int .i64 0, .int .i64 0, .int .i64 0, .int .i64 0, .int .i64 0, .string ⟨#[]⟩, .int .i64 0, .int .i64 0, .int .i64 0, .int .i64 0, .slice none 0 0] 33 (0, 0))) := ⟨by rw [hwa]; exact ⟨Kb.below (al_below w _), h.below (al_below w _), heap_alloc_new w _⟩⟩
  clear hi_ h hwa
  go_enter Try.func61, Try.ntmps61
  go_upto_region 1 with fail
  rw [← HWA.out]
  go_upto_region 2 with (first | ((with_reducible refine gate_dst (N := 3) rfl ?_); refine box_event ?hg (N := 3) ?hd (cs := #[.int .i64 0, .string ⟨#[]⟩, .int .i64 0, .int .i64 0, .int .i64 0, .int .i64 0, .int .i64 0, .int .i64 0, .int .i64 0, .int .i64 0, .int .i64 0, .int .i64 0, .int .i64 0, .int .i64 0, .string ⟨#[]⟩, .int .i64 0, .int .i64 0, .int .i64 0, .int .i64 0, .slice none 0 0]) (t := 33) ?hr ?_; (case hd => rfl); (case hg => rfl); (case hr => first | (go_simp; done) | (go_simp; rfl)); intro mb hmb w6 hbox hb6; go_loud (refine wpList_store_row rfl 33 (.tmp 3) (.tmp 6) rfl mb #[.int .i64 2, .string ⟨#[]⟩, .int .i64 0, .int .i64 0, .int .i64 0, .int .i64 0, .int .i64 0, .int .i64 0, .int .i64 0, .int .i64 0, .int .i64 0, .int .i64 0, .int .i64 0, .int .i64 0, .string ⟨#[]⟩, .int .i64 0, .int .i64 0, .int .i64 0, .int .i64 0, .slice none 0 0] (by rfl) (by rfl) 33 #[.int .i64 0, .string ⟨#[]⟩, .int .i64 0, .int .i64 0, .int .i64 0, .int .i64 0, .int .i64 0, .int .i64 0, .int .i64 0, .int .i64 0, .int .i64 0, .int .i64 0, .int .i64 0, .int .i64 0, .string ⟨#[]⟩, .int .i64 0, .int .i64 0, .int .i64 0, .int .i64 0, .slice none 0 0] hbox inf33 rfl (by simp [Value.oneCell']) ?_)) | (go_at_call 80; refine (num_calls w0 _ g A c b l 1 10 (by decide) (by decide) (by decide) HI.out HA.out.2.1).mono ?_; rintro e w5 ⟨hkb, hb, hm⟩; simp only [hk] at hm; obtain ⟨rfl, hs1⟩ := hm; have HK5 := Aside0.mk (And.intro (HA.out.1.trans hkb) (And.intro hb hs1)); have HR5 := Aside0.mk (kb_blk hkb HNE.out HA.out.2.2); clear hkb hb hs1))
  obtain ⟨wm, hwm⟩ : ∃ wm, wm = w6.setRow mb #[.int .i64 2, .string ⟨#[]⟩, .int .i64 0, .int .i64 0, .int .i64 0, .int .i64 0, .int .i64 0, .int .i64 0, .int .i64 0, .int .i64 0, .int .i64 0, .int .i64 0, .int .i64 0, .int .i64 0, .string ⟨#[]⟩, .int .i64 0, .int .i64 0, .int .i64 0, .int .i64 0, .slice none 0 0] := ⟨_, rfl⟩
  have H0 : Aside0 (Kb g w wm ∧ RS w0 wm g A c b r0 ∧ wm.heap[mb]? = some (.cells #[.int .i64 2, .string ⟨#[]⟩, .int .i64 0, .int .i64 0, .int .i64 0, .int .i64 0, .int .i64 0, .int .i64 0, .int .i64 0, .int .i64 0, .int .i64 0, .int .i64 0, .int .i64 0, .int .i64 0, .string ⟨#[]⟩, .int .i64 0, .int .i64 0, .int .i64 0, .int .i64 0, .slice none 0 0] 33 (0, 0)) ∧ wm.heap[w.heap.size]? = some (.cells #[.int .i64 0, .string ⟨#[]⟩, .int .i64 0, .int .i64 0, .int .i64 0, .int .i64 0, .int .i64 0, .int .i64 0, .int .i64 0, .int .i64 0, .int .i64 0, .int .i64 0, .int .i64 0, .int .i64 0, .string ⟨#[]⟩, .int .i64 0, .int .i64 0, .int .i64 0, .int .i64 0, .slice none 0 0] 33 (0, 0))) := ⟨by rw [hwm]; exact ⟨(HK5.out.1.trans (Kb.below hb6)).setRowNew (by rw [hmb]; exact HK5.out.1.size) _, (HK5.out.2.2.below hb6).setRowOther (by rw [hmb]; exact rs_ne HK5.out.2.2) (by rw [hmb]; exact HK5.out.2.1.size) _, setRow_blk hbox _, (setRow_far (by rw [hmb]; exact Nat.ne_of_lt (blk_lt HR5.out)) _).trans (blk_keep hb6 HR5.out)⟩⟩
  have HMB : Aside0 (w.heap.size ≤ mb ∧ mb ≠ g ∧ w0.heap.size ≤ mb ∧ mb ≠ w.heap.size) := ⟨by rw [hmb]; exact ⟨HK5.out.1.size, rs_ne HK5.out.2.2, HK5.out.2.1.size, by have := blk_lt HR5.out; omega⟩⟩
  rw [← hwm]
  clear hwm hmb hbox hb6 HK5 HR5
  obtain ⟨li0, hli⟩ : ∃ li0, li0 = r0 := ⟨_, rfl⟩
  rw [← hli] at H0 HP HQC
  clear hli hk
  have HSP : Aside0 (restP 2 li0 = (bnd (pairP 0 63 1 1099511627776) fun x => bnd (nameP eB) fun s => bnd (numP 0 255) fun er => bnd (optP (capped er) z25 (pairP 1 1099511627776 0 1099511627776)) fun p => ret (mTold 2 x s er p)) li0) := ⟨rfl⟩
  have kk : wm.cell? ⟨mb, 0, none⟩ = some (.int .i64 2) := (blk_cell H0.out.2.2.1 0).trans rfl
  go_upto_region 8 with fail
  clear kk
  rcases h0 : pairP 0 63 1 1099511627776 li0 with n0 | ⟨x, li1⟩
  · have HQ : Aside0 (msgP l = .bad n0) := ⟨by rw [HP.out, HSP.out, bnd_bad h0]⟩
    go_wp2_with (go_at_call 83; refine (call_calls w0 _ g A c b li0 HI.out H0.out.2.1).mono ?_; rintro e w5 ⟨hk, hb, hm⟩; simp only [h0, pan] at hm; subst hm; have HE := Aside0.mk (And.intro (H0.out.1.trans hk) hb); clear hk hb)
    refine ⟨rfl, HE.out.1, HE.out.2, ?_⟩
    rw [HQ.out]
    rfl
  · go_upto_region 9 with (go_at_call 83; refine (call_calls w0 _ g A c b li0 HI.out H0.out.2.1).mono ?_; rintro e w5 ⟨hk, hb, hm⟩; simp only [h0] at hm; obtain ⟨rfl, hs1⟩ := hm; have HK5 := Aside0.mk (And.intro (H0.out.1.trans hk) (And.intro hb hs1)); have HX := Aside0.mk (kb_blk hk HMB.out.2.1 H0.out.2.2.1); have HXR := Aside0.mk (kb_blk hk HNE.out H0.out.2.2.2); clear hk hb hs1; have kc11 : w5.cell? ⟨mb, 11, none⟩ = some (.int .i64 0) := (blk_cell HX.out 11).trans rfl; have kf11 : w5.frozen? ⟨mb, 11, none⟩ = false := blk_frozen HX.out 11; have kc12 : w5.cell? ⟨mb, 12, none⟩ = some (.int .i64 0) := (blk_cell HX.out 12).trans rfl; have kf12 : w5.frozen? ⟨mb, 12, none⟩ = false := blk_frozen HX.out 12)
    obtain ⟨wz0, hwz⟩ : ∃ wz : World, wz = ((w5.setCell ⟨mb, 11, none⟩ (.int .i64 x.f0)).setCell ⟨mb, 12, none⟩ (.int .i64 x.f1)) := ⟨_, rfl⟩
    have hbk := (blk_set (blk_set HX.out 11 (.int .i64 x.f0)) 12 (.int .i64 x.f1))
    have H1 : Aside0 (Kb g w wz0 ∧ RS w0 wz0 g A c b li1 ∧ wz0.heap[mb]? = some (.cells #[.int .i64 2, .string ⟨#[]⟩, .int .i64 0, .int .i64 0, .int .i64 0, .int .i64 0, .int .i64 0, .int .i64 0, .int .i64 0, .int .i64 0, .int .i64 0, .int .i64 x.f0, .int .i64 x.f1, .int .i64 0, .string ⟨#[]⟩, .int .i64 0, .int .i64 0, .int .i64 0, .int .i64 0, .slice none 0 0] 33 (0, 0)) ∧ wz0.heap[w.heap.size]? = some (.cells #[.int .i64 0, .string ⟨#[]⟩, .int .i64 0, .int .i64 0, .int .i64 0, .int .i64 0, .int .i64 0, .int .i64 0, .int .i64 0, .int .i64 0, .int .i64 0, .int .i64 0, .int .i64 0, .int .i64 0, .string ⟨#[]⟩, .int .i64 0, .int .i64 0, .int .i64 0, .int .i64 0, .slice none 0 0] 33 (0, 0))) := ⟨by rw [hwz]; exact ⟨((HK5.out.1.setNew HMB.out.1 11 _).setNew HMB.out.1 12 _), ((HK5.out.2.2.setOther HMB.out.2.1 HMB.out.2.2.1 11 _).setOther HMB.out.2.1 HMB.out.2.2.1 12 _), by simpa using hbk, (blk_far (blk_far HXR.out HMB.out.2.2.2 11 (.int .i64 x.f0)) HMB.out.2.2.2 12 (.int .i64 x.f1))⟩⟩
    rw [← hwz]
    clear hwz hbk HK5 HX HXR kc11 kf11 kc12 kf12
    have kk : wz0.cell? ⟨mb, 0, none⟩ = some (.int .i64 2) := (blk_cell H1.out.2.2.1 0).trans rfl
    go_upto_region 9 with fail
    clear kk
    rcases h1 : nameP eB li1 with n0 | ⟨s, li2⟩
    · have HQ : Aside0 (msgP l = .bad n0) := ⟨by rw [HP.out, HSP.out, bnd_ok h0, bnd_bad h1]⟩
      go_wp2_with (go_at_call 97; refine (name_calls w0 _ g A c b li1 eB HI.out H1.out.2.1).mono ?_; rintro e w5 ⟨hk, hb, hm⟩; simp only [h1, pan] at hm; subst hm; have HE := Aside0.mk (And.intro (H1.out.1.trans hk) hb); clear hk hb)
      refine ⟨rfl, HE.out.1, HE.out.2, ?_⟩
      rw [HQ.out]
      rfl
    · go_upto_region 10 with (go_at_call 97; refine (name_calls w0 _ g A c b li1 eB HI.out H1.out.2.1).mono ?_; rintro e w5 ⟨hk, hb, hm⟩; simp only [h1] at hm; obtain ⟨rfl, hs1⟩ := hm; have HK5 := Aside0.mk (And.intro (H1.out.1.trans hk) (And.intro hb hs1)); have HX := Aside0.mk (kb_blk hk HMB.out.2.1 H1.out.2.2.1); have HXR := Aside0.mk (kb_blk hk HNE.out H1.out.2.2.2); clear hk hb hs1; have kc1 : w5.cell? ⟨mb, 1, none⟩ = some (.string ⟨#[]⟩) := (blk_cell HX.out 1).trans rfl; have kf1 : w5.frozen? ⟨mb, 1, none⟩ = false := blk_frozen HX.out 1)
      obtain ⟨wz1, hwz⟩ : ∃ wz : World, wz = (w5.setCell ⟨mb, 1, none⟩ (.string s)) := ⟨_, rfl⟩
      have hbk := (blk_set HX.out 1 (.string s))
      have H2 : Aside0 (Kb g w wz1 ∧ RS w0 wz1 g A c b li2 ∧ wz1.heap[mb]? = some (.cells #[.int .i64 2, .string s, .int .i64 0, .int .i64 0, .int .i64 0, .int .i64 0, .int .i64 0, .int .i64 0, .int .i64 0, .int .i64 0, .int .i64 0, .int .i64 x.f0, .int .i64 x.f1, .int .i64 0, .string ⟨#[]⟩, .int .i64 0, .int .i64 0, .int .i64 0, .int .i64 0, .slice none 0 0] 33 (0, 0)) ∧ wz1.heap[w.heap.size]? = some (.cells #[.int .i64 0, .string ⟨#[]⟩, .int .i64 0, .int .i64 0, .int .i64 0, .int .i64 0, .int .i64 0, .int .i64 0, .int .i64 0, .int .i64 0, .int .i64 0, .int .i64 0, .int .i64 0, .int .i64 0, .string ⟨#[]⟩, .int .i64 0, .int .i64 0, .int .i64 0, .int .i64 0, .slice none 0 0] 33 (0, 0))) := ⟨by rw [hwz]; exact ⟨(HK5.out.1.setNew HMB.out.1 1 _), (HK5.out.2.2.setOther HMB.out.2.1 HMB.out.2.2.1 1 _), by simpa using hbk, (blk_far HXR.out HMB.out.2.2.2 1 (.string s))⟩⟩
      rw [← hwz]
      clear hwz hbk HK5 HX HXR kc1 kf1
      have kk : wz1.cell? ⟨mb, 0, none⟩ = some (.int .i64 2) := (blk_cell H2.out.2.2.1 0).trans rfl
      go_upto_region 10 with fail
      clear kk
      rcases h2 : numP 0 255 li2 with n0 | ⟨er, li3⟩
      · have HQ : Aside0 (msgP l = .bad n0) := ⟨by rw [HP.out, HSP.out, bnd_ok h0, bnd_ok h1, bnd_bad h2]⟩
        go_wp2_with (go_at_call 80; refine (num_calls w0 _ g A c b li2 0 255 (by decide) (by decide) (by decide) HI.out H2.out.2.1).mono ?_; rintro e w5 ⟨hk, hb, hm⟩; simp only [h2, pan] at hm; subst hm; have HE := Aside0.mk (And.intro (H2.out.1.trans hk) hb); clear hk hb)
        refine ⟨rfl, HE.out.1, HE.out.2, ?_⟩
        rw [HQ.out]
        rfl
      · go_upto_region 11 with (go_at_call 80; refine (num_calls w0 _ g A c b li2 0 255 (by decide) (by decide) (by decide) HI.out H2.out.2.1).mono ?_; rintro e w5 ⟨hk, hb, hm⟩; simp only [h2] at hm; obtain ⟨rfl, hs1⟩ := hm; have HK5 := Aside0.mk (And.intro (H2.out.1.trans hk) (And.intro hb hs1)); have HX := Aside0.mk (kb_blk hk HMB.out.2.1 H2.out.2.2.1); have HXR := Aside0.mk (kb_blk hk HNE.out H2.out.2.2.2); clear hk hb hs1; have kc17 : w5.cell? ⟨mb, 17, none⟩ = some (.int .i64 0) := (blk_cell HX.out 17).trans rfl; have kf17 : w5.frozen? ⟨mb, 17, none⟩ = false := blk_frozen HX.out 17)
        obtain ⟨wz2, hwz⟩ : ∃ wz : World, wz = (w5.setCell ⟨mb, 17, none⟩ (.int .i64 er)) := ⟨_, rfl⟩
        have hbk := (blk_set HX.out 17 (.int .i64 er))
        have H3 : Aside0 (Kb g w wz2 ∧ RS w0 wz2 g A c b li3 ∧ wz2.heap[mb]? = some (.cells #[.int .i64 2, .string s, .int .i64 0, .int .i64 0, .int .i64 0, .int .i64 0, .int .i64 0, .int .i64 0, .int .i64 0, .int .i64 0, .int .i64 0, .int .i64 x.f0, .int .i64 x.f1, .int .i64 0, .string ⟨#[]⟩, .int .i64 0, .int .i64 0, .int .i64 er, .int .i64 0, .slice none 0 0] 33 (0, 0)) ∧ wz2.heap[w.heap.size]? = some (.cells #[.int .i64 0, .string ⟨#[]⟩, .int .i64 0, .int .i64 0, .int .i64 0, .int .i64 0, .int .i64 0, .int .i64 0, .int .i64 0, .int .i64 0, .int .i64 0, .int .i64 0, .int .i64 0, .int .i64 0, .string ⟨#[]⟩, .int .i64 0, .int .i64 0, .int .i64 0, .int .i64 0, .slice none 0 0] 33 (0, 0))) := ⟨by rw [hwz]; exact ⟨(HK5.out.1.setNew HMB.out.1 17 _), (HK5.out.2.2.setOther HMB.out.2.1 HMB.out.2.2.1 17 _), by simpa using hbk, (blk_far HXR.out HMB.out.2.2.2 17 (.int .i64 er))⟩⟩
        rw [← hwz]
        clear hwz hbk HK5 HX HXR kc17 kf17
        have kk : wz2.cell? ⟨mb, 0, none⟩ = some (.int .i64 2) := (blk_cell H3.out.2.2.1 0).trans rfl
        have ke : wz2.cell? ⟨mb, 17, none⟩ = some (.int .i64 er) := (blk_cell H3.out.2.2.1 17).trans rfl
        have hcq := dcd_pos (HQC.out x s er li3 (by rw [bnd_ok h0, bnd_ok h1, bnd_ok h2]; rfl))
        go_upto_region 12 with (go_at_call 58; refine (capped_calls _ _).mono ?_; rintro e w6 ⟨rfl, hb⟩; rw [hcq]; have H3b : Aside0 (Kb g w w6 ∧ RS w0 w6 g A c b li3 ∧ w6.heap[mb]? = some (.cells #[.int .i64 2, .string s, .int .i64 0, .int .i64 0, .int .i64 0, .int .i64 0, .int .i64 0, .int .i64 0, .int .i64 0, .int .i64 0, .int .i64 0, .int .i64 x.f0, .int .i64 x.f1, .int .i64 0, .string ⟨#[]⟩, .int .i64 0, .int .i64 0, .int .i64 er, .int .i64 0, .slice none 0 0] 33 (0, 0)) ∧ w6.heap[w.heap.size]? = some (.cells #[.int .i64 0, .string ⟨#[]⟩, .int .i64 0, .int .i64 0, .int .i64 0, .int .i64 0, .int .i64 0, .int .i64 0, .int .i64 0, .int .i64 0, .int .i64 0, .int .i64 0, .int .i64 0, .int .i64 0, .string ⟨#[]⟩, .int .i64 0, .int .i64 0, .int .i64 0, .int .i64 0, .slice none 0 0] 33 (0, 0))) := ⟨H3.out.1.trans (Kb.below hb), H3.out.2.1.below hb, blk_keep hb H3.out.2.2.1, blk_keep hb H3.out.2.2.2⟩; clear H3 hb ke kk; have H3 := H3b; clear H3b)
        rcases h3 : pairP 1 1099511627776 0 1099511627776 li3 with n0 | ⟨p, li4⟩
        · have HQ : Aside0 (msgP l = .bad n0) := ⟨by rw [HP.out, HSP.out, bnd_ok h0, bnd_ok h1, bnd_ok h2]; unfold optP; rw [if_pos (HQC.out x s er li3 (by rw [bnd_ok h0, bnd_ok h1, bnd_ok h2]; rfl)), bnd_bad h3]⟩
          go_wp2_with (go_at_call 98; refine (cap_calls w0 _ g A c b li3 HI.out H3.out.2.1).mono ?_; rintro e w5 ⟨hk, hb, hm⟩; simp only [h3, pan] at hm; subst hm; have HE := Aside0.mk (And.intro (H3.out.1.trans hk) hb); clear hk hb)
          refine ⟨rfl, HE.out.1, HE.out.2, ?_⟩
          rw [HQ.out]
          rfl
        · go_upto_region 13 with (go_at_call 98; refine (cap_calls w0 _ g A c b li3 HI.out H3.out.2.1).mono ?_; rintro e w5 ⟨hk, hb, hm⟩; simp only [h3] at hm; obtain ⟨rfl, hs1⟩ := hm; have HK5 := Aside0.mk (And.intro (H3.out.1.trans hk) (And.intro hb hs1)); have HX := Aside0.mk (kb_blk hk HMB.out.2.1 H3.out.2.2.1); have HXR := Aside0.mk (kb_blk hk HNE.out H3.out.2.2.2); clear hk hb hs1; have kc2 : w5.cell? ⟨mb, 2, none⟩ = some (.int .i64 0) := (blk_cell HX.out 2).trans rfl; have kf2 : w5.frozen? ⟨mb, 2, none⟩ = false := blk_frozen HX.out 2; have kc3 : w5.cell? ⟨mb, 3, none⟩ = some (.int .i64 0) := (blk_cell HX.out 3).trans rfl; have kf3 : w5.frozen? ⟨mb, 3, none⟩ = false := blk_frozen HX.out 3)
          obtain ⟨wz3, hwz⟩ : ∃ wz : World, wz = ((w5.setCell ⟨mb, 2, none⟩ (.int .i64 p.f0)).setCell ⟨mb, 3, none⟩ (.int .i64 p.f1)) := ⟨_, rfl⟩
          have hbk := (blk_set (blk_set HX.out 2 (.int .i64 p.f0)) 3 (.int .i64 p.f1))
          have H4 : Aside0 (Kb g w wz3 ∧ RS w0 wz3 g A c b li4 ∧ wz3.heap[mb]? = some (.cells #[.int .i64 2, .string s, .int .i64 p.f0, .int .i64 p.f1, .int .i64 0, .int .i64 0, .int .i64 0, .int .i64 0, .int .i64 0, .int .i64 0, .int .i64 0, .int .i64 x.f0, .int .i64 x.f1, .int .i64 0, .string ⟨#[]⟩, .int .i64 0, .int .i64 0, .int .i64 er, .int .i64 0, .slice none 0 0] 33 (0, 0)) ∧ wz3.heap[w.heap.size]? = some (.cells #[.int .i64 0, .string ⟨#[]⟩, .int .i64 0, .int .i64 0, .int .i64 0, .int .i64 0, .int .i64 0, .int .i64 0, .int .i64 0, .int .i64 0, .int .i64 0, .int .i64 0, .int .i64 0, .int .i64 0, .string ⟨#[]⟩, .int .i64 0, .int .i64 0, .int .i64 0, .int .i64 0, .slice none 0 0] 33 (0, 0))) := ⟨by rw [hwz]; exact ⟨((HK5.out.1.setNew HMB.out.1 2 _).setNew HMB.out.1 3 _), ((HK5.out.2.2.setOther HMB.out.2.1 HMB.out.2.2.1 2 _).setOther HMB.out.2.1 HMB.out.2.2.1 3 _), by simpa using hbk, (blk_far (blk_far HXR.out HMB.out.2.2.2 2 (.int .i64 p.f0)) HMB.out.2.2.2 3 (.int .i64 p.f1))⟩⟩
          rw [← hwz]
          clear hwz hbk HK5 HX HXR kc2 kf2 kc3 kf3
          have kk : wz3.cell? ⟨mb, 0, none⟩ = some (.int .i64 2) := (blk_cell H4.out.2.2.1 0).trans rfl
          go_upto_region 13 with fail
          clear kk
          have HQ : Aside0 (msgP l = .ok (mTold 2 x s er p) li4) := ⟨by rw [HP.out, HSP.out, bnd_ok h0, bnd_ok h1, bnd_ok h2]; unfold optP; rw [if_pos (HQC.out x s er li3 (by rw [bnd_ok h0, bnd_ok h1, bnd_ok h2]; rfl)), bnd_ok h3]; rfl⟩
          go_wp2_with ((with_reducible refine gate_dst (N := 39) rfl ?_); refine wpList_load_row rfl 33 (.tmp 3) rfl mb (by rfl) 33 _ (0, 0) _ H4.out.2.2.1 Try.underlying33 rfl inf33 ?_; go_loud (refine wpList_store_row rfl 33 (.tmp 2) (.tmp 39) rfl w.heap.size #[.int .i64 2, .string s, .int .i64 p.f0, .int .i64 p.f1, .int .i64 0, .int .i64 0, .int .i64 0, .int .i64 0, .int .i64 0, .int .i64 0, .int .i64 0, .int .i64 x.f0, .int .i64 x.f1, .int .i64 0, .string ⟨#[]⟩, .int .i64 0, .int .i64 0, .int .i64 er, .int .i64 0, .slice none 0 0] (by rfl) (by rfl) 33 _ H4.out.2.2.2 inf33 rfl (by simp [Value.oneCell']) ?_))
          have HBL := setRow_blk H4.out.2.2.2 #[.int .i64 2, .string s, .int .i64 p.f0, .int .i64 p.f1, .int .i64 0, .int .i64 0, .int .i64 0, .int .i64 0, .int .i64 0, .int .i64 0, .int .i64 0, .int .i64 x.f0, .int .i64 x.f1, .int .i64 0, .string ⟨#[]⟩, .int .i64 0, .int .i64 0, .int .i64 er, .int .i64 0, .slice none 0 0]
          (try simp only [Exit.inBlock, Exit.then])
          refine bodyPost_ret (v := .agg #[.int .i64 2, .string s, .int .i64 p.f0, .int .i64 p.f1, .int .i64 0, .int .i64 0, .int .i64 0, .int .i64 0, .int .i64 0, .int .i64 0, .int .i64 0, .int .i64 x.f0, .int .i64 x.f1, .int .i64 0, .string ⟨#[]⟩, .int .i64 0, .int .i64 0, .int .i64 er, .int .i64 0, .slice none 0 0]) ?_ rfl ?_
          · exact results_cell_row rfl _ _ w.heap.size 33 _ (0, 0) _ (by rfl) HBL hu33 rfl inf33
          refine ⟨H4.out.1.setRowNew (Nat.le_refl _) _, (H4.out.2.1.setRowOther HNE.out HW0.out _).bel, ?_⟩
          rw [HQ.out]
          exact ⟨⟨none, 0, rfl, .inl ⟨rfl, rfl, rfl⟩⟩, H4.out.2.1.setRowOther HNE.out HW0.out _⟩
set_option maxHeartbeats 8000000 in
set_option maxRecDepth 100000 in
theorem msg2f_calls (w0 w : World) (g : Nat) (A : Option Addr) (c : Nat) (b l r0 : List Int) (hi_ : In w0 A c b) (h : RS w0 w g A c b l) (hk : numP 1 10 l = .ok 2 r0) (hq : ∀ x s er r1, bnd (pairP 0 63 1 1099511627776) (fun x => bnd (nameP eB) fun s => bnd (numP 0 255) fun er => ret (x, s, er)) r0 = .ok (x, s, er) r1 → ¬ capped er) :
    Calls Try.prog 61 #[.pointer (some ⟨g, 0, none⟩)] w fun e w' => LeftM w0 w g A c b (msgP l) e w' := by
  have HI := Aside0.mk hi_
  have HS := Aside0.mk h
  have HNE := Aside0.mk (rs_ne h)
  have HW0 := Aside0.mk h.bel.size
  have HP : Aside0 (msgP l = restP 2 r0) := ⟨by unfold msgP; rw [bnd_ok hk]⟩
  have HQC := Aside0.mk hq
  clear hq
  have hu33 := Try.underlying33
  have hu23 := Try.underlying23
  have hu25 := Try.underlying25
  have hu27 := Try.underlying27
  have hu29 := Try.underlying29
  obtain ⟨wa, hwa⟩ : ∃ wa, wa = w.alloc (.cells #[.int .i64 0, .string ⟨#[]⟩, .int .i64 0, .int .i64 0, .int .i64 0, .int .i64 0, .int .i64 0, .int .i64 0, .int .i64 0, .int .i64 0, .int .i64 0, .int .i64 0, .int .i64 0, .int .i64 0, .string ⟨#[]⟩, .int .i64 0, .int .i64 0, .int .i64 0, .int .i64 0, .slice none 0 0] 33 (0, 0)) := ⟨_, rfl⟩
  have HWA := Aside0.mk hwa
  have HA : Aside0 (Kb g w wa ∧ RS w0 wa g A c b l ∧ wa.heap[w.heap.size]? = some (.cells #[.int .i64 0, .string ⟨#[]⟩, .int .i64 0, .int .i64 0, .int .i64 0, .int .i64 0, .int .i64 0, .int .i64 0, .int .i64 0, .int .i64 0, .int .i64 0, .int .i64 0, .int .i64 0, .int .i64 0, .string ⟨#[]⟩, .int .i64 0, .int .i64 0, .int .i64 0, .int .i64 0, .slice none 0 0] 33 (0, 0))) := ⟨by rw [hwa]; exact ⟨Kb.below (al_below w _), h.below (al_below w _), heap_alloc_new w _⟩⟩
  clear hi_ h hwa
  go_enter Try.func61, Try.ntmps61
  go_upto_region 1 with fail
  rw [← HWA.out]
  go_upto_region 2 with (first | ((with_reducible refine gate_dst (N := 3) rfl ?_); refine box_event ?hg (N := 3) ?hd (cs := #[.int .i64 0, .string ⟨#[]⟩, .int .i64 0, .int .i64 0, .int .i64 0, .int .i64 0, .int .i64 0, .int .i64 0, .int .i64 0, .int .i64 0, .int .i64 0, .int .i64 0, .int .i64 0, .int .i64 0, .string ⟨#[]⟩, .int .i64 0, .int .i64 0, .int .i64 0, .int .i64 0, .slice none 0 0]) (t := 33) ?hr ?_; (case hd => rfl); (case hg => rfl); (case hr => first | (go_simp; done) | (go_simp; rfl)); intro mb hmb w6 hbox hb6; go_loud (refine wpList_store_row rfl 33 (.tmp 3) (.tmp 6) rfl mb #[.int .i64 2, .string ⟨#[]⟩, .int .i64 0, .int .i64 0, .int .i64 0, .int .i64 0, .int .i64 0, .int .i64 0, .int .i64 0, .int .i64 0, .int .i64 0, .int .i64 0, .int .i64 0, .int .i64 0, .string ⟨#[]⟩, .int .i64 0, .int .i64 0, .int .i64 0, .int .i64 0, .slice none 0 0] (by rfl) (by rfl) 33 #[.int .i64 0, .string ⟨#[]⟩, .int .i64 0, .int .i64 0, .int .i64 0, .int .i64 0, .int .i64 0, .int .i64 0, .int .i64 0, .int .i64 0, .int .i64 0, .int .i64 0, .int .i64 0, .int .i64 0, .string ⟨#[]⟩, .int .i64 0, .int .i64 0, .int .i64 0, .int .i64 0, .slice none 0 0] hbox inf33 rfl (by simp [Value.oneCell']) ?_)) | (go_at_call 80; refine (num_calls w0 _ g A c b l 1 10 (by decide) (by decide) (by decide) HI.out HA.out.2.1).mono ?_; rintro e w5 ⟨hkb, hb, hm⟩; simp only [hk] at hm; obtain ⟨rfl, hs1⟩ := hm; have HK5 := Aside0.mk (And.intro (HA.out.1.trans hkb) (And.intro hb hs1)); have HR5 := Aside0.mk (kb_blk hkb HNE.out HA.out.2.2); clear hkb hb hs1))
  obtain ⟨wm, hwm⟩ : ∃ wm, wm = w6.setRow mb #[.int .i64 2, .string ⟨#[]⟩, .int .i64 0, .int .i64 0, .int .i64 0, .int .i64 0, .int .i64 0, .int .i64 0, .int .i64 0, .int .i64 0, .int .i64 0, .int .i64 0, .int .i64 0, .int .i64 0, .string ⟨#[]⟩, .int .i64 0, .int .i64 0, .int .i64 0, .int .i64 0, .slice none 0 0] := ⟨_, rfl⟩
  have H0 : Aside0 (Kb g w wm ∧ RS w0 wm g A c b r0 ∧ wm.heap[mb]? = some (.cells #[.int .i64 2, .string ⟨#[]⟩, .int .i64 0, .int .i64 0, .int .i64 0, .int .i64 0, .int .i64 0, .int .i64 0, .int .i64 0, .int .i64 0, .int .i64 0, .int .i64 0, .int .i64 0, .int .i64 0, .string ⟨#[]⟩, .int .i64 0, .int .i64 0, .int .i64 0, .int .i64 0, .slice none 0 0] 33 (0, 0)) ∧ wm.heap[w.heap.size]? = some (.cells #[.int .i64 0, .string ⟨#[]⟩, .int .i64 0, .int .i64 0, .int .i64 0, .int .i64 0, .int .i64 0, .int .i64 0, .int .i64 0, .int .i64 0, .int .i64 0, .int .i64 0, .int .i64 0, .int .i64 0, .string ⟨#[]⟩, .int .i64 0, .int .i64 0, .int .i64 0, .int .i64 0, .slice none 0 0] 33 (0, 0))) := ⟨by rw [hwm]; exact ⟨(HK5.out.1.trans (Kb.below hb6)).setRowNew (by rw [hmb]; exact HK5.out.1.size) _, (HK5.out.2.2.below hb6).setRowOther (by rw [hmb]; exact rs_ne HK5.out.2.2) (by rw [hmb]; exact HK5.out.2.1.size) _, setRow_blk hbox _, (setRow_far (by rw [hmb]; exact Nat.ne_of_lt (blk_lt HR5.out)) _).trans (blk_keep hb6 HR5.out)⟩⟩
  have HMB : Aside0 (w.heap.size ≤ mb ∧ mb ≠ g ∧ w0.heap.size ≤ mb ∧ mb ≠ w.heap.size) := ⟨by rw [hmb]; exact ⟨HK5.out.1.size, rs_ne HK5.out.2.2, HK5.out.2.1.size, by have := blk_lt HR5.out; omega⟩⟩
  rw [← hwm]
  clear hwm hmb hbox hb6 HK5 HR5
  obtain ⟨li0, hli⟩ : ∃ li0, li0 = r0 := ⟨_, rfl⟩
  rw [← hli] at H0 HP HQC
  clear hli hk
  have HSP : Aside0 (restP 2 li0 = (bnd (pairP 0 63 1 1099511627776) fun x => bnd (nameP eB) fun s => bnd (numP 0 255) fun er => bnd (optP (capped er) z25 (pairP 1 1099511627776 0 1099511627776)) fun p => ret (mTold 2 x s er p)) li0) := ⟨rfl⟩
  have kk : wm.cell? ⟨mb, 0, none⟩ = some (.int .i64 2) := (blk_cell H0.out.2.2.1 0).trans rfl
  go_upto_region 8 with fail
  clear kk
  rcases h0 : pairP 0 63 1 1099511627776 li0 with n0 | ⟨x, li1⟩
  · have HQ : Aside0 (msgP l = .bad n0) := ⟨by rw [HP.out, HSP.out, bnd_bad h0]⟩
    go_wp2_with (go_at_call 83; refine (call_calls w0 _ g A c b li0 HI.out H0.out.2.1).mono ?_; rintro e w5 ⟨hk, hb, hm⟩; simp only [h0, pan] at hm; subst hm; have HE := Aside0.mk (And.intro (H0.out.1.trans hk) hb); clear hk hb)
    refine ⟨rfl, HE.out.1, HE.out.2, ?_⟩
    rw [HQ.out]
    rfl
  · go_upto_region 9 with (go_at_call 83; refine (call_calls w0 _ g A c b li0 HI.out H0.out.2.1).mono ?_; rintro e w5 ⟨hk, hb, hm⟩; simp only [h0] at hm; obtain ⟨rfl, hs1⟩ := hm; have HK5 := Aside0.mk (And.intro (H0.out.1.trans hk) (And.intro hb hs1)); have HX := Aside0.mk (kb_blk hk HMB.out.2.1 H0.out.2.2.1); have HXR := Aside0.mk (kb_blk hk HNE.out H0.out.2.2.2); clear hk hb hs1; have kc11 : w5.cell? ⟨mb, 11, none⟩ = some (.int .i64 0) := (blk_cell HX.out 11).trans rfl; have kf11 : w5.frozen? ⟨mb, 11, none⟩ = false := blk_frozen HX.out 11; have kc12 : w5.cell? ⟨mb, 12, none⟩ = some (.int .i64 0) := (blk_cell HX.out 12).trans rfl; have kf12 : w5.frozen? ⟨mb, 12, none⟩ = false := blk_frozen HX.out 12)
    obtain ⟨wz0, hwz⟩ : ∃ wz : World, wz = ((w5.setCell ⟨mb, 11, none⟩ (.int .i64 x.f0)).setCell ⟨mb, 12, none⟩ (.int .i64 x.f1)) := ⟨_, rfl⟩
    have hbk := (blk_set (blk_set HX.out 11 (.int .i64 x.f0)) 12 (.int .i64 x.f1))
    have H1 : Aside0 (Kb g w wz0 ∧ RS w0 wz0 g A c b li1 ∧ wz0.heap[mb]? = some (.cells #[.int .i64 2, .string ⟨#[]⟩, .int .i64 0, .int .i64 0, .int .i64 0, .int .i64 0, .int .i64 0, .int .i64 0, .int .i64 0, .int .i64 0, .int .i64 0, .int .i64 x.f0, .int .i64 x.f1, .int .i64 0, .string ⟨#[]⟩, .int .i64 0, .int .i64 0, .int .i64 0, .int .i64 0, .slice none 0 0] 33 (0, 0)) ∧ wz0.heap[w.heap.size]? = some (.cells #[.int .i64 0, .string ⟨#[]⟩, .int .i64 0, .int .i64 0, .int .i64 0, .int .i64 0, .int .i64 0, .int .i64 0, .int .i64 0, .int .i64 0, .int .i64 0, .int .i64 0, .int .i64 0, .int .i64 0, .string ⟨#[]⟩, .int .i64 0, .int .i64 0, .int .i64 0, .int .i64 0, .slice none 0 0] 33 (0, 0))) := ⟨by rw [hwz]; exact ⟨((HK5.out.1.setNew HMB.out.1 11 _).setNew HMB.out.1 12 _), ((HK5.out.2.2.setOther HMB.out.2.1 HMB.out.2.2.1 11 _).setOther HMB.out.2.1 HMB.out.2.2.1 12 _), by simpa using hbk, (blk_far (blk_far HXR.out HMB.out.2.2.2 11 (.int .i64 x.f0)) HMB.out.2.2.2 12 (.int .i64 x.f1))⟩⟩
    rw [← hwz]
    clear hwz hbk HK5 HX HXR kc11 kf11 kc12 kf12
    have kk : wz0.cell? ⟨mb, 0, none⟩ = some (.int .i64 2) := (blk_cell H1.out.2.2.1 0).trans rfl
    go_upto_region 9 with fail
    clear kk
    rcases h1 : nameP eB li1 with n0 | ⟨s, li2⟩
    · have HQ : Aside0 (msgP l = .bad n0) := ⟨by rw [HP.out, HSP.out, bnd_ok h0, bnd_bad h1]⟩
      go_wp2_with (go_at_call 97; refine (name_calls w0 _ g A c b li1 eB HI.out H1.out.2.1).mono ?_; rintro e w5 ⟨hk, hb, hm⟩; simp only [h1, pan] at hm; subst hm; have HE := Aside0.mk (And.intro (H1.out.1.trans hk) hb); clear hk hb)
      refine ⟨rfl, HE.out.1, HE.out.2, ?_⟩
      rw [HQ.out]
      rfl
    · go_upto_region 10 with (go_at_call 97; refine (name_calls w0 _ g A c b li1 eB HI.out H1.out.2.1).mono ?_; rintro e w5 ⟨hk, hb, hm⟩; simp only [h1] at hm; obtain ⟨rfl, hs1⟩ := hm; have HK5 := Aside0.mk (And.intro (H1.out.1.trans hk) (And.intro hb hs1)); have HX := Aside0.mk (kb_blk hk HMB.out.2.1 H1.out.2.2.1); have HXR := Aside0.mk (kb_blk hk HNE.out H1.out.2.2.2); clear hk hb hs1; have kc1 : w5.cell? ⟨mb, 1, none⟩ = some (.string ⟨#[]⟩) := (blk_cell HX.out 1).trans rfl; have kf1 : w5.frozen? ⟨mb, 1, none⟩ = false := blk_frozen HX.out 1)
      obtain ⟨wz1, hwz⟩ : ∃ wz : World, wz = (w5.setCell ⟨mb, 1, none⟩ (.string s)) := ⟨_, rfl⟩
      have hbk := (blk_set HX.out 1 (.string s))
      have H2 : Aside0 (Kb g w wz1 ∧ RS w0 wz1 g A c b li2 ∧ wz1.heap[mb]? = some (.cells #[.int .i64 2, .string s, .int .i64 0, .int .i64 0, .int .i64 0, .int .i64 0, .int .i64 0, .int .i64 0, .int .i64 0, .int .i64 0, .int .i64 0, .int .i64 x.f0, .int .i64 x.f1, .int .i64 0, .string ⟨#[]⟩, .int .i64 0, .int .i64 0, .int .i64 0, .int .i64 0, .slice none 0 0] 33 (0, 0)) ∧ wz1.heap[w.heap.size]? = some (.cells #[.int .i64 0, .string ⟨#[]⟩, .int .i64 0, .int .i64 0, .int .i64 0, .int .i64 0, .int .i64 0, .int .i64 0, .int .i64 0, .int .i64 0, .int .i64 0, .int .i64 0, .int .i64 0, .int .i64 0, .string ⟨#[]⟩, .int .i64 0, .int .i64 0, .int .i64 0, .int .i64 0, .slice none 0 0] 33 (0, 0))) := ⟨by rw [hwz]; exact ⟨(HK5.out.1.setNew HMB.out.1 1 _), (HK5.out.2.2.setOther HMB.out.2.1 HMB.out.2.2.1 1 _), by simpa using hbk, (blk_far HXR.out HMB.out.2.2.2 1 (.string s))⟩⟩
      rw [← hwz]
      clear hwz hbk HK5 HX HXR kc1 kf1
      have kk : wz1.cell? ⟨mb, 0, none⟩ = some (.int .i64 2) := (blk_cell H2.out.2.2.1 0).trans rfl
      go_upto_region 10 with fail
      clear kk
      rcases h2 : numP 0 255 li2 with n0 | ⟨er, li3⟩
      · have HQ : Aside0 (msgP l = .bad n0) := ⟨by rw [HP.out, HSP.out, bnd_ok h0, bnd_ok h1, bnd_bad h2]⟩
        go_wp2_with (go_at_call 80; refine (num_calls w0 _ g A c b li2 0 255 (by decide) (by decide) (by decide) HI.out H2.out.2.1).mono ?_; rintro e w5 ⟨hk, hb, hm⟩; simp only [h2, pan] at hm; subst hm; have HE := Aside0.mk (And.intro (H2.out.1.trans hk) hb); clear hk hb)
        refine ⟨rfl, HE.out.1, HE.out.2, ?_⟩
        rw [HQ.out]
        rfl
      · go_upto_region 11 with (go_at_call 80; refine (num_calls w0 _ g A c b li2 0 255 (by decide) (by decide) (by decide) HI.out H2.out.2.1).mono ?_; rintro e w5 ⟨hk, hb, hm⟩; simp only [h2] at hm; obtain ⟨rfl, hs1⟩ := hm; have HK5 := Aside0.mk (And.intro (H2.out.1.trans hk) (And.intro hb hs1)); have HX := Aside0.mk (kb_blk hk HMB.out.2.1 H2.out.2.2.1); have HXR := Aside0.mk (kb_blk hk HNE.out H2.out.2.2.2); clear hk hb hs1; have kc17 : w5.cell? ⟨mb, 17, none⟩ = some (.int .i64 0) := (blk_cell HX.out 17).trans rfl; have kf17 : w5.frozen? ⟨mb, 17, none⟩ = false := blk_frozen HX.out 17)
        obtain ⟨wz2, hwz⟩ : ∃ wz : World, wz = (w5.setCell ⟨mb, 17, none⟩ (.int .i64 er)) := ⟨_, rfl⟩
        have hbk := (blk_set HX.out 17 (.int .i64 er))
        have H3 : Aside0 (Kb g w wz2 ∧ RS w0 wz2 g A c b li3 ∧ wz2.heap[mb]? = some (.cells #[.int .i64 2, .string s, .int .i64 0, .int .i64 0, .int .i64 0, .int .i64 0, .int .i64 0, .int .i64 0, .int .i64 0, .int .i64 0, .int .i64 0, .int .i64 x.f0, .int .i64 x.f1, .int .i64 0, .string ⟨#[]⟩, .int .i64 0, .int .i64 0, .int .i64 er, .int .i64 0, .slice none 0 0] 33 (0, 0)) ∧ wz2.heap[w.heap.size]? = some (.cells #[.int .i64 0, .string ⟨#[]⟩, .int .i64 0, .int .i64 0, .int .i64 0, .int .i64 0, .int .i64 0, .int .i64 0, .int .i64 0, .int .i64 0, .int .i64 0, .int .i64 0, .int .i64 0, .int .i64 0, .string ⟨#[]⟩, .int .i64 0, .int .i64 0, .int .i64 0, .int .i64 0, .slice none 0 0] 33 (0, 0))) := ⟨by rw [hwz]; exact ⟨(HK5.out.1.setNew HMB.out.1 17 _), (HK5.out.2.2.setOther HMB.out.2.1 HMB.out.2.2.1 17 _), by simpa using hbk, (blk_far HXR.out HMB.out.2.2.2 17 (.int .i64 er))⟩⟩
        rw [← hwz]
        clear hwz hbk HK5 HX HXR kc17 kf17
        have kk : wz2.cell? ⟨mb, 0, none⟩ = some (.int .i64 2) := (blk_cell H3.out.2.2.1 0).trans rfl
        have ke : wz2.cell? ⟨mb, 17, none⟩ = some (.int .i64 er) := (blk_cell H3.out.2.2.1 17).trans rfl
        have hcq := dcd_neg (HQC.out x s er li3 (by rw [bnd_ok h0, bnd_ok h1, bnd_ok h2]; rfl))
        go_upto_region 13 with (go_at_call 58; refine (capped_calls _ _).mono ?_; rintro e w6 ⟨rfl, hb⟩; rw [hcq]; have H3b : Aside0 (Kb g w w6 ∧ RS w0 w6 g A c b li3 ∧ w6.heap[mb]? = some (.cells #[.int .i64 2, .string s, .int .i64 0, .int .i64 0, .int .i64 0, .int .i64 0, .int .i64 0, .int .i64 0, .int .i64 0, .int .i64 0, .int .i64 0, .int .i64 x.f0, .int .i64 x.f1, .int .i64 0, .string ⟨#[]⟩, .int .i64 0, .int .i64 0, .int .i64 er, .int .i64 0, .slice none 0 0] 33 (0, 0)) ∧ w6.heap[w.heap.size]? = some (.cells #[.int .i64 0, .string ⟨#[]⟩, .int .i64 0, .int .i64 0, .int .i64 0, .int .i64 0, .int .i64 0, .int .i64 0, .int .i64 0, .int .i64 0, .int .i64 0, .int .i64 0, .int .i64 0, .int .i64 0, .string ⟨#[]⟩, .int .i64 0, .int .i64 0, .int .i64 0, .int .i64 0, .slice none 0 0] 33 (0, 0))) := ⟨H3.out.1.trans (Kb.below hb), H3.out.2.1.below hb, blk_keep hb H3.out.2.2.1, blk_keep hb H3.out.2.2.2⟩; clear H3 hb ke kk; have H3 := H3b; clear H3b)
        have HQ : Aside0 (msgP l = .ok (mTold 2 x s er z25) li3) := ⟨by rw [HP.out, HSP.out, bnd_ok h0, bnd_ok h1, bnd_ok h2]; unfold optP; rw [if_neg (HQC.out x s er li3 (by rw [bnd_ok h0, bnd_ok h1, bnd_ok h2]; rfl))]; rfl⟩
        go_wp2_with ((with_reducible refine gate_dst (N := 39) rfl ?_); refine wpList_load_row rfl 33 (.tmp 3) rfl mb (by rfl) 33 _ (0, 0) _ H3.out.2.2.1 Try.underlying33 rfl inf33 ?_; go_loud (refine wpList_store_row rfl 33 (.tmp 2) (.tmp 39) rfl w.heap.size #[.int .i64 2, .string s, .int .i64 0, .int .i64 0, .int .i64 0, .int .i64 0, .int .i64 0, .int .i64 0, .int .i64 0, .int .i64 0, .int .i64 0, .int .i64 x.f0, .int .i64 x.f1, .int .i64 0, .string ⟨#[]⟩, .int .i64 0, .int .i64 0, .int .i64 er, .int .i64 0, .slice none 0 0] (by rfl) (by rfl) 33 _ H3.out.2.2.2 inf33 rfl (by simp [Value.oneCell']) ?_))
        have HBL := setRow_blk H3.out.2.2.2 #[.int .i64 2, .string s, .int .i64 0, .int .i64 0, .int .i64 0, .int .i64 0, .int .i64 0, .int .i64 0, .int .i64 0, .int .i64 0, .int .i64 0, .int .i64 x.f0, .int .i64 x.f1, .int .i64 0, .string ⟨#[]⟩, .int .i64 0, .int .i64 0, .int .i64 er, .int .i64 0, .slice none 0 0]
        (try simp only [Exit.inBlock, Exit.then])
        refine bodyPost_ret (v := .agg #[.int .i64 2, .string s, .int .i64 0, .int .i64 0, .int .i64 0, .int .i64 0, .int .i64 0, .int .i64 0, .int .i64 0, .int .i64 0, .int .i64 0, .int .i64 x.f0, .int .i64 x.f1, .int .i64 0, .string ⟨#[]⟩, .int .i64 0, .int .i64 0, .int .i64 er, .int .i64 0, .slice none 0 0]) ?_ rfl ?_
        · exact results_cell_row rfl _ _ w.heap.size 33 _ (0, 0) _ (by rfl) HBL hu33 rfl inf33
        refine ⟨H3.out.1.setRowNew (Nat.le_refl _) _, (H3.out.2.1.setRowOther HNE.out HW0.out _).bel, ?_⟩
        rw [HQ.out]
        exact ⟨⟨none, 0, rfl, .inl ⟨rfl, rfl, rfl⟩⟩, H3.out.2.1.setRowOther HNE.out HW0.out _⟩
set_option maxHeartbeats 8000000 in
set_option maxRecDepth 100000 in
theorem msg8_calls (w0 w : World) (g : Nat) (A : Option Addr) (c : Nat) (b l r0 : List Int) (hi_ : In w0 A c b) (h : RS w0 w g A c b l) (hk : numP 1 10 l = .ok 8 r0) :
    Calls Try.prog 61 #[.pointer (some ⟨g, 0, none⟩)] w fun e w' => LeftM w0 w g A c b (msgP l) e w' := by
  have HI := Aside0.mk hi_
  have HS := Aside0.mk h
  have HNE := Aside0.mk (rs_ne h)
  have HW0 := Aside0.mk h.bel.size
  have HP : Aside0 (msgP l = restP 8 r0) := ⟨by unfold msgP; rw [bnd_ok hk]⟩
  have hu33 := Try.underlying33
  have hu23 := Try.underlying23
  have hu25 := Try.underlying25
  have hu27 := Try.underlying27
  have hu29 := Try.underlying29
  obtain ⟨wa, hwa⟩ : ∃ wa, wa = w.alloc (.cells #[.int .i64 0, .string ⟨#[]⟩, .int .i64 0, .int .i64 0, .int .i64 0, .int .i64 0, .int .i64 0, .int .i64 0, .int .i64 0, .int .i64 0, .int .i64 0, .int .i64 0, .int .i64 0, .int .i64 0, .string ⟨#[]⟩, .int .i64 0, .int .i64 0, .int .i64 0, .int .i64 0, .slice none 0 0] 33 (0, 0)) := ⟨_, rfl⟩
  have HWA := Aside0.mk hwa
  have HA : Aside0 (Kb g w wa ∧ RS w0 wa g A c b l ∧ wa.heap[w.heap.size]? = some (.cells #[.int .i64 0, .string ⟨#[]⟩, .int .i64 0, .int .i64 0, .int .i64 0, .int .i64 0, .int .i64 0, .int .i64 0, .int .i64 0, .int .i64 0, .int .i64 0, .int .i64 0, .int .i64 0, .int .i64 0, .string ⟨#[]⟩, .int .i64 0, .int .i64 0, .int .i64 0, .int .i64 0, .slice none 0 0] 33 (0, 0))) := ⟨by rw [hwa]; exact ⟨Kb.below (al_below w _), h.below (al_below w _), heap_alloc_new w _⟩⟩
  clear hi_ h hwa
  go_enter Try.func61, Try.ntmps61
  go_upto_region 1 with fail
  rw [← HWA.out]
  go_upto_region 2 with (first | ((with_reducible refine gate_dst (N := 3) rfl ?_); refine box_event ?hg (N := 3) ?hd (cs := #[.int .i64 0, .string ⟨#[]⟩, .int .i64 0, .int .i64 0, .int .i64 0, .int .i64 0, .int .i64 0, .int .i64 0, .int .i64 0, .int .i64 0, .int .i64 0, .int .i64 0, .int .i64 0, .int .i64 0, .string ⟨#[]⟩, .int .i64 0, .int .i64 0, .int .i64 0, .int .i64 0, .slice none 0 0]) (t := 33) ?hr ?_; (case hd => rfl); (case hg => rfl); (case hr => first | (go_simp; done) | (go_simp; rfl)); intro mb hmb w6 hbox hb6; go_loud (refine wpList_store_row rfl 33 (.tmp 3) (.tmp 6) rfl mb #[.int .i64 8, .string ⟨#[]⟩, .int .i64 0, .int .i64 0, .int .i64 0, .int .i64 0, .int .i64 0, .int .i64 0, .int .i64 0, .int .i64 0, .int .i64 0, .int .i64 0, .int .i64 0, .int .i64 0, .string ⟨#[]⟩, .int .i64 0, .int .i64 0, .int .i64 0, .int .i64 0, .slice none 0 0] (by rfl) (by rfl) 33 #[.int .i64 0, .string ⟨#[]⟩, .int .i64 0, .int .i64 0, .int .i64 0, .int .i64 0, .int .i64 0, .int .i64 0, .int .i64 0, .int .i64 0, .int .i64 0, .int .i64 0, .int .i64 0, .int .i64 0, .string ⟨#[]⟩, .int .i64 0, .int .i64 0, .int .i64 0, .int .i64 0, .slice none 0 0] hbox inf33 rfl (by simp [Value.oneCell']) ?_)) | (go_at_call 80; refine (num_calls w0 _ g A c b l 1 10 (by decide) (by decide) (by decide) HI.out HA.out.2.1).mono ?_; rintro e w5 ⟨hkb, hb, hm⟩; simp only [hk] at hm; obtain ⟨rfl, hs1⟩ := hm; have HK5 := Aside0.mk (And.intro (HA.out.1.trans hkb) (And.intro hb hs1)); have HR5 := Aside0.mk (kb_blk hkb HNE.out HA.out.2.2); clear hkb hb hs1))
  obtain ⟨wm, hwm⟩ : ∃ wm, wm = w6.setRow mb #[.int .i64 8, .string ⟨#[]⟩, .int .i64 0, .int .i64 0, .int .i64 0, .int .i64 0, .int .i64 0, .int .i64 0, .int .i64 0, .int .i64 0, .int .i64 0, .int .i64 0, .int .i64 0, .int .i64 0, .string ⟨#[]⟩, .int .i64 0, .int .i64 0, .int .i64 0, .int .i64 0, .slice none 0 0] := ⟨_, rfl⟩
  have H0 : Aside0 (Kb g w wm ∧ RS w0 wm g A c b r0 ∧ wm.heap[mb]? = some (.cells #[.int .i64 8, .string ⟨#[]⟩, .int .i64 0, .int .i64 0, .int .i64 0, .int .i64 0, .int .i64 0, .int .i64 0, .int .i64 0, .int .i64 0, .int .i64 0, .int .i64 0, .int .i64 0, .int .i64 0, .string ⟨#[]⟩, .int .i64 0, .int .i64 0, .int .i64 0, .int .i64 0, .slice none 0 0] 33 (0, 0)) ∧ wm.heap[w.heap.size]? = some (.cells #[.int .i64 0, .string ⟨#[]⟩, .int .i64 0, .int .i64 0, .int .i64 0, .int .i64 0, .int .i64 0, .int .i64 0, .int .i64 0, .int .i64 0, .int .i64 0, .int .i64 0, .int .i64 0, .int .i64 0, .string ⟨#[]⟩, .int .i64 0, .int .i64 0, .int .i64 0, .int .i64 0, .slice none 0 0] 33 (0, 0))) := ⟨by rw [hwm]; exact ⟨(HK5.out.1.trans (Kb.below hb6)).setRowNew (by rw [hmb]; exact HK5.out.1.size) _, (HK5.out.2.2.below hb6).setRowOther (by rw [hmb]; exact rs_ne HK5.out.2.2) (by rw [hmb]; exact HK5.out.2.1.size) _, setRow_blk hbox _, (setRow_far (by rw [hmb]; exact Nat.ne_of_lt (blk_lt HR5.out)) _).trans (blk_keep hb6 HR5.out)⟩⟩
  have HMB : Aside0 (w.heap.size ≤ mb ∧ mb ≠ g ∧ w0.heap.size ≤ mb ∧ mb ≠ w.heap.size) := ⟨by rw [hmb]; exact ⟨HK5.out.1.size, rs_ne HK5.out.2.2, HK5.out.2.1.size, by have := blk_lt HR5.out; omega⟩⟩
  rw [← hwm]
  clear hwm hmb hbox hb6 HK5 HR5
  obtain ⟨li0, hli⟩ : ∃ li0, li0 = r0 := ⟨_, rfl⟩
  rw [← hli] at H0 HP
  clear hli hk
  have HSP : Aside0 (restP 8 li0 = (bnd (nameP eB) fun s => bnd (pairP 1 1099511627776 0 1099511627776) fun p => bnd (pairP 0 1099511627776 0 1099511627776) fun rt => ret (mOf 8 s p z25 z25 rt 0)) li0) := ⟨by unfold restP; rw [if_neg (by decide), if_neg (by decide), if_neg (by decide)]; unfold ofP optP; simp only [hasEp, hasRt, Int.reduceLE, Int.reduceEq, and_self, or_self, or_true, true_or, and_true, true_and, or_false, false_or, and_false, false_and, if_true, if_false, ite_true, ite_false, bnd_ret, reduceIte]; rfl⟩
  have kk : wm.cell? ⟨mb, 0, none⟩ = some (.int .i64 8) := (blk_cell H0.out.2.2.1 0).trans rfl
  go_upto_region 17 with fail
  clear kk
  rcases h0 : nameP eB li0 with n0 | ⟨s, li1⟩
  · have HQ : Aside0 (msgP l = .bad n0) := ⟨by rw [HP.out, HSP.out, bnd_bad h0]⟩
    go_wp2_with (go_at_call 97; refine (name_calls w0 _ g A c b li0 eB HI.out H0.out.2.1).mono ?_; rintro e w5 ⟨hk, hb, hm⟩; simp only [h0, pan] at hm; subst hm; have HE := Aside0.mk (And.intro (H0.out.1.trans hk) hb); clear hk hb)
    refine ⟨rfl, HE.out.1, HE.out.2, ?_⟩
    rw [HQ.out]
    rfl
  · go_upto_region 18 with (go_at_call 97; refine (name_calls w0 _ g A c b li0 eB HI.out H0.out.2.1).mono ?_; rintro e w5 ⟨hk, hb, hm⟩; simp only [h0] at hm; obtain ⟨rfl, hs1⟩ := hm; have HK5 := Aside0.mk (And.intro (H0.out.1.trans hk) (And.intro hb hs1)); have HX := Aside0.mk (kb_blk hk HMB.out.2.1 H0.out.2.2.1); have HXR := Aside0.mk (kb_blk hk HNE.out H0.out.2.2.2); clear hk hb hs1; have kc1 : w5.cell? ⟨mb, 1, none⟩ = some (.string ⟨#[]⟩) := (blk_cell HX.out 1).trans rfl; have kf1 : w5.frozen? ⟨mb, 1, none⟩ = false := blk_frozen HX.out 1)
    obtain ⟨wz0, hwz⟩ : ∃ wz : World, wz = (w5.setCell ⟨mb, 1, none⟩ (.string s)) := ⟨_, rfl⟩
    have hbk := (blk_set HX.out 1 (.string s))
    have H1 : Aside0 (Kb g w wz0 ∧ RS w0 wz0 g A c b li1 ∧ wz0.heap[mb]? = some (.cells #[.int .i64 8, .string s, .int .i64 0, .int .i64 0, .int .i64 0, .int .i64 0, .int .i64 0, .int .i64 0, .int .i64 0, .int .i64 0, .int .i64 0, .int .i64 0, .int .i64 0, .int .i64 0, .string ⟨#[]⟩, .int .i64 0, .int .i64 0, .int .i64 0, .int .i64 0, .slice none 0 0] 33 (0, 0)) ∧ wz0.heap[w.heap.size]? = some (.cells #[.int .i64 0, .string ⟨#[]⟩, .int .i64 0, .int .i64 0, .int .i64 0, .int .i64 0, .int .i64 0, .int .i64 0, .int .i64 0, .int .i64 0, .int .i64 0, .int .i64 0, .int .i64 0, .int .i64 0, .string ⟨#[]⟩, .int .i64 0, .int .i64 0, .int .i64 0, .int .i64 0, .slice none 0 0] 33 (0, 0))) := ⟨by rw [hwz]; exact ⟨(HK5.out.1.setNew HMB.out.1 1 _), (HK5.out.2.2.setOther HMB.out.2.1 HMB.out.2.2.1 1 _), by simpa using hbk, (blk_far HXR.out HMB.out.2.2.2 1 (.string s))⟩⟩
    rw [← hwz]
    clear hwz hbk HK5 HX HXR kc1 kf1
    have kk : wz0.cell? ⟨mb, 0, none⟩ = some (.int .i64 8) := (blk_cell H1.out.2.2.1 0).trans rfl
    go_upto_region 18 with fail
    clear kk
    rcases h1 : pairP 1 1099511627776 0 1099511627776 li1 with n0 | ⟨p, li2⟩
    · have HQ : Aside0 (msgP l = .bad n0) := ⟨by rw [HP.out, HSP.out, bnd_ok h0, bnd_bad h1]⟩
      go_wp2_with (go_at_call 98; refine (cap_calls w0 _ g A c b li1 HI.out H1.out.2.1).mono ?_; rintro e w5 ⟨hk, hb, hm⟩; simp only [h1, pan] at hm; subst hm; have HE := Aside0.mk (And.intro (H1.out.1.trans hk) hb); clear hk hb)
      refine ⟨rfl, HE.out.1, HE.out.2, ?_⟩
      rw [HQ.out]
      rfl
    · go_upto_region 19 with (go_at_call 98; refine (cap_calls w0 _ g A c b li1 HI.out H1.out.2.1).mono ?_; rintro e w5 ⟨hk, hb, hm⟩; simp only [h1] at hm; obtain ⟨rfl, hs1⟩ := hm; have HK5 := Aside0.mk (And.intro (H1.out.1.trans hk) (And.intro hb hs1)); have HX := Aside0.mk (kb_blk hk HMB.out.2.1 H1.out.2.2.1); have HXR := Aside0.mk (kb_blk hk HNE.out H1.out.2.2.2); clear hk hb hs1; have kc2 : w5.cell? ⟨mb, 2, none⟩ = some (.int .i64 0) := (blk_cell HX.out 2).trans rfl; have kf2 : w5.frozen? ⟨mb, 2, none⟩ = false := blk_frozen HX.out 2; have kc3 : w5.cell? ⟨mb, 3, none⟩ = some (.int .i64 0) := (blk_cell HX.out 3).trans rfl; have kf3 : w5.frozen? ⟨mb, 3, none⟩ = false := blk_frozen HX.out 3)
      obtain ⟨wz1, hwz⟩ : ∃ wz : World, wz = ((w5.setCell ⟨mb, 2, none⟩ (.int .i64 p.f0)).setCell ⟨mb, 3, none⟩ (.int .i64 p.f1)) := ⟨_, rfl⟩
      have hbk := (blk_set (blk_set HX.out 2 (.int .i64 p.f0)) 3 (.int .i64 p.f1))
      have H2 : Aside0 (Kb g w wz1 ∧ RS w0 wz1 g A c b li2 ∧ wz1.heap[mb]? = some (.cells #[.int .i64 8, .string s, .int .i64 p.f0, .int .i64 p.f1, .int .i64 0, .int .i64 0, .int .i64 0, .int .i64 0, .int .i64 0, .int .i64 0, .int .i64 0, .int .i64 0, .int .i64 0, .int .i64 0, .string ⟨#[]⟩, .int .i64 0, .int .i64 0, .int .i64 0, .int .i64 0, .slice none 0 0] 33 (0, 0)) ∧ wz1.heap[w.heap.size]? = some (.cells #[.int .i64 0, .string ⟨#[]⟩, .int .i64 0, .int .i64 0, .int .i64 0, .int .i64 0, .int .i64 0, .int .i64 0, .int .i64 0, .int .i64 0, .int .i64 0, .int .i64 0, .int .i64 0, .int .i64 0, .string ⟨#[]⟩, .int .i64 0, .int .i64 0, .int .i64 0, .int .i64 0, .slice none 0 0] 33 (0, 0))) := ⟨by rw [hwz]; exact ⟨((HK5.out.1.setNew HMB.out.1 2 _).setNew HMB.out.1 3 _), ((HK5.out.2.2.setOther HMB.out.2.1 HMB.out.2.2.1 2 _).setOther HMB.out.2.1 HMB.out.2.2.1 3 _), by simpa using hbk, (blk_far (blk_far HXR.out HMB.out.2.2.2 2 (.int .i64 p.f0)) HMB.out.2.2.2 3 (.int .i64 p.f1))⟩⟩
      rw [← hwz]
      clear hwz hbk HK5 HX HXR kc2 kf2 kc3 kf3
      have kk : wz1.cell? ⟨mb, 0, none⟩ = some (.int .i64 8) := (blk_cell H2.out.2.2.1 0).trans rfl
      go_upto_region 29 with fail
      clear kk
      rcases h2 : pairP 0 1099511627776 0 1099511627776 li2 with n0 | ⟨rt, li3⟩
      · have HQ : Aside0 (msgP l = .bad n0) := ⟨by rw [HP.out, HSP.out, bnd_ok h0, bnd_ok h1, bnd_bad h2]⟩
        go_wp2_with (go_at_call 101; refine (rights_calls w0 _ g A c b li2 HI.out H2.out.2.1).mono ?_; rintro e w5 ⟨hk, hb, hm⟩; simp only [h2, pan] at hm; subst hm; have HE := Aside0.mk (And.intro (H2.out.1.trans hk) hb); clear hk hb)
        refine ⟨rfl, HE.out.1, HE.out.2, ?_⟩
        rw [HQ.out]
        rfl
      · go_upto_region 30 with (go_at_call 101; refine (rights_calls w0 _ g A c b li2 HI.out H2.out.2.1).mono ?_; rintro e w5 ⟨hk, hb, hm⟩; simp only [h2] at hm; obtain ⟨rfl, hs1⟩ := hm; have HK5 := Aside0.mk (And.intro (H2.out.1.trans hk) (And.intro hb hs1)); have HX := Aside0.mk (kb_blk hk HMB.out.2.1 H2.out.2.2.1); have HXR := Aside0.mk (kb_blk hk HNE.out H2.out.2.2.2); clear hk hb hs1; have kc8 : w5.cell? ⟨mb, 8, none⟩ = some (.int .i64 0) := (blk_cell HX.out 8).trans rfl; have kf8 : w5.frozen? ⟨mb, 8, none⟩ = false := blk_frozen HX.out 8; have kc9 : w5.cell? ⟨mb, 9, none⟩ = some (.int .i64 0) := (blk_cell HX.out 9).trans rfl; have kf9 : w5.frozen? ⟨mb, 9, none⟩ = false := blk_frozen HX.out 9)
        obtain ⟨wz2, hwz⟩ : ∃ wz : World, wz = ((w5.setCell ⟨mb, 8, none⟩ (.int .i64 rt.f0)).setCell ⟨mb, 9, none⟩ (.int .i64 rt.f1)) := ⟨_, rfl⟩
        have hbk := (blk_set (blk_set HX.out 8 (.int .i64 rt.f0)) 9 (.int .i64 rt.f1))
        have H3 : Aside0 (Kb g w wz2 ∧ RS w0 wz2 g A c b li3 ∧ wz2.heap[mb]? = some (.cells #[.int .i64 8, .string s, .int .i64 p.f0, .int .i64 p.f1, .int .i64 0, .int .i64 0, .int .i64 0, .int .i64 0, .int .i64 rt.f0, .int .i64 rt.f1, .int .i64 0, .int .i64 0, .int .i64 0, .int .i64 0, .string ⟨#[]⟩, .int .i64 0, .int .i64 0, .int .i64 0, .int .i64 0, .slice none 0 0] 33 (0, 0)) ∧ wz2.heap[w.heap.size]? = some (.cells #[.int .i64 0, .string ⟨#[]⟩, .int .i64 0, .int .i64 0, .int .i64 0, .int .i64 0, .int .i64 0, .int .i64 0, .int .i64 0, .int .i64 0, .int .i64 0, .int .i64 0, .int .i64 0, .int .i64 0, .string ⟨#[]⟩, .int .i64 0, .int .i64 0, .int .i64 0, .int .i64 0, .slice none 0 0] 33 (0, 0))) := ⟨by rw [hwz]; exact ⟨((HK5.out.1.setNew HMB.out.1 8 _).setNew HMB.out.1 9 _), ((HK5.out.2.2.setOther HMB.out.2.1 HMB.out.2.2.1 8 _).setOther HMB.out.2.1 HMB.out.2.2.1 9 _), by simpa using hbk, (blk_far (blk_far HXR.out HMB.out.2.2.2 8 (.int .i64 rt.f0)) HMB.out.2.2.2 9 (.int .i64 rt.f1))⟩⟩
        rw [← hwz]
        clear hwz hbk HK5 HX HXR kc8 kf8 kc9 kf9
        have kk : wz2.cell? ⟨mb, 0, none⟩ = some (.int .i64 8) := (blk_cell H3.out.2.2.1 0).trans rfl
        go_upto_region 32 with fail
        clear kk
        have HQ : Aside0 (msgP l = .ok (mOf 8 s p z25 z25 rt 0) li3) := ⟨by rw [HP.out, HSP.out, bnd_ok h0, bnd_ok h1, bnd_ok h2]; rfl⟩
        go_wp2_with ((with_reducible refine gate_dst (N := 87) rfl ?_); refine wpList_load_row rfl 33 (.tmp 3) rfl mb (by rfl) 33 _ (0, 0) _ H3.out.2.2.1 Try.underlying33 rfl inf33 ?_; go_loud (refine wpList_store_row rfl 33 (.tmp 2) (.tmp 87) rfl w.heap.size #[.int .i64 8, .string s, .int .i64 p.f0, .int .i64 p.f1, .int .i64 0, .int .i64 0, .int .i64 0, .int .i64 0, .int .i64 rt.f0, .int .i64 rt.f1, .int .i64 0, .int .i64 0, .int .i64 0, .int .i64 0, .string ⟨#[]⟩, .int .i64 0, .int .i64 0, .int .i64 0, .int .i64 0, .slice none 0 0] (by rfl) (by rfl) 33 _ H3.out.2.2.2 inf33 rfl (by simp [Value.oneCell']) ?_))
        have HBL := setRow_blk H3.out.2.2.2 #[.int .i64 8, .string s, .int .i64 p.f0, .int .i64 p.f1, .int .i64 0, .int .i64 0, .int .i64 0, .int .i64 0, .int .i64 rt.f0, .int .i64 rt.f1, .int .i64 0, .int .i64 0, .int .i64 0, .int .i64 0, .string ⟨#[]⟩, .int .i64 0, .int .i64 0, .int .i64 0, .int .i64 0, .slice none 0 0]
        (try simp only [Exit.inBlock, Exit.then])
        refine bodyPost_ret (v := .agg #[.int .i64 8, .string s, .int .i64 p.f0, .int .i64 p.f1, .int .i64 0, .int .i64 0, .int .i64 0, .int .i64 0, .int .i64 rt.f0, .int .i64 rt.f1, .int .i64 0, .int .i64 0, .int .i64 0, .int .i64 0, .string ⟨#[]⟩, .int .i64 0, .int .i64 0, .int .i64 0, .int .i64 0, .slice none 0 0]) ?_ rfl ?_
        · exact results_cell_row rfl _ _ w.heap.size 33 _ (0, 0) _ (by rfl) HBL hu33 rfl inf33
        refine ⟨H3.out.1.setRowNew (Nat.le_refl _) _, (H3.out.2.1.setRowOther HNE.out HW0.out _).bel, ?_⟩
        rw [HQ.out]
        exact ⟨⟨none, 0, rfl, .inl ⟨rfl, rfl, rfl⟩⟩, H3.out.2.1.setRowOther HNE.out HW0.out _⟩
end Go.Proofs.Ytpgdmmjbhjbbhaa.Rd
end
