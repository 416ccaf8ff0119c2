/- texts that the proof needs, laid together by a program of this session. -/
import Derived.Recover
import Derived.Laws.Pointers
import Derived.Test.YtpgdmmjbhjbbhaaKWireRequests11
section
namespace Go.Proofs.Ytpgdmmjbhjbbhaa.Rd
open Go Go.RowKit Go.Proofs.Ytpgdmmjbhjbbhaa.P Go.Proofs.Ytpgdmmjbhjbbhaa.Sp Go.Proofs.Ytpgdmmjbhjbbhaa.Vd Go.Proofs.Ytpgdmmjbhjbbhaa.En Go.Proofs.Ytpgdmmjbhjbbhaa.Wr Go.Proofs.YtpgdmmjbhjbbhaaW.PrintWords Go.Proofs.YtpgdmmjbhjbbhaaW.PrintLast Go.Proofs.YtpgdmmjbhjbbhaaW.PrintMore
set_option linter.unusedVariables false
set_option linter.unusedSimpArgs false
set_option maxHeartbeats 8000000 in
set_option maxRecDepth 100000 in
theorem msg5_calls (w0 w : World) (g : Nat) (A : Option Addr) (c : Nat) (b l r0 : List Int) (hi_ : In w0 A c b) (h : RS w0 w g A c b l) (hk : numP 1 10 l = .ok 5 r0) :
    Calls Try.prog 61 #[.pointer (some ⟨g, 0, none⟩)] w fun e w' => LeftM w0 w g A c b (msgP l) e w' := by
  have HI := Aside0.mk hi_
  have HS := Aside0.mk h
  have HNE := Aside0.mk (rs_ne h)
  have HW0 := Aside0.mk h.bel.size
  have HP : Aside0 (msgP l = restP 5 r0) := ⟨by unfold msgP; rw [bnd_ok hk]⟩
  have hu33 := Try.underlying33
  have hu23 := Try.underlying23
  have hu25 := Try.underlying25
  have hu27 := Try.underlying27
  have hu29 := Try.underlying29
  obtain ⟨wa, hwa⟩ : ∃ wa, wa = w.alloc (.cells #[.int .i64 0, .string ⟨#[]⟩, .int .i64 0, .int .i64 0, .int .i64 0, .int .i64 0, .int .i64 0, .int .i64 0, .int .i64 0, .int .i64 0, .int .i64 0, .int .i64 0, .int .i64 0, .int .i64 0, .string ⟨#[]⟩, .int .i64 0, .int .i64 0, .int .i64 0, .int .i64 0, .slice none 0 0] 33 (0, 0)) := ⟨_, rfl⟩
  have HWA := Aside0.mk hwa
  have HA : Aside0 (Kb g w wa ∧ RS w0 wa g A c b l ∧ wa.heap[w.heap.size]? = some (.cells #[.int .i64 0, .string ⟨#[]⟩, .int .i64 0, .int .i64 0, .int .i64 0, .int .i64 0, .int .i64 0, .int .i64 0, .int .i64 0, .int .i64 0, .int .i64 0, .int .i64 0, .int .i64 0, .int .i64 0, .string ⟨#[]⟩, .int .i64 0, .int .i64 0, .int .i64 0, .int .i64 0, .slice none 0 0] 33 (0, 0))) := ⟨by rw [hwa]; exact ⟨Kb.below (al_below w _), h.below (al_below w _), heap_alloc_new w _⟩⟩
  clear hi_ h hwa
  go_enter Try.func61, Try.ntmps61
  go_upto_region 1 with fail
  rw [← HWA.out]
  go_upto_region 2 with (first | ((with_reducible refine gate_dst (N := 3) rfl ?_); refine box_event ?hg (N := 3) ?hd (cs := #[.int .i64 0, .string ⟨#[]⟩, .int .i64 0, .int .i64 0, .int .i64 0, .int .i64 0, .int .i64 0, .int .i64 0, .int .i64 0, .int .i64 0, .int .i64 0, .int .i64 0, .int .i64 0, .int .i64 0, .string ⟨#[]⟩, .int .i64 0, .int .i64 0, .int .i64 0, .int .i64 0, .slice none 0 0]) (t := 33) ?hr ?_; (case hd => rfl); (case hg => rfl); (case hr => first | (go_simp; done) | (go_simp; rfl)); intro mb hmb w6 hbox hb6; go_loud (refine wpList_store_row rfl 33 (.tmp 3) (.tmp 6) rfl mb #[.int .i64 5, .string ⟨#[]⟩, .int .i64 0, .int .i64 0, .int .i64 0, .int .i64 0, .int .i64 0, .int .i64 0, .int .i64 0, .int .i64 0, .int .i64 0, .int .i64 0, .int .i64 0, .int .i64 0, .string ⟨#[]⟩, .int .i64 0, .int .i64 0, .int .i64 0, .int .i64 0, .slice none 0 0] (by rfl) (by rfl) 33 #[.int .i64 0, .string ⟨#[]⟩, .int .i64 0, .int .i64 0, .int .i64 0, .int .i64 0, .int .i64 0, .int .i64 0, .int .i64 0, .int .i64 0, .int .i64 0, .int .i64 0, .int .i64 0, .int .i64 0, .string ⟨#[]⟩, .int .i64 0, .int .i64 0, .int .i64 0, .int .i64 0, .slice none 0 0] hbox inf33 rfl (by simp [Value.oneCell']) ?_)) | (go_at_call 80; refine (num_calls w0 _ g A c b l 1 10 (by decide) (by decide) (by decide) HI.out HA.out.2.1).mono ?_; rintro e w5 ⟨hkb, hb, hm⟩; simp only [hk] at hm; obtain ⟨rfl, hs1⟩ := hm; have HK5 := Aside0.mk (And.intro (HA.out.1.trans hkb) (And.intro hb hs1)); have HR5 := Aside0.mk (kb_blk hkb HNE.out HA.out.2.2); clear hkb hb hs1))
  obtain ⟨wm, hwm⟩ : ∃ wm, wm = w6.setRow mb #[.int .i64 5, .string ⟨#[]⟩, .int .i64 0, .int .i64 0, .int .i64 0, .int .i64 0, .int .i64 0, .int .i64 0, .int .i64 0, .int .i64 0, .int .i64 0, .int .i64 0, .int .i64 0, .int .i64 0, .string ⟨#[]⟩, .int .i64 0, .int .i64 0, .int .i64 0, .int .i64 0, .slice none 0 0] := ⟨_, rfl⟩
  have H0 : Aside0 (Kb g w wm ∧ RS w0 wm g A c b r0 ∧ wm.heap[mb]? = some (.cells #[.int .i64 5, .string ⟨#[]⟩, .int .i64 0, .int .i64 0, .int .i64 0, .int .i64 0, .int .i64 0, .int .i64 0, .int .i64 0, .int .i64 0, .int .i64 0, .int .i64 0, .int .i64 0, .int .i64 0, .string ⟨#[]⟩, .int .i64 0, .int .i64 0, .int .i64 0, .int .i64 0, .slice none 0 0] 33 (0, 0)) ∧ wm.heap[w.heap.size]? = some (.cells #[.int .i64 0, .string ⟨#[]⟩, .int .i64 0, .int .i64 0, .int .i64 0, .int .i64 0, .int .i64 0, .int .i64 0, .int .i64 0, .int .i64 0, .int .i64 0, .int .i64 0, .int .i64 0, .int .i64 0, .string ⟨#[]⟩, .int .i64 0, .int .i64 0, .int .i64 0, .int .i64 0, .slice none 0 0] 33 (0, 0))) := ⟨by rw [hwm]; exact ⟨(HK5.out.1.trans (Kb.below hb6)).setRowNew (by rw [hmb]; exact HK5.out.1.size) _, (HK5.out.2.2.below hb6).setRowOther (by rw [hmb]; exact rs_ne HK5.out.2.2) (by rw [hmb]; exact HK5.out.2.1.size) _, setRow_blk hbox _, (setRow_far (by rw [hmb]; exact Nat.ne_of_lt (blk_lt HR5.out)) _).trans (blk_keep hb6 HR5.out)⟩⟩
  have HMB : Aside0 (w.heap.size ≤ mb ∧ mb ≠ g ∧ w0.heap.size ≤ mb ∧ mb ≠ w.heap.size) := ⟨by rw [hmb]; exact ⟨HK5.out.1.size, rs_ne HK5.out.2.2, HK5.out.2.1.size, by have := blk_lt HR5.out; omega⟩⟩
  rw [← hwm]
  clear hwm hmb hbox hb6 HK5 HR5
  obtain ⟨li0, hli⟩ : ∃ li0, li0 = r0 := ⟨_, rfl⟩
  rw [← hli] at H0 HP
  clear hli hk
  have HSP : Aside0 (restP 5 li0 = (bnd (nameP eB) fun s => bnd (pairP 1 1099511627776 0 1099511627776) fun p => bnd (pairP 1 1099511627776 0 15) fun ep => bnd (pairP 0 1099511627776 0 1099511627776) fun rt => ret (mOf 5 s p ep z25 rt 0)) li0) := ⟨by unfold restP; rw [if_neg (by decide), if_neg (by decide), if_neg (by decide)]; unfold ofP optP; simp only [hasEp, hasRt, Int.reduceLE, Int.reduceEq, and_self, or_self, or_true, true_or, and_true, true_and, or_false, false_or, and_false, false_and, if_true, if_false, ite_true, ite_false, bnd_ret, reduceIte]; rfl⟩
  have kk : wm.cell? ⟨mb, 0, none⟩ = some (.int .i64 5) := (blk_cell H0.out.2.2.1 0).trans rfl
  go_upto_region 17 with fail
  clear kk
  rcases h0 : nameP eB li0 with n0 | ⟨s, li1⟩
  · have HQ : Aside0 (msgP l = .bad n0) := ⟨by rw [HP.out, HSP.out, bnd_bad h0]⟩
    go_wp2_with (go_at_call 97; refine (name_calls w0 _ g A c b li0 eB HI.out H0.out.2.1).mono ?_; rintro e w5 ⟨hk, hb, hm⟩; simp only [h0, pan] at hm; subst hm; have HE := Aside0.mk (And.intro (H0.out.1.trans hk) hb); clear hk hb)
    refine ⟨rfl, HE.out.1, HE.out.2, ?_⟩
    rw [HQ.out]
    rfl
  · go_upto_region 18 with (go_at_call 97; refine (name_calls w0 _ g A c b li0 eB HI.out H0.out.2.1).mono ?_; rintro e w5 ⟨hk, hb, hm⟩; simp only [h0] at hm; obtain ⟨rfl, hs1⟩ := hm; have HK5 := Aside0.mk (And.intro (H0.out.1.trans hk) (And.intro hb hs1)); have HX := Aside0.mk (kb_blk hk HMB.out.2.1 H0.out.2.2.1); have HXR := Aside0.mk (kb_blk hk HNE.out H0.out.2.2.2); clear hk hb hs1; have kc1 : w5.cell? ⟨mb, 1, none⟩ = some (.string ⟨#[]⟩) := (blk_cell HX.out 1).trans rfl; have kf1 : w5.frozen? ⟨mb, 1, none⟩ = false := blk_frozen HX.out 1)
    obtain ⟨wz0, hwz⟩ : ∃ wz : World, wz = (w5.setCell ⟨mb, 1, none⟩ (.string s)) := ⟨_, rfl⟩
    have hbk := (blk_set HX.out 1 (.string s))
    have H1 : Aside0 (Kb g w wz0 ∧ RS w0 wz0 g A c b li1 ∧ wz0.heap[mb]? = some (.cells #[.int .i64 5, .string s, .int .i64 0, .int .i64 0, .int .i64 0, .int .i64 0, .int .i64 0, .int .i64 0, .int .i64 0, .int .i64 0, .int .i64 0, .int .i64 0, .int .i64 0, .int .i64 0, .string ⟨#[]⟩, .int .i64 0, .int .i64 0, .int .i64 0, .int .i64 0, .slice none 0 0] 33 (0, 0)) ∧ wz0.heap[w.heap.size]? = some (.cells #[.int .i64 0, .string ⟨#[]⟩, .int .i64 0, .int .i64 0, .int .i64 0, .int .i64 0, .int .i64 0, .int .i64 0, .int .i64 0, .int .i64 0, .int .i64 0, .int .i64 0, .int .i64 0, .int .i64 0, .string ⟨#[]⟩, .int .i64 0, .int .i64 0, .int .i64 0, .int .i64 0, .slice none 0 0] 33 (0, 0))) := ⟨by rw [hwz]; exact ⟨(HK5.out.1.setNew HMB.out.1 1 _), (HK5.out.2.2.setOther HMB.out.2.1 HMB.out.2.2.1 1 _), by simpa using hbk, (blk_far HXR.out HMB.out.2.2.2 1 (.string s))⟩⟩
    rw [← hwz]
    clear hwz hbk HK5 HX HXR kc1 kf1
    have kk : wz0.cell? ⟨mb, 0, none⟩ = some (.int .i64 5) := (blk_cell H1.out.2.2.1 0).trans rfl
    go_upto_region 18 with fail
    clear kk
    rcases h1 : pairP 1 1099511627776 0 1099511627776 li1 with n0 | ⟨p, li2⟩
    · have HQ : Aside0 (msgP l = .bad n0) := ⟨by rw [HP.out, HSP.out, bnd_ok h0, bnd_bad h1]⟩
      go_wp2_with (go_at_call 98; refine (cap_calls w0 _ g A c b li1 HI.out H1.out.2.1).mono ?_; rintro e w5 ⟨hk, hb, hm⟩; simp only [h1, pan] at hm; subst hm; have HE := Aside0.mk (And.intro (H1.out.1.trans hk) hb); clear hk hb)
      refine ⟨rfl, HE.out.1, HE.out.2, ?_⟩
      rw [HQ.out]
      rfl
    · go_upto_region 19 with (go_at_call 98; refine (cap_calls w0 _ g A c b li1 HI.out H1.out.2.1).mono ?_; rintro e w5 ⟨hk, hb, hm⟩; simp only [h1] at hm; obtain ⟨rfl, hs1⟩ := hm; have HK5 := Aside0.mk (And.intro (H1.out.1.trans hk) (And.intro hb hs1)); have HX := Aside0.mk (kb_blk hk HMB.out.2.1 H1.out.2.2.1); have HXR := Aside0.mk (kb_blk hk HNE.out H1.out.2.2.2); clear hk hb hs1; have kc2 : w5.cell? ⟨mb, 2, none⟩ = some (.int .i64 0) := (blk_cell HX.out 2).trans rfl; have kf2 : w5.frozen? ⟨mb, 2, none⟩ = false := blk_frozen HX.out 2; have kc3 : w5.cell? ⟨mb, 3, none⟩ = some (.int .i64 0) := (blk_cell HX.out 3).trans rfl; have kf3 : w5.frozen? ⟨mb, 3, none⟩ = false := blk_frozen HX.out 3)
      obtain ⟨wz1, hwz⟩ : ∃ wz : World, wz = ((w5.setCell ⟨mb, 2, none⟩ (.int .i64 p.f0)).setCell ⟨mb, 3, none⟩ (.int .i64 p.f1)) := ⟨_, rfl⟩
      have hbk := (blk_set (blk_set HX.out 2 (.int .i64 p.f0)) 3 (.int .i64 p.f1))
      have H2 : Aside0 (Kb g w wz1 ∧ RS w0 wz1 g A c b li2 ∧ wz1.heap[mb]? = some (.cells #[.int .i64 5, .string s, .int .i64 p.f0, .int .i64 p.f1, .int .i64 0, .int .i64 0, .int .i64 0, .int .i64 0, .int .i64 0, .int .i64 0, .int .i64 0, .int .i64 0, .int .i64 0, .int .i64 0, .string ⟨#[]⟩, .int .i64 0, .int .i64 0, .int .i64 0, .int .i64 0, .slice none 0 0] 33 (0, 0)) ∧ wz1.heap[w.heap.size]? = some (.cells #[.int .i64 0, .string ⟨#[]⟩, .int .i64 0, .int .i64 0, .int .i64 0, .int .i64 0, .int .i64 0, .int .i64 0, .int .i64 0, .int .i64 0, .int .i64 0, .int .i64 0, .int .i64 0, .int .i64 0, .string ⟨#[]⟩, .int .i64 0, .int .i64 0, .int .i64 0, .int .i64 0, .slice none 0 0] 33 (0, 0))) := ⟨by rw [hwz]; exact ⟨((HK5.out.1.setNew HMB.out.1 2 _).setNew HMB.out.1 3 _), ((HK5.out.2.2.setOther HMB.out.2.1 HMB.out.2.2.1 2 _).setOther HMB.out.2.1 HMB.out.2.2.1 3 _), by simpa using hbk, (blk_far (blk_far HXR.out HMB.out.2.2.2 2 (.int .i64 p.f0)) HMB.out.2.2.2 3 (.int .i64 p.f1))⟩⟩
      rw [← hwz]
      clear hwz hbk HK5 HX HXR kc2 kf2 kc3 kf3
      have kk : wz1.cell? ⟨mb, 0, none⟩ = some (.int .i64 5) := (blk_cell H2.out.2.2.1 0).trans rfl
      go_upto_region 28 with fail
      clear kk
      rcases h2 : pairP 1 1099511627776 0 15 li2 with n0 | ⟨ep, li3⟩
      · have HQ : Aside0 (msgP l = .bad n0) := ⟨by rw [HP.out, HSP.out, bnd_ok h0, bnd_ok h1, bnd_bad h2]⟩
        go_wp2_with (go_at_call 100; refine (epoch_calls w0 _ g A c b li2 HI.out H2.out.2.1).mono ?_; rintro e w5 ⟨hk, hb, hm⟩; simp only [h2, pan] at hm; subst hm; have HE := Aside0.mk (And.intro (H2.out.1.trans hk) hb); clear hk hb)
        refine ⟨rfl, HE.out.1, HE.out.2, ?_⟩
        rw [HQ.out]
        rfl
      · go_upto_region 29 with (go_at_call 100; refine (epoch_calls w0 _ g A c b li2 HI.out H2.out.2.1).mono ?_; rintro e w5 ⟨hk, hb, hm⟩; simp only [h2] at hm; obtain ⟨rfl, hs1⟩ := hm; have HK5 := Aside0.mk (And.intro (H2.out.1.trans hk) (And.intro hb hs1)); have HX := Aside0.mk (kb_blk hk HMB.out.2.1 H2.out.2.2.1); have HXR := Aside0.mk (kb_blk hk HNE.out H2.out.2.2.2); clear hk hb hs1; have kc4 : w5.cell? ⟨mb, 4, none⟩ = some (.int .i64 0) := (blk_cell HX.out 4).trans rfl; have kf4 : w5.frozen? ⟨mb, 4, none⟩ = false := blk_frozen HX.out 4; have kc5 : w5.cell? ⟨mb, 5, none⟩ = some (.int .i64 0) := (blk_cell HX.out 5).trans rfl; have kf5 : w5.frozen? ⟨mb, 5, none⟩ = false := blk_frozen HX.out 5)
        obtain ⟨wz2, hwz⟩ : ∃ wz : World, wz = ((w5.setCell ⟨mb, 4, none⟩ (.int .i64 ep.f0)).setCell ⟨mb, 5, none⟩ (.int .i64 ep.f1)) := ⟨_, rfl⟩
        have hbk := (blk_set (blk_set HX.out 4 (.int .i64 ep.f0)) 5 (.int .i64 ep.f1))
        have H3 : Aside0 (Kb g w wz2 ∧ RS w0 wz2 g A c b li3 ∧ wz2.heap[mb]? = some (.cells #[.int .i64 5, .string s, .int .i64 p.f0, .int .i64 p.f1, .int .i64 ep.f0, .int .i64 ep.f1, .int .i64 0, .int .i64 0, .int .i64 0, .int .i64 0, .int .i64 0, .int .i64 0, .int .i64 0, .int .i64 0, .string ⟨#[]⟩, .int .i64 0, .int .i64 0, .int .i64 0, .int .i64 0, .slice none 0 0] 33 (0, 0)) ∧ wz2.heap[w.heap.size]? = some (.cells #[.int .i64 0, .string ⟨#[]⟩, .int .i64 0, .int .i64 0, .int .i64 0, .int .i64 0, .int .i64 0, .int .i64 0, .int .i64 0, .int .i64 0, .int .i64 0, .int .i64 0, .int .i64 0, .int .i64 0, .string ⟨#[]⟩, .int .i64 0, .int .i64 0, .int .i64 0, .int .i64 0, .slice none 0 0] 33 (0, 0))) := ⟨by rw [hwz]; exact ⟨((HK5.out.1.setNew HMB.out.1 4 _).setNew HMB.out.1 5 _), ((HK5.out.2.2.setOther HMB.out.2.1 HMB.out.2.2.1 4 _).setOther HMB.out.2.1 HMB.out.2.2.1 5 _), by simpa using hbk, (blk_far (blk_far HXR.out HMB.out.2.2.2 4 (.int .i64 ep.f0)) HMB.out.2.2.2 5 (.int .i64 ep.f1))⟩⟩
        rw [← hwz]
        clear hwz hbk HK5 HX HXR kc4 kf4 kc5 kf5
        have kk : wz2.cell? ⟨mb, 0, none⟩ = some (.int .i64 5) := (blk_cell H3.out.2.2.1 0).trans rfl
        go_upto_region 29 with fail
        clear kk
        rcases h3 : pairP 0 1099511627776 0 1099511627776 li3 with n0 | ⟨rt, li4⟩
        · have HQ : Aside0 (msgP l = .bad n0) := ⟨by rw [HP.out, HSP.out, bnd_ok h0, bnd_ok h1, bnd_ok h2, bnd_bad h3]⟩
          go_wp2_with (go_at_call 101; refine (rights_calls w0 _ g A c b li3 HI.out H3.out.2.1).mono ?_; rintro e w5 ⟨hk, hb, hm⟩; simp only [h3, pan] at hm; subst hm; have HE := Aside0.mk (And.intro (H3.out.1.trans hk) hb); clear hk hb)
          refine ⟨rfl, HE.out.1, HE.out.2, ?_⟩
          rw [HQ.out]
          rfl
        · go_upto_region 30 with (go_at_call 101; refine (rights_calls w0 _ g A c b li3 HI.out H3.out.2.1).mono ?_; rintro e w5 ⟨hk, hb, hm⟩; simp only [h3] at hm; obtain ⟨rfl, hs1⟩ := hm; have HK5 := Aside0.mk (And.intro (H3.out.1.trans hk) (And.intro hb hs1)); have HX := Aside0.mk (kb_blk hk HMB.out.2.1 H3.out.2.2.1); have HXR := Aside0.mk (kb_blk hk HNE.out H3.out.2.2.2); clear hk hb hs1; have kc8 : w5.cell? ⟨mb, 8, none⟩ = some (.int .i64 0) := (blk_cell HX.out 8).trans rfl; have kf8 : w5.frozen? ⟨mb, 8, none⟩ = false := blk_frozen HX.out 8; have kc9 : w5.cell? ⟨mb, 9, none⟩ = some (.int .i64 0) := (blk_cell HX.out 9).trans rfl; have kf9 : w5.frozen? ⟨mb, 9, none⟩ = false := blk_frozen HX.out 9)
          obtain ⟨wz3, hwz⟩ : ∃ wz : World, wz = ((w5.setCell ⟨mb, 8, none⟩ (.int .i64 rt.f0)).setCell ⟨mb, 9, none⟩ (.int .i64 rt.f1)) := ⟨_, rfl⟩
          have hbk := (blk_set (blk_set HX.out 8 (.int .i64 rt.f0)) 9 (.int .i64 rt.f1))
          have H4 : Aside0 (Kb g w wz3 ∧ RS w0 wz3 g A c b li4 ∧ wz3.heap[mb]? = some (.cells #[.int .i64 5, .string s, .int .i64 p.f0, .int .i64 p.f1, .int .i64 ep.f0, .int .i64 ep.f1, .int .i64 0, .int .i64 0, .int .i64 rt.f0, .int .i64 rt.f1, .int .i64 0, .int .i64 0, .int .i64 0, .int .i64 0, .string ⟨#[]⟩, .int .i64 0, .int .i64 0, .int .i64 0, .int .i64 0, .slice none 0 0] 33 (0, 0)) ∧ wz3.heap[w.heap.size]? = some (.cells #[.int .i64 0, .string ⟨#[]⟩, .int .i64 0, .int .i64 0, .int .i64 0, .int .i64 0, .int .i64 0, .int .i64 0, .int .i64 0, .int .i64 0, .int .i64 0, .int .i64 0, .int .i64 0, .int .i64 0, .string ⟨#[]⟩, .int .i64 0, .int .i64 0, .int .i64 0, .int .i64 0, .slice none 0 0] 33 (0, 0))) := ⟨by rw [hwz]; exact ⟨((HK5.out.1.setNew HMB.out.1 8 _).setNew HMB.out.1 9 _), ((HK5.out.2.2.setOther HMB.out.2.1 HMB.out.2.2.1 8 _).setOther HMB.out.2.1 HMB.out.2.2.1 9 _), by simpa using hbk, (blk_far (blk_far HXR.out HMB.out.2.2.2 8 (.int .i64 rt.f0)) HMB.out.2.2.2 9 (.int .i64 rt.f1))⟩⟩
          rw [← hwz]
          clear hwz hbk HK5 HX HXR kc8 kf8 kc9 kf9
          have kk : wz3.cell? ⟨mb, 0, none⟩ = some (.int .i64 5) := (blk_cell H4.out.2.2.1 0).trans rfl
          go_upto_region 32 with fail
          clear kk
          have HQ : Aside0 (msgP l = .ok (mOf 5 s p ep z25 rt 0) li4) := ⟨by rw [HP.out, HSP.out, bnd_ok h0, bnd_ok h1, bnd_ok h2, bnd_ok h3]; rfl⟩
          go_wp2_with ((with_reducible refine gate_dst (N := 87) rfl ?_); refine wpList_load_row rfl 33 (.tmp 3) rfl mb (by rfl) 33 _ (0, 0) _ H4.out.2.2.1 Try.underlying33 rfl inf33 ?_; go_loud (refine wpList_store_row rfl 33 (.tmp 2) (.tmp 87) rfl w.heap.size #[.int .i64 5, .string s, .int .i64 p.f0, .int .i64 p.f1, .int .i64 ep.f0, .int .i64 ep.f1, .int .i64 0, .int .i64 0, .int .i64 rt.f0, .int .i64 rt.f1, .int .i64 0, .int .i64 0, .int .i64 0, .int .i64 0, .string ⟨#[]⟩, .int .i64 0, .int .i64 0, .int .i64 0, .int .i64 0, .slice none 0 0] (by rfl) (by rfl) 33 _ H4.out.2.2.2 inf33 rfl (by simp [Value.oneCell']) ?_))
          have HBL := setRow_blk H4.out.2.2.2 #[.int .i64 5, .string s, .int .i64 p.f0, .int .i64 p.f1, .int .i64 ep.f0, .int .i64 ep.f1, .int .i64 0, .int .i64 0, .int .i64 rt.f0, .int .i64 rt.f1, .int .i64 0, .int .i64 0, .int .i64 0, .int .i64 0, .string ⟨#[]⟩, .int .i64 0, .int .i64 0, .int .i64 0, .int .i64 0, .slice none 0 0]
          (try simp only [Exit.inBlock, Exit.then])
          refine bodyPost_ret (v := .agg #[.int .i64 5, .string s, .int .i64 p.f0, .int .i64 p.f1, .int .i64 ep.f0, .int .i64 ep.f1, .int .i64 0, .int .i64 0, .int .i64 rt.f0, .int .i64 rt.f1, .int .i64 0, .int .i64 0, .int .i64 0, .int .i64 0, .string ⟨#[]⟩, .int .i64 0, .int .i64 0, .int .i64 0, .int .i64 0, .slice none 0 0]) ?_ rfl ?_
          · exact results_cell_row rfl _ _ w.heap.size 33 _ (0, 0) _ (by rfl) HBL hu33 rfl inf33
          refine ⟨H4.out.1.setRowNew (Nat.le_refl _) _, (H4.out.2.1.setRowOther HNE.out HW0.out _).bel, ?_⟩
          rw [HQ.out]
          exact ⟨⟨none, 0, rfl, .inl ⟨rfl, rfl, rfl⟩⟩, H4.out.2.1.setRowOther HNE.out HW0.out _⟩
set_option maxHeartbeats 8000000 in
set_option maxRecDepth 100000 in
theorem msg6_calls (w0 w : World) (g : Nat) (A : Option Addr) (c : Nat) (b l r0 : List Int) (hi_ : In w0 A c b) (h : RS w0 w g A c b l) (hk : numP 1 10 l = .ok 6 r0) :
    Calls Try.prog 61 #[.pointer (some ⟨g, 0, none⟩)] w fun e w' => LeftM w0 w g A c b (msgP l) e w' := by
  have HI := Aside0.mk hi_
  have HS := Aside0.mk h
  have HNE := Aside0.mk (rs_ne h)
  have HW0 := Aside0.mk h.bel.size
  have HP : Aside0 (msgP l = restP 6 r0) := ⟨by unfold msgP; rw [bnd_ok hk]⟩
  have hu33 := Try.underlying33
  have hu23 := Try.underlying23
  have hu25 := Try.underlying25
  have hu27 := Try.underlying27
  have hu29 := Try.underlying29
  obtain ⟨wa, hwa⟩ : ∃ wa, wa = w.alloc (.cells #[.int .i64 0, .string ⟨#[]⟩, .int .i64 0, .int .i64 0, .int .i64 0, .int .i64 0, .int .i64 0, .int .i64 0, .int .i64 0, .int .i64 0, .int .i64 0, .int .i64 0, .int .i64 0, .int .i64 0, .string ⟨#[]⟩, .int .i64 0, .int .i64 0, .int .i64 0, .int .i64 0, .slice none 0 0] 33 (0, 0)) := ⟨_, rfl⟩
  have HWA := Aside0.mk hwa
  have HA : Aside0 (Kb g w wa ∧ RS w0 wa g A c b l ∧ wa.heap[w.heap.size]? = some (.cells #[.int .i64 0, .string ⟨#[]⟩, .int .i64 0, .int .i64 0, .int .i64 0, .int .i64 0, .int .i64 0, .int .i64 0, .int .i64 0, .int .i64 0, .int .i64 0, .int .i64 0, .int .i64 0, .int .i64 0, .string ⟨#[]⟩, .int .i64 0, .int .i64 0, .int .i64 0, .int .i64 0, .slice none 0 0] 33 (0, 0))) := ⟨by rw [hwa]; exact ⟨Kb.below (al_below w _), h.below (al_below w _), heap_alloc_new w _⟩⟩
  clear hi_ h hwa
  go_enter Try.func61, Try.ntmps61
  go_upto_region 1 with fail
  rw [← HWA.out]
  go_upto_region 2 with (first | ((with_reducible refine gate_dst (N := 3) rfl ?_); refine box_event ?hg (N := 3) ?hd (cs := #[.int .i64 0, .string ⟨#[]⟩, .int .i64 0, .int .i64 0, .int .i64 0, .int .i64 0, .int .i64 0, .int .i64 0, .int .i64 0, .int .i64 0, .int .i64 0, .int .i64 0, .int .i64 0, .int .i64 0, .string ⟨#[]⟩, .int .i64 0, .int .i64 0, .int .i64 0, .int .i64 0, .slice none 0 0]) (t := 33) ?hr ?_; (case hd => rfl); (case hg => rfl); (case hr => first | (go_simp; done) | (go_simp; rfl)); intro mb hmb w6 hbox hb6; go_loud (refine wpList_store_row rfl 33 (.tmp 3) (.tmp 6) rfl mb #[.int .i64 6, .string ⟨#[]⟩, .int .i64 0, .int .i64 0, .int .i64 0, .int .i64 0, .int .i64 0, .int .i64 0, .int .i64 0, .int .i64 0, .int .i64 0, .int .i64 0, .int .i64 0, .int .i64 0, .string ⟨#[]⟩, .int .i64 0, .int .i64 0, .int .i64 0, .int .i64 0, .slice none 0 0] (by rfl) (by rfl) 33 #[.int .i64 0, .string ⟨#[]⟩, .int .i64 0, .int .i64 0, .int .i64 0, .int .i64 0, .int .i64 0, .int .i64 0, .int .i64 0, .int .i64 0, .int .i64 0, .int .i64 0, .int .i64 0, .int .i64 0, .string ⟨#[]⟩, .int .i64 0, .int .i64 0, .int .i64 0, .int .i64 0, .slice none 0 0] hbox inf33 rfl (by simp [Value.oneCell']) ?_)) | (go_at_call 80; refine (num_calls w0 _ g A c b l 1 10 (by decide) (by decide) (by decide) HI.out HA.out.2.1).mono ?_; rintro e w5 ⟨hkb, hb, hm⟩; simp only [hk] at hm; obtain ⟨rfl, hs1⟩ := hm; have HK5 := Aside0.mk (And.intro (HA.out.1.trans hkb) (And.intro hb hs1)); have HR5 := Aside0.mk (kb_blk hkb HNE.out HA.out.2.2); clear hkb hb hs1))
  obtain ⟨wm, hwm⟩ : ∃ wm, wm = w6.setRow mb #[.int .i64 6, .string ⟨#[]⟩, .int .i64 0, .int .i64 0, .int .i64 0, .int .i64 0, .int .i64 0, .int .i64 0, .int .i64 0, .int .i64 0, .int .i64 0, .int .i64 0, .int .i64 0, .int .i64 0, .string ⟨#[]⟩, .int .i64 0, .int .i64 0, .int .i64 0, .int .i64 0, .slice none 0 0] := ⟨_, rfl⟩
  have H0 : Aside0 (Kb g w wm ∧ RS w0 wm g A c b r0 ∧ wm.heap[mb]? = some (.cells #[.int .i64 6, .string ⟨#[]⟩, .int .i64 0, .int .i64 0, .int .i64 0, .int .i64 0, .int .i64 0, .int .i64 0, .int .i64 0, .int .i64 0, .int .i64 0, .int .i64 0, .int .i64 0, .int .i64 0, .string ⟨#[]⟩, .int .i64 0, .int .i64 0, .int .i64 0, .int .i64 0, .slice none 0 0] 33 (0, 0)) ∧ wm.heap[w.heap.size]? = some (.cells #[.int .i64 0, .string ⟨#[]⟩, .int .i64 0, .int .i64 0, .int .i64 0, .int .i64 0, .int .i64 0, .int .i64 0, .int .i64 0, .int .i64 0, .int .i64 0, .int .i64 0, .int .i64 0, .int .i64 0, .string ⟨#[]⟩, .int .i64 0, .int .i64 0, .int .i64 0, .int .i64 0, .slice none 0 0] 33 (0, 0))) := ⟨by rw [hwm]; exact ⟨(HK5.out.1.trans (Kb.below hb6)).setRowNew (by rw [hmb]; exact HK5.out.1.size) _, (HK5.out.2.2.below hb6).setRowOther (by rw [hmb]; exact rs_ne HK5.out.2.2) (by rw [hmb]; exact HK5.out.2.1.size) _, setRow_blk hbox _, (setRow_far (by rw [hmb]; exact Nat.ne_of_lt (blk_lt HR5.out)) _).trans (blk_keep hb6 HR5.out)⟩⟩
  have HMB : Aside0 (w.heap.size ≤ mb ∧ mb ≠ g ∧ w0.heap.size ≤ mb ∧ mb ≠ w.heap.size) := ⟨by rw [hmb]; exact ⟨HK5.out.1.size, rs_ne HK5.out.2.2, HK5.out.2.1.size, by have := blk_lt HR5.out; omega⟩⟩
  rw [← hwm]
  clear hwm hmb hbox hb6 HK5 HR5
  obtain ⟨li0, hli⟩ : ∃ li0, li0 = r0 := ⟨_, rfl⟩
  rw [← hli] at H0 HP
  clear hli hk
  have HSP : Aside0 (restP 6 li0 = (bnd (nameP eB) fun s => bnd (pairP 1 1099511627776 0 1099511627776) fun p => bnd (pairP 1 1099511627776 0 15) fun ep => bnd (pairP 0 1099511627776 0 1099511627776) fun rt => ret (mOf 6 s p ep z25 rt 0)) li0) := ⟨by unfold restP; rw [if_neg (by decide), if_neg (by decide), if_neg (by decide)]; unfold ofP optP; simp only [hasEp, hasRt, Int.reduceLE, Int.reduceEq, and_self, or_self, or_true, true_or, and_true, true_and, or_false, false_or, and_false, false_and, if_true, if_false, ite_true, ite_false, bnd_ret, reduceIte]; rfl⟩
  have kk : wm.cell? ⟨mb, 0, none⟩ = some (.int .i64 6) := (blk_cell H0.out.2.2.1 0).trans rfl
  go_upto_region 17 with fail
  clear kk
  rcases h0 : nameP eB li0 with n0 | ⟨s, li1⟩
  · have HQ : Aside0 (msgP l = .bad n0) := ⟨by rw [HP.out, HSP.out, bnd_bad h0]⟩
    go_wp2_with (go_at_call 97; refine (name_calls w0 _ g A c b li0 eB HI.out H0.out.2.1).mono ?_; rintro e w5 ⟨hk, hb, hm⟩; simp only [h0, pan] at hm; subst hm; have HE := Aside0.mk (And.intro (H0.out.1.trans hk) hb); clear hk hb)
    refine ⟨rfl, HE.out.1, HE.out.2, ?_⟩
    rw [HQ.out]
    rfl
  · go_upto_region 18 with (go_at_call 97; refine (name_calls w0 _ g A c b li0 eB HI.out H0.out.2.1).mono ?_; rintro e w5 ⟨hk, hb, hm⟩; simp only [h0] at hm; obtain ⟨rfl, hs1⟩ := hm; have HK5 := Aside0.mk (And.intro (H0.out.1.trans hk) (And.intro hb hs1)); have HX := Aside0.mk (kb_blk hk HMB.out.2.1 H0.out.2.2.1); have HXR := Aside0.mk (kb_blk hk HNE.out H0.out.2.2.2); clear hk hb hs1; have kc1 : w5.cell? ⟨mb, 1, none⟩ = some (.string ⟨#[]⟩) := (blk_cell HX.out 1).trans rfl; have kf1 : w5.frozen? ⟨mb, 1, none⟩ = false := blk_frozen HX.out 1)
    obtain ⟨wz0, hwz⟩ : ∃ wz : World, wz = (w5.setCell ⟨mb, 1, none⟩ (.string s)) := ⟨_, rfl⟩
    have hbk := (blk_set HX.out 1 (.string s))
    have H1 : Aside0 (Kb g w wz0 ∧ RS w0 wz0 g A c b li1 ∧ wz0.heap[mb]? = some (.cells #[.int .i64 6, .string s, .int .i64 0, .int .i64 0, .int .i64 0, .int .i64 0, .int .i64 0, .int .i64 0, .int .i64 0, .int .i64 0, .int .i64 0, .int .i64 0, .int .i64 0, .int .i64 0, .string ⟨#[]⟩, .int .i64 0, .int .i64 0, .int .i64 0, .int .i64 0, .slice none 0 0] 33 (0, 0)) ∧ wz0.heap[w.heap.size]? = some (.cells #[.int .i64 0, .string ⟨#[]⟩, .int .i64 0, .int .i64 0, .int .i64 0, .int .i64 0, .int .i64 0, .int .i64 0, .int .i64 0, .int .i64 0, .int .i64 0, .int .i64 0, .int .i64 0, .int .i64 0, .string ⟨#[]⟩, .int .i64 0, .int .i64 0, .int .i64 0, .int .i64 0, .slice none 0 0] 33 (0, 0))) := ⟨by rw [hwz]; exact ⟨(HK5.out.1.setNew HMB.out.1 1 _), (HK5.out.2.2.setOther HMB.out.2.1 HMB.out.2.2.1 1 _), by simpa using hbk, (blk_far HXR.out HMB.out.2.2.2 1 (.string s))⟩⟩
    rw [← hwz]
    clear hwz hbk HK5 HX HXR kc1 kf1
    have kk : wz0.cell? ⟨mb, 0, none⟩ = some (.int .i64 6) := (blk_cell H1.out.2.2.1 0).trans rfl
    go_upto_region 18 with fail
    clear kk
    rcases h1 : pairP 1 1099511627776 0 1099511627776 li1 with n0 | ⟨p, li2⟩
    · have HQ : Aside0 (msgP l = .bad n0) := ⟨by rw [HP.out, HSP.out, bnd_ok h0, bnd_bad h1]⟩
      go_wp2_with (go_at_call 98; refine (cap_calls w0 _ g A c b li1 HI.out H1.out.2.1).mono ?_; rintro e w5 ⟨hk, hb, hm⟩; simp only [h1, pan] at hm; subst hm; have HE := Aside0.mk (And.intro (H1.out.1.trans hk) hb); clear hk hb)
      refine ⟨rfl, HE.out.1, HE.out.2, ?_⟩
      rw [HQ.out]
      rfl
    · go_upto_region 19 with (go_at_call 98; refine (cap_calls w0 _ g A c b li1 HI.out H1.out.2.1).mono ?_; rintro e w5 ⟨hk, hb, hm⟩; simp only [h1] at hm; obtain ⟨rfl, hs1⟩ := hm; have HK5 := Aside0.mk (And.intro (H1.out.1.trans hk) (And.intro hb hs1)); have HX := Aside0.mk (kb_blk hk HMB.out.2.1 H1.out.2.2.1); have HXR := Aside0.mk (kb_blk hk HNE.out H1.out.2.2.2); clear hk hb hs1; have kc2 : w5.cell? ⟨mb, 2, none⟩ = some (.int .i64 0) := (blk_cell HX.out 2).trans rfl; have kf2 : w5.frozen? ⟨mb, 2, none⟩ = false := blk_frozen HX.out 2; have kc3 : w5.cell? ⟨mb, 3, none⟩ = some (.int .i64 0) := (blk_cell HX.out 3).trans rfl; have kf3 : w5.frozen? ⟨mb, 3, none⟩ = false := blk_frozen HX.out 3)
      obtain ⟨wz1, hwz⟩ : ∃ wz : World, wz = ((w5.setCell ⟨mb, 2, none⟩ (.int .i64 p.f0)).setCell ⟨mb, 3, none⟩ (.int .i64 p.f1)) := ⟨_, rfl⟩
      have hbk := (blk_set (blk_set HX.out 2 (.int .i64 p.f0)) 3 (.int .i64 p.f1))
      have H2 : Aside0 (Kb g w wz1 ∧ RS w0 wz1 g A c b li2 ∧ wz1.heap[mb]? = some (.cells #[.int .i64 6, .string s, .int .i64 p.f0, .int .i64 p.f1, .int .i64 0, .int .i64 0, .int .i64 0, .int .i64 0, .int .i64 0, .int .i64 0, .int .i64 0, .int .i64 0, .int .i64 0, .int .i64 0, .string ⟨#[]⟩, .int .i64 0, .int .i64 0, .int .i64 0, .int .i64 0, .slice none 0 0] 33 (0, 0)) ∧ wz1.heap[w.heap.size]? = some (.cells #[.int .i64 0, .string ⟨#[]⟩, .int .i64 0, .int .i64 0, .int .i64 0, .int .i64 0, .int .i64 0, .int .i64 0, .int .i64 0, .int .i64 0, .int .i64 0, .int .i64 0, .int .i64 0, .int .i64 0, .string ⟨#[]⟩, .int .i64 0, .int .i64 0, .int .i64 0, .int .i64 0, .slice none 0 0] 33 (0, 0))) := ⟨by rw [hwz]; exact ⟨((HK5.out.1.setNew HMB.out.1 2 _).setNew HMB.out.1 3 _), ((HK5.out.2.2.setOther HMB.out.2.1 HMB.out.2.2.1 2 _).setOther HMB.out.2.1 HMB.out.2.2.1 3 _), by simpa using hbk, (blk_far (blk_far HXR.out HMB.out.2.2.2 2 (.int .i64 p.f0)) HMB.out.2.2.2 3 (.int .i64 p.f1))⟩⟩
      rw [← hwz]
      clear hwz hbk HK5 HX HXR kc2 kf2 kc3 kf3
      have kk : wz1.cell? ⟨mb, 0, none⟩ = some (.int .i64 6) := (blk_cell H2.out.2.2.1 0).trans rfl
      go_upto_region 28 with fail
      clear kk
      rcases h2 : pairP 1 1099511627776 0 15 li2 with n0 | ⟨ep, li3⟩
      · have HQ : Aside0 (msgP l = .bad n0) := ⟨by rw [HP.out, HSP.out, bnd_ok h0, bnd_ok h1, bnd_bad h2]⟩
        go_wp2_with (go_at_call 100; refine (epoch_calls w0 _ g A c b li2 HI.out H2.out.2.1).mono ?_; rintro e w5 ⟨hk, hb, hm⟩; simp only [h2, pan] at hm; subst hm; have HE := Aside0.mk (And.intro (H2.out.1.trans hk) hb); clear hk hb)
        refine ⟨rfl, HE.out.1, HE.out.2, ?_⟩
        rw [HQ.out]
        rfl
      · go_upto_region 29 with (go_at_call 100; refine (epoch_calls w0 _ g A c b li2 HI.out H2.out.2.1).mono ?_; rintro e w5 ⟨hk, hb, hm⟩; simp only [h2] at hm; obtain ⟨rfl, hs1⟩ := hm; have HK5 := Aside0.mk (And.intro (H2.out.1.trans hk) (And.intro hb hs1)); have HX := Aside0.mk (kb_blk hk HMB.out.2.1 H2.out.2.2.1); have HXR := Aside0.mk (kb_blk hk HNE.out H2.out.2.2.2); clear hk hb hs1; have kc4 : w5.cell? ⟨mb, 4, none⟩ = some (.int .i64 0) := (blk_cell HX.out 4).trans rfl; have kf4 : w5.frozen? ⟨mb, 4, none⟩ = false := blk_frozen HX.out 4; have kc5 : w5.cell? ⟨mb, 5, none⟩ = some (.int .i64 0) := (blk_cell HX.out 5).trans rfl; have kf5 : w5.frozen? ⟨mb, 5, none⟩ = false := blk_frozen HX.out 5)
        obtain ⟨wz2, hwz⟩ : ∃ wz : World, wz = ((w5.setCell ⟨mb, 4, none⟩ (.int .i64 ep.f0)).setCell ⟨mb, 5, none⟩ (.int .i64 ep.f1)) := ⟨_, rfl⟩
        have hbk := (blk_set (blk_set HX.out 4 (.int .i64 ep.f0)) 5 (.int .i64 ep.f1))
        have H3 : Aside0 (Kb g w wz2 ∧ RS w0 wz2 g A c b li3 ∧ wz2.heap[mb]? = some (.cells #[.int .i64 6, .string s, .int .i64 p.f0, .int .i64 p.f1, .int .i64 ep.f0, .int .i64 ep.f1, .int .i64 0, .int .i64 0, .int .i64 0, .int .i64 0, .int .i64 0, .int .i64 0, .int .i64 0, .int .i64 0, .string ⟨#[]⟩, .int .i64 0, .int .i64 0, .int .i64 0, .int .i64 0, .slice none 0 0] 33 (0, 0)) ∧ wz2.heap[w.heap.size]? = some (.cells #[.int .i64 0, .string ⟨#[]⟩, .int .i64 0, .int .i64 0, .int .i64 0, .int .i64 0, .int .i64 0, .int .i64 0, .int .i64 0, .int .i64 0, .int .i64 0, .int .i64 0, .int .i64 0, .int .i64 0, .string ⟨#[]⟩, .int .i64 0, .int .i64 0, .int .i64 0, .int .i64 0, .slice none 0 0] 33 (0, 0))) := ⟨by rw [hwz]; exact ⟨((HK5.out.1.setNew HMB.out.1 4 _).setNew HMB.out.1 5 _), ((HK5.out.2.2.setOther HMB.out.2.1 HMB.out.2.2.1 4 _).setOther HMB.out.2.1 HMB.out.2.2.1 5 _), by simpa using hbk, (blk_far (blk_far HXR.out HMB.out.2.2.2 4 (.int .i64 ep.f0)) HMB.out.2.2.2 5 (.int .i64 ep.f1))⟩⟩
        rw [← hwz]
        clear hwz hbk HK5 HX HXR kc4 kf4 kc5 kf5
        have kk : wz2.cell? ⟨mb, 0, none⟩ = some (.int .i64 6) := (blk_cell H3.out.2.2.1 0).trans rfl
        go_upto_region 29 with fail
        clear kk
        rcases h3 : pairP 0 1099511627776 0 1099511627776 li3 with n0 | ⟨rt, li4⟩
        · have HQ : Aside0 (msgP l = .bad n0) := ⟨by rw [HP.out, HSP.out, bnd_ok h0, bnd_ok h1, bnd_ok h2, bnd_bad h3]⟩
          go_wp2_with (go_at_call 101; refine (rights_calls w0 _ g A c b li3 HI.out H3.out.2.1).mono ?_; rintro e w5 ⟨hk, hb, hm⟩; simp only [h3, pan] at hm; subst hm; have HE := Aside0.mk (And.intro (H3.out.1.trans hk) hb); clear hk hb)
          refine ⟨rfl, HE.out.1, HE.out.2, ?_⟩
          rw [HQ.out]
          rfl
        · go_upto_region 30 with (go_at_call 101; refine (rights_calls w0 _ g A c b li3 HI.out H3.out.2.1).mono ?_; rintro e w5 ⟨hk, hb, hm⟩; simp only [h3] at hm; obtain ⟨rfl, hs1⟩ := hm; have HK5 := Aside0.mk (And.intro (H3.out.1.trans hk) (And.intro hb hs1)); have HX := Aside0.mk (kb_blk hk HMB.out.2.1 H3.out.2.2.1); have HXR := Aside0.mk (kb_blk hk HNE.out H3.out.2.2.2); clear hk hb hs1; have kc8 : w5.cell? ⟨mb, 8, none⟩ = some (.int .i64 0) := (blk_cell HX.out 8).trans rfl; have kf8 : w5.frozen? ⟨mb, 8, none⟩ = false := blk_frozen HX.out 8; have kc9 : w5.cell? ⟨mb, 9, none⟩ = some (.int .i64 0) := (blk_cell HX.out 9).trans rfl; have kf9 : w5.frozen? ⟨mb, 9, none⟩ = false := blk_frozen HX.out 9)
          obtain ⟨wz3, hwz⟩ : ∃ wz : World, wz = ((w5.setCell ⟨mb, 8, none⟩ (.int .i64 rt.f0)).setCell ⟨mb, 9, none⟩ (.int .i64 rt.f1)) := ⟨_, rfl⟩
          have hbk := (blk_set (blk_set HX.out 8 (.int .i64 rt.f0)) 9 (.int .i64 rt.f1))
          have H4 : Aside0 (Kb g w wz3 ∧ RS w0 wz3 g A c b li4 ∧ wz3.heap[mb]? = some (.cells #[.int .i64 6, .string s, .int .i64 p.f0, .int .i64 p.f1, .int .i64 ep.f0, .int .i64 ep.f1, .int .i64 0, .int .i64 0, .int .i64 rt.f0, .int .i64 rt.f1, .int .i64 0, .int .i64 0, .int .i64 0, .int .i64 0, .string ⟨#[]⟩, .int .i64 0, .int .i64 0, .int .i64 0, .int .i64 0, .slice none 0 0] 33 (0, 0)) ∧ wz3.heap[w.heap.size]? = some (.cells #[.int .i64 0, .string ⟨#[]⟩, .int .i64 0, .int .i64 0, .int .i64 0, .int .i64 0, .int .i64 0, .int .i64 0, .int .i64 0, .int .i64 0, .int .i64 0, .int .i64 0, .int .i64 0, .int .i64 0, .string ⟨#[]⟩, .int .i64 0, .int .i64 0, .int .i64 0, .int .i64 0, .slice none 0 0] 33 (0, 0))) := ⟨by rw [hwz]; exact ⟨((HK5.out.1.setNew HMB.out.1 8 _).setNew HMB.out.1 9 _), ((HK5.out.2.2.setOther HMB.out.2.1 HMB.out.2.2.1 8 _).setOther HMB.out.2.1 HMB.out.2.2.1 9 _), by simpa using hbk, (blk_far (blk_far HXR.out HMB.out.2.2.2 8 (.int .i64 rt.f0)) HMB.out.2.2.2 9 (.int .i64 rt.f1))⟩⟩
          rw [← hwz]
          clear hwz hbk HK5 HX HXR kc8 kf8 kc9 kf9
          have kk : wz3.cell? ⟨mb, 0, none⟩ = some (.int .i64 6) := (blk_cell H4.out.2.2.1 0).trans rfl
          go_upto_region 32 with fail
          clear kk
          have HQ : Aside0 (msgP l = .ok (mOf 6 s p ep z25 rt 0) li4) := ⟨by rw [HP.out, HSP.out, bnd_ok h0, bnd_ok h1, bnd_ok h2, bnd_ok h3]; rfl⟩
          go_wp2_with ((with_reducible refine gate_dst (N := 87) rfl ?_); refine wpList_load_row rfl 33 (.tmp 3) rfl mb (by rfl) 33 _ (0, 0) _ H4.out.2.2.1 Try.underlying33 rfl inf33 ?_; go_loud (refine wpList_store_row rfl 33 (.tmp 2) (.tmp 87) rfl w.heap.size #[.int .i64 6, .string s, .int .i64 p.f0, .int .i64 p.f1, .int .i64 ep.f0, .int .i64 ep.f1, .int .i64 0, .int .i64 0, .int .i64 rt.f0, .int .i64 rt.f1, .int .i64 0, .int .i64 0, .int .i64 0, .int .i64 0, .string ⟨#[]⟩, .int .i64 0, .int .i64 0, .int .i64 0, .int .i64 0, .slice none 0 0] (by rfl) (by rfl) 33 _ H4.out.2.2.2 inf33 rfl (by simp [Value.oneCell']) ?_))
          have HBL := setRow_blk H4.out.2.2.2 #[.int .i64 6, .string s, .int .i64 p.f0, .int .i64 p.f1, .int .i64 ep.f0, .int .i64 ep.f1, .int .i64 0, .int .i64 0, .int .i64 rt.f0, .int .i64 rt.f1, .int .i64 0, .int .i64 0, .int .i64 0, .int .i64 0, .string ⟨#[]⟩, .int .i64 0, .int .i64 0, .int .i64 0, .int .i64 0, .slice none 0 0]
          (try simp only [Exit.inBlock, Exit.then])
          refine bodyPost_ret (v := .agg #[.int .i64 6, .string s, .int .i64 p.f0, .int .i64 p.f1, .int .i64 ep.f0, .int .i64 ep.f1, .int .i64 0, .int .i64 0, .int .i64 rt.f0, .int .i64 rt.f1, .int .i64 0, .int .i64 0, .int .i64 0, .int .i64 0, .string ⟨#[]⟩, .int .i64 0, .int .i64 0, .int .i64 0, .int .i64 0, .slice none 0 0]) ?_ rfl ?_
          · exact results_cell_row rfl _ _ w.heap.size 33 _ (0, 0) _ (by rfl) HBL hu33 rfl inf33
          refine ⟨H4.out.1.setRowNew (Nat.le_refl _) _, (H4.out.2.1.setRowOther HNE.out HW0.out _).bel, ?_⟩
          rw [HQ.out]
          exact ⟨⟨none, 0, rfl, .inl ⟨rfl, rfl, rfl⟩⟩, H4.out.2.1.setRowOther HNE.out HW0.out _⟩
set_option maxHeartbeats 8000000 in
set_option maxRecDepth 100000 in
theorem msg9_calls (w0 w : World) (g : Nat) (A : Option Addr) (c : Nat) (b l r0 : List Int) (hi_ : In w0 A c b) (h : RS w0 w g A c b l) (hk : numP 1 10 l = .ok 9 r0) :
    Calls Try.prog 61 #[.pointer (some ⟨g, 0, none⟩)] w fun e w' => LeftM w0 w g A c b (msgP l) e w' := by
  have HI := Aside0.mk hi_
  have HS := Aside0.mk h
  have HNE := Aside0.mk (rs_ne h)
  have HW0 := Aside0.mk h.bel.size
  have HP : Aside0 (msgP l = restP 9 r0) := ⟨by unfold msgP; rw [bnd_ok hk]⟩
  have hu33 := Try.underlying33
  have hu23 := Try.underlying23
  have hu25 := Try.underlying25
  have hu27 := Try.underlying27
  have hu29 := Try.underlying29
  obtain ⟨wa, hwa⟩ : ∃ wa, wa = w.alloc (.cells #[.int .i64 0, .string ⟨#[]⟩, .int .i64 0, .int .i64 0, .int .i64 0, .int .i64 0, .int .i64 0, .int .i64 0, .int .i64 0, .int .i64 0, .int .i64 0, .int .i64 0, .int .i64 0, .int .i64 0, .string ⟨#[]⟩, .int .i64 0, .int .i64 0, .int .i64 0, .int .i64 0, .slice none 0 0] 33 (0, 0)) := ⟨_, rfl⟩
  have HWA := Aside0.mk hwa
  have HA : Aside0 (Kb g w wa ∧ RS w0 wa g A c b l ∧ wa.heap[w.heap.size]? = some (.cells #[.int .i64 0, .string ⟨#[]⟩, .int .i64 0, .int .i64 0, .int .i64 0, .int .i64 0, .int .i64 0, .int .i64 0, .int .i64 0, .int .i64 0, .int .i64 0, .int .i64 0, .int .i64 0, .int .i64 0, .string ⟨#[]⟩, .int .i64 0, .int .i64 0, .int .i64 0, .int .i64 0, .slice none 0 0] 33 (0, 0))) := ⟨by rw [hwa]; exact ⟨Kb.below (al_below w _), h.below (al_below w _), heap_alloc_new w _⟩⟩
  clear hi_ h hwa
  go_enter Try.func61, Try.ntmps61
  go_upto_region 1 with fail
  rw [← HWA.out]
  go_upto_region 2 with (first | ((with_reducible refine gate_dst (N := 3) rfl ?_); refine box_event ?hg (N := 3) ?hd (cs := #[.int .i64 0, .string ⟨#[]⟩, .int .i64 0, .int .i64 0, .int .i64 0, .int .i64 0, .int .i64 0, .int .i64 0, .int .i64 0, .int .i64 0, .int .i64 0, .int .i64 0, .int .i64 0, .int .i64 0, .string ⟨#[]⟩, .int .i64 0, .int .i64 0, .int .i64 0, .int .i64 0, .slice none 0 0]) (t := 33) ?hr ?_; (case hd => rfl); (case hg => rfl); (case hr => first | (go_simp; done) | (go_simp; rfl)); intro mb hmb w6 hbox hb6; go_loud (refine wpList_store_row rfl 33 (.tmp 3) (.tmp 6) rfl mb #[.int .i64 9, .string ⟨#[]⟩, .int .i64 0, .int .i64 0, .int .i64 0, .int .i64 0, .int .i64 0, .int .i64 0, .int .i64 0, .int .i64 0, .int .i64 0, .int .i64 0, .int .i64 0, .int .i64 0, .string ⟨#[]⟩, .int .i64 0, .int .i64 0, .int .i64 0, .int .i64 0, .slice none 0 0] (by rfl) (by rfl) 33 #[.int .i64 0, .string ⟨#[]⟩, .int .i64 0, .int .i64 0, .int .i64 0, .int .i64 0, .int .i64 0, .int .i64 0, .int .i64 0, .int .i64 0, .int .i64 0, .int .i64 0, .int .i64 0, .int .i64 0, .string ⟨#[]⟩, .int .i64 0, .int .i64 0, .int .i64 0, .int .i64 0, .slice none 0 0] hbox inf33 rfl (by simp [Value.oneCell']) ?_)) | (go_at_call 80; refine (num_calls w0 _ g A c b l 1 10 (by decide) (by decide) (by decide) HI.out HA.out.2.1).mono ?_; rintro e w5 ⟨hkb, hb, hm⟩; simp only [hk] at hm; obtain ⟨rfl, hs1⟩ := hm; have HK5 := Aside0.mk (And.intro (HA.out.1.trans hkb) (And.intro hb hs1)); have HR5 := Aside0.mk (kb_blk hkb HNE.out HA.out.2.2); clear hkb hb hs1))
  obtain ⟨wm, hwm⟩ : ∃ wm, wm = w6.setRow mb #[.int .i64 9, .string ⟨#[]⟩, .int .i64 0, .int .i64 0, .int .i64 0, .int .i64 0, .int .i64 0, .int .i64 0, .int .i64 0, .int .i64 0, .int .i64 0, .int .i64 0, .int .i64 0, .int .i64 0, .string ⟨#[]⟩, .int .i64 0, .int .i64 0, .int .i64 0, .int .i64 0, .slice none 0 0] := ⟨_, rfl⟩
  have H0 : Aside0 (Kb g w wm ∧ RS w0 wm g A c b r0 ∧ wm.heap[mb]? = some (.cells #[.int .i64 9, .string ⟨#[]⟩, .int .i64 0, .int .i64 0, .int .i64 0, .int .i64 0, .int .i64 0, .int .i64 0, .int .i64 0, .int .i64 0, .int .i64 0, .int .i64 0, .int .i64 0, .int .i64 0, .string ⟨#[]⟩, .int .i64 0, .int .i64 0, .int .i64 0, .int .i64 0, .slice none 0 0] 33 (0, 0)) ∧ wm.heap[w.heap.size]? = some (.cells #[.int .i64 0, .string ⟨#[]⟩, .int .i64 0, .int .i64 0, .int .i64 0, .int .i64 0, .int .i64 0, .int .i64 0, .int .i64 0, .int .i64 0, .int .i64 0, .int .i64 0, .int .i64 0, .int .i64 0, .string ⟨#[]⟩, .int .i64 0, .int .i64 0, .int .i64 0, .int .i64 0, .slice none 0 0] 33 (0, 0))) := ⟨by rw [hwm]; exact ⟨(HK5.out.1.trans (Kb.below hb6)).setRowNew (by rw [hmb]; exact HK5.out.1.size) _, (HK5.out.2.2.below hb6).setRowOther (by rw [hmb]; exact rs_ne HK5.out.2.2) (by rw [hmb]; exact HK5.out.2.1.size) _, setRow_blk hbox _, (setRow_far (by rw [hmb]; exact Nat.ne_of_lt (blk_lt HR5.out)) _).trans (blk_keep hb6 HR5.out)⟩⟩
  have HMB : Aside0 (w.heap.size ≤ mb ∧ mb ≠ g ∧ w0.heap.size ≤ mb ∧ mb ≠ w.heap.size) := ⟨by rw [hmb]; exact ⟨HK5.out.1.size, rs_ne HK5.out.2.2, HK5.out.2.1.size, by have := blk_lt HR5.out; omega⟩⟩
  rw [← hwm]
  clear hwm hmb hbox hb6 HK5 HR5
  obtain ⟨li0, hli⟩ : ∃ li0, li0 = r0 := ⟨_, rfl⟩
  rw [← hli] at H0 HP
  clear hli hk
  have HSP : Aside0 (restP 9 li0 = (bnd (nameP eB) fun s => bnd (pairP 1 1099511627776 0 1099511627776) fun p => bnd (pairP 0 1099511627776 0 1099511627776) fun rt => ret (mOf 9 s p z25 z25 rt 0)) li0) := ⟨by unfold restP; rw [if_neg (by decide), if_neg (by decide), if_neg (by decide)]; unfold ofP optP; simp only [hasEp, hasRt, Int.reduceLE, Int.reduceEq, and_self, or_self, or_true, true_or, and_true, true_and, or_false, false_or, and_false, false_and, if_true, if_false, ite_true, ite_false, bnd_ret, reduceIte]; rfl⟩
  have kk : wm.cell? ⟨mb, 0, none⟩ = some (.int .i64 9) := (blk_cell H0.out.2.2.1 0).trans rfl
  go_upto_region 17 with fail
  clear kk
  rcases h0 : nameP eB li0 with n0 | ⟨s, li1⟩
  · have HQ : Aside0 (msgP l = .bad n0) := ⟨by rw [HP.out, HSP.out, bnd_bad h0]⟩
    go_wp2_with (go_at_call 97; refine (name_calls w0 _ g A c b li0 eB HI.out H0.out.2.1).mono ?_; rintro e w5 ⟨hk, hb, hm⟩; simp only [h0, pan] at hm; subst hm; have HE := Aside0.mk (And.intro (H0.out.1.trans hk) hb); clear hk hb)
    refine ⟨rfl, HE.out.1, HE.out.2, ?_⟩
    rw [HQ.out]
    rfl
  · go_upto_region 18 with (go_at_call 97; refine (name_calls w0 _ g A c b li0 eB HI.out H0.out.2.1).mono ?_; rintro e w5 ⟨hk, hb, hm⟩; simp only [h0] at hm; obtain ⟨rfl, hs1⟩ := hm; have HK5 := Aside0.mk (And.intro (H0.out.1.trans hk) (And.intro hb hs1)); have HX := Aside0.mk (kb_blk hk HMB.out.2.1 H0.out.2.2.1); have HXR := Aside0.mk (kb_blk hk HNE.out H0.out.2.2.2); clear hk hb hs1; have kc1 : w5.cell? ⟨mb, 1, none⟩ = some (.string ⟨#[]⟩) := (blk_cell HX.out 1).trans rfl; have kf1 : w5.frozen? ⟨mb, 1, none⟩ = false := blk_frozen HX.out 1)
    obtain ⟨wz0, hwz⟩ : ∃ wz : World, wz = (w5.setCell ⟨mb, 1, none⟩ (.string s)) := ⟨_, rfl⟩
    have hbk := (blk_set HX.out 1 (.string s))
    have H1 : Aside0 (Kb g w wz0 ∧ RS w0 wz0 g A c b li1 ∧ wz0.heap[mb]? = some (.cells #[.int .i64 9, .string s, .int .i64 0, .int .i64 0, .int .i64 0, .int .i64 0, .int .i64 0, .int .i64 0, .int .i64 0, .int .i64 0, .int .i64 0, .int .i64 0, .int .i64 0, .int .i64 0, .string ⟨#[]⟩, .int .i64 0, .int .i64 0, .int .i64 0, .int .i64 0, .slice none 0 0] 33 (0, 0)) ∧ wz0.heap[w.heap.size]? = some (.cells #[.int .i64 0, .string ⟨#[]⟩, .int .i64 0, .int .i64 0, .int .i64 0, .int .i64 0, .int .i64 0, .int .i64 0, .int .i64 0, .int .i64 0, .int .i64 0, .int .i64 0, .int .i64 0, .int .i64 0, .string ⟨#[]⟩, .int .i64 0, .int .i64 0, .int .i64 0, .int .i64 0, .slice none 0 0] 33 (0, 0))) := ⟨by rw [hwz]; exact ⟨(HK5.out.1.setNew HMB.out.1 1 _), (HK5.out.2.2.setOther HMB.out.2.1 HMB.out.2.2.1 1 _), by simpa using hbk, (blk_far HXR.out HMB.out.2.2.2 1 (.string s))⟩⟩
    rw [← hwz]
    clear hwz hbk HK5 HX HXR kc1 kf1
    have kk : wz0.cell? ⟨mb, 0, none⟩ = some (.int .i64 9) := (blk_cell H1.out.2.2.1 0).trans rfl
    go_upto_region 18 with fail
    clear kk
    rcases h1 : pairP 1 1099511627776 0 1099511627776 li1 with n0 | ⟨p, li2⟩
    · have HQ : Aside0 (msgP l = .bad n0) := ⟨by rw [HP.out, HSP.out, bnd_ok h0, bnd_bad h1]⟩
      go_wp2_with (go_at_call 98; refine (cap_calls w0 _ g A c b li1 HI.out H1.out.2.1).mono ?_; rintro e w5 ⟨hk, hb, hm⟩; simp only [h1, pan] at hm; subst hm; have HE := Aside0.mk (And.intro (H1.out.1.trans hk) hb); clear hk hb)
      refine ⟨rfl, HE.out.1, HE.out.2, ?_⟩
      rw [HQ.out]
      rfl
    · go_upto_region 19 with (go_at_call 98; refine (cap_calls w0 _ g A c b li1 HI.out H1.out.2.1).mono ?_; rintro e w5 ⟨hk, hb, hm⟩; simp only [h1] at hm; obtain ⟨rfl, hs1⟩ := hm; have HK5 := Aside0.mk (And.intro (H1.out.1.trans hk) (And.intro hb hs1)); have HX := Aside0.mk (kb_blk hk HMB.out.2.1 H1.out.2.2.1); have HXR := Aside0.mk (kb_blk hk HNE.out H1.out.2.2.2); clear hk hb hs1; have kc2 : w5.cell? ⟨mb, 2, none⟩ = some (.int .i64 0) := (blk_cell HX.out 2).trans rfl; have kf2 : w5.frozen? ⟨mb, 2, none⟩ = false := blk_frozen HX.out 2; have kc3 : w5.cell? ⟨mb, 3, none⟩ = some (.int .i64 0) := (blk_cell HX.out 3).trans rfl; have kf3 : w5.frozen? ⟨mb, 3, none⟩ = false := blk_frozen HX.out 3)
      obtain ⟨wz1, hwz⟩ : ∃ wz : World, wz = ((w5.setCell ⟨mb, 2, none⟩ (.int .i64 p.f0)).setCell ⟨mb, 3, none⟩ (.int .i64 p.f1)) := ⟨_, rfl⟩
      have hbk := (blk_set (blk_set HX.out 2 (.int .i64 p.f0)) 3 (.int .i64 p.f1))
      have H2 : Aside0 (Kb g w wz1 ∧ RS w0 wz1 g A c b li2 ∧ wz1.heap[mb]? = some (.cells #[.int .i64 9, .string s, .int .i64 p.f0, .int .i64 p.f1, .int .i64 0, .int .i64 0, .int .i64 0, .int .i64 0, .int .i64 0, .int .i64 0, .int .i64 0, .int .i64 0, .int .i64 0, .int .i64 0, .string ⟨#[]⟩, .int .i64 0, .int .i64 0, .int .i64 0, .int .i64 0, .slice none 0 0] 33 (0, 0)) ∧ wz1.heap[w.heap.size]? = some (.cells #[.int .i64 0, .string ⟨#[]⟩, .int .i64 0, .int .i64 0, .int .i64 0, .int .i64 0, .int .i64 0, .int .i64 0, .int .i64 0, .int .i64 0, .int .i64 0, .int .i64 0, .int .i64 0, .int .i64 0, .string ⟨#[]⟩, .int .i64 0, .int .i64 0, .int .i64 0, .int .i64 0, .slice none 0 0] 33 (0, 0))) := ⟨by rw [hwz]; exact ⟨((HK5.out.1.setNew HMB.out.1 2 _).setNew HMB.out.1 3 _), ((HK5.out.2.2.setOther HMB.out.2.1 HMB.out.2.2.1 2 _).setOther HMB.out.2.1 HMB.out.2.2.1 3 _), by simpa using hbk, (blk_far (blk_far HXR.out HMB.out.2.2.2 2 (.int .i64 p.f0)) HMB.out.2.2.2 3 (.int .i64 p.f1))⟩⟩
      rw [← hwz]
      clear hwz hbk HK5 HX HXR kc2 kf2 kc3 kf3
      have kk : wz1.cell? ⟨mb, 0, none⟩ = some (.int .i64 9) := (blk_cell H2.out.2.2.1 0).trans rfl
      go_upto_region 29 with fail
      clear kk
      rcases h2 : pairP 0 1099511627776 0 1099511627776 li2 with n0 | ⟨rt, li3⟩
      · have HQ : Aside0 (msgP l = .bad n0) := ⟨by rw [HP.out, HSP.out, bnd_ok h0, bnd_ok h1, bnd_bad h2]⟩
        go_wp2_with (go_at_call 101; refine (rights_calls w0 _ g A c b li2 HI.out H2.out.2.1).mono ?_; rintro e w5 ⟨hk, hb, hm⟩; simp only [h2, pan] at hm; subst hm; have HE := Aside0.mk (And.intro (H2.out.1.trans hk) hb); clear hk hb)
        refine ⟨rfl, HE.out.1, HE.out.2, ?_⟩
        rw [HQ.out]
        rfl
      · go_upto_region 30 with (go_at_call 101; refine (rights_calls w0 _ g A c b li2 HI.out H2.out.2.1).mono ?_; rintro e w5 ⟨hk, hb, hm⟩; simp only [h2] at hm; obtain ⟨rfl, hs1⟩ := hm; have HK5 := Aside0.mk (And.intro (H2.out.1.trans hk) (And.intro hb hs1)); have HX := Aside0.mk (kb_blk hk HMB.out.2.1 H2.out.2.2.1); have HXR := Aside0.mk (kb_blk hk HNE.out H2.out.2.2.2); clear hk hb hs1; have kc8 : w5.cell? ⟨mb, 8, none⟩ = some (.int .i64 0) := (blk_cell HX.out 8).trans rfl; have kf8 : w5.frozen? ⟨mb, 8, none⟩ = false := blk_frozen HX.out 8; have kc9 : w5.cell? ⟨mb, 9, none⟩ = some (.int .i64 0) := (blk_cell HX.out 9).trans rfl; have kf9 : w5.frozen? ⟨mb, 9, none⟩ = false := blk_frozen HX.out 9)
        obtain ⟨wz2, hwz⟩ : ∃ wz : World, wz = ((w5.setCell ⟨mb, 8, none⟩ (.int .i64 rt.f0)).setCell ⟨mb, 9, none⟩ (.int .i64 rt.f1)) := ⟨_, rfl⟩
        have hbk := (blk_set (blk_set HX.out 8 (.int .i64 rt.f0)) 9 (.int .i64 rt.f1))
        have H3 : Aside0 (Kb g w wz2 ∧ RS w0 wz2 g A c b li3 ∧ wz2.heap[mb]? = some (.cells #[.int .i64 9, .string s, .int .i64 p.f0, .int .i64 p.f1, .int .i64 0, .int .i64 0, .int .i64 0, .int .i64 0, .int .i64 rt.f0, .int .i64 rt.f1, .int .i64 0, .int .i64 0, .int .i64 0, .int .i64 0, .string ⟨#[]⟩, .int .i64 0, .int .i64 0, .int .i64 0, .int .i64 0, .slice none 0 0] 33 (0, 0)) ∧ wz2.heap[w.heap.size]? = some (.cells #[.int .i64 0, .string ⟨#[]⟩, .int .i64 0, .int .i64 0, .int .i64 0, .int .i64 0, .int .i64 0, .int .i64 0, .int .i64 0, .int .i64 0, .int .i64 0, .int .i64 0, .int .i64 0, .int .i64 0, .string ⟨#[]⟩, .int .i64 0, .int .i64 0, .int .i64 0, .int .i64 0, .slice none 0 0] 33 (0, 0))) := ⟨by rw [hwz]; exact ⟨((HK5.out.1.setNew HMB.out.1 8 _).setNew HMB.out.1 9 _), ((HK5.out.2.2.setOther HMB.out.2.1 HMB.out.2.2.1 8 _).setOther HMB.out.2.1 HMB.out.2.2.1 9 _), by simpa using hbk, (blk_far (blk_far HXR.out HMB.out.2.2.2 8 (.int .i64 rt.f0)) HMB.out.2.2.2 9 (.int .i64 rt.f1))⟩⟩
        rw [← hwz]
        clear hwz hbk HK5 HX HXR kc8 kf8 kc9 kf9
        have kk : wz2.cell? ⟨mb, 0, none⟩ = some (.int .i64 9) := (blk_cell H3.out.2.2.1 0).trans rfl
        go_upto_region 32 with fail
        clear kk
        have HQ : Aside0 (msgP l = .ok (mOf 9 s p z25 z25 rt 0) li3) := ⟨by rw [HP.out, HSP.out, bnd_ok h0, bnd_ok h1, bnd_ok h2]; rfl⟩
        go_wp2_with ((with_reducible refine gate_dst (N := 87) rfl ?_); refine wpList_load_row rfl 33 (.tmp 3) rfl mb (by rfl) 33 _ (0, 0) _ H3.out.2.2.1 Try.underlying33 rfl inf33 ?_; go_loud (refine wpList_store_row rfl 33 (.tmp 2) (.tmp 87) rfl w.heap.size #[.int .i64 9, .string s, .int .i64 p.f0, .int .i64 p.f1, .int .i64 0, .int .i64 0, .int .i64 0, .int .i64 0, .int .i64 rt.f0, .int .i64 rt.f1, .int .i64 0, .int .i64 0, .int .i64 0, .int .i64 0, .string ⟨#[]⟩, .int .i64 0, .int .i64 0, .int .i64 0, .int .i64 0, .slice none 0 0] (by rfl) (by rfl) 33 _ H3.out.2.2.2 inf33 rfl (by simp [Value.oneCell']) ?_))
        have HBL := setRow_blk H3.out.2.2.2 #[.int .i64 9, .string s, .int .i64 p.f0, .int .i64 p.f1, .int .i64 0, .int .i64 0, .int .i64 0, .int .i64 0, .int .i64 rt.f0, .int .i64 rt.f1, .int .i64 0, .int .i64 0, .int .i64 0, .int .i64 0, .string ⟨#[]⟩, .int .i64 0, .int .i64 0, .int .i64 0, .int .i64 0, .slice none 0 0]
        (try simp only [Exit.inBlock, Exit.then])
        refine bodyPost_ret (v := .agg #[.int .i64 9, .string s, .int .i64 p.f0, .int .i64 p.f1, .int .i64 0, .int .i64 0, .int .i64 0, .int .i64 0, .int .i64 rt.f0, .int .i64 rt.f1, .int .i64 0, .int .i64 0, .int .i64 0, .int .i64 0, .string ⟨#[]⟩, .int .i64 0, .int .i64 0, .int .i64 0, .int .i64 0, .slice none 0 0]) ?_ rfl ?_
        · exact results_cell_row rfl _ _ w.heap.size 33 _ (0, 0) _ (by rfl) HBL hu33 rfl inf33
        refine ⟨H3.out.1.setRowNew (Nat.le_refl _) _, (H3.out.2.1.setRowOther HNE.out HW0.out _).bel, ?_⟩
        rw [HQ.out]
        exact ⟨⟨none, 0, rfl, .inl ⟨rfl, rfl, rfl⟩⟩, H3.out.2.1.setRowOther HNE.out HW0.out _⟩
end Go.Proofs.Ytpgdmmjbhjbbhaa.Rd
end
section
namespace Go.Proofs.Ytpgdmmjbhjbbhaa.Rd
open Go Go.RowKit Go.Proofs.Ytpgdmmjbhjbbhaa.P Go.Proofs.Ytpgdmmjbhjbbhaa.Sp Go.Proofs.Ytpgdmmjbhjbbhaa.Vd Go.Proofs.Ytpgdmmjbhjbbhaa.En Go.Proofs.Ytpgdmmjbhjbbhaa.Wr Go.Proofs.YtpgdmmjbhjbbhaaW.PrintWords Go.Proofs.YtpgdmmjbhjbbhaaW.PrintLast Go.Proofs.YtpgdmmjbhjbbhaaW.PrintMore
set_option linter.unusedVariables false
set_option linter.unusedSimpArgs false
set_option maxHeartbeats 4000000 in
set_option maxRecDepth 100000 in
theorem msg0_calls (w0 w : World) (g : Nat) (A : Option Addr) (c : Nat) (b l : List Int) (n : Nat) (hi_ : In w0 A c b) (h : RS w0 w g A c b l) (hk : numP 1 10 l = .bad n) :
    Calls Try.prog 61 #[.pointer (some ⟨g, 0, none⟩)] w fun e w' => LeftM w0 w g A c b (msgP l) e w' := by
  have HI := Aside0.mk hi_
  have HQ : Aside0 (msgP l = .bad n) := ⟨by unfold msgP; rw [bnd_bad hk]⟩
  obtain ⟨wa, hwa⟩ : ∃ wa, wa = w.alloc (.cells #[.int .i64 0, .string ⟨#[]⟩, .int .i64 0, .int .i64 0, .int .i64 0, .int .i64 0, .int .i64 0, .int .i64 0, .int .i64 0, .int .i64 0, .int .i64 0, .int .i64 0, .int .i64 0, .int .i64 0, .string ⟨#[]⟩, .int .i64 0, .int .i64 0, .int .i64 0, .int .i64 0, .slice none 0 0] 33 (0, 0)) := ⟨_, rfl⟩
  have HWA := Aside0.mk hwa
  have HA : Aside0 (Kb g w wa ∧ RS w0 wa g A c b l) := ⟨by rw [hwa]; exact ⟨Kb.below (al_below w _), h.below (al_below w _)⟩⟩
  clear hi_ h hwa
  go_enter Try.func61, Try.ntmps61
  go_upto_region 1 with fail
  rw [← HWA.out]
  go_wp2_with (go_at_call 80; refine (num_calls w0 _ g A c b l 1 10 (by decide) (by decide) (by decide) HI.out HA.out.2).mono ?_; rintro e w5 ⟨hkb, hb, hm⟩; simp only [hk, pan] at hm; subst hm; have HE := Aside0.mk (And.intro (HA.out.1.trans hkb) hb); clear hkb hb)
  refine ⟨rfl, HE.out.1, HE.out.2, ?_⟩
  rw [HQ.out]
  rfl
theorem msg_calls (w0 w : World) (g : Nat) (A : Option Addr) (c : Nat) (b l : List Int) (hi_ : In w0 A c b) (h : RS w0 w g A c b l) :
    Calls Try.prog 61 #[.pointer (some ⟨g, 0, none⟩)] w fun e w' => LeftM w0 w g A c b (msgP l) e w' := by
  rcases hk : numP 1 10 l with n | ⟨k, r⟩
  · exact msg0_calls w0 w g A c b l n hi_ h hk
  · have hb := ((numP_codec 1 10 (by decide) (by decide)).one l k r (h.isB hi_.isB) hk).1
    have hs : k = 1 ∨ k = 2 ∨ k = 3 ∨ k = 4 ∨ k = 5 ∨ k = 6 ∨ k = 7 ∨ k = 8 ∨ k = 9 ∨ k = 10 := by omega
    rcases hs with rfl | rfl | rfl | rfl | rfl | rfl | rfl | rfl | rfl | rfl
    · exact msg1_calls w0 w g A c b l r hi_ h hk
    · rcases h3 : bnd (pairP 0 63 1 1099511627776) (fun x => bnd (nameP eB) fun s => bnd (numP 0 255) fun er => ret (x, s, er)) r with n | ⟨⟨x, s, er⟩, r1⟩
      · exact msg2t_calls w0 w g A c b l r hi_ h hk (fun x s er r1 h4 => by rw [h3] at h4; cases h4)
      · by_cases hc : capped er
        · exact msg2t_calls w0 w g A c b l r hi_ h hk (fun x' s' er' r1' h4 => by rw [h3] at h4; injection h4 with h5; injection h5 with h6 h7; injection h7 with h8 h9; rw [← h9]; exact hc)
        · exact msg2f_calls w0 w g A c b l r hi_ h hk (fun x' s' er' r1' h4 => by rw [h3] at h4; injection h4 with h5; injection h5 with h6 h7; injection h7 with h8 h9; rw [← h9]; exact hc)
    · exact msg3_calls w0 w g A c b l r hi_ h hk
    · exact msg4_calls w0 w g A c b l r hi_ h hk
    · exact msg5_calls w0 w g A c b l r hi_ h hk
    · exact msg6_calls w0 w g A c b l r hi_ h hk
    · exact msg7_calls w0 w g A c b l r hi_ h hk
    · exact msg8_calls w0 w g A c b l r hi_ h hk
    · exact msg9_calls w0 w g A c b l r hi_ h hk
    · exact msg10_calls w0 w g A c b l r hi_ h hk
end Go.Proofs.Ytpgdmmjbhjbbhaa.Rd
end
section
namespace Go.Proofs.Ytpgdmmjbhjbbhaa.Rd
open Go Go.RowKit Go.Proofs.Ytpgdmmjbhjbbhaa.P Go.Proofs.Ytpgdmmjbhjbbhaa.Sp Go.Proofs.Ytpgdmmjbhjbbhaa.Vd Go.Proofs.Ytpgdmmjbhjbbhaa.En Go.Proofs.Ytpgdmmjbhjbbhaa.Wr Go.Proofs.YtpgdmmjbhjbbhaaW.PrintWords Go.Proofs.YtpgdmmjbhjbbhaaW.PrintLast Go.Proofs.YtpgdmmjbhjbbhaaW.PrintMore
set_option linter.unusedVariables false
set_option linter.unusedSimpArgs false
theorem ta_yes (n : Int) (w : World) : (Instr.typeAssert (.iface 138 (.int .i64 n)) 20 138 true).run Try.prog w = .ok (.tuple #[.int .i64 n, .bool true]) w := by kernel_rfl
theorem ta_no (w : World) : (Instr.typeAssert .nilIface 20 138 true).run Try.prog w = .ok (.tuple #[.int .i64 0, .bool false]) w := by kernel_rfl
set_option maxRecDepth 100000 in
theorem catch_pan (p q : Addr) (x y n : Int) (w : World) (hc : w.cell? p = some (.int .i64 x)) (hz : w.frozen? p = false) (hd : (w.setCell p (.int .i64 n)).cell? q = some (.int .i64 y)) (hy : (w.setCell p (.int .i64 n)).frozen? q = false) :
    CallsD Try.prog 96 #[.pointer (some p), .pointer (some q)] (.panicking [{ v := .iface 138 (.int .i64 n), recovered := false }]) w fun e u' w' =>
      e = .returned (.tuple #[]) ∧ u' = .panicking [{ v := .iface 138 (.int .i64 n), recovered := true }] ∧ w' = (w.setCell p (.int .i64 n)).setCell q (.int .i64 20) := by
  refine callsD_of_wpS Try.func96 rfl fun c₀ cs hu => ?_
  apply wpS_seq
  apply wpS_region
  simp [wpOpsS, go_sem, recoverD, hu, Try.ntmps96, Exit.thenS, ta_yes, ta_no, Array.replicate, List.replicate]
  apply wpS_seq
  apply wpS_region
  simp [wpOpsS, go_sem, Exit.thenS]
  refine wpS_cond (t := true) (by simp [Act.eval]) ?_
  simp only [if_true]
  apply wpS_region
  simp [wpOpsS, go_sem, hc, hz, hd, hy, bodyPostS, results, Try.results96]
set_option maxRecDepth 100000 in
theorem catch_idle (p q : Addr) (w : World) :
    CallsD Try.prog 96 #[.pointer (some p), .pointer (some q)] .returning w fun e u' w' => e = .returned (.tuple #[]) ∧ u' = .returning ∧ w' = w := by
  refine callsD_of_wpS Try.func96 rfl fun c₀ cs hu => ?_
  apply wpS_seq
  apply wpS_region
  simp [wpOpsS, go_sem, recoverD, hu, Try.ntmps96, Exit.thenS, ta_yes, ta_no, Array.replicate, List.replicate]
  apply wpS_seq
  apply wpS_region
  simp [wpOpsS, go_sem, Exit.thenS]
  refine wpS_cond (t := false) (by simp [Act.eval]) ?_
  simp only [Bool.false_eq_true, if_false]
  refine wpS_of_wp (wp_skip ?_)
  cases c₀
  simp_all [bodyPostS, results, Try.results96]
end Go.Proofs.Ytpgdmmjbhjbbhaa.Rd
end
section
namespace Go.Proofs.Ytpgdmmjbhjbbhaa.Rd
open Go Go.RowKit Go.Proofs.Ytpgdmmjbhjbbhaa.P Go.Proofs.Ytpgdmmjbhjbbhaa.Sp Go.Proofs.Ytpgdmmjbhjbbhaa.Vd Go.Proofs.Ytpgdmmjbhjbbhaa.En Go.Proofs.Ytpgdmmjbhjbbhaa.Wr Go.Proofs.YtpgdmmjbhjbbhaaW.PrintWords Go.Proofs.YtpgdmmjbhjbbhaaW.PrintLast Go.Proofs.YtpgdmmjbhjbbhaaW.PrintMore
set_option linter.unusedVariables false
set_option linter.unusedSimpArgs false
/-- Blocks outside S stay. -/
structure Ks (S : Nat → Prop) (w w1 : World) : Prop where
  size : w.heap.size ≤ w1.heap.size
  block : ∀ k, k < w.heap.size → ¬ S k → w1.heap[k]? = w.heap[k]?
theorem Ks.trans {S : Nat → Prop} {a b c : World} (h : Ks S a b) (k : Ks S b c) : Ks S a c := ⟨Nat.le_trans h.size k.size, fun i hi hs => (k.block i (Nat.lt_of_lt_of_le hi h.size) hs).trans (h.block i hi hs)⟩
theorem Ks.below {S : Nat → Prop} {a b : World} (h : Below a.heap.size a b) : Ks S a b := ⟨h.size, fun i hi _ => h.block i hi⟩
theorem Ks.set {S : Nat → Prop} {a b : World} (h : Ks S a b) (g i : Nat) (v : Value) (hg : S g ∨ a.heap.size ≤ g) : Ks S a (b.setCell ⟨g, i, none⟩ v) :=
  ⟨Nat.le_trans h.size (Kb.set g i b v).size, fun k hk hs => ((Kb.set g i b v).block k (Nat.lt_of_lt_of_le hk h.size) (by
    rcases hg with hg | hg
    · intro e; exact hs (e ▸ hg)
    · omega)).trans (h.block k hk hs)⟩
/-- What the fields leave: a panic with the place, or the thing laid into the variables. -/
def Fld {α : Type} (w0 w1 : World) (g : Nat) (S : Nat → Prop) (A : Option Addr) (c : Nat) (b : List Int) (r : R α) (Y : World → Prop) (X : α → World → Prop) (e : Ending) (w' : World) : Prop :=
  Ks (fun k => k = g ∨ S k) w1 w' ∧ Below w0.heap.size w0 w' ∧ Y w' ∧ match r with
    | .bad k => e = pan ((b.length : Int) - k)
    | .ok x l => e = .returned (.tuple #[]) ∧ RS w0 w' g A c b l ∧ X x w'
/-- What read leaves. -/
def ReadP {α : Type} (w0 w : World) (S : Nat → Prop) (b : List Int) (r : R α) (Y : World → Prop) (X : α → World → Prop) (e : Ending) (w' : World) : Prop :=
  Ks S w w' ∧ Below w0.heap.size w0 w' ∧ Y w' ∧ ∃ pt er : Int, e = .returned (.tuple #[.int .i64 pt, .int .i64 er]) ∧ match r with
    | .bad k => pt = (b.length : Int) - k ∧ er = 20
    | .ok x [] => pt = 0 ∧ er = 0 ∧ X x w'
    | .ok x (d :: l) => pt = (b.length : Int) - (l.length + 1) ∧ er = 20
/-- It says nothing of the two results' variables. -/
def Stable (n : Nat) (Y : World → Prop) : Prop := ∀ w1 w2 : World, Y w1 → (∀ k, k < w1.heap.size → k ≠ n → k ≠ n + 1 → w2.heap[k]? = w1.heap[k]?) → w1.heap.size ≤ w2.heap.size → Y w2
theorem stable_set {n i : Nat} {Y : World → Prop} (h : Stable n Y) {w : World} (hy : Y w) (v : Value) {g : Nat} (hg : g = n ∨ g = n + 1) : Y (w.setCell ⟨g, i, none⟩ v) :=
  h w _ hy (fun k _ h1 h2 => Below.heap_setCell w ⟨g, i, none⟩ v k (by rcases hg with rfl | rfl <;> assumption)) (Kb.set g i w v).size
set_option maxHeartbeats 4000000 in
set_option maxRecDepth 100000 in
theorem read_msg {α : Type} (cb : Nat) (w0 w : World) (A : Option Addr) (c : Nat) (b : List Int) (S : Nat → Prop) (r : R α) (Y : World → Prop) (X : α → World → Prop) (hi : In w0 A c b) (hB : Below w0.heap.size w0 w)
    (hS : ∀ k, S k → k < w.heap.size) (hS0 : ∀ k, S k → w0.heap.size ≤ k) (hY : Stable w.heap.size Y) (hX : ∀ x, Stable w.heap.size (X x))
    (hf : ∀ w1, Below w.heap.size w w1 → w1.heap.size = w.heap.size + 1 + 1 + 1 → RS w0 w1 (w.heap.size + 1 + 1) A c b b → Calls Try.prog 60 #[.pointer (some ⟨w.heap.size + 1 + 1, 0, none⟩), .pointer (some ⟨cb, 0, none⟩)] w1 fun e w' => Fld w0 w1 (w.heap.size + 1 + 1) S A c b r Y X e w') :
    Calls Try.prog 59 #[.slice A b.length c, .func (Fn.func 60) #[] #[.pointer (some ⟨cb, 0, none⟩)]] w fun e w' => ReadP w0 w S b r Y X e w' := by
  have hmf : ∀ (fn : Fn) (first cap : Array Value) (w : World), (Instr.makeFunc fn first cap).run Try.prog w = .ok (.func fn first cap) w := fun _ _ _ _ => rfl
  obtain ⟨w1, hw1⟩ : ∃ w1, w1 = (((w.alloc (.cells #[.int .i64 0] 3 (0, 0))).alloc (.cells #[.int .i64 0] 30 (0, 0))).alloc (.cells #[.slice A b.length c, .int .i64 0] 141 (0, 0))) := ⟨_, rfl⟩
  have HW1 := Aside0.mk hw1
  have hb1 : Below w.heap.size w w1 := by rw [hw1]; exact ((al_below w _).alloc (by simp) _).alloc (by simp; omega) _
  have hs1 : w1.heap.size = w.heap.size + 1 + 1 + 1 := by rw [hw1]; simp
  have hP : w1.heap[w.heap.size]? = some (.cells #[.int .i64 0] 3 (0, 0)) := by
    rw [hw1, Below.heap_alloc _ _ _ (by simp; omega), Below.heap_alloc _ _ _ (by simp)]; exact heap_alloc_new w _
  have hE : w1.heap[w.heap.size + 1]? = some (.cells #[.int .i64 0] 30 (0, 0)) := by
    rw [hw1, Below.heap_alloc _ _ _ (by simp)]
    have := heap_alloc_new (w.alloc (.cells #[.int .i64 0] 3 (0, 0))) (.cells #[.int .i64 0] 30 (0, 0))
    simpa using this
  have hR : RS w0 w1 (w.heap.size + 1 + 1) A c b b := ⟨by
    have := heap_alloc_new ((w.alloc (.cells #[.int .i64 0] 3 (0, 0))).alloc (.cells #[.int .i64 0] 30 (0, 0))) (.cells #[.slice A b.length c, .int .i64 0] 141 (0, 0))
    rw [hw1]
    unfold pl
    rw [Int.sub_self]
    simpa using this, by have := hB.size; omega, hB.trans (hb1.mono hB.size), ⟨[], rfl⟩⟩
  have HC := Aside0.mk (hf w1 hb1 hs1 hR)
  have HBL := Aside0.mk (And.intro hP hE)
  have HB1 := Aside0.mk (And.intro hb1 hs1)
  have HST := Aside0.mk (And.intro hS (And.intro hS0 (And.intro hY hX)))
  have HSZ := Aside0.mk hB.size
  have HBB := Aside0.mk hB
  have HI := Aside0.mk hi
  clear hw1 hf hP hE hb1 hs1 hS hS0 hY hX hR hB hi
  go_enter_defers Try.func59, Try.ntmps59
  go_wp2_with fail
  rw [← HW1.out]
  rcases hr : r with k | ⟨x, l⟩
  · refine HC.out.mono ?_
    rintro e w2 ⟨hks, hbl, hy, hm⟩
    simp only [hr, pan] at hm
    subst hm
    have hnS : ∀ k, k = w.heap.size ∨ k = w.heap.size + 1 → ¬ (k = w.heap.size + 1 + 1 ∨ S k) := fun k hk h => by
      rcases h with h | h
      · omega
      · have := HST.out.1 k h; omega
    have hP2 := (hks.block w.heap.size (by rw [HB1.out.2]; omega) (hnS _ (.inl rfl))).trans HBL.out.1
    have hE2 := (hks.block (w.heap.size + 1) (by rw [HB1.out.2]; omega) (hnS _ (.inr rfl))).trans HBL.out.2
    have HK2 := Aside0.mk (And.intro hks (And.intro hbl hy))
    clear hks hbl hy hnS
    go_wp2_with fail
    have hne : w.heap.size ≠ w.heap.size + 1 := by omega
    have kp : w2.cell? ⟨w.heap.size, 0, none⟩ = some (.int .i64 0) := (blk_cell hP2 0).trans rfl
    have kpf := blk_frozen hP2 0
    have hE3 : ∀ v, (w2.setCell ⟨w.heap.size, 0, none⟩ v).heap[w.heap.size + 1]? = some (.cells #[.int .i64 0] 30 (0, 0)) := fun v => blk_far hE2 hne 0 v
    have ke := fun v => (blk_cell (hE3 v) 0).trans (rfl : _ = some (Value.int .i64 0))
    have kef := fun v => blk_frozen (hE3 v) 0
    refine leaves_cons (f := 96) (args := #[.pointer (some ⟨w.heap.size, 0, none⟩), .pointer (some ⟨w.heap.size + 1, 0, none⟩)]) (by simp) (by simp [go_sem]) ?_
    refine (catch_pan ⟨w.heap.size, 0, none⟩ ⟨w.heap.size + 1, 0, none⟩ 0 0 _ _ kp kpf (ke _) (kef _)).mono ?_
    rintro e u' w3 ⟨rfl, rfl, rfl⟩
    have hf1 := blk_far (blk_set hP2 0 (.int .i64 ((b.length : Int) - k))) (Ne.symm hne) 0 (.int .i64 20)
    have hf2 := blk_set (hE3 (.int .i64 ((b.length : Int) - k))) 0 (.int .i64 20)
    have hfin : ReadP w0 w S b r Y X (.returned (.tuple #[.int .i64 ((b.length : Int) - k), .int .i64 20])) ((w2.setCell ⟨w.heap.size, 0, none⟩ (.int .i64 ((b.length : Int) - k))).setCell ⟨w.heap.size + 1, 0, none⟩ (.int .i64 20)) := by
      rw [hr]
      refine ⟨?_, ?_, stable_set HST.out.2.2.1 (stable_set HST.out.2.2.1 HK2.out.2.2 _ (.inl rfl)) _ (.inr rfl), _, _, rfl, rfl, rfl⟩
      · refine Ks.set (Ks.set ⟨by have := HK2.out.1.size; have := HB1.out.2; omega, fun i hi hs => (HK2.out.1.block i (by rw [HB1.out.2]; omega) (fun h => h.elim (fun h => absurd h (by omega)) hs)).trans (HB1.out.1.block i hi)⟩ _ _ _ (.inr (Nat.le_refl _))) _ _ _ (.inr (by omega))
      · exact (HK2.out.2.1.setCell HSZ.out _).setCell (by have := HSZ.out; show _ ≤ w.heap.size + 1; omega) _
    have HFXN := Aside0.mk hfin
    clear hfin hP2 hE2 hE3 ke kef kp kpf
    obtain ⟨wf, hwf⟩ : ∃ wf, wf = (w2.setCell ⟨w.heap.size, 0, none⟩ (.int .i64 ((b.length : Int) - k))).setCell ⟨w.heap.size + 1, 0, none⟩ (.int .i64 20) := ⟨_, rfl⟩
    rw [← hwf] at hf1 hf2 HFXN ⊢
    clear hwf
    have kf1 : wf.cell? ⟨w.heap.size, 0, none⟩ = some (.int .i64 ((b.length : Int) - k)) := (blk_cell hf1 0).trans rfl
    have kf2 : wf.cell? ⟨w.heap.size + 1, 0, none⟩ = some (.int .i64 20) := (blk_cell hf2 0).trans rfl
    clear hf1 hf2
    simp [Leaves, settle, results, Try.results59, go_sem, kf1, kf2]
    exact HFXN.out
  · refine HC.out.mono ?_
    rintro e w2 ⟨hks, hbl, hy, hm⟩
    simp only [hr] at hm
    obtain ⟨rfl, hrs, hx⟩ := hm
    have hnS : ∀ k, k = w.heap.size ∨ k = w.heap.size + 1 → ¬ (k = w.heap.size + 1 + 1 ∨ S k) := fun k hk h => by
      rcases h with h | h
      · omega
      · have := HST.out.1 k h; omega
    have hP2 := (hks.block w.heap.size (by rw [HB1.out.2]; omega) (hnS _ (.inl rfl))).trans HBL.out.1
    have hE2 := (hks.block (w.heap.size + 1) (by rw [HB1.out.2]; omega) (hnS _ (.inr rfl))).trans HBL.out.2
    have kp : w2.cell? ⟨w.heap.size, 0, none⟩ = some (.int .i64 0) := (blk_cell hP2 0).trans rfl
    have kpf := blk_frozen hP2 0
    have ke : w2.cell? ⟨w.heap.size + 1, 0, none⟩ = some (.int .i64 0) := (blk_cell hE2 0).trans rfl
    have kef := blk_frozen hE2 0
    have kr : w2.cell? ⟨w.heap.size + 1 + 1, 1, none⟩ = some (.int .i64 (pl b l)) := (blk_cell hrs.blk 1).trans rfl
    have hne : w.heap.size ≠ w.heap.size + 1 := by omega
    have HK2 := Aside0.mk (And.intro hks (And.intro hbl (And.intro hy hx)))
    have HRS := Aside0.mk hrs
    have HKS : Aside0 (∀ u v, Ks S w ((w2.setCell ⟨w.heap.size, 0, none⟩ u).setCell ⟨w.heap.size + 1, 0, none⟩ v) ∧ Below w0.heap.size w0 ((w2.setCell ⟨w.heap.size, 0, none⟩ u).setCell ⟨w.heap.size + 1, 0, none⟩ v) ∧ Y ((w2.setCell ⟨w.heap.size, 0, none⟩ u).setCell ⟨w.heap.size + 1, 0, none⟩ v) ∧ X x ((w2.setCell ⟨w.heap.size, 0, none⟩ u).setCell ⟨w.heap.size + 1, 0, none⟩ v)) := ⟨fun u v => by
      refine ⟨?_, ?_, stable_set HST.out.2.2.1 (stable_set HST.out.2.2.1 hy _ (.inl rfl)) _ (.inr rfl), stable_set (HST.out.2.2.2 x) (stable_set (HST.out.2.2.2 x) hx _ (.inl rfl)) _ (.inr rfl)⟩
      · refine Ks.set (Ks.set ⟨by have := hks.size; have := HB1.out.2; omega, fun i hi hs => (hks.block i (by rw [HB1.out.2]; omega) (fun h => h.elim (fun h => absurd h (by omega)) hs)).trans (HB1.out.1.block i hi)⟩ _ _ _ (.inr (Nat.le_refl _))) _ _ _ (.inr (by omega))
      · exact (hbl.setCell HSZ.out _).setCell (by have := HSZ.out; show _ ≤ w.heap.size + 1; omega) _⟩
    have HHE : Aside0 (∀ u v, ((w2.setCell ⟨w.heap.size, 0, none⟩ u).setCell ⟨w.heap.size + 1, 0, none⟩ v).heap[w.heap.size]? = some (.cells #[u] 3 (0, 0)) ∧ ((w2.setCell ⟨w.heap.size, 0, none⟩ u).setCell ⟨w.heap.size + 1, 0, none⟩ v).heap[w.heap.size + 1]? = some (.cells #[v] 30 (0, 0))) := ⟨fun u v =>
      ⟨blk_far (blk_set hP2 0 u) (Ne.symm hne) 0 v, blk_set (blk_far hE2 hne 0 u) 0 v⟩⟩
    clear hks hbl hy hx hrs hnS hP2 hE2
    rcases l with _ | ⟨d, l⟩
    · have hpl : pl b [] = (b.length : Int) := by unfold pl; simp
      rw [hpl] at kr
      go_wp2_with fail
      refine leaves_cons (f := 96) (args := #[.pointer (some ⟨w.heap.size, 0, none⟩), .pointer (some ⟨w.heap.size + 1, 0, none⟩)]) (by simp) (by simp [go_sem]) ?_
      refine (catch_idle ⟨w.heap.size, 0, none⟩ ⟨w.heap.size + 1, 0, none⟩ _).mono ?_
      rintro e u' w3 ⟨rfl, rfl, rfl⟩
      have hks := HKS.out (.int .i64 (0)) (.int .i64 0)
      have hhe := HHE.out (.int .i64 (0)) (.int .i64 0)
      obtain ⟨wf, hwf⟩ : ∃ wf, wf = (w2.setCell ⟨w.heap.size, 0, none⟩ (.int .i64 (0))).setCell ⟨w.heap.size + 1, 0, none⟩ (.int .i64 0) := ⟨_, rfl⟩
      rw [← hwf] at hks hhe ⊢
      clear hwf
      have kf1 : wf.cell? ⟨w.heap.size, 0, none⟩ = some (.int .i64 (0)) := (blk_cell hhe.1 0).trans rfl
      have kf2 : wf.cell? ⟨w.heap.size + 1, 0, none⟩ = some (.int .i64 0) := (blk_cell hhe.2 0).trans rfl
      have HFXN : Aside0 (ReadP w0 w S b r Y X (.returned (.tuple #[.int .i64 (0), .int .i64 0])) wf) := ⟨by
        rw [hr]
        exact ⟨hks.1, hks.2.1, hks.2.2.1, _, _, rfl, rfl, rfl, hks.2.2.2⟩⟩
      clear hks hhe
      simp [Leaves, settle, results, Try.results59, go_sem, kf1, kf2]
      exact HFXN.out
    · have hpl : pl b (d :: l) < (b.length : Int) := by unfold pl; rw [List.length_cons]; omega
      go_wp2_with fail
      refine leaves_cons (f := 96) (args := #[.pointer (some ⟨w.heap.size, 0, none⟩), .pointer (some ⟨w.heap.size + 1, 0, none⟩)]) (by simp) (by simp [go_sem]) ?_
      refine (catch_idle ⟨w.heap.size, 0, none⟩ ⟨w.heap.size + 1, 0, none⟩ _).mono ?_
      rintro e u' w3 ⟨rfl, rfl, rfl⟩
      have hks := HKS.out (.int .i64 (pl b (d :: l))) (.int .i64 20)
      have hhe := HHE.out (.int .i64 (pl b (d :: l))) (.int .i64 20)
      obtain ⟨wf, hwf⟩ : ∃ wf, wf = (w2.setCell ⟨w.heap.size, 0, none⟩ (.int .i64 (pl b (d :: l)))).setCell ⟨w.heap.size + 1, 0, none⟩ (.int .i64 20) := ⟨_, rfl⟩
      rw [← hwf] at hks hhe ⊢
      clear hwf
      have kf1 : wf.cell? ⟨w.heap.size, 0, none⟩ = some (.int .i64 (pl b (d :: l))) := (blk_cell hhe.1 0).trans rfl
      have kf2 : wf.cell? ⟨w.heap.size + 1, 0, none⟩ = some (.int .i64 20) := (blk_cell hhe.2 0).trans rfl
      have HFXN : Aside0 (ReadP w0 w S b r Y X (.returned (.tuple #[.int .i64 (pl b (d :: l)), .int .i64 20])) wf) := ⟨by
        rw [hr]
        exact ⟨hks.1, hks.2.1, hks.2.2.1, _, _, rfl, by unfold pl; rw [List.length_cons]; omega, rfl⟩⟩
      clear hks hhe
      simp [Leaves, settle, results, Try.results59, go_sem, kf1, kf2]
      exact HFXN.out
set_option maxHeartbeats 4000000 in
set_option maxRecDepth 100000 in
theorem read_req {α : Type} (cb db : Nat) (w0 w : World) (A : Option Addr) (c : Nat) (b : List Int) (S : Nat → Prop) (r : R α) (Y : World → Prop) (X : α → World → Prop) (hi : In w0 A c b) (hB : Below w0.heap.size w0 w)
    (hS : ∀ k, S k → k < w.heap.size) (hS0 : ∀ k, S k → w0.heap.size ≤ k) (hY : Stable w.heap.size Y) (hX : ∀ x, Stable w.heap.size (X x))
    (hf : ∀ w1, Below w.heap.size w w1 → w1.heap.size = w.heap.size + 1 + 1 + 1 → RS w0 w1 (w.heap.size + 1 + 1) A c b b → Calls Try.prog 82 #[.pointer (some ⟨w.heap.size + 1 + 1, 0, none⟩), .pointer (some ⟨cb, 0, none⟩), .pointer (some ⟨db, 0, none⟩)] w1 fun e w' => Fld w0 w1 (w.heap.size + 1 + 1) S A c b r Y X e w') :
    Calls Try.prog 59 #[.slice A b.length c, .func (Fn.func 82) #[] #[.pointer (some ⟨cb, 0, none⟩), .pointer (some ⟨db, 0, none⟩)]] w fun e w' => ReadP w0 w S b r Y X e w' := by
  have hmf : ∀ (fn : Fn) (first cap : Array Value) (w : World), (Instr.makeFunc fn first cap).run Try.prog w = .ok (.func fn first cap) w := fun _ _ _ _ => rfl
  obtain ⟨w1, hw1⟩ : ∃ w1, w1 = (((w.alloc (.cells #[.int .i64 0] 3 (0, 0))).alloc (.cells #[.int .i64 0] 30 (0, 0))).alloc (.cells #[.slice A b.length c, .int .i64 0] 141 (0, 0))) := ⟨_, rfl⟩
  have HW1 := Aside0.mk hw1
  have hb1 : Below w.heap.size w w1 := by rw [hw1]; exact ((al_below w _).alloc (by simp) _).alloc (by simp; omega) _
  have hs1 : w1.heap.size = w.heap.size + 1 + 1 + 1 := by rw [hw1]; simp
  have hP : w1.heap[w.heap.size]? = some (.cells #[.int .i64 0] 3 (0, 0)) := by
    rw [hw1, Below.heap_alloc _ _ _ (by simp; omega), Below.heap_alloc _ _ _ (by simp)]; exact heap_alloc_new w _
  have hE : w1.heap[w.heap.size + 1]? = some (.cells #[.int .i64 0] 30 (0, 0)) := by
    rw [hw1, Below.heap_alloc _ _ _ (by simp)]
    have := heap_alloc_new (w.alloc (.cells #[.int .i64 0] 3 (0, 0))) (.cells #[.int .i64 0] 30 (0, 0))
    simpa using this
  have hR : RS w0 w1 (w.heap.size + 1 + 1) A c b b := ⟨by
    have := heap_alloc_new ((w.alloc (.cells #[.int .i64 0] 3 (0, 0))).alloc (.cells #[.int .i64 0] 30 (0, 0))) (.cells #[.slice A b.length c, .int .i64 0] 141 (0, 0))
    rw [hw1]
    unfold pl
    rw [Int.sub_self]
    simpa using this, by have := hB.size; omega, hB.trans (hb1.mono hB.size), ⟨[], rfl⟩⟩
  have HC := Aside0.mk (hf w1 hb1 hs1 hR)
  have HBL := Aside0.mk (And.intro hP hE)
  have HB1 := Aside0.mk (And.intro hb1 hs1)
  have HST := Aside0.mk (And.intro hS (And.intro hS0 (And.intro hY hX)))
  have HSZ := Aside0.mk hB.size
  have HBB := Aside0.mk hB
  have HI := Aside0.mk hi
  clear hw1 hf hP hE hb1 hs1 hS hS0 hY hX hR hB hi
  go_enter_defers Try.func59, Try.ntmps59
  go_wp2_with fail
  rw [← HW1.out]
  rcases hr : r with k | ⟨x, l⟩
  · refine HC.out.mono ?_
    rintro e w2 ⟨hks, hbl, hy, hm⟩
    simp only [hr, pan] at hm
    subst hm
    have hnS : ∀ k, k = w.heap.size ∨ k = w.heap.size + 1 → ¬ (k = w.heap.size + 1 + 1 ∨ S k) := fun k hk h => by
      rcases h with h | h
      · omega
      · have := HST.out.1 k h; omega
    have hP2 := (hks.block w.heap.size (by rw [HB1.out.2]; omega) (hnS _ (.inl rfl))).trans HBL.out.1
    have hE2 := (hks.block (w.heap.size + 1) (by rw [HB1.out.2]; omega) (hnS _ (.inr rfl))).trans HBL.out.2
    have HK2 := Aside0.mk (And.intro hks (And.intro hbl hy))
    clear hks hbl hy hnS
    go_wp2_with fail
    have hne : w.heap.size ≠ w.heap.size + 1 := by omega
    have kp : w2.cell? ⟨w.heap.size, 0, none⟩ = some (.int .i64 0) := (blk_cell hP2 0).trans rfl
    have kpf := blk_frozen hP2 0
    have hE3 : ∀ v, (w2.setCell ⟨w.heap.size, 0, none⟩ v).heap[w.heap.size + 1]? = some (.cells #[.int .i64 0] 30 (0, 0)) := fun v => blk_far hE2 hne 0 v
    have ke := fun v => (blk_cell (hE3 v) 0).trans (rfl : _ = some (Value.int .i64 0))
    have kef := fun v => blk_frozen (hE3 v) 0
    refine leaves_cons (f := 96) (args := #[.pointer (some ⟨w.heap.size, 0, none⟩), .pointer (some ⟨w.heap.size + 1, 0, none⟩)]) (by simp) (by simp [go_sem]) ?_
    refine (catch_pan ⟨w.heap.size, 0, none⟩ ⟨w.heap.size + 1, 0, none⟩ 0 0 _ _ kp kpf (ke _) (kef _)).mono ?_
    rintro e u' w3 ⟨rfl, rfl, rfl⟩
    have hf1 := blk_far (blk_set hP2 0 (.int .i64 ((b.length : Int) - k))) (Ne.symm hne) 0 (.int .i64 20)
    have hf2 := blk_set (hE3 (.int .i64 ((b.length : Int) - k))) 0 (.int .i64 20)
    have hfin : ReadP w0 w S b r Y X (.returned (.tuple #[.int .i64 ((b.length : Int) - k), .int .i64 20])) ((w2.setCell ⟨w.heap.size, 0, none⟩ (.int .i64 ((b.length : Int) - k))).setCell ⟨w.heap.size + 1, 0, none⟩ (.int .i64 20)) := by
      rw [hr]
      refine ⟨?_, ?_, stable_set HST.out.2.2.1 (stable_set HST.out.2.2.1 HK2.out.2.2 _ (.inl rfl)) _ (.inr rfl), _, _, rfl, rfl, rfl⟩
      · refine Ks.set (Ks.set ⟨by have := HK2.out.1.size; have := HB1.out.2; omega, fun i hi hs => (HK2.out.1.block i (by rw [HB1.out.2]; omega) (fun h => h.elim (fun h => absurd h (by omega)) hs)).trans (HB1.out.1.block i hi)⟩ _ _ _ (.inr (Nat.le_refl _))) _ _ _ (.inr (by omega))
      · exact (HK2.out.2.1.setCell HSZ.out _).setCell (by have := HSZ.out; show _ ≤ w.heap.size + 1; omega) _
    have HFXN := Aside0.mk hfin
    clear hfin hP2 hE2 hE3 ke kef kp kpf
    obtain ⟨wf, hwf⟩ : ∃ wf, wf = (w2.setCell ⟨w.heap.size, 0, none⟩ (.int .i64 ((b.length : Int) - k))).setCell ⟨w.heap.size + 1, 0, none⟩ (.int .i64 20) := ⟨_, rfl⟩
    rw [← hwf] at hf1 hf2 HFXN ⊢
    clear hwf
    have kf1 : wf.cell? ⟨w.heap.size, 0, none⟩ = some (.int .i64 ((b.length : Int) - k)) := (blk_cell hf1 0).trans rfl
    have kf2 : wf.cell? ⟨w.heap.size + 1, 0, none⟩ = some (.int .i64 20) := (blk_cell hf2 0).trans rfl
    clear hf1 hf2
    simp [Leaves, settle, results, Try.results59, go_sem, kf1, kf2]
    exact HFXN.out
  · refine HC.out.mono ?_
    rintro e w2 ⟨hks, hbl, hy, hm⟩
    simp only [hr] at hm
    obtain ⟨rfl, hrs, hx⟩ := hm
    have hnS : ∀ k, k = w.heap.size ∨ k = w.heap.size + 1 → ¬ (k = w.heap.size + 1 + 1 ∨ S k) := fun k hk h => by
      rcases h with h | h
      · omega
      · have := HST.out.1 k h; omega
    have hP2 := (hks.block w.heap.size (by rw [HB1.out.2]; omega) (hnS _ (.inl rfl))).trans HBL.out.1
    have hE2 := (hks.block (w.heap.size + 1) (by rw [HB1.out.2]; omega) (hnS _ (.inr rfl))).trans HBL.out.2
    have kp : w2.cell? ⟨w.heap.size, 0, none⟩ = some (.int .i64 0) := (blk_cell hP2 0).trans rfl
    have kpf := blk_frozen hP2 0
    have ke : w2.cell? ⟨w.heap.size + 1, 0, none⟩ = some (.int .i64 0) := (blk_cell hE2 0).trans rfl
    have kef := blk_frozen hE2 0
    have kr : w2.cell? ⟨w.heap.size + 1 + 1, 1, none⟩ = some (.int .i64 (pl b l)) := (blk_cell hrs.blk 1).trans rfl
    have hne : w.heap.size ≠ w.heap.size + 1 := by omega
    have HK2 := Aside0.mk (And.intro hks (And.intro hbl (And.intro hy hx)))
    have HRS := Aside0.mk hrs
    have HKS : Aside0 (∀ u v, Ks S w ((w2.setCell ⟨w.heap.size, 0, none⟩ u).setCell ⟨w.heap.size + 1, 0, none⟩ v) ∧ Below w0.heap.size w0 ((w2.setCell ⟨w.heap.size, 0, none⟩ u).setCell ⟨w.heap.size + 1, 0, none⟩ v) ∧ Y ((w2.setCell ⟨w.heap.size, 0, none⟩ u).setCell ⟨w.heap.size + 1, 0, none⟩ v) ∧ X x ((w2.setCell ⟨w.heap.size, 0, none⟩ u).setCell ⟨w.heap.size + 1, 0, none⟩ v)) := ⟨fun u v => by
      refine ⟨?_, ?_, stable_set HST.out.2.2.1 (stable_set HST.out.2.2.1 hy _ (.inl rfl)) _ (.inr rfl), stable_set (HST.out.2.2.2 x) (stable_set (HST.out.2.2.2 x) hx _ (.inl rfl)) _ (.inr rfl)⟩
      · refine Ks.set (Ks.set ⟨by have := hks.size; have := HB1.out.2; omega, fun i hi hs => (hks.block i (by rw [HB1.out.2]; omega) (fun h => h.elim (fun h => absurd h (by omega)) hs)).trans (HB1.out.1.block i hi)⟩ _ _ _ (.inr (Nat.le_refl _))) _ _ _ (.inr (by omega))
      · exact (hbl.setCell HSZ.out _).setCell (by have := HSZ.out; show _ ≤ w.heap.size + 1; omega) _⟩
    have HHE : Aside0 (∀ u v, ((w2.setCell ⟨w.heap.size, 0, none⟩ u).setCell ⟨w.heap.size + 1, 0, none⟩ v).heap[w.heap.size]? = some (.cells #[u] 3 (0, 0)) ∧ ((w2.setCell ⟨w.heap.size, 0, none⟩ u).setCell ⟨w.heap.size + 1, 0, none⟩ v).heap[w.heap.size + 1]? = some (.cells #[v] 30 (0, 0))) := ⟨fun u v =>
      ⟨blk_far (blk_set hP2 0 u) (Ne.symm hne) 0 v, blk_set (blk_far hE2 hne 0 u) 0 v⟩⟩
    clear hks hbl hy hx hrs hnS hP2 hE2
    rcases l with _ | ⟨d, l⟩
    · have hpl : pl b [] = (b.length : Int) := by unfold pl; simp
      rw [hpl] at kr
      go_wp2_with fail
      refine leaves_cons (f := 96) (args := #[.pointer (some ⟨w.heap.size, 0, none⟩), .pointer (some ⟨w.heap.size + 1, 0, none⟩)]) (by simp) (by simp [go_sem]) ?_
      refine (catch_idle ⟨w.heap.size, 0, none⟩ ⟨w.heap.size + 1, 0, none⟩ _).mono ?_
      rintro e u' w3 ⟨rfl, rfl, rfl⟩
      have hks := HKS.out (.int .i64 (0)) (.int .i64 0)
      have hhe := HHE.out (.int .i64 (0)) (.int .i64 0)
      obtain ⟨wf, hwf⟩ : ∃ wf, wf = (w2.setCell ⟨w.heap.size, 0, none⟩ (.int .i64 (0))).setCell ⟨w.heap.size + 1, 0, none⟩ (.int .i64 0) := ⟨_, rfl⟩
      rw [← hwf] at hks hhe ⊢
      clear hwf
      have kf1 : wf.cell? ⟨w.heap.size, 0, none⟩ = some (.int .i64 (0)) := (blk_cell hhe.1 0).trans rfl
      have kf2 : wf.cell? ⟨w.heap.size + 1, 0, none⟩ = some (.int .i64 0) := (blk_cell hhe.2 0).trans rfl
      have HFXN : Aside0 (ReadP w0 w S b r Y X (.returned (.tuple #[.int .i64 (0), .int .i64 0])) wf) := ⟨by
        rw [hr]
        exact ⟨hks.1, hks.2.1, hks.2.2.1, _, _, rfl, rfl, rfl, hks.2.2.2⟩⟩
      clear hks hhe
      simp [Leaves, settle, results, Try.results59, go_sem, kf1, kf2]
      exact HFXN.out
    · have hpl : pl b (d :: l) < (b.length : Int) := by unfold pl; rw [List.length_cons]; omega
      go_wp2_with fail
      refine leaves_cons (f := 96) (args := #[.pointer (some ⟨w.heap.size, 0, none⟩), .pointer (some ⟨w.heap.size + 1, 0, none⟩)]) (by simp) (by simp [go_sem]) ?_
      refine (catch_idle ⟨w.heap.size, 0, none⟩ ⟨w.heap.size + 1, 0, none⟩ _).mono ?_
      rintro e u' w3 ⟨rfl, rfl, rfl⟩
      have hks := HKS.out (.int .i64 (pl b (d :: l))) (.int .i64 20)
      have hhe := HHE.out (.int .i64 (pl b (d :: l))) (.int .i64 20)
      obtain ⟨wf, hwf⟩ : ∃ wf, wf = (w2.setCell ⟨w.heap.size, 0, none⟩ (.int .i64 (pl b (d :: l)))).setCell ⟨w.heap.size + 1, 0, none⟩ (.int .i64 20) := ⟨_, rfl⟩
      rw [← hwf] at hks hhe ⊢
      clear hwf
      have kf1 : wf.cell? ⟨w.heap.size, 0, none⟩ = some (.int .i64 (pl b (d :: l))) := (blk_cell hhe.1 0).trans rfl
      have kf2 : wf.cell? ⟨w.heap.size + 1, 0, none⟩ = some (.int .i64 20) := (blk_cell hhe.2 0).trans rfl
      have HFXN : Aside0 (ReadP w0 w S b r Y X (.returned (.tuple #[.int .i64 (pl b (d :: l)), .int .i64 20])) wf) := ⟨by
        rw [hr]
        exact ⟨hks.1, hks.2.1, hks.2.2.1, _, _, rfl, by unfold pl; rw [List.length_cons]; omega, rfl⟩⟩
      clear hks hhe
      simp [Leaves, settle, results, Try.results59, go_sem, kf1, kf2]
      exact HFXN.out
set_option maxHeartbeats 4000000 in
set_option maxRecDepth 100000 in
theorem read_rep {α : Type} (cb : Nat) (w0 w : World) (A : Option Addr) (c : Nat) (b : List Int) (S : Nat → Prop) (r : R α) (Y : World → Prop) (X : α → World → Prop) (hi : In w0 A c b) (hB : Below w0.heap.size w0 w)
    (hS : ∀ k, S k → k < w.heap.size) (hS0 : ∀ k, S k → w0.heap.size ≤ k) (hY : Stable w.heap.size Y) (hX : ∀ x, Stable w.heap.size (X x))
    (hf : ∀ w1, Below w.heap.size w w1 → w1.heap.size = w.heap.size + 1 + 1 + 1 → RS w0 w1 (w.heap.size + 1 + 1) A c b b → Calls Try.prog 86 #[.pointer (some ⟨w.heap.size + 1 + 1, 0, none⟩), .pointer (some ⟨cb, 0, none⟩)] w1 fun e w' => Fld w0 w1 (w.heap.size + 1 + 1) S A c b r Y X e w') :
    Calls Try.prog 59 #[.slice A b.length c, .func (Fn.func 86) #[] #[.pointer (some ⟨cb, 0, none⟩)]] w fun e w' => ReadP w0 w S b r Y X e w' := by
  have hmf : ∀ (fn : Fn) (first cap : Array Value) (w : World), (Instr.makeFunc fn first cap).run Try.prog w = .ok (.func fn first cap) w := fun _ _ _ _ => rfl
  obtain ⟨w1, hw1⟩ : ∃ w1, w1 = (((w.alloc (.cells #[.int .i64 0] 3 (0, 0))).alloc (.cells #[.int .i64 0] 30 (0, 0))).alloc (.cells #[.slice A b.length c, .int .i64 0] 141 (0, 0))) := ⟨_, rfl⟩
  have HW1 := Aside0.mk hw1
  have hb1 : Below w.heap.size w w1 := by rw [hw1]; exact ((al_below w _).alloc (by simp) _).alloc (by simp; omega) _
  have hs1 : w1.heap.size = w.heap.size + 1 + 1 + 1 := by rw [hw1]; simp
  have hP : w1.heap[w.heap.size]? = some (.cells #[.int .i64 0] 3 (0, 0)) := by
    rw [hw1, Below.heap_alloc _ _ _ (by simp; omega), Below.heap_alloc _ _ _ (by simp)]; exact heap_alloc_new w _
  have hE : w1.heap[w.heap.size + 1]? = some (.cells #[.int .i64 0] 30 (0, 0)) := by
    rw [hw1, Below.heap_alloc _ _ _ (by simp)]
    have := heap_alloc_new (w.alloc (.cells #[.int .i64 0] 3 (0, 0))) (.cells #[.int .i64 0] 30 (0, 0))
    simpa using this
  have hR : RS w0 w1 (w.heap.size + 1 + 1) A c b b := ⟨by
    have := heap_alloc_new ((w.alloc (.cells #[.int .i64 0] 3 (0, 0))).alloc (.cells #[.int .i64 0] 30 (0, 0))) (.cells #[.slice A b.length c, .int .i64 0] 141 (0, 0))
    rw [hw1]
    unfold pl
    rw [Int.sub_self]
    simpa using this, by have := hB.size; omega, hB.trans (hb1.mono hB.size), ⟨[], rfl⟩⟩
  have HC := Aside0.mk (hf w1 hb1 hs1 hR)
  have HBL := Aside0.mk (And.intro hP hE)
  have HB1 := Aside0.mk (And.intro hb1 hs1)
  have HST := Aside0.mk (And.intro hS (And.intro hS0 (And.intro hY hX)))
  have HSZ := Aside0.mk hB.size
  have HBB := Aside0.mk hB
  have HI := Aside0.mk hi
  clear hw1 hf hP hE hb1 hs1 hS hS0 hY hX hR hB hi
  go_enter_defers Try.func59, Try.ntmps59
  go_wp2_with fail
  rw [← HW1.out]
  rcases hr : r with k | ⟨x, l⟩
  · refine HC.out.mono ?_
    rintro e w2 ⟨hks, hbl, hy, hm⟩
    simp only [hr, pan] at hm
    subst hm
    have hnS : ∀ k, k = w.heap.size ∨ k = w.heap.size + 1 → ¬ (k = w.heap.size + 1 + 1 ∨ S k) := fun k hk h => by
      rcases h with h | h
      · omega
      · have := HST.out.1 k h; omega
    have hP2 := (hks.block w.heap.size (by rw [HB1.out.2]; omega) (hnS _ (.inl rfl))).trans HBL.out.1
    have hE2 := (hks.block (w.heap.size + 1) (by rw [HB1.out.2]; omega) (hnS _ (.inr rfl))).trans HBL.out.2
    have HK2 := Aside0.mk (And.intro hks (And.intro hbl hy))
    clear hks hbl hy hnS
    go_wp2_with fail
    have hne : w.heap.size ≠ w.heap.size + 1 := by omega
    have kp : w2.cell? ⟨w.heap.size, 0, none⟩ = some (.int .i64 0) := (blk_cell hP2 0).trans rfl
    have kpf := blk_frozen hP2 0
    have hE3 : ∀ v, (w2.setCell ⟨w.heap.size, 0, none⟩ v).heap[w.heap.size + 1]? = some (.cells #[.int .i64 0] 30 (0, 0)) := fun v => blk_far hE2 hne 0 v
    have ke := fun v => (blk_cell (hE3 v) 0).trans (rfl : _ = some (Value.int .i64 0))
    have kef := fun v => blk_frozen (hE3 v) 0
    refine leaves_cons (f := 96) (args := #[.pointer (some ⟨w.heap.size, 0, none⟩), .pointer (some ⟨w.heap.size + 1, 0, none⟩)]) (by simp) (by simp [go_sem]) ?_
    refine (catch_pan ⟨w.heap.size, 0, none⟩ ⟨w.heap.size + 1, 0, none⟩ 0 0 _ _ kp kpf (ke _) (kef _)).mono ?_
    rintro e u' w3 ⟨rfl, rfl, rfl⟩
    have hf1 := blk_far (blk_set hP2 0 (.int .i64 ((b.length : Int) - k))) (Ne.symm hne) 0 (.int .i64 20)
    have hf2 := blk_set (hE3 (.int .i64 ((b.length : Int) - k))) 0 (.int .i64 20)
    have hfin : ReadP w0 w S b r Y X (.returned (.tuple #[.int .i64 ((b.length : Int) - k), .int .i64 20])) ((w2.setCell ⟨w.heap.size, 0, none⟩ (.int .i64 ((b.length : Int) - k))).setCell ⟨w.heap.size + 1, 0, none⟩ (.int .i64 20)) := by
      rw [hr]
      refine ⟨?_, ?_, stable_set HST.out.2.2.1 (stable_set HST.out.2.2.1 HK2.out.2.2 _ (.inl rfl)) _ (.inr rfl), _, _, rfl, rfl, rfl⟩
      · refine Ks.set (Ks.set ⟨by have := HK2.out.1.size; have := HB1.out.2; omega, fun i hi hs => (HK2.out.1.block i (by rw [HB1.out.2]; omega) (fun h => h.elim (fun h => absurd h (by omega)) hs)).trans (HB1.out.1.block i hi)⟩ _ _ _ (.inr (Nat.le_refl _))) _ _ _ (.inr (by omega))
      · exact (HK2.out.2.1.setCell HSZ.out _).setCell (by have := HSZ.out; show _ ≤ w.heap.size + 1; omega) _
    have HFXN := Aside0.mk hfin
    clear hfin hP2 hE2 hE3 ke kef kp kpf
    obtain ⟨wf, hwf⟩ : ∃ wf, wf = (w2.setCell ⟨w.heap.size, 0, none⟩ (.int .i64 ((b.length : Int) - k))).setCell ⟨w.heap.size + 1, 0, none⟩ (.int .i64 20) := ⟨_, rfl⟩
    rw [← hwf] at hf1 hf2 HFXN ⊢
    clear hwf
    have kf1 : wf.cell? ⟨w.heap.size, 0, none⟩ = some (.int .i64 ((b.length : Int) - k)) := (blk_cell hf1 0).trans rfl
    have kf2 : wf.cell? ⟨w.heap.size + 1, 0, none⟩ = some (.int .i64 20) := (blk_cell hf2 0).trans rfl
    clear hf1 hf2
    simp [Leaves, settle, results, Try.results59, go_sem, kf1, kf2]
    exact HFXN.out
  · refine HC.out.mono ?_
    rintro e w2 ⟨hks, hbl, hy, hm⟩
    simp only [hr] at hm
    obtain ⟨rfl, hrs, hx⟩ := hm
    have hnS : ∀ k, k = w.heap.size ∨ k = w.heap.size + 1 → ¬ (k = w.heap.size + 1 + 1 ∨ S k) := fun k hk h => by
      rcases h with h | h
      · omega
      · have := HST.out.1 k h; omega
    have hP2 := (hks.block w.heap.size (by rw [HB1.out.2]; omega) (hnS _ (.inl rfl))).trans HBL.out.1
    have hE2 := (hks.block (w.heap.size + 1) (by rw [HB1.out.2]; omega) (hnS _ (.inr rfl))).trans HBL.out.2
    have kp : w2.cell? ⟨w.heap.size, 0, none⟩ = some (.int .i64 0) := (blk_cell hP2 0).trans rfl
    have kpf := blk_frozen hP2 0
    have ke : w2.cell? ⟨w.heap.size + 1, 0, none⟩ = some (.int .i64 0) := (blk_cell hE2 0).trans rfl
    have kef := blk_frozen hE2 0
    have kr : w2.cell? ⟨w.heap.size + 1 + 1, 1, none⟩ = some (.int .i64 (pl b l)) := (blk_cell hrs.blk 1).trans rfl
    have hne : w.heap.size ≠ w.heap.size + 1 := by omega
    have HK2 := Aside0.mk (And.intro hks (And.intro hbl (And.intro hy hx)))
    have HRS := Aside0.mk hrs
    have HKS : Aside0 (∀ u v, Ks S w ((w2.setCell ⟨w.heap.size, 0, none⟩ u).setCell ⟨w.heap.size + 1, 0, none⟩ v) ∧ Below w0.heap.size w0 ((w2.setCell ⟨w.heap.size, 0, none⟩ u).setCell ⟨w.heap.size + 1, 0, none⟩ v) ∧ Y ((w2.setCell ⟨w.heap.size, 0, none⟩ u).setCell ⟨w.heap.size + 1, 0, none⟩ v) ∧ X x ((w2.setCell ⟨w.heap.size, 0, none⟩ u).setCell ⟨w.heap.size + 1, 0, none⟩ v)) := ⟨fun u v => by
      refine ⟨?_, ?_, stable_set HST.out.2.2.1 (stable_set HST.out.2.2.1 hy _ (.inl rfl)) _ (.inr rfl), stable_set (HST.out.2.2.2 x) (stable_set (HST.out.2.2.2 x) hx _ (.inl rfl)) _ (.inr rfl)⟩
      · refine Ks.set (Ks.set ⟨by have := hks.size; have := HB1.out.2; omega, fun i hi hs => (hks.block i (by rw [HB1.out.2]; omega) (fun h => h.elim (fun h => absurd h (by omega)) hs)).trans (HB1.out.1.block i hi)⟩ _ _ _ (.inr (Nat.le_refl _))) _ _ _ (.inr (by omega))
      · exact (hbl.setCell HSZ.out _).setCell (by have := HSZ.out; show _ ≤ w.heap.size + 1; omega) _⟩
    have HHE : Aside0 (∀ u v, ((w2.setCell ⟨w.heap.size, 0, none⟩ u).setCell ⟨w.heap.size + 1, 0, none⟩ v).heap[w.heap.size]? = some (.cells #[u] 3 (0, 0)) ∧ ((w2.setCell ⟨w.heap.size, 0, none⟩ u).setCell ⟨w.heap.size + 1, 0, none⟩ v).heap[w.heap.size + 1]? = some (.cells #[v] 30 (0, 0))) := ⟨fun u v =>
      ⟨blk_far (blk_set hP2 0 u) (Ne.symm hne) 0 v, blk_set (blk_far hE2 hne 0 u) 0 v⟩⟩
    clear hks hbl hy hx hrs hnS hP2 hE2
    rcases l with _ | ⟨d, l⟩
    · have hpl : pl b [] = (b.length : Int) := by unfold pl; simp
      rw [hpl] at kr
      go_wp2_with fail
      refine leaves_cons (f := 96) (args := #[.pointer (some ⟨w.heap.size, 0, none⟩), .pointer (some ⟨w.heap.size + 1, 0, none⟩)]) (by simp) (by simp [go_sem]) ?_
      refine (catch_idle ⟨w.heap.size, 0, none⟩ ⟨w.heap.size + 1, 0, none⟩ _).mono ?_
      rintro e u' w3 ⟨rfl, rfl, rfl⟩
      have hks := HKS.out (.int .i64 (0)) (.int .i64 0)
      have hhe := HHE.out (.int .i64 (0)) (.int .i64 0)
      obtain ⟨wf, hwf⟩ : ∃ wf, wf = (w2.setCell ⟨w.heap.size, 0, none⟩ (.int .i64 (0))).setCell ⟨w.heap.size + 1, 0, none⟩ (.int .i64 0) := ⟨_, rfl⟩
      rw [← hwf] at hks hhe ⊢
      clear hwf
      have kf1 : wf.cell? ⟨w.heap.size, 0, none⟩ = some (.int .i64 (0)) := (blk_cell hhe.1 0).trans rfl
      have kf2 : wf.cell? ⟨w.heap.size + 1, 0, none⟩ = some (.int .i64 0) := (blk_cell hhe.2 0).trans rfl
      have HFXN : Aside0 (ReadP w0 w S b r Y X (.returned (.tuple #[.int .i64 (0), .int .i64 0])) wf) := ⟨by
        rw [hr]
        exact ⟨hks.1, hks.2.1, hks.2.2.1, _, _, rfl, rfl, rfl, hks.2.2.2⟩⟩
      clear hks hhe
      simp [Leaves, settle, results, Try.results59, go_sem, kf1, kf2]
      exact HFXN.out
    · have hpl : pl b (d :: l) < (b.length : Int) := by unfold pl; rw [List.length_cons]; omega
      go_wp2_with fail
      refine leaves_cons (f := 96) (args := #[.pointer (some ⟨w.heap.size, 0, none⟩), .pointer (some ⟨w.heap.size + 1, 0, none⟩)]) (by simp) (by simp [go_sem]) ?_
      refine (catch_idle ⟨w.heap.size, 0, none⟩ ⟨w.heap.size + 1, 0, none⟩ _).mono ?_
      rintro e u' w3 ⟨rfl, rfl, rfl⟩
      have hks := HKS.out (.int .i64 (pl b (d :: l))) (.int .i64 20)
      have hhe := HHE.out (.int .i64 (pl b (d :: l))) (.int .i64 20)
      obtain ⟨wf, hwf⟩ : ∃ wf, wf = (w2.setCell ⟨w.heap.size, 0, none⟩ (.int .i64 (pl b (d :: l)))).setCell ⟨w.heap.size + 1, 0, none⟩ (.int .i64 20) := ⟨_, rfl⟩
      rw [← hwf] at hks hhe ⊢
      clear hwf
      have kf1 : wf.cell? ⟨w.heap.size, 0, none⟩ = some (.int .i64 (pl b (d :: l))) := (blk_cell hhe.1 0).trans rfl
      have kf2 : wf.cell? ⟨w.heap.size + 1, 0, none⟩ = some (.int .i64 20) := (blk_cell hhe.2 0).trans rfl
      have HFXN : Aside0 (ReadP w0 w S b r Y X (.returned (.tuple #[.int .i64 (pl b (d :: l)), .int .i64 20])) wf) := ⟨by
        rw [hr]
        exact ⟨hks.1, hks.2.1, hks.2.2.1, _, _, rfl, by unfold pl; rw [List.length_cons]; omega, rfl⟩⟩
      clear hks hhe
      simp [Leaves, settle, results, Try.results59, go_sem, kf1, kf2]
      exact HFXN.out
end Go.Proofs.Ytpgdmmjbhjbbhaa.Rd
end
section
namespace Go.Proofs.Ytpgdmmjbhjbbhaa.Rd
open Go Go.RowKit Go.Proofs.Ytpgdmmjbhjbbhaa.P Go.Proofs.Ytpgdmmjbhjbbhaa.Sp Go.Proofs.Ytpgdmmjbhjbbhaa.Vd Go.Proofs.Ytpgdmmjbhjbbhaa.En Go.Proofs.Ytpgdmmjbhjbbhaa.Wr Go.Proofs.YtpgdmmjbhjbbhaaW.PrintWords Go.Proofs.YtpgdmmjbhjbbhaaW.PrintLast Go.Proofs.YtpgdmmjbhjbbhaaW.PrintMore
set_option linter.unusedVariables false
set_option linter.unusedSimpArgs false
/-- The variable of the result stands. -/
def YB (cb : Nat) (t : TypeId) (n : Nat) (w : World) : Prop := ∃ cs, w.heap[cb]? = some (.cells cs t (0, 0)) ∧ cs.size = n
/-- The message lies in its variable, its views in new memory. -/
def XM (n cb : Nat) (m : Msg) (w : World) : Prop := ∃ A1 c1, w.heap[cb]? = some (.cells (MVc m A1 c1) 33 (0, 0)) ∧ ((A1 = none ∧ c1 = 0 ∧ m.views = []) ∨ ∃ vb, A1 = some ⟨vb, 0, none⟩ ∧ c1 = m.views.length ∧ n ≤ vb ∧ w.heap[vb]? = some (.cells (rowV m.views).toArray 87 (0, 0)))
theorem stable_Y {n cb k : Nat} {t : TypeId} (h : cb ≠ n) (h2 : cb ≠ n + 1) : Stable n (YB cb t k) := fun w1 w2 ⟨cs, h3, h4⟩ hk _ => ⟨cs, (hk cb (blk_lt h3) h h2).trans h3, h4⟩
theorem stable_X {n cb : Nat} (h : cb < n) (m : Msg) : Stable n (XM (n + 1 + 1) cb m) := by
  rintro w1 w2 ⟨A1, c1, h3, h4⟩ hk hsz
  refine ⟨A1, c1, (hk cb (blk_lt h3) (by omega) (by omega)).trans h3, ?_⟩
  rcases h4 with h4 | ⟨vb, h5, h6, h7, h8⟩
  · exact .inl h4
  · exact .inr ⟨vb, h5, h6, h7, (hk vb (blk_lt h8) (by omega) (by omega)).trans h8⟩
theorem mv_one (m : Msg) (A : Option Addr) (c : Nat) : (MVc m A c).all (·.oneCell') = true := by simp [MVc, Value.oneCell']
theorem Ks.setRow {S : Nat → Prop} {a b : World} (h : Ks S a b) (g : Nat) (cs : Array Value) (hg : S g ∨ a.heap.size ≤ g) : Ks S a (b.setRow g cs) :=
  ⟨by rw [size_setRow]; exact h.size, fun k hk hs => (setRow_far (by
    rcases hg with hg | hg
    · intro e; exact hs (e ▸ hg)
    · omega) cs).trans (h.block k hk hs)⟩
set_option maxHeartbeats 4000000 in
set_option maxRecDepth 100000 in
theorem dec1_calls (w0 w1 : World) (g cb n : Nat) (A : Option Addr) (c : Nat) (b : List Int) (hi : In w0 A c b) (h : RS w0 w1 g A c b b) (hne : cb ≠ g) (hge : w0.heap.size ≤ cb) (hn : n ≤ w1.heap.size) (hy : YB cb 33 20 w1) :
    Calls Try.prog 60 #[.pointer (some ⟨g, 0, none⟩), .pointer (some ⟨cb, 0, none⟩)] w1 fun e w' => Fld w0 w1 g (fun k => k = cb) A c b (msgP b) (YB cb 33 20) (XM n cb) e w' := by
  have HI := Aside0.mk hi
  have HR := Aside0.mk h
  have HNE := Aside0.mk (And.intro hne (And.intro hge hn))
  obtain ⟨old, ho, hos⟩ := hy
  have HO := Aside0.mk (And.intro ho hos)
  clear hi h hne hge hn ho hos
  go_enter Try.func60, Try.ntmps60
  rcases hp : msgP b with k | ⟨m, l⟩
  · go_wp2_with (go_at_call 61; refine (msg_calls w0 _ g A c b b HI.out HR.out).mono ?_; rintro e w2 ⟨hk, hb, hm⟩; simp only [hp, pan] at hm; subst hm; have HK := Aside0.mk (And.intro hk hb); clear hk hb)
    refine ⟨rfl, ⟨HK.out.1.size, fun i hi hs => HK.out.1.block i hi (fun e => hs (.inl e))⟩, HK.out.2, ⟨old, kb_blk HK.out.1 HNE.out.1 HO.out.1, HO.out.2⟩, ?_⟩
    rfl
  · go_wp2_with (first | (refine wpList_store_row rfl 33 (.tmp 1) (.tmp 4) rfl cb (MVc m A1 c1) (by rfl) (by rfl) 33 _ HX.out inf33 HO.out.2 (mv_one m A1 c1) ?_) | (go_at_call 61; refine (msg_calls w0 _ g A c b b HI.out HR.out).mono ?_; rintro e w2 ⟨hk, hb, hm⟩; simp only [hp] at hm; obtain ⟨⟨A1, c1, rfl, hnv⟩, hs1⟩ := hm; have HX := Aside0.mk (kb_blk hk HNE.out.1 HO.out.1); have HK := Aside0.mk (And.intro hk (And.intro hb (And.intro hs1 hnv))); clear hk hb hs1 hnv))
    (first | go_end0 | ((try simp only [Exit.inBlock, Exit.then]); refine bodyPost_ret (results_none rfl _ _ _) rfl ?_))
    have hcl := blk_lt HO.out.1
    refine ⟨Ks.setRow ⟨HK.out.1.size, fun i hi hs => HK.out.1.block i hi (fun e => hs (.inl e))⟩ cb _ (.inl (.inr rfl)), below_setRow HK.out.2.1 HNE.out.2.1 _, ⟨_, setRow_blk HX.out _, rfl⟩, rfl, HK.out.2.2.1.setRowOther HNE.out.1 HNE.out.2.1 _, A1, c1, setRow_blk HX.out _, ?_⟩
    rcases HK.out.2.2.2 with h4 | ⟨vb, h5, h6, h7, h8⟩
    · exact .inl h4
    · exact .inr ⟨vb, h5, h6, Nat.le_trans HNE.out.2.2 h7, (setRow_far (by omega) _).trans h8⟩
theorem results_cell_two {P : Program} {fn : Func} {p q r : Tmp} {ty : TypeId} (h : fn.results = #[.cell p ty, .tmp q, .tmp r]) (tmps : Array Value) (w : World) (g : Nat) (t : TypeId) (cs : Array Value) (fr : Nat × Nat) (d : TypeDesc)
    (hp : tmps.getD p undef = .pointer (some ⟨g, 0, none⟩)) (hg : w.heap[g]? = some (.cells cs t fr))
    (hu : P.underlying ty = some d) (hd : (match d with | .struct _ | .array _ _ => true | _ => false) = true) (hi : (P.info? ty).map (·.size) = some cs.size) :
    (results fn tmps).run P w = .ok (.tuple #[.agg cs, tmps.getD q undef, tmps.getD r undef]) w := by
  have hp' : tmps[p]?.getD undef = .pointer (some ⟨g, 0, none⟩) := by simpa using hp
  simp [results, h, hp', asAddr, run_loadVar_row w g t ty cs fr d hg hu hd hi]
/-- The zero message's cells. -/
theorem mv_zero : MVc zMsg none 0 = #[.int .i64 0, .string ⟨#[]⟩, .int .i64 0, .int .i64 0, .int .i64 0, .int .i64 0, .int .i64 0, .int .i64 0, .int .i64 0, .int .i64 0, .int .i64 0, .int .i64 0, .int .i64 0, .int .i64 0, .string ⟨#[]⟩, .int .i64 0, .int .i64 0, .int .i64 0, .int .i64 0, .slice none 0 0] := rfl
theorem build_zero (a : Act) (W : World) {o : Oper} (ho : o.op = .build 33 #[]) : (execOp a.eval o).run Try.prog W = .ok (.value (.agg (MVc zMsg none 0))) W := by
  unfold execOp
  rw [ho]
  have hu33 := Try.underlying33
  have h : (Instr.build 33 #[]).run Try.prog W = .ok (.agg (MVc zMsg none 0)) W := by kernel_rfl
  simp [h]
/-- What Decode answers: the message, its views in new memory, the place, the error. -/
def DecP (w : World) (x : Msg × Int × Int) (e : Ending) (w' : World) : Prop :=
  Below w.heap.size w w' ∧ ∃ A1 c1, e = .returned (.tuple #[MV x.1 A1 c1, .int .i64 x.2.1, .int .i64 x.2.2]) ∧ NewV w w' A1 c1 x.1.views
set_option maxHeartbeats 4000000 in
set_option maxRecDepth 100000 in
theorem decode_calls (w : World) (A : Option Addr) (c : Nat) (b : List Int) (hi : In w A c b) :
    Calls Try.prog 18 #[.slice A b.length c] w fun e w' => DecP w (whole zMsg msgP b) e w' := by
  have hmf : ∀ (fn : Fn) (first cap : Array Value) (w : World), (Instr.makeFunc fn first cap).run Try.prog w = .ok (.func fn first cap) w := fun _ _ _ _ => rfl
  obtain ⟨wa, hwa⟩ : ∃ wa, wa = w.alloc (.cells (MVc zMsg none 0) 33 (0, 0)) := ⟨_, rfl⟩
  have HWA := Aside0.mk hwa
  have HB : Aside0 (Below w.heap.size w wa ∧ wa.heap.size = w.heap.size + 1 ∧ wa.heap[w.heap.size]? = some (.cells (MVc zMsg none 0) 33 (0, 0))) := ⟨by rw [hwa]; exact ⟨al_below w _, by simp, heap_alloc_new w _⟩⟩
  have HRD : Aside0 (Calls Try.prog 59 #[.slice A b.length c, .func (Fn.func 60) #[] #[.pointer (some ⟨w.heap.size, 0, none⟩)]] wa fun e w' => ReadP w wa (fun k => k = w.heap.size) b (msgP b) (YB w.heap.size 33 20) (XM (wa.heap.size + 1 + 1) w.heap.size) e w') := ⟨by
    have hsz := HB.out.2.1
    refine read_msg w.heap.size w wa A c b _ (msgP b) _ _ hi HB.out.1 (fun k hk => by omega) (fun k hk => by omega) (stable_Y (by omega) (by omega)) (fun m => stable_X (by omega) m) ?_
    intro w1 hb1 hs1 hr1
    exact dec1_calls w w1 _ w.heap.size _ A c b hi hr1 (by omega) (Nat.le_refl _) (by omega) ⟨_, blk_keep hb1 HB.out.2.2, rfl⟩⟩
  have hu33 := Try.underlying33
  clear hwa hi
  rw [mv_zero] at HWA
  go_enter Try.func18, Try.ntmps18
  go_upto_region 1 with fail
  rw [← HWA.out]
  go_upto_region 2 with (go_at_call 59; refine HRD.out.mono ?_; rintro e w2 ⟨hks, hbl, hy, pt, er, rfl, hm⟩; have HK := Aside0.mk (And.intro hks (And.intro hbl (And.intro hy hm))); clear hks hbl hy hm)
  rcases hp : msgP b with k | ⟨m, l⟩
  · have HW : Aside0 (whole zMsg msgP b = (zMsg, (b.length : Int) - k, 20)) := ⟨by unfold whole; rw [hp]⟩
    rw [hp] at HK
    obtain ⟨old, ho, hos⟩ := HK.out.2.2.1
    (try obtain ⟨rfl, rfl⟩ := HK.out.2.2.2)
    have HC := Aside0.mk (And.intro ho hos)
    have HB3 := Aside0.mk (setRow_blk ho (MVc zMsg none 0))
    clear ho hos
    go_wp2_with (first | ((with_reducible refine gate_dst (N := 13) rfl ?_); refine Kd.event_run (v := .agg (MVc zMsg none 0)) (w1 := w2) rfl (build_zero _ _ rfl) ?_; go_loud (refine wpList_store_row rfl 33 (.tmp 2) (.tmp 13) rfl w.heap.size (MVc zMsg none 0) (by rfl) (by rfl) 33 _ HC.out.1 inf33 HC.out.2 (mv_one _ _ _) ?_)) | ((with_reducible refine gate_dst (N := 14) rfl ?_); refine wpList_load_row rfl 33 (.tmp 2) rfl w.heap.size (by rfl) 33 (MVc zMsg none 0) (0, 0) _ HB3.out Try.underlying33 rfl inf33 ?_; refine Kd.event_run (v := .int .i64 ((b.length : Int) - k)) rfl (by rfl) ?_; refine Kd.event_run (v := .int .i64 (20)) rfl (by rfl) ?_; go_loud (refine wpList_store_row rfl 33 (.tmp 2) (.tmp 14) rfl w.heap.size (MVc zMsg none 0) (by rfl) (by rfl) 33 _ HB3.out inf33 rfl (mv_one _ _ _) ?_)))
    have HB4 := setRow_blk HB3.out (MVc zMsg none 0)
    (try simp only [Exit.inBlock, Exit.then])
    refine bodyPost_ret (v := .tuple #[.agg (MVc zMsg none 0), .int .i64 ((b.length : Int) - k), .int .i64 20]) ?_ rfl ?_
    · exact results_cell_two (fn := Try.f18) (p := 2) (q := 3) (r := 4) rfl _ _ w.heap.size 33 _ (0, 0) _ (by rfl) HB4 hu33 rfl inf33
    refine ⟨below_setRow (below_setRow HK.out.2.1 (Nat.le_refl _) _) (Nat.le_refl _) _, none, 0, ?_, .inl ⟨?_, ?_, ?_⟩⟩ <;> first | rfl | (rw [HW.out]; rfl)
  · rcases l with _ | ⟨d, l⟩
    · have HW : Aside0 (whole zMsg msgP b = (m, 0, 0)) := ⟨by unfold whole; rw [hp]⟩
      rw [hp] at HK
      obtain ⟨hpt, her, A1, c1, hbk, hnv⟩ := HK.out.2.2.2
      subst hpt her
      have HC := Aside0.mk hbk
      have HNV := Aside0.mk hnv
      clear hbk hnv
      go_wp2_with ((with_reducible refine gate_dst (N := 14) rfl ?_); refine wpList_load_row rfl 33 (.tmp 2) rfl w.heap.size (by rfl) 33 (MVc m A1 c1) (0, 0) _ HC.out Try.underlying33 rfl inf33 ?_; refine Kd.event_run (v := .int .i64 (0)) rfl (by rfl) ?_; refine Kd.event_run (v := .int .i64 (0)) rfl (by rfl) ?_; go_loud (refine wpList_store_row rfl 33 (.tmp 2) (.tmp 14) rfl w.heap.size (MVc m A1 c1) (by rfl) (by rfl) 33 _ HC.out inf33 rfl (mv_one _ _ _) ?_))
      have HB4 := setRow_blk HC.out (MVc m A1 c1)
      (try simp only [Exit.inBlock, Exit.then])
      refine bodyPost_ret (v := .tuple #[.agg (MVc m A1 c1), .int .i64 0, .int .i64 0]) ?_ rfl ?_
      · exact results_cell_two (fn := Try.f18) (p := 2) (q := 3) (r := 4) rfl _ _ w.heap.size 33 _ (0, 0) _ (by rfl) HB4 hu33 rfl inf33
      refine ⟨below_setRow HK.out.2.1 (Nat.le_refl _) _, A1, c1, by rw [HW.out]; rfl, ?_⟩
      rw [HW.out]
      rcases HNV.out with h4 | ⟨vb, h5, h6, h7, h8⟩
      · exact .inl h4
      · exact .inr ⟨vb, h5, h6, by have := HB.out.2.1; omega, (setRow_far (by have := HB.out.2.1; omega) _).trans h8⟩
    · have HW : Aside0 (whole zMsg msgP b = (zMsg, (b.length : Int) - (l.length + 1), 20)) := ⟨by unfold whole; rw [hp]⟩
      rw [hp] at HK
      obtain ⟨old, ho, hos⟩ := HK.out.2.2.1
      (try obtain ⟨rfl, rfl⟩ := HK.out.2.2.2)
      have HC := Aside0.mk (And.intro ho hos)
      have HB3 := Aside0.mk (setRow_blk ho (MVc zMsg none 0))
      clear ho hos
      go_wp2_with (first | ((with_reducible refine gate_dst (N := 13) rfl ?_); refine Kd.event_run (v := .agg (MVc zMsg none 0)) (w1 := w2) rfl (build_zero _ _ rfl) ?_; go_loud (refine wpList_store_row rfl 33 (.tmp 2) (.tmp 13) rfl w.heap.size (MVc zMsg none 0) (by rfl) (by rfl) 33 _ HC.out.1 inf33 HC.out.2 (mv_one _ _ _) ?_)) | ((with_reducible refine gate_dst (N := 14) rfl ?_); refine wpList_load_row rfl 33 (.tmp 2) rfl w.heap.size (by rfl) 33 (MVc zMsg none 0) (0, 0) _ HB3.out Try.underlying33 rfl inf33 ?_; refine Kd.event_run (v := .int .i64 ((b.length : Int) - (l.length + 1))) rfl (by rfl) ?_; refine Kd.event_run (v := .int .i64 (20)) rfl (by rfl) ?_; go_loud (refine wpList_store_row rfl 33 (.tmp 2) (.tmp 14) rfl w.heap.size (MVc zMsg none 0) (by rfl) (by rfl) 33 _ HB3.out inf33 rfl (mv_one _ _ _) ?_)))
      have HB4 := setRow_blk HB3.out (MVc zMsg none 0)
      (try simp only [Exit.inBlock, Exit.then])
      refine bodyPost_ret (v := .tuple #[.agg (MVc zMsg none 0), .int .i64 ((b.length : Int) - (l.length + 1)), .int .i64 20]) ?_ rfl ?_
      · exact results_cell_two (fn := Try.f18) (p := 2) (q := 3) (r := 4) rfl _ _ w.heap.size 33 _ (0, 0) _ (by rfl) HB4 hu33 rfl inf33
      refine ⟨below_setRow (below_setRow HK.out.2.1 (Nat.le_refl _) _) (Nat.le_refl _) _, none, 0, ?_, .inl ⟨?_, ?_, ?_⟩⟩ <;> first | rfl | (rw [HW.out]; rfl)
end Go.Proofs.Ytpgdmmjbhjbbhaa.Rd
end
