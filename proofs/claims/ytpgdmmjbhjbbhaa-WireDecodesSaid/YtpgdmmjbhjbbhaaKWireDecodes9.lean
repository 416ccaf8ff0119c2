/- texts that the proof needs, laid together by a program of this session. -/
import Derived.Recover
import Derived.Laws.Pointers
import Derived.Test.YtpgdmmjbhjbbhaaKWireDecodes8
section
namespace Go.Proofs.Ytpgdmmjbhjbbhaa.Rd
open Go Go.RowKit Go.Proofs.Ytpgdmmjbhjbbhaa.P Go.Proofs.Ytpgdmmjbhjbbhaa.Sp Go.Proofs.Ytpgdmmjbhjbbhaa.Vd Go.Proofs.Ytpgdmmjbhjbbhaa.En Go.Proofs.Ytpgdmmjbhjbbhaa.Wr Go.Proofs.YtpgdmmjbhjbbhaaW.PrintWords Go.Proofs.YtpgdmmjbhjbbhaaW.PrintLast Go.Proofs.YtpgdmmjbhjbbhaaW.PrintMore
set_option linter.unusedVariables false
set_option linter.unusedSimpArgs false
set_option maxHeartbeats 8000000 in
set_option maxRecDepth 100000 in
theorem msg4_calls (w0 w : World) (g : Nat) (A : Option Addr) (c : Nat) (b l r0 : List Int) (hi_ : In w0 A c b) (h : RS w0 w g A c b l) (hk : numP 1 10 l = .ok 4 r0) :
    Calls Try.prog 61 #[.pointer (some ⟨g, 0, none⟩)] w fun e w' => LeftM w0 w g A c b (msgP l) e w' := by
  have HI := Aside0.mk hi_
  have HS := Aside0.mk h
  have HNE := Aside0.mk (rs_ne h)
  have HW0 := Aside0.mk h.bel.size
  have HP : Aside0 (msgP l = restP 4 r0) := ⟨by unfold msgP; rw [bnd_ok hk]⟩
  have hu33 := Try.underlying33
  have hu23 := Try.underlying23
  have hu25 := Try.underlying25
  have hu27 := Try.underlying27
  have hu29 := Try.underlying29
  obtain ⟨wa, hwa⟩ : ∃ wa, wa = w.alloc (.cells #[.int .i64 0, .string ⟨#[]⟩, .int .i64 0, .int .i64 0, .int .i64 0, .int .i64 0, .int .i64 0, .int .i64 0, .int .i64 0, .int .i64 0, .int .i64 0, .int .i64 0, .int .i64 0, .int .i64 0, .string ⟨#[]⟩, .int .i64 0, .int .i64 0, .int .i64 0, .int .i64 0, .slice none 0 0] 33 (0, 0)) := ⟨_, rfl⟩
  have HWA := Aside0.mk hwa
  have HA : Aside0 (Kb g w wa ∧ RS w0 wa g A c b l ∧ wa.heap[w.heap.size]? = some (.cells #[.int .i64 0, .string ⟨#[]⟩, .int .i64 0, .int .i64 0, .int .i64 0, .int .i64 0, .int .i64 0, .int .i64 0, .int .i64 0, .int .i64 0, .int .i64 0, .int .i64 0, .int .i64 0, .int .i64 0, .string ⟨#[]⟩, .int .i64 0, .int .i64 0, .int .i64 0, .int .i64 0, .slice none 0 0] 33 (0, 0))) := ⟨by rw [hwa]; exact ⟨Kb.below (al_below w _), h.below (al_below w _), heap_alloc_new w _⟩⟩
  clear hi_ h hwa
  go_enter Try.func61, Try.ntmps61
  go_upto_region 1 with fail
  rw [← HWA.out]
  go_upto_region 2 with (first | ((with_reducible refine gate_dst (N := 3) rfl ?_); refine box_event ?hg (N := 3) ?hd (cs := #[.int .i64 0, .string ⟨#[]⟩, .int .i64 0, .int .i64 0, .int .i64 0, .int .i64 0, .int .i64 0, .int .i64 0, .int .i64 0, .int .i64 0, .int .i64 0, .int .i64 0, .int .i64 0, .int .i64 0, .string ⟨#[]⟩, .int .i64 0, .int .i64 0, .int .i64 0, .int .i64 0, .slice none 0 0]) (t := 33) ?hr ?_; (case hd => rfl); (case hg => rfl); (case hr => first | (go_simp; done) | (go_simp; rfl)); intro mb hmb w6 hbox hb6; go_loud (refine wpList_store_row rfl 33 (.tmp 3) (.tmp 6) rfl mb #[.int .i64 4, .string ⟨#[]⟩, .int .i64 0, .int .i64 0, .int .i64 0, .int .i64 0, .int .i64 0, .int .i64 0, .int .i64 0, .int .i64 0, .int .i64 0, .int .i64 0, .int .i64 0, .int .i64 0, .string ⟨#[]⟩, .int .i64 0, .int .i64 0, .int .i64 0, .int .i64 0, .slice none 0 0] (by rfl) (by rfl) 33 #[.int .i64 0, .string ⟨#[]⟩, .int .i64 0, .int .i64 0, .int .i64 0, .int .i64 0, .int .i64 0, .int .i64 0, .int .i64 0, .int .i64 0, .int .i64 0, .int .i64 0, .int .i64 0, .int .i64 0, .string ⟨#[]⟩, .int .i64 0, .int .i64 0, .int .i64 0, .int .i64 0, .slice none 0 0] hbox inf33 rfl (by simp [Value.oneCell']) ?_)) | (go_at_call 80; refine (num_calls w0 _ g A c b l 1 10 (by decide) (by decide) (by decide) HI.out HA.out.2.1).mono ?_; rintro e w5 ⟨hkb, hb, hm⟩; simp only [hk] at hm; obtain ⟨rfl, hs1⟩ := hm; have HK5 := Aside0.mk (And.intro (HA.out.1.trans hkb) (And.intro hb hs1)); have HR5 := Aside0.mk (kb_blk hkb HNE.out HA.out.2.2); clear hkb hb hs1))
  obtain ⟨wm, hwm⟩ : ∃ wm, wm = w6.setRow mb #[.int .i64 4, .string ⟨#[]⟩, .int .i64 0, .int .i64 0, .int .i64 0, .int .i64 0, .int .i64 0, .int .i64 0, .int .i64 0, .int .i64 0, .int .i64 0, .int .i64 0, .int .i64 0, .int .i64 0, .string ⟨#[]⟩, .int .i64 0, .int .i64 0, .int .i64 0, .int .i64 0, .slice none 0 0] := ⟨_, rfl⟩
  have H0 : Aside0 (Kb g w wm ∧ RS w0 wm g A c b r0 ∧ wm.heap[mb]? = some (.cells #[.int .i64 4, .string ⟨#[]⟩, .int .i64 0, .int .i64 0, .int .i64 0, .int .i64 0, .int .i64 0, .int .i64 0, .int .i64 0, .int .i64 0, .int .i64 0, .int .i64 0, .int .i64 0, .int .i64 0, .string ⟨#[]⟩, .int .i64 0, .int .i64 0, .int .i64 0, .int .i64 0, .slice none 0 0] 33 (0, 0)) ∧ wm.heap[w.heap.size]? = some (.cells #[.int .i64 0, .string ⟨#[]⟩, .int .i64 0, .int .i64 0, .int .i64 0, .int .i64 0, .int .i64 0, .int .i64 0, .int .i64 0, .int .i64 0, .int .i64 0, .int .i64 0, .int .i64 0, .int .i64 0, .string ⟨#[]⟩, .int .i64 0, .int .i64 0, .int .i64 0, .int .i64 0, .slice none 0 0] 33 (0, 0))) := ⟨by rw [hwm]; exact ⟨(HK5.out.1.trans (Kb.below hb6)).setRowNew (by rw [hmb]; exact HK5.out.1.size) _, (HK5.out.2.2.below hb6).setRowOther (by rw [hmb]; exact rs_ne HK5.out.2.2) (by rw [hmb]; exact HK5.out.2.1.size) _, setRow_blk hbox _, (setRow_far (by rw [hmb]; exact Nat.ne_of_lt (blk_lt HR5.out)) _).trans (blk_keep hb6 HR5.out)⟩⟩
  have HMB : Aside0 (w.heap.size ≤ mb ∧ mb ≠ g ∧ w0.heap.size ≤ mb ∧ mb ≠ w.heap.size) := ⟨by rw [hmb]; exact ⟨HK5.out.1.size, rs_ne HK5.out.2.2, HK5.out.2.1.size, by have := blk_lt HR5.out; omega⟩⟩
  rw [← hwm]
  clear hwm hmb hbox hb6 HK5 HR5
  obtain ⟨li0, hli⟩ : ∃ li0, li0 = r0 := ⟨_, rfl⟩
  rw [← hli] at H0 HP
  clear hli hk
  have HSP : Aside0 (restP 4 li0 = (bnd (nameP eB) fun s => bnd (pairP 1 1099511627776 0 1099511627776) fun p => bnd (pairP 1 1099511627776 0 15) fun ep => bnd (pairP 0 1099511627776 0 1099511627776) fun rt => bnd (numP 0 1099511627776) fun hd => ret (mOf 4 s p ep z25 rt hd)) li0) := ⟨by unfold restP; rw [if_neg (by decide), if_neg (by decide), if_neg (by decide)]; unfold ofP optP; simp only [hasEp, hasRt, Int.reduceLE, Int.reduceEq, and_self, or_self, or_true, true_or, and_true, true_and, or_false, false_or, and_false, false_and, if_true, if_false, ite_true, ite_false, bnd_ret, reduceIte]; rfl⟩
  have kk : wm.cell? ⟨mb, 0, none⟩ = some (.int .i64 4) := (blk_cell H0.out.2.2.1 0).trans rfl
  go_upto_region 17 with fail
  clear kk
  rcases h0 : nameP eB li0 with n0 | ⟨s, li1⟩
  · have HQ : Aside0 (msgP l = .bad n0) := ⟨by rw [HP.out, HSP.out, bnd_bad h0]⟩
    go_wp2_with (go_at_call 97; refine (name_calls w0 _ g A c b li0 eB HI.out H0.out.2.1).mono ?_; rintro e w5 ⟨hk, hb, hm⟩; simp only [h0, pan] at hm; subst hm; have HE := Aside0.mk (And.intro (H0.out.1.trans hk) hb); clear hk hb)
    refine ⟨rfl, HE.out.1, HE.out.2, ?_⟩
    rw [HQ.out]
    rfl
  · go_upto_region 18 with (go_at_call 97; refine (name_calls w0 _ g A c b li0 eB HI.out H0.out.2.1).mono ?_; rintro e w5 ⟨hk, hb, hm⟩; simp only [h0] at hm; obtain ⟨rfl, hs1⟩ := hm; have HK5 := Aside0.mk (And.intro (H0.out.1.trans hk) (And.intro hb hs1)); have HX := Aside0.mk (kb_blk hk HMB.out.2.1 H0.out.2.2.1); have HXR := Aside0.mk (kb_blk hk HNE.out H0.out.2.2.2); clear hk hb hs1; have kc1 : w5.cell? ⟨mb, 1, none⟩ = some (.string ⟨#[]⟩) := (blk_cell HX.out 1).trans rfl; have kf1 : w5.frozen? ⟨mb, 1, none⟩ = false := blk_frozen HX.out 1)
    obtain ⟨wz0, hwz⟩ : ∃ wz : World, wz = (w5.setCell ⟨mb, 1, none⟩ (.string s)) := ⟨_, rfl⟩
    have hbk := (blk_set HX.out 1 (.string s))
    have H1 : Aside0 (Kb g w wz0 ∧ RS w0 wz0 g A c b li1 ∧ wz0.heap[mb]? = some (.cells #[.int .i64 4, .string s, .int .i64 0, .int .i64 0, .int .i64 0, .int .i64 0, .int .i64 0, .int .i64 0, .int .i64 0, .int .i64 0, .int .i64 0, .int .i64 0, .int .i64 0, .int .i64 0, .string ⟨#[]⟩, .int .i64 0, .int .i64 0, .int .i64 0, .int .i64 0, .slice none 0 0] 33 (0, 0)) ∧ wz0.heap[w.heap.size]? = some (.cells #[.int .i64 0, .string ⟨#[]⟩, .int .i64 0, .int .i64 0, .int .i64 0, .int .i64 0, .int .i64 0, .int .i64 0, .int .i64 0, .int .i64 0, .int .i64 0, .int .i64 0, .int .i64 0, .int .i64 0, .string ⟨#[]⟩, .int .i64 0, .int .i64 0, .int .i64 0, .int .i64 0, .slice none 0 0] 33 (0, 0))) := ⟨by rw [hwz]; exact ⟨(HK5.out.1.setNew HMB.out.1 1 _), (HK5.out.2.2.setOther HMB.out.2.1 HMB.out.2.2.1 1 _), by simpa using hbk, (blk_far HXR.out HMB.out.2.2.2 1 (.string s))⟩⟩
    rw [← hwz]
    clear hwz hbk HK5 HX HXR kc1 kf1
    have kk : wz0.cell? ⟨mb, 0, none⟩ = some (.int .i64 4) := (blk_cell H1.out.2.2.1 0).trans rfl
    go_upto_region 18 with fail
    clear kk
    rcases h1 : pairP 1 1099511627776 0 1099511627776 li1 with n0 | ⟨p, li2⟩
    · have HQ : Aside0 (msgP l = .bad n0) := ⟨by rw [HP.out, HSP.out, bnd_ok h0, bnd_bad h1]⟩
      go_wp2_with (go_at_call 98; refine (cap_calls w0 _ g A c b li1 HI.out H1.out.2.1).mono ?_; rintro e w5 ⟨hk, hb, hm⟩; simp only [h1, pan] at hm; subst hm; have HE := Aside0.mk (And.intro (H1.out.1.trans hk) hb); clear hk hb)
      refine ⟨rfl, HE.out.1, HE.out.2, ?_⟩
      rw [HQ.out]
      rfl
    · go_upto_region 19 with (go_at_call 98; refine (cap_calls w0 _ g A c b li1 HI.out H1.out.2.1).mono ?_; rintro e w5 ⟨hk, hb, hm⟩; simp only [h1] at hm; obtain ⟨rfl, hs1⟩ := hm; have HK5 := Aside0.mk (And.intro (H1.out.1.trans hk) (And.intro hb hs1)); have HX := Aside0.mk (kb_blk hk HMB.out.2.1 H1.out.2.2.1); have HXR := Aside0.mk (kb_blk hk HNE.out H1.out.2.2.2); clear hk hb hs1; have kc2 : w5.cell? ⟨mb, 2, none⟩ = some (.int .i64 0) := (blk_cell HX.out 2).trans rfl; have kf2 : w5.frozen? ⟨mb, 2, none⟩ = false := blk_frozen HX.out 2; have kc3 : w5.cell? ⟨mb, 3, none⟩ = some (.int .i64 0) := (blk_cell HX.out 3).trans rfl; have kf3 : w5.frozen? ⟨mb, 3, none⟩ = false := blk_frozen HX.out 3)
      obtain ⟨wz1, hwz⟩ : ∃ wz : World, wz = ((w5.setCell ⟨mb, 2, none⟩ (.int .i64 p.f0)).setCell ⟨mb, 3, none⟩ (.int .i64 p.f1)) := ⟨_, rfl⟩
      have hbk := (blk_set (blk_set HX.out 2 (.int .i64 p.f0)) 3 (.int .i64 p.f1))
      have H2 : Aside0 (Kb g w wz1 ∧ RS w0 wz1 g A c b li2 ∧ wz1.heap[mb]? = some (.cells #[.int .i64 4, .string s, .int .i64 p.f0, .int .i64 p.f1, .int .i64 0, .int .i64 0, .int .i64 0, .int .i64 0, .int .i64 0, .int .i64 0, .int .i64 0, .int .i64 0, .int .i64 0, .int .i64 0, .string ⟨#[]⟩, .int .i64 0, .int .i64 0, .int .i64 0, .int .i64 0, .slice none 0 0] 33 (0, 0)) ∧ wz1.heap[w.heap.size]? = some (.cells #[.int .i64 0, .string ⟨#[]⟩, .int .i64 0, .int .i64 0, .int .i64 0, .int .i64 0, .int .i64 0, .int .i64 0, .int .i64 0, .int .i64 0, .int .i64 0, .int .i64 0, .int .i64 0, .int .i64 0, .string ⟨#[]⟩, .int .i64 0, .int .i64 0, .int .i64 0, .int .i64 0, .slice none 0 0] 33 (0, 0))) := ⟨by rw [hwz]; exact ⟨((HK5.out.1.setNew HMB.out.1 2 _).setNew HMB.out.1 3 _), ((HK5.out.2.2.setOther HMB.out.2.1 HMB.out.2.2.1 2 _).setOther HMB.out.2.1 HMB.out.2.2.1 3 _), by simpa using hbk, (blk_far (blk_far HXR.out HMB.out.2.2.2 2 (.int .i64 p.f0)) HMB.out.2.2.2 3 (.int .i64 p.f1))⟩⟩
      rw [← hwz]
      clear hwz hbk HK5 HX HXR kc2 kf2 kc3 kf3
      have kk : wz1.cell? ⟨mb, 0, none⟩ = some (.int .i64 4) := (blk_cell H2.out.2.2.1 0).trans rfl
      go_upto_region 28 with fail
      clear kk
      rcases h2 : pairP 1 1099511627776 0 15 li2 with n0 | ⟨ep, li3⟩
      · have HQ : Aside0 (msgP l = .bad n0) := ⟨by rw [HP.out, HSP.out, bnd_ok h0, bnd_ok h1, bnd_bad h2]⟩
        go_wp2_with (go_at_call 100; refine (epoch_calls w0 _ g A c b li2 HI.out H2.out.2.1).mono ?_; rintro e w5 ⟨hk, hb, hm⟩; simp only [h2, pan] at hm; subst hm; have HE := Aside0.mk (And.intro (H2.out.1.trans hk) hb); clear hk hb)
        refine ⟨rfl, HE.out.1, HE.out.2, ?_⟩
        rw [HQ.out]
        rfl
      · go_upto_region 29 with (go_at_call 100; refine (epoch_calls w0 _ g A c b li2 HI.out H2.out.2.1).mono ?_; rintro e w5 ⟨hk, hb, hm⟩; simp only [h2] at hm; obtain ⟨rfl, hs1⟩ := hm; have HK5 := Aside0.mk (And.intro (H2.out.1.trans hk) (And.intro hb hs1)); have HX := Aside0.mk (kb_blk hk HMB.out.2.1 H2.out.2.2.1); have HXR := Aside0.mk (kb_blk hk HNE.out H2.out.2.2.2); clear hk hb hs1; have kc4 : w5.cell? ⟨mb, 4, none⟩ = some (.int .i64 0) := (blk_cell HX.out 4).trans rfl; have kf4 : w5.frozen? ⟨mb, 4, none⟩ = false := blk_frozen HX.out 4; have kc5 : w5.cell? ⟨mb, 5, none⟩ = some (.int .i64 0) := (blk_cell HX.out 5).trans rfl; have kf5 : w5.frozen? ⟨mb, 5, none⟩ = false := blk_frozen HX.out 5)
        obtain ⟨wz2, hwz⟩ : ∃ wz : World, wz = ((w5.setCell ⟨mb, 4, none⟩ (.int .i64 ep.f0)).setCell ⟨mb, 5, none⟩ (.int .i64 ep.f1)) := ⟨_, rfl⟩
        have hbk := (blk_set (blk_set HX.out 4 (.int .i64 ep.f0)) 5 (.int .i64 ep.f1))
        have H3 : Aside0 (Kb g w wz2 ∧ RS w0 wz2 g A c b li3 ∧ wz2.heap[mb]? = some (.cells #[.int .i64 4, .string s, .int .i64 p.f0, .int .i64 p.f1, .int .i64 ep.f0, .int .i64 ep.f1, .int .i64 0, .int .i64 0, .int .i64 0, .int .i64 0, .int .i64 0, .int .i64 0, .int .i64 0, .int .i64 0, .string ⟨#[]⟩, .int .i64 0, .int .i64 0, .int .i64 0, .int .i64 0, .slice none 0 0] 33 (0, 0)) ∧ wz2.heap[w.heap.size]? = some (.cells #[.int .i64 0, .string ⟨#[]⟩, .int .i64 0, .int .i64 0, .int .i64 0, .int .i64 0, .int .i64 0, .int .i64 0, .int .i64 0, .int .i64 0, .int .i64 0, .int .i64 0, .int .i64 0, .int .i64 0, .string ⟨#[]⟩, .int .i64 0, .int .i64 0, .int .i64 0, .int .i64 0, .slice none 0 0] 33 (0, 0))) := ⟨by rw [hwz]; exact ⟨((HK5.out.1.setNew HMB.out.1 4 _).setNew HMB.out.1 5 _), ((HK5.out.2.2.setOther HMB.out.2.1 HMB.out.2.2.1 4 _).setOther HMB.out.2.1 HMB.out.2.2.1 5 _), by simpa using hbk, (blk_far (blk_far HXR.out HMB.out.2.2.2 4 (.int .i64 ep.f0)) HMB.out.2.2.2 5 (.int .i64 ep.f1))⟩⟩
        rw [← hwz]
        clear hwz hbk HK5 HX HXR kc4 kf4 kc5 kf5
        have kk : wz2.cell? ⟨mb, 0, none⟩ = some (.int .i64 4) := (blk_cell H3.out.2.2.1 0).trans rfl
        go_upto_region 29 with fail
        clear kk
        rcases h3 : pairP 0 1099511627776 0 1099511627776 li3 with n0 | ⟨rt, li4⟩
        · have HQ : Aside0 (msgP l = .bad n0) := ⟨by rw [HP.out, HSP.out, bnd_ok h0, bnd_ok h1, bnd_ok h2, bnd_bad h3]⟩
          go_wp2_with (go_at_call 101; refine (rights_calls w0 _ g A c b li3 HI.out H3.out.2.1).mono ?_; rintro e w5 ⟨hk, hb, hm⟩; simp only [h3, pan] at hm; subst hm; have HE := Aside0.mk (And.intro (H3.out.1.trans hk) hb); clear hk hb)
          refine ⟨rfl, HE.out.1, HE.out.2, ?_⟩
          rw [HQ.out]
          rfl
        · go_upto_region 30 with (go_at_call 101; refine (rights_calls w0 _ g A c b li3 HI.out H3.out.2.1).mono ?_; rintro e w5 ⟨hk, hb, hm⟩; simp only [h3] at hm; obtain ⟨rfl, hs1⟩ := hm; have HK5 := Aside0.mk (And.intro (H3.out.1.trans hk) (And.intro hb hs1)); have HX := Aside0.mk (kb_blk hk HMB.out.2.1 H3.out.2.2.1); have HXR := Aside0.mk (kb_blk hk HNE.out H3.out.2.2.2); clear hk hb hs1; have kc8 : w5.cell? ⟨mb, 8, none⟩ = some (.int .i64 0) := (blk_cell HX.out 8).trans rfl; have kf8 : w5.frozen? ⟨mb, 8, none⟩ = false := blk_frozen HX.out 8; have kc9 : w5.cell? ⟨mb, 9, none⟩ = some (.int .i64 0) := (blk_cell HX.out 9).trans rfl; have kf9 : w5.frozen? ⟨mb, 9, none⟩ = false := blk_frozen HX.out 9)
          obtain ⟨wz3, hwz⟩ : ∃ wz : World, wz = ((w5.setCell ⟨mb, 8, none⟩ (.int .i64 rt.f0)).setCell ⟨mb, 9, none⟩ (.int .i64 rt.f1)) := ⟨_, rfl⟩
          have hbk := (blk_set (blk_set HX.out 8 (.int .i64 rt.f0)) 9 (.int .i64 rt.f1))
          have H4 : Aside0 (Kb g w wz3 ∧ RS w0 wz3 g A c b li4 ∧ wz3.heap[mb]? = some (.cells #[.int .i64 4, .string s, .int .i64 p.f0, .int .i64 p.f1, .int .i64 ep.f0, .int .i64 ep.f1, .int .i64 0, .int .i64 0, .int .i64 rt.f0, .int .i64 rt.f1, .int .i64 0, .int .i64 0, .int .i64 0, .int .i64 0, .string ⟨#[]⟩, .int .i64 0, .int .i64 0, .int .i64 0, .int .i64 0, .slice none 0 0] 33 (0, 0)) ∧ wz3.heap[w.heap.size]? = some (.cells #[.int .i64 0, .string ⟨#[]⟩, .int .i64 0, .int .i64 0, .int .i64 0, .int .i64 0, .int .i64 0, .int .i64 0, .int .i64 0, .int .i64 0, .int .i64 0, .int .i64 0, .int .i64 0, .int .i64 0, .string ⟨#[]⟩, .int .i64 0, .int .i64 0, .int .i64 0, .int .i64 0, .slice none 0 0] 33 (0, 0))) := ⟨by rw [hwz]; exact ⟨((HK5.out.1.setNew HMB.out.1 8 _).setNew HMB.out.1 9 _), ((HK5.out.2.2.setOther HMB.out.2.1 HMB.out.2.2.1 8 _).setOther HMB.out.2.1 HMB.out.2.2.1 9 _), by simpa using hbk, (blk_far (blk_far HXR.out HMB.out.2.2.2 8 (.int .i64 rt.f0)) HMB.out.2.2.2 9 (.int .i64 rt.f1))⟩⟩
          rw [← hwz]
          clear hwz hbk HK5 HX HXR kc8 kf8 kc9 kf9
          have kk : wz3.cell? ⟨mb, 0, none⟩ = some (.int .i64 4) := (blk_cell H4.out.2.2.1 0).trans rfl
          go_upto_region 31 with fail
          clear kk
          rcases h4 : numP 0 1099511627776 li4 with n0 | ⟨hd, li5⟩
          · have HQ : Aside0 (msgP l = .bad n0) := ⟨by rw [HP.out, HSP.out, bnd_ok h0, bnd_ok h1, bnd_ok h2, bnd_ok h3, bnd_bad h4]⟩
            go_wp2_with (go_at_call 80; refine (num_calls w0 _ g A c b li4 0 1099511627776 (by decide) (by decide) (by decide) HI.out H4.out.2.1).mono ?_; rintro e w5 ⟨hk, hb, hm⟩; simp only [h4, pan] at hm; subst hm; have HE := Aside0.mk (And.intro (H4.out.1.trans hk) hb); clear hk hb)
            refine ⟨rfl, HE.out.1, HE.out.2, ?_⟩
            rw [HQ.out]
            rfl
          · go_upto_region 32 with (go_at_call 80; refine (num_calls w0 _ g A c b li4 0 1099511627776 (by decide) (by decide) (by decide) HI.out H4.out.2.1).mono ?_; rintro e w5 ⟨hk, hb, hm⟩; simp only [h4] at hm; obtain ⟨rfl, hs1⟩ := hm; have HK5 := Aside0.mk (And.intro (H4.out.1.trans hk) (And.intro hb hs1)); have HX := Aside0.mk (kb_blk hk HMB.out.2.1 H4.out.2.2.1); have HXR := Aside0.mk (kb_blk hk HNE.out H4.out.2.2.2); clear hk hb hs1; have kc10 : w5.cell? ⟨mb, 10, none⟩ = some (.int .i64 0) := (blk_cell HX.out 10).trans rfl; have kf10 : w5.frozen? ⟨mb, 10, none⟩ = false := blk_frozen HX.out 10)
            obtain ⟨wz4, hwz⟩ : ∃ wz : World, wz = (w5.setCell ⟨mb, 10, none⟩ (.int .i64 hd)) := ⟨_, rfl⟩
            have hbk := (blk_set HX.out 10 (.int .i64 hd))
            have H5 : Aside0 (Kb g w wz4 ∧ RS w0 wz4 g A c b li5 ∧ wz4.heap[mb]? = some (.cells #[.int .i64 4, .string s, .int .i64 p.f0, .int .i64 p.f1, .int .i64 ep.f0, .int .i64 ep.f1, .int .i64 0, .int .i64 0, .int .i64 rt.f0, .int .i64 rt.f1, .int .i64 hd, .int .i64 0, .int .i64 0, .int .i64 0, .string ⟨#[]⟩, .int .i64 0, .int .i64 0, .int .i64 0, .int .i64 0, .slice none 0 0] 33 (0, 0)) ∧ wz4.heap[w.heap.size]? = some (.cells #[.int .i64 0, .string ⟨#[]⟩, .int .i64 0, .int .i64 0, .int .i64 0, .int .i64 0, .int .i64 0, .int .i64 0, .int .i64 0, .int .i64 0, .int .i64 0, .int .i64 0, .int .i64 0, .int .i64 0, .string ⟨#[]⟩, .int .i64 0, .int .i64 0, .int .i64 0, .int .i64 0, .slice none 0 0] 33 (0, 0))) := ⟨by rw [hwz]; exact ⟨(HK5.out.1.setNew HMB.out.1 10 _), (HK5.out.2.2.setOther HMB.out.2.1 HMB.out.2.2.1 10 _), by simpa using hbk, (blk_far HXR.out HMB.out.2.2.2 10 (.int .i64 hd))⟩⟩
            rw [← hwz]
            clear hwz hbk HK5 HX HXR kc10 kf10
            have kk : wz4.cell? ⟨mb, 0, none⟩ = some (.int .i64 4) := (blk_cell H5.out.2.2.1 0).trans rfl
            go_upto_region 32 with fail
            clear kk
            have HQ : Aside0 (msgP l = .ok (mOf 4 s p ep z25 rt hd) li5) := ⟨by rw [HP.out, HSP.out, bnd_ok h0, bnd_ok h1, bnd_ok h2, bnd_ok h3, bnd_ok h4]; rfl⟩
            go_wp2_with ((with_reducible refine gate_dst (N := 87) rfl ?_); refine wpList_load_row rfl 33 (.tmp 3) rfl mb (by rfl) 33 _ (0, 0) _ H5.out.2.2.1 Try.underlying33 rfl inf33 ?_; go_loud (refine wpList_store_row rfl 33 (.tmp 2) (.tmp 87) rfl w.heap.size #[.int .i64 4, .string s, .int .i64 p.f0, .int .i64 p.f1, .int .i64 ep.f0, .int .i64 ep.f1, .int .i64 0, .int .i64 0, .int .i64 rt.f0, .int .i64 rt.f1, .int .i64 hd, .int .i64 0, .int .i64 0, .int .i64 0, .string ⟨#[]⟩, .int .i64 0, .int .i64 0, .int .i64 0, .int .i64 0, .slice none 0 0] (by rfl) (by rfl) 33 _ H5.out.2.2.2 inf33 rfl (by simp [Value.oneCell']) ?_))
            have HBL := setRow_blk H5.out.2.2.2 #[.int .i64 4, .string s, .int .i64 p.f0, .int .i64 p.f1, .int .i64 ep.f0, .int .i64 ep.f1, .int .i64 0, .int .i64 0, .int .i64 rt.f0, .int .i64 rt.f1, .int .i64 hd, .int .i64 0, .int .i64 0, .int .i64 0, .string ⟨#[]⟩, .int .i64 0, .int .i64 0, .int .i64 0, .int .i64 0, .slice none 0 0]
            (try simp only [Exit.inBlock, Exit.then])
            refine bodyPost_ret (v := .agg #[.int .i64 4, .string s, .int .i64 p.f0, .int .i64 p.f1, .int .i64 ep.f0, .int .i64 ep.f1, .int .i64 0, .int .i64 0, .int .i64 rt.f0, .int .i64 rt.f1, .int .i64 hd, .int .i64 0, .int .i64 0, .int .i64 0, .string ⟨#[]⟩, .int .i64 0, .int .i64 0, .int .i64 0, .int .i64 0, .slice none 0 0]) ?_ rfl ?_
            · exact results_cell_row rfl _ _ w.heap.size 33 _ (0, 0) _ (by rfl) HBL hu33 rfl inf33
            refine ⟨H5.out.1.setRowNew (Nat.le_refl _) _, (H5.out.2.1.setRowOther HNE.out HW0.out _).bel, ?_⟩
            rw [HQ.out]
            exact ⟨⟨none, 0, rfl, .inl ⟨rfl, rfl, rfl⟩⟩, H5.out.2.1.setRowOther HNE.out HW0.out _⟩
set_option maxHeartbeats 8000000 in
set_option maxRecDepth 100000 in
theorem msg7_calls (w0 w : World) (g : Nat) (A : Option Addr) (c : Nat) (b l r0 : List Int) (hi_ : In w0 A c b) (h : RS w0 w g A c b l) (hk : numP 1 10 l = .ok 7 r0) :
    Calls Try.prog 61 #[.pointer (some ⟨g, 0, none⟩)] w fun e w' => LeftM w0 w g A c b (msgP l) e w' := by
  have HI := Aside0.mk hi_
  have HS := Aside0.mk h
  have HNE := Aside0.mk (rs_ne h)
  have HW0 := Aside0.mk h.bel.size
  have HP : Aside0 (msgP l = restP 7 r0) := ⟨by unfold msgP; rw [bnd_ok hk]⟩
  have hu33 := Try.underlying33
  have hu23 := Try.underlying23
  have hu25 := Try.underlying25
  have hu27 := Try.underlying27
  have hu29 := Try.underlying29
  obtain ⟨wa, hwa⟩ : ∃ wa, wa = w.alloc (.cells #[.int .i64 0, .string ⟨#[]⟩, .int .i64 0, .int .i64 0, .int .i64 0, .int .i64 0, .int .i64 0, .int .i64 0, .int .i64 0, .int .i64 0, .int .i64 0, .int .i64 0, .int .i64 0, .int .i64 0, .string ⟨#[]⟩, .int .i64 0, .int .i64 0, .int .i64 0, .int .i64 0, .slice none 0 0] 33 (0, 0)) := ⟨_, rfl⟩
  have HWA := Aside0.mk hwa
  have HA : Aside0 (Kb g w wa ∧ RS w0 wa g A c b l ∧ wa.heap[w.heap.size]? = some (.cells #[.int .i64 0, .string ⟨#[]⟩, .int .i64 0, .int .i64 0, .int .i64 0, .int .i64 0, .int .i64 0, .int .i64 0, .int .i64 0, .int .i64 0, .int .i64 0, .int .i64 0, .int .i64 0, .int .i64 0, .string ⟨#[]⟩, .int .i64 0, .int .i64 0, .int .i64 0, .int .i64 0, .slice none 0 0] 33 (0, 0))) := ⟨by rw [hwa]; exact ⟨Kb.below (al_below w _), h.below (al_below w _), heap_alloc_new w _⟩⟩
  clear hi_ h hwa
  go_enter Try.func61, Try.ntmps61
  go_upto_region 1 with fail
  rw [← HWA.out]
  go_upto_region 2 with (first | ((with_reducible refine gate_dst (N := 3) rfl ?_); refine box_event ?hg (N := 3) ?hd (cs := #[.int .i64 0, .string ⟨#[]⟩, .int .i64 0, .int .i64 0, .int .i64 0, .int .i64 0, .int .i64 0, .int .i64 0, .int .i64 0, .int .i64 0, .int .i64 0, .int .i64 0, .int .i64 0, .int .i64 0, .string ⟨#[]⟩, .int .i64 0, .int .i64 0, .int .i64 0, .int .i64 0, .slice none 0 0]) (t := 33) ?hr ?_; (case hd => rfl); (case hg => rfl); (case hr => first | (go_simp; done) | (go_simp; rfl)); intro mb hmb w6 hbox hb6; go_loud (refine wpList_store_row rfl 33 (.tmp 3) (.tmp 6) rfl mb #[.int .i64 7, .string ⟨#[]⟩, .int .i64 0, .int .i64 0, .int .i64 0, .int .i64 0, .int .i64 0, .int .i64 0, .int .i64 0, .int .i64 0, .int .i64 0, .int .i64 0, .int .i64 0, .int .i64 0, .string ⟨#[]⟩, .int .i64 0, .int .i64 0, .int .i64 0, .int .i64 0, .slice none 0 0] (by rfl) (by rfl) 33 #[.int .i64 0, .string ⟨#[]⟩, .int .i64 0, .int .i64 0, .int .i64 0, .int .i64 0, .int .i64 0, .int .i64 0, .int .i64 0, .int .i64 0, .int .i64 0, .int .i64 0, .int .i64 0, .int .i64 0, .string ⟨#[]⟩, .int .i64 0, .int .i64 0, .int .i64 0, .int .i64 0, .slice none 0 0] hbox inf33 rfl (by simp [Value.oneCell']) ?_)) | (go_at_call 80; refine (num_calls w0 _ g A c b l 1 10 (by decide) (by decide) (by decide) HI.out HA.out.2.1).mono ?_; rintro e w5 ⟨hkb, hb, hm⟩; simp only [hk] at hm; obtain ⟨rfl, hs1⟩ := hm; have HK5 := Aside0.mk (And.intro (HA.out.1.trans hkb) (And.intro hb hs1)); have HR5 := Aside0.mk (kb_blk hkb HNE.out HA.out.2.2); clear hkb hb hs1))
  obtain ⟨wm, hwm⟩ : ∃ wm, wm = w6.setRow mb #[.int .i64 7, .string ⟨#[]⟩, .int .i64 0, .int .i64 0, .int .i64 0, .int .i64 0, .int .i64 0, .int .i64 0, .int .i64 0, .int .i64 0, .int .i64 0, .int .i64 0, .int .i64 0, .int .i64 0, .string ⟨#[]⟩, .int .i64 0, .int .i64 0, .int .i64 0, .int .i64 0, .slice none 0 0] := ⟨_, rfl⟩
  have H0 : Aside0 (Kb g w wm ∧ RS w0 wm g A c b r0 ∧ wm.heap[mb]? = some (.cells #[.int .i64 7, .string ⟨#[]⟩, .int .i64 0, .int .i64 0, .int .i64 0, .int .i64 0, .int .i64 0, .int .i64 0, .int .i64 0, .int .i64 0, .int .i64 0, .int .i64 0, .int .i64 0, .int .i64 0, .string ⟨#[]⟩, .int .i64 0, .int .i64 0, .int .i64 0, .int .i64 0, .slice none 0 0] 33 (0, 0)) ∧ wm.heap[w.heap.size]? = some (.cells #[.int .i64 0, .string ⟨#[]⟩, .int .i64 0, .int .i64 0, .int .i64 0, .int .i64 0, .int .i64 0, .int .i64 0, .int .i64 0, .int .i64 0, .int .i64 0, .int .i64 0, .int .i64 0, .int .i64 0, .string ⟨#[]⟩, .int .i64 0, .int .i64 0, .int .i64 0, .int .i64 0, .slice none 0 0] 33 (0, 0))) := ⟨by rw [hwm]; exact ⟨(HK5.out.1.trans (Kb.below hb6)).setRowNew (by rw [hmb]; exact HK5.out.1.size) _, (HK5.out.2.2.below hb6).setRowOther (by rw [hmb]; exact rs_ne HK5.out.2.2) (by rw [hmb]; exact HK5.out.2.1.size) _, setRow_blk hbox _, (setRow_far (by rw [hmb]; exact Nat.ne_of_lt (blk_lt HR5.out)) _).trans (blk_keep hb6 HR5.out)⟩⟩
  have HMB : Aside0 (w.heap.size ≤ mb ∧ mb ≠ g ∧ w0.heap.size ≤ mb ∧ mb ≠ w.heap.size) := ⟨by rw [hmb]; exact ⟨HK5.out.1.size, rs_ne HK5.out.2.2, HK5.out.2.1.size, by have := blk_lt HR5.out; omega⟩⟩
  rw [← hwm]
  clear hwm hmb hbox hb6 HK5 HR5
  obtain ⟨li0, hli⟩ : ∃ li0, li0 = r0 := ⟨_, rfl⟩
  rw [← hli] at H0 HP
  clear hli hk
  have HSP : Aside0 (restP 7 li0 = (bnd (nameP eB) fun s => bnd (pairP 1 1099511627776 0 1099511627776) fun p => bnd (pairP 1 1099511627776 0 15) fun ep => bnd (pairP 1 1099511627776 0 15) fun ov => ret (mOf 7 s p ep ov z25 0)) li0) := ⟨by unfold restP; rw [if_neg (by decide), if_neg (by decide), if_neg (by decide)]; unfold ofP optP; simp only [hasEp, hasRt, Int.reduceLE, Int.reduceEq, and_self, or_self, or_true, true_or, and_true, true_and, or_false, false_or, and_false, false_and, if_true, if_false, ite_true, ite_false, bnd_ret, reduceIte]; rfl⟩
  have kk : wm.cell? ⟨mb, 0, none⟩ = some (.int .i64 7) := (blk_cell H0.out.2.2.1 0).trans rfl
  go_upto_region 17 with fail
  clear kk
  rcases h0 : nameP eB li0 with n0 | ⟨s, li1⟩
  · have HQ : Aside0 (msgP l = .bad n0) := ⟨by rw [HP.out, HSP.out, bnd_bad h0]⟩
    go_wp2_with (go_at_call 97; refine (name_calls w0 _ g A c b li0 eB HI.out H0.out.2.1).mono ?_; rintro e w5 ⟨hk, hb, hm⟩; simp only [h0, pan] at hm; subst hm; have HE := Aside0.mk (And.intro (H0.out.1.trans hk) hb); clear hk hb)
    refine ⟨rfl, HE.out.1, HE.out.2, ?_⟩
    rw [HQ.out]
    rfl
  · go_upto_region 18 with (go_at_call 97; refine (name_calls w0 _ g A c b li0 eB HI.out H0.out.2.1).mono ?_; rintro e w5 ⟨hk, hb, hm⟩; simp only [h0] at hm; obtain ⟨rfl, hs1⟩ := hm; have HK5 := Aside0.mk (And.intro (H0.out.1.trans hk) (And.intro hb hs1)); have HX := Aside0.mk (kb_blk hk HMB.out.2.1 H0.out.2.2.1); have HXR := Aside0.mk (kb_blk hk HNE.out H0.out.2.2.2); clear hk hb hs1; have kc1 : w5.cell? ⟨mb, 1, none⟩ = some (.string ⟨#[]⟩) := (blk_cell HX.out 1).trans rfl; have kf1 : w5.frozen? ⟨mb, 1, none⟩ = false := blk_frozen HX.out 1)
    obtain ⟨wz0, hwz⟩ : ∃ wz : World, wz = (w5.setCell ⟨mb, 1, none⟩ (.string s)) := ⟨_, rfl⟩
    have hbk := (blk_set HX.out 1 (.string s))
    have H1 : Aside0 (Kb g w wz0 ∧ RS w0 wz0 g A c b li1 ∧ wz0.heap[mb]? = some (.cells #[.int .i64 7, .string s, .int .i64 0, .int .i64 0, .int .i64 0, .int .i64 0, .int .i64 0, .int .i64 0, .int .i64 0, .int .i64 0, .int .i64 0, .int .i64 0, .int .i64 0, .int .i64 0, .string ⟨#[]⟩, .int .i64 0, .int .i64 0, .int .i64 0, .int .i64 0, .slice none 0 0] 33 (0, 0)) ∧ wz0.heap[w.heap.size]? = some (.cells #[.int .i64 0, .string ⟨#[]⟩, .int .i64 0, .int .i64 0, .int .i64 0, .int .i64 0, .int .i64 0, .int .i64 0, .int .i64 0, .int .i64 0, .int .i64 0, .int .i64 0, .int .i64 0, .int .i64 0, .string ⟨#[]⟩, .int .i64 0, .int .i64 0, .int .i64 0, .int .i64 0, .slice none 0 0] 33 (0, 0))) := ⟨by rw [hwz]; exact ⟨(HK5.out.1.setNew HMB.out.1 1 _), (HK5.out.2.2.setOther HMB.out.2.1 HMB.out.2.2.1 1 _), by simpa using hbk, (blk_far HXR.out HMB.out.2.2.2 1 (.string s))⟩⟩
    rw [← hwz]
    clear hwz hbk HK5 HX HXR kc1 kf1
    have kk : wz0.cell? ⟨mb, 0, none⟩ = some (.int .i64 7) := (blk_cell H1.out.2.2.1 0).trans rfl
    go_upto_region 18 with fail
    clear kk
    rcases h1 : pairP 1 1099511627776 0 1099511627776 li1 with n0 | ⟨p, li2⟩
    · have HQ : Aside0 (msgP l = .bad n0) := ⟨by rw [HP.out, HSP.out, bnd_ok h0, bnd_bad h1]⟩
      go_wp2_with (go_at_call 98; refine (cap_calls w0 _ g A c b li1 HI.out H1.out.2.1).mono ?_; rintro e w5 ⟨hk, hb, hm⟩; simp only [h1, pan] at hm; subst hm; have HE := Aside0.mk (And.intro (H1.out.1.trans hk) hb); clear hk hb)
      refine ⟨rfl, HE.out.1, HE.out.2, ?_⟩
      rw [HQ.out]
      rfl
    · go_upto_region 19 with (go_at_call 98; refine (cap_calls w0 _ g A c b li1 HI.out H1.out.2.1).mono ?_; rintro e w5 ⟨hk, hb, hm⟩; simp only [h1] at hm; obtain ⟨rfl, hs1⟩ := hm; have HK5 := Aside0.mk (And.intro (H1.out.1.trans hk) (And.intro hb hs1)); have HX := Aside0.mk (kb_blk hk HMB.out.2.1 H1.out.2.2.1); have HXR := Aside0.mk (kb_blk hk HNE.out H1.out.2.2.2); clear hk hb hs1; have kc2 : w5.cell? ⟨mb, 2, none⟩ = some (.int .i64 0) := (blk_cell HX.out 2).trans rfl; have kf2 : w5.frozen? ⟨mb, 2, none⟩ = false := blk_frozen HX.out 2; have kc3 : w5.cell? ⟨mb, 3, none⟩ = some (.int .i64 0) := (blk_cell HX.out 3).trans rfl; have kf3 : w5.frozen? ⟨mb, 3, none⟩ = false := blk_frozen HX.out 3)
      obtain ⟨wz1, hwz⟩ : ∃ wz : World, wz = ((w5.setCell ⟨mb, 2, none⟩ (.int .i64 p.f0)).setCell ⟨mb, 3, none⟩ (.int .i64 p.f1)) := ⟨_, rfl⟩
      have hbk := (blk_set (blk_set HX.out 2 (.int .i64 p.f0)) 3 (.int .i64 p.f1))
      have H2 : Aside0 (Kb g w wz1 ∧ RS w0 wz1 g A c b li2 ∧ wz1.heap[mb]? = some (.cells #[.int .i64 7, .string s, .int .i64 p.f0, .int .i64 p.f1, .int .i64 0, .int .i64 0, .int .i64 0, .int .i64 0, .int .i64 0, .int .i64 0, .int .i64 0, .int .i64 0, .int .i64 0, .int .i64 0, .string ⟨#[]⟩, .int .i64 0, .int .i64 0, .int .i64 0, .int .i64 0, .slice none 0 0] 33 (0, 0)) ∧ wz1.heap[w.heap.size]? = some (.cells #[.int .i64 0, .string ⟨#[]⟩, .int .i64 0, .int .i64 0, .int .i64 0, .int .i64 0, .int .i64 0, .int .i64 0, .int .i64 0, .int .i64 0, .int .i64 0, .int .i64 0, .int .i64 0, .int .i64 0, .string ⟨#[]⟩, .int .i64 0, .int .i64 0, .int .i64 0, .int .i64 0, .slice none 0 0] 33 (0, 0))) := ⟨by rw [hwz]; exact ⟨((HK5.out.1.setNew HMB.out.1 2 _).setNew HMB.out.1 3 _), ((HK5.out.2.2.setOther HMB.out.2.1 HMB.out.2.2.1 2 _).setOther HMB.out.2.1 HMB.out.2.2.1 3 _), by simpa using hbk, (blk_far (blk_far HXR.out HMB.out.2.2.2 2 (.int .i64 p.f0)) HMB.out.2.2.2 3 (.int .i64 p.f1))⟩⟩
      rw [← hwz]
      clear hwz hbk HK5 HX HXR kc2 kf2 kc3 kf3
      have kk : wz1.cell? ⟨mb, 0, none⟩ = some (.int .i64 7) := (blk_cell H2.out.2.2.1 0).trans rfl
      go_upto_region 26 with fail
      clear kk
      rcases h2 : pairP 1 1099511627776 0 15 li2 with n0 | ⟨ep, li3⟩
      · have HQ : Aside0 (msgP l = .bad n0) := ⟨by rw [HP.out, HSP.out, bnd_ok h0, bnd_ok h1, bnd_bad h2]⟩
        go_wp2_with (go_at_call 100; refine (epoch_calls w0 _ g A c b li2 HI.out H2.out.2.1).mono ?_; rintro e w5 ⟨hk, hb, hm⟩; simp only [h2, pan] at hm; subst hm; have HE := Aside0.mk (And.intro (H2.out.1.trans hk) hb); clear hk hb)
        refine ⟨rfl, HE.out.1, HE.out.2, ?_⟩
        rw [HQ.out]
        rfl
      · go_upto_region 27 with (go_at_call 100; refine (epoch_calls w0 _ g A c b li2 HI.out H2.out.2.1).mono ?_; rintro e w5 ⟨hk, hb, hm⟩; simp only [h2] at hm; obtain ⟨rfl, hs1⟩ := hm; have HK5 := Aside0.mk (And.intro (H2.out.1.trans hk) (And.intro hb hs1)); have HX := Aside0.mk (kb_blk hk HMB.out.2.1 H2.out.2.2.1); have HXR := Aside0.mk (kb_blk hk HNE.out H2.out.2.2.2); clear hk hb hs1; have kc4 : w5.cell? ⟨mb, 4, none⟩ = some (.int .i64 0) := (blk_cell HX.out 4).trans rfl; have kf4 : w5.frozen? ⟨mb, 4, none⟩ = false := blk_frozen HX.out 4; have kc5 : w5.cell? ⟨mb, 5, none⟩ = some (.int .i64 0) := (blk_cell HX.out 5).trans rfl; have kf5 : w5.frozen? ⟨mb, 5, none⟩ = false := blk_frozen HX.out 5)
        obtain ⟨wz2, hwz⟩ : ∃ wz : World, wz = ((w5.setCell ⟨mb, 4, none⟩ (.int .i64 ep.f0)).setCell ⟨mb, 5, none⟩ (.int .i64 ep.f1)) := ⟨_, rfl⟩
        have hbk := (blk_set (blk_set HX.out 4 (.int .i64 ep.f0)) 5 (.int .i64 ep.f1))
        have H3 : Aside0 (Kb g w wz2 ∧ RS w0 wz2 g A c b li3 ∧ wz2.heap[mb]? = some (.cells #[.int .i64 7, .string s, .int .i64 p.f0, .int .i64 p.f1, .int .i64 ep.f0, .int .i64 ep.f1, .int .i64 0, .int .i64 0, .int .i64 0, .int .i64 0, .int .i64 0, .int .i64 0, .int .i64 0, .int .i64 0, .string ⟨#[]⟩, .int .i64 0, .int .i64 0, .int .i64 0, .int .i64 0, .slice none 0 0] 33 (0, 0)) ∧ wz2.heap[w.heap.size]? = some (.cells #[.int .i64 0, .string ⟨#[]⟩, .int .i64 0, .int .i64 0, .int .i64 0, .int .i64 0, .int .i64 0, .int .i64 0, .int .i64 0, .int .i64 0, .int .i64 0, .int .i64 0, .int .i64 0, .int .i64 0, .string ⟨#[]⟩, .int .i64 0, .int .i64 0, .int .i64 0, .int .i64 0, .slice none 0 0] 33 (0, 0))) := ⟨by rw [hwz]; exact ⟨((HK5.out.1.setNew HMB.out.1 4 _).setNew HMB.out.1 5 _), ((HK5.out.2.2.setOther HMB.out.2.1 HMB.out.2.2.1 4 _).setOther HMB.out.2.1 HMB.out.2.2.1 5 _), by simpa using hbk, (blk_far (blk_far HXR.out HMB.out.2.2.2 4 (.int .i64 ep.f0)) HMB.out.2.2.2 5 (.int .i64 ep.f1))⟩⟩
        rw [← hwz]
        clear hwz hbk HK5 HX HXR kc4 kf4 kc5 kf5
        have kk : wz2.cell? ⟨mb, 0, none⟩ = some (.int .i64 7) := (blk_cell H3.out.2.2.1 0).trans rfl
        go_upto_region 27 with fail
        clear kk
        rcases h3 : pairP 1 1099511627776 0 15 li3 with n0 | ⟨ov, li4⟩
        · have HQ : Aside0 (msgP l = .bad n0) := ⟨by rw [HP.out, HSP.out, bnd_ok h0, bnd_ok h1, bnd_ok h2, bnd_bad h3]⟩
          go_wp2_with (go_at_call 100; refine (epoch_calls w0 _ g A c b li3 HI.out H3.out.2.1).mono ?_; rintro e w5 ⟨hk, hb, hm⟩; simp only [h3, pan] at hm; subst hm; have HE := Aside0.mk (And.intro (H3.out.1.trans hk) hb); clear hk hb)
          refine ⟨rfl, HE.out.1, HE.out.2, ?_⟩
          rw [HQ.out]
          rfl
        · go_upto_region 32 with (go_at_call 100; refine (epoch_calls w0 _ g A c b li3 HI.out H3.out.2.1).mono ?_; rintro e w5 ⟨hk, hb, hm⟩; simp only [h3] at hm; obtain ⟨rfl, hs1⟩ := hm; have HK5 := Aside0.mk (And.intro (H3.out.1.trans hk) (And.intro hb hs1)); have HX := Aside0.mk (kb_blk hk HMB.out.2.1 H3.out.2.2.1); have HXR := Aside0.mk (kb_blk hk HNE.out H3.out.2.2.2); clear hk hb hs1; have kc6 : w5.cell? ⟨mb, 6, none⟩ = some (.int .i64 0) := (blk_cell HX.out 6).trans rfl; have kf6 : w5.frozen? ⟨mb, 6, none⟩ = false := blk_frozen HX.out 6; have kc7 : w5.cell? ⟨mb, 7, none⟩ = some (.int .i64 0) := (blk_cell HX.out 7).trans rfl; have kf7 : w5.frozen? ⟨mb, 7, none⟩ = false := blk_frozen HX.out 7)
          obtain ⟨wz3, hwz⟩ : ∃ wz : World, wz = ((w5.setCell ⟨mb, 6, none⟩ (.int .i64 ov.f0)).setCell ⟨mb, 7, none⟩ (.int .i64 ov.f1)) := ⟨_, rfl⟩
          have hbk := (blk_set (blk_set HX.out 6 (.int .i64 ov.f0)) 7 (.int .i64 ov.f1))
          have H4 : Aside0 (Kb g w wz3 ∧ RS w0 wz3 g A c b li4 ∧ wz3.heap[mb]? = some (.cells #[.int .i64 7, .string s, .int .i64 p.f0, .int .i64 p.f1, .int .i64 ep.f0, .int .i64 ep.f1, .int .i64 ov.f0, .int .i64 ov.f1, .int .i64 0, .int .i64 0, .int .i64 0, .int .i64 0, .int .i64 0, .int .i64 0, .string ⟨#[]⟩, .int .i64 0, .int .i64 0, .int .i64 0, .int .i64 0, .slice none 0 0] 33 (0, 0)) ∧ wz3.heap[w.heap.size]? = some (.cells #[.int .i64 0, .string ⟨#[]⟩, .int .i64 0, .int .i64 0, .int .i64 0, .int .i64 0, .int .i64 0, .int .i64 0, .int .i64 0, .int .i64 0, .int .i64 0, .int .i64 0, .int .i64 0, .int .i64 0, .string ⟨#[]⟩, .int .i64 0, .int .i64 0, .int .i64 0, .int .i64 0, .slice none 0 0] 33 (0, 0))) := ⟨by rw [hwz]; exact ⟨((HK5.out.1.setNew HMB.out.1 6 _).setNew HMB.out.1 7 _), ((HK5.out.2.2.setOther HMB.out.2.1 HMB.out.2.2.1 6 _).setOther HMB.out.2.1 HMB.out.2.2.1 7 _), by simpa using hbk, (blk_far (blk_far HXR.out HMB.out.2.2.2 6 (.int .i64 ov.f0)) HMB.out.2.2.2 7 (.int .i64 ov.f1))⟩⟩
          rw [← hwz]
          clear hwz hbk HK5 HX HXR kc6 kf6 kc7 kf7
          have kk : wz3.cell? ⟨mb, 0, none⟩ = some (.int .i64 7) := (blk_cell H4.out.2.2.1 0).trans rfl
          go_upto_region 32 with fail
          clear kk
          have HQ : Aside0 (msgP l = .ok (mOf 7 s p ep ov z25 0) li4) := ⟨by rw [HP.out, HSP.out, bnd_ok h0, bnd_ok h1, bnd_ok h2, bnd_ok h3]; rfl⟩
          go_wp2_with ((with_reducible refine gate_dst (N := 87) rfl ?_); refine wpList_load_row rfl 33 (.tmp 3) rfl mb (by rfl) 33 _ (0, 0) _ H4.out.2.2.1 Try.underlying33 rfl inf33 ?_; go_loud (refine wpList_store_row rfl 33 (.tmp 2) (.tmp 87) rfl w.heap.size #[.int .i64 7, .string s, .int .i64 p.f0, .int .i64 p.f1, .int .i64 ep.f0, .int .i64 ep.f1, .int .i64 ov.f0, .int .i64 ov.f1, .int .i64 0, .int .i64 0, .int .i64 0, .int .i64 0, .int .i64 0, .int .i64 0, .string ⟨#[]⟩, .int .i64 0, .int .i64 0, .int .i64 0, .int .i64 0, .slice none 0 0] (by rfl) (by rfl) 33 _ H4.out.2.2.2 inf33 rfl (by simp [Value.oneCell']) ?_))
          have HBL := setRow_blk H4.out.2.2.2 #[.int .i64 7, .string s, .int .i64 p.f0, .int .i64 p.f1, .int .i64 ep.f0, .int .i64 ep.f1, .int .i64 ov.f0, .int .i64 ov.f1, .int .i64 0, .int .i64 0, .int .i64 0, .int .i64 0, .int .i64 0, .int .i64 0, .string ⟨#[]⟩, .int .i64 0, .int .i64 0, .int .i64 0, .int .i64 0, .slice none 0 0]
          (try simp only [Exit.inBlock, Exit.then])
          refine bodyPost_ret (v := .agg #[.int .i64 7, .string s, .int .i64 p.f0, .int .i64 p.f1, .int .i64 ep.f0, .int .i64 ep.f1, .int .i64 ov.f0, .int .i64 ov.f1, .int .i64 0, .int .i64 0, .int .i64 0, .int .i64 0, .int .i64 0, .int .i64 0, .string ⟨#[]⟩, .int .i64 0, .int .i64 0, .int .i64 0, .int .i64 0, .slice none 0 0]) ?_ rfl ?_
          · exact results_cell_row rfl _ _ w.heap.size 33 _ (0, 0) _ (by rfl) HBL hu33 rfl inf33
          refine ⟨H4.out.1.setRowNew (Nat.le_refl _) _, (H4.out.2.1.setRowOther HNE.out HW0.out _).bel, ?_⟩
          rw [HQ.out]
          exact ⟨⟨none, 0, rfl, .inl ⟨rfl, rfl, rfl⟩⟩, H4.out.2.1.setRowOther HNE.out HW0.out _⟩
end Go.Proofs.Ytpgdmmjbhjbbhaa.Rd
end
section
namespace Go.Proofs.Ytpgdmmjbhjbbhaa.Rd
open Go Go.RowKit Go.Proofs.Ytpgdmmjbhjbbhaa.P Go.Proofs.Ytpgdmmjbhjbbhaa.Sp Go.Proofs.Ytpgdmmjbhjbbhaa.Vd Go.Proofs.Ytpgdmmjbhjbbhaa.En Go.Proofs.Ytpgdmmjbhjbbhaa.Wr Go.Proofs.YtpgdmmjbhjbbhaaW.PrintWords Go.Proofs.YtpgdmmjbhjbbhaaW.PrintLast Go.Proofs.YtpgdmmjbhjbbhaaW.PrintMore
set_option linter.unusedVariables false
set_option linter.unusedSimpArgs false
set_option maxHeartbeats 8000000 in
set_option maxRecDepth 100000 in
theorem msg5_calls (w0 w : World) (g : Nat) (A : Option Addr) (c : Nat) (b l r0 : List Int) (hi_ : In w0 A c b) (h : RS w0 w g A c b l) (hk : numP 1 10 l = .ok 5 r0) :
    Calls Try.prog 61 #[.pointer (some ⟨g, 0, none⟩)] w fun e w' => LeftM w0 w g A c b (msgP l) e w' := by
  have HI := Aside0.mk hi_
  have HS := Aside0.mk h
  have HNE := Aside0.mk (rs_ne h)
  have HW0 := Aside0.mk h.bel.size
  have HP : Aside0 (msgP l = restP 5 r0) := ⟨by unfold msgP; rw [bnd_ok hk]⟩
  have hu33 := Try.underlying33
  have hu23 := Try.underlying23
  have hu25 := Try.underlying25
  have hu27 := Try.underlying27
  have hu29 := Try.underlying29
  obtain ⟨wa, hwa⟩ : ∃ wa, wa = w.alloc (.cells #[.int .i64 0, .string ⟨#[]⟩, .int .i64 0, .int .i64 0, .int .i64 0, .int .i64 0, .int .i64 0, .int .i64 0, .int .i64 0, .int .i64 0, .int .i64 0, .int .i64 0, .int .i64 0, .int .i64 0, .string ⟨#[]⟩, .int .i64 0, .int .i64 0, .int .i64 0, .int .i64 0, .slice none 0 0] 33 (0, 0)) := ⟨_, rfl⟩
  have HWA := Aside0.mk hwa
  have HA : Aside0 (Kb g w wa ∧ RS w0 wa g A c b l ∧ wa.heap[w.heap.size]? = some (.cells #[.int .i64 0, .string ⟨#[]⟩, .int .i64 0, .int .i64 0, .int .i64 0, .int .i64 0, .int .i64 0, .int .i64 0, .int .i64 0, .int .i64 0, .int .i64 0, .int .i64 0, .int .i64 0, .int .i64 0, .string ⟨#[]⟩, .int .i64 0, .int .i64 0, .int .i64 0, .int .i64 0, .slice none 0 0] 33 (0, 0))) := ⟨by rw [hwa]; exact ⟨Kb.below (al_below w _), h.below (al_below w _), heap_alloc_new w _⟩⟩
  clear hi_ h hwa
  go_enter Try.func61, Try.ntmps61
  go_upto_region 1 with fail
  rw [← HWA.out]
  go_upto_region 2 with (first | ((with_reducible refine gate_dst (N := 3) rfl ?_); refine box_event ?hg (N := 3) ?hd (cs := #[.int .i64 0, .string ⟨#[]⟩, .int .i64 0, .int .i64 0, .int .i64 0, .int .i64 0, .int .i64 0, .int .i64 0, .int .i64 0, .int .i64 0, .int .i64 0, .int .i64 0, .int .i64 0, .int .i64 0, .string ⟨#[]⟩, .int .i64 0, .int .i64 0, .int .i64 0, .int .i64 0, .slice none 0 0]) (t := 33) ?hr ?_; (case hd => rfl); (case hg => rfl); (case hr => first | (go_simp; done) | (go_simp; rfl)); intro mb hmb w6 hbox hb6; go_loud (refine wpList_store_row rfl 33 (.tmp 3) (.tmp 6) rfl mb #[.int .i64 5, .string ⟨#[]⟩, .int .i64 0, .int .i64 0, .int .i64 0, .int .i64 0, .int .i64 0, .int .i64 0, .int .i64 0, .int .i64 0, .int .i64 0, .int .i64 0, .int .i64 0, .int .i64 0, .string ⟨#[]⟩, .int .i64 0, .int .i64 0, .int .i64 0, .int .i64 0, .slice none 0 0] (by rfl) (by rfl) 33 #[.int .i64 0, .string ⟨#[]⟩, .int .i64 0, .int .i64 0, .int .i64 0, .int .i64 0, .int .i64 0, .int .i64 0, .int .i64 0, .int .i64 0, .int .i64 0, .int .i64 0, .int .i64 0, .int .i64 0, .string ⟨#[]⟩, .int .i64 0, .int .i64 0, .int .i64 0, .int .i64 0, .slice none 0 0] hbox inf33 rfl (by simp [Value.oneCell']) ?_)) | (go_at_call 80; refine (num_calls w0 _ g A c b l 1 10 (by decide) (by decide) (by decide) HI.out HA.out.2.1).mono ?_; rintro e w5 ⟨hkb, hb, hm⟩; simp only [hk] at hm; obtain ⟨rfl, hs1⟩ := hm; have HK5 := Aside0.mk (And.intro (HA.out.1.trans hkb) (And.intro hb hs1)); have HR5 := Aside0.mk (kb_blk hkb HNE.out HA.out.2.2); clear hkb hb hs1))
  obtain ⟨wm, hwm⟩ : ∃ wm, wm = w6.setRow mb #[.int .i64 5, .string ⟨#[]⟩, .int .i64 0, .int .i64 0, .int .i64 0, .int .i64 0, .int .i64 0, .int .i64 0, .int .i64 0, .int .i64 0, .int .i64 0, .int .i64 0, .int .i64 0, .int .i64 0, .string ⟨#[]⟩, .int .i64 0, .int .i64 0, .int .i64 0, .int .i64 0, .slice none 0 0] := ⟨_, rfl⟩
  have H0 : Aside0 (Kb g w wm ∧ RS w0 wm g A c b r0 ∧ wm.heap[mb]? = some (.cells #[.int .i64 5, .string ⟨#[]⟩, .int .i64 0, .int .i64 0, .int .i64 0, .int .i64 0, .int .i64 0, .int .i64 0, .int .i64 0, .int .i64 0, .int .i64 0, .int .i64 0, .int .i64 0, .int .i64 0, .string ⟨#[]⟩, .int .i64 0, .int .i64 0, .int .i64 0, .int .i64 0, .slice none 0 0] 33 (0, 0)) ∧ wm.heap[w.heap.size]? = some (.cells #[.int .i64 0, .string ⟨#[]⟩, .int .i64 0, .int .i64 0, .int .i64 0, .int .i64 0, .int .i64 0, .int .i64 0, .int .i64 0, .int .i64 0, .int .i64 0, .int .i64 0, .int .i64 0, .int .i64 0, .string ⟨#[]⟩, .int .i64 0, .int .i64 0, .int .i64 0, .int .i64 0, .slice none 0 0] 33 (0, 0))) := ⟨by rw [hwm]; exact ⟨(HK5.out.1.trans (Kb.below hb6)).setRowNew (by rw [hmb]; exact HK5.out.1.size) _, (HK5.out.2.2.below hb6).setRowOther (by rw [hmb]; exact rs_ne HK5.out.2.2) (by rw [hmb]; exact HK5.out.2.1.size) _, setRow_blk hbox _, (setRow_far (by rw [hmb]; exact Nat.ne_of_lt (blk_lt HR5.out)) _).trans (blk_keep hb6 HR5.out)⟩⟩
  have HMB : Aside0 (w.heap.size ≤ mb ∧ mb ≠ g ∧ w0.heap.size ≤ mb ∧ mb ≠ w.heap.size) := ⟨by rw [hmb]; exact ⟨HK5.out.1.size, rs_ne HK5.out.2.2, HK5.out.2.1.size, by have := blk_lt HR5.out; omega⟩⟩
  rw [← hwm]
  clear hwm hmb hbox hb6 HK5 HR5
  obtain ⟨li0, hli⟩ : ∃ li0, li0 = r0 := ⟨_, rfl⟩
  rw [← hli] at H0 HP
  clear hli hk
  have HSP : Aside0 (restP 5 li0 = (bnd (nameP eB) fun s => bnd (pairP 1 1099511627776 0 1099511627776) fun p => bnd (pairP 1 1099511627776 0 15) fun ep => bnd (pairP 0 1099511627776 0 1099511627776) fun rt => ret (mOf 5 s p ep z25 rt 0)) li0) := ⟨by unfold restP; rw [if_neg (by decide), if_neg (by decide), if_neg (by decide)]; unfold ofP optP; simp only [hasEp, hasRt, Int.reduceLE, Int.reduceEq, and_self, or_self, or_true, true_or, and_true, true_and, or_false, false_or, and_false, false_and, if_true, if_false, ite_true, ite_false, bnd_ret, reduceIte]; rfl⟩
  have kk : wm.cell? ⟨mb, 0, none⟩ = some (.int .i64 5) := (blk_cell H0.out.2.2.1 0).trans rfl
  go_upto_region 17 with fail
  clear kk
  rcases h0 : nameP eB li0 with n0 | ⟨s, li1⟩
  · have HQ : Aside0 (msgP l = .bad n0) := ⟨by rw [HP.out, HSP.out, bnd_bad h0]⟩
    go_wp2_with (go_at_call 97; refine (name_calls w0 _ g A c b li0 eB HI.out H0.out.2.1).mono ?_; rintro e w5 ⟨hk, hb, hm⟩; simp only [h0, pan] at hm; subst hm; have HE := Aside0.mk (And.intro (H0.out.1.trans hk) hb); clear hk hb)
    refine ⟨rfl, HE.out.1, HE.out.2, ?_⟩
    rw [HQ.out]
    rfl
  · go_upto_region 18 with (go_at_call 97; refine (name_calls w0 _ g A c b li0 eB HI.out H0.out.2.1).mono ?_; rintro e w5 ⟨hk, hb, hm⟩; simp only [h0] at hm; obtain ⟨rfl, hs1⟩ := hm; have HK5 := Aside0.mk (And.intro (H0.out.1.trans hk) (And.intro hb hs1)); have HX := Aside0.mk (kb_blk hk HMB.out.2.1 H0.out.2.2.1); have HXR := Aside0.mk (kb_blk hk HNE.out H0.out.2.2.2); clear hk hb hs1; have kc1 : w5.cell? ⟨mb, 1, none⟩ = some (.string ⟨#[]⟩) := (blk_cell HX.out 1).trans rfl; have kf1 : w5.frozen? ⟨mb, 1, none⟩ = false := blk_frozen HX.out 1)
    obtain ⟨wz0, hwz⟩ : ∃ wz : World, wz = (w5.setCell ⟨mb, 1, none⟩ (.string s)) := ⟨_, rfl⟩
    have hbk := (blk_set HX.out 1 (.string s))
    have H1 : Aside0 (Kb g w wz0 ∧ RS w0 wz0 g A c b li1 ∧ wz0.heap[mb]? = some (.cells #[.int .i64 5, .string s, .int .i64 0, .int .i64 0, .int .i64 0, .int .i64 0, .int .i64 0, .int .i64 0, .int .i64 0, .int .i64 0, .int .i64 0, .int .i64 0, .int .i64 0, .int .i64 0, .string ⟨#[]⟩, .int .i64 0, .int .i64 0, .int .i64 0, .int .i64 0, .slice none 0 0] 33 (0, 0)) ∧ wz0.heap[w.heap.size]? = some (.cells #[.int .i64 0, .string ⟨#[]⟩, .int .i64 0, .int .i64 0, .int .i64 0, .int .i64 0, .int .i64 0, .int .i64 0, .int .i64 0, .int .i64 0, .int .i64 0, .int .i64 0, .int .i64 0, .int .i64 0, .string ⟨#[]⟩, .int .i64 0, .int .i64 0, .int .i64 0, .int .i64 0, .slice none 0 0] 33 (0, 0))) := ⟨by rw [hwz]; exact ⟨(HK5.out.1.setNew HMB.out.1 1 _), (HK5.out.2.2.setOther HMB.out.2.1 HMB.out.2.2.1 1 _), by simpa using hbk, (blk_far HXR.out HMB.out.2.2.2 1 (.string s))⟩⟩
    rw [← hwz]
    clear hwz hbk HK5 HX HXR kc1 kf1
    have kk : wz0.cell? ⟨mb, 0, none⟩ = some (.int .i64 5) := (blk_cell H1.out.2.2.1 0).trans rfl
    go_upto_region 18 with fail
    clear kk
    rcases h1 : pairP 1 1099511627776 0 1099511627776 li1 with n0 | ⟨p, li2⟩
    · have HQ : Aside0 (msgP l = .bad n0) := ⟨by rw [HP.out, HSP.out, bnd_ok h0, bnd_bad h1]⟩
      go_wp2_with (go_at_call 98; refine (cap_calls w0 _ g A c b li1 HI.out H1.out.2.1).mono ?_; rintro e w5 ⟨hk, hb, hm⟩; simp only [h1, pan] at hm; subst hm; have HE := Aside0.mk (And.intro (H1.out.1.trans hk) hb); clear hk hb)
      refine ⟨rfl, HE.out.1, HE.out.2, ?_⟩
      rw [HQ.out]
      rfl
    · go_upto_region 19 with (go_at_call 98; refine (cap_calls w0 _ g A c b li1 HI.out H1.out.2.1).mono ?_; rintro e w5 ⟨hk, hb, hm⟩; simp only [h1] at hm; obtain ⟨rfl, hs1⟩ := hm; have HK5 := Aside0.mk (And.intro (H1.out.1.trans hk) (And.intro hb hs1)); have HX := Aside0.mk (kb_blk hk HMB.out.2.1 H1.out.2.2.1); have HXR := Aside0.mk (kb_blk hk HNE.out H1.out.2.2.2); clear hk hb hs1; have kc2 : w5.cell? ⟨mb, 2, none⟩ = some (.int .i64 0) := (blk_cell HX.out 2).trans rfl; have kf2 : w5.frozen? ⟨mb, 2, none⟩ = false := blk_frozen HX.out 2; have kc3 : w5.cell? ⟨mb, 3, none⟩ = some (.int .i64 0) := (blk_cell HX.out 3).trans rfl; have kf3 : w5.frozen? ⟨mb, 3, none⟩ = false := blk_frozen HX.out 3)
      obtain ⟨wz1, hwz⟩ : ∃ wz : World, wz = ((w5.setCell ⟨mb, 2, none⟩ (.int .i64 p.f0)).setCell ⟨mb, 3, none⟩ (.int .i64 p.f1)) := ⟨_, rfl⟩
      have hbk := (blk_set (blk_set HX.out 2 (.int .i64 p.f0)) 3 (.int .i64 p.f1))
      have H2 : Aside0 (Kb g w wz1 ∧ RS w0 wz1 g A c b li2 ∧ wz1.heap[mb]? = some (.cells #[.int .i64 5, .string s, .int .i64 p.f0, .int .i64 p.f1, .int .i64 0, .int .i64 0, .int .i64 0, .int .i64 0, .int .i64 0, .int .i64 0, .int .i64 0, .int .i64 0, .int .i64 0, .int .i64 0, .string ⟨#[]⟩, .int .i64 0, .int .i64 0, .int .i64 0, .int .i64 0, .slice none 0 0] 33 (0, 0)) ∧ wz1.heap[w.heap.size]? = some (.cells #[.int .i64 0, .string ⟨#[]⟩, .int .i64 0, .int .i64 0, .int .i64 0, .int .i64 0, .int .i64 0, .int .i64 0, .int .i64 0, .int .i64 0, .int .i64 0, .int .i64 0, .int .i64 0, .int .i64 0, .string ⟨#[]⟩, .int .i64 0, .int .i64 0, .int .i64 0, .int .i64 0, .slice none 0 0] 33 (0, 0))) := ⟨by rw [hwz]; exact ⟨((HK5.out.1.setNew HMB.out.1 2 _).setNew HMB.out.1 3 _), ((HK5.out.2.2.setOther HMB.out.2.1 HMB.out.2.2.1 2 _).setOther HMB.out.2.1 HMB.out.2.2.1 3 _), by simpa using hbk, (blk_far (blk_far HXR.out HMB.out.2.2.2 2 (.int .i64 p.f0)) HMB.out.2.2.2 3 (.int .i64 p.f1))⟩⟩
      rw [← hwz]
      clear hwz hbk HK5 HX HXR kc2 kf2 kc3 kf3
      have kk : wz1.cell? ⟨mb, 0, none⟩ = some (.int .i64 5) := (blk_cell H2.out.2.2.1 0).trans rfl
      go_upto_region 28 with fail
      clear kk
      rcases h2 : pairP 1 1099511627776 0 15 li2 with n0 | ⟨ep, li3⟩
      · have HQ : Aside0 (msgP l = .bad n0) := ⟨by rw [HP.out, HSP.out, bnd_ok h0, bnd_ok h1, bnd_bad h2]⟩
        go_wp2_with (go_at_call 100; refine (epoch_calls w0 _ g A c b li2 HI.out H2.out.2.1).mono ?_; rintro e w5 ⟨hk, hb, hm⟩; simp only [h2, pan] at hm; subst hm; have HE := Aside0.mk (And.intro (H2.out.1.trans hk) hb); clear hk hb)
        refine ⟨rfl, HE.out.1, HE.out.2, ?_⟩
        rw [HQ.out]
        rfl
      · go_upto_region 29 with (go_at_call 100; refine (epoch_calls w0 _ g A c b li2 HI.out H2.out.2.1).mono ?_; rintro e w5 ⟨hk, hb, hm⟩; simp only [h2] at hm; obtain ⟨rfl, hs1⟩ := hm; have HK5 := Aside0.mk (And.intro (H2.out.1.trans hk) (And.intro hb hs1)); have HX := Aside0.mk (kb_blk hk HMB.out.2.1 H2.out.2.2.1); have HXR := Aside0.mk (kb_blk hk HNE.out H2.out.2.2.2); clear hk hb hs1; have kc4 : w5.cell? ⟨mb, 4, none⟩ = some (.int .i64 0) := (blk_cell HX.out 4).trans rfl; have kf4 : w5.frozen? ⟨mb, 4, none⟩ = false := blk_frozen HX.out 4; have kc5 : w5.cell? ⟨mb, 5, none⟩ = some (.int .i64 0) := (blk_cell HX.out 5).trans rfl; have kf5 : w5.frozen? ⟨mb, 5, none⟩ = false := blk_frozen HX.out 5)
        obtain ⟨wz2, hwz⟩ : ∃ wz : World, wz = ((w5.setCell ⟨mb, 4, none⟩ (.int .i64 ep.f0)).setCell ⟨mb, 5, none⟩ (.int .i64 ep.f1)) := ⟨_, rfl⟩
        have hbk := (blk_set (blk_set HX.out 4 (.int .i64 ep.f0)) 5 (.int .i64 ep.f1))
        have H3 : Aside0 (Kb g w wz2 ∧ RS w0 wz2 g A c b li3 ∧ wz2.heap[mb]? = some (.cells #[.int .i64 5, .string s, .int .i64 p.f0, .int .i64 p.f1, .int .i64 ep.f0, .int .i64 ep.f1, .int .i64 0, .int .i64 0, .int .i64 0, .int .i64 0, .int .i64 0, .int .i64 0, .int .i64 0, .int .i64 0, .string ⟨#[]⟩, .int .i64 0, .int .i64 0, .int .i64 0, .int .i64 0, .slice none 0 0] 33 (0, 0)) ∧ wz2.heap[w.heap.size]? = some (.cells #[.int .i64 0, .string ⟨#[]⟩, .int .i64 0, .int .i64 0, .int .i64 0, .int .i64 0, .int .i64 0, .int .i64 0, .int .i64 0, .int .i64 0, .int .i64 0, .int .i64 0, .int .i64 0, .int .i64 0, .string ⟨#[]⟩, .int .i64 0, .int .i64 0, .int .i64 0, .int .i64 0, .slice none 0 0] 33 (0, 0))) := ⟨by rw [hwz]; exact ⟨((HK5.out.1.setNew HMB.out.1 4 _).setNew HMB.out.1 5 _), ((HK5.out.2.2.setOther HMB.out.2.1 HMB.out.2.2.1 4 _).setOther HMB.out.2.1 HMB.out.2.2.1 5 _), by simpa using hbk, (blk_far (blk_far HXR.out HMB.out.2.2.2 4 (.int .i64 ep.f0)) HMB.out.2.2.2 5 (.int .i64 ep.f1))⟩⟩
        rw [← hwz]
        clear hwz hbk HK5 HX HXR kc4 kf4 kc5 kf5
        have kk : wz2.cell? ⟨mb, 0, none⟩ = some (.int .i64 5) := (blk_cell H3.out.2.2.1 0).trans rfl
        go_upto_region 29 with fail
        clear kk
        rcases h3 : pairP 0 1099511627776 0 1099511627776 li3 with n0 | ⟨rt, li4⟩
        · have HQ : Aside0 (msgP l = .bad n0) := ⟨by rw [HP.out, HSP.out, bnd_ok h0, bnd_ok h1, bnd_ok h2, bnd_bad h3]⟩
          go_wp2_with (go_at_call 101; refine (rights_calls w0 _ g A c b li3 HI.out H3.out.2.1).mono ?_; rintro e w5 ⟨hk, hb, hm⟩; simp only [h3, pan] at hm; subst hm; have HE := Aside0.mk (And.intro (H3.out.1.trans hk) hb); clear hk hb)
          refine ⟨rfl, HE.out.1, HE.out.2, ?_⟩
          rw [HQ.out]
          rfl
        · go_upto_region 30 with (go_at_call 101; refine (rights_calls w0 _ g A c b li3 HI.out H3.out.2.1).mono ?_; rintro e w5 ⟨hk, hb, hm⟩; simp only [h3] at hm; obtain ⟨rfl, hs1⟩ := hm; have HK5 := Aside0.mk (And.intro (H3.out.1.trans hk) (And.intro hb hs1)); have HX := Aside0.mk (kb_blk hk HMB.out.2.1 H3.out.2.2.1); have HXR := Aside0.mk (kb_blk hk HNE.out H3.out.2.2.2); clear hk hb hs1; have kc8 : w5.cell? ⟨mb, 8, none⟩ = some (.int .i64 0) := (blk_cell HX.out 8).trans rfl; have kf8 : w5.frozen? ⟨mb, 8, none⟩ = false := blk_frozen HX.out 8; have kc9 : w5.cell? ⟨mb, 9, none⟩ = some (.int .i64 0) := (blk_cell HX.out 9).trans rfl; have kf9 : w5.frozen? ⟨mb, 9, none⟩ = false := blk_frozen HX.out 9)
          obtain ⟨wz3, hwz⟩ : ∃ wz : World, wz = ((w5.setCell ⟨mb, 8, none⟩ (.int .i64 rt.f0)).setCell ⟨mb, 9, none⟩ (.int .i64 rt.f1)) := ⟨_, rfl⟩
          have hbk := (blk_set (blk_set HX.out 8 (.int .i64 rt.f0)) 9 (.int .i64 rt.f1))
          have H4 : Aside0 (Kb g w wz3 ∧ RS w0 wz3 g A c b li4 ∧ wz3.heap[mb]? = some (.cells #[.int .i64 5, .string s, .int .i64 p.f0, .int .i64 p.f1, .int .i64 ep.f0, .int .i64 ep.f1, .int .i64 0, .int .i64 0, .int .i64 rt.f0, .int .i64 rt.f1, .int .i64 0, .int .i64 0, .int .i64 0, .int .i64 0, .string ⟨#[]⟩, .int .i64 0, .int .i64 0, .int .i64 0, .int .i64 0, .slice none 0 0] 33 (0, 0)) ∧ wz3.heap[w.heap.size]? = some (.cells #[.int .i64 0, .string ⟨#[]⟩, .int .i64 0, .int .i64 0, .int .i64 0, .int .i64 0, .int .i64 0, .int .i64 0, .int .i64 0, .int .i64 0, .int .i64 0, .int .i64 0, .int .i64 0, .int .i64 0, .string ⟨#[]⟩, .int .i64 0, .int .i64 0, .int .i64 0, .int .i64 0, .slice none 0 0] 33 (0, 0))) := ⟨by rw [hwz]; exact ⟨((HK5.out.1.setNew HMB.out.1 8 _).setNew HMB.out.1 9 _), ((HK5.out.2.2.setOther HMB.out.2.1 HMB.out.2.2.1 8 _).setOther HMB.out.2.1 HMB.out.2.2.1 9 _), by simpa using hbk, (blk_far (blk_far HXR.out HMB.out.2.2.2 8 (.int .i64 rt.f0)) HMB.out.2.2.2 9 (.int .i64 rt.f1))⟩⟩
          rw [← hwz]
          clear hwz hbk HK5 HX HXR kc8 kf8 kc9 kf9
          have kk : wz3.cell? ⟨mb, 0, none⟩ = some (.int .i64 5) := (blk_cell H4.out.2.2.1 0).trans rfl
          go_upto_region 32 with fail
          clear kk
          have HQ : Aside0 (msgP l = .ok (mOf 5 s p ep z25 rt 0) li4) := ⟨by rw [HP.out, HSP.out, bnd_ok h0, bnd_ok h1, bnd_ok h2, bnd_ok h3]; rfl⟩
          go_wp2_with ((with_reducible refine gate_dst (N := 87) rfl ?_); refine wpList_load_row rfl 33 (.tmp 3) rfl mb (by rfl) 33 _ (0, 0) _ H4.out.2.2.1 Try.underlying33 rfl inf33 ?_; go_loud (refine wpList_store_row rfl 33 (.tmp 2) (.tmp 87) rfl w.heap.size #[.int .i64 5, .string s, .int .i64 p.f0, .int .i64 p.f1, .int .i64 ep.f0, .int .i64 ep.f1, .int .i64 0, .int .i64 0, .int .i64 rt.f0, .int .i64 rt.f1, .int .i64 0, .int .i64 0, .int .i64 0, .int .i64 0, .string ⟨#[]⟩, .int .i64 0, .int .i64 0, .int .i64 0, .int .i64 0, .slice none 0 0] (by rfl) (by rfl) 33 _ H4.out.2.2.2 inf33 rfl (by simp [Value.oneCell']) ?_))
          have HBL := setRow_blk H4.out.2.2.2 #[.int .i64 5, .string s, .int .i64 p.f0, .int .i64 p.f1, .int .i64 ep.f0, .int .i64 ep.f1, .int .i64 0, .int .i64 0, .int .i64 rt.f0, .int .i64 rt.f1, .int .i64 0, .int .i64 0, .int .i64 0, .int .i64 0, .string ⟨#[]⟩, .int .i64 0, .int .i64 0, .int .i64 0, .int .i64 0, .slice none 0 0]
          (try simp only [Exit.inBlock, Exit.then])
          refine bodyPost_ret (v := .agg #[.int .i64 5, .string s, .int .i64 p.f0, .int .i64 p.f1, .int .i64 ep.f0, .int .i64 ep.f1, .int .i64 0, .int .i64 0, .int .i64 rt.f0, .int .i64 rt.f1, .int .i64 0, .int .i64 0, .int .i64 0, .int .i64 0, .string ⟨#[]⟩, .int .i64 0, .int .i64 0, .int .i64 0, .int .i64 0, .slice none 0 0]) ?_ rfl ?_
          · exact results_cell_row rfl _ _ w.heap.size 33 _ (0, 0) _ (by rfl) HBL hu33 rfl inf33
          refine ⟨H4.out.1.setRowNew (Nat.le_refl _) _, (H4.out.2.1.setRowOther HNE.out HW0.out _).bel, ?_⟩
          rw [HQ.out]
          exact ⟨⟨none, 0, rfl, .inl ⟨rfl, rfl, rfl⟩⟩, H4.out.2.1.setRowOther HNE.out HW0.out _⟩
set_option maxHeartbeats 8000000 in
set_option maxRecDepth 100000 in
theorem msg6_calls (w0 w : World) (g : Nat) (A : Option Addr) (c : Nat) (b l r0 : List Int) (hi_ : In w0 A c b) (h : RS w0 w g A c b l) (hk : numP 1 10 l = .ok 6 r0) :
    Calls Try.prog 61 #[.pointer (some ⟨g, 0, none⟩)] w fun e w' => LeftM w0 w g A c b (msgP l) e w' := by
  have HI := Aside0.mk hi_
  have HS := Aside0.mk h
  have HNE := Aside0.mk (rs_ne h)
  have HW0 := Aside0.mk h.bel.size
  have HP : Aside0 (msgP l = restP 6 r0) := ⟨by unfold msgP; rw [bnd_ok hk]⟩
  have hu33 := Try.underlying33
  have hu23 := Try.underlying23
  have hu25 := Try.underlying25
  have hu27 := Try.underlying27
  have hu29 := Try.underlying29
  obtain ⟨wa, hwa⟩ : ∃ wa, wa = w.alloc (.cells #[.int .i64 0, .string ⟨#[]⟩, .int .i64 0, .int .i64 0, .int .i64 0, .int .i64 0, .int .i64 0, .int .i64 0, .int .i64 0, .int .i64 0, .int .i64 0, .int .i64 0, .int .i64 0, .int .i64 0, .string ⟨#[]⟩, .int .i64 0, .int .i64 0, .int .i64 0, .int .i64 0, .slice none 0 0] 33 (0, 0)) := ⟨_, rfl⟩
  have HWA := Aside0.mk hwa
  have HA : Aside0 (Kb g w wa ∧ RS w0 wa g A c b l ∧ wa.heap[w.heap.size]? = some (.cells #[.int .i64 0, .string ⟨#[]⟩, .int .i64 0, .int .i64 0, .int .i64 0, .int .i64 0, .int .i64 0, .int .i64 0, .int .i64 0, .int .i64 0, .int .i64 0, .int .i64 0, .int .i64 0, .int .i64 0, .string ⟨#[]⟩, .int .i64 0, .int .i64 0, .int .i64 0, .int .i64 0, .slice none 0 0] 33 (0, 0))) := ⟨by rw [hwa]; exact ⟨Kb.below (al_below w _), h.below (al_below w _), heap_alloc_new w _⟩⟩
  clear hi_ h hwa
  go_enter Try.func61, Try.ntmps61
  go_upto_region 1 with fail
  rw [← HWA.out]
  go_upto_region 2 with (first | ((with_reducible refine gate_dst (N := 3) rfl ?_); refine box_event ?hg (N := 3) ?hd (cs := #[.int .i64 0, .string ⟨#[]⟩, .int .i64 0, .int .i64 0, .int .i64 0, .int .i64 0, .int .i64 0, .int .i64 0, .int .i64 0, .int .i64 0, .int .i64 0, .int .i64 0, .int .i64 0, .int .i64 0, .string ⟨#[]⟩, .int .i64 0, .int .i64 0, .int .i64 0, .int .i64 0, .slice none 0 0]) (t := 33) ?hr ?_; (case hd => rfl); (case hg => rfl); (case hr => first | (go_simp; done) | (go_simp; rfl)); intro mb hmb w6 hbox hb6; go_loud (refine wpList_store_row rfl 33 (.tmp 3) (.tmp 6) rfl mb #[.int .i64 6, .string ⟨#[]⟩, .int .i64 0, .int .i64 0, .int .i64 0, .int .i64 0, .int .i64 0, .int .i64 0, .int .i64 0, .int .i64 0, .int .i64 0, .int .i64 0, .int .i64 0, .int .i64 0, .string ⟨#[]⟩, .int .i64 0, .int .i64 0, .int .i64 0, .int .i64 0, .slice none 0 0] (by rfl) (by rfl) 33 #[.int .i64 0, .string ⟨#[]⟩, .int .i64 0, .int .i64 0, .int .i64 0, .int .i64 0, .int .i64 0, .int .i64 0, .int .i64 0, .int .i64 0, .int .i64 0, .int .i64 0, .int .i64 0, .int .i64 0, .string ⟨#[]⟩, .int .i64 0, .int .i64 0, .int .i64 0, .int .i64 0, .slice none 0 0] hbox inf33 rfl (by simp [Value.oneCell']) ?_)) | (go_at_call 80; refine (num_calls w0 _ g A c b l 1 10 (by decide) (by decide) (by decide) HI.out HA.out.2.1).mono ?_; rintro e w5 ⟨hkb, hb, hm⟩; simp only [hk] at hm; obtain ⟨rfl, hs1⟩ := hm; have HK5 := Aside0.mk (And.intro (HA.out.1.trans hkb) (And.intro hb hs1)); have HR5 := Aside0.mk (kb_blk hkb HNE.out HA.out.2.2); clear hkb hb hs1))
  obtain ⟨wm, hwm⟩ : ∃ wm, wm = w6.setRow mb #[.int .i64 6, .string ⟨#[]⟩, .int .i64 0, .int .i64 0, .int .i64 0, .int .i64 0, .int .i64 0, .int .i64 0, .int .i64 0, .int .i64 0, .int .i64 0, .int .i64 0, .int .i64 0, .int .i64 0, .string ⟨#[]⟩, .int .i64 0, .int .i64 0, .int .i64 0, .int .i64 0, .slice none 0 0] := ⟨_, rfl⟩
  have H0 : Aside0 (Kb g w wm ∧ RS w0 wm g A c b r0 ∧ wm.heap[mb]? = some (.cells #[.int .i64 6, .string ⟨#[]⟩, .int .i64 0, .int .i64 0, .int .i64 0, .int .i64 0, .int .i64 0, .int .i64 0, .int .i64 0, .int .i64 0, .int .i64 0, .int .i64 0, .int .i64 0, .int .i64 0, .string ⟨#[]⟩, .int .i64 0, .int .i64 0, .int .i64 0, .int .i64 0, .slice none 0 0] 33 (0, 0)) ∧ wm.heap[w.heap.size]? = some (.cells #[.int .i64 0, .string ⟨#[]⟩, .int .i64 0, .int .i64 0, .int .i64 0, .int .i64 0, .int .i64 0, .int .i64 0, .int .i64 0, .int .i64 0, .int .i64 0, .int .i64 0, .int .i64 0, .int .i64 0, .string ⟨#[]⟩, .int .i64 0, .int .i64 0, .int .i64 0, .int .i64 0, .slice none 0 0] 33 (0, 0))) := ⟨by rw [hwm]; exact ⟨(HK5.out.1.trans (Kb.below hb6)).setRowNew (by rw [hmb]; exact HK5.out.1.size) _, (HK5.out.2.2.below hb6).setRowOther (by rw [hmb]; exact rs_ne HK5.out.2.2) (by rw [hmb]; exact HK5.out.2.1.size) _, setRow_blk hbox _, (setRow_far (by rw [hmb]; exact Nat.ne_of_lt (blk_lt HR5.out)) _).trans (blk_keep hb6 HR5.out)⟩⟩
  have HMB : Aside0 (w.heap.size ≤ mb ∧ mb ≠ g ∧ w0.heap.size ≤ mb ∧ mb ≠ w.heap.size) := ⟨by rw [hmb]; exact ⟨HK5.out.1.size, rs_ne HK5.out.2.2, HK5.out.2.1.size, by have := blk_lt HR5.out; omega⟩⟩
  rw [← hwm]
  clear hwm hmb hbox hb6 HK5 HR5
  obtain ⟨li0, hli⟩ : ∃ li0, li0 = r0 := ⟨_, rfl⟩
  rw [← hli] at H0 HP
  clear hli hk
  have HSP : Aside0 (restP 6 li0 = (bnd (nameP eB) fun s => bnd (pairP 1 1099511627776 0 1099511627776) fun p => bnd (pairP 1 1099511627776 0 15) fun ep => bnd (pairP 0 1099511627776 0 1099511627776) fun rt => ret (mOf 6 s p ep z25 rt 0)) li0) := ⟨by unfold restP; rw [if_neg (by decide), if_neg (by decide), if_neg (by decide)]; unfold ofP optP; simp only [hasEp, hasRt, Int.reduceLE, Int.reduceEq, and_self, or_self, or_true, true_or, and_true, true_and, or_false, false_or, and_false, false_and, if_true, if_false, ite_true, ite_false, bnd_ret, reduceIte]; rfl⟩
  have kk : wm.cell? ⟨mb, 0, none⟩ = some (.int .i64 6) := (blk_cell H0.out.2.2.1 0).trans rfl
  go_upto_region 17 with fail
  clear kk
  rcases h0 : nameP eB li0 with n0 | ⟨s, li1⟩
  · have HQ : Aside0 (msgP l = .bad n0) := ⟨by rw [HP.out, HSP.out, bnd_bad h0]⟩
    go_wp2_with (go_at_call 97; refine (name_calls w0 _ g A c b li0 eB HI.out H0.out.2.1).mono ?_; rintro e w5 ⟨hk, hb, hm⟩; simp only [h0, pan] at hm; subst hm; have HE := Aside0.mk (And.intro (H0.out.1.trans hk) hb); clear hk hb)
    refine ⟨rfl, HE.out.1, HE.out.2, ?_⟩
    rw [HQ.out]
    rfl
  · go_upto_region 18 with (go_at_call 97; refine (name_calls w0 _ g A c b li0 eB HI.out H0.out.2.1).mono ?_; rintro e w5 ⟨hk, hb, hm⟩; simp only [h0] at hm; obtain ⟨rfl, hs1⟩ := hm; have HK5 := Aside0.mk (And.intro (H0.out.1.trans hk) (And.intro hb hs1)); have HX := Aside0.mk (kb_blk hk HMB.out.2.1 H0.out.2.2.1); have HXR := Aside0.mk (kb_blk hk HNE.out H0.out.2.2.2); clear hk hb hs1; have kc1 : w5.cell? ⟨mb, 1, none⟩ = some (.string ⟨#[]⟩) := (blk_cell HX.out 1).trans rfl; have kf1 : w5.frozen? ⟨mb, 1, none⟩ = false := blk_frozen HX.out 1)
    obtain ⟨wz0, hwz⟩ : ∃ wz : World, wz = (w5.setCell ⟨mb, 1, none⟩ (.string s)) := ⟨_, rfl⟩
    have hbk := (blk_set HX.out 1 (.string s))
    have H1 : Aside0 (Kb g w wz0 ∧ RS w0 wz0 g A c b li1 ∧ wz0.heap[mb]? = some (.cells #[.int .i64 6, .string s, .int .i64 0, .int .i64 0, .int .i64 0, .int .i64 0, .int .i64 0, .int .i64 0, .int .i64 0, .int .i64 0, .int .i64 0, .int .i64 0, .int .i64 0, .int .i64 0, .string ⟨#[]⟩, .int .i64 0, .int .i64 0, .int .i64 0, .int .i64 0, .slice none 0 0] 33 (0, 0)) ∧ wz0.heap[w.heap.size]? = some (.cells #[.int .i64 0, .string ⟨#[]⟩, .int .i64 0, .int .i64 0, .int .i64 0, .int .i64 0, .int .i64 0, .int .i64 0, .int .i64 0, .int .i64 0, .int .i64 0, .int .i64 0, .int .i64 0, .int .i64 0, .string ⟨#[]⟩, .int .i64 0, .int .i64 0, .int .i64 0, .int .i64 0, .slice none 0 0] 33 (0, 0))) := ⟨by rw [hwz]; exact ⟨(HK5.out.1.setNew HMB.out.1 1 _), (HK5.out.2.2.setOther HMB.out.2.1 HMB.out.2.2.1 1 _), by simpa using hbk, (blk_far HXR.out HMB.out.2.2.2 1 (.string s))⟩⟩
    rw [← hwz]
    clear hwz hbk HK5 HX HXR kc1 kf1
    have kk : wz0.cell? ⟨mb, 0, none⟩ = some (.int .i64 6) := (blk_cell H1.out.2.2.1 0).trans rfl
    go_upto_region 18 with fail
    clear kk
    rcases h1 : pairP 1 1099511627776 0 1099511627776 li1 with n0 | ⟨p, li2⟩
    · have HQ : Aside0 (msgP l = .bad n0) := ⟨by rw [HP.out, HSP.out, bnd_ok h0, bnd_bad h1]⟩
      go_wp2_with (go_at_call 98; refine (cap_calls w0 _ g A c b li1 HI.out H1.out.2.1).mono ?_; rintro e w5 ⟨hk, hb, hm⟩; simp only [h1, pan] at hm; subst hm; have HE := Aside0.mk (And.intro (H1.out.1.trans hk) hb); clear hk hb)
      refine ⟨rfl, HE.out.1, HE.out.2, ?_⟩
      rw [HQ.out]
      rfl
    · go_upto_region 19 with (go_at_call 98; refine (cap_calls w0 _ g A c b li1 HI.out H1.out.2.1).mono ?_; rintro e w5 ⟨hk, hb, hm⟩; simp only [h1] at hm; obtain ⟨rfl, hs1⟩ := hm; have HK5 := Aside0.mk (And.intro (H1.out.1.trans hk) (And.intro hb hs1)); have HX := Aside0.mk (kb_blk hk HMB.out.2.1 H1.out.2.2.1); have HXR := Aside0.mk (kb_blk hk HNE.out H1.out.2.2.2); clear hk hb hs1; have kc2 : w5.cell? ⟨mb, 2, none⟩ = some (.int .i64 0) := (blk_cell HX.out 2).trans rfl; have kf2 : w5.frozen? ⟨mb, 2, none⟩ = false := blk_frozen HX.out 2; have kc3 : w5.cell? ⟨mb, 3, none⟩ = some (.int .i64 0) := (blk_cell HX.out 3).trans rfl; have kf3 : w5.frozen? ⟨mb, 3, none⟩ = false := blk_frozen HX.out 3)
      obtain ⟨wz1, hwz⟩ : ∃ wz : World, wz = ((w5.setCell ⟨mb, 2, none⟩ (.int .i64 p.f0)).setCell ⟨mb, 3, none⟩ (.int .i64 p.f1)) := ⟨_, rfl⟩
      have hbk := (blk_set (blk_set HX.out 2 (.int .i64 p.f0)) 3 (.int .i64 p.f1))
      have H2 : Aside0 (Kb g w wz1 ∧ RS w0 wz1 g A c b li2 ∧ wz1.heap[mb]? = some (.cells #[.int .i64 6, .string s, .int .i64 p.f0, .int .i64 p.f1, .int .i64 0, .int .i64 0, .int .i64 0, .int .i64 0, .int .i64 0, .int .i64 0, .int .i64 0, .int .i64 0, .int .i64 0, .int .i64 0, .string ⟨#[]⟩, .int .i64 0, .int .i64 0, .int .i64 0, .int .i64 0, .slice none 0 0] 33 (0, 0)) ∧ wz1.heap[w.heap.size]? = some (.cells #[.int .i64 0, .string ⟨#[]⟩, .int .i64 0, .int .i64 0, .int .i64 0, .int .i64 0, .int .i64 0, .int .i64 0, .int .i64 0, .int .i64 0, .int .i64 0, .int .i64 0, .int .i64 0, .int .i64 0, .string ⟨#[]⟩, .int .i64 0, .int .i64 0, .int .i64 0, .int .i64 0, .slice none 0 0] 33 (0, 0))) := ⟨by rw [hwz]; exact ⟨((HK5.out.1.setNew HMB.out.1 2 _).setNew HMB.out.1 3 _), ((HK5.out.2.2.setOther HMB.out.2.1 HMB.out.2.2.1 2 _).setOther HMB.out.2.1 HMB.out.2.2.1 3 _), by simpa using hbk, (blk_far (blk_far HXR.out HMB.out.2.2.2 2 (.int .i64 p.f0)) HMB.out.2.2.2 3 (.int .i64 p.f1))⟩⟩
      rw [← hwz]
      clear hwz hbk HK5 HX HXR kc2 kf2 kc3 kf3
      have kk : wz1.cell? ⟨mb, 0, none⟩ = some (.int .i64 6) := (blk_cell H2.out.2.2.1 0).trans rfl
      go_upto_region 28 with fail
      clear kk
      rcases h2 : pairP 1 1099511627776 0 15 li2 with n0 | ⟨ep, li3⟩
      · have HQ : Aside0 (msgP l = .bad n0) := ⟨by rw [HP.out, HSP.out, bnd_ok h0, bnd_ok h1, bnd_bad h2]⟩
        go_wp2_with (go_at_call 100; refine (epoch_calls w0 _ g A c b li2 HI.out H2.out.2.1).mono ?_; rintro e w5 ⟨hk, hb, hm⟩; simp only [h2, pan] at hm; subst hm; have HE := Aside0.mk (And.intro (H2.out.1.trans hk) hb); clear hk hb)
        refine ⟨rfl, HE.out.1, HE.out.2, ?_⟩
        rw [HQ.out]
        rfl
      · go_upto_region 29 with (go_at_call 100; refine (epoch_calls w0 _ g A c b li2 HI.out H2.out.2.1).mono ?_; rintro e w5 ⟨hk, hb, hm⟩; simp only [h2] at hm; obtain ⟨rfl, hs1⟩ := hm; have HK5 := Aside0.mk (And.intro (H2.out.1.trans hk) (And.intro hb hs1)); have HX := Aside0.mk (kb_blk hk HMB.out.2.1 H2.out.2.2.1); have HXR := Aside0.mk (kb_blk hk HNE.out H2.out.2.2.2); clear hk hb hs1; have kc4 : w5.cell? ⟨mb, 4, none⟩ = some (.int .i64 0) := (blk_cell HX.out 4).trans rfl; have kf4 : w5.frozen? ⟨mb, 4, none⟩ = false := blk_frozen HX.out 4; have kc5 : w5.cell? ⟨mb, 5, none⟩ = some (.int .i64 0) := (blk_cell HX.out 5).trans rfl; have kf5 : w5.frozen? ⟨mb, 5, none⟩ = false := blk_frozen HX.out 5)
        obtain ⟨wz2, hwz⟩ : ∃ wz : World, wz = ((w5.setCell ⟨mb, 4, none⟩ (.int .i64 ep.f0)).setCell ⟨mb, 5, none⟩ (.int .i64 ep.f1)) := ⟨_, rfl⟩
        have hbk := (blk_set (blk_set HX.out 4 (.int .i64 ep.f0)) 5 (.int .i64 ep.f1))
        have H3 : Aside0 (Kb g w wz2 ∧ RS w0 wz2 g A c b li3 ∧ wz2.heap[mb]? = some (.cells #[.int .i64 6, .string s, .int .i64 p.f0, .int .i64 p.f1, .int .i64 ep.f0, .int .i64 ep.f1, .int .i64 0, .int .i64 0, .int .i64 0, .int .i64 0, .int .i64 0, .int .i64 0, .int .i64 0, .int .i64 0, .string ⟨#[]⟩, .int .i64 0, .int .i64 0, .int .i64 0, .int .i64 0, .slice none 0 0] 33 (0, 0)) ∧ wz2.heap[w.heap.size]? = some (.cells #[.int .i64 0, .string ⟨#[]⟩, .int .i64 0, .int .i64 0, .int .i64 0, .int .i64 0, .int .i64 0, .int .i64 0, .int .i64 0, .int .i64 0, .int .i64 0, .int .i64 0, .int .i64 0, .int .i64 0, .string ⟨#[]⟩, .int .i64 0, .int .i64 0, .int .i64 0, .int .i64 0, .slice none 0 0] 33 (0, 0))) := ⟨by rw [hwz]; exact ⟨((HK5.out.1.setNew HMB.out.1 4 _).setNew HMB.out.1 5 _), ((HK5.out.2.2.setOther HMB.out.2.1 HMB.out.2.2.1 4 _).setOther HMB.out.2.1 HMB.out.2.2.1 5 _), by simpa using hbk, (blk_far (blk_far HXR.out HMB.out.2.2.2 4 (.int .i64 ep.f0)) HMB.out.2.2.2 5 (.int .i64 ep.f1))⟩⟩
        rw [← hwz]
        clear hwz hbk HK5 HX HXR kc4 kf4 kc5 kf5
        have kk : wz2.cell? ⟨mb, 0, none⟩ = some (.int .i64 6) := (blk_cell H3.out.2.2.1 0).trans rfl
        go_upto_region 29 with fail
        clear kk
        rcases h3 : pairP 0 1099511627776 0 1099511627776 li3 with n0 | ⟨rt, li4⟩
        · have HQ : Aside0 (msgP l = .bad n0) := ⟨by rw [HP.out, HSP.out, bnd_ok h0, bnd_ok h1, bnd_ok h2, bnd_bad h3]⟩
          go_wp2_with (go_at_call 101; refine (rights_calls w0 _ g A c b li3 HI.out H3.out.2.1).mono ?_; rintro e w5 ⟨hk, hb, hm⟩; simp only [h3, pan] at hm; subst hm; have HE := Aside0.mk (And.intro (H3.out.1.trans hk) hb); clear hk hb)
          refine ⟨rfl, HE.out.1, HE.out.2, ?_⟩
          rw [HQ.out]
          rfl
        · go_upto_region 30 with (go_at_call 101; refine (rights_calls w0 _ g A c b li3 HI.out H3.out.2.1).mono ?_; rintro e w5 ⟨hk, hb, hm⟩; simp only [h3] at hm; obtain ⟨rfl, hs1⟩ := hm; have HK5 := Aside0.mk (And.intro (H3.out.1.trans hk) (And.intro hb hs1)); have HX := Aside0.mk (kb_blk hk HMB.out.2.1 H3.out.2.2.1); have HXR := Aside0.mk (kb_blk hk HNE.out H3.out.2.2.2); clear hk hb hs1; have kc8 : w5.cell? ⟨mb, 8, none⟩ = some (.int .i64 0) := (blk_cell HX.out 8).trans rfl; have kf8 : w5.frozen? ⟨mb, 8, none⟩ = false := blk_frozen HX.out 8; have kc9 : w5.cell? ⟨mb, 9, none⟩ = some (.int .i64 0) := (blk_cell HX.out 9).trans rfl; have kf9 : w5.frozen? ⟨mb, 9, none⟩ = false := blk_frozen HX.out 9)
          obtain ⟨wz3, hwz⟩ : ∃ wz : World, wz = ((w5.setCell ⟨mb, 8, none⟩ (.int .i64 rt.f0)).setCell ⟨mb, 9, none⟩ (.int .i64 rt.f1)) := ⟨_, rfl⟩
          have hbk := (blk_set (blk_set HX.out 8 (.int .i64 rt.f0)) 9 (.int .i64 rt.f1))
          have H4 : Aside0 (Kb g w wz3 ∧ RS w0 wz3 g A c b li4 ∧ wz3.heap[mb]? = some (.cells #[.int .i64 6, .string s, .int .i64 p.f0, .int .i64 p.f1, .int .i64 ep.f0, .int .i64 ep.f1, .int .i64 0, .int .i64 0, .int .i64 rt.f0, .int .i64 rt.f1, .int .i64 0, .int .i64 0, .int .i64 0, .int .i64 0, .string ⟨#[]⟩, .int .i64 0, .int .i64 0, .int .i64 0, .int .i64 0, .slice none 0 0] 33 (0, 0)) ∧ wz3.heap[w.heap.size]? = some (.cells #[.int .i64 0, .string ⟨#[]⟩, .int .i64 0, .int .i64 0, .int .i64 0, .int .i64 0, .int .i64 0, .int .i64 0, .int .i64 0, .int .i64 0, .int .i64 0, .int .i64 0, .int .i64 0, .int .i64 0, .string ⟨#[]⟩, .int .i64 0, .int .i64 0, .int .i64 0, .int .i64 0, .slice none 0 0] 33 (0, 0))) := ⟨by rw [hwz]; exact ⟨((HK5.out.1.setNew HMB.out.1 8 _).setNew HMB.out.1 9 _), ((HK5.out.2.2.setOther HMB.out.2.1 HMB.out.2.2.1 8 _).setOther HMB.out.2.1 HMB.out.2.2.1 9 _), by simpa using hbk, (blk_far (blk_far HXR.out HMB.out.2.2.2 8 (.int .i64 rt.f0)) HMB.out.2.2.2 9 (.int .i64 rt.f1))⟩⟩
          rw [← hwz]
          clear hwz hbk HK5 HX HXR kc8 kf8 kc9 kf9
          have kk : wz3.cell? ⟨mb, 0, none⟩ = some (.int .i64 6) := (blk_cell H4.out.2.2.1 0).trans rfl
          go_upto_region 32 with fail
          clear kk
          have HQ : Aside0 (msgP l = .ok (mOf 6 s p ep z25 rt 0) li4) := ⟨by rw [HP.out, HSP.out, bnd_ok h0, bnd_ok h1, bnd_ok h2, bnd_ok h3]; rfl⟩
          go_wp2_with ((with_reducible refine gate_dst (N := 87) rfl ?_); refine wpList_load_row rfl 33 (.tmp 3) rfl mb (by rfl) 33 _ (0, 0) _ H4.out.2.2.1 Try.underlying33 rfl inf33 ?_; go_loud (refine wpList_store_row rfl 33 (.tmp 2) (.tmp 87) rfl w.heap.size #[.int .i64 6, .string s, .int .i64 p.f0, .int .i64 p.f1, .int .i64 ep.f0, .int .i64 ep.f1, .int .i64 0, .int .i64 0, .int .i64 rt.f0, .int .i64 rt.f1, .int .i64 0, .int .i64 0, .int .i64 0, .int .i64 0, .string ⟨#[]⟩, .int .i64 0, .int .i64 0, .int .i64 0, .int .i64 0, .slice none 0 0] (by rfl) (by rfl) 33 _ H4.out.2.2.2 inf33 rfl (by simp [Value.oneCell']) ?_))
          have HBL := setRow_blk H4.out.2.2.2 #[.int .i64 6, .string s, .int .i64 p.f0, .int .i64 p.f1, .int .i64 ep.f0, .int .i64 ep.f1, .int .i64 0, .int .i64 0, .int .i64 rt.f0, .int .i64 rt.f1, .int .i64 0, .int .i64 0, .int .i64 0, .int .i64 0, .string ⟨#[]⟩, .int .i64 0, .int .i64 0, .int .i64 0, .int .i64 0, .slice none 0 0]
          (try simp only [Exit.inBlock, Exit.then])
          refine bodyPost_ret (v := .agg #[.int .i64 6, .string s, .int .i64 p.f0, .int .i64 p.f1, .int .i64 ep.f0, .int .i64 ep.f1, .int .i64 0, .int .i64 0, .int .i64 rt.f0, .int .i64 rt.f1, .int .i64 0, .int .i64 0, .int .i64 0, .int .i64 0, .string ⟨#[]⟩, .int .i64 0, .int .i64 0, .int .i64 0, .int .i64 0, .slice none 0 0]) ?_ rfl ?_
          · exact results_cell_row rfl _ _ w.heap.size 33 _ (0, 0) _ (by rfl) HBL hu33 rfl inf33
          refine ⟨H4.out.1.setRowNew (Nat.le_refl _) _, (H4.out.2.1.setRowOther HNE.out HW0.out _).bel, ?_⟩
          rw [HQ.out]
          exact ⟨⟨none, 0, rfl, .inl ⟨rfl, rfl, rfl⟩⟩, H4.out.2.1.setRowOther HNE.out HW0.out _⟩
set_option maxHeartbeats 8000000 in
set_option maxRecDepth 100000 in
theorem msg9_calls (w0 w : World) (g : Nat) (A : Option Addr) (c : Nat) (b l r0 : List Int) (hi_ : In w0 A c b) (h : RS w0 w g A c b l) (hk : numP 1 10 l = .ok 9 r0) :
    Calls Try.prog 61 #[.pointer (some ⟨g, 0, none⟩)] w fun e w' => LeftM w0 w g A c b (msgP l) e w' := by
  have HI := Aside0.mk hi_
  have HS := Aside0.mk h
  have HNE := Aside0.mk (rs_ne h)
  have HW0 := Aside0.mk h.bel.size
  have HP : Aside0 (msgP l = restP 9 r0) := ⟨by unfold msgP; rw [bnd_ok hk]⟩
  have hu33 := Try.underlying33
  have hu23 := Try.underlying23
  have hu25 := Try.underlying25
  have hu27 := Try.underlying27
  have hu29 := Try.underlying29
  obtain ⟨wa, hwa⟩ : ∃ wa, wa = w.alloc (.cells #[.int .i64 0, .string ⟨#[]⟩, .int .i64 0, .int .i64 0, .int .i64 0, .int .i64 0, .int .i64 0, .int .i64 0, .int .i64 0, .int .i64 0, .int .i64 0, .int .i64 0, .int .i64 0, .int .i64 0, .string ⟨#[]⟩, .int .i64 0, .int .i64 0, .int .i64 0, .int .i64 0, .slice none 0 0] 33 (0, 0)) := ⟨_, rfl⟩
  have HWA := Aside0.mk hwa
  have HA : Aside0 (Kb g w wa ∧ RS w0 wa g A c b l ∧ wa.heap[w.heap.size]? = some (.cells #[.int .i64 0, .string ⟨#[]⟩, .int .i64 0, .int .i64 0, .int .i64 0, .int .i64 0, .int .i64 0, .int .i64 0, .int .i64 0, .int .i64 0, .int .i64 0, .int .i64 0, .int .i64 0, .int .i64 0, .string ⟨#[]⟩, .int .i64 0, .int .i64 0, .int .i64 0, .int .i64 0, .slice none 0 0] 33 (0, 0))) := ⟨by rw [hwa]; exact ⟨Kb.below (al_below w _), h.below (al_below w _), heap_alloc_new w _⟩⟩
  clear hi_ h hwa
  go_enter Try.func61, Try.ntmps61
  go_upto_region 1 with fail
  rw [← HWA.out]
  go_upto_region 2 with (first | ((with_reducible refine gate_dst (N := 3) rfl ?_); refine box_event ?hg (N := 3) ?hd (cs := #[.int .i64 0, .string ⟨#[]⟩, .int .i64 0, .int .i64 0, .int .i64 0, .int .i64 0, .int .i64 0, .int .i64 0, .int .i64 0, .int .i64 0, .int .i64 0, .int .i64 0, .int .i64 0, .int .i64 0, .string ⟨#[]⟩, .int .i64 0, .int .i64 0, .int .i64 0, .int .i64 0, .slice none 0 0]) (t := 33) ?hr ?_; (case hd => rfl); (case hg => rfl); (case hr => first | (go_simp; done) | (go_simp; rfl)); intro mb hmb w6 hbox hb6; go_loud (refine wpList_store_row rfl 33 (.tmp 3) (.tmp 6) rfl mb #[.int .i64 9, .string ⟨#[]⟩, .int .i64 0, .int .i64 0, .int .i64 0, .int .i64 0, .int .i64 0, .int .i64 0, .int .i64 0, .int .i64 0, .int .i64 0, .int .i64 0, .int .i64 0, .int .i64 0, .string ⟨#[]⟩, .int .i64 0, .int .i64 0, .int .i64 0, .int .i64 0, .slice none 0 0] (by rfl) (by rfl) 33 #[.int .i64 0, .string ⟨#[]⟩, .int .i64 0, .int .i64 0, .int .i64 0, .int .i64 0, .int .i64 0, .int .i64 0, .int .i64 0, .int .i64 0, .int .i64 0, .int .i64 0, .int .i64 0, .int .i64 0, .string ⟨#[]⟩, .int .i64 0, .int .i64 0, .int .i64 0, .int .i64 0, .slice none 0 0] hbox inf33 rfl (by simp [Value.oneCell']) ?_)) | (go_at_call 80; refine (num_calls w0 _ g A c b l 1 10 (by decide) (by decide) (by decide) HI.out HA.out.2.1).mono ?_; rintro e w5 ⟨hkb, hb, hm⟩; simp only [hk] at hm; obtain ⟨rfl, hs1⟩ := hm; have HK5 := Aside0.mk (And.intro (HA.out.1.trans hkb) (And.intro hb hs1)); have HR5 := Aside0.mk (kb_blk hkb HNE.out HA.out.2.2); clear hkb hb hs1))
  obtain ⟨wm, hwm⟩ : ∃ wm, wm = w6.setRow mb #[.int .i64 9, .string ⟨#[]⟩, .int .i64 0, .int .i64 0, .int .i64 0, .int .i64 0, .int .i64 0, .int .i64 0, .int .i64 0, .int .i64 0, .int .i64 0, .int .i64 0, .int .i64 0, .int .i64 0, .string ⟨#[]⟩, .int .i64 0, .int .i64 0, .int .i64 0, .int .i64 0, .slice none 0 0] := ⟨_, rfl⟩
  have H0 : Aside0 (Kb g w wm ∧ RS w0 wm g A c b r0 ∧ wm.heap[mb]? = some (.cells #[.int .i64 9, .string ⟨#[]⟩, .int .i64 0, .int .i64 0, .int .i64 0, .int .i64 0, .int .i64 0, .int .i64 0, .int .i64 0, .int .i64 0, .int .i64 0, .int .i64 0, .int .i64 0, .int .i64 0, .string ⟨#[]⟩, .int .i64 0, .int .i64 0, .int .i64 0, .int .i64 0, .slice none 0 0] 33 (0, 0)) ∧ wm.heap[w.heap.size]? = some (.cells #[.int .i64 0, .string ⟨#[]⟩, .int .i64 0, .int .i64 0, .int .i64 0, .int .i64 0, .int .i64 0, .int .i64 0, .int .i64 0, .int .i64 0, .int .i64 0, .int .i64 0, .int .i64 0, .int .i64 0, .string ⟨#[]⟩, .int .i64 0, .int .i64 0, .int .i64 0, .int .i64 0, .slice none 0 0] 33 (0, 0))) := ⟨by rw [hwm]; exact ⟨(HK5.out.1.trans (Kb.below hb6)).setRowNew (by rw [hmb]; exact HK5.out.1.size) _, (HK5.out.2.2.below hb6).setRowOther (by rw [hmb]; exact rs_ne HK5.out.2.2) (by rw [hmb]; exact HK5.out.2.1.size) _, setRow_blk hbox _, (setRow_far (by rw [hmb]; exact Nat.ne_of_lt (blk_lt HR5.out)) _).trans (blk_keep hb6 HR5.out)⟩⟩
  have HMB : Aside0 (w.heap.size ≤ mb ∧ mb ≠ g ∧ w0.heap.size ≤ mb ∧ mb ≠ w.heap.size) := ⟨by rw [hmb]; exact ⟨HK5.out.1.size, rs_ne HK5.out.2.2, HK5.out.2.1.size, by have := blk_lt HR5.out; omega⟩⟩
  rw [← hwm]
  clear hwm hmb hbox hb6 HK5 HR5
  obtain ⟨li0, hli⟩ : ∃ li0, li0 = r0 := ⟨_, rfl⟩
  rw [← hli] at H0 HP
  clear hli hk
  have HSP : Aside0 (restP 9 li0 = (bnd (nameP eB) fun s => bnd (pairP 1 1099511627776 0 1099511627776) fun p => bnd (pairP 0 1099511627776 0 1099511627776) fun rt => ret (mOf 9 s p z25 z25 rt 0)) li0) := ⟨by unfold restP; rw [if_neg (by decide), if_neg (by decide), if_neg (by decide)]; unfold ofP optP; simp only [hasEp, hasRt, Int.reduceLE, Int.reduceEq, and_self, or_self, or_true, true_or, and_true, true_and, or_false, false_or, and_false, false_and, if_true, if_false, ite_true, ite_false, bnd_ret, reduceIte]; rfl⟩
  have kk : wm.cell? ⟨mb, 0, none⟩ = some (.int .i64 9) := (blk_cell H0.out.2.2.1 0).trans rfl
  go_upto_region 17 with fail
  clear kk
  rcases h0 : nameP eB li0 with n0 | ⟨s, li1⟩
  · have HQ : Aside0 (msgP l = .bad n0) := ⟨by rw [HP.out, HSP.out, bnd_bad h0]⟩
    go_wp2_with (go_at_call 97; refine (name_calls w0 _ g A c b li0 eB HI.out H0.out.2.1).mono ?_; rintro e w5 ⟨hk, hb, hm⟩; simp only [h0, pan] at hm; subst hm; have HE := Aside0.mk (And.intro (H0.out.1.trans hk) hb); clear hk hb)
    refine ⟨rfl, HE.out.1, HE.out.2, ?_⟩
    rw [HQ.out]
    rfl
  · go_upto_region 18 with (go_at_call 97; refine (name_calls w0 _ g A c b li0 eB HI.out H0.out.2.1).mono ?_; rintro e w5 ⟨hk, hb, hm⟩; simp only [h0] at hm; obtain ⟨rfl, hs1⟩ := hm; have HK5 := Aside0.mk (And.intro (H0.out.1.trans hk) (And.intro hb hs1)); have HX := Aside0.mk (kb_blk hk HMB.out.2.1 H0.out.2.2.1); have HXR := Aside0.mk (kb_blk hk HNE.out H0.out.2.2.2); clear hk hb hs1; have kc1 : w5.cell? ⟨mb, 1, none⟩ = some (.string ⟨#[]⟩) := (blk_cell HX.out 1).trans rfl; have kf1 : w5.frozen? ⟨mb, 1, none⟩ = false := blk_frozen HX.out 1)
    obtain ⟨wz0, hwz⟩ : ∃ wz : World, wz = (w5.setCell ⟨mb, 1, none⟩ (.string s)) := ⟨_, rfl⟩
    have hbk := (blk_set HX.out 1 (.string s))
    have H1 : Aside0 (Kb g w wz0 ∧ RS w0 wz0 g A c b li1 ∧ wz0.heap[mb]? = some (.cells #[.int .i64 9, .string s, .int .i64 0, .int .i64 0, .int .i64 0, .int .i64 0, .int .i64 0, .int .i64 0, .int .i64 0, .int .i64 0, .int .i64 0, .int .i64 0, .int .i64 0, .int .i64 0, .string ⟨#[]⟩, .int .i64 0, .int .i64 0, .int .i64 0, .int .i64 0, .slice none 0 0] 33 (0, 0)) ∧ wz0.heap[w.heap.size]? = some (.cells #[.int .i64 0, .string ⟨#[]⟩, .int .i64 0, .int .i64 0, .int .i64 0, .int .i64 0, .int .i64 0, .int .i64 0, .int .i64 0, .int .i64 0, .int .i64 0, .int .i64 0, .int .i64 0, .int .i64 0, .string ⟨#[]⟩, .int .i64 0, .int .i64 0, .int .i64 0, .int .i64 0, .slice none 0 0] 33 (0, 0))) := ⟨by rw [hwz]; exact ⟨(HK5.out.1.setNew HMB.out.1 1 _), (HK5.out.2.2.setOther HMB.out.2.1 HMB.out.2.2.1 1 _), by simpa using hbk, (blk_far HXR.out HMB.out.2.2.2 1 (.string s))⟩⟩
    rw [← hwz]
    clear hwz hbk HK5 HX HXR kc1 kf1
    have kk : wz0.cell? ⟨mb, 0, none⟩ = some (.int .i64 9) := (blk_cell H1.out.2.2.1 0).trans rfl
    go_upto_region 18 with fail
    clear kk
    rcases h1 : pairP 1 1099511627776 0 1099511627776 li1 with n0 | ⟨p, li2⟩
    · have HQ : Aside0 (msgP l = .bad n0) := ⟨by rw [HP.out, HSP.out, bnd_ok h0, bnd_bad h1]⟩
      go_wp2_with (go_at_call 98; refine (cap_calls w0 _ g A c b li1 HI.out H1.out.2.1).mono ?_; rintro e w5 ⟨hk, hb, hm⟩; simp only [h1, pan] at hm; subst hm; have HE := Aside0.mk (And.intro (H1.out.1.trans hk) hb); clear hk hb)
      refine ⟨rfl, HE.out.1, HE.out.2, ?_⟩
      rw [HQ.out]
      rfl
    · go_upto_region 19 with (go_at_call 98; refine (cap_calls w0 _ g A c b li1 HI.out H1.out.2.1).mono ?_; rintro e w5 ⟨hk, hb, hm⟩; simp only [h1] at hm; obtain ⟨rfl, hs1⟩ := hm; have HK5 := Aside0.mk (And.intro (H1.out.1.trans hk) (And.intro hb hs1)); have HX := Aside0.mk (kb_blk hk HMB.out.2.1 H1.out.2.2.1); have HXR := Aside0.mk (kb_blk hk HNE.out H1.out.2.2.2); clear hk hb hs1; have kc2 : w5.cell? ⟨mb, 2, none⟩ = some (.int .i64 0) := (blk_cell HX.out 2).trans rfl; have kf2 : w5.frozen? ⟨mb, 2, none⟩ = false := blk_frozen HX.out 2; have kc3 : w5.cell? ⟨mb, 3, none⟩ = some (.int .i64 0) := (blk_cell HX.out 3).trans rfl; have kf3 : w5.frozen? ⟨mb, 3, none⟩ = false := blk_frozen HX.out 3)
      obtain ⟨wz1, hwz⟩ : ∃ wz : World, wz = ((w5.setCell ⟨mb, 2, none⟩ (.int .i64 p.f0)).setCell ⟨mb, 3, none⟩ (.int .i64 p.f1)) := ⟨_, rfl⟩
      have hbk := (blk_set (blk_set HX.out 2 (.int .i64 p.f0)) 3 (.int .i64 p.f1))
      have H2 : Aside0 (Kb g w wz1 ∧ RS w0 wz1 g A c b li2 ∧ wz1.heap[mb]? = some (.cells #[.int .i64 9, .string s, .int .i64 p.f0, .int .i64 p.f1, .int .i64 0, .int .i64 0, .int .i64 0, .int .i64 0, .int .i64 0, .int .i64 0, .int .i64 0, .int .i64 0, .int .i64 0, .int .i64 0, .string ⟨#[]⟩, .int .i64 0, .int .i64 0, .int .i64 0, .int .i64 0, .slice none 0 0] 33 (0, 0)) ∧ wz1.heap[w.heap.size]? = some (.cells #[.int .i64 0, .string ⟨#[]⟩, .int .i64 0, .int .i64 0, .int .i64 0, .int .i64 0, .int .i64 0, .int .i64 0, .int .i64 0, .int .i64 0, .int .i64 0, .int .i64 0, .int .i64 0, .int .i64 0, .string ⟨#[]⟩, .int .i64 0, .int .i64 0, .int .i64 0, .int .i64 0, .slice none 0 0] 33 (0, 0))) := ⟨by rw [hwz]; exact ⟨((HK5.out.1.setNew HMB.out.1 2 _).setNew HMB.out.1 3 _), ((HK5.out.2.2.setOther HMB.out.2.1 HMB.out.2.2.1 2 _).setOther HMB.out.2.1 HMB.out.2.2.1 3 _), by simpa using hbk, (blk_far (blk_far HXR.out HMB.out.2.2.2 2 (.int .i64 p.f0)) HMB.out.2.2.2 3 (.int .i64 p.f1))⟩⟩
      rw [← hwz]
      clear hwz hbk HK5 HX HXR kc2 kf2 kc3 kf3
      have kk : wz1.cell? ⟨mb, 0, none⟩ = some (.int .i64 9) := (blk_cell H2.out.2.2.1 0).trans rfl
      go_upto_region 29 with fail
      clear kk
      rcases h2 : pairP 0 1099511627776 0 1099511627776 li2 with n0 | ⟨rt, li3⟩
      · have HQ : Aside0 (msgP l = .bad n0) := ⟨by rw [HP.out, HSP.out, bnd_ok h0, bnd_ok h1, bnd_bad h2]⟩
        go_wp2_with (go_at_call 101; refine (rights_calls w0 _ g A c b li2 HI.out H2.out.2.1).mono ?_; rintro e w5 ⟨hk, hb, hm⟩; simp only [h2, pan] at hm; subst hm; have HE := Aside0.mk (And.intro (H2.out.1.trans hk) hb); clear hk hb)
        refine ⟨rfl, HE.out.1, HE.out.2, ?_⟩
        rw [HQ.out]
        rfl
      · go_upto_region 30 with (go_at_call 101; refine (rights_calls w0 _ g A c b li2 HI.out H2.out.2.1).mono ?_; rintro e w5 ⟨hk, hb, hm⟩; simp only [h2] at hm; obtain ⟨rfl, hs1⟩ := hm; have HK5 := Aside0.mk (And.intro (H2.out.1.trans hk) (And.intro hb hs1)); have HX := Aside0.mk (kb_blk hk HMB.out.2.1 H2.out.2.2.1); have HXR := Aside0.mk (kb_blk hk HNE.out H2.out.2.2.2); clear hk hb hs1; have kc8 : w5.cell? ⟨mb, 8, none⟩ = some (.int .i64 0) := (blk_cell HX.out 8).trans rfl; have kf8 : w5.frozen? ⟨mb, 8, none⟩ = false := blk_frozen HX.out 8; have kc9 : w5.cell? ⟨mb, 9, none⟩ = some (.int .i64 0) := (blk_cell HX.out 9).trans rfl; have kf9 : w5.frozen? ⟨mb, 9, none⟩ = false := blk_frozen HX.out 9)
        obtain ⟨wz2, hwz⟩ : ∃ wz : World, wz = ((w5.setCell ⟨mb, 8, none⟩ (.int .i64 rt.f0)).setCell ⟨mb, 9, none⟩ (.int .i64 rt.f1)) := ⟨_, rfl⟩
        have hbk := (blk_set (blk_set HX.out 8 (.int .i64 rt.f0)) 9 (.int .i64 rt.f1))
        have H3 : Aside0 (Kb g w wz2 ∧ RS w0 wz2 g A c b li3 ∧ wz2.heap[mb]? = some (.cells #[.int .i64 9, .string s, .int .i64 p.f0, .int .i64 p.f1, .int .i64 0, .int .i64 0, .int .i64 0, .int .i64 0, .int .i64 rt.f0, .int .i64 rt.f1, .int .i64 0, .int .i64 0, .int .i64 0, .int .i64 0, .string ⟨#[]⟩, .int .i64 0, .int .i64 0, .int .i64 0, .int .i64 0, .slice none 0 0] 33 (0, 0)) ∧ wz2.heap[w.heap.size]? = some (.cells #[.int .i64 0, .string ⟨#[]⟩, .int .i64 0, .int .i64 0, .int .i64 0, .int .i64 0, .int .i64 0, .int .i64 0, .int .i64 0, .int .i64 0, .int .i64 0, .int .i64 0, .int .i64 0, .int .i64 0, .string ⟨#[]⟩, .int .i64 0, .int .i64 0, .int .i64 0, .int .i64 0, .slice none 0 0] 33 (0, 0))) := ⟨by rw [hwz]; exact ⟨((HK5.out.1.setNew HMB.out.1 8 _).setNew HMB.out.1 9 _), ((HK5.out.2.2.setOther HMB.out.2.1 HMB.out.2.2.1 8 _).setOther HMB.out.2.1 HMB.out.2.2.1 9 _), by simpa using hbk, (blk_far (blk_far HXR.out HMB.out.2.2.2 8 (.int .i64 rt.f0)) HMB.out.2.2.2 9 (.int .i64 rt.f1))⟩⟩
        rw [← hwz]
        clear hwz hbk HK5 HX HXR kc8 kf8 kc9 kf9
        have kk : wz2.cell? ⟨mb, 0, none⟩ = some (.int .i64 9) := (blk_cell H3.out.2.2.1 0).trans rfl
        go_upto_region 32 with fail
        clear kk
        have HQ : Aside0 (msgP l = .ok (mOf 9 s p z25 z25 rt 0) li3) := ⟨by rw [HP.out, HSP.out, bnd_ok h0, bnd_ok h1, bnd_ok h2]; rfl⟩
        go_wp2_with ((with_reducible refine gate_dst (N := 87) rfl ?_); refine wpList_load_row rfl 33 (.tmp 3) rfl mb (by rfl) 33 _ (0, 0) _ H3.out.2.2.1 Try.underlying33 rfl inf33 ?_; go_loud (refine wpList_store_row rfl 33 (.tmp 2) (.tmp 87) rfl w.heap.size #[.int .i64 9, .string s, .int .i64 p.f0, .int .i64 p.f1, .int .i64 0, .int .i64 0, .int .i64 0, .int .i64 0, .int .i64 rt.f0, .int .i64 rt.f1, .int .i64 0, .int .i64 0, .int .i64 0, .int .i64 0, .string ⟨#[]⟩, .int .i64 0, .int .i64 0, .int .i64 0, .int .i64 0, .slice none 0 0] (by rfl) (by rfl) 33 _ H3.out.2.2.2 inf33 rfl (by simp [Value.oneCell']) ?_))
        have HBL := setRow_blk H3.out.2.2.2 #[.int .i64 9, .string s, .int .i64 p.f0, .int .i64 p.f1, .int .i64 0, .int .i64 0, .int .i64 0, .int .i64 0, .int .i64 rt.f0, .int .i64 rt.f1, .int .i64 0, .int .i64 0, .int .i64 0, .int .i64 0, .string ⟨#[]⟩, .int .i64 0, .int .i64 0, .int .i64 0, .int .i64 0, .slice none 0 0]
        (try simp only [Exit.inBlock, Exit.then])
        refine bodyPost_ret (v := .agg #[.int .i64 9, .string s, .int .i64 p.f0, .int .i64 p.f1, .int .i64 0, .int .i64 0, .int .i64 0, .int .i64 0, .int .i64 rt.f0, .int .i64 rt.f1, .int .i64 0, .int .i64 0, .int .i64 0, .int .i64 0, .string ⟨#[]⟩, .int .i64 0, .int .i64 0, .int .i64 0, .int .i64 0, .slice none 0 0]) ?_ rfl ?_
        · exact results_cell_row rfl _ _ w.heap.size 33 _ (0, 0) _ (by rfl) HBL hu33 rfl inf33
        refine ⟨H3.out.1.setRowNew (Nat.le_refl _) _, (H3.out.2.1.setRowOther HNE.out HW0.out _).bel, ?_⟩
        rw [HQ.out]
        exact ⟨⟨none, 0, rfl, .inl ⟨rfl, rfl, rfl⟩⟩, H3.out.2.1.setRowOther HNE.out HW0.out _⟩
end Go.Proofs.Ytpgdmmjbhjbbhaa.Rd
end
section
namespace Go.Proofs.Ytpgdmmjbhjbbhaa.Rd
open Go Go.RowKit Go.Proofs.Ytpgdmmjbhjbbhaa.P Go.Proofs.Ytpgdmmjbhjbbhaa.Sp Go.Proofs.Ytpgdmmjbhjbbhaa.Vd Go.Proofs.Ytpgdmmjbhjbbhaa.En Go.Proofs.Ytpgdmmjbhjbbhaa.Wr Go.Proofs.YtpgdmmjbhjbbhaaW.PrintWords Go.Proofs.YtpgdmmjbhjbbhaaW.PrintLast Go.Proofs.YtpgdmmjbhjbbhaaW.PrintMore
set_option linter.unusedVariables false
set_option linter.unusedSimpArgs false
set_option maxHeartbeats 4000000 in
set_option maxRecDepth 100000 in
theorem msg0_calls (w0 w : World) (g : Nat) (A : Option Addr) (c : Nat) (b l : List Int) (n : Nat) (hi_ : In w0 A c b) (h : RS w0 w g A c b l) (hk : numP 1 10 l = .bad n) :
    Calls Try.prog 61 #[.pointer (some ⟨g, 0, none⟩)] w fun e w' => LeftM w0 w g A c b (msgP l) e w' := by
  have HI := Aside0.mk hi_
  have HQ : Aside0 (msgP l = .bad n) := ⟨by unfold msgP; rw [bnd_bad hk]⟩
  obtain ⟨wa, hwa⟩ : ∃ wa, wa = w.alloc (.cells #[.int .i64 0, .string ⟨#[]⟩, .int .i64 0, .int .i64 0, .int .i64 0, .int .i64 0, .int .i64 0, .int .i64 0, .int .i64 0, .int .i64 0, .int .i64 0, .int .i64 0, .int .i64 0, .int .i64 0, .string ⟨#[]⟩, .int .i64 0, .int .i64 0, .int .i64 0, .int .i64 0, .slice none 0 0] 33 (0, 0)) := ⟨_, rfl⟩
  have HWA := Aside0.mk hwa
  have HA : Aside0 (Kb g w wa ∧ RS w0 wa g A c b l) := ⟨by rw [hwa]; exact ⟨Kb.below (al_below w _), h.below (al_below w _)⟩⟩
  clear hi_ h hwa
  go_enter Try.func61, Try.ntmps61
  go_upto_region 1 with fail
  rw [← HWA.out]
  go_wp2_with (go_at_call 80; refine (num_calls w0 _ g A c b l 1 10 (by decide) (by decide) (by decide) HI.out HA.out.2).mono ?_; rintro e w5 ⟨hkb, hb, hm⟩; simp only [hk, pan] at hm; subst hm; have HE := Aside0.mk (And.intro (HA.out.1.trans hkb) hb); clear hkb hb)
  refine ⟨rfl, HE.out.1, HE.out.2, ?_⟩
  rw [HQ.out]
  rfl
theorem msg_calls (w0 w : World) (g : Nat) (A : Option Addr) (c : Nat) (b l : List Int) (hi_ : In w0 A c b) (h : RS w0 w g A c b l) :
    Calls Try.prog 61 #[.pointer (some ⟨g, 0, none⟩)] w fun e w' => LeftM w0 w g A c b (msgP l) e w' := by
  rcases hk : numP 1 10 l with n | ⟨k, r⟩
  · exact msg0_calls w0 w g A c b l n hi_ h hk
  · have hb := ((numP_codec 1 10 (by decide) (by decide)).one l k r (h.isB hi_.isB) hk).1
    have hs : k = 1 ∨ k = 2 ∨ k = 3 ∨ k = 4 ∨ k = 5 ∨ k = 6 ∨ k = 7 ∨ k = 8 ∨ k = 9 ∨ k = 10 := by omega
    rcases hs with rfl | rfl | rfl | rfl | rfl | rfl | rfl | rfl | rfl | rfl
    · exact msg1_calls w0 w g A c b l r hi_ h hk
    · rcases h3 : bnd (pairP 0 63 1 1099511627776) (fun x => bnd (nameP eB) fun s => bnd (numP 0 255) fun er => ret (x, s, er)) r with n | ⟨⟨x, s, er⟩, r1⟩
      · exact msg2t_calls w0 w g A c b l r hi_ h hk (fun x s er r1 h4 => by rw [h3] at h4; cases h4)
      · by_cases hc : capped er
        · exact msg2t_calls w0 w g A c b l r hi_ h hk (fun x' s' er' r1' h4 => by rw [h3] at h4; injection h4 with h5; injection h5 with h6 h7; injection h7 with h8 h9; rw [← h9]; exact hc)
        · exact msg2f_calls w0 w g A c b l r hi_ h hk (fun x' s' er' r1' h4 => by rw [h3] at h4; injection h4 with h5; injection h5 with h6 h7; injection h7 with h8 h9; rw [← h9]; exact hc)
    · exact msg3_calls w0 w g A c b l r hi_ h hk
    · exact msg4_calls w0 w g A c b l r hi_ h hk
    · exact msg5_calls w0 w g A c b l r hi_ h hk
    · exact msg6_calls w0 w g A c b l r hi_ h hk
    · exact msg7_calls w0 w g A c b l r hi_ h hk
    · exact msg8_calls w0 w g A c b l r hi_ h hk
    · exact msg9_calls w0 w g A c b l r hi_ h hk
    · exact msg10_calls w0 w g A c b l r hi_ h hk
end Go.Proofs.Ytpgdmmjbhjbbhaa.Rd
end
section
namespace Go.Proofs.Ytpgdmmjbhjbbhaa.Rd
open Go Go.RowKit Go.Proofs.Ytpgdmmjbhjbbhaa.P Go.Proofs.Ytpgdmmjbhjbbhaa.Sp Go.Proofs.Ytpgdmmjbhjbbhaa.Vd Go.Proofs.Ytpgdmmjbhjbbhaa.En Go.Proofs.Ytpgdmmjbhjbbhaa.Wr Go.Proofs.YtpgdmmjbhjbbhaaW.PrintWords Go.Proofs.YtpgdmmjbhjbbhaaW.PrintLast Go.Proofs.YtpgdmmjbhjbbhaaW.PrintMore
set_option linter.unusedVariables false
set_option linter.unusedSimpArgs false
theorem ta_yes (n : Int) (w : World) : (Instr.typeAssert (.iface 138 (.int .i64 n)) 20 138 true).run Try.prog w = .ok (.tuple #[.int .i64 n, .bool true]) w := by kernel_rfl
theorem ta_no (w : World) : (Instr.typeAssert .nilIface 20 138 true).run Try.prog w = .ok (.tuple #[.int .i64 0, .bool false]) w := by kernel_rfl
set_option maxRecDepth 100000 in
theorem catch_pan (p q : Addr) (x y n : Int) (w : World) (hc : w.cell? p = some (.int .i64 x)) (hz : w.frozen? p = false) (hd : (w.setCell p (.int .i64 n)).cell? q = some (.int .i64 y)) (hy : (w.setCell p (.int .i64 n)).frozen? q = false) :
    CallsD Try.prog 96 #[.pointer (some p), .pointer (some q)] (.panicking [{ v := .iface 138 (.int .i64 n), recovered := false }]) w fun e u' w' =>
      e = .returned (.tuple #[]) ∧ u' = .panicking [{ v := .iface 138 (.int .i64 n), recovered := true }] ∧ w' = (w.setCell p (.int .i64 n)).setCell q (.int .i64 20) := by
  refine callsD_of_wpS Try.func96 rfl fun c₀ cs hu => ?_
  apply wpS_seq
  apply wpS_region
  simp [wpOpsS, go_sem, recoverD, hu, Try.ntmps96, Exit.thenS, ta_yes, ta_no, Array.replicate, List.replicate]
  apply wpS_seq
  apply wpS_region
  simp [wpOpsS, go_sem, Exit.thenS]
  refine wpS_cond (t := true) (by simp [Act.eval]) ?_
  simp only [if_true]
  apply wpS_region
  simp [wpOpsS, go_sem, hc, hz, hd, hy, bodyPostS, results, Try.results96]
set_option maxRecDepth 100000 in
theorem catch_idle (p q : Addr) (w : World) :
    CallsD Try.prog 96 #[.pointer (some p), .pointer (some q)] .returning w fun e u' w' => e = .returned (.tuple #[]) ∧ u' = .returning ∧ w' = w := by
  refine callsD_of_wpS Try.func96 rfl fun c₀ cs hu => ?_
  apply wpS_seq
  apply wpS_region
  simp [wpOpsS, go_sem, recoverD, hu, Try.ntmps96, Exit.thenS, ta_yes, ta_no, Array.replicate, List.replicate]
  apply wpS_seq
  apply wpS_region
  simp [wpOpsS, go_sem, Exit.thenS]
  refine wpS_cond (t := false) (by simp [Act.eval]) ?_
  simp only [Bool.false_eq_true, if_false]
  refine wpS_of_wp (wp_skip ?_)
  cases c₀
  simp_all [bodyPostS, results, Try.results96]
end Go.Proofs.Ytpgdmmjbhjbbhaa.Rd
end
