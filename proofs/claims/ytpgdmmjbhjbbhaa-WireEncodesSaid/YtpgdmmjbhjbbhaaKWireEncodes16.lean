/- texts that the proof needs, laid together by a program of this session. -/
import Derived.Deep.Cut
import Derived.Deep.RegionHeld3
import Derived.Test.YtpgdmmjbhjbbhaaKWireEncodes15
section
namespace Go.Proofs.Ytpgdmmjbhjbbhaa.Rf
open Go Go.RowKit Go.Proofs.Ytpgdmmjbhjbbhaa.P Go.Proofs.Ytpgdmmjbhjbbhaa.Sp Go.Proofs.Ytpgdmmjbhjbbhaa.Vd Go.Proofs.Ytpgdmmjbhjbbhaa.En Go.Proofs.Ytpgdmmjbhjbbhaa.Wr Go.Proofs.Ytpgdmmjbhjbbhaa.Rd Go.Proofs.Ytpgdmmjbhjbbhaa.Lw Go.Proofs.YtpgdmmjbhjbbhaaW.PrintWords Go.Proofs.YtpgdmmjbhjbbhaaW.PrintLast Go.Proofs.YtpgdmmjbhjbbhaaW.PrintMore
set_option linter.unusedVariables false
set_option linter.unusedSimpArgs false
/-- On the way: the bytes so far, and the message, boxed. -/
structure ES (w W : World) (m : Msg) (A : Option Addr) (c : Nat) (v : Value) (xs : List Int) : Prop where
  wr : WR w W v xs
  box : W.heap[w.heap.size]? = some (.cells (MVc m A c) 33 (0, 0))
section
variable {w W W' : World} {m : Msg} {A : Option Addr} {c : Nat} {v v' : Value} {xs xs' : List Int}
theorem ES.below (h : ES w W m A c v xs) (k : Below W.heap.size W W') : ES w W' m A c v xs := ⟨h.wr.below k, blk_keep k h.box⟩
theorem ES.drew (h : ES w W m A c v xs) : ES w W.drew m A c v xs := h.below (below_drew1 (Below.refl _ _))
theorem ES.new (h : ES w W m A c v xs) (o : Obj) : ES w (W.alloc o) m A c v xs := h.below (al_below W o)
theorem ES.step (h : ES w W m A c v xs) (k : WR w W' v' xs') (s : Sty W W') : ES w W' m A c v' xs' := ⟨k, s _ _ _ (by decide) h.box⟩
theorem ES.cell (h : ES w W m A c v xs) (i : Nat) : W.cell? ⟨w.heap.size, i, none⟩ = (MVc m A c)[i]? := blk_cell h.box i
theorem ES.k99 (h : ES w W m A c v xs) : W.cell? ⟨w.heap.size, 0, none⟩ = some (.int .i64 m.kind) ∧ W.cell? ⟨w.heap.size, 4, none⟩ = some (.int .i64 m.epoch.f0) ∧ W.cell? ⟨w.heap.size, 5, none⟩ = some (.int .i64 m.epoch.f1) ∧ W.cell? ⟨w.heap.size, 6, none⟩ = some (.int .i64 m.over.f0) ∧ W.cell? ⟨w.heap.size, 7, none⟩ = some (.int .i64 m.over.f1) ∧ W.cell? ⟨w.heap.size, 8, none⟩ = some (.int .i64 m.rights.f0) ∧ W.cell? ⟨w.heap.size, 9, none⟩ = some (.int .i64 m.rights.f1) ∧ W.cell? ⟨w.heap.size, 10, none⟩ = some (.int .i64 m.held) := ⟨(h.cell 0).trans rfl, (h.cell 4).trans rfl, (h.cell 5).trans rfl, (h.cell 6).trans rfl, (h.cell 7).trans rfl, (h.cell 8).trans rfl, (h.cell 9).trans rfl, (h.cell 10).trans rfl⟩
theorem ES.k98 (h : ES w W m A c v xs) : W.cell? ⟨w.heap.size, 0, none⟩ = some (.int .i64 m.kind) ∧ W.cell? ⟨w.heap.size, 17, none⟩ = some (.int .i64 m.err) ∧ W.cell? ⟨w.heap.size, 2, none⟩ = some (.int .i64 m.cap) ∧ W.cell? ⟨w.heap.size, 3, none⟩ = some (.int .i64 m.recaps) := ⟨(h.cell 0).trans rfl, (h.cell 17).trans rfl, (h.cell 2).trans rfl, (h.cell 3).trans rfl⟩
theorem ES.k97 (h : ES w W m A c v xs) : W.cell? ⟨w.heap.size, 0, none⟩ = some (.int .i64 m.kind) ∧ W.cell? ⟨w.heap.size, 19, none⟩ = some (.slice A m.views.length c) := ⟨(h.cell 0).trans rfl, (h.cell 19).trans rfl⟩
theorem ES.k6 (h : ES w W m A c v xs) : W.cell? ⟨w.heap.size, 11, none⟩ = some (.int .i64 m.call.f0) ∧ W.cell? ⟨w.heap.size, 12, none⟩ = some (.int .i64 m.call.f1) ∧ W.cell? ⟨w.heap.size, 13, none⟩ = some (.int .i64 m.op.kind) ∧ W.cell? ⟨w.heap.size, 14, none⟩ = some (.string m.op.name) ∧ W.cell? ⟨w.heap.size, 15, none⟩ = some (.int .i64 m.op.a) ∧ W.cell? ⟨w.heap.size, 16, none⟩ = some (.int .i64 m.op.b) := ⟨(h.cell 11).trans rfl, (h.cell 12).trans rfl, (h.cell 13).trans rfl, (h.cell 14).trans rfl, (h.cell 15).trans rfl, (h.cell 16).trans rfl⟩
theorem ES.k8 (h : ES w W m A c v xs) : W.cell? ⟨w.heap.size, 11, none⟩ = some (.int .i64 m.call.f0) ∧ W.cell? ⟨w.heap.size, 12, none⟩ = some (.int .i64 m.call.f1) ∧ W.cell? ⟨w.heap.size, 1, none⟩ = some (.string m.name) ∧ W.cell? ⟨w.heap.size, 17, none⟩ = some (.int .i64 m.err) := ⟨(h.cell 11).trans rfl, (h.cell 12).trans rfl, (h.cell 1).trans rfl, (h.cell 17).trans rfl⟩
theorem ES.k20 (h : ES w W m A c v xs) : W.cell? ⟨w.heap.size, 1, none⟩ = some (.string m.name) ∧ W.cell? ⟨w.heap.size, 2, none⟩ = some (.int .i64 m.cap) ∧ W.cell? ⟨w.heap.size, 3, none⟩ = some (.int .i64 m.recaps) := ⟨(h.cell 1).trans rfl, (h.cell 2).trans rfl, (h.cell 3).trans rfl⟩
theorem nums_len : ∀ l : List Int, (numsB l).length ≤ 10 * l.length
  | [] => by simp [numsB]
  | a :: r => by
    have h1 := intB_len a
    have h2 := nums_len r
    have h3 : numsB (a :: r) = intB a ++ numsB r := by simp [numsB]
    rw [h3, List.length_append, List.length_cons]
    omega
end
theorem xcells {W : World} {b : Nat} {x : S87} (h : W.heap[b]? = some (.cells #[.string x.f0, .int .i64 x.f1, .int .i64 x.f2, .int .i64 x.f3, .int .i64 x.f4.f0, .int .i64 x.f4.f1, .int .i64 x.f5] 87 (0, 0))) : W.cell? ⟨b, 0, none⟩ = some (.string x.f0) ∧ W.cell? ⟨b, 1, none⟩ = some (.int .i64 x.f1) ∧ W.cell? ⟨b, 2, none⟩ = some (.int .i64 x.f2) ∧ W.cell? ⟨b, 3, none⟩ = some (.int .i64 x.f3) ∧ W.cell? ⟨b, 4, none⟩ = some (.int .i64 x.f4.f0) ∧ W.cell? ⟨b, 5, none⟩ = some (.int .i64 x.f4.f1) ∧ W.cell? ⟨b, 6, none⟩ = some (.int .i64 x.f5) := ⟨(blk_cell h 0).trans rfl, (blk_cell h 1).trans rfl, (blk_cell h 2).trans rfl, (blk_cell h 3).trans rfl, (blk_cell h 4).trans rfl, (blk_cell h 5).trans rfl, (blk_cell h 6).trans rfl⟩
theorem viewsV_name : ∀ {a : ByteArray} {l : List S87}, viewsV a l → ∀ x ∈ l, nameOk (bytesOf x.f0)
  | _, [], _, _, h => by cases h
  | a, v :: r, h, x, hx => by
    rcases List.mem_cons.1 hx with rfl | hx
    · exact (viewV_iff.mp h.1).2.1
    · exact viewsV_name h.2 x hx
set_option maxHeartbeats 8000000 in
set_option maxRecDepth 100000 in
theorem renc1_calls (m : Msg) (h : isI m.op.a ∧ isI m.op.b) (A : Option Addr) (c : Nat) (w : World) (hr : Kd.C k87 w A m.views.length m.views) (hc : m.views.length ≤ c) (hk : m.kind = 1) (hv : msgV m) :
    Calls Try.prog 39 #[.agg (MVc m A c)] w fun e w' => ∃ v, e = .returned (.tuple #[v, .int .i64 0]) ∧ WR w w' v (msgB m) := by
  have HLEN : Aside0 ((msgB m).length ≤ 100000) := ⟨by have := msg_len hv; omega⟩
  have HV := Aside0.mk hv
  have HR := Aside0.mk (And.intro hr hc)
  have HI := Aside0.mk h
  have HN : Aside0 (m.op.name.size ≤ 100) := ⟨by have h1 := hv.2; unfold restV at h1; rw [if_pos hk] at h1; have := name_size h1.2.1.2.1.1; omega⟩
  have HT : Aside0 (msgB m = numsB [m.kind] ++ (pairB m.call ++ opB m.op)) := ⟨by unfold msgB restB; simp [hk, numsB]⟩
  have t1 : (m.kind == 1) = true := by simp [hk]
  clear hk
  clear hv hr hc h
  have hu33 := Try.underlying33
  have hu27 := Try.underlying27
  have hu29 := Try.underlying29
  have hu23 := Try.underlying23
  have hu25 := Try.underlying25
  obtain ⟨wa, hwa⟩ : ∃ wa, wa = w.alloc (.cells (MVc m A c) 33 (0, 0)) := ⟨_, rfl⟩
  have HWA := Aside0.mk hwa
  have E0 : Aside0 (ES w wa m A c (.slice none 0 0) []) := ⟨by rw [hwa]; exact ⟨WR.nil (al_below w _), heap_alloc_new w _⟩⟩
  clear hwa
  go_enter Try.func39, Try.ntmps39
  go_upto_region 1 with fail
  rw [← HWA.out]
  go_upto_region 3 with (first
    | ((with_reducible refine gate_dst (N := 7) rfl ?_); refine wpList_load_row rfl 33 (.tmp 1) rfl w.heap.size (by rfl) 33 (MVc m A c) (0, 0) _ E0.out.box Try.underlying33 rfl inf33 ?_)
    | (go_at_call 15; refine (rvalid_calls m HI.out A c _ (Kd.C_below HR.out.1 E0.out.wr.1) HR.out.2).mono ?_; rintro e w0 ⟨rfl, hb⟩; rw [dcd_pos HV.out]; have E1 := Aside0.mk (ES.below E0.out hb); clear hb))
  have kz0 : w0.cell? ⟨w.heap.size, 0, none⟩ = some (.int .i64 m.kind) := (E1.out.cell 0).trans rfl
  go_upto_region 4 with (go_at_call 88; refine (plain_law w _ _ [] [m.kind] _ _ _ (E1.out.new _).wr (heap_alloc_new w0 _) rfl (by simp) (by simp) (by simp)).mono ?_; rintro e w1 ⟨v1, rfl, hw, hs⟩; have E2 := Aside0.mk ((E1.out.new _).step hw hs); clear hw hs kz0)
  have HX : Aside0 (([] ++ numsB [m.kind] : List Int).length ≤ 10) := ⟨by simpa [numsB] using intB_len m.kind⟩
  have kz0 : w1.cell? ⟨w.heap.size, 0, none⟩ = some (.int .i64 m.kind) := (E2.out.cell 0).trans rfl
  clear E0 E1 HWA
  go_upto_region 6 with fail
  clear kz0
  obtain ⟨kz11, kz12, kz13, kz14, kz15, kz16⟩ := E2.out.drew.k6
  go_region_held3 (fun w' => w'.cell? ⟨w.heap.size, 11, none⟩ = some (.int .i64 m.call.f0) ∧ w'.cell? ⟨w.heap.size, 12, none⟩ = some (.int .i64 m.call.f1) ∧ w'.cell? ⟨w.heap.size, 13, none⟩ = some (.int .i64 m.op.kind) ∧ w'.cell? ⟨w.heap.size, 14, none⟩ = some (.string m.op.name) ∧ w'.cell? ⟨w.heap.size, 15, none⟩ = some (.int .i64 m.op.a) ∧ w'.cell? ⟨w.heap.size, 16, none⟩ = some (.int .i64 m.op.b)) (first | exact E4.out.k6 | exact E3.out.k6 | exact E2.out.drew.k6) (first
    | (go_at_call 90; refine (putCall_law w _ v1 ([] ++ numsB [m.kind]) m.call E2.out.drew.wr (by have := HX.out; omega)).mono ?_; rintro e w2 ⟨v2, rfl, hw, hs⟩; have E3 := Aside0.mk (E2.out.drew.step hw hs); clear hw hs)
    | (go_at_call 89; refine (putOp_law w _ v2 ([] ++ numsB [m.kind] ++ pairB m.call) m.op E3.out.wr HN.out HI.out (by have := HX.out; have := pairB_len m.call; rw [List.length_append]; omega)).mono ?_; rintro e w3 ⟨v3, rfl, hw, hs⟩; have E4 := Aside0.mk (E3.out.step hw hs); clear hw hs))
  go_wp2_with fail
  go_ret2
  refine ⟨v3, rfl, ?_⟩
  rw [HT.out]
  simpa only [List.nil_append, List.append_assoc] using E4.out.wr
set_option maxHeartbeats 8000000 in
set_option maxRecDepth 100000 in
theorem rencO_calls (m : Msg) (h : isI m.op.a ∧ isI m.op.b) (A : Option Addr) (c : Nat) (w : World) (hr : Kd.C k87 w A m.views.length m.views) (hc : m.views.length ≤ c) (hk : m.kind = 3 ∨ m.kind = 4 ∨ m.kind = 5 ∨ m.kind = 6 ∨ m.kind = 7 ∨ m.kind = 8 ∨ m.kind = 9) (hv : msgV m) :
    Calls Try.prog 39 #[.agg (MVc m A c)] w fun e w' => ∃ v, e = .returned (.tuple #[v, .int .i64 0]) ∧ WR w w' v (msgB m) := by
  have HLEN : Aside0 ((msgB m).length ≤ 100000) := ⟨by have := msg_len hv; omega⟩
  have HV := Aside0.mk hv
  have HR := Aside0.mk (And.intro hr hc)
  have HI := Aside0.mk h
  have HN : Aside0 (m.name.size ≤ 100) := ⟨by have h1 := hv.2; unfold restV at h1; rw [if_neg (by omega), if_neg (by omega), if_neg (by omega)] at h1; have := name_size h1.1.1; omega⟩
  have HT : Aside0 (msgB m = numsB [m.kind] ++ (textB m.name ++ (numsB [m.cap, m.recaps] ++ (optB (hasEp m.kind) pairB m.epoch ++ (optB (m.kind = 7) pairB m.over ++ (optB (hasRt m.kind) pairB m.rights ++ optB (m.kind = 4) intB m.held)))))) := ⟨by unfold msgB restB; rw [if_neg (by omega), if_neg (by omega), if_neg (by omega)]; simp [numsB, pairB, capOf]⟩
  have t1 : (m.kind == 1) = false := by simp; omega
  have t2 : (m.kind == 2) = false := by simp; omega
  have t10 : (m.kind == 10) = false := by simp; omega
  have HK := Aside0.mk hk
  clear hk
  clear hv hr hc h
  have hu33 := Try.underlying33
  have hu27 := Try.underlying27
  have hu29 := Try.underlying29
  have hu23 := Try.underlying23
  have hu25 := Try.underlying25
  obtain ⟨wa, hwa⟩ : ∃ wa, wa = w.alloc (.cells (MVc m A c) 33 (0, 0)) := ⟨_, rfl⟩
  have HWA := Aside0.mk hwa
  have E0 : Aside0 (ES w wa m A c (.slice none 0 0) []) := ⟨by rw [hwa]; exact ⟨WR.nil (al_below w _), heap_alloc_new w _⟩⟩
  clear hwa
  go_enter Try.func39, Try.ntmps39
  go_upto_region 1 with fail
  rw [← HWA.out]
  go_upto_region 3 with (first
    | ((with_reducible refine gate_dst (N := 7) rfl ?_); refine wpList_load_row rfl 33 (.tmp 1) rfl w.heap.size (by rfl) 33 (MVc m A c) (0, 0) _ E0.out.box Try.underlying33 rfl inf33 ?_)
    | (go_at_call 15; refine (rvalid_calls m HI.out A c _ (Kd.C_below HR.out.1 E0.out.wr.1) HR.out.2).mono ?_; rintro e w0 ⟨rfl, hb⟩; rw [dcd_pos HV.out]; have E1 := Aside0.mk (ES.below E0.out hb); clear hb))
  have kz0 : w0.cell? ⟨w.heap.size, 0, none⟩ = some (.int .i64 m.kind) := (E1.out.cell 0).trans rfl
  go_upto_region 4 with (go_at_call 88; refine (plain_law w _ _ [] [m.kind] _ _ _ (E1.out.new _).wr (heap_alloc_new w0 _) rfl (by simp) (by simp) (by simp)).mono ?_; rintro e w1 ⟨v1, rfl, hw, hs⟩; have E2 := Aside0.mk ((E1.out.new _).step hw hs); clear hw hs kz0)
  have HX : Aside0 (([] ++ numsB [m.kind] : List Int).length ≤ 10) := ⟨by simpa [numsB] using intB_len m.kind⟩
  have kz0 : w1.cell? ⟨w.heap.size, 0, none⟩ = some (.int .i64 m.kind) := (E2.out.cell 0).trans rfl
  clear E0 E1 HWA
  go_upto_region 20 with fail
  clear kz0
  go_cut [4, 95, 96, 97, 98, 99, 100, 101, 102, 103, 104] from 150 (fun s4 _ _ _ _ _ _ _ _ _ _ wx => Aside0 (ES w wx m A c s4 ([] ++ numsB [m.kind] ++ textB m.name ++ numsB [m.cap, m.recaps])))
  case first =>
    obtain ⟨kz1, kz2, kz3⟩ := E2.out.drew.k20
    go_region_held3 (fun w' => w'.cell? ⟨w.heap.size, 1, none⟩ = some (.string m.name) ∧ w'.cell? ⟨w.heap.size, 2, none⟩ = some (.int .i64 m.cap) ∧ w'.cell? ⟨w.heap.size, 3, none⟩ = some (.int .i64 m.recaps)) (first | exact E4.out.k20 | exact (E3.out.new _).k20 | exact E3.out.k20 | exact (E2.out.drew.new _).k20 | exact E2.out.drew.k20) (first
      | (go_at_call 91; refine (text_law w _ v1 ([] ++ numsB [m.kind]) m.name (by first | exact E2.out.drew.wr | exact (E2.out.drew.new _).wr) HN.out (by have := HX.out; omega)).mono ?_; rintro e w2 ⟨v2, rfl, hw, hs⟩; have E3 : Aside0 (ES w w2 m A c v2 ([] ++ numsB [m.kind] ++ textB m.name)) := ⟨by first | exact E2.out.drew.step hw hs | exact (E2.out.drew.new _).step hw hs⟩; (try have HL := Aside0.mk (hs _ _ _ (by decide) (heap_alloc_new w1.drew _))); clear hw hs)
      | (go_at_call 88; refine (plain_law w _ v2 ([] ++ numsB [m.kind] ++ textB m.name) [m.cap, m.recaps] _ _ _ (by first | exact E3.out.wr | exact (E3.out.new _).wr) (by first | exact HL.out | exact heap_alloc_new w2 _) rfl (by simp) (by simp) (by have := HX.out; have := textB_len HN.out; rw [List.length_append]; omega)).mono ?_; rintro e w3 ⟨v3, rfl, hw, hs⟩; have E4 : Aside0 (ES w w3 m A c v3 ([] ++ numsB [m.kind] ++ textB m.name ++ numsB [m.cap, m.recaps])) := ⟨by first | exact E3.out.step hw hs | exact (E3.out.new _).step hw hs⟩; clear hw hs))
    all_goals go_wp2_with fail
    all_goals go_meet
    all_goals exact ⟨E4.out⟩
  case rest =>
    clear E2
    have E5 := hcut
    clear hcut
    have HXL : Aside0 ((numsB [m.kind]).length ≤ 10 ∧ (textB m.name).length ≤ 110 ∧ (numsB [m.cap, m.recaps]).length ≤ 20) := ⟨nums_len _, textB_len HN.out, nums_len _⟩
    obtain ⟨kz0, kz4, kz5, kz6, kz7, kz8, kz9, kz10⟩ := E5.out.k99
    rcases HK.out with hk | hk | hk | hk | hk | hk | hk
    all_goals
      (first | have l7 : m.kind ≤ 7 := by omega | have l7 : ¬ m.kind ≤ 7 := by omega)
      (first | have e7 : (m.kind == 7) = true := by simp [hk] | have e7 : (m.kind == 7) = false := by simp [hk])
      (first | have e4 : (m.kind == 4) = true := by simp [hk] | have e4 : (m.kind == 4) = false := by simp [hk])
      (first | have e3 : (m.kind == 3) = true := by simp [hk] | have e3 : (m.kind == 3) = false := by simp [hk])
      have HT2 := HT
      simp only [optB, hasEp, hasRt, hk] at HT2
      have HH := Aside0.mk hk
      clear HT HK hk

    case' inr.inl =>
      go_upto_region 28 with (go_at_call 88; refine (plain2_law w _ _ _ _ _ _ (E5.out.new _).wr (heap_alloc_new _ _) (by have := HXL.out; have := nums_len [m.epoch.f0, m.epoch.f1]; have := nums_len [m.rights.f0, m.rights.f1]; simp only [List.length_append, List.length_nil, List.length_cons] at *; omega)).mono ?_; rintro e wn ⟨vn, rfl, hw, hs⟩; have n0_ := Aside0.mk ((E5.out.new _).step hw hs); clear E5 hw hs kz0 kz4 kz5 kz6 kz7 kz8 kz9 kz10; have E5 := n0_; clear n0_; obtain ⟨kz0, kz4, kz5, kz6, kz7, kz8, kz9, kz10⟩ := E5.out.k99)
      go_wp2_with (go_at_call 88; refine (plain1_law w _ _ _ _ _ (E5.out.new _).wr (heap_alloc_new _ _) (by have := HXL.out; have := nums_len [m.epoch.f0, m.epoch.f1]; have := nums_len [m.rights.f0, m.rights.f1]; simp only [List.length_append, List.length_nil, List.length_cons] at *; omega)).mono ?_; rintro e wn ⟨vn, rfl, hw, hs⟩; have n0_ := Aside0.mk ((E5.out.new _).step hw hs); clear E5 hw hs kz0 kz4 kz5 kz6 kz7 kz8 kz9 kz10; have E5 := n0_; clear n0_; obtain ⟨kz0, kz4, kz5, kz6, kz7, kz8, kz9, kz10⟩ := E5.out.k99)
    case' inl => go_wp2_with (go_at_call 88; refine (plain2_law w _ _ _ _ _ _ (E5.out.new _).wr (heap_alloc_new _ _) (by have := HXL.out; have := nums_len [m.epoch.f0, m.epoch.f1]; have := nums_len [m.rights.f0, m.rights.f1]; simp only [List.length_append, List.length_nil, List.length_cons] at *; omega)).mono ?_; rintro e wn ⟨vn, rfl, hw, hs⟩; have n0_ := Aside0.mk ((E5.out.new _).step hw hs); clear E5 hw hs kz0 kz4 kz5 kz6 kz7 kz8 kz9 kz10; have E5 := n0_; clear n0_; obtain ⟨kz0, kz4, kz5, kz6, kz7, kz8, kz9, kz10⟩ := E5.out.k99)
    case' inr.inr.inl => go_wp2_with (go_at_call 88; refine (plain2_law w _ _ _ _ _ _ (E5.out.new _).wr (heap_alloc_new _ _) (by have := HXL.out; have := nums_len [m.epoch.f0, m.epoch.f1]; have := nums_len [m.rights.f0, m.rights.f1]; simp only [List.length_append, List.length_nil, List.length_cons] at *; omega)).mono ?_; rintro e wn ⟨vn, rfl, hw, hs⟩; have n0_ := Aside0.mk ((E5.out.new _).step hw hs); clear E5 hw hs kz0 kz4 kz5 kz6 kz7 kz8 kz9 kz10; have E5 := n0_; clear n0_; obtain ⟨kz0, kz4, kz5, kz6, kz7, kz8, kz9, kz10⟩ := E5.out.k99)
    case' inr.inr.inr.inl => go_wp2_with (go_at_call 88; refine (plain2_law w _ _ _ _ _ _ (E5.out.new _).wr (heap_alloc_new _ _) (by have := HXL.out; have := nums_len [m.epoch.f0, m.epoch.f1]; have := nums_len [m.rights.f0, m.rights.f1]; simp only [List.length_append, List.length_nil, List.length_cons] at *; omega)).mono ?_; rintro e wn ⟨vn, rfl, hw, hs⟩; have n0_ := Aside0.mk ((E5.out.new _).step hw hs); clear E5 hw hs kz0 kz4 kz5 kz6 kz7 kz8 kz9 kz10; have E5 := n0_; clear n0_; obtain ⟨kz0, kz4, kz5, kz6, kz7, kz8, kz9, kz10⟩ := E5.out.k99)
    case' inr.inr.inr.inr.inl => go_wp2_with (go_at_call 88; refine (plain2_law w _ _ _ _ _ _ (E5.out.new _).wr (heap_alloc_new _ _) (by have := HXL.out; have := nums_len [m.epoch.f0, m.epoch.f1]; have := nums_len [m.rights.f0, m.rights.f1]; simp only [List.length_append, List.length_nil, List.length_cons] at *; omega)).mono ?_; rintro e wn ⟨vn, rfl, hw, hs⟩; have n0_ := Aside0.mk ((E5.out.new _).step hw hs); clear E5 hw hs kz0 kz4 kz5 kz6 kz7 kz8 kz9 kz10; have E5 := n0_; clear n0_; obtain ⟨kz0, kz4, kz5, kz6, kz7, kz8, kz9, kz10⟩ := E5.out.k99)
    case' inr.inr.inr.inr.inr.inl => go_wp2_with (go_at_call 88; refine (plain2_law w _ _ _ _ _ _ (E5.out.new _).wr (heap_alloc_new _ _) (by have := HXL.out; have := nums_len [m.epoch.f0, m.epoch.f1]; have := nums_len [m.rights.f0, m.rights.f1]; simp only [List.length_append, List.length_nil, List.length_cons] at *; omega)).mono ?_; rintro e wn ⟨vn, rfl, hw, hs⟩; have n0_ := Aside0.mk ((E5.out.new _).step hw hs); clear E5 hw hs kz0 kz4 kz5 kz6 kz7 kz8 kz9 kz10; have E5 := n0_; clear n0_; obtain ⟨kz0, kz4, kz5, kz6, kz7, kz8, kz9, kz10⟩ := E5.out.k99)
    case' inr.inr.inr.inr.inr.inr => go_wp2_with (go_at_call 88; refine (plain2_law w _ _ _ _ _ _ (E5.out.new _).wr (heap_alloc_new _ _) (by have := HXL.out; have := nums_len [m.epoch.f0, m.epoch.f1]; have := nums_len [m.rights.f0, m.rights.f1]; simp only [List.length_append, List.length_nil, List.length_cons] at *; omega)).mono ?_; rintro e wn ⟨vn, rfl, hw, hs⟩; have n0_ := Aside0.mk ((E5.out.new _).step hw hs); clear E5 hw hs kz0 kz4 kz5 kz6 kz7 kz8 kz9 kz10; have E5 := n0_; clear n0_; obtain ⟨kz0, kz4, kz5, kz6, kz7, kz8, kz9, kz10⟩ := E5.out.k99)
    all_goals
      go_ret2
      refine ⟨_, rfl, ?_⟩
      have h9 := E5.out.wr
      rw [HH.out] at h9
      rw [HT2.out]
      simpa [numsB, pairB] using h9
set_option maxHeartbeats 8000000 in
set_option maxRecDepth 100000 in
theorem rencT_calls (m : Msg) (h : isI m.op.a ∧ isI m.op.b) (A : Option Addr) (c : Nat) (w : World) (hr : Kd.C k87 w A m.views.length m.views) (hc : m.views.length ≤ c) (hk : m.kind = 2) (hv : msgV m) :
    Calls Try.prog 39 #[.agg (MVc m A c)] w fun e w' => ∃ v, e = .returned (.tuple #[v, .int .i64 0]) ∧ WR w w' v (msgB m) := by
  have HLEN : Aside0 ((msgB m).length ≤ 100000) := ⟨by have := msg_len hv; omega⟩
  have HV := Aside0.mk hv
  have HR := Aside0.mk (And.intro hr hc)
  have HI := Aside0.mk h
  have HN : Aside0 (m.name.size ≤ 100) := ⟨by have h1 := hv.2; unfold restV at h1; rw [if_neg (by omega), if_pos hk] at h1; have := name_size h1.2.1.1; omega⟩
  have HT : Aside0 (msgB m = numsB [m.kind] ++ (pairB m.call ++ (textB m.name ++ (numsB [m.err] ++ optB (capped m.err) pairB (capOf m))))) := ⟨by unfold msgB restB; rw [if_neg (by omega), if_pos hk]; simp [numsB]⟩
  have t1 : (m.kind == 1) = false := by simp [hk]
  have t2 : (m.kind == 2) = true := by simp [hk]
  clear hk
  clear hv hr hc h
  have hu33 := Try.underlying33
  have hu27 := Try.underlying27
  have hu29 := Try.underlying29
  have hu23 := Try.underlying23
  have hu25 := Try.underlying25
  obtain ⟨wa, hwa⟩ : ∃ wa, wa = w.alloc (.cells (MVc m A c) 33 (0, 0)) := ⟨_, rfl⟩
  have HWA := Aside0.mk hwa
  have E0 : Aside0 (ES w wa m A c (.slice none 0 0) []) := ⟨by rw [hwa]; exact ⟨WR.nil (al_below w _), heap_alloc_new w _⟩⟩
  clear hwa
  go_enter Try.func39, Try.ntmps39
  go_upto_region 1 with fail
  rw [← HWA.out]
  go_upto_region 3 with (first
    | ((with_reducible refine gate_dst (N := 7) rfl ?_); refine wpList_load_row rfl 33 (.tmp 1) rfl w.heap.size (by rfl) 33 (MVc m A c) (0, 0) _ E0.out.box Try.underlying33 rfl inf33 ?_)
    | (go_at_call 15; refine (rvalid_calls m HI.out A c _ (Kd.C_below HR.out.1 E0.out.wr.1) HR.out.2).mono ?_; rintro e w0 ⟨rfl, hb⟩; rw [dcd_pos HV.out]; have E1 := Aside0.mk (ES.below E0.out hb); clear hb))
  have kz0 : w0.cell? ⟨w.heap.size, 0, none⟩ = some (.int .i64 m.kind) := (E1.out.cell 0).trans rfl
  go_upto_region 4 with (go_at_call 88; refine (plain_law w _ _ [] [m.kind] _ _ _ (E1.out.new _).wr (heap_alloc_new w0 _) rfl (by simp) (by simp) (by simp)).mono ?_; rintro e w1 ⟨v1, rfl, hw, hs⟩; have E2 := Aside0.mk ((E1.out.new _).step hw hs); clear hw hs kz0)
  have HX : Aside0 (([] ++ numsB [m.kind] : List Int).length ≤ 10) := ⟨by simpa [numsB] using intB_len m.kind⟩
  have kz0 : w1.cell? ⟨w.heap.size, 0, none⟩ = some (.int .i64 m.kind) := (E2.out.cell 0).trans rfl
  clear E0 E1 HWA
  go_upto_region 8 with fail
  clear kz0
  go_cut [4, 27, 28, 29, 30, 31, 32, 33, 34, 35, 36, 37] from 150 (fun s4 _ _ _ _ _ _ _ _ _ _ _ wx => Aside0 (ES w wx m A c s4 ([] ++ numsB [m.kind] ++ pairB m.call ++ textB m.name ++ numsB [m.err])))
  case first =>
    obtain ⟨kz11, kz12, kz1, kz17⟩ := E2.out.drew.k8
    go_region_held3 (fun w' => w'.cell? ⟨w.heap.size, 11, none⟩ = some (.int .i64 m.call.f0) ∧ w'.cell? ⟨w.heap.size, 12, none⟩ = some (.int .i64 m.call.f1) ∧ w'.cell? ⟨w.heap.size, 1, none⟩ = some (.string m.name) ∧ w'.cell? ⟨w.heap.size, 17, none⟩ = some (.int .i64 m.err)) (first | exact E5.out.k8 | exact (E4.out.new _).k8 | exact E4.out.k8 | exact (E3.out.new _).k8 | exact E3.out.k8 | exact (E2.out.drew.new _).k8 | exact E2.out.drew.k8) (first
      | (go_at_call 90; refine (putCall_law w _ v1 ([] ++ numsB [m.kind]) m.call (by first | exact E2.out.drew.wr | exact (E2.out.drew.new _).wr) (by have := HX.out; omega)).mono ?_; rintro e w2 ⟨v2, rfl, hw, hs⟩; have E3 : Aside0 (ES w w2 m A c v2 ([] ++ numsB [m.kind] ++ pairB m.call)) := ⟨by first | exact E2.out.drew.step hw hs | exact (E2.out.drew.new _).step hw hs⟩; (try have HL := Aside0.mk (hs _ _ _ (by decide) (heap_alloc_new w1.drew _))); clear hw hs)
      | (go_at_call 91; refine (text_law w _ v2 ([] ++ numsB [m.kind] ++ pairB m.call) m.name (by first | exact E3.out.wr | exact (E3.out.new _).wr) HN.out (by have := HX.out; have := pairB_len m.call; rw [List.length_append]; omega)).mono ?_; rintro e w3 ⟨v3, rfl, hw, hs⟩; have E4 : Aside0 (ES w w3 m A c v3 ([] ++ numsB [m.kind] ++ pairB m.call ++ textB m.name)) := ⟨by first | exact E3.out.step hw hs | exact (E3.out.new _).step hw hs⟩; (first | have HL2 := Aside0.mk (hs _ _ _ (by decide) HL.out) | have HL2 := Aside0.mk (hs _ _ _ (by decide) (heap_alloc_new w2 _)) | skip); clear hw hs)
      | (go_at_call 88; refine (plain1_law w _ v3 ([] ++ numsB [m.kind] ++ pairB m.call ++ textB m.name) _ m.err (by first | exact E4.out.wr | exact (E4.out.new _).wr) (by first | exact HL2.out | exact heap_alloc_new w3 _) (by have := HX.out; have := pairB_len m.call; have := textB_len HN.out; simp only [List.length_append] at *; omega)).mono ?_; rintro e w4 ⟨v4, rfl, hw, hs⟩; have E5 : Aside0 (ES w w4 m A c v4 ([] ++ numsB [m.kind] ++ pairB m.call ++ textB m.name ++ numsB [m.err])) := ⟨by first | exact E4.out.step hw hs | exact (E4.out.new _).step hw hs⟩; clear hw hs))
    all_goals go_wp2_with fail
    all_goals go_meet
    all_goals exact ⟨E5.out⟩
  case rest =>
    clear E2
    have E5 := hcut
    clear hcut
    obtain ⟨kz0, kz17, kz2, kz3⟩ := E5.out.k98
    have HXL : Aside0 ((numsB [m.kind]).length ≤ 10 ∧ (pairB m.call).length ≤ 20 ∧ (textB m.name).length ≤ 110 ∧ (numsB [m.err]).length ≤ 10) := ⟨nums_len _, pairB_len _, textB_len HN.out, nums_len _⟩
    by_cases q0 : m.err = 0
    case' pos =>
      have e0 : (m.err == 0) = true := by simp [q0]
      have HT2 : Aside0 (msgB m = numsB [m.kind] ++ (pairB m.call ++ (textB m.name ++ (numsB [m.err] ++ pairB (capOf m))))) := ⟨by rw [HT.out, optB, if_pos (show capped m.err from .inl q0)]⟩
    case' neg =>
      have e0 : (m.err == 0) = false := by simp [q0]
      by_cases q1 : m.err = 101
      case' pos =>
        have e1 : (m.err == 101) = true := by simp [q1]
        have HT2 : Aside0 (msgB m = numsB [m.kind] ++ (pairB m.call ++ (textB m.name ++ (numsB [m.err] ++ pairB (capOf m))))) := ⟨by rw [HT.out, optB, if_pos (show capped m.err from .inr q1)]⟩
      case' neg =>
        have e1 : (m.err == 101) = false := by simp [q1]
        have HT2 : Aside0 (msgB m = numsB [m.kind] ++ (pairB m.call ++ (textB m.name ++ (numsB [m.err] ++ [])))) := ⟨by rw [HT.out, optB, if_neg (show ¬ capped m.err from fun h => h.elim q0 q1)]⟩
      clear q1
    all_goals clear q0 HT
    all_goals go_wp2_with (go_at_call 88; refine (plain2_law w _ _ _ _ _ _ (E5.out.new _).wr (heap_alloc_new _ _) (by have := HXL.out; simp only [List.length_append, List.length_nil, List.length_cons] at *; omega)).mono ?_; rintro e wn ⟨vn, rfl, hw, hs⟩; have n0_ := Aside0.mk ((E5.out.new _).step hw hs); clear E5 hw hs kz0 kz17 kz2 kz3; have E5 := n0_; clear n0_; obtain ⟨kz0, kz17, kz2, kz3⟩ := E5.out.k98)
    all_goals go_ret2
    all_goals
      refine ⟨_, rfl, ?_⟩
      have h9 := E5.out.wr
      rw [HT2.out]
      simpa [numsB, pairB, capOf] using h9
set_option maxHeartbeats 8000000 in
set_option maxRecDepth 100000 in
theorem rencD_calls (m : Msg) (h : isI m.op.a ∧ isI m.op.b) (A : Option Addr) (c : Nat) (w : World) (hr : Kd.C k87 w A m.views.length m.views) (hc : m.views.length ≤ c) (hk : m.kind = 10) (hv : msgV m) :
    Calls Try.prog 39 #[.agg (MVc m A c)] w fun e w' => ∃ v, e = .returned (.tuple #[v, .int .i64 0]) ∧ WR w w' v (msgB m) := by
  have HLEN : Aside0 ((msgB m).length ≤ 100000) := ⟨by have := msg_len hv; omega⟩
  have HV := Aside0.mk hv
  have HR := Aside0.mk (And.intro hr hc)
  have HI := Aside0.mk h
  have HVL : Aside0 (m.views.length ≤ 64 ∧ ∀ x ∈ m.views, x.f0.size ≤ 100) := ⟨by
    have h1 := hv.2
    unfold restV at h1
    rw [if_neg (by omega), if_neg (by omega), if_pos hk] at h1
    exact ⟨h1.1.1, fun x hx => by have := name_size (viewsV_name h1.1.2 x hx); omega⟩⟩
  have HT : Aside0 (msgB m = numsB [m.kind] ++ (numsB [(m.views.length : Int)] ++ viewsB m.views)) := ⟨by unfold msgB restB; rw [if_neg (by omega), if_neg (by omega), if_pos hk]; simp [numsB, listB]⟩
  have t1 : (m.kind == 1) = false := by simp [hk]
  have t2 : (m.kind == 2) = false := by simp [hk]
  have t10 : (m.kind == 10) = true := by simp [hk]
  have hlI : (m.views.length : Int) ≤ 1000 := by have := HVL.out.1; omega
  have hl0 : (0 : Int) ≤ (m.views.length : Int) := by omega
  have hu87 := Try.underlying87
  clear hk
  clear hv hr hc h
  have hu33 := Try.underlying33
  have hu27 := Try.underlying27
  have hu29 := Try.underlying29
  have hu23 := Try.underlying23
  have hu25 := Try.underlying25
  obtain ⟨wa, hwa⟩ : ∃ wa, wa = w.alloc (.cells (MVc m A c) 33 (0, 0)) := ⟨_, rfl⟩
  have HWA := Aside0.mk hwa
  have E0 : Aside0 (ES w wa m A c (.slice none 0 0) []) := ⟨by rw [hwa]; exact ⟨WR.nil (al_below w _), heap_alloc_new w _⟩⟩
  clear hwa
  go_enter Try.func39, Try.ntmps39
  go_upto_region 1 with fail
  rw [← HWA.out]
  go_upto_region 3 with (first
    | ((with_reducible refine gate_dst (N := 7) rfl ?_); refine wpList_load_row rfl 33 (.tmp 1) rfl w.heap.size (by rfl) 33 (MVc m A c) (0, 0) _ E0.out.box Try.underlying33 rfl inf33 ?_)
    | (go_at_call 15; refine (rvalid_calls m HI.out A c _ (Kd.C_below HR.out.1 E0.out.wr.1) HR.out.2).mono ?_; rintro e w0 ⟨rfl, hb⟩; rw [dcd_pos HV.out]; have E1 := Aside0.mk (ES.below E0.out hb); clear hb))
  have kz0 : w0.cell? ⟨w.heap.size, 0, none⟩ = some (.int .i64 m.kind) := (E1.out.cell 0).trans rfl
  go_upto_region 4 with (go_at_call 88; refine (plain_law w _ _ [] [m.kind] _ _ _ (E1.out.new _).wr (heap_alloc_new w0 _) rfl (by simp) (by simp) (by simp)).mono ?_; rintro e w1 ⟨v1, rfl, hw, hs⟩; have E2 := Aside0.mk ((E1.out.new _).step hw hs); clear hw hs kz0)
  have HX : Aside0 (([] ++ numsB [m.kind] : List Int).length ≤ 10) := ⟨by simpa [numsB] using intB_len m.kind⟩
  have kz0 : w1.cell? ⟨w.heap.size, 0, none⟩ = some (.int .i64 m.kind) := (E2.out.cell 0).trans rfl
  clear E0 E1 HWA
  go_upto_region 13 with fail
  clear kz0
  obtain ⟨kz0, kz19⟩ := E2.out.k97
  go_upto_region 14 with (go_at_call 88; refine (plain1_law w _ v1 _ _ (m.views.length : Int) (E2.out.new _).wr (heap_alloc_new _ _) (by have := HX.out; omega)).mono ?_; rintro e w2 ⟨v2, rfl, hw, hs⟩; have E3 := Aside0.mk ((E2.out.new _).step hw hs); clear hw hs kz0 kz19)
  go_wp2_with fail
  go_loopw [4, 5] (fun v4 v5 wr => ∃ (i : Nat), v5 = .int .i64 (i : Int) ∧ Aside0 (i ≤ m.views.length ∧ ES w wr m A c v4 ([] ++ numsB [m.kind] ++ numsB [(m.views.length : Int)] ++ viewsB (m.views.take i)))) (fun _ v5 _ => m.views.length - (intOf v5).toNat)
  case atStart => exact ⟨0, rfl, ⟨Nat.zero_le _, by simpa [viewsB] using E3.out⟩⟩
  case round =>
    obtain ⟨i, rfl, HQ⟩ := hrel
    have EQ := Aside0.mk HQ.out.2
    obtain ⟨kz0, kz19⟩ := EQ.out.k97
    by_cases hlt : i < m.views.length
    · have hi0 : (0 : Int) ≤ (i : Int) := by omega
      have hi1 : (i : Int) < (m.views.length : Int) := by omega
      have HLT := Aside0.mk hlt
      obtain ⟨ad, hA, c0, c1, c2, c3, c4, c5, c6⟩ := at_T87 (Kd.C_below HR.out.1 EQ.out.wr.1) (i : Int) hi0 hi1
      obtain ⟨x, hx⟩ : ∃ x, x = rd_T87 m.views (i : Int) := ⟨_, rfl⟩
      have HX2 := Aside0.mk hx
      have HXM : Aside0 (x.f0.size ≤ 100) := ⟨HVL.out.2 x (by rw [hx, rd_T87, Int.toNat_natCast, List.getD_eq_getElem?_getD, List.getElem?_eq_getElem hlt]; exact List.getElem_mem _)⟩
      rw [← hx] at c0 c1 c2 c3 c4 c5 c6
      simp only [Int.toNat_natCast] at c0 c1 c2 c3 c4 c5 c6
      subst hA
      clear hx
      obtain ⟨wb, hwb⟩ : ∃ wb, wb = wr.alloc (.cells #[.string x.f0, .int .i64 x.f1, .int .i64 x.f2, .int .i64 x.f3, .int .i64 x.f4.f0, .int .i64 x.f4.f1, .int .i64 x.f5] 87 (0, 0)) := ⟨_, rfl⟩
      have HWB := Aside0.mk hwb
      have HBX : Aside0 (wb.heap[wr.heap.size]? = some (.cells #[.string x.f0, .int .i64 x.f1, .int .i64 x.f2, .int .i64 x.f3, .int .i64 x.f4.f0, .int .i64 x.f4.f1, .int .i64 x.f5] 87 (0, 0))) := ⟨by rw [hwb]; exact heap_alloc_new wr _⟩
      have E4 : Aside0 (ES w wb m (some ad) c _ _) := ⟨by rw [hwb]; exact EQ.out.new _⟩
      clear hwb
      have HT2 : Aside0 ([] ++ numsB [m.kind] ++ numsB [(m.views.length : Int)] ++ viewsB (m.views.take (i + 1)) = ([] ++ numsB [m.kind] ++ numsB [(m.views.length : Int)] ++ viewsB (m.views.take i)) ++ textB x.f0 ++ numsB [x.f1, x.f2, x.f3, x.f4.f0, x.f4.f1, x.f5]) := ⟨by rw [viewsB_take m.views i hlt, ← HX2.out]; simp [viewB, numsB, pairB]⟩
      have HTL : Aside0 (([] ++ numsB [m.kind] ++ numsB [(m.views.length : Int)] ++ viewsB (m.views.take i)).length + (textB x.f0).length + (numsB [x.f1, x.f2, x.f3, x.f4.f0, x.f4.f1, x.f5]).length ≤ 100000) := ⟨by
        have h1 := congrArg List.length HT2.out
        have h2 := viewsB_le m.views (i + 1)
        have h3 := HLEN.out
        rw [HT.out] at h3
        simp only [List.length_append, List.length_nil] at h1 h3 ⊢
        omega⟩
      go_upto_region 18 with fail
      clear c0 c1 c2 c3 c4 c5 c6 kz0 kz19
      rw [← HWB.out]
      have HBD := Aside0.mk (blk_drew HBX.out)
      obtain ⟨kx0, kx1, kx2, kx3, kx4, kx5, kx6⟩ := xcells HBD.out
      go_region_held3 (fun w' => w'.cell? ⟨wr.heap.size, 0, none⟩ = some (.string x.f0) ∧ w'.cell? ⟨wr.heap.size, 1, none⟩ = some (.int .i64 x.f1) ∧ w'.cell? ⟨wr.heap.size, 2, none⟩ = some (.int .i64 x.f2) ∧ w'.cell? ⟨wr.heap.size, 3, none⟩ = some (.int .i64 x.f3) ∧ w'.cell? ⟨wr.heap.size, 4, none⟩ = some (.int .i64 x.f4.f0) ∧ w'.cell? ⟨wr.heap.size, 5, none⟩ = some (.int .i64 x.f4.f1) ∧ w'.cell? ⟨wr.heap.size, 6, none⟩ = some (.int .i64 x.f5)) (first | exact xcells HB4.out | exact xcells (blk_keep (al_below _ _) HB3.out) | exact xcells HB3.out | exact xcells (blk_keep (al_below _ _) HBD.out) | exact xcells HBD.out) (first
        | (go_at_call 91; refine (text_law w _ _ _ x.f0 (by first | exact E4.out.drew.wr | exact (E4.out.drew.new _).wr) HXM.out (by have := HTL.out; omega)).mono ?_; rintro e w3 ⟨v3, rfl, hw, hs⟩; have E5 : Aside0 (ES w w3 m (some ad) c v3 ([] ++ numsB [m.kind] ++ numsB [(m.views.length : Int)] ++ viewsB (m.views.take i) ++ textB x.f0)) := ⟨by first | exact E4.out.drew.step hw hs | exact (E4.out.drew.new _).step hw hs⟩; have HB3 : Aside0 (w3.heap[wr.heap.size]? = some (.cells #[.string x.f0, .int .i64 x.f1, .int .i64 x.f2, .int .i64 x.f3, .int .i64 x.f4.f0, .int .i64 x.f4.f1, .int .i64 x.f5] 87 (0, 0))) := ⟨by first | exact hs _ _ _ (by decide) HBD.out | exact hs _ _ _ (by decide) (blk_keep (al_below _ _) HBD.out)⟩; (try have HL := Aside0.mk (hs _ _ _ (by decide) (heap_alloc_new wb.drew _))); clear hw hs)
        | (go_at_call 88; refine (plain_law w _ _ _ [x.f1, x.f2, x.f3, x.f4.f0, x.f4.f1, x.f5] _ _ _ (by first | exact E5.out.wr | exact (E5.out.new _).wr) (by first | exact HL.out | exact heap_alloc_new w3 _) rfl (by simp) (by simp) (by have := HTL.out; simp only [List.length_append] at *; omega)).mono ?_; rintro e w4 ⟨v4, rfl, hw, hs⟩; have E6 : Aside0 (ES w w4 m (some ad) c v4 ([] ++ numsB [m.kind] ++ numsB [(m.views.length : Int)] ++ viewsB (m.views.take (i + 1)))) := ⟨by rw [HT2.out]; first | exact E5.out.step hw hs | exact (E5.out.new _).step hw hs⟩; have HB4 : Aside0 (w4.heap[wr.heap.size]? = some (.cells #[.string x.f0, .int .i64 x.f1, .int .i64 x.f2, .int .i64 x.f3, .int .i64 x.f4.f0, .int .i64 x.f4.f1, .int .i64 x.f5] 87 (0, 0))) := ⟨by first | exact hs _ _ _ (by decide) HB3.out | exact hs _ _ _ (by decide) (blk_keep (al_below _ _) HB3.out)⟩; clear hw hs))
      all_goals go_wp2_with fail
      all_goals go_roundw
      all_goals first
        | exact ⟨i + 1, by go_num, ⟨by have := HLT.out; omega, E6.out⟩⟩
        | (simp only [intOf]; have := HLT.out; first | omega | (go_num; omega) | (simp; omega))
    · have hi1 : ¬ ((i : Int) < (m.views.length : Int)) := by omega
      have HI2 : Aside0 (m.views.take i = m.views) := ⟨List.take_of_length_le (by omega)⟩
      go_wp2_with fail
      go_ret2
      refine ⟨_, rfl, ?_⟩
      have h9 := EQ.out.wr
      rw [HI2.out] at h9
      rw [HT.out]
      simpa using h9
set_option maxHeartbeats 4000000 in
set_option maxRecDepth 100000 in
theorem renc0_calls (m : Msg) (h : isI m.op.a ∧ isI m.op.b) (A : Option Addr) (c : Nat) (w : World) (hr : Kd.C k87 w A m.views.length m.views) (hc : m.views.length ≤ c) (hv : ¬ msgV m) :
    Calls Try.prog 39 #[.agg (MVc m A c)] w fun e w' => e = .returned (.tuple #[.slice none 0 0, .int .i64 21]) ∧ Below w.heap.size w w' := by
  have HV := Aside0.mk hv
  have HR := Aside0.mk (And.intro hr hc)
  have HI := Aside0.mk h
  clear hv hr hc h
  have hu33 := Try.underlying33
  obtain ⟨wa, hwa⟩ : ∃ wa, wa = w.alloc (.cells (MVc m A c) 33 (0, 0)) := ⟨_, rfl⟩
  have HWA := Aside0.mk hwa
  have E0 : Aside0 (ES w wa m A c (.slice none 0 0) []) := ⟨by rw [hwa]; exact ⟨WR.nil (al_below w _), heap_alloc_new w _⟩⟩
  clear hwa
  go_enter Try.func39, Try.ntmps39
  go_upto_region 1 with fail
  rw [← HWA.out]
  go_wp2_with (first
    | ((with_reducible refine gate_dst (N := 7) rfl ?_); refine wpList_load_row rfl 33 (.tmp 1) rfl w.heap.size (by rfl) 33 (MVc m A c) (0, 0) _ E0.out.box Try.underlying33 rfl inf33 ?_)
    | (go_at_call 15; refine (rvalid_calls m HI.out A c _ (Kd.C_below HR.out.1 E0.out.wr.1) HR.out.2).mono ?_; rintro e w0 ⟨rfl, hb⟩; rw [dcd_neg HV.out]; have E1 := Aside0.mk (below_step E0.out.wr.1 hb); clear hb))
  go_ret2
  exact ⟨rfl, E1.out⟩
theorem renc_calls (m : Msg) (h : isI m.op.a ∧ isI m.op.b) (A : Option Addr) (c : Nat) (w : World) (hr : Kd.C k87 w A m.views.length m.views) (hc : m.views.length ≤ c) :
    Calls Try.prog 39 #[.agg (MVc m A c)] w fun e w' => ∃ v, e = .returned (.tuple #[v, .int .i64 (lay msgB msgV m).2]) ∧ Kd.R (Kd.int .u8) 5 w' w.heap.size (fun _ => True) v (lay msgB msgV m).1 ∧ Below w.heap.size w w' := by
  by_cases hv : msgV m
  · rw [lay_ok hv]
    have hk := hv.1
    have fin : ∀ (e : Ending) (w' : World), (∃ v, e = .returned (.tuple #[v, .int .i64 0]) ∧ WR w w' v (msgB m)) → ∃ v, e = .returned (.tuple #[v, .int .i64 0]) ∧ Kd.R (Kd.int .u8) 5 w' w.heap.size (fun _ => True) v (msgB m) ∧ Below w.heap.size w w' := fun e w' ⟨v, he, hw⟩ => ⟨v, he, hw.2, hw.1⟩
    by_cases h1 : m.kind = 1
    · exact (renc1_calls m h A c w hr hc h1 hv).mono fin
    by_cases h2 : m.kind = 2
    · exact (rencT_calls m h A c w hr hc h2 hv).mono fin
    by_cases h3 : m.kind = 10
    · exact (rencD_calls m h A c w hr hc h3 hv).mono fin
    · exact (rencO_calls m h A c w hr hc (by omega) hv).mono fin
  · rw [lay_no hv]
    exact (renc0_calls m h A c w hr hc hv).mono fun e w' h2 => ⟨_, h2.1, Kd.R_nil _ _ _ _ _, h2.2⟩
end Go.Proofs.Ytpgdmmjbhjbbhaa.Rf
end
section
namespace Go.Proofs.Ytpgdmmjbhjbbhaa.Rf
open Go Go.RowKit Go.Proofs.Ytpgdmmjbhjbbhaa.P Go.Proofs.Ytpgdmmjbhjbbhaa.Sp Go.Proofs.Ytpgdmmjbhjbbhaa.Vd Go.Proofs.Ytpgdmmjbhjbbhaa.En Go.Proofs.Ytpgdmmjbhjbbhaa.Wr Go.Proofs.Ytpgdmmjbhjbbhaa.Rd Go.Proofs.Ytpgdmmjbhjbbhaa.Lw Go.Proofs.YtpgdmmjbhjbbhaaW.PrintWords Go.Proofs.YtpgdmmjbhjbbhaaW.PrintLast Go.Proofs.YtpgdmmjbhjbbhaaW.PrintMore
set_option linter.unusedVariables false
set_option linter.unusedSimpArgs false
/-- The reader's state: where it reads on, or how much was left where it went wrong. -/
def St (b : List Int) (s : R Unit) (at_ : Int) (wr : Bool) : Prop := match s with
  | .ok _ l => wr = false ∧ (∃ pre, b = pre ++ l) ∧ at_ = pl b l
  | .bad n => wr = true ∧ at_ = (b.length : Int) - n ∧ n ≤ b.length
end Go.Proofs.Ytpgdmmjbhjbbhaa.Rf
end
section
namespace Go.Proofs.Ytpgdmmjbhjbbhaa.Rf
open Go Go.RowKit Go.Proofs.Ytpgdmmjbhjbbhaa.P Go.Proofs.Ytpgdmmjbhjbbhaa.Sp Go.Proofs.Ytpgdmmjbhjbbhaa.Vd Go.Proofs.Ytpgdmmjbhjbbhaa.En Go.Proofs.Ytpgdmmjbhjbbhaa.Wr Go.Proofs.Ytpgdmmjbhjbbhaa.Rd Go.Proofs.Ytpgdmmjbhjbbhaa.Lw Go.Proofs.YtpgdmmjbhjbbhaaW.PrintWords Go.Proofs.YtpgdmmjbhjbbhaaW.PrintLast Go.Proofs.YtpgdmmjbhjbbhaaW.PrintMore
set_option linter.unusedVariables false
set_option linter.unusedSimpArgs false
/-- What is read: short, and of bytes. -/
structure Src (b : List Int) : Prop where
  len : b.length ≤ 9223372036854775807
  isB : IsB b
/-- The reader lies at g and reads b; it stands as s says. -/
def RSt (w0 w : World) (g : Nat) (b : List Int) (s : R Unit) : Prop := ∃ at_ wr, IsS132 w0 w g b at_ wr ∧ St b s at_ wr ∧ Below w0.heap.size w0 w
theorem RSt.bel {w0 w : World} {g : Nat} {b : List Int} {s : R Unit} (h : RSt w0 w g b s) : Below w0.heap.size w0 w := by
  obtain ⟨at_, wr, h1, h2, h3⟩ := h
  exact h3
end Go.Proofs.Ytpgdmmjbhjbbhaa.Rf
end
section
namespace Go.Proofs.Ytpgdmmjbhjbbhaa.Rf
open Go Go.RowKit Go.Proofs.Ytpgdmmjbhjbbhaa.P Go.Proofs.Ytpgdmmjbhjbbhaa.Sp Go.Proofs.Ytpgdmmjbhjbbhaa.Vd Go.Proofs.Ytpgdmmjbhjbbhaa.En Go.Proofs.Ytpgdmmjbhjbbhaa.Wr Go.Proofs.Ytpgdmmjbhjbbhaa.Lw Go.Proofs.YtpgdmmjbhjbbhaaW.PrintWords Go.Proofs.YtpgdmmjbhjbbhaaW.PrintLast Go.Proofs.YtpgdmmjbhjbbhaaW.PrintMore
open Go.Proofs.Ytpgdmmjbhjbbhaa.Rd (pl nameIn_ok nameIn_no nameIn_bad)
attribute [local go_sem] Go.Proofs.Ytpgdmmjbhjbbhaa.StrLe.leq_str Go.Proofs.Ytpgdmmjbhjbbhaa.StrLe.gtr_str
set_option linter.unusedVariables false
set_option linter.unusedSimpArgs false
end Go.Proofs.Ytpgdmmjbhjbbhaa.Rf
end
section
namespace Go.Proofs.Ytpgdmmjbhjbbhaa.Rf
open Go Go.RowKit Go.Proofs.Ytpgdmmjbhjbbhaa.P Go.Proofs.Ytpgdmmjbhjbbhaa.Sp Go.Proofs.Ytpgdmmjbhjbbhaa.Vd Go.Proofs.Ytpgdmmjbhjbbhaa.En Go.Proofs.Ytpgdmmjbhjbbhaa.Wr Go.Proofs.Ytpgdmmjbhjbbhaa.Lw Go.Proofs.YtpgdmmjbhjbbhaaW.PrintWords Go.Proofs.YtpgdmmjbhjbbhaaW.PrintLast Go.Proofs.YtpgdmmjbhjbbhaaW.PrintMore
open Go.Proofs.Ytpgdmmjbhjbbhaa.Rd (pl setRow_far setRow_blk)
set_option linter.unusedVariables false
set_option linter.unusedSimpArgs false
/-- A block's rows behind a store. -/
theorem blk_upd {w : World} {k j : Nat} {t : TypeId} {cs cs2 : Array Value} {v : Value} (h : w.heap[k]? = some (.cells cs t (0, 0))) (hc : cs.setIfInBounds j v = cs2) : (w.setCell ⟨k, j, none⟩ v).heap[k]? = some (.cells cs2 t (0, 0)) := by
  subst hc
  simpa using blk_set h j v
end Go.Proofs.Ytpgdmmjbhjbbhaa.Rf
end
section
namespace Go.Proofs.Ytpgdmmjbhjbbhaa.Lw
open Go Go.RowKit Go.Proofs.Ytpgdmmjbhjbbhaa.P Go.Proofs.Ytpgdmmjbhjbbhaa.Sp Go.Proofs.Ytpgdmmjbhjbbhaa.Vd Go.Proofs.Ytpgdmmjbhjbbhaa.En Go.Proofs.Ytpgdmmjbhjbbhaa.Wr Go.Proofs.Ytpgdmmjbhjbbhaa.Rd Go.Proofs.Ytpgdmmjbhjbbhaa.Rf Go.Proofs.YtpgdmmjbhjbbhaaW.PrintWords Go.Proofs.YtpgdmmjbhjbbhaaW.PrintLast Go.Proofs.YtpgdmmjbhjbbhaaW.PrintMore
set_option linter.unusedVariables false
set_option linter.unusedSimpArgs false
/-- The message with other views in its list. -/
def wv (m : Msg) (l : List S87) : Msg := { m with views := l }
theorem wv_self (m : Msg) : wv m m.views = m := rfl
theorem wv_cells (m : Msg) (l : List S87) (h : l.length = m.views.length) (A : Option Addr) (c : Nat) : MVc (wv m l) A c = MVc m A c := by simp [MVc, wv, h]
theorem val_law (m : Msg) (l : List S87) (hl : l.length = m.views.length) (h : isI m.op.a ∧ isI m.op.b) (A : Option Addr) (c : Nat) (w : World) (hC : Kd.C k87 w A m.views.length l ∧ m.views.length ≤ c) :
    Calls Try.prog 21 #[.agg (MVc m A c)] w fun e w' => e = .returned (.bool (dcd (msgV (wv m l)))) ∧ Below w.heap.size w w' := by
  rw [← wv_cells m l hl]
  exact valid_calls (wv m l) h A c w (by show Kd.C k87 w A l.length l; rw [hl]; exact hC.1) (by show l.length ≤ c; rw [hl]; exact hC.2)
theorem enc_law (m : Msg) (l : List S87) (hl : l.length = m.views.length) (h : isI m.op.a ∧ isI m.op.b) (A : Option Addr) (c : Nat) (w : World) (hC : Kd.C k87 w A m.views.length l ∧ m.views.length ≤ c) {pb : List Int} {er : Int} (hp : lay msgB msgV (wv m l) = (pb, er)) :
    Calls Try.prog 16 #[.agg (MVc m A c)] w fun e w' => ∃ Ap cp, e = .returned (.tuple #[.slice Ap pb.length cp, .int .i64 er]) ∧ In w' Ap cp pb ∧ Below w.heap.size w w' := by
  rw [← wv_cells m l hl]
  refine (encode_calls (wv m l) h A c w (by show Kd.C k87 w A l.length l; rw [hl]; exact hC.1) (by show l.length ≤ c; rw [hl]; exact hC.2)).mono ?_
  rintro e w' ⟨v, he, hR, hb⟩
  rw [hp] at he hR
  obtain ⟨Ap, cp, rfl, hi⟩ := in_of_R hR (by have := lay_isB (v := msgV) (b_msg (wv m l)); rwa [hp] at this)
  exact ⟨Ap, cp, he, hi, hb⟩
theorem rence_law (m : Msg) (l : List S87) (hl : l.length = m.views.length) (h : isI m.op.a ∧ isI m.op.b) (A : Option Addr) (c : Nat) (w : World) (hC : Kd.C k87 w A m.views.length l ∧ m.views.length ≤ c) {pb : List Int} {er : Int} (hp : lay msgB msgV (wv m l) = (pb, er)) :
    Calls Try.prog 39 #[.agg (MVc m A c)] w fun e w' => ∃ Ap cp, e = .returned (.tuple #[.slice Ap pb.length cp, .int .i64 er]) ∧ In w' Ap cp pb ∧ Below w.heap.size w w' := by
  rw [← wv_cells m l hl]
  refine (renc_calls (wv m l) h A c w (by show Kd.C k87 w A l.length l; rw [hl]; exact hC.1) (by show l.length ≤ c; rw [hl]; exact hC.2)).mono ?_
  rintro e w' ⟨v, he, hR, hb⟩
  rw [hp] at he hR
  obtain ⟨Ap, cp, rfl, hi⟩ := in_of_R hR (by have := lay_isB (v := msgV) (b_msg (wv m l)); rwa [hp] at this)
  exact ⟨Ap, cp, he, hi, hb⟩
theorem same_vs (x : List S87) (A0 : Option Addr) (c0 : Nat) (A1 : Option Addr) (c1 : Nat) (n : Nat) (hn : x.length = n) (w : World) (hx : Kd.C k87 w A0 n x ∧ n ≤ c0) (hy : Kd.C k87 w A1 n x ∧ n ≤ c1) :
    Calls Try.prog 40 #[.slice A0 n c0, .slice A1 n c1] w fun e w' => e = .returned (.bool true) ∧ Below w.heap.size w w' := by
  subst hn
  refine (sameViews_calls A0 c0 x A1 c1 x w hx.1 hx.2 hy.1 hy.2).mono ?_
  rintro e w' ⟨he, hb⟩
  rw [dcd_pos rfl] at he
  exact ⟨he, hb⟩
/-- What stands on the way: the message boxed, its copy boxed, the copy's list with the mark behind it. -/
structure EX (w W : World) (m : Msg) (A : Option Addr) (c bx bs : Nat) (Av : Option Addr) (cv : Nat) (l : List S87) : Prop where
  bel : Below w.heap.size w W
  bm : W.heap[w.heap.size]? = some (.cells (MVc m A c) 33 (0, 0))
  box : W.heap[bx]? = some (.cells (MVc m Av cv) 33 (0, 0))
  r : Kd.R k87 87 W w.heap.size (fun k => bs ≤ k) (.slice Av (m.views.length + 1) cv) (l ++ [mkV])
  len : l.length = m.views.length
section
variable {w W W1 : World} {m : Msg} {A : Option Addr} {c bx bs : Nat} {Av : Option Addr} {cv : Nat} {l : List S87}
theorem EX.below (h : EX w W m A c bx bs Av cv l) (k : Below W.heap.size W W1) : EX w W1 m A c bx bs Av cv l := ⟨below_step h.bel k, blk_keep k h.bm, blk_keep k h.box, Kd.R_below h.r k, h.len⟩
theorem EX.drew (h : EX w W m A c bx bs Av cv l) : EX w W.drew m A c bx bs Av cv l := h.below (below_drew1 (Below.refl _ _))
theorem EX.row (h : EX w W m A c bx bs Av cv l) : Kd.C k87 W Av m.views.length l ∧ m.views.length ≤ cv := by
  have h2 := Kd.R_reads' (Kd.R_take (m := m.views.length) h.r (by simp [h.len]))
  rw [← h.len, List.take_left, h.len] at h2
  exact ⟨h2.2.2, h2.2.1⟩
theorem EX.at_m (h : EX w W m A c bx bs Av cv l) : W.cell? ⟨w.heap.size, 19, none⟩ = some (.slice A m.views.length c) := (blk_cell h.bm 19).trans rfl
/-- The list's block, and the mark's name. -/
theorem EX.head (h : EX w W m A c bx bs Av cv l) : ∃ g, Av = some ⟨g, 0, none⟩ := by
  have h2 := Kd.R_reads' h.r
  obtain ⟨ad, hA, _⟩ := h2.2.2.2.2 (by simp)
  subst hA
  obtain ⟨g, rfl⟩ := Kd.R_head h.r
  exact ⟨g, rfl⟩
theorem EX.mark {g : Nat} (h : EX w W m A c bx bs (some ⟨g, 0, none⟩) cv l) : W.cell? ⟨g, m.views.length * 7, none⟩ = some (.string ⟨#[109, 97, 114, 107]⟩) := by
  obtain ⟨c7, hc, hM, hcc, _⟩ := Kd.R_elem h.r mkV (m.views.length : Int) (by omega) (by omega)
  have hx : (l ++ [mkV]).getD (m.views.length : Int).toNat mkV = mkV := by simp [List.getD_eq_getElem?_getD, h.len.symm]
  rw [hx] at hM
  obtain rfl := k87_openM hM
  exact hcc 0 _ rfl
theorem EX.elem {g : Nat} (h : EX w W m A c bx bs (some ⟨g, 0, none⟩) cv l) (i : Nat) (hi : i < m.views.length) : ∃ x : S87, x = rd_T87 l (i : Int) ∧ W.cell? ⟨g, i * 7 + 6, none⟩ = some (.int .i64 x.f5) ∧ (∀ j u, [Value.string x.f0, .int .i64 x.f1, .int .i64 x.f2, .int .i64 x.f3, .int .i64 x.f4.f0, .int .i64 x.f4.f1, .int .i64 x.f5][j]? = some u → W.cell? ⟨g, i * 7 + j, none⟩ = some u) := by
  obtain ⟨c7, hc, hM, hcc, _⟩ := Kd.R_elem h.r mkV (i : Int) (by omega) (by omega)
  have hx : (l ++ [mkV]).getD (i : Int).toNat mkV = rd_T87 l (i : Int) := by
    have := h.len
    simp [rd_T87, List.getD_eq_getElem?_getD, List.getElem?_append_left (show i < l.length by omega), List.getElem?_eq_getElem (show i < l.length by omega)]
  rw [hx] at hM
  obtain rfl := k87_openM hM
  exact ⟨_, rfl, hcc 6 _ rfl, fun j u hu => hcc j u hu⟩
theorem EX.grown {g : Nat} (h : EX w W m A c bx bs (some ⟨g, 0, none⟩) cv l) {i : Nat} {x : S87} (hR : Kd.R k87 87 W1 w.heap.size (fun k => bs ≤ k) (.slice (some ⟨g, 0, none⟩) (m.views.length + 1) cv) ((l ++ [mkV]).set i x)) (hB : Below w.heap.size w W1) (hg : W.grownBy W1 (some g)) (hi : i < m.views.length) (hbx : w.heap.size < bx ∧ bx < bs) : EX w W1 m A c bx bs (some ⟨g, 0, none⟩) cv (l.set i x) := by
  have h1 : bs ≤ g := h.r.1 g rfl
  rw [List.set_append_left _ _ (by rw [h.len]; exact hi)] at hR
  exact ⟨hB, blk_grown h.bm hg (by simp; omega), blk_grown h.box hg (by simp; omega), hR, by rw [List.length_set]; exact h.len⟩
theorem EX.put {g : Nat} (h : EX w W m A c bx bs (some ⟨g, 0, none⟩) cv l) {i : Nat} (hi : i < m.views.length) (hbx : w.heap.size < bx ∧ bx < bs) (u : Int) : ∃ l', EX w (W.setCell ⟨g, i * 7 + 6, none⟩ (.int .i64 u)) m A c bx bs (some ⟨g, 0, none⟩) cv l' := by
  obtain ⟨x, _, _, hcc⟩ := h.elem i hi
  obtain ⟨hR, hg⟩ := Kd.R_seg h.r (i : Int) (by omega) (by omega) (c := [.string x.f0, .int .i64 x.f1, .int .i64 x.f2, .int .i64 x.f3, .int .i64 x.f4.f0, .int .i64 x.f4.f1, .int .i64 x.f5]) (seg := [.int .i64 u]) (j := 6) rfl (fun j v hv => by rw [Int.toNat_natCast]; exact hcc j v hv) (show 6 + 1 ≤ 7 by decide) (x' := ⟨x.f0, x.f1, x.f2, x.f3, x.f4, u⟩) (okp := fun _ => False) (k87_mkM _ _ _ ⟨x.f0, x.f1, x.f2, x.f3, x.f4, u⟩) (fun _ h => h.elim)
  rw [Int.toNat_natCast] at hR hg
  have h1 : bs ≤ g := h.r.1 g rfl
  exact ⟨_, h.grown hR (below_set h.bel (by omega)) hg hi hbx⟩
theorem EX.far (h : EX w W m A c bx bs Av cv l) {k : Nat} {cs : Array Value} (hk : W.heap[k]? = some (.cells cs 33 (0, 0))) (h1 : w.heap.size < k) (h2 : bx ≠ k) (j : Nat) (v : Value) : EX w (W.setCell ⟨k, j, none⟩ v) m A c bx bs Av cv l :=
  ⟨below_set h.bel (Nat.le_of_lt h1), blk_far h.bm (Nat.ne_of_lt h1) _, blk_far h.box h2 _, Kd.R_set h.r hk (by decide) _ _, h.len⟩
theorem lay_err {m : Msg} {pb : List Int} {er : Int} (hp : lay msgB msgV m = (pb, er)) : (er == 0) = dcd (msgV m) := by
  by_cases hv : msgV m
  · rw [lay_ok hv] at hp; rw [dcd_pos hv]; injection hp with _ h2; subst h2; rfl
  · rw [lay_no hv] at hp; rw [dcd_neg hv]; injection hp with _ h2; subst h2; rfl
end
set_option maxHeartbeats 8000000 in
set_option maxRecDepth 100000 in
theorem encodes_calls (w : World) (m : Msg) (A : Option Addr) (c : Nat) (hI : isI m.op.a ∧ isI m.op.b) (hr : Kd.C k87 w A m.views.length m.views) (hc : m.views.length ≤ c) (hl : m.views.length * 64 ≤ 140737488351232) :
    Calls Try.prog 13 #[.agg (MVc m A c)] w fun e w' => e = .returned (.bool true) ∧ Below w.heap.size w w' := by
  have HI := Aside0.mk hI
  have HR := Aside0.mk (And.intro hr hc)
  have HL := Aside0.mk hl
  have hnI : (m.views.length : Int) ≤ 9223372036854775806 := by omega
  have hn0 : (0 : Int) ≤ (m.views.length : Int) := by omega
  clear hI hr hc hl
  have hu33 := Try.underlying33
  have hu87 := Try.underlying87
  obtain ⟨wa, hwa⟩ : ∃ wa, wa = w.alloc (.cells (MVc m A c) 33 (0, 0)) := ⟨_, rfl⟩
  have HWA := Aside0.mk hwa
  have H0 : Aside0 (Below w.heap.size w wa ∧ wa.heap[w.heap.size]? = some (.cells (MVc m A c) 33 (0, 0)) ∧ wa.heap.size = w.heap.size + 1) := ⟨by rw [hwa]; exact ⟨al_below w _, heap_alloc_new w _, by simp⟩⟩
  have H1 := Aside0.mk (heap_alloc_new wa (.cells (MVc zMsg none 0) 33 (0, 0)))
  clear hwa
  go_enter Try.func13, Try.ntmps13
  go_upto_region 1 with fail
  rw [← HWA.out]
  go_upto_region 2 with (first
    | ((with_reducible refine gate_dst (N := 13) rfl ?_); refine wpList_load_row rfl 33 (.tmp 1) rfl w.heap.size (by rfl) 33 (MVc m A c) (0, 0) _ H0.out.2.1 Try.underlying33 rfl inf33 ?_)
    | (refine wpList_store_row rfl 33 (.tmp 3) (.tmp 13) rfl wa.heap.size (MVc m A c) (by rfl) (by rfl) 33 _ H1.out inf33 rfl (mv_one _ _ _) ?_))
  obtain ⟨w1, hw1⟩ : ∃ w1, w1 = (wa.alloc (.cells (MVc zMsg none 0) 33 (0, 0))).setRow wa.heap.size (MVc m A c) := ⟨_, rfl⟩
  have HW1 := Aside0.mk hw1
  rw [mv_zero] at HW1
  have H2 : Aside0 (Below w.heap.size w w1 ∧ w1.heap[w.heap.size]? = some (.cells (MVc m A c) 33 (0, 0)) ∧ w1.heap[wa.heap.size]? = some (.cells (MVc m A c) 33 (0, 0)) ∧ w.heap.size < wa.heap.size ∧ wa.heap.size < w1.heap.size) := ⟨by
    have hb : Below wa.heap.size wa w1 := by rw [hw1]; exact below_setRow (al_below _ _) (Nat.le_refl _) _
    have h3 : w1.heap[wa.heap.size]? = some (.cells (MVc m A c) 33 (0, 0)) := by rw [hw1]; exact setRow_blk H1.out _
    exact ⟨below_step H0.out.1 hb, blk_keep hb H0.out.2.1, h3, by have := H0.out.2.2; omega, blk_lt h3⟩⟩
  rw [← HW1.out]
  clear hw1 HW1 H1 H0 HWA
  have ka : w1.cell? ⟨w.heap.size, 19, none⟩ = some (.slice A m.views.length c) := (blk_cell H2.out.2.1 19).trans rfl
  go_upto_region 3 with (go_at_call 38; refine (vlist_calls A c m.views _ (Kd.C_below HR.out.1 H2.out.1) HL.out).mono ?_; rintro e w2 ⟨v, rfl, hR, hb⟩; obtain ⟨Av, cv, rfl⟩ := Kd.R_slice hR; rw [show (m.views ++ [mkV]).length = m.views.length + 1 by simp] at hR ⊢; have H3 : Aside0 (Below w.heap.size w w2 ∧ w2.heap[w.heap.size]? = some (.cells (MVc m A c) 33 (0, 0)) ∧ w2.heap[wa.heap.size]? = some (.cells (MVc m A c) 33 (0, 0)) ∧ Kd.R k87 87 w2 w.heap.size (fun k => w1.heap.size ≤ k) (.slice Av (m.views.length + 1) cv) (m.views ++ [mkV])) := ⟨below_step H2.out.1 hb, blk_keep hb H2.out.2.1, blk_keep hb H2.out.2.2.1, Kd.R_lower (Kd.R_mono (Kd.R_bound hR) (fun k hk => hk.2.1)) H2.out.1.size⟩; clear hR hb ka)
  have hcv : (m.views.length : Int) ≤ (cv : Int) := by have := (Kd.R_reads' H3.out.2.2.2).2.1; omega
  have ka : w2.cell? ⟨w.heap.size, 19, none⟩ = some (.slice A m.views.length c) := (blk_cell H3.out.2.1 19).trans rfl
  have kc : w2.cell? ⟨wa.heap.size, 19, none⟩ = some (.slice A m.views.length c) := (blk_cell H3.out.2.2.1 19).trans rfl
  have kf := blk_frozen H3.out.2.2.1 19
  go_upto_region 5 with fail
  obtain ⟨w3, hw3⟩ : ∃ w3, w3 = w2.setCell ⟨wa.heap.size, 19, none⟩ (.slice Av m.views.length cv) := ⟨_, rfl⟩
  have EX0 : Aside0 (EX w w3 m A c wa.heap.size w1.heap.size Av cv m.views) := ⟨by
    rw [hw3]
    exact ⟨below_set H3.out.1 (Nat.le_of_lt H2.out.2.2.2.1), blk_far H3.out.2.1 (Nat.ne_of_lt H2.out.2.2.2.1) _, blk_upd (cs2 := MVc m Av cv) H3.out.2.2.1 rfl, Kd.R_set H3.out.2.2.2 H3.out.2.2.1 (by decide) _ _, rfl⟩⟩
  have HBS : Aside0 (w.heap.size < wa.heap.size ∧ wa.heap.size < w1.heap.size) := ⟨H2.out.2.2.2⟩
  rw [← hw3]
  clear hw3 H3 H2 ka kc kf
  obtain ⟨g, hg⟩ := EX0.out.head
  subst hg
  obtain ⟨pb, er, hp⟩ : ∃ pb er, lay msgB msgV m = (pb, er) := ⟨_, _, rfl⟩
  obtain ⟨bv, hbv⟩ : ∃ bv, dcd (msgV m) = bv := ⟨_, rfl⟩
  have HP := Aside0.mk (And.intro hp hbv)
  have hq : (er == 0) = bv := by rw [← hbv]; exact lay_err hp
  clear hp hbv
  go_upto_region 8 with (first
    | ((with_reducible refine gate_dst (N := 24) rfl ?_); refine wpList_load_row rfl 33 (.tmp 3) rfl wa.heap.size (by rfl) 33 (MVc m _ cv) (0, 0) _ EX0.out.box Try.underlying33 rfl inf33 ?_)
    | ((with_reducible refine gate_dst (N := 27) rfl ?_); refine wpList_load_row rfl 33 (.tmp 3) rfl wa.heap.size (by rfl) 33 (MVc m _ cv) (0, 0) _ EX0.out.box Try.underlying33 rfl inf33 ?_)
    | ((with_reducible refine gate_dst (N := 32) rfl ?_); refine wpList_load_row rfl 33 (.tmp 1) rfl w.heap.size (by rfl) 33 (MVc m A c) (0, 0) _ EX0.out.bm Try.underlying33 rfl inf33 ?_)
    | (go_at_call 21; refine (val_law m m.views rfl HI.out _ cv _ EX0.out.row).mono ?_; rintro e w4 ⟨rfl, hb⟩; rw [wv_self, HP.out.2]; have n0_ := Aside0.mk (EX0.out.below hb); clear EX0 hb; have EX0 := n0_; clear n0_)
    | (go_at_call 16; refine (enc_law m m.views rfl HI.out _ cv _ EX0.out.row HP.out.1).mono ?_; rintro e w5 ⟨Ap, cp, rfl, hi, hb⟩; have HP1 := Aside0.mk hi; have n0_ := Aside0.mk (EX0.out.below hb); clear EX0 hb hi; have EX0 := n0_; clear n0_)
    | (go_at_call 39; refine (rence_law m m.views rfl HI.out A c _ ⟨Kd.C_below HR.out.1 EX0.out.bel, HR.out.2⟩ HP.out.1).mono ?_; rintro e w6 ⟨Aq, cq, rfl, hi, hb⟩; have HP2 := Aside0.mk (And.intro (In.below HP1.out hb) hi); have n0_ := Aside0.mk (EX0.out.below hb); clear EX0 hb hi HP1; have EX0 := n0_; clear n0_))
  have HPD : Aside0 (In w6.drew Ap cp pb ∧ In w6.drew Aq cq pb) := ⟨In.below HP2.out.1 (below_drew1 (Below.refl _ _)), In.below HP2.out.2 (below_drew1 (Below.refl _ _))⟩
  have ka := EX0.out.drew.at_m
  have km := EX0.out.drew.mark
  have hn1 : (m.views.length : Int) < ((m.views.length + 1 : Nat) : Int) := by omega
  have hn2 : (m.views.length : Int) < (m.views.length : Int) + 1 := by omega
  have hn3 : (m.views.length : Int) + 1 ≤ 9223372036854775807 := by omega
  go_region_held3 (fun w' => w'.cell? ⟨w.heap.size, 19, none⟩ = some (.slice A m.views.length c) ∧ w'.cell? ⟨g, m.views.length * 7, none⟩ = some (.string ⟨#[109, 97, 114, 107]⟩)) (first | exact ⟨EX2.out.at_m, EX2.out.mark⟩ | exact ⟨EX1.out.at_m, EX1.out.mark⟩ | exact ⟨EX0.out.drew.at_m, EX0.out.drew.mark⟩) (first
    | (go_at_call 37; refine (alike_ex Ap cp Aq cq pb _ rfl _ HPD.out.1 HPD.out.2).mono ?_; rintro e w7 ⟨rfl, hb⟩; have EX1 := Aside0.mk (EX0.out.drew.below hb); clear hb)
    | (go_at_call 40; refine (same_vs m.views _ cv A c _ rfl _ EX1.out.row ⟨Kd.C_below HR.out.1 EX1.out.bel, HR.out.2⟩).mono ?_; rintro e w8 ⟨rfl, hb⟩; have EX2 := Aside0.mk (EX1.out.below hb); clear hb))
  clear ka km HPD HP2 EX0 EX1
  have hnS : ((m.views.length + 1 : Nat) : Int) = (m.views.length : Int) + 1 := by omega
  go_wp2_with fail
  go_loopw [11] (fun v11 wr => ∃ (i : Nat) (l : List S87), v11 = .int .i64 (i : Int) ∧ Aside0 (i ≤ m.views.length ∧ EX w wr m A c wa.heap.size w1.heap.size (some ⟨g, 0, none⟩) cv l)) (fun v11 _ => m.views.length - (intOf v11).toNat)
  case atStart => exact ⟨0, m.views, rfl, ⟨Nat.zero_le _, EX2.out⟩⟩
  case round =>
    obtain ⟨i, l, rfl, HQ⟩ := hrel
    have EQ := Aside0.mk HQ.out.2
    by_cases hlt : i < m.views.length
    · have hi0 : (0 : Int) ≤ (i : Int) := by omega
      have hi1 : (i : Int) < (m.views.length : Int) := by omega
      have hi2 : (i : Int) < (m.views.length : Int) + 1 := by omega
      have HLT := Aside0.mk hlt
      obtain ⟨x, hx, kx, hcc⟩ := EQ.out.elem i hlt
      have kf : wr.frozen? ⟨g, i * 7 + 6, none⟩ = false := by
        obtain ⟨_, _, _, _, hf⟩ := Kd.R_elem EQ.out.r mkV (i : Int) (by omega) (by omega)
        exact hf 6
      clear hx hcc
      go_wp2_with fail
      obtain ⟨l', hE⟩ := EQ.out.put HLT.out HBS.out (bits BinOp.xor IntKind.i64 x.f5 1)
      have E2 := Aside0.mk hE
      clear hE kx kf
      go_roundw
      case rel => exact ⟨i + 1, l', by go_num, ⟨by have := HLT.out; omega, E2.out⟩⟩
      case measure => simp only [intOf]; have := HLT.out; first | omega | (go_num; omega) | (simp; omega)
    · have hi1 : ¬ ((i : Int) < (m.views.length : Int)) := by omega
      go_upto_region 14 with fail
      have H1 := Aside0.mk (heap_alloc_new wr (.cells (MVc zMsg none 0) 33 (0, 0)))
      go_upto_region 15 with (first
        | ((with_reducible refine gate_dst (N := 83) rfl ?_); refine wpList_load_row rfl 33 (.tmp 1) rfl w.heap.size (by rfl) 33 (MVc m A c) (0, 0) _ EQ.out.bm Try.underlying33 rfl inf33 ?_)
        | (refine wpList_store_row rfl 33 (.tmp 12) (.tmp 83) rfl wr.heap.size (MVc m A c) (by rfl) (by rfl) 33 _ H1.out inf33 rfl (mv_one _ _ _) ?_))
      obtain ⟨w5, hw5⟩ : ∃ w5, w5 = (wr.alloc (.cells (MVc zMsg none 0) 33 (0, 0))).setRow wr.heap.size (MVc m A c) := ⟨_, rfl⟩
      have HW5 := Aside0.mk hw5
      rw [mv_zero] at HW5
      have E5 : Aside0 (EX w w5 m A c wa.heap.size w1.heap.size (some ⟨g, 0, none⟩) cv l ∧ w5.heap[wr.heap.size]? = some (.cells (MVc m A c) 33 (0, 0)) ∧ w.heap.size < wr.heap.size ∧ wa.heap.size ≠ wr.heap.size) := ⟨by
        have hb : Below wr.heap.size wr w5 := by rw [hw5]; exact below_setRow (al_below _ _) (Nat.le_refl _) _
        have h1 := blk_lt EQ.out.box
        have h2 := blk_lt EQ.out.bm
        exact ⟨EQ.out.below hb, by rw [hw5]; exact setRow_blk H1.out _, h2, by omega⟩⟩
      rw [← HW5.out]
      clear hw5 HW5 H1
      have HZ : Aside0 ((0 + m.views.length) * 64 ≤ 140737488355328) := ⟨by have := HL.out; omega⟩
      go_upto_region 16 with ((with_reducible refine gate_dst (N := 87) rfl ?_); refine Kd.R_append_rows k87 (Rr := Kd.K k87 w5) (w0 := w5) w5.heap.size rfl (.const (.slice none 0 0)) (.tmp 86) 31 87 _ 64 (by rfl) Try.underlying31 inf87 rfl (by decide) (by decide) (.slice none 0 0) [] l (some ⟨g, 0, none⟩) m.views.length cv (fun _ => True) (fun _ => False) (by rfl) (by rfl) (Kd.R_nil _ _ _ _ _) E5.out.1.row.1 kM87 (fun _ hk => hk.elim) (fun _ _ => trivial) (Below.refl _ _) (Nat.le_refl _) HZ.out ?_; intro v6 w6 hR hB hg hat; rw [List.nil_append] at hR; obtain ⟨Ay, cy, rfl⟩ := Kd.R_slice hR; rw [EQ.out.len] at hR ⊢; have E6 : Aside0 (EX w w6 m A c wa.heap.size w1.heap.size (some ⟨g, 0, none⟩) cv l ∧ w6.heap[wr.heap.size]? = some (.cells (MVc m A c) 33 (0, 0)) ∧ Kd.R k87 87 w6 w5.heap.size (fun _ => True) (.slice Ay m.views.length cy) l) := ⟨E5.out.1.below hB, blk_keep hB E5.out.2.1, hR⟩; clear hR hB hg hat; have kc : w6.cell? ⟨wr.heap.size, 19, none⟩ = some (.slice A m.views.length c) := (blk_cell E6.out.2.1 19).trans rfl; have kf := blk_frozen E6.out.2.1 19)
      obtain ⟨w7, hw7⟩ : ∃ w7, w7 = w6.setCell ⟨wr.heap.size, 19, none⟩ (.slice Ay m.views.length cy) := ⟨_, rfl⟩
      have E7 : Aside0 (EX w w7 m A c wa.heap.size w1.heap.size (some ⟨g, 0, none⟩) cv l ∧ w7.heap[wr.heap.size]? = some (.cells (MVc m Ay cy) 33 (0, 0)) ∧ (Kd.C k87 w7 Ay m.views.length l ∧ m.views.length ≤ cy)) := ⟨by
        rw [hw7]
        have hR := Kd.R_reads' (Kd.R_set E6.out.2.2 E6.out.2.1 (by decide) 19 (.slice Ay m.views.length cy))
        exact ⟨E6.out.1.far E6.out.2.1 E5.out.2.2.1 E5.out.2.2.2 _ _, blk_upd (cs2 := MVc m Ay cy) E6.out.2.1 rfl, by have h1 := hR.2.2; rwa [← hR.1] at h1, hR.2.1⟩⟩
      rw [← hw7]
      clear hw7 E5 E6 EQ kc kf
      obtain ⟨pb2, er2, hp⟩ : ∃ pb er, lay msgB msgV (wv m l) = (pb, er) := ⟨_, _, rfl⟩
      obtain ⟨bv2, hbv⟩ : ∃ bv, dcd (msgV (wv m l)) = bv := ⟨_, rfl⟩
      have HP2 := Aside0.mk (And.intro hp hbv)
      have hq2 : (er2 == 0) = bv2 := by rw [← hbv]; exact lay_err hp
      clear hp hbv
      go_wp2_with (first
        | ((with_reducible refine gate_dst (N := 90) rfl ?_); refine wpList_load_row rfl 33 (.tmp 3) rfl wa.heap.size (by rfl) 33 (MVc m _ cv) (0, 0) _ E7.out.1.box Try.underlying33 rfl inf33 ?_)
        | ((with_reducible refine gate_dst (N := 95) rfl ?_); refine wpList_load_row rfl 33 (.tmp 12) rfl wr.heap.size (by rfl) 33 (MVc m Ay cy) (0, 0) _ E8.out.2.1 Try.underlying33 rfl inf33 ?_)
        | ((with_reducible refine gate_dst (N := 108) rfl ?_); refine gate_guard (by kernel_rfl) ?_; refine wpList_load_row rfl 33 (.tmp 3) rfl wa.heap.size (by rfl) 33 (MVc m _ cv) (0, 0) _ E10.out.box Try.underlying33 rfl inf33 ?_)
        | (go_at_call 16; refine (enc_law m l E7.out.1.len HI.out _ cv _ E7.out.1.row HP2.out.1).mono ?_; rintro e w8 ⟨Ap, cp, rfl, hi, hb⟩; have E8 : Aside0 (EX w w8 m A c wa.heap.size w1.heap.size (some ⟨g, 0, none⟩) cv l ∧ w8.heap[wr.heap.size]? = some (.cells (MVc m Ay cy) 33 (0, 0)) ∧ (Kd.C k87 w8 Ay m.views.length l ∧ m.views.length ≤ cy) ∧ In w8 Ap cp pb2) := ⟨E7.out.1.below hb, blk_keep hb E7.out.2.1, ⟨Kd.C_below E7.out.2.2.1 hb, E7.out.2.2.2⟩, hi⟩; clear hb hi E7)
        | (go_at_call 39; refine (rence_law m l E8.out.1.len HI.out Ay cy _ E8.out.2.2.1 HP2.out.1).mono ?_; rintro e w9 ⟨Aq, cq, rfl, hi, hb⟩; have E9 : Aside0 (EX w w9 m A c wa.heap.size w1.heap.size (some ⟨g, 0, none⟩) cv l ∧ In w9 Ap cp pb2 ∧ In w9 Aq cq pb2) := ⟨E8.out.1.below hb, In.below E8.out.2.2.2 hb, hi⟩; clear hb hi E8)
        | (go_at_call 37; refine (alike_ex Ap cp Aq cq pb2 _ rfl _ E9.out.2.1 E9.out.2.2).mono ?_; rintro e wx ⟨rfl, hb⟩; have E10 := Aside0.mk (E9.out.1.below hb); clear hb E9)
        | (go_at_call 21; refine (val_law m l E10.out.len HI.out _ cv _ E10.out.row).mono ?_; rintro e wy ⟨rfl, hb⟩; rw [HP2.out.2]; have HE := Aside0.mk (below_step E10.out.bel hb); clear hb))
      go_ret
      exact ⟨rfl, HE.out⟩
end Go.Proofs.Ytpgdmmjbhjbbhaa.Lw
end
section
namespace Go.Proofs.Ytpgdmmjbhjbbhaa.Lw
open Go Go.RowKit Go.Proofs.Ytpgdmmjbhjbbhaa.P Go.Proofs.Ytpgdmmjbhjbbhaa.Sp Go.Proofs.Ytpgdmmjbhjbbhaa.Vd Go.Proofs.Ytpgdmmjbhjbbhaa.En Go.Proofs.Ytpgdmmjbhjbbhaa.Wr Go.Proofs.Ytpgdmmjbhjbbhaa.Rd Go.Proofs.Ytpgdmmjbhjbbhaa.Ow Go.Proofs.YtpgdmmjbhjbbhaaW.PrintWords Go.Proofs.YtpgdmmjbhjbbhaaW.PrintLast Go.Proofs.YtpgdmmjbhjbbhaaW.PrintMore
set_option linter.unusedVariables false
set_option linter.unusedSimpArgs false
set_option maxHeartbeats 4000000 in
set_option maxRecDepth 100000 in
theorem encodes_walk (w : World) (m : Msg) (A : Option Addr) (c : Nat) (h : isI m.op.a ∧ isI m.op.b) (h1 : isI m.kind) (h2 : isI m.err) (hv : VIn w A c m.views) :
    Calls Try.prog 3 #[.agg (MVc m A c)] w fun e w' => e = .returned (.bool true) ∧ Below w.heap.size w w' := by
  have HI := Aside0.mk h
  have HV : Aside0 (Kd.C k87 w A m.views.length m.views ∧ m.views.length ≤ c ∧ m.views.length * 64 ≤ 140737488351232) := ⟨hv.1, hv.2.1, hv.2.2.1⟩
  clear h h1 h2 hv
  have hu33 := Try.underlying33
  obtain ⟨wa, hwa⟩ : ∃ wa, wa = w.alloc (.cells (MVc m A c) 33 (0, 0)) := ⟨_, rfl⟩
  have HWA := Aside0.mk hwa
  have H0 : Aside0 (Below w.heap.size w wa ∧ wa.heap[w.heap.size]? = some (.cells (MVc m A c) 33 (0, 0))) := ⟨by rw [hwa]; exact ⟨al_below w _, heap_alloc_new w _⟩⟩
  clear hwa
  go_enter Try.func3, Try.ntmps3
  go_upto_region 1 with fail
  rw [← HWA.out]
  go_wp2_with (first
    | (go_at_call 12; refine (able_calls _).mono ?_; rintro e w1 ⟨rfl, hb⟩; have H1 := Aside0.mk (And.intro (below_step H0.out.1 hb) (blk_keep hb H0.out.2)); clear hb H0)
    | ((with_reducible refine gate_dst (N := 5) rfl ?_); refine gate_guard (by kernel_rfl) ?_; refine wpList_load_row rfl 33 (.tmp 1) rfl w.heap.size (by rfl) 33 (MVc m A c) (0, 0) _ H1.out.2 Try.underlying33 rfl inf33 ?_)
    | (go_at_call 13; refine (encodes_calls _ m A c HI.out (Kd.C_below HV.out.1 H1.out.1) HV.out.2.1 HV.out.2.2).mono ?_; rintro e w2 ⟨rfl, hb⟩; have HE := Aside0.mk (below_step H1.out.1 hb); clear hb))
  go_ret
  exact ⟨rfl, HE.out⟩
end Go.Proofs.Ytpgdmmjbhjbbhaa.Lw
end
