/- texts that the proof needs, laid together by a program of this session. -/
import Derived.Test.YtpgdmmjbhjbbhaaKWireEncodes7
section
namespace Go.Proofs.Ytpgdmmjbhjbbhaa.En
open Go Go.RowKit Go.Proofs.Ytpgdmmjbhjbbhaa.P Go.Proofs.Ytpgdmmjbhjbbhaa.Sp Go.Proofs.Ytpgdmmjbhjbbhaa.Vd Go.Proofs.Ytpgdmmjbhjbbhaa.Wr Go.Proofs.YtpgdmmjbhjbbhaaW.PrintWords Go.Proofs.YtpgdmmjbhjbbhaaW.PrintLast Go.Proofs.YtpgdmmjbhjbbhaaW.PrintMore
set_option linter.unusedVariables false
set_option linter.unusedSimpArgs false
set_option maxHeartbeats 8000000 in
set_option maxRecDepth 100000 in
theorem enc1_calls (m : Msg) (h : isI m.op.a ∧ isI m.op.b) (A : Option Addr) (c : Nat) (w : World) (hr : Kd.C k87 w A m.views.length m.views) (hc : m.views.length ≤ c) (hk : m.kind = 1) (hv : msgV m) :
    Calls Try.prog 16 #[MV m A c] w fun e w' => ∃ v, e = .returned (.tuple #[v, .int .i64 0]) ∧ Kd.R (Kd.int .u8) 5 w' w.heap.size (fun _ => True) v (msgB m) ∧ Below w.heap.size w w' := by
  have HT : Aside0 (msgB m = numsB [1] ++ (pairB ⟨m.call.f0, m.call.f1⟩ ++ (opB ⟨m.op.kind, m.op.name, m.op.a, m.op.b⟩))) := ⟨by unfold msgB restB; simp [hk, numsB, pairB, capOf, optB, hasEp, hasRt]⟩
  have HLEN := Aside0.mk (msg_len hv)
  have HV := Aside0.mk hv
  have HR := Aside0.mk hr
  have HC := Aside0.mk hc
  have HI := Aside0.mk h
  clear hv hr hc h
  have HK0 : Aside0 ((MVc m A c)[0]? = some (.int .i64 1)) := ⟨by unfold MVc; rw [hk]; rfl⟩
  have hu33 := Try.underlying33
  have hu23 := Try.underlying23
  have hu25 := Try.underlying25
  have hu27 := Try.underlying27
  have hu29 := Try.underlying29
  obtain ⟨wa, hwa⟩ : ∃ wa, wa = w.alloc (.cells (MVc m A c) 33 (0, 0)) := ⟨_, rfl⟩
  have HWA := Aside0.mk hwa
  have HB : Aside0 (Below w.heap.size w wa) := ⟨by rw [hwa]; exact (Below.refl _ _).alloc (Nat.le_refl _) _⟩
  have BK : Aside0 (wa.heap[w.heap.size]? = some (.cells (MVc m A c) 33 (0, 0))) := ⟨by rw [hwa]; exact heap_alloc_new w _⟩
  clear hwa
  go_enter Try.func16, Try.ntmps16
  unfold MV
  go_upto_region 1 with fail
  rw [← HWA.out]
  go_upto_region 3 with (first | ((with_reducible refine gate_dst (N := 5) rfl ?_); refine wpList_load_row rfl 33 (.tmp 1) rfl w.heap.size (by rfl) 33 (MVc m A c) (0, 0) _ BK.out Try.underlying33 rfl inf33 ?_) | (go_at_call 21; refine (valid_calls m HI.out A c _ (Kd.C_below HR.out HB.out) HC.out).mono ?_; rintro e w0 ⟨rfl, hb⟩; rw [dcd_pos HV.out]; have n0_ := Aside0.mk (below_step HB.out hb); have n1_ := Aside0.mk (blk_keep hb BK.out); clear HB BK hb; have HB := n0_; have BK := n1_; clear n0_ n1_))
  obtain ⟨w1, hw1⟩ : ∃ w1, w1 = w0.alloc (.cells #[.slice none 0 0] 99 (0, 0)) := ⟨_, rfl⟩
  have HW1 := Aside0.mk hw1
  have HS0 : Aside0 (WS w w1 w0.heap.size [] (.slice none 0 0)) := ⟨by rw [hw1]; exact ⟨heap_alloc_new w0 _, HB.out.size, Kd.R_nil _ _ _ _ _, below_alloc HB.out _⟩⟩
  have HBX : Aside0 (w1.heap[w.heap.size]? = some (.cells (MVc m A c) 33 (0, 0))) := ⟨by rw [hw1]; exact blk_keep (al_below w0 _) BK.out⟩
  have HST0 : Aside0 (Stay w1 w1) := ⟨Stay.refl _⟩
  clear hw1
  go_upto_region 4 with fail
  rw [← HW1.out]
  have kz0 : w1.cell? ⟨w.heap.size, 0, none⟩ = some (.int .i64 m.kind) := (box_stay HBX.out (by decide) (by decide) HST0.out 0).trans rfl
  rw [hk] at kz0
  have HB0 : Aside0 ((([] : List Int)).length + (numsB [1]).length ≤ 1099511627776) := ⟨by have h1 := congrArg List.length HT.out; simp only [List.length_append, List.length_nil] at h1 ⊢; have := HLEN.out; omega⟩
  have HL0 : Aside0 (IsL (w1.alloc (.cells #[.int .i64 1] 3 (0, 0))) w1.heap.size [1]) := ⟨heap_alloc_new w1 _⟩
  go_upto_region 5 with (go_at_call 53; refine (nums_calls w _ _ (([] : List Int)) (.slice none 0 0) _ [1] _ _ rfl (HS0.out.below (al_below w1 _)) HL0.out HB0.out (by simp)).mono ?_; rintro e w2 ⟨rfl, v2, hS1, hst⟩; have HS1 := Aside0.mk hS1; have HST1 : Aside0 (Stay w1 w2) := ⟨HST0.out.trans ((Stay.below (al_below w1 _)).trans hst)⟩; clear kz0; clear hS1 hst)
  have kk1 : w2.cell? ⟨w.heap.size, 0, none⟩ = some (.int .i64 1) := (box_stay HBX.out (by decide) (by decide) HST1.out 0).trans HK0.out
  go_upto_region 7 with fail
  clear kk1
  have kz11 : w2.cell? ⟨w.heap.size, 11, none⟩ = some (.int .i64 m.call.f0) := (box_stay HBX.out (by decide) (by decide) HST1.out 11).trans rfl
  have kz12 : w2.cell? ⟨w.heap.size, 12, none⟩ = some (.int .i64 m.call.f1) := (box_stay HBX.out (by decide) (by decide) HST1.out 12).trans rfl
  have HB1 : Aside0 ((([] : List Int) ++ numsB [1]).length + (pairB ⟨m.call.f0, m.call.f1⟩).length ≤ 1099511627776) := ⟨by have h1 := congrArg List.length HT.out; simp only [List.length_append, List.length_nil] at h1 ⊢; have := HLEN.out; omega⟩
  go_upto_region 8 with (go_at_call 54; refine (call_calls w _ _ (([] : List Int) ++ numsB [1]) v2 ⟨m.call.f0, m.call.f1⟩ HS1.out HB1.out).mono ?_; rintro e w3 ⟨rfl, v3, hS1, hst⟩; have HS2 := Aside0.mk hS1; have HST2 : Aside0 (Stay w1 w3) := ⟨HST1.out.trans hst⟩; clear kz11 kz12; clear hS1 hst)
  have kk2 : w3.cell? ⟨w.heap.size, 0, none⟩ = some (.int .i64 1) := (box_stay HBX.out (by decide) (by decide) HST2.out 0).trans HK0.out
  go_upto_region 8 with fail
  clear kk2
  have kz13 : w3.cell? ⟨w.heap.size, 13, none⟩ = some (.int .i64 m.op.kind) := (box_stay HBX.out (by decide) (by decide) HST2.out 13).trans rfl
  have kz14 : w3.cell? ⟨w.heap.size, 14, none⟩ = some (.string m.op.name) := (box_stay HBX.out (by decide) (by decide) HST2.out 14).trans rfl
  have kz15 : w3.cell? ⟨w.heap.size, 15, none⟩ = some (.int .i64 m.op.a) := (box_stay HBX.out (by decide) (by decide) HST2.out 15).trans rfl
  have kz16 : w3.cell? ⟨w.heap.size, 16, none⟩ = some (.int .i64 m.op.b) := (box_stay HBX.out (by decide) (by decide) HST2.out 16).trans rfl
  have HB2 : Aside0 ((([] : List Int) ++ numsB [1] ++ pairB ⟨m.call.f0, m.call.f1⟩).length + (opB ⟨m.op.kind, m.op.name, m.op.a, m.op.b⟩).length ≤ 1099511627776) := ⟨by have h1 := congrArg List.length HT.out; simp only [List.length_append, List.length_nil] at h1 ⊢; have := HLEN.out; omega⟩
  go_upto_region 9 with (go_at_call 55; refine (op_calls w _ _ (([] : List Int) ++ numsB [1] ++ pairB ⟨m.call.f0, m.call.f1⟩) v3 ⟨m.op.kind, m.op.name, m.op.a, m.op.b⟩ HI.out HS2.out HB2.out).mono ?_; rintro e w4 ⟨rfl, v4, hS1, hst⟩; have HS3 := Aside0.mk hS1; have HST3 : Aside0 (Stay w1 w4) := ⟨HST2.out.trans hst⟩; clear kz13 kz14 kz15 kz16; clear hS1 hst)
  have kk3 : w4.cell? ⟨w.heap.size, 0, none⟩ = some (.int .i64 1) := (box_stay HBX.out (by decide) (by decide) HST3.out 0).trans HK0.out
  go_upto_region 9 with fail
  clear kk3
  obtain ⟨Az, nz, cz, rfl⟩ := R_sl HS3.out.row
  have kw : w4.cell? ⟨w0.heap.size, 0, none⟩ = some (.slice Az nz cz) := (blk_cell HS3.out.blk 0).trans rfl
  go_wp2_with fail
  go_ret2
  refine ⟨.slice Az nz cz, rfl, ?_, HS3.out.bel⟩
  have hrow := HS3.out.row
  rw [show ([] : List Int) ++ numsB [1] ++ pairB ⟨m.call.f0, m.call.f1⟩ ++ opB ⟨m.op.kind, m.op.name, m.op.a, m.op.b⟩ = msgB m from by rw [HT.out]; simp only [List.nil_append, List.append_assoc]] at hrow
  exact hrow
set_option maxHeartbeats 8000000 in
set_option maxRecDepth 100000 in
theorem enc10_calls (m : Msg) (h : isI m.op.a ∧ isI m.op.b) (A : Option Addr) (c : Nat) (w : World) (hr : Kd.C k87 w A m.views.length m.views) (hc : m.views.length ≤ c) (hk : m.kind = 10) (hv : msgV m) :
    Calls Try.prog 16 #[MV m A c] w fun e w' => ∃ v, e = .returned (.tuple #[v, .int .i64 0]) ∧ Kd.R (Kd.int .u8) 5 w' w.heap.size (fun _ => True) v (msgB m) ∧ Below w.heap.size w w' := by
  have HT : Aside0 (msgB m = numsB [10] ++ (listB m.views)) := ⟨by unfold msgB restB; simp [hk, numsB, pairB, capOf, optB, hasEp, hasRt]⟩
  have HLEN := Aside0.mk (msg_len hv)
  have HVL : Aside0 (m.views.length ≤ 1000) := ⟨by have h1 := hv.2; unfold restV at h1; simp [hk] at h1; have := h1.1.1; omega⟩
  have HV := Aside0.mk hv
  have HR := Aside0.mk hr
  have HC := Aside0.mk hc
  have HI := Aside0.mk h
  clear hv hr hc h
  have HK0 : Aside0 ((MVc m A c)[0]? = some (.int .i64 10)) := ⟨by unfold MVc; rw [hk]; rfl⟩
  have hu33 := Try.underlying33
  have hu23 := Try.underlying23
  have hu25 := Try.underlying25
  have hu27 := Try.underlying27
  have hu29 := Try.underlying29
  obtain ⟨wa, hwa⟩ : ∃ wa, wa = w.alloc (.cells (MVc m A c) 33 (0, 0)) := ⟨_, rfl⟩
  have HWA := Aside0.mk hwa
  have HB : Aside0 (Below w.heap.size w wa) := ⟨by rw [hwa]; exact (Below.refl _ _).alloc (Nat.le_refl _) _⟩
  have BK : Aside0 (wa.heap[w.heap.size]? = some (.cells (MVc m A c) 33 (0, 0))) := ⟨by rw [hwa]; exact heap_alloc_new w _⟩
  clear hwa
  go_enter Try.func16, Try.ntmps16
  unfold MV
  go_upto_region 1 with fail
  rw [← HWA.out]
  go_upto_region 3 with (first | ((with_reducible refine gate_dst (N := 5) rfl ?_); refine wpList_load_row rfl 33 (.tmp 1) rfl w.heap.size (by rfl) 33 (MVc m A c) (0, 0) _ BK.out Try.underlying33 rfl inf33 ?_) | (go_at_call 21; refine (valid_calls m HI.out A c _ (Kd.C_below HR.out HB.out) HC.out).mono ?_; rintro e w0 ⟨rfl, hb⟩; rw [dcd_pos HV.out]; have n0_ := Aside0.mk (below_step HB.out hb); have n1_ := Aside0.mk (blk_keep hb BK.out); clear HB BK hb; have HB := n0_; have BK := n1_; clear n0_ n1_))
  obtain ⟨w1, hw1⟩ : ∃ w1, w1 = w0.alloc (.cells #[.slice none 0 0] 99 (0, 0)) := ⟨_, rfl⟩
  have HW1 := Aside0.mk hw1
  have HS0 : Aside0 (WS w w1 w0.heap.size [] (.slice none 0 0)) := ⟨by rw [hw1]; exact ⟨heap_alloc_new w0 _, HB.out.size, Kd.R_nil _ _ _ _ _, below_alloc HB.out _⟩⟩
  have HBX : Aside0 (w1.heap[w.heap.size]? = some (.cells (MVc m A c) 33 (0, 0))) := ⟨by rw [hw1]; exact blk_keep (al_below w0 _) BK.out⟩
  have HST0 : Aside0 (Stay w1 w1) := ⟨Stay.refl _⟩
  clear hw1
  go_upto_region 4 with fail
  rw [← HW1.out]
  have kz0 : w1.cell? ⟨w.heap.size, 0, none⟩ = some (.int .i64 m.kind) := (box_stay HBX.out (by decide) (by decide) HST0.out 0).trans rfl
  rw [hk] at kz0
  have HB0 : Aside0 ((([] : List Int)).length + (numsB [10]).length ≤ 1099511627776) := ⟨by have h1 := congrArg List.length HT.out; simp only [List.length_append, List.length_nil] at h1 ⊢; have := HLEN.out; omega⟩
  have HL0 : Aside0 (IsL (w1.alloc (.cells #[.int .i64 10] 3 (0, 0))) w1.heap.size [10]) := ⟨heap_alloc_new w1 _⟩
  go_upto_region 5 with (go_at_call 53; refine (nums_calls w _ _ (([] : List Int)) (.slice none 0 0) _ [10] _ _ rfl (HS0.out.below (al_below w1 _)) HL0.out HB0.out (by simp)).mono ?_; rintro e w2 ⟨rfl, v2, hS1, hst⟩; have HS1 := Aside0.mk hS1; have HST1 : Aside0 (Stay w1 w2) := ⟨HST0.out.trans ((Stay.below (al_below w1 _)).trans hst)⟩; clear kz0; clear hS1 hst)
  have kk1 : w2.cell? ⟨w.heap.size, 0, none⟩ = some (.int .i64 10) := (box_stay HBX.out (by decide) (by decide) HST1.out 0).trans HK0.out
  go_upto_region 11 with fail
  clear kk1
  have kz19 : w2.cell? ⟨w.heap.size, 19, none⟩ = some (.slice A m.views.length c) := (box_stay HBX.out (by decide) (by decide) HST1.out 19).trans rfl
  have HB1 : Aside0 ((([] : List Int) ++ numsB [10]).length + (listB m.views).length ≤ 1099511627776) := ⟨by have h1 := congrArg List.length HT.out; simp only [List.length_append, List.length_nil] at h1 ⊢; have := HLEN.out; omega⟩
  go_upto_region 12 with (go_at_call 56; refine (views_calls w _ _ (([] : List Int) ++ numsB [10]) v2 A c m.views HR.out HVL.out HS1.out HB1.out).mono ?_; rintro e w3 ⟨rfl, v3, hS1, hst⟩; have HS2 := Aside0.mk hS1; have HST2 : Aside0 (Stay w1 w3) := ⟨HST1.out.trans hst⟩; clear kz19; clear hS1 hst)
  have kk2 : w3.cell? ⟨w.heap.size, 0, none⟩ = some (.int .i64 10) := (box_stay HBX.out (by decide) (by decide) HST2.out 0).trans HK0.out
  go_upto_region 12 with fail
  clear kk2
  obtain ⟨Az, nz, cz, rfl⟩ := R_sl HS2.out.row
  have kw : w3.cell? ⟨w0.heap.size, 0, none⟩ = some (.slice Az nz cz) := (blk_cell HS2.out.blk 0).trans rfl
  go_wp2_with fail
  go_ret2
  refine ⟨.slice Az nz cz, rfl, ?_, HS2.out.bel⟩
  have hrow := HS2.out.row
  rw [show ([] : List Int) ++ numsB [10] ++ listB m.views = msgB m from by rw [HT.out]; simp only [List.nil_append, List.append_assoc]] at hrow
  exact hrow
set_option maxHeartbeats 8000000 in
set_option maxRecDepth 100000 in
theorem enc3_calls (m : Msg) (h : isI m.op.a ∧ isI m.op.b) (A : Option Addr) (c : Nat) (w : World) (hr : Kd.C k87 w A m.views.length m.views) (hc : m.views.length ≤ c) (hk : m.kind = 3) (hv : msgV m) :
    Calls Try.prog 16 #[MV m A c] w fun e w' => ∃ v, e = .returned (.tuple #[v, .int .i64 0]) ∧ Kd.R (Kd.int .u8) 5 w' w.heap.size (fun _ => True) v (msgB m) ∧ Below w.heap.size w w' := by
  have HT : Aside0 (msgB m = numsB [3] ++ (textB m.name ++ (numsB [m.cap, m.recaps] ++ (numsB [m.epoch.f0, m.epoch.f1])))) := ⟨by unfold msgB restB; simp [hk, numsB, pairB, capOf, optB, hasEp, hasRt]⟩
  have HLEN := Aside0.mk (msg_len hv)
  have HV := Aside0.mk hv
  have HR := Aside0.mk hr
  have HC := Aside0.mk hc
  have HI := Aside0.mk h
  clear hv hr hc h
  have HK0 : Aside0 ((MVc m A c)[0]? = some (.int .i64 3)) := ⟨by unfold MVc; rw [hk]; rfl⟩
  have hu33 := Try.underlying33
  have hu23 := Try.underlying23
  have hu25 := Try.underlying25
  have hu27 := Try.underlying27
  have hu29 := Try.underlying29
  obtain ⟨wa, hwa⟩ : ∃ wa, wa = w.alloc (.cells (MVc m A c) 33 (0, 0)) := ⟨_, rfl⟩
  have HWA := Aside0.mk hwa
  have HB : Aside0 (Below w.heap.size w wa) := ⟨by rw [hwa]; exact (Below.refl _ _).alloc (Nat.le_refl _) _⟩
  have BK : Aside0 (wa.heap[w.heap.size]? = some (.cells (MVc m A c) 33 (0, 0))) := ⟨by rw [hwa]; exact heap_alloc_new w _⟩
  clear hwa
  go_enter Try.func16, Try.ntmps16
  unfold MV
  go_upto_region 1 with fail
  rw [← HWA.out]
  go_upto_region 3 with (first | ((with_reducible refine gate_dst (N := 5) rfl ?_); refine wpList_load_row rfl 33 (.tmp 1) rfl w.heap.size (by rfl) 33 (MVc m A c) (0, 0) _ BK.out Try.underlying33 rfl inf33 ?_) | (go_at_call 21; refine (valid_calls m HI.out A c _ (Kd.C_below HR.out HB.out) HC.out).mono ?_; rintro e w0 ⟨rfl, hb⟩; rw [dcd_pos HV.out]; have n0_ := Aside0.mk (below_step HB.out hb); have n1_ := Aside0.mk (blk_keep hb BK.out); clear HB BK hb; have HB := n0_; have BK := n1_; clear n0_ n1_))
  obtain ⟨w1, hw1⟩ : ∃ w1, w1 = w0.alloc (.cells #[.slice none 0 0] 99 (0, 0)) := ⟨_, rfl⟩
  have HW1 := Aside0.mk hw1
  have HS0 : Aside0 (WS w w1 w0.heap.size [] (.slice none 0 0)) := ⟨by rw [hw1]; exact ⟨heap_alloc_new w0 _, HB.out.size, Kd.R_nil _ _ _ _ _, below_alloc HB.out _⟩⟩
  have HBX : Aside0 (w1.heap[w.heap.size]? = some (.cells (MVc m A c) 33 (0, 0))) := ⟨by rw [hw1]; exact blk_keep (al_below w0 _) BK.out⟩
  have HST0 : Aside0 (Stay w1 w1) := ⟨Stay.refl _⟩
  clear hw1
  go_upto_region 4 with fail
  rw [← HW1.out]
  have kz0 : w1.cell? ⟨w.heap.size, 0, none⟩ = some (.int .i64 m.kind) := (box_stay HBX.out (by decide) (by decide) HST0.out 0).trans rfl
  rw [hk] at kz0
  have HB0 : Aside0 ((([] : List Int)).length + (numsB [3]).length ≤ 1099511627776) := ⟨by have h1 := congrArg List.length HT.out; simp only [List.length_append, List.length_nil] at h1 ⊢; have := HLEN.out; omega⟩
  have HL0 : Aside0 (IsL (w1.alloc (.cells #[.int .i64 3] 3 (0, 0))) w1.heap.size [3]) := ⟨heap_alloc_new w1 _⟩
  go_upto_region 5 with (go_at_call 53; refine (nums_calls w _ _ (([] : List Int)) (.slice none 0 0) _ [3] _ _ rfl (HS0.out.below (al_below w1 _)) HL0.out HB0.out (by simp)).mono ?_; rintro e w2 ⟨rfl, v2, hS1, hst⟩; have HS1 := Aside0.mk hS1; have HST1 : Aside0 (Stay w1 w2) := ⟨HST0.out.trans ((Stay.below (al_below w1 _)).trans hst)⟩; clear kz0; clear hS1 hst)
  have kk1 : w2.cell? ⟨w.heap.size, 0, none⟩ = some (.int .i64 3) := (box_stay HBX.out (by decide) (by decide) HST1.out 0).trans HK0.out
  go_upto_region 20 with fail
  clear kk1
  have kz1 : w2.cell? ⟨w.heap.size, 1, none⟩ = some (.string m.name) := (box_stay HBX.out (by decide) (by decide) HST1.out 1).trans rfl
  have HB1 : Aside0 ((([] : List Int) ++ numsB [3]).length + (textB m.name).length ≤ 1099511627776) := ⟨by have h1 := congrArg List.length HT.out; simp only [List.length_append, List.length_nil] at h1 ⊢; have := HLEN.out; omega⟩
  go_upto_region 21 with (go_at_call 57; refine (text_calls w _ _ (([] : List Int) ++ numsB [3]) v2 m.name HS1.out HB1.out).mono ?_; rintro e w3 ⟨rfl, v3, hS1, hst⟩; have HS2 := Aside0.mk hS1; have HST2 : Aside0 (Stay w1 w3) := ⟨HST1.out.trans hst⟩; clear kz1; clear hS1 hst)
  have kk2 : w3.cell? ⟨w.heap.size, 0, none⟩ = some (.int .i64 3) := (box_stay HBX.out (by decide) (by decide) HST2.out 0).trans HK0.out
  go_upto_region 21 with fail
  clear kk2
  have kz2 : w3.cell? ⟨w.heap.size, 2, none⟩ = some (.int .i64 m.cap) := (box_stay HBX.out (by decide) (by decide) HST2.out 2).trans rfl
  have kz3 : w3.cell? ⟨w.heap.size, 3, none⟩ = some (.int .i64 m.recaps) := (box_stay HBX.out (by decide) (by decide) HST2.out 3).trans rfl
  have HB2 : Aside0 ((([] : List Int) ++ numsB [3] ++ textB m.name).length + (numsB [m.cap, m.recaps]).length ≤ 1099511627776) := ⟨by have h1 := congrArg List.length HT.out; simp only [List.length_append, List.length_nil] at h1 ⊢; have := HLEN.out; omega⟩
  have HL2 : Aside0 (IsL (w3.alloc (.cells #[.int .i64 m.cap, .int .i64 m.recaps] 3 (0, 0))) w3.heap.size [m.cap, m.recaps]) := ⟨heap_alloc_new w3 _⟩
  go_upto_region 22 with (go_at_call 53; refine (nums_calls w _ _ (([] : List Int) ++ numsB [3] ++ textB m.name) v3 _ [m.cap, m.recaps] _ _ rfl (HS2.out.below (al_below w3 _)) HL2.out HB2.out (by simp)).mono ?_; rintro e w4 ⟨rfl, v4, hS1, hst⟩; have HS3 := Aside0.mk hS1; have HST3 : Aside0 (Stay w1 w4) := ⟨HST2.out.trans ((Stay.below (al_below w3 _)).trans hst)⟩; clear kz2 kz3; clear hS1 hst)
  have kk3 : w4.cell? ⟨w.heap.size, 0, none⟩ = some (.int .i64 3) := (box_stay HBX.out (by decide) (by decide) HST3.out 0).trans HK0.out
  go_upto_region 28 with fail
  clear kk3
  have kz4 : w4.cell? ⟨w.heap.size, 4, none⟩ = some (.int .i64 m.epoch.f0) := (box_stay HBX.out (by decide) (by decide) HST3.out 4).trans rfl
  have kz5 : w4.cell? ⟨w.heap.size, 5, none⟩ = some (.int .i64 m.epoch.f1) := (box_stay HBX.out (by decide) (by decide) HST3.out 5).trans rfl
  have HB3 : Aside0 ((([] : List Int) ++ numsB [3] ++ textB m.name ++ numsB [m.cap, m.recaps]).length + (numsB [m.epoch.f0, m.epoch.f1]).length ≤ 1099511627776) := ⟨by have h1 := congrArg List.length HT.out; simp only [List.length_append, List.length_nil] at h1 ⊢; have := HLEN.out; omega⟩
  have HL3 : Aside0 (IsL (w4.alloc (.cells #[.int .i64 m.epoch.f0, .int .i64 m.epoch.f1] 3 (0, 0))) w4.heap.size [m.epoch.f0, m.epoch.f1]) := ⟨heap_alloc_new w4 _⟩
  go_upto_region 29 with (go_at_call 53; refine (nums_calls w _ _ (([] : List Int) ++ numsB [3] ++ textB m.name ++ numsB [m.cap, m.recaps]) v4 _ [m.epoch.f0, m.epoch.f1] _ _ rfl (HS3.out.below (al_below w4 _)) HL3.out HB3.out (by simp)).mono ?_; rintro e w5 ⟨rfl, v5, hS1, hst⟩; have HS4 := Aside0.mk hS1; have HST4 : Aside0 (Stay w1 w5) := ⟨HST3.out.trans ((Stay.below (al_below w4 _)).trans hst)⟩; clear kz4 kz5; clear hS1 hst)
  have kk4 : w5.cell? ⟨w.heap.size, 0, none⟩ = some (.int .i64 3) := (box_stay HBX.out (by decide) (by decide) HST4.out 0).trans HK0.out
  go_upto_region 36 with fail
  clear kk4
  obtain ⟨Az, nz, cz, rfl⟩ := R_sl HS4.out.row
  have kw : w5.cell? ⟨w0.heap.size, 0, none⟩ = some (.slice Az nz cz) := (blk_cell HS4.out.blk 0).trans rfl
  go_wp2_with fail
  go_ret2
  refine ⟨.slice Az nz cz, rfl, ?_, HS4.out.bel⟩
  have hrow := HS4.out.row
  rw [show ([] : List Int) ++ numsB [3] ++ textB m.name ++ numsB [m.cap, m.recaps] ++ numsB [m.epoch.f0, m.epoch.f1] = msgB m from by rw [HT.out]; simp only [List.nil_append, List.append_assoc]] at hrow
  exact hrow
end Go.Proofs.Ytpgdmmjbhjbbhaa.En
end
section
namespace Go.Proofs.Ytpgdmmjbhjbbhaa.En
open Go Go.RowKit Go.Proofs.Ytpgdmmjbhjbbhaa.P Go.Proofs.Ytpgdmmjbhjbbhaa.Sp Go.Proofs.Ytpgdmmjbhjbbhaa.Vd Go.Proofs.Ytpgdmmjbhjbbhaa.Wr Go.Proofs.YtpgdmmjbhjbbhaaW.PrintWords Go.Proofs.YtpgdmmjbhjbbhaaW.PrintLast Go.Proofs.YtpgdmmjbhjbbhaaW.PrintMore
set_option linter.unusedVariables false
set_option linter.unusedSimpArgs false
set_option maxHeartbeats 8000000 in
set_option maxRecDepth 100000 in
theorem enc2t_calls (m : Msg) (h : isI m.op.a ∧ isI m.op.b) (A : Option Addr) (c : Nat) (w : World) (hr : Kd.C k87 w A m.views.length m.views) (hc : m.views.length ≤ c) (hk : m.kind = 2) (hv : msgV m) (hq : capped m.err) :
    Calls Try.prog 16 #[MV m A c] w fun e w' => ∃ v, e = .returned (.tuple #[v, .int .i64 0]) ∧ Kd.R (Kd.int .u8) 5 w' w.heap.size (fun _ => True) v (msgB m) ∧ Below w.heap.size w w' := by
  have HT : Aside0 (msgB m = numsB [2] ++ (pairB ⟨m.call.f0, m.call.f1⟩ ++ (textB m.name ++ (numsB [m.err] ++ (numsB [m.cap, m.recaps]))))) := ⟨by unfold msgB restB; simp [hk, numsB, pairB, capOf, optB, hasEp, hasRt, hq]⟩
  have HLEN := Aside0.mk (msg_len hv)
  have HV := Aside0.mk hv
  have HR := Aside0.mk hr
  have HC := Aside0.mk hc
  have HI := Aside0.mk h
  have hcq := dcd_pos hq
  clear hv hr hc h hq
  have HK0 : Aside0 ((MVc m A c)[0]? = some (.int .i64 2)) := ⟨by unfold MVc; rw [hk]; rfl⟩
  have hu33 := Try.underlying33
  have hu23 := Try.underlying23
  have hu25 := Try.underlying25
  have hu27 := Try.underlying27
  have hu29 := Try.underlying29
  obtain ⟨wa, hwa⟩ : ∃ wa, wa = w.alloc (.cells (MVc m A c) 33 (0, 0)) := ⟨_, rfl⟩
  have HWA := Aside0.mk hwa
  have HB : Aside0 (Below w.heap.size w wa) := ⟨by rw [hwa]; exact (Below.refl _ _).alloc (Nat.le_refl _) _⟩
  have BK : Aside0 (wa.heap[w.heap.size]? = some (.cells (MVc m A c) 33 (0, 0))) := ⟨by rw [hwa]; exact heap_alloc_new w _⟩
  clear hwa
  go_enter Try.func16, Try.ntmps16
  unfold MV
  go_upto_region 1 with fail
  rw [← HWA.out]
  go_upto_region 3 with (first | ((with_reducible refine gate_dst (N := 5) rfl ?_); refine wpList_load_row rfl 33 (.tmp 1) rfl w.heap.size (by rfl) 33 (MVc m A c) (0, 0) _ BK.out Try.underlying33 rfl inf33 ?_) | (go_at_call 21; refine (valid_calls m HI.out A c _ (Kd.C_below HR.out HB.out) HC.out).mono ?_; rintro e w0 ⟨rfl, hb⟩; rw [dcd_pos HV.out]; have n0_ := Aside0.mk (below_step HB.out hb); have n1_ := Aside0.mk (blk_keep hb BK.out); clear HB BK hb; have HB := n0_; have BK := n1_; clear n0_ n1_))
  obtain ⟨w1, hw1⟩ : ∃ w1, w1 = w0.alloc (.cells #[.slice none 0 0] 99 (0, 0)) := ⟨_, rfl⟩
  have HW1 := Aside0.mk hw1
  have HS0 : Aside0 (WS w w1 w0.heap.size [] (.slice none 0 0)) := ⟨by rw [hw1]; exact ⟨heap_alloc_new w0 _, HB.out.size, Kd.R_nil _ _ _ _ _, below_alloc HB.out _⟩⟩
  have HBX : Aside0 (w1.heap[w.heap.size]? = some (.cells (MVc m A c) 33 (0, 0))) := ⟨by rw [hw1]; exact blk_keep (al_below w0 _) BK.out⟩
  have HST0 : Aside0 (Stay w1 w1) := ⟨Stay.refl _⟩
  clear hw1
  go_upto_region 4 with fail
  rw [← HW1.out]
  have kz0 : w1.cell? ⟨w.heap.size, 0, none⟩ = some (.int .i64 m.kind) := (box_stay HBX.out (by decide) (by decide) HST0.out 0).trans rfl
  rw [hk] at kz0
  have HB0 : Aside0 ((([] : List Int)).length + (numsB [2]).length ≤ 1099511627776) := ⟨by have h1 := congrArg List.length HT.out; simp only [List.length_append, List.length_nil] at h1 ⊢; have := HLEN.out; omega⟩
  have HL0 : Aside0 (IsL (w1.alloc (.cells #[.int .i64 2] 3 (0, 0))) w1.heap.size [2]) := ⟨heap_alloc_new w1 _⟩
  go_upto_region 5 with (go_at_call 53; refine (nums_calls w _ _ (([] : List Int)) (.slice none 0 0) _ [2] _ _ rfl (HS0.out.below (al_below w1 _)) HL0.out HB0.out (by simp)).mono ?_; rintro e w2 ⟨rfl, v2, hS1, hst⟩; have HS1 := Aside0.mk hS1; have HST1 : Aside0 (Stay w1 w2) := ⟨HST0.out.trans ((Stay.below (al_below w1 _)).trans hst)⟩; clear kz0; clear hS1 hst)
  have kk1 : w2.cell? ⟨w.heap.size, 0, none⟩ = some (.int .i64 2) := (box_stay HBX.out (by decide) (by decide) HST1.out 0).trans HK0.out
  go_upto_region 14 with fail
  clear kk1
  have kz11 : w2.cell? ⟨w.heap.size, 11, none⟩ = some (.int .i64 m.call.f0) := (box_stay HBX.out (by decide) (by decide) HST1.out 11).trans rfl
  have kz12 : w2.cell? ⟨w.heap.size, 12, none⟩ = some (.int .i64 m.call.f1) := (box_stay HBX.out (by decide) (by decide) HST1.out 12).trans rfl
  have HB1 : Aside0 ((([] : List Int) ++ numsB [2]).length + (pairB ⟨m.call.f0, m.call.f1⟩).length ≤ 1099511627776) := ⟨by have h1 := congrArg List.length HT.out; simp only [List.length_append, List.length_nil] at h1 ⊢; have := HLEN.out; omega⟩
  go_upto_region 15 with (go_at_call 54; refine (call_calls w _ _ (([] : List Int) ++ numsB [2]) v2 ⟨m.call.f0, m.call.f1⟩ HS1.out HB1.out).mono ?_; rintro e w3 ⟨rfl, v3, hS1, hst⟩; have HS2 := Aside0.mk hS1; have HST2 : Aside0 (Stay w1 w3) := ⟨HST1.out.trans hst⟩; clear kz11 kz12; clear hS1 hst)
  have kk2 : w3.cell? ⟨w.heap.size, 0, none⟩ = some (.int .i64 2) := (box_stay HBX.out (by decide) (by decide) HST2.out 0).trans HK0.out
  go_upto_region 15 with fail
  clear kk2
  have kz1 : w3.cell? ⟨w.heap.size, 1, none⟩ = some (.string m.name) := (box_stay HBX.out (by decide) (by decide) HST2.out 1).trans rfl
  have HB2 : Aside0 ((([] : List Int) ++ numsB [2] ++ pairB ⟨m.call.f0, m.call.f1⟩).length + (textB m.name).length ≤ 1099511627776) := ⟨by have h1 := congrArg List.length HT.out; simp only [List.length_append, List.length_nil] at h1 ⊢; have := HLEN.out; omega⟩
  go_upto_region 16 with (go_at_call 57; refine (text_calls w _ _ (([] : List Int) ++ numsB [2] ++ pairB ⟨m.call.f0, m.call.f1⟩) v3 m.name HS2.out HB2.out).mono ?_; rintro e w4 ⟨rfl, v4, hS1, hst⟩; have HS3 := Aside0.mk hS1; have HST3 : Aside0 (Stay w1 w4) := ⟨HST2.out.trans hst⟩; clear kz1; clear hS1 hst)
  have kk3 : w4.cell? ⟨w.heap.size, 0, none⟩ = some (.int .i64 2) := (box_stay HBX.out (by decide) (by decide) HST3.out 0).trans HK0.out
  go_upto_region 16 with fail
  clear kk3
  have kz17 : w4.cell? ⟨w.heap.size, 17, none⟩ = some (.int .i64 m.err) := (box_stay HBX.out (by decide) (by decide) HST3.out 17).trans rfl
  have HB3 : Aside0 ((([] : List Int) ++ numsB [2] ++ pairB ⟨m.call.f0, m.call.f1⟩ ++ textB m.name).length + (numsB [m.err]).length ≤ 1099511627776) := ⟨by have h1 := congrArg List.length HT.out; simp only [List.length_append, List.length_nil] at h1 ⊢; have := HLEN.out; omega⟩
  have HL3 : Aside0 (IsL (w4.alloc (.cells #[.int .i64 m.err] 3 (0, 0))) w4.heap.size [m.err]) := ⟨heap_alloc_new w4 _⟩
  go_upto_region 17 with (go_at_call 53; refine (nums_calls w _ _ (([] : List Int) ++ numsB [2] ++ pairB ⟨m.call.f0, m.call.f1⟩ ++ textB m.name) v4 _ [m.err] _ _ rfl (HS3.out.below (al_below w4 _)) HL3.out HB3.out (by simp)).mono ?_; rintro e w5 ⟨rfl, v5, hS1, hst⟩; have HS4 := Aside0.mk hS1; have HST4 : Aside0 (Stay w1 w5) := ⟨HST3.out.trans ((Stay.below (al_below w4 _)).trans hst)⟩; clear kz17; clear hS1 hst)
  have kk4 : w5.cell? ⟨w.heap.size, 0, none⟩ = some (.int .i64 2) := (box_stay HBX.out (by decide) (by decide) HST4.out 0).trans HK0.out
  go_upto_region 17 with fail
  clear kk4
  have kz17 : w5.cell? ⟨w.heap.size, 17, none⟩ = some (.int .i64 m.err) := (box_stay HBX.out (by decide) (by decide) HST4.out 17).trans rfl
  go_upto_region 18 with (go_at_call 58; refine (capped_calls _ _).mono ?_; rintro e w6 ⟨rfl, hb⟩; rw [hcq]; have HST5 : Aside0 (Stay w1 w6) := ⟨HST4.out.trans (Stay.below hb)⟩; have HS5 : Aside0 (WS w w6 w0.heap.size (([] : List Int) ++ numsB [2] ++ pairB ⟨m.call.f0, m.call.f1⟩ ++ textB m.name ++ numsB [m.err]) v5) := ⟨HS4.out.below hb⟩; clear hb kz17)
  have kz2 : w6.cell? ⟨w.heap.size, 2, none⟩ = some (.int .i64 m.cap) := (box_stay HBX.out (by decide) (by decide) HST5.out 2).trans rfl
  have kz3 : w6.cell? ⟨w.heap.size, 3, none⟩ = some (.int .i64 m.recaps) := (box_stay HBX.out (by decide) (by decide) HST5.out 3).trans rfl
  have HB5 : Aside0 ((([] : List Int) ++ numsB [2] ++ pairB ⟨m.call.f0, m.call.f1⟩ ++ textB m.name ++ numsB [m.err]).length + (numsB [m.cap, m.recaps]).length ≤ 1099511627776) := ⟨by have h1 := congrArg List.length HT.out; simp only [List.length_append, List.length_nil] at h1 ⊢; have := HLEN.out; omega⟩
  have HL5 : Aside0 (IsL (w6.alloc (.cells #[.int .i64 m.cap, .int .i64 m.recaps] 3 (0, 0))) w6.heap.size [m.cap, m.recaps]) := ⟨heap_alloc_new w6 _⟩
  go_upto_region 19 with (go_at_call 53; refine (nums_calls w _ _ (([] : List Int) ++ numsB [2] ++ pairB ⟨m.call.f0, m.call.f1⟩ ++ textB m.name ++ numsB [m.err]) v5 _ [m.cap, m.recaps] _ _ rfl (HS5.out.below (al_below w6 _)) HL5.out HB5.out (by simp)).mono ?_; rintro e w7 ⟨rfl, v7, hS1, hst⟩; have HS6 := Aside0.mk hS1; have HST6 : Aside0 (Stay w1 w7) := ⟨HST5.out.trans ((Stay.below (al_below w6 _)).trans hst)⟩; clear kz2 kz3; clear hS1 hst)
  have kk6 : w7.cell? ⟨w.heap.size, 0, none⟩ = some (.int .i64 2) := (box_stay HBX.out (by decide) (by decide) HST6.out 0).trans HK0.out
  go_upto_region 19 with fail
  clear kk6
  obtain ⟨Az, nz, cz, rfl⟩ := R_sl HS6.out.row
  have kw : w7.cell? ⟨w0.heap.size, 0, none⟩ = some (.slice Az nz cz) := (blk_cell HS6.out.blk 0).trans rfl
  go_wp2_with fail
  go_ret2
  refine ⟨.slice Az nz cz, rfl, ?_, HS6.out.bel⟩
  have hrow := HS6.out.row
  rw [show ([] : List Int) ++ numsB [2] ++ pairB ⟨m.call.f0, m.call.f1⟩ ++ textB m.name ++ numsB [m.err] ++ numsB [m.cap, m.recaps] = msgB m from by rw [HT.out]; simp only [List.nil_append, List.append_assoc]] at hrow
  exact hrow
set_option maxHeartbeats 8000000 in
set_option maxRecDepth 100000 in
theorem enc2f_calls (m : Msg) (h : isI m.op.a ∧ isI m.op.b) (A : Option Addr) (c : Nat) (w : World) (hr : Kd.C k87 w A m.views.length m.views) (hc : m.views.length ≤ c) (hk : m.kind = 2) (hv : msgV m) (hq : ¬ capped m.err) :
    Calls Try.prog 16 #[MV m A c] w fun e w' => ∃ v, e = .returned (.tuple #[v, .int .i64 0]) ∧ Kd.R (Kd.int .u8) 5 w' w.heap.size (fun _ => True) v (msgB m) ∧ Below w.heap.size w w' := by
  have HT : Aside0 (msgB m = numsB [2] ++ (pairB ⟨m.call.f0, m.call.f1⟩ ++ (textB m.name ++ (numsB [m.err])))) := ⟨by unfold msgB restB; simp [hk, numsB, pairB, capOf, optB, hasEp, hasRt, hq]⟩
  have HLEN := Aside0.mk (msg_len hv)
  have HV := Aside0.mk hv
  have HR := Aside0.mk hr
  have HC := Aside0.mk hc
  have HI := Aside0.mk h
  have hcq := dcd_neg hq
  clear hv hr hc h hq
  have HK0 : Aside0 ((MVc m A c)[0]? = some (.int .i64 2)) := ⟨by unfold MVc; rw [hk]; rfl⟩
  have hu33 := Try.underlying33
  have hu23 := Try.underlying23
  have hu25 := Try.underlying25
  have hu27 := Try.underlying27
  have hu29 := Try.underlying29
  obtain ⟨wa, hwa⟩ : ∃ wa, wa = w.alloc (.cells (MVc m A c) 33 (0, 0)) := ⟨_, rfl⟩
  have HWA := Aside0.mk hwa
  have HB : Aside0 (Below w.heap.size w wa) := ⟨by rw [hwa]; exact (Below.refl _ _).alloc (Nat.le_refl _) _⟩
  have BK : Aside0 (wa.heap[w.heap.size]? = some (.cells (MVc m A c) 33 (0, 0))) := ⟨by rw [hwa]; exact heap_alloc_new w _⟩
  clear hwa
  go_enter Try.func16, Try.ntmps16
  unfold MV
  go_upto_region 1 with fail
  rw [← HWA.out]
  go_upto_region 3 with (first | ((with_reducible refine gate_dst (N := 5) rfl ?_); refine wpList_load_row rfl 33 (.tmp 1) rfl w.heap.size (by rfl) 33 (MVc m A c) (0, 0) _ BK.out Try.underlying33 rfl inf33 ?_) | (go_at_call 21; refine (valid_calls m HI.out A c _ (Kd.C_below HR.out HB.out) HC.out).mono ?_; rintro e w0 ⟨rfl, hb⟩; rw [dcd_pos HV.out]; have n0_ := Aside0.mk (below_step HB.out hb); have n1_ := Aside0.mk (blk_keep hb BK.out); clear HB BK hb; have HB := n0_; have BK := n1_; clear n0_ n1_))
  obtain ⟨w1, hw1⟩ : ∃ w1, w1 = w0.alloc (.cells #[.slice none 0 0] 99 (0, 0)) := ⟨_, rfl⟩
  have HW1 := Aside0.mk hw1
  have HS0 : Aside0 (WS w w1 w0.heap.size [] (.slice none 0 0)) := ⟨by rw [hw1]; exact ⟨heap_alloc_new w0 _, HB.out.size, Kd.R_nil _ _ _ _ _, below_alloc HB.out _⟩⟩
  have HBX : Aside0 (w1.heap[w.heap.size]? = some (.cells (MVc m A c) 33 (0, 0))) := ⟨by rw [hw1]; exact blk_keep (al_below w0 _) BK.out⟩
  have HST0 : Aside0 (Stay w1 w1) := ⟨Stay.refl _⟩
  clear hw1
  go_upto_region 4 with fail
  rw [← HW1.out]
  have kz0 : w1.cell? ⟨w.heap.size, 0, none⟩ = some (.int .i64 m.kind) := (box_stay HBX.out (by decide) (by decide) HST0.out 0).trans rfl
  rw [hk] at kz0
  have HB0 : Aside0 ((([] : List Int)).length + (numsB [2]).length ≤ 1099511627776) := ⟨by have h1 := congrArg List.length HT.out; simp only [List.length_append, List.length_nil] at h1 ⊢; have := HLEN.out; omega⟩
  have HL0 : Aside0 (IsL (w1.alloc (.cells #[.int .i64 2] 3 (0, 0))) w1.heap.size [2]) := ⟨heap_alloc_new w1 _⟩
  go_upto_region 5 with (go_at_call 53; refine (nums_calls w _ _ (([] : List Int)) (.slice none 0 0) _ [2] _ _ rfl (HS0.out.below (al_below w1 _)) HL0.out HB0.out (by simp)).mono ?_; rintro e w2 ⟨rfl, v2, hS1, hst⟩; have HS1 := Aside0.mk hS1; have HST1 : Aside0 (Stay w1 w2) := ⟨HST0.out.trans ((Stay.below (al_below w1 _)).trans hst)⟩; clear kz0; clear hS1 hst)
  have kk1 : w2.cell? ⟨w.heap.size, 0, none⟩ = some (.int .i64 2) := (box_stay HBX.out (by decide) (by decide) HST1.out 0).trans HK0.out
  go_upto_region 14 with fail
  clear kk1
  have kz11 : w2.cell? ⟨w.heap.size, 11, none⟩ = some (.int .i64 m.call.f0) := (box_stay HBX.out (by decide) (by decide) HST1.out 11).trans rfl
  have kz12 : w2.cell? ⟨w.heap.size, 12, none⟩ = some (.int .i64 m.call.f1) := (box_stay HBX.out (by decide) (by decide) HST1.out 12).trans rfl
  have HB1 : Aside0 ((([] : List Int) ++ numsB [2]).length + (pairB ⟨m.call.f0, m.call.f1⟩).length ≤ 1099511627776) := ⟨by have h1 := congrArg List.length HT.out; simp only [List.length_append, List.length_nil] at h1 ⊢; have := HLEN.out; omega⟩
  go_upto_region 15 with (go_at_call 54; refine (call_calls w _ _ (([] : List Int) ++ numsB [2]) v2 ⟨m.call.f0, m.call.f1⟩ HS1.out HB1.out).mono ?_; rintro e w3 ⟨rfl, v3, hS1, hst⟩; have HS2 := Aside0.mk hS1; have HST2 : Aside0 (Stay w1 w3) := ⟨HST1.out.trans hst⟩; clear kz11 kz12; clear hS1 hst)
  have kk2 : w3.cell? ⟨w.heap.size, 0, none⟩ = some (.int .i64 2) := (box_stay HBX.out (by decide) (by decide) HST2.out 0).trans HK0.out
  go_upto_region 15 with fail
  clear kk2
  have kz1 : w3.cell? ⟨w.heap.size, 1, none⟩ = some (.string m.name) := (box_stay HBX.out (by decide) (by decide) HST2.out 1).trans rfl
  have HB2 : Aside0 ((([] : List Int) ++ numsB [2] ++ pairB ⟨m.call.f0, m.call.f1⟩).length + (textB m.name).length ≤ 1099511627776) := ⟨by have h1 := congrArg List.length HT.out; simp only [List.length_append, List.length_nil] at h1 ⊢; have := HLEN.out; omega⟩
  go_upto_region 16 with (go_at_call 57; refine (text_calls w _ _ (([] : List Int) ++ numsB [2] ++ pairB ⟨m.call.f0, m.call.f1⟩) v3 m.name HS2.out HB2.out).mono ?_; rintro e w4 ⟨rfl, v4, hS1, hst⟩; have HS3 := Aside0.mk hS1; have HST3 : Aside0 (Stay w1 w4) := ⟨HST2.out.trans hst⟩; clear kz1; clear hS1 hst)
  have kk3 : w4.cell? ⟨w.heap.size, 0, none⟩ = some (.int .i64 2) := (box_stay HBX.out (by decide) (by decide) HST3.out 0).trans HK0.out
  go_upto_region 16 with fail
  clear kk3
  have kz17 : w4.cell? ⟨w.heap.size, 17, none⟩ = some (.int .i64 m.err) := (box_stay HBX.out (by decide) (by decide) HST3.out 17).trans rfl
  have HB3 : Aside0 ((([] : List Int) ++ numsB [2] ++ pairB ⟨m.call.f0, m.call.f1⟩ ++ textB m.name).length + (numsB [m.err]).length ≤ 1099511627776) := ⟨by have h1 := congrArg List.length HT.out; simp only [List.length_append, List.length_nil] at h1 ⊢; have := HLEN.out; omega⟩
  have HL3 : Aside0 (IsL (w4.alloc (.cells #[.int .i64 m.err] 3 (0, 0))) w4.heap.size [m.err]) := ⟨heap_alloc_new w4 _⟩
  go_upto_region 17 with (go_at_call 53; refine (nums_calls w _ _ (([] : List Int) ++ numsB [2] ++ pairB ⟨m.call.f0, m.call.f1⟩ ++ textB m.name) v4 _ [m.err] _ _ rfl (HS3.out.below (al_below w4 _)) HL3.out HB3.out (by simp)).mono ?_; rintro e w5 ⟨rfl, v5, hS1, hst⟩; have HS4 := Aside0.mk hS1; have HST4 : Aside0 (Stay w1 w5) := ⟨HST3.out.trans ((Stay.below (al_below w4 _)).trans hst)⟩; clear kz17; clear hS1 hst)
  have kk4 : w5.cell? ⟨w.heap.size, 0, none⟩ = some (.int .i64 2) := (box_stay HBX.out (by decide) (by decide) HST4.out 0).trans HK0.out
  go_upto_region 17 with fail
  clear kk4
  have kz17 : w5.cell? ⟨w.heap.size, 17, none⟩ = some (.int .i64 m.err) := (box_stay HBX.out (by decide) (by decide) HST4.out 17).trans rfl
  go_upto_region 19 with (go_at_call 58; refine (capped_calls _ _).mono ?_; rintro e w6 ⟨rfl, hb⟩; rw [hcq]; have HST5 : Aside0 (Stay w1 w6) := ⟨HST4.out.trans (Stay.below hb)⟩; have HS5 : Aside0 (WS w w6 w0.heap.size (([] : List Int) ++ numsB [2] ++ pairB ⟨m.call.f0, m.call.f1⟩ ++ textB m.name ++ numsB [m.err]) v5) := ⟨HS4.out.below hb⟩; clear hb kz17)
  obtain ⟨Az, nz, cz, rfl⟩ := R_sl HS5.out.row
  have kw : w6.cell? ⟨w0.heap.size, 0, none⟩ = some (.slice Az nz cz) := (blk_cell HS5.out.blk 0).trans rfl
  go_wp2_with fail
  go_ret2
  refine ⟨.slice Az nz cz, rfl, ?_, HS5.out.bel⟩
  have hrow := HS5.out.row
  rw [show ([] : List Int) ++ numsB [2] ++ pairB ⟨m.call.f0, m.call.f1⟩ ++ textB m.name ++ numsB [m.err] = msgB m from by rw [HT.out]; simp only [List.nil_append, List.append_assoc]] at hrow
  exact hrow
set_option maxHeartbeats 8000000 in
set_option maxRecDepth 100000 in
theorem enc7_calls (m : Msg) (h : isI m.op.a ∧ isI m.op.b) (A : Option Addr) (c : Nat) (w : World) (hr : Kd.C k87 w A m.views.length m.views) (hc : m.views.length ≤ c) (hk : m.kind = 7) (hv : msgV m) :
    Calls Try.prog 16 #[MV m A c] w fun e w' => ∃ v, e = .returned (.tuple #[v, .int .i64 0]) ∧ Kd.R (Kd.int .u8) 5 w' w.heap.size (fun _ => True) v (msgB m) ∧ Below w.heap.size w w' := by
  have HT : Aside0 (msgB m = numsB [7] ++ (textB m.name ++ (numsB [m.cap, m.recaps] ++ (numsB [m.epoch.f0, m.epoch.f1] ++ (numsB [m.over.f0, m.over.f1]))))) := ⟨by unfold msgB restB; simp [hk, numsB, pairB, capOf, optB, hasEp, hasRt]⟩
  have HLEN := Aside0.mk (msg_len hv)
  have HV := Aside0.mk hv
  have HR := Aside0.mk hr
  have HC := Aside0.mk hc
  have HI := Aside0.mk h
  clear hv hr hc h
  have HK0 : Aside0 ((MVc m A c)[0]? = some (.int .i64 7)) := ⟨by unfold MVc; rw [hk]; rfl⟩
  have hu33 := Try.underlying33
  have hu23 := Try.underlying23
  have hu25 := Try.underlying25
  have hu27 := Try.underlying27
  have hu29 := Try.underlying29
  obtain ⟨wa, hwa⟩ : ∃ wa, wa = w.alloc (.cells (MVc m A c) 33 (0, 0)) := ⟨_, rfl⟩
  have HWA := Aside0.mk hwa
  have HB : Aside0 (Below w.heap.size w wa) := ⟨by rw [hwa]; exact (Below.refl _ _).alloc (Nat.le_refl _) _⟩
  have BK : Aside0 (wa.heap[w.heap.size]? = some (.cells (MVc m A c) 33 (0, 0))) := ⟨by rw [hwa]; exact heap_alloc_new w _⟩
  clear hwa
  go_enter Try.func16, Try.ntmps16
  unfold MV
  go_upto_region 1 with fail
  rw [← HWA.out]
  go_upto_region 3 with (first | ((with_reducible refine gate_dst (N := 5) rfl ?_); refine wpList_load_row rfl 33 (.tmp 1) rfl w.heap.size (by rfl) 33 (MVc m A c) (0, 0) _ BK.out Try.underlying33 rfl inf33 ?_) | (go_at_call 21; refine (valid_calls m HI.out A c _ (Kd.C_below HR.out HB.out) HC.out).mono ?_; rintro e w0 ⟨rfl, hb⟩; rw [dcd_pos HV.out]; have n0_ := Aside0.mk (below_step HB.out hb); have n1_ := Aside0.mk (blk_keep hb BK.out); clear HB BK hb; have HB := n0_; have BK := n1_; clear n0_ n1_))
  obtain ⟨w1, hw1⟩ : ∃ w1, w1 = w0.alloc (.cells #[.slice none 0 0] 99 (0, 0)) := ⟨_, rfl⟩
  have HW1 := Aside0.mk hw1
  have HS0 : Aside0 (WS w w1 w0.heap.size [] (.slice none 0 0)) := ⟨by rw [hw1]; exact ⟨heap_alloc_new w0 _, HB.out.size, Kd.R_nil _ _ _ _ _, below_alloc HB.out _⟩⟩
  have HBX : Aside0 (w1.heap[w.heap.size]? = some (.cells (MVc m A c) 33 (0, 0))) := ⟨by rw [hw1]; exact blk_keep (al_below w0 _) BK.out⟩
  have HST0 : Aside0 (Stay w1 w1) := ⟨Stay.refl _⟩
  clear hw1
  go_upto_region 4 with fail
  rw [← HW1.out]
  have kz0 : w1.cell? ⟨w.heap.size, 0, none⟩ = some (.int .i64 m.kind) := (box_stay HBX.out (by decide) (by decide) HST0.out 0).trans rfl
  rw [hk] at kz0
  have HB0 : Aside0 ((([] : List Int)).length + (numsB [7]).length ≤ 1099511627776) := ⟨by have h1 := congrArg List.length HT.out; simp only [List.length_append, List.length_nil] at h1 ⊢; have := HLEN.out; omega⟩
  have HL0 : Aside0 (IsL (w1.alloc (.cells #[.int .i64 7] 3 (0, 0))) w1.heap.size [7]) := ⟨heap_alloc_new w1 _⟩
  go_upto_region 5 with (go_at_call 53; refine (nums_calls w _ _ (([] : List Int)) (.slice none 0 0) _ [7] _ _ rfl (HS0.out.below (al_below w1 _)) HL0.out HB0.out (by simp)).mono ?_; rintro e w2 ⟨rfl, v2, hS1, hst⟩; have HS1 := Aside0.mk hS1; have HST1 : Aside0 (Stay w1 w2) := ⟨HST0.out.trans ((Stay.below (al_below w1 _)).trans hst)⟩; clear kz0; clear hS1 hst)
  have kk1 : w2.cell? ⟨w.heap.size, 0, none⟩ = some (.int .i64 7) := (box_stay HBX.out (by decide) (by decide) HST1.out 0).trans HK0.out
  go_upto_region 20 with fail
  clear kk1
  have kz1 : w2.cell? ⟨w.heap.size, 1, none⟩ = some (.string m.name) := (box_stay HBX.out (by decide) (by decide) HST1.out 1).trans rfl
  have HB1 : Aside0 ((([] : List Int) ++ numsB [7]).length + (textB m.name).length ≤ 1099511627776) := ⟨by have h1 := congrArg List.length HT.out; simp only [List.length_append, List.length_nil] at h1 ⊢; have := HLEN.out; omega⟩
  go_upto_region 21 with (go_at_call 57; refine (text_calls w _ _ (([] : List Int) ++ numsB [7]) v2 m.name HS1.out HB1.out).mono ?_; rintro e w3 ⟨rfl, v3, hS1, hst⟩; have HS2 := Aside0.mk hS1; have HST2 : Aside0 (Stay w1 w3) := ⟨HST1.out.trans hst⟩; clear kz1; clear hS1 hst)
  have kk2 : w3.cell? ⟨w.heap.size, 0, none⟩ = some (.int .i64 7) := (box_stay HBX.out (by decide) (by decide) HST2.out 0).trans HK0.out
  go_upto_region 21 with fail
  clear kk2
  have kz2 : w3.cell? ⟨w.heap.size, 2, none⟩ = some (.int .i64 m.cap) := (box_stay HBX.out (by decide) (by decide) HST2.out 2).trans rfl
  have kz3 : w3.cell? ⟨w.heap.size, 3, none⟩ = some (.int .i64 m.recaps) := (box_stay HBX.out (by decide) (by decide) HST2.out 3).trans rfl
  have HB2 : Aside0 ((([] : List Int) ++ numsB [7] ++ textB m.name).length + (numsB [m.cap, m.recaps]).length ≤ 1099511627776) := ⟨by have h1 := congrArg List.length HT.out; simp only [List.length_append, List.length_nil] at h1 ⊢; have := HLEN.out; omega⟩
  have HL2 : Aside0 (IsL (w3.alloc (.cells #[.int .i64 m.cap, .int .i64 m.recaps] 3 (0, 0))) w3.heap.size [m.cap, m.recaps]) := ⟨heap_alloc_new w3 _⟩
  go_upto_region 22 with (go_at_call 53; refine (nums_calls w _ _ (([] : List Int) ++ numsB [7] ++ textB m.name) v3 _ [m.cap, m.recaps] _ _ rfl (HS2.out.below (al_below w3 _)) HL2.out HB2.out (by simp)).mono ?_; rintro e w4 ⟨rfl, v4, hS1, hst⟩; have HS3 := Aside0.mk hS1; have HST3 : Aside0 (Stay w1 w4) := ⟨HST2.out.trans ((Stay.below (al_below w3 _)).trans hst)⟩; clear kz2 kz3; clear hS1 hst)
  have kk3 : w4.cell? ⟨w.heap.size, 0, none⟩ = some (.int .i64 7) := (box_stay HBX.out (by decide) (by decide) HST3.out 0).trans HK0.out
  go_upto_region 28 with fail
  clear kk3
  have kz4 : w4.cell? ⟨w.heap.size, 4, none⟩ = some (.int .i64 m.epoch.f0) := (box_stay HBX.out (by decide) (by decide) HST3.out 4).trans rfl
  have kz5 : w4.cell? ⟨w.heap.size, 5, none⟩ = some (.int .i64 m.epoch.f1) := (box_stay HBX.out (by decide) (by decide) HST3.out 5).trans rfl
  have HB3 : Aside0 ((([] : List Int) ++ numsB [7] ++ textB m.name ++ numsB [m.cap, m.recaps]).length + (numsB [m.epoch.f0, m.epoch.f1]).length ≤ 1099511627776) := ⟨by have h1 := congrArg List.length HT.out; simp only [List.length_append, List.length_nil] at h1 ⊢; have := HLEN.out; omega⟩
  have HL3 : Aside0 (IsL (w4.alloc (.cells #[.int .i64 m.epoch.f0, .int .i64 m.epoch.f1] 3 (0, 0))) w4.heap.size [m.epoch.f0, m.epoch.f1]) := ⟨heap_alloc_new w4 _⟩
  go_upto_region 29 with (go_at_call 53; refine (nums_calls w _ _ (([] : List Int) ++ numsB [7] ++ textB m.name ++ numsB [m.cap, m.recaps]) v4 _ [m.epoch.f0, m.epoch.f1] _ _ rfl (HS3.out.below (al_below w4 _)) HL3.out HB3.out (by simp)).mono ?_; rintro e w5 ⟨rfl, v5, hS1, hst⟩; have HS4 := Aside0.mk hS1; have HST4 : Aside0 (Stay w1 w5) := ⟨HST3.out.trans ((Stay.below (al_below w4 _)).trans hst)⟩; clear kz4 kz5; clear hS1 hst)
  have kk4 : w5.cell? ⟨w.heap.size, 0, none⟩ = some (.int .i64 7) := (box_stay HBX.out (by decide) (by decide) HST4.out 0).trans HK0.out
  go_upto_region 35 with fail
  clear kk4
  have kz6 : w5.cell? ⟨w.heap.size, 6, none⟩ = some (.int .i64 m.over.f0) := (box_stay HBX.out (by decide) (by decide) HST4.out 6).trans rfl
  have kz7 : w5.cell? ⟨w.heap.size, 7, none⟩ = some (.int .i64 m.over.f1) := (box_stay HBX.out (by decide) (by decide) HST4.out 7).trans rfl
  have HB4 : Aside0 ((([] : List Int) ++ numsB [7] ++ textB m.name ++ numsB [m.cap, m.recaps] ++ numsB [m.epoch.f0, m.epoch.f1]).length + (numsB [m.over.f0, m.over.f1]).length ≤ 1099511627776) := ⟨by have h1 := congrArg List.length HT.out; simp only [List.length_append, List.length_nil] at h1 ⊢; have := HLEN.out; omega⟩
  have HL4 : Aside0 (IsL (w5.alloc (.cells #[.int .i64 m.over.f0, .int .i64 m.over.f1] 3 (0, 0))) w5.heap.size [m.over.f0, m.over.f1]) := ⟨heap_alloc_new w5 _⟩
  go_upto_region 36 with (go_at_call 53; refine (nums_calls w _ _ (([] : List Int) ++ numsB [7] ++ textB m.name ++ numsB [m.cap, m.recaps] ++ numsB [m.epoch.f0, m.epoch.f1]) v5 _ [m.over.f0, m.over.f1] _ _ rfl (HS4.out.below (al_below w5 _)) HL4.out HB4.out (by simp)).mono ?_; rintro e w6 ⟨rfl, v6, hS1, hst⟩; have HS5 := Aside0.mk hS1; have HST5 : Aside0 (Stay w1 w6) := ⟨HST4.out.trans ((Stay.below (al_below w5 _)).trans hst)⟩; clear kz6 kz7; clear hS1 hst)
  have kk5 : w6.cell? ⟨w.heap.size, 0, none⟩ = some (.int .i64 7) := (box_stay HBX.out (by decide) (by decide) HST5.out 0).trans HK0.out
  go_upto_region 36 with fail
  clear kk5
  obtain ⟨Az, nz, cz, rfl⟩ := R_sl HS5.out.row
  have kw : w6.cell? ⟨w0.heap.size, 0, none⟩ = some (.slice Az nz cz) := (blk_cell HS5.out.blk 0).trans rfl
  go_wp2_with fail
  go_ret2
  refine ⟨.slice Az nz cz, rfl, ?_, HS5.out.bel⟩
  have hrow := HS5.out.row
  rw [show ([] : List Int) ++ numsB [7] ++ textB m.name ++ numsB [m.cap, m.recaps] ++ numsB [m.epoch.f0, m.epoch.f1] ++ numsB [m.over.f0, m.over.f1] = msgB m from by rw [HT.out]; simp only [List.nil_append, List.append_assoc]] at hrow
  exact hrow
set_option maxHeartbeats 8000000 in
set_option maxRecDepth 100000 in
theorem enc8_calls (m : Msg) (h : isI m.op.a ∧ isI m.op.b) (A : Option Addr) (c : Nat) (w : World) (hr : Kd.C k87 w A m.views.length m.views) (hc : m.views.length ≤ c) (hk : m.kind = 8) (hv : msgV m) :
    Calls Try.prog 16 #[MV m A c] w fun e w' => ∃ v, e = .returned (.tuple #[v, .int .i64 0]) ∧ Kd.R (Kd.int .u8) 5 w' w.heap.size (fun _ => True) v (msgB m) ∧ Below w.heap.size w w' := by
  have HT : Aside0 (msgB m = numsB [8] ++ (textB m.name ++ (numsB [m.cap, m.recaps] ++ (numsB [m.rights.f0, m.rights.f1])))) := ⟨by unfold msgB restB; simp [hk, numsB, pairB, capOf, optB, hasEp, hasRt]⟩
  have HLEN := Aside0.mk (msg_len hv)
  have HV := Aside0.mk hv
  have HR := Aside0.mk hr
  have HC := Aside0.mk hc
  have HI := Aside0.mk h
  clear hv hr hc h
  have HK0 : Aside0 ((MVc m A c)[0]? = some (.int .i64 8)) := ⟨by unfold MVc; rw [hk]; rfl⟩
  have hu33 := Try.underlying33
  have hu23 := Try.underlying23
  have hu25 := Try.underlying25
  have hu27 := Try.underlying27
  have hu29 := Try.underlying29
  obtain ⟨wa, hwa⟩ : ∃ wa, wa = w.alloc (.cells (MVc m A c) 33 (0, 0)) := ⟨_, rfl⟩
  have HWA := Aside0.mk hwa
  have HB : Aside0 (Below w.heap.size w wa) := ⟨by rw [hwa]; exact (Below.refl _ _).alloc (Nat.le_refl _) _⟩
  have BK : Aside0 (wa.heap[w.heap.size]? = some (.cells (MVc m A c) 33 (0, 0))) := ⟨by rw [hwa]; exact heap_alloc_new w _⟩
  clear hwa
  go_enter Try.func16, Try.ntmps16
  unfold MV
  go_upto_region 1 with fail
  rw [← HWA.out]
  go_upto_region 3 with (first | ((with_reducible refine gate_dst (N := 5) rfl ?_); refine wpList_load_row rfl 33 (.tmp 1) rfl w.heap.size (by rfl) 33 (MVc m A c) (0, 0) _ BK.out Try.underlying33 rfl inf33 ?_) | (go_at_call 21; refine (valid_calls m HI.out A c _ (Kd.C_below HR.out HB.out) HC.out).mono ?_; rintro e w0 ⟨rfl, hb⟩; rw [dcd_pos HV.out]; have n0_ := Aside0.mk (below_step HB.out hb); have n1_ := Aside0.mk (blk_keep hb BK.out); clear HB BK hb; have HB := n0_; have BK := n1_; clear n0_ n1_))
  obtain ⟨w1, hw1⟩ : ∃ w1, w1 = w0.alloc (.cells #[.slice none 0 0] 99 (0, 0)) := ⟨_, rfl⟩
  have HW1 := Aside0.mk hw1
  have HS0 : Aside0 (WS w w1 w0.heap.size [] (.slice none 0 0)) := ⟨by rw [hw1]; exact ⟨heap_alloc_new w0 _, HB.out.size, Kd.R_nil _ _ _ _ _, below_alloc HB.out _⟩⟩
  have HBX : Aside0 (w1.heap[w.heap.size]? = some (.cells (MVc m A c) 33 (0, 0))) := ⟨by rw [hw1]; exact blk_keep (al_below w0 _) BK.out⟩
  have HST0 : Aside0 (Stay w1 w1) := ⟨Stay.refl _⟩
  clear hw1
  go_upto_region 4 with fail
  rw [← HW1.out]
  have kz0 : w1.cell? ⟨w.heap.size, 0, none⟩ = some (.int .i64 m.kind) := (box_stay HBX.out (by decide) (by decide) HST0.out 0).trans rfl
  rw [hk] at kz0
  have HB0 : Aside0 ((([] : List Int)).length + (numsB [8]).length ≤ 1099511627776) := ⟨by have h1 := congrArg List.length HT.out; simp only [List.length_append, List.length_nil] at h1 ⊢; have := HLEN.out; omega⟩
  have HL0 : Aside0 (IsL (w1.alloc (.cells #[.int .i64 8] 3 (0, 0))) w1.heap.size [8]) := ⟨heap_alloc_new w1 _⟩
  go_upto_region 5 with (go_at_call 53; refine (nums_calls w _ _ (([] : List Int)) (.slice none 0 0) _ [8] _ _ rfl (HS0.out.below (al_below w1 _)) HL0.out HB0.out (by simp)).mono ?_; rintro e w2 ⟨rfl, v2, hS1, hst⟩; have HS1 := Aside0.mk hS1; have HST1 : Aside0 (Stay w1 w2) := ⟨HST0.out.trans ((Stay.below (al_below w1 _)).trans hst)⟩; clear kz0; clear hS1 hst)
  have kk1 : w2.cell? ⟨w.heap.size, 0, none⟩ = some (.int .i64 8) := (box_stay HBX.out (by decide) (by decide) HST1.out 0).trans HK0.out
  go_upto_region 20 with fail
  clear kk1
  have kz1 : w2.cell? ⟨w.heap.size, 1, none⟩ = some (.string m.name) := (box_stay HBX.out (by decide) (by decide) HST1.out 1).trans rfl
  have HB1 : Aside0 ((([] : List Int) ++ numsB [8]).length + (textB m.name).length ≤ 1099511627776) := ⟨by have h1 := congrArg List.length HT.out; simp only [List.length_append, List.length_nil] at h1 ⊢; have := HLEN.out; omega⟩
  go_upto_region 21 with (go_at_call 57; refine (text_calls w _ _ (([] : List Int) ++ numsB [8]) v2 m.name HS1.out HB1.out).mono ?_; rintro e w3 ⟨rfl, v3, hS1, hst⟩; have HS2 := Aside0.mk hS1; have HST2 : Aside0 (Stay w1 w3) := ⟨HST1.out.trans hst⟩; clear kz1; clear hS1 hst)
  have kk2 : w3.cell? ⟨w.heap.size, 0, none⟩ = some (.int .i64 8) := (box_stay HBX.out (by decide) (by decide) HST2.out 0).trans HK0.out
  go_upto_region 21 with fail
  clear kk2
  have kz2 : w3.cell? ⟨w.heap.size, 2, none⟩ = some (.int .i64 m.cap) := (box_stay HBX.out (by decide) (by decide) HST2.out 2).trans rfl
  have kz3 : w3.cell? ⟨w.heap.size, 3, none⟩ = some (.int .i64 m.recaps) := (box_stay HBX.out (by decide) (by decide) HST2.out 3).trans rfl
  have HB2 : Aside0 ((([] : List Int) ++ numsB [8] ++ textB m.name).length + (numsB [m.cap, m.recaps]).length ≤ 1099511627776) := ⟨by have h1 := congrArg List.length HT.out; simp only [List.length_append, List.length_nil] at h1 ⊢; have := HLEN.out; omega⟩
  have HL2 : Aside0 (IsL (w3.alloc (.cells #[.int .i64 m.cap, .int .i64 m.recaps] 3 (0, 0))) w3.heap.size [m.cap, m.recaps]) := ⟨heap_alloc_new w3 _⟩
  go_upto_region 22 with (go_at_call 53; refine (nums_calls w _ _ (([] : List Int) ++ numsB [8] ++ textB m.name) v3 _ [m.cap, m.recaps] _ _ rfl (HS2.out.below (al_below w3 _)) HL2.out HB2.out (by simp)).mono ?_; rintro e w4 ⟨rfl, v4, hS1, hst⟩; have HS3 := Aside0.mk hS1; have HST3 : Aside0 (Stay w1 w4) := ⟨HST2.out.trans ((Stay.below (al_below w3 _)).trans hst)⟩; clear kz2 kz3; clear hS1 hst)
  have kk3 : w4.cell? ⟨w.heap.size, 0, none⟩ = some (.int .i64 8) := (box_stay HBX.out (by decide) (by decide) HST3.out 0).trans HK0.out
  go_upto_region 30 with fail
  clear kk3
  have kz8 : w4.cell? ⟨w.heap.size, 8, none⟩ = some (.int .i64 m.rights.f0) := (box_stay HBX.out (by decide) (by decide) HST3.out 8).trans rfl
  have kz9 : w4.cell? ⟨w.heap.size, 9, none⟩ = some (.int .i64 m.rights.f1) := (box_stay HBX.out (by decide) (by decide) HST3.out 9).trans rfl
  have HB3 : Aside0 ((([] : List Int) ++ numsB [8] ++ textB m.name ++ numsB [m.cap, m.recaps]).length + (numsB [m.rights.f0, m.rights.f1]).length ≤ 1099511627776) := ⟨by have h1 := congrArg List.length HT.out; simp only [List.length_append, List.length_nil] at h1 ⊢; have := HLEN.out; omega⟩
  have HL3 : Aside0 (IsL (w4.alloc (.cells #[.int .i64 m.rights.f0, .int .i64 m.rights.f1] 3 (0, 0))) w4.heap.size [m.rights.f0, m.rights.f1]) := ⟨heap_alloc_new w4 _⟩
  go_upto_region 31 with (go_at_call 53; refine (nums_calls w _ _ (([] : List Int) ++ numsB [8] ++ textB m.name ++ numsB [m.cap, m.recaps]) v4 _ [m.rights.f0, m.rights.f1] _ _ rfl (HS3.out.below (al_below w4 _)) HL3.out HB3.out (by simp)).mono ?_; rintro e w5 ⟨rfl, v5, hS1, hst⟩; have HS4 := Aside0.mk hS1; have HST4 : Aside0 (Stay w1 w5) := ⟨HST3.out.trans ((Stay.below (al_below w4 _)).trans hst)⟩; clear kz8 kz9; clear hS1 hst)
  have kk4 : w5.cell? ⟨w.heap.size, 0, none⟩ = some (.int .i64 8) := (box_stay HBX.out (by decide) (by decide) HST4.out 0).trans HK0.out
  go_upto_region 36 with fail
  clear kk4
  obtain ⟨Az, nz, cz, rfl⟩ := R_sl HS4.out.row
  have kw : w5.cell? ⟨w0.heap.size, 0, none⟩ = some (.slice Az nz cz) := (blk_cell HS4.out.blk 0).trans rfl
  go_wp2_with fail
  go_ret2
  refine ⟨.slice Az nz cz, rfl, ?_, HS4.out.bel⟩
  have hrow := HS4.out.row
  rw [show ([] : List Int) ++ numsB [8] ++ textB m.name ++ numsB [m.cap, m.recaps] ++ numsB [m.rights.f0, m.rights.f1] = msgB m from by rw [HT.out]; simp only [List.nil_append, List.append_assoc]] at hrow
  exact hrow
end Go.Proofs.Ytpgdmmjbhjbbhaa.En
end
section
namespace Go.Proofs.Ytpgdmmjbhjbbhaa.En
open Go Go.RowKit Go.Proofs.Ytpgdmmjbhjbbhaa.P Go.Proofs.Ytpgdmmjbhjbbhaa.Sp Go.Proofs.Ytpgdmmjbhjbbhaa.Vd Go.Proofs.Ytpgdmmjbhjbbhaa.Wr Go.Proofs.YtpgdmmjbhjbbhaaW.PrintWords Go.Proofs.YtpgdmmjbhjbbhaaW.PrintLast Go.Proofs.YtpgdmmjbhjbbhaaW.PrintMore
set_option linter.unusedVariables false
set_option linter.unusedSimpArgs false
set_option maxHeartbeats 8000000 in
set_option maxRecDepth 100000 in
theorem enc4_calls (m : Msg) (h : isI m.op.a ∧ isI m.op.b) (A : Option Addr) (c : Nat) (w : World) (hr : Kd.C k87 w A m.views.length m.views) (hc : m.views.length ≤ c) (hk : m.kind = 4) (hv : msgV m) :
    Calls Try.prog 16 #[MV m A c] w fun e w' => ∃ v, e = .returned (.tuple #[v, .int .i64 0]) ∧ Kd.R (Kd.int .u8) 5 w' w.heap.size (fun _ => True) v (msgB m) ∧ Below w.heap.size w w' := by
  have HT : Aside0 (msgB m = numsB [4] ++ (textB m.name ++ (numsB [m.cap, m.recaps] ++ (numsB [m.epoch.f0, m.epoch.f1] ++ (numsB [m.rights.f0, m.rights.f1] ++ (numsB [m.held])))))) := ⟨by unfold msgB restB; simp [hk, numsB, pairB, capOf, optB, hasEp, hasRt]⟩
  have HLEN := Aside0.mk (msg_len hv)
  have HV := Aside0.mk hv
  have HR := Aside0.mk hr
  have HC := Aside0.mk hc
  have HI := Aside0.mk h
  clear hv hr hc h
  have HK0 : Aside0 ((MVc m A c)[0]? = some (.int .i64 4)) := ⟨by unfold MVc; rw [hk]; rfl⟩
  have hu33 := Try.underlying33
  have hu23 := Try.underlying23
  have hu25 := Try.underlying25
  have hu27 := Try.underlying27
  have hu29 := Try.underlying29
  obtain ⟨wa, hwa⟩ : ∃ wa, wa = w.alloc (.cells (MVc m A c) 33 (0, 0)) := ⟨_, rfl⟩
  have HWA := Aside0.mk hwa
  have HB : Aside0 (Below w.heap.size w wa) := ⟨by rw [hwa]; exact (Below.refl _ _).alloc (Nat.le_refl _) _⟩
  have BK : Aside0 (wa.heap[w.heap.size]? = some (.cells (MVc m A c) 33 (0, 0))) := ⟨by rw [hwa]; exact heap_alloc_new w _⟩
  clear hwa
  go_enter Try.func16, Try.ntmps16
  unfold MV
  go_upto_region 1 with fail
  rw [← HWA.out]
  go_upto_region 3 with (first | ((with_reducible refine gate_dst (N := 5) rfl ?_); refine wpList_load_row rfl 33 (.tmp 1) rfl w.heap.size (by rfl) 33 (MVc m A c) (0, 0) _ BK.out Try.underlying33 rfl inf33 ?_) | (go_at_call 21; refine (valid_calls m HI.out A c _ (Kd.C_below HR.out HB.out) HC.out).mono ?_; rintro e w0 ⟨rfl, hb⟩; rw [dcd_pos HV.out]; have n0_ := Aside0.mk (below_step HB.out hb); have n1_ := Aside0.mk (blk_keep hb BK.out); clear HB BK hb; have HB := n0_; have BK := n1_; clear n0_ n1_))
  obtain ⟨w1, hw1⟩ : ∃ w1, w1 = w0.alloc (.cells #[.slice none 0 0] 99 (0, 0)) := ⟨_, rfl⟩
  have HW1 := Aside0.mk hw1
  have HS0 : Aside0 (WS w w1 w0.heap.size [] (.slice none 0 0)) := ⟨by rw [hw1]; exact ⟨heap_alloc_new w0 _, HB.out.size, Kd.R_nil _ _ _ _ _, below_alloc HB.out _⟩⟩
  have HBX : Aside0 (w1.heap[w.heap.size]? = some (.cells (MVc m A c) 33 (0, 0))) := ⟨by rw [hw1]; exact blk_keep (al_below w0 _) BK.out⟩
  have HST0 : Aside0 (Stay w1 w1) := ⟨Stay.refl _⟩
  clear hw1
  go_upto_region 4 with fail
  rw [← HW1.out]
  have kz0 : w1.cell? ⟨w.heap.size, 0, none⟩ = some (.int .i64 m.kind) := (box_stay HBX.out (by decide) (by decide) HST0.out 0).trans rfl
  rw [hk] at kz0
  have HB0 : Aside0 ((([] : List Int)).length + (numsB [4]).length ≤ 1099511627776) := ⟨by have h1 := congrArg List.length HT.out; simp only [List.length_append, List.length_nil] at h1 ⊢; have := HLEN.out; omega⟩
  have HL0 : Aside0 (IsL (w1.alloc (.cells #[.int .i64 4] 3 (0, 0))) w1.heap.size [4]) := ⟨heap_alloc_new w1 _⟩
  go_upto_region 5 with (go_at_call 53; refine (nums_calls w _ _ (([] : List Int)) (.slice none 0 0) _ [4] _ _ rfl (HS0.out.below (al_below w1 _)) HL0.out HB0.out (by simp)).mono ?_; rintro e w2 ⟨rfl, v2, hS1, hst⟩; have HS1 := Aside0.mk hS1; have HST1 : Aside0 (Stay w1 w2) := ⟨HST0.out.trans ((Stay.below (al_below w1 _)).trans hst)⟩; clear kz0; clear hS1 hst)
  have kk1 : w2.cell? ⟨w.heap.size, 0, none⟩ = some (.int .i64 4) := (box_stay HBX.out (by decide) (by decide) HST1.out 0).trans HK0.out
  go_upto_region 20 with fail
  clear kk1
  have kz1 : w2.cell? ⟨w.heap.size, 1, none⟩ = some (.string m.name) := (box_stay HBX.out (by decide) (by decide) HST1.out 1).trans rfl
  have HB1 : Aside0 ((([] : List Int) ++ numsB [4]).length + (textB m.name).length ≤ 1099511627776) := ⟨by have h1 := congrArg List.length HT.out; simp only [List.length_append, List.length_nil] at h1 ⊢; have := HLEN.out; omega⟩
  go_upto_region 21 with (go_at_call 57; refine (text_calls w _ _ (([] : List Int) ++ numsB [4]) v2 m.name HS1.out HB1.out).mono ?_; rintro e w3 ⟨rfl, v3, hS1, hst⟩; have HS2 := Aside0.mk hS1; have HST2 : Aside0 (Stay w1 w3) := ⟨HST1.out.trans hst⟩; clear kz1; clear hS1 hst)
  have kk2 : w3.cell? ⟨w.heap.size, 0, none⟩ = some (.int .i64 4) := (box_stay HBX.out (by decide) (by decide) HST2.out 0).trans HK0.out
  go_upto_region 21 with fail
  clear kk2
  have kz2 : w3.cell? ⟨w.heap.size, 2, none⟩ = some (.int .i64 m.cap) := (box_stay HBX.out (by decide) (by decide) HST2.out 2).trans rfl
  have kz3 : w3.cell? ⟨w.heap.size, 3, none⟩ = some (.int .i64 m.recaps) := (box_stay HBX.out (by decide) (by decide) HST2.out 3).trans rfl
  have HB2 : Aside0 ((([] : List Int) ++ numsB [4] ++ textB m.name).length + (numsB [m.cap, m.recaps]).length ≤ 1099511627776) := ⟨by have h1 := congrArg List.length HT.out; simp only [List.length_append, List.length_nil] at h1 ⊢; have := HLEN.out; omega⟩
  have HL2 : Aside0 (IsL (w3.alloc (.cells #[.int .i64 m.cap, .int .i64 m.recaps] 3 (0, 0))) w3.heap.size [m.cap, m.recaps]) := ⟨heap_alloc_new w3 _⟩
  go_upto_region 22 with (go_at_call 53; refine (nums_calls w _ _ (([] : List Int) ++ numsB [4] ++ textB m.name) v3 _ [m.cap, m.recaps] _ _ rfl (HS2.out.below (al_below w3 _)) HL2.out HB2.out (by simp)).mono ?_; rintro e w4 ⟨rfl, v4, hS1, hst⟩; have HS3 := Aside0.mk hS1; have HST3 : Aside0 (Stay w1 w4) := ⟨HST2.out.trans ((Stay.below (al_below w3 _)).trans hst)⟩; clear kz2 kz3; clear hS1 hst)
  have kk3 : w4.cell? ⟨w.heap.size, 0, none⟩ = some (.int .i64 4) := (box_stay HBX.out (by decide) (by decide) HST3.out 0).trans HK0.out
  go_upto_region 28 with fail
  clear kk3
  have kz4 : w4.cell? ⟨w.heap.size, 4, none⟩ = some (.int .i64 m.epoch.f0) := (box_stay HBX.out (by decide) (by decide) HST3.out 4).trans rfl
  have kz5 : w4.cell? ⟨w.heap.size, 5, none⟩ = some (.int .i64 m.epoch.f1) := (box_stay HBX.out (by decide) (by decide) HST3.out 5).trans rfl
  have HB3 : Aside0 ((([] : List Int) ++ numsB [4] ++ textB m.name ++ numsB [m.cap, m.recaps]).length + (numsB [m.epoch.f0, m.epoch.f1]).length ≤ 1099511627776) := ⟨by have h1 := congrArg List.length HT.out; simp only [List.length_append, List.length_nil] at h1 ⊢; have := HLEN.out; omega⟩
  have HL3 : Aside0 (IsL (w4.alloc (.cells #[.int .i64 m.epoch.f0, .int .i64 m.epoch.f1] 3 (0, 0))) w4.heap.size [m.epoch.f0, m.epoch.f1]) := ⟨heap_alloc_new w4 _⟩
  go_upto_region 29 with (go_at_call 53; refine (nums_calls w _ _ (([] : List Int) ++ numsB [4] ++ textB m.name ++ numsB [m.cap, m.recaps]) v4 _ [m.epoch.f0, m.epoch.f1] _ _ rfl (HS3.out.below (al_below w4 _)) HL3.out HB3.out (by simp)).mono ?_; rintro e w5 ⟨rfl, v5, hS1, hst⟩; have HS4 := Aside0.mk hS1; have HST4 : Aside0 (Stay w1 w5) := ⟨HST3.out.trans ((Stay.below (al_below w4 _)).trans hst)⟩; clear kz4 kz5; clear hS1 hst)
  have kk4 : w5.cell? ⟨w.heap.size, 0, none⟩ = some (.int .i64 4) := (box_stay HBX.out (by decide) (by decide) HST4.out 0).trans HK0.out
  go_upto_region 30 with fail
  clear kk4
  have kz8 : w5.cell? ⟨w.heap.size, 8, none⟩ = some (.int .i64 m.rights.f0) := (box_stay HBX.out (by decide) (by decide) HST4.out 8).trans rfl
  have kz9 : w5.cell? ⟨w.heap.size, 9, none⟩ = some (.int .i64 m.rights.f1) := (box_stay HBX.out (by decide) (by decide) HST4.out 9).trans rfl
  have HB4 : Aside0 ((([] : List Int) ++ numsB [4] ++ textB m.name ++ numsB [m.cap, m.recaps] ++ numsB [m.epoch.f0, m.epoch.f1]).length + (numsB [m.rights.f0, m.rights.f1]).length ≤ 1099511627776) := ⟨by have h1 := congrArg List.length HT.out; simp only [List.length_append, List.length_nil] at h1 ⊢; have := HLEN.out; omega⟩
  have HL4 : Aside0 (IsL (w5.alloc (.cells #[.int .i64 m.rights.f0, .int .i64 m.rights.f1] 3 (0, 0))) w5.heap.size [m.rights.f0, m.rights.f1]) := ⟨heap_alloc_new w5 _⟩
  go_upto_region 31 with (go_at_call 53; refine (nums_calls w _ _ (([] : List Int) ++ numsB [4] ++ textB m.name ++ numsB [m.cap, m.recaps] ++ numsB [m.epoch.f0, m.epoch.f1]) v5 _ [m.rights.f0, m.rights.f1] _ _ rfl (HS4.out.below (al_below w5 _)) HL4.out HB4.out (by simp)).mono ?_; rintro e w6 ⟨rfl, v6, hS1, hst⟩; have HS5 := Aside0.mk hS1; have HST5 : Aside0 (Stay w1 w6) := ⟨HST4.out.trans ((Stay.below (al_below w5 _)).trans hst)⟩; clear kz8 kz9; clear hS1 hst)
  have kk5 : w6.cell? ⟨w.heap.size, 0, none⟩ = some (.int .i64 4) := (box_stay HBX.out (by decide) (by decide) HST5.out 0).trans HK0.out
  go_upto_region 32 with fail
  clear kk5
  have kz10 : w6.cell? ⟨w.heap.size, 10, none⟩ = some (.int .i64 m.held) := (box_stay HBX.out (by decide) (by decide) HST5.out 10).trans rfl
  have HB5 : Aside0 ((([] : List Int) ++ numsB [4] ++ textB m.name ++ numsB [m.cap, m.recaps] ++ numsB [m.epoch.f0, m.epoch.f1] ++ numsB [m.rights.f0, m.rights.f1]).length + (numsB [m.held]).length ≤ 1099511627776) := ⟨by have h1 := congrArg List.length HT.out; simp only [List.length_append, List.length_nil] at h1 ⊢; have := HLEN.out; omega⟩
  have HL5 : Aside0 (IsL (w6.alloc (.cells #[.int .i64 m.held] 3 (0, 0))) w6.heap.size [m.held]) := ⟨heap_alloc_new w6 _⟩
  go_upto_region 36 with (go_at_call 53; refine (nums_calls w _ _ (([] : List Int) ++ numsB [4] ++ textB m.name ++ numsB [m.cap, m.recaps] ++ numsB [m.epoch.f0, m.epoch.f1] ++ numsB [m.rights.f0, m.rights.f1]) v6 _ [m.held] _ _ rfl (HS5.out.below (al_below w6 _)) HL5.out HB5.out (by simp)).mono ?_; rintro e w7 ⟨rfl, v7, hS1, hst⟩; have HS6 := Aside0.mk hS1; have HST6 : Aside0 (Stay w1 w7) := ⟨HST5.out.trans ((Stay.below (al_below w6 _)).trans hst)⟩; clear kz10; clear hS1 hst)
  have kk6 : w7.cell? ⟨w.heap.size, 0, none⟩ = some (.int .i64 4) := (box_stay HBX.out (by decide) (by decide) HST6.out 0).trans HK0.out
  go_upto_region 36 with fail
  clear kk6
  obtain ⟨Az, nz, cz, rfl⟩ := R_sl HS6.out.row
  have kw : w7.cell? ⟨w0.heap.size, 0, none⟩ = some (.slice Az nz cz) := (blk_cell HS6.out.blk 0).trans rfl
  go_wp2_with fail
  go_ret2
  refine ⟨.slice Az nz cz, rfl, ?_, HS6.out.bel⟩
  have hrow := HS6.out.row
  rw [show ([] : List Int) ++ numsB [4] ++ textB m.name ++ numsB [m.cap, m.recaps] ++ numsB [m.epoch.f0, m.epoch.f1] ++ numsB [m.rights.f0, m.rights.f1] ++ numsB [m.held] = msgB m from by rw [HT.out]; simp only [List.nil_append, List.append_assoc]] at hrow
  exact hrow
set_option maxHeartbeats 8000000 in
set_option maxRecDepth 100000 in
theorem enc5_calls (m : Msg) (h : isI m.op.a ∧ isI m.op.b) (A : Option Addr) (c : Nat) (w : World) (hr : Kd.C k87 w A m.views.length m.views) (hc : m.views.length ≤ c) (hk : m.kind = 5) (hv : msgV m) :
    Calls Try.prog 16 #[MV m A c] w fun e w' => ∃ v, e = .returned (.tuple #[v, .int .i64 0]) ∧ Kd.R (Kd.int .u8) 5 w' w.heap.size (fun _ => True) v (msgB m) ∧ Below w.heap.size w w' := by
  have HT : Aside0 (msgB m = numsB [5] ++ (textB m.name ++ (numsB [m.cap, m.recaps] ++ (numsB [m.epoch.f0, m.epoch.f1] ++ (numsB [m.rights.f0, m.rights.f1]))))) := ⟨by unfold msgB restB; simp [hk, numsB, pairB, capOf, optB, hasEp, hasRt]⟩
  have HLEN := Aside0.mk (msg_len hv)
  have HV := Aside0.mk hv
  have HR := Aside0.mk hr
  have HC := Aside0.mk hc
  have HI := Aside0.mk h
  clear hv hr hc h
  have HK0 : Aside0 ((MVc m A c)[0]? = some (.int .i64 5)) := ⟨by unfold MVc; rw [hk]; rfl⟩
  have hu33 := Try.underlying33
  have hu23 := Try.underlying23
  have hu25 := Try.underlying25
  have hu27 := Try.underlying27
  have hu29 := Try.underlying29
  obtain ⟨wa, hwa⟩ : ∃ wa, wa = w.alloc (.cells (MVc m A c) 33 (0, 0)) := ⟨_, rfl⟩
  have HWA := Aside0.mk hwa
  have HB : Aside0 (Below w.heap.size w wa) := ⟨by rw [hwa]; exact (Below.refl _ _).alloc (Nat.le_refl _) _⟩
  have BK : Aside0 (wa.heap[w.heap.size]? = some (.cells (MVc m A c) 33 (0, 0))) := ⟨by rw [hwa]; exact heap_alloc_new w _⟩
  clear hwa
  go_enter Try.func16, Try.ntmps16
  unfold MV
  go_upto_region 1 with fail
  rw [← HWA.out]
  go_upto_region 3 with (first | ((with_reducible refine gate_dst (N := 5) rfl ?_); refine wpList_load_row rfl 33 (.tmp 1) rfl w.heap.size (by rfl) 33 (MVc m A c) (0, 0) _ BK.out Try.underlying33 rfl inf33 ?_) | (go_at_call 21; refine (valid_calls m HI.out A c _ (Kd.C_below HR.out HB.out) HC.out).mono ?_; rintro e w0 ⟨rfl, hb⟩; rw [dcd_pos HV.out]; have n0_ := Aside0.mk (below_step HB.out hb); have n1_ := Aside0.mk (blk_keep hb BK.out); clear HB BK hb; have HB := n0_; have BK := n1_; clear n0_ n1_))
  obtain ⟨w1, hw1⟩ : ∃ w1, w1 = w0.alloc (.cells #[.slice none 0 0] 99 (0, 0)) := ⟨_, rfl⟩
  have HW1 := Aside0.mk hw1
  have HS0 : Aside0 (WS w w1 w0.heap.size [] (.slice none 0 0)) := ⟨by rw [hw1]; exact ⟨heap_alloc_new w0 _, HB.out.size, Kd.R_nil _ _ _ _ _, below_alloc HB.out _⟩⟩
  have HBX : Aside0 (w1.heap[w.heap.size]? = some (.cells (MVc m A c) 33 (0, 0))) := ⟨by rw [hw1]; exact blk_keep (al_below w0 _) BK.out⟩
  have HST0 : Aside0 (Stay w1 w1) := ⟨Stay.refl _⟩
  clear hw1
  go_upto_region 4 with fail
  rw [← HW1.out]
  have kz0 : w1.cell? ⟨w.heap.size, 0, none⟩ = some (.int .i64 m.kind) := (box_stay HBX.out (by decide) (by decide) HST0.out 0).trans rfl
  rw [hk] at kz0
  have HB0 : Aside0 ((([] : List Int)).length + (numsB [5]).length ≤ 1099511627776) := ⟨by have h1 := congrArg List.length HT.out; simp only [List.length_append, List.length_nil] at h1 ⊢; have := HLEN.out; omega⟩
  have HL0 : Aside0 (IsL (w1.alloc (.cells #[.int .i64 5] 3 (0, 0))) w1.heap.size [5]) := ⟨heap_alloc_new w1 _⟩
  go_upto_region 5 with (go_at_call 53; refine (nums_calls w _ _ (([] : List Int)) (.slice none 0 0) _ [5] _ _ rfl (HS0.out.below (al_below w1 _)) HL0.out HB0.out (by simp)).mono ?_; rintro e w2 ⟨rfl, v2, hS1, hst⟩; have HS1 := Aside0.mk hS1; have HST1 : Aside0 (Stay w1 w2) := ⟨HST0.out.trans ((Stay.below (al_below w1 _)).trans hst)⟩; clear kz0; clear hS1 hst)
  have kk1 : w2.cell? ⟨w.heap.size, 0, none⟩ = some (.int .i64 5) := (box_stay HBX.out (by decide) (by decide) HST1.out 0).trans HK0.out
  go_upto_region 20 with fail
  clear kk1
  have kz1 : w2.cell? ⟨w.heap.size, 1, none⟩ = some (.string m.name) := (box_stay HBX.out (by decide) (by decide) HST1.out 1).trans rfl
  have HB1 : Aside0 ((([] : List Int) ++ numsB [5]).length + (textB m.name).length ≤ 1099511627776) := ⟨by have h1 := congrArg List.length HT.out; simp only [List.length_append, List.length_nil] at h1 ⊢; have := HLEN.out; omega⟩
  go_upto_region 21 with (go_at_call 57; refine (text_calls w _ _ (([] : List Int) ++ numsB [5]) v2 m.name HS1.out HB1.out).mono ?_; rintro e w3 ⟨rfl, v3, hS1, hst⟩; have HS2 := Aside0.mk hS1; have HST2 : Aside0 (Stay w1 w3) := ⟨HST1.out.trans hst⟩; clear kz1; clear hS1 hst)
  have kk2 : w3.cell? ⟨w.heap.size, 0, none⟩ = some (.int .i64 5) := (box_stay HBX.out (by decide) (by decide) HST2.out 0).trans HK0.out
  go_upto_region 21 with fail
  clear kk2
  have kz2 : w3.cell? ⟨w.heap.size, 2, none⟩ = some (.int .i64 m.cap) := (box_stay HBX.out (by decide) (by decide) HST2.out 2).trans rfl
  have kz3 : w3.cell? ⟨w.heap.size, 3, none⟩ = some (.int .i64 m.recaps) := (box_stay HBX.out (by decide) (by decide) HST2.out 3).trans rfl
  have HB2 : Aside0 ((([] : List Int) ++ numsB [5] ++ textB m.name).length + (numsB [m.cap, m.recaps]).length ≤ 1099511627776) := ⟨by have h1 := congrArg List.length HT.out; simp only [List.length_append, List.length_nil] at h1 ⊢; have := HLEN.out; omega⟩
  have HL2 : Aside0 (IsL (w3.alloc (.cells #[.int .i64 m.cap, .int .i64 m.recaps] 3 (0, 0))) w3.heap.size [m.cap, m.recaps]) := ⟨heap_alloc_new w3 _⟩
  go_upto_region 22 with (go_at_call 53; refine (nums_calls w _ _ (([] : List Int) ++ numsB [5] ++ textB m.name) v3 _ [m.cap, m.recaps] _ _ rfl (HS2.out.below (al_below w3 _)) HL2.out HB2.out (by simp)).mono ?_; rintro e w4 ⟨rfl, v4, hS1, hst⟩; have HS3 := Aside0.mk hS1; have HST3 : Aside0 (Stay w1 w4) := ⟨HST2.out.trans ((Stay.below (al_below w3 _)).trans hst)⟩; clear kz2 kz3; clear hS1 hst)
  have kk3 : w4.cell? ⟨w.heap.size, 0, none⟩ = some (.int .i64 5) := (box_stay HBX.out (by decide) (by decide) HST3.out 0).trans HK0.out
  go_upto_region 28 with fail
  clear kk3
  have kz4 : w4.cell? ⟨w.heap.size, 4, none⟩ = some (.int .i64 m.epoch.f0) := (box_stay HBX.out (by decide) (by decide) HST3.out 4).trans rfl
  have kz5 : w4.cell? ⟨w.heap.size, 5, none⟩ = some (.int .i64 m.epoch.f1) := (box_stay HBX.out (by decide) (by decide) HST3.out 5).trans rfl
  have HB3 : Aside0 ((([] : List Int) ++ numsB [5] ++ textB m.name ++ numsB [m.cap, m.recaps]).length + (numsB [m.epoch.f0, m.epoch.f1]).length ≤ 1099511627776) := ⟨by have h1 := congrArg List.length HT.out; simp only [List.length_append, List.length_nil] at h1 ⊢; have := HLEN.out; omega⟩
  have HL3 : Aside0 (IsL (w4.alloc (.cells #[.int .i64 m.epoch.f0, .int .i64 m.epoch.f1] 3 (0, 0))) w4.heap.size [m.epoch.f0, m.epoch.f1]) := ⟨heap_alloc_new w4 _⟩
  go_upto_region 29 with (go_at_call 53; refine (nums_calls w _ _ (([] : List Int) ++ numsB [5] ++ textB m.name ++ numsB [m.cap, m.recaps]) v4 _ [m.epoch.f0, m.epoch.f1] _ _ rfl (HS3.out.below (al_below w4 _)) HL3.out HB3.out (by simp)).mono ?_; rintro e w5 ⟨rfl, v5, hS1, hst⟩; have HS4 := Aside0.mk hS1; have HST4 : Aside0 (Stay w1 w5) := ⟨HST3.out.trans ((Stay.below (al_below w4 _)).trans hst)⟩; clear kz4 kz5; clear hS1 hst)
  have kk4 : w5.cell? ⟨w.heap.size, 0, none⟩ = some (.int .i64 5) := (box_stay HBX.out (by decide) (by decide) HST4.out 0).trans HK0.out
  go_upto_region 30 with fail
  clear kk4
  have kz8 : w5.cell? ⟨w.heap.size, 8, none⟩ = some (.int .i64 m.rights.f0) := (box_stay HBX.out (by decide) (by decide) HST4.out 8).trans rfl
  have kz9 : w5.cell? ⟨w.heap.size, 9, none⟩ = some (.int .i64 m.rights.f1) := (box_stay HBX.out (by decide) (by decide) HST4.out 9).trans rfl
  have HB4 : Aside0 ((([] : List Int) ++ numsB [5] ++ textB m.name ++ numsB [m.cap, m.recaps] ++ numsB [m.epoch.f0, m.epoch.f1]).length + (numsB [m.rights.f0, m.rights.f1]).length ≤ 1099511627776) := ⟨by have h1 := congrArg List.length HT.out; simp only [List.length_append, List.length_nil] at h1 ⊢; have := HLEN.out; omega⟩
  have HL4 : Aside0 (IsL (w5.alloc (.cells #[.int .i64 m.rights.f0, .int .i64 m.rights.f1] 3 (0, 0))) w5.heap.size [m.rights.f0, m.rights.f1]) := ⟨heap_alloc_new w5 _⟩
  go_upto_region 31 with (go_at_call 53; refine (nums_calls w _ _ (([] : List Int) ++ numsB [5] ++ textB m.name ++ numsB [m.cap, m.recaps] ++ numsB [m.epoch.f0, m.epoch.f1]) v5 _ [m.rights.f0, m.rights.f1] _ _ rfl (HS4.out.below (al_below w5 _)) HL4.out HB4.out (by simp)).mono ?_; rintro e w6 ⟨rfl, v6, hS1, hst⟩; have HS5 := Aside0.mk hS1; have HST5 : Aside0 (Stay w1 w6) := ⟨HST4.out.trans ((Stay.below (al_below w5 _)).trans hst)⟩; clear kz8 kz9; clear hS1 hst)
  have kk5 : w6.cell? ⟨w.heap.size, 0, none⟩ = some (.int .i64 5) := (box_stay HBX.out (by decide) (by decide) HST5.out 0).trans HK0.out
  go_upto_region 36 with fail
  clear kk5
  obtain ⟨Az, nz, cz, rfl⟩ := R_sl HS5.out.row
  have kw : w6.cell? ⟨w0.heap.size, 0, none⟩ = some (.slice Az nz cz) := (blk_cell HS5.out.blk 0).trans rfl
  go_wp2_with fail
  go_ret2
  refine ⟨.slice Az nz cz, rfl, ?_, HS5.out.bel⟩
  have hrow := HS5.out.row
  rw [show ([] : List Int) ++ numsB [5] ++ textB m.name ++ numsB [m.cap, m.recaps] ++ numsB [m.epoch.f0, m.epoch.f1] ++ numsB [m.rights.f0, m.rights.f1] = msgB m from by rw [HT.out]; simp only [List.nil_append, List.append_assoc]] at hrow
  exact hrow
end Go.Proofs.Ytpgdmmjbhjbbhaa.En
end
section
namespace Go.Proofs.Ytpgdmmjbhjbbhaa.En
open Go Go.RowKit Go.Proofs.Ytpgdmmjbhjbbhaa.P Go.Proofs.Ytpgdmmjbhjbbhaa.Sp Go.Proofs.Ytpgdmmjbhjbbhaa.Vd Go.Proofs.Ytpgdmmjbhjbbhaa.Wr Go.Proofs.YtpgdmmjbhjbbhaaW.PrintWords Go.Proofs.YtpgdmmjbhjbbhaaW.PrintLast Go.Proofs.YtpgdmmjbhjbbhaaW.PrintMore
set_option linter.unusedVariables false
set_option linter.unusedSimpArgs false
set_option maxHeartbeats 8000000 in
set_option maxRecDepth 100000 in
theorem enc6_calls (m : Msg) (h : isI m.op.a ∧ isI m.op.b) (A : Option Addr) (c : Nat) (w : World) (hr : Kd.C k87 w A m.views.length m.views) (hc : m.views.length ≤ c) (hk : m.kind = 6) (hv : msgV m) :
    Calls Try.prog 16 #[MV m A c] w fun e w' => ∃ v, e = .returned (.tuple #[v, .int .i64 0]) ∧ Kd.R (Kd.int .u8) 5 w' w.heap.size (fun _ => True) v (msgB m) ∧ Below w.heap.size w w' := by
  have HT : Aside0 (msgB m = numsB [6] ++ (textB m.name ++ (numsB [m.cap, m.recaps] ++ (numsB [m.epoch.f0, m.epoch.f1] ++ (numsB [m.rights.f0, m.rights.f1]))))) := ⟨by unfold msgB restB; simp [hk, numsB, pairB, capOf, optB, hasEp, hasRt]⟩
  have HLEN := Aside0.mk (msg_len hv)
  have HV := Aside0.mk hv
  have HR := Aside0.mk hr
  have HC := Aside0.mk hc
  have HI := Aside0.mk h
  clear hv hr hc h
  have HK0 : Aside0 ((MVc m A c)[0]? = some (.int .i64 6)) := ⟨by unfold MVc; rw [hk]; rfl⟩
  have hu33 := Try.underlying33
  have hu23 := Try.underlying23
  have hu25 := Try.underlying25
  have hu27 := Try.underlying27
  have hu29 := Try.underlying29
  obtain ⟨wa, hwa⟩ : ∃ wa, wa = w.alloc (.cells (MVc m A c) 33 (0, 0)) := ⟨_, rfl⟩
  have HWA := Aside0.mk hwa
  have HB : Aside0 (Below w.heap.size w wa) := ⟨by rw [hwa]; exact (Below.refl _ _).alloc (Nat.le_refl _) _⟩
  have BK : Aside0 (wa.heap[w.heap.size]? = some (.cells (MVc m A c) 33 (0, 0))) := ⟨by rw [hwa]; exact heap_alloc_new w _⟩
  clear hwa
  go_enter Try.func16, Try.ntmps16
  unfold MV
  go_upto_region 1 with fail
  rw [← HWA.out]
  go_upto_region 3 with (first | ((with_reducible refine gate_dst (N := 5) rfl ?_); refine wpList_load_row rfl 33 (.tmp 1) rfl w.heap.size (by rfl) 33 (MVc m A c) (0, 0) _ BK.out Try.underlying33 rfl inf33 ?_) | (go_at_call 21; refine (valid_calls m HI.out A c _ (Kd.C_below HR.out HB.out) HC.out).mono ?_; rintro e w0 ⟨rfl, hb⟩; rw [dcd_pos HV.out]; have n0_ := Aside0.mk (below_step HB.out hb); have n1_ := Aside0.mk (blk_keep hb BK.out); clear HB BK hb; have HB := n0_; have BK := n1_; clear n0_ n1_))
  obtain ⟨w1, hw1⟩ : ∃ w1, w1 = w0.alloc (.cells #[.slice none 0 0] 99 (0, 0)) := ⟨_, rfl⟩
  have HW1 := Aside0.mk hw1
  have HS0 : Aside0 (WS w w1 w0.heap.size [] (.slice none 0 0)) := ⟨by rw [hw1]; exact ⟨heap_alloc_new w0 _, HB.out.size, Kd.R_nil _ _ _ _ _, below_alloc HB.out _⟩⟩
  have HBX : Aside0 (w1.heap[w.heap.size]? = some (.cells (MVc m A c) 33 (0, 0))) := ⟨by rw [hw1]; exact blk_keep (al_below w0 _) BK.out⟩
  have HST0 : Aside0 (Stay w1 w1) := ⟨Stay.refl _⟩
  clear hw1
  go_upto_region 4 with fail
  rw [← HW1.out]
  have kz0 : w1.cell? ⟨w.heap.size, 0, none⟩ = some (.int .i64 m.kind) := (box_stay HBX.out (by decide) (by decide) HST0.out 0).trans rfl
  rw [hk] at kz0
  have HB0 : Aside0 ((([] : List Int)).length + (numsB [6]).length ≤ 1099511627776) := ⟨by have h1 := congrArg List.length HT.out; simp only [List.length_append, List.length_nil] at h1 ⊢; have := HLEN.out; omega⟩
  have HL0 : Aside0 (IsL (w1.alloc (.cells #[.int .i64 6] 3 (0, 0))) w1.heap.size [6]) := ⟨heap_alloc_new w1 _⟩
  go_upto_region 5 with (go_at_call 53; refine (nums_calls w _ _ (([] : List Int)) (.slice none 0 0) _ [6] _ _ rfl (HS0.out.below (al_below w1 _)) HL0.out HB0.out (by simp)).mono ?_; rintro e w2 ⟨rfl, v2, hS1, hst⟩; have HS1 := Aside0.mk hS1; have HST1 : Aside0 (Stay w1 w2) := ⟨HST0.out.trans ((Stay.below (al_below w1 _)).trans hst)⟩; clear kz0; clear hS1 hst)
  have kk1 : w2.cell? ⟨w.heap.size, 0, none⟩ = some (.int .i64 6) := (box_stay HBX.out (by decide) (by decide) HST1.out 0).trans HK0.out
  go_upto_region 20 with fail
  clear kk1
  have kz1 : w2.cell? ⟨w.heap.size, 1, none⟩ = some (.string m.name) := (box_stay HBX.out (by decide) (by decide) HST1.out 1).trans rfl
  have HB1 : Aside0 ((([] : List Int) ++ numsB [6]).length + (textB m.name).length ≤ 1099511627776) := ⟨by have h1 := congrArg List.length HT.out; simp only [List.length_append, List.length_nil] at h1 ⊢; have := HLEN.out; omega⟩
  go_upto_region 21 with (go_at_call 57; refine (text_calls w _ _ (([] : List Int) ++ numsB [6]) v2 m.name HS1.out HB1.out).mono ?_; rintro e w3 ⟨rfl, v3, hS1, hst⟩; have HS2 := Aside0.mk hS1; have HST2 : Aside0 (Stay w1 w3) := ⟨HST1.out.trans hst⟩; clear kz1; clear hS1 hst)
  have kk2 : w3.cell? ⟨w.heap.size, 0, none⟩ = some (.int .i64 6) := (box_stay HBX.out (by decide) (by decide) HST2.out 0).trans HK0.out
  go_upto_region 21 with fail
  clear kk2
  have kz2 : w3.cell? ⟨w.heap.size, 2, none⟩ = some (.int .i64 m.cap) := (box_stay HBX.out (by decide) (by decide) HST2.out 2).trans rfl
  have kz3 : w3.cell? ⟨w.heap.size, 3, none⟩ = some (.int .i64 m.recaps) := (box_stay HBX.out (by decide) (by decide) HST2.out 3).trans rfl
  have HB2 : Aside0 ((([] : List Int) ++ numsB [6] ++ textB m.name).length + (numsB [m.cap, m.recaps]).length ≤ 1099511627776) := ⟨by have h1 := congrArg List.length HT.out; simp only [List.length_append, List.length_nil] at h1 ⊢; have := HLEN.out; omega⟩
  have HL2 : Aside0 (IsL (w3.alloc (.cells #[.int .i64 m.cap, .int .i64 m.recaps] 3 (0, 0))) w3.heap.size [m.cap, m.recaps]) := ⟨heap_alloc_new w3 _⟩
  go_upto_region 22 with (go_at_call 53; refine (nums_calls w _ _ (([] : List Int) ++ numsB [6] ++ textB m.name) v3 _ [m.cap, m.recaps] _ _ rfl (HS2.out.below (al_below w3 _)) HL2.out HB2.out (by simp)).mono ?_; rintro e w4 ⟨rfl, v4, hS1, hst⟩; have HS3 := Aside0.mk hS1; have HST3 : Aside0 (Stay w1 w4) := ⟨HST2.out.trans ((Stay.below (al_below w3 _)).trans hst)⟩; clear kz2 kz3; clear hS1 hst)
  have kk3 : w4.cell? ⟨w.heap.size, 0, none⟩ = some (.int .i64 6) := (box_stay HBX.out (by decide) (by decide) HST3.out 0).trans HK0.out
  go_upto_region 28 with fail
  clear kk3
  have kz4 : w4.cell? ⟨w.heap.size, 4, none⟩ = some (.int .i64 m.epoch.f0) := (box_stay HBX.out (by decide) (by decide) HST3.out 4).trans rfl
  have kz5 : w4.cell? ⟨w.heap.size, 5, none⟩ = some (.int .i64 m.epoch.f1) := (box_stay HBX.out (by decide) (by decide) HST3.out 5).trans rfl
  have HB3 : Aside0 ((([] : List Int) ++ numsB [6] ++ textB m.name ++ numsB [m.cap, m.recaps]).length + (numsB [m.epoch.f0, m.epoch.f1]).length ≤ 1099511627776) := ⟨by have h1 := congrArg List.length HT.out; simp only [List.length_append, List.length_nil] at h1 ⊢; have := HLEN.out; omega⟩
  have HL3 : Aside0 (IsL (w4.alloc (.cells #[.int .i64 m.epoch.f0, .int .i64 m.epoch.f1] 3 (0, 0))) w4.heap.size [m.epoch.f0, m.epoch.f1]) := ⟨heap_alloc_new w4 _⟩
  go_upto_region 29 with (go_at_call 53; refine (nums_calls w _ _ (([] : List Int) ++ numsB [6] ++ textB m.name ++ numsB [m.cap, m.recaps]) v4 _ [m.epoch.f0, m.epoch.f1] _ _ rfl (HS3.out.below (al_below w4 _)) HL3.out HB3.out (by simp)).mono ?_; rintro e w5 ⟨rfl, v5, hS1, hst⟩; have HS4 := Aside0.mk hS1; have HST4 : Aside0 (Stay w1 w5) := ⟨HST3.out.trans ((Stay.below (al_below w4 _)).trans hst)⟩; clear kz4 kz5; clear hS1 hst)
  have kk4 : w5.cell? ⟨w.heap.size, 0, none⟩ = some (.int .i64 6) := (box_stay HBX.out (by decide) (by decide) HST4.out 0).trans HK0.out
  go_upto_region 30 with fail
  clear kk4
  have kz8 : w5.cell? ⟨w.heap.size, 8, none⟩ = some (.int .i64 m.rights.f0) := (box_stay HBX.out (by decide) (by decide) HST4.out 8).trans rfl
  have kz9 : w5.cell? ⟨w.heap.size, 9, none⟩ = some (.int .i64 m.rights.f1) := (box_stay HBX.out (by decide) (by decide) HST4.out 9).trans rfl
  have HB4 : Aside0 ((([] : List Int) ++ numsB [6] ++ textB m.name ++ numsB [m.cap, m.recaps] ++ numsB [m.epoch.f0, m.epoch.f1]).length + (numsB [m.rights.f0, m.rights.f1]).length ≤ 1099511627776) := ⟨by have h1 := congrArg List.length HT.out; simp only [List.length_append, List.length_nil] at h1 ⊢; have := HLEN.out; omega⟩
  have HL4 : Aside0 (IsL (w5.alloc (.cells #[.int .i64 m.rights.f0, .int .i64 m.rights.f1] 3 (0, 0))) w5.heap.size [m.rights.f0, m.rights.f1]) := ⟨heap_alloc_new w5 _⟩
  go_upto_region 31 with (go_at_call 53; refine (nums_calls w _ _ (([] : List Int) ++ numsB [6] ++ textB m.name ++ numsB [m.cap, m.recaps] ++ numsB [m.epoch.f0, m.epoch.f1]) v5 _ [m.rights.f0, m.rights.f1] _ _ rfl (HS4.out.below (al_below w5 _)) HL4.out HB4.out (by simp)).mono ?_; rintro e w6 ⟨rfl, v6, hS1, hst⟩; have HS5 := Aside0.mk hS1; have HST5 : Aside0 (Stay w1 w6) := ⟨HST4.out.trans ((Stay.below (al_below w5 _)).trans hst)⟩; clear kz8 kz9; clear hS1 hst)
  have kk5 : w6.cell? ⟨w.heap.size, 0, none⟩ = some (.int .i64 6) := (box_stay HBX.out (by decide) (by decide) HST5.out 0).trans HK0.out
  go_upto_region 36 with fail
  clear kk5
  obtain ⟨Az, nz, cz, rfl⟩ := R_sl HS5.out.row
  have kw : w6.cell? ⟨w0.heap.size, 0, none⟩ = some (.slice Az nz cz) := (blk_cell HS5.out.blk 0).trans rfl
  go_wp2_with fail
  go_ret2
  refine ⟨.slice Az nz cz, rfl, ?_, HS5.out.bel⟩
  have hrow := HS5.out.row
  rw [show ([] : List Int) ++ numsB [6] ++ textB m.name ++ numsB [m.cap, m.recaps] ++ numsB [m.epoch.f0, m.epoch.f1] ++ numsB [m.rights.f0, m.rights.f1] = msgB m from by rw [HT.out]; simp only [List.nil_append, List.append_assoc]] at hrow
  exact hrow
set_option maxHeartbeats 8000000 in
set_option maxRecDepth 100000 in
theorem enc9_calls (m : Msg) (h : isI m.op.a ∧ isI m.op.b) (A : Option Addr) (c : Nat) (w : World) (hr : Kd.C k87 w A m.views.length m.views) (hc : m.views.length ≤ c) (hk : m.kind = 9) (hv : msgV m) :
    Calls Try.prog 16 #[MV m A c] w fun e w' => ∃ v, e = .returned (.tuple #[v, .int .i64 0]) ∧ Kd.R (Kd.int .u8) 5 w' w.heap.size (fun _ => True) v (msgB m) ∧ Below w.heap.size w w' := by
  have HT : Aside0 (msgB m = numsB [9] ++ (textB m.name ++ (numsB [m.cap, m.recaps] ++ (numsB [m.rights.f0, m.rights.f1])))) := ⟨by unfold msgB restB; simp [hk, numsB, pairB, capOf, optB, hasEp, hasRt]⟩
  have HLEN := Aside0.mk (msg_len hv)
  have HV := Aside0.mk hv
  have HR := Aside0.mk hr
  have HC := Aside0.mk hc
  have HI := Aside0.mk h
  clear hv hr hc h
  have HK0 : Aside0 ((MVc m A c)[0]? = some (.int .i64 9)) := ⟨by unfold MVc; rw [hk]; rfl⟩
  have hu33 := Try.underlying33
  have hu23 := Try.underlying23
  have hu25 := Try.underlying25
  have hu27 := Try.underlying27
  have hu29 := Try.underlying29
  obtain ⟨wa, hwa⟩ : ∃ wa, wa = w.alloc (.cells (MVc m A c) 33 (0, 0)) := ⟨_, rfl⟩
  have HWA := Aside0.mk hwa
  have HB : Aside0 (Below w.heap.size w wa) := ⟨by rw [hwa]; exact (Below.refl _ _).alloc (Nat.le_refl _) _⟩
  have BK : Aside0 (wa.heap[w.heap.size]? = some (.cells (MVc m A c) 33 (0, 0))) := ⟨by rw [hwa]; exact heap_alloc_new w _⟩
  clear hwa
  go_enter Try.func16, Try.ntmps16
  unfold MV
  go_upto_region 1 with fail
  rw [← HWA.out]
  go_upto_region 3 with (first | ((with_reducible refine gate_dst (N := 5) rfl ?_); refine wpList_load_row rfl 33 (.tmp 1) rfl w.heap.size (by rfl) 33 (MVc m A c) (0, 0) _ BK.out Try.underlying33 rfl inf33 ?_) | (go_at_call 21; refine (valid_calls m HI.out A c _ (Kd.C_below HR.out HB.out) HC.out).mono ?_; rintro e w0 ⟨rfl, hb⟩; rw [dcd_pos HV.out]; have n0_ := Aside0.mk (below_step HB.out hb); have n1_ := Aside0.mk (blk_keep hb BK.out); clear HB BK hb; have HB := n0_; have BK := n1_; clear n0_ n1_))
  obtain ⟨w1, hw1⟩ : ∃ w1, w1 = w0.alloc (.cells #[.slice none 0 0] 99 (0, 0)) := ⟨_, rfl⟩
  have HW1 := Aside0.mk hw1
  have HS0 : Aside0 (WS w w1 w0.heap.size [] (.slice none 0 0)) := ⟨by rw [hw1]; exact ⟨heap_alloc_new w0 _, HB.out.size, Kd.R_nil _ _ _ _ _, below_alloc HB.out _⟩⟩
  have HBX : Aside0 (w1.heap[w.heap.size]? = some (.cells (MVc m A c) 33 (0, 0))) := ⟨by rw [hw1]; exact blk_keep (al_below w0 _) BK.out⟩
  have HST0 : Aside0 (Stay w1 w1) := ⟨Stay.refl _⟩
  clear hw1
  go_upto_region 4 with fail
  rw [← HW1.out]
  have kz0 : w1.cell? ⟨w.heap.size, 0, none⟩ = some (.int .i64 m.kind) := (box_stay HBX.out (by decide) (by decide) HST0.out 0).trans rfl
  rw [hk] at kz0
  have HB0 : Aside0 ((([] : List Int)).length + (numsB [9]).length ≤ 1099511627776) := ⟨by have h1 := congrArg List.length HT.out; simp only [List.length_append, List.length_nil] at h1 ⊢; have := HLEN.out; omega⟩
  have HL0 : Aside0 (IsL (w1.alloc (.cells #[.int .i64 9] 3 (0, 0))) w1.heap.size [9]) := ⟨heap_alloc_new w1 _⟩
  go_upto_region 5 with (go_at_call 53; refine (nums_calls w _ _ (([] : List Int)) (.slice none 0 0) _ [9] _ _ rfl (HS0.out.below (al_below w1 _)) HL0.out HB0.out (by simp)).mono ?_; rintro e w2 ⟨rfl, v2, hS1, hst⟩; have HS1 := Aside0.mk hS1; have HST1 : Aside0 (Stay w1 w2) := ⟨HST0.out.trans ((Stay.below (al_below w1 _)).trans hst)⟩; clear kz0; clear hS1 hst)
  have kk1 : w2.cell? ⟨w.heap.size, 0, none⟩ = some (.int .i64 9) := (box_stay HBX.out (by decide) (by decide) HST1.out 0).trans HK0.out
  go_upto_region 20 with fail
  clear kk1
  have kz1 : w2.cell? ⟨w.heap.size, 1, none⟩ = some (.string m.name) := (box_stay HBX.out (by decide) (by decide) HST1.out 1).trans rfl
  have HB1 : Aside0 ((([] : List Int) ++ numsB [9]).length + (textB m.name).length ≤ 1099511627776) := ⟨by have h1 := congrArg List.length HT.out; simp only [List.length_append, List.length_nil] at h1 ⊢; have := HLEN.out; omega⟩
  go_upto_region 21 with (go_at_call 57; refine (text_calls w _ _ (([] : List Int) ++ numsB [9]) v2 m.name HS1.out HB1.out).mono ?_; rintro e w3 ⟨rfl, v3, hS1, hst⟩; have HS2 := Aside0.mk hS1; have HST2 : Aside0 (Stay w1 w3) := ⟨HST1.out.trans hst⟩; clear kz1; clear hS1 hst)
  have kk2 : w3.cell? ⟨w.heap.size, 0, none⟩ = some (.int .i64 9) := (box_stay HBX.out (by decide) (by decide) HST2.out 0).trans HK0.out
  go_upto_region 21 with fail
  clear kk2
  have kz2 : w3.cell? ⟨w.heap.size, 2, none⟩ = some (.int .i64 m.cap) := (box_stay HBX.out (by decide) (by decide) HST2.out 2).trans rfl
  have kz3 : w3.cell? ⟨w.heap.size, 3, none⟩ = some (.int .i64 m.recaps) := (box_stay HBX.out (by decide) (by decide) HST2.out 3).trans rfl
  have HB2 : Aside0 ((([] : List Int) ++ numsB [9] ++ textB m.name).length + (numsB [m.cap, m.recaps]).length ≤ 1099511627776) := ⟨by have h1 := congrArg List.length HT.out; simp only [List.length_append, List.length_nil] at h1 ⊢; have := HLEN.out; omega⟩
  have HL2 : Aside0 (IsL (w3.alloc (.cells #[.int .i64 m.cap, .int .i64 m.recaps] 3 (0, 0))) w3.heap.size [m.cap, m.recaps]) := ⟨heap_alloc_new w3 _⟩
  go_upto_region 22 with (go_at_call 53; refine (nums_calls w _ _ (([] : List Int) ++ numsB [9] ++ textB m.name) v3 _ [m.cap, m.recaps] _ _ rfl (HS2.out.below (al_below w3 _)) HL2.out HB2.out (by simp)).mono ?_; rintro e w4 ⟨rfl, v4, hS1, hst⟩; have HS3 := Aside0.mk hS1; have HST3 : Aside0 (Stay w1 w4) := ⟨HST2.out.trans ((Stay.below (al_below w3 _)).trans hst)⟩; clear kz2 kz3; clear hS1 hst)
  have kk3 : w4.cell? ⟨w.heap.size, 0, none⟩ = some (.int .i64 9) := (box_stay HBX.out (by decide) (by decide) HST3.out 0).trans HK0.out
  go_upto_region 30 with fail
  clear kk3
  have kz8 : w4.cell? ⟨w.heap.size, 8, none⟩ = some (.int .i64 m.rights.f0) := (box_stay HBX.out (by decide) (by decide) HST3.out 8).trans rfl
  have kz9 : w4.cell? ⟨w.heap.size, 9, none⟩ = some (.int .i64 m.rights.f1) := (box_stay HBX.out (by decide) (by decide) HST3.out 9).trans rfl
  have HB3 : Aside0 ((([] : List Int) ++ numsB [9] ++ textB m.name ++ numsB [m.cap, m.recaps]).length + (numsB [m.rights.f0, m.rights.f1]).length ≤ 1099511627776) := ⟨by have h1 := congrArg List.length HT.out; simp only [List.length_append, List.length_nil] at h1 ⊢; have := HLEN.out; omega⟩
  have HL3 : Aside0 (IsL (w4.alloc (.cells #[.int .i64 m.rights.f0, .int .i64 m.rights.f1] 3 (0, 0))) w4.heap.size [m.rights.f0, m.rights.f1]) := ⟨heap_alloc_new w4 _⟩
  go_upto_region 31 with (go_at_call 53; refine (nums_calls w _ _ (([] : List Int) ++ numsB [9] ++ textB m.name ++ numsB [m.cap, m.recaps]) v4 _ [m.rights.f0, m.rights.f1] _ _ rfl (HS3.out.below (al_below w4 _)) HL3.out HB3.out (by simp)).mono ?_; rintro e w5 ⟨rfl, v5, hS1, hst⟩; have HS4 := Aside0.mk hS1; have HST4 : Aside0 (Stay w1 w5) := ⟨HST3.out.trans ((Stay.below (al_below w4 _)).trans hst)⟩; clear kz8 kz9; clear hS1 hst)
  have kk4 : w5.cell? ⟨w.heap.size, 0, none⟩ = some (.int .i64 9) := (box_stay HBX.out (by decide) (by decide) HST4.out 0).trans HK0.out
  go_upto_region 36 with fail
  clear kk4
  obtain ⟨Az, nz, cz, rfl⟩ := R_sl HS4.out.row
  have kw : w5.cell? ⟨w0.heap.size, 0, none⟩ = some (.slice Az nz cz) := (blk_cell HS4.out.blk 0).trans rfl
  go_wp2_with fail
  go_ret2
  refine ⟨.slice Az nz cz, rfl, ?_, HS4.out.bel⟩
  have hrow := HS4.out.row
  rw [show ([] : List Int) ++ numsB [9] ++ textB m.name ++ numsB [m.cap, m.recaps] ++ numsB [m.rights.f0, m.rights.f1] = msgB m from by rw [HT.out]; simp only [List.nil_append, List.append_assoc]] at hrow
  exact hrow
end Go.Proofs.Ytpgdmmjbhjbbhaa.En
end
section
namespace Go.Proofs.Ytpgdmmjbhjbbhaa.En
open Go Go.RowKit Go.Proofs.Ytpgdmmjbhjbbhaa.P Go.Proofs.Ytpgdmmjbhjbbhaa.Sp Go.Proofs.Ytpgdmmjbhjbbhaa.Vd Go.Proofs.Ytpgdmmjbhjbbhaa.Wr Go.Proofs.YtpgdmmjbhjbbhaaW.PrintWords Go.Proofs.YtpgdmmjbhjbbhaaW.PrintLast Go.Proofs.YtpgdmmjbhjbbhaaW.PrintMore
set_option linter.unusedVariables false
set_option linter.unusedSimpArgs false
theorem lay_ok {α : Type} {e : α → List Int} {v : α → Prop} {x : α} (h : v x) : lay e v x = (e x, 0) := by unfold lay; rw [if_pos (dcd_pos h)]
theorem lay_no {α : Type} {e : α → List Int} {v : α → Prop} {x : α} (h : ¬ v x) : lay e v x = ([], 21) := by unfold lay; rw [if_neg (by rw [dcd_neg h]; decide)]
set_option maxHeartbeats 8000000 in
set_option maxRecDepth 100000 in
theorem enc0_calls (m : Msg) (h : isI m.op.a ∧ isI m.op.b) (A : Option Addr) (c : Nat) (w : World) (hr : Kd.C k87 w A m.views.length m.views) (hc : m.views.length ≤ c) (hv : ¬ msgV m) :
    Calls Try.prog 16 #[MV m A c] w fun e w' => e = .returned (.tuple #[.slice none 0 0, .int .i64 21]) ∧ Below w.heap.size w w' := by
  have HV := Aside0.mk hv
  have HR := Aside0.mk hr
  have HC := Aside0.mk hc
  have HI := Aside0.mk h
  clear hv hr hc h
  have hu33 := Try.underlying33
  obtain ⟨wa, hwa⟩ : ∃ wa, wa = w.alloc (.cells (MVc m A c) 33 (0, 0)) := ⟨_, rfl⟩
  have HWA := Aside0.mk hwa
  have HB : Aside0 (Below w.heap.size w wa) := ⟨by rw [hwa]; exact (Below.refl _ _).alloc (Nat.le_refl _) _⟩
  have BK : Aside0 (wa.heap[w.heap.size]? = some (.cells (MVc m A c) 33 (0, 0))) := ⟨by rw [hwa]; exact heap_alloc_new w _⟩
  clear hwa
  go_enter Try.func16, Try.ntmps16
  unfold MV
  go_upto_region 1 with fail
  rw [← HWA.out]
  go_wp2_with (first | ((with_reducible refine gate_dst (N := 5) rfl ?_); refine wpList_load_row rfl 33 (.tmp 1) rfl w.heap.size (by rfl) 33 (MVc m A c) (0, 0) _ BK.out Try.underlying33 rfl inf33 ?_) | (go_at_call 21; refine (valid_calls m HI.out A c _ (Kd.C_below HR.out HB.out) HC.out).mono ?_; rintro e w0 ⟨rfl, hb⟩; rw [dcd_neg HV.out]; have n0_ := Aside0.mk (below_step HB.out hb); clear HB BK hb; have HB := n0_; clear n0_))
  go_ret2
  exact ⟨rfl, HB.out⟩
theorem encode_calls (m : Msg) (h : isI m.op.a ∧ isI m.op.b) (A : Option Addr) (c : Nat) (w : World) (hr : Kd.C k87 w A m.views.length m.views) (hc : m.views.length ≤ c) :
    Calls Try.prog 16 #[MV m A c] w fun e w' => ∃ v, e = .returned (.tuple #[v, .int .i64 (lay msgB msgV m).2]) ∧ Kd.R (Kd.int .u8) 5 w' w.heap.size (fun _ => True) v (lay msgB msgV m).1 ∧ Below w.heap.size w w' := by
  by_cases hv : msgV m
  · rw [lay_ok hv]
    have hs : m.kind = 1 ∨ m.kind = 2 ∨ m.kind = 3 ∨ m.kind = 4 ∨ m.kind = 5 ∨ m.kind = 6 ∨ m.kind = 7 ∨ m.kind = 8 ∨ m.kind = 9 ∨ m.kind = 10 := by have := hv.1; omega
    rcases hs with h1 | h1 | h1 | h1 | h1 | h1 | h1 | h1 | h1 | h1
    · exact enc1_calls m h A c w hr hc h1 hv
    · by_cases hq : capped m.err
      · exact enc2t_calls m h A c w hr hc h1 hv hq
      · exact enc2f_calls m h A c w hr hc h1 hv hq
    · exact enc3_calls m h A c w hr hc h1 hv
    · exact enc4_calls m h A c w hr hc h1 hv
    · exact enc5_calls m h A c w hr hc h1 hv
    · exact enc6_calls m h A c w hr hc h1 hv
    · exact enc7_calls m h A c w hr hc h1 hv
    · exact enc8_calls m h A c w hr hc h1 hv
    · exact enc9_calls m h A c w hr hc h1 hv
    · exact enc10_calls m h A c w hr hc h1 hv
  · rw [lay_no hv]
    refine (enc0_calls m h A c w hr hc hv).mono ?_
    rintro e w' ⟨rfl, hb⟩
    exact ⟨_, rfl, Kd.R_nil _ _ _ _ _, hb⟩
end Go.Proofs.Ytpgdmmjbhjbbhaa.En
end
section
namespace Go.Proofs.Ytpgdmmjbhjbbhaa.En
open Go Go.RowKit Go.Proofs.Ytpgdmmjbhjbbhaa.P Go.Proofs.Ytpgdmmjbhjbbhaa.Sp Go.Proofs.Ytpgdmmjbhjbbhaa.Vd Go.Proofs.Ytpgdmmjbhjbbhaa.Wr Go.Proofs.YtpgdmmjbhjbbhaaW.PrintWords Go.Proofs.YtpgdmmjbhjbbhaaW.PrintLast Go.Proofs.YtpgdmmjbhjbbhaaW.PrintMore
set_option linter.unusedVariables false
set_option linter.unusedSimpArgs false
theorem inf27 : (Try.prog.info? 27).map (·.size) = some 2 := by kernel_rfl
theorem inf29 : (Try.prog.info? 29).map (·.size) = some 4 := by kernel_rfl
theorem below_al2 (w : World) (o p : Obj) : Below w.heap.size w ((w.alloc o).alloc p) := (al_below w o).alloc (by simp) p

set_option maxHeartbeats 8000000 in
set_option maxRecDepth 100000 in
theorem encrep1_calls (r : Rep) (w : World) (h : repV r) :
    Calls Try.prog 34 #[.agg #[.int .i64 r.call.f0, .int .i64 r.call.f1, .int .i64 r.err, .int .i64 r.value]] w fun e w' => ∃ v, e = .returned (.tuple #[v, .int .i64 0]) ∧ Kd.R (Kd.int .u8) 5 w' w.heap.size (fun _ => True) v (repB r) ∧ Below w.heap.size w w' := by
  have hb1 := dcd_pos (p := callV ⟨r.call.f0, r.call.f1⟩) h.1
  have hb2 : bB r.err 0 255 = true := dcd_pos h.2.1
  have HLEN : Aside0 ((pairB r.call).length ≤ 12 ∧ (intB r.err).length ≤ 2 ∧ (signB r.value).length ≤ 10) := ⟨call12 h.1, int2 h.2.1.1 (by have := h.2.1.2; omega), sign10 h.2.2⟩
  have HI := Aside0.mk h.2.2
  clear h
  have hu50 := Try.underlying50
  have hu27 := Try.underlying27
  obtain ⟨wa, hwa⟩ : ∃ wa, wa = w.alloc (.cells #[.int .i64 r.call.f0, .int .i64 r.call.f1, .int .i64 r.err, .int .i64 r.value] 50 (0, 0)) := ⟨_, rfl⟩
  have HWA := Aside0.mk hwa
  have HB : Aside0 (Below w.heap.size w wa) := ⟨by rw [hwa]; exact al_below w _⟩
  have BK1 : Aside0 (wa.heap[w.heap.size]? = some (.cells #[.int .i64 r.call.f0, .int .i64 r.call.f1, .int .i64 r.err, .int .i64 r.value] 50 (0, 0))) := ⟨by rw [hwa]; exact heap_alloc_new w _⟩
  clear hwa
  have kz0 : wa.cell? ⟨w.heap.size, 0, none⟩ = some (.int .i64 r.call.f0) := (blk_cell BK1.out 0).trans rfl
  have kz1 : wa.cell? ⟨w.heap.size, 1, none⟩ = some (.int .i64 r.call.f1) := (blk_cell BK1.out 1).trans rfl
  have kz2 : wa.cell? ⟨w.heap.size, 2, none⟩ = some (.int .i64 r.err) := (blk_cell BK1.out 2).trans rfl
  go_enter Try.func34, Try.ntmps34
  go_upto_region 1 with fail
  rw [← HWA.out]
  go_upto_region 3 with (first | (go_at_call 63; refine (rightCall_calls _ r.call.f0 r.call.f1).mono ?_; rintro e w1 ⟨rfl, hb⟩; have n0_ := Aside0.mk (below_step HB.out hb); have n1_ := Aside0.mk (blk_keep hb BK1.out); clear HB BK1 hb; have HB := n0_; have BK1 := n1_; clear n0_ n1_; rw [hb1]; have kz2 : w1.cell? ⟨w.heap.size, 2, none⟩ = some (.int .i64 r.err) := (blk_cell BK1.out 2).trans rfl) | (go_at_call 66; refine (between_calls _ r.err 0 255).mono ?_; rintro e w0 ⟨rfl, hb⟩; have n0_ := Aside0.mk (below_step HB.out hb); have n1_ := Aside0.mk (blk_keep hb BK1.out); clear HB BK1 hb; have HB := n0_; have BK1 := n1_; clear n0_ n1_; rw [hb2]))
  obtain ⟨w1, hw1⟩ : ∃ w1, w1 = w0.alloc (.cells #[.slice none 0 0] 99 (0, 0)) := ⟨_, rfl⟩
  have HW1 := Aside0.mk hw1
  have HS0 : Aside0 (WS w w1 w0.heap.size [] (.slice none 0 0)) := ⟨by rw [hw1]; exact ⟨heap_alloc_new w0 _, HB.out.size, Kd.R_nil _ _ _ _ _, below_alloc HB.out _⟩⟩
  have HX1 : Aside0 (w1.heap[w.heap.size]? = some (.cells #[.int .i64 r.call.f0, .int .i64 r.call.f1, .int .i64 r.err, .int .i64 r.value] 50 (0, 0))) := ⟨by rw [hw1]; exact blk_keep (al_below w0 _) BK1.out⟩
  clear hw1
  go_upto_region 4 with fail
  rw [← HW1.out]
  have HB0 : Aside0 (([] : List Int).length + (pairB r.call).length ≤ 1099511627776) := ⟨by have := HLEN.out.1; simp only [List.length_nil]; omega⟩
  have ky0 : w1.cell? ⟨w.heap.size, 0, none⟩ = some (.int .i64 r.call.f0) := (blk_cell HX1.out 0).trans rfl
  have ky1 : w1.cell? ⟨w.heap.size, 1, none⟩ = some (.int .i64 r.call.f1) := (blk_cell HX1.out 1).trans rfl
  go_upto_region 5 with (go_at_call 54; refine (call_calls w _ _ [] (.slice none 0 0) r.call HS0.out HB0.out).mono ?_; rintro e w2 ⟨rfl, v2, hS1, hst⟩; have HS1 := Aside0.mk hS1; have HST1 := Aside0.mk hst; clear hS1 hst ky0 ky1)
  have kx2 : w2.cell? ⟨w.heap.size, 2, none⟩ = some (.int .i64 r.err) := (box_stay HX1.out (by decide) (by decide) HST1.out 2).trans rfl
  have HL1 : Aside0 (IsL (w2.alloc (.cells #[.int .i64 r.err] 3 (0, 0))) w2.heap.size [r.err]) := ⟨heap_alloc_new w2 _⟩
  have HB1 : Aside0 (([] ++ pairB r.call).length + (numsB [r.err]).length ≤ 1099511627776) := ⟨by rw [numsB1]; have := HLEN.out; simp only [List.length_append, List.length_nil]; omega⟩
  go_upto_region 6 with (go_at_call 53; refine (nums_calls w _ _ ([] ++ pairB r.call) v2 _ [r.err] _ _ rfl (HS1.out.below (al_below w2 _)) HL1.out HB1.out (by simp)).mono ?_; rintro e w3 ⟨rfl, v3, hS1, hst⟩; rw [numsB1] at hS1; have HS2 := Aside0.mk hS1; have HST2 : Aside0 (Stay w1 w3) := ⟨HST1.out.trans ((Stay.below (al_below w2 _)).trans hst)⟩; clear hS1 hst kx2)
  have kx3 : w3.cell? ⟨w.heap.size, 3, none⟩ = some (.int .i64 r.value) := (box_stay HX1.out (by decide) (by decide) HST2.out 3).trans rfl
  have HB2 : Aside0 (([] ++ pairB r.call ++ intB r.err).length + (signB r.value).length ≤ 1099511627776) := ⟨by have := HLEN.out; simp only [List.length_append, List.length_nil]; omega⟩
  go_upto_region 7 with (go_at_call 85; refine (signed_calls w _ _ ([] ++ pairB r.call ++ intB r.err) v3 r.value HI.out HS2.out HB2.out).mono ?_; rintro e w4 ⟨rfl, v4, hS1, hst⟩; have HS3 := Aside0.mk hS1; clear hS1 hst kx3)
  obtain ⟨Az, nz, cz, rfl⟩ := R_sl HS3.out.row
  have kw : w4.cell? ⟨w0.heap.size, 0, none⟩ = some (.slice Az nz cz) := (blk_cell HS3.out.blk 0).trans rfl
  go_wp2_with fail
  go_ret2
  refine ⟨.slice Az nz cz, rfl, ?_, HS3.out.bel⟩
  have hrow := HS3.out.row
  rw [show [] ++ pairB r.call ++ intB r.err ++ signB r.value = repB r from by simp [repB]] at hrow
  exact hrow
set_option maxHeartbeats 8000000 in
set_option maxRecDepth 100000 in
theorem encrep0_calls (r : Rep) (w : World) (h : ¬ (dcd (callV ⟨r.call.f0, r.call.f1⟩) = true ∧ bB r.err 0 255 = true)) :
    Calls Try.prog 34 #[.agg #[.int .i64 r.call.f0, .int .i64 r.call.f1, .int .i64 r.err, .int .i64 r.value]] w fun e w' => e = .returned (.tuple #[.slice none 0 0, .int .i64 21]) ∧ Below w.heap.size w w' := by
  have hu50 := Try.underlying50
  have hu27 := Try.underlying27
  obtain ⟨wa, hwa⟩ : ∃ wa, wa = w.alloc (.cells #[.int .i64 r.call.f0, .int .i64 r.call.f1, .int .i64 r.err, .int .i64 r.value] 50 (0, 0)) := ⟨_, rfl⟩
  have HWA := Aside0.mk hwa
  have HB : Aside0 (Below w.heap.size w wa) := ⟨by rw [hwa]; exact al_below w _⟩
  have BK1 : Aside0 (wa.heap[w.heap.size]? = some (.cells #[.int .i64 r.call.f0, .int .i64 r.call.f1, .int .i64 r.err, .int .i64 r.value] 50 (0, 0))) := ⟨by rw [hwa]; exact heap_alloc_new w _⟩
  clear hwa
  have kz0 : wa.cell? ⟨w.heap.size, 0, none⟩ = some (.int .i64 r.call.f0) := (blk_cell BK1.out 0).trans rfl
  have kz1 : wa.cell? ⟨w.heap.size, 1, none⟩ = some (.int .i64 r.call.f1) := (blk_cell BK1.out 1).trans rfl
  have kz2 : wa.cell? ⟨w.heap.size, 2, none⟩ = some (.int .i64 r.err) := (blk_cell BK1.out 2).trans rfl
  go_enter Try.func34, Try.ntmps34
  go_upto_region 1 with fail
  rw [← HWA.out]
  by_cases hb1 : dcd (callV ⟨r.call.f0, r.call.f1⟩) = true
  · have hb2 : bB r.err 0 255 = false := by cases hh : bB r.err 0 255 with | false => rfl | true => exact absurd ⟨hb1, hh⟩ h
    clear h
    go_wp2_with (first | (go_at_call 63; refine (rightCall_calls _ r.call.f0 r.call.f1).mono ?_; rintro e w1 ⟨rfl, hb⟩; have n0_ := Aside0.mk (below_step HB.out hb); have n1_ := Aside0.mk (blk_keep hb BK1.out); clear HB BK1 hb; have HB := n0_; have BK1 := n1_; clear n0_ n1_; rw [hb1]; have kz2 : w1.cell? ⟨w.heap.size, 2, none⟩ = some (.int .i64 r.err) := (blk_cell BK1.out 2).trans rfl) | (go_at_call 66; refine (between_calls _ r.err 0 255).mono ?_; rintro e w0 ⟨rfl, hb⟩; have n0_ := Aside0.mk (below_step HB.out hb); have n1_ := Aside0.mk (blk_keep hb BK1.out); clear HB BK1 hb; have HB := n0_; have BK1 := n1_; clear n0_ n1_; rw [hb2]))
    go_ret2
    exact ⟨rfl, HB.out⟩
  · replace hb1 : dcd (callV ⟨r.call.f0, r.call.f1⟩) = false := by cases hh : dcd (callV ⟨r.call.f0, r.call.f1⟩) with | false => rfl | true => exact absurd hh hb1
    clear h
    go_wp2_with (go_at_call 63; refine (rightCall_calls _ r.call.f0 r.call.f1).mono ?_; rintro e w1 ⟨rfl, hb⟩; have n0_ := Aside0.mk (below_step HB.out hb); have n1_ := Aside0.mk (blk_keep hb BK1.out); clear HB BK1 hb; have HB := n0_; have BK1 := n1_; clear n0_ n1_; rw [hb1]; have kz2 : w1.cell? ⟨w.heap.size, 2, none⟩ = some (.int .i64 r.err) := (blk_cell BK1.out 2).trans rfl)
    go_ret2
    exact ⟨rfl, HB.out⟩
theorem encrep_calls (r : Rep) (w : World) (h : isI r.value) :
    Calls Try.prog 34 #[.agg #[.int .i64 r.call.f0, .int .i64 r.call.f1, .int .i64 r.err, .int .i64 r.value]] w fun e w' => ∃ v, e = .returned (.tuple #[v, .int .i64 (lay repB repV r).2]) ∧ Kd.R (Kd.int .u8) 5 w' w.heap.size (fun _ => True) v (lay repB repV r).1 ∧ Below w.heap.size w w' := by
  by_cases hv : repV r
  · rw [lay_ok hv]
    exact encrep1_calls r w hv
  · rw [lay_no hv]
    refine (encrep0_calls r w (fun hh => hv ⟨dcd_iff.mp hh.1, dcd_iff.mp hh.2, h⟩)).mono ?_
    rintro e w' ⟨rfl, hb⟩
    exact ⟨_, rfl, Kd.R_nil _ _ _ _ _, hb⟩
end Go.Proofs.Ytpgdmmjbhjbbhaa.En
end
