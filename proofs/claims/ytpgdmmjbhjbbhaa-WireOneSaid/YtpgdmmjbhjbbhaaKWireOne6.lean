/- texts that the proof needs, laid together by a program of this session. -/
import Derived.Deep.RegionLaw
import Derived.Deep.Cut
import Derived.Laws.Bits64b
import Derived.WalkSmall
import Derived.Test.YtpgdmmjbhjbbhaaKWireOne5
section
namespace Go.Proofs.Ytpgdmmjbhjbbhaa.En
open Go Go.RowKit Go.Proofs.Ytpgdmmjbhjbbhaa.P Go.Proofs.Ytpgdmmjbhjbbhaa.Sp Go.Proofs.Ytpgdmmjbhjbbhaa.Vd Go.Proofs.Ytpgdmmjbhjbbhaa.Wr Go.Proofs.YtpgdmmjbhjbbhaaW.PrintWords Go.Proofs.YtpgdmmjbhjbbhaaW.PrintLast Go.Proofs.YtpgdmmjbhjbbhaaW.PrintMore
set_option linter.unusedVariables false
set_option linter.unusedSimpArgs false
set_option maxHeartbeats 8000000 in
set_option maxRecDepth 100000 in
theorem enc2t_calls (m : Msg) (h : isI m.op.a ∧ isI m.op.b) (A : Option Addr) (c : Nat) (w : World) (hr : Kd.C k87 w A m.views.length m.views) (hc : m.views.length ≤ c) (hk : m.kind = 2) (hv : msgV m) (hq : capped m.err) :
    Calls Try.prog 16 #[MV m A c] w fun e w' => ∃ v, e = .returned (.tuple #[v, .int .i64 0]) ∧ Kd.R (Kd.int .u8) 5 w' w.heap.size (fun _ => True) v (msgB m) ∧ Below w.heap.size w w' := by
  have HT : Aside0 (msgB m = numsB [2] ++ (pairB ⟨m.call.f0, m.call.f1⟩ ++ (textB m.name ++ (numsB [m.err] ++ (numsB [m.cap, m.recaps]))))) := ⟨by unfold msgB restB; simp [hk, numsB, pairB, capOf, optB, hasEp, hasRt, hq]⟩
  have HLEN := Aside0.mk (msg_len hv)
  have HV := Aside0.mk hv
  have HR := Aside0.mk hr
  have HC := Aside0.mk hc
  have HI := Aside0.mk h
  have hcq := dcd_pos hq
  clear hv hr hc h hq
  have HK0 : Aside0 ((MVc m A c)[0]? = some (.int .i64 2)) := ⟨by unfold MVc; rw [hk]; rfl⟩
  have hu33 := Try.underlying33
  have hu23 := Try.underlying23
  have hu25 := Try.underlying25
  have hu27 := Try.underlying27
  have hu29 := Try.underlying29
  obtain ⟨wa, hwa⟩ : ∃ wa, wa = w.alloc (.cells (MVc m A c) 33 (0, 0)) := ⟨_, rfl⟩
  have HWA := Aside0.mk hwa
  have HB : Aside0 (Below w.heap.size w wa) := ⟨by rw [hwa]; exact (Below.refl _ _).alloc (Nat.le_refl _) _⟩
  have BK : Aside0 (wa.heap[w.heap.size]? = some (.cells (MVc m A c) 33 (0, 0))) := ⟨by rw [hwa]; exact heap_alloc_new w _⟩
  clear hwa
  go_enter Try.func16, Try.ntmps16
  unfold MV
  go_upto_region 1 with fail
  rw [← HWA.out]
  go_upto_region 3 with (first | ((with_reducible refine gate_dst (N := 5) rfl ?_); refine wpList_load_row rfl 33 (.tmp 1) rfl w.heap.size (by rfl) 33 (MVc m A c) (0, 0) _ BK.out Try.underlying33 rfl inf33 ?_) | (go_at_call 21; refine (valid_calls m HI.out A c _ (Kd.C_below HR.out HB.out) HC.out).mono ?_; rintro e w0 ⟨rfl, hb⟩; rw [dcd_pos HV.out]; have n0_ := Aside0.mk (below_step HB.out hb); have n1_ := Aside0.mk (blk_keep hb BK.out); clear HB BK hb; have HB := n0_; have BK := n1_; clear n0_ n1_))
  obtain ⟨w1, hw1⟩ : ∃ w1, w1 = w0.alloc (.cells #[.slice none 0 0] 99 (0, 0)) := ⟨_, rfl⟩
  have HW1 := Aside0.mk hw1
  have HS0 : Aside0 (WS w w1 w0.heap.size [] (.slice none 0 0)) := ⟨by rw [hw1]; exact ⟨heap_alloc_new w0 _, HB.out.size, Kd.R_nil _ _ _ _ _, below_alloc HB.out _⟩⟩
  have HBX : Aside0 (w1.heap[w.heap.size]? = some (.cells (MVc m A c) 33 (0, 0))) := ⟨by rw [hw1]; exact blk_keep (al_below w0 _) BK.out⟩
  have HST0 : Aside0 (Stay w1 w1) := ⟨Stay.refl _⟩
  clear hw1
  go_upto_region 4 with fail
  rw [← HW1.out]
  have kz0 : w1.cell? ⟨w.heap.size, 0, none⟩ = some (.int .i64 m.kind) := (box_stay HBX.out (by decide) (by decide) HST0.out 0).trans rfl
  rw [hk] at kz0
  have HB0 : Aside0 ((([] : List Int)).length + (numsB [2]).length ≤ 1099511627776) := ⟨by have h1 := congrArg List.length HT.out; simp only [List.length_append, List.length_nil] at h1 ⊢; have := HLEN.out; omega⟩
  have HL0 : Aside0 (IsL (w1.alloc (.cells #[.int .i64 2] 3 (0, 0))) w1.heap.size [2]) := ⟨heap_alloc_new w1 _⟩
  go_upto_region 5 with (go_at_call 53; refine (nums_calls w _ _ (([] : List Int)) (.slice none 0 0) _ [2] _ _ rfl (HS0.out.below (al_below w1 _)) HL0.out HB0.out (by simp)).mono ?_; rintro e w2 ⟨rfl, v2, hS1, hst⟩; have HS1 := Aside0.mk hS1; have HST1 : Aside0 (Stay w1 w2) := ⟨HST0.out.trans ((Stay.below (al_below w1 _)).trans hst)⟩; clear kz0; clear hS1 hst)
  have kk1 : w2.cell? ⟨w.heap.size, 0, none⟩ = some (.int .i64 2) := (box_stay HBX.out (by decide) (by decide) HST1.out 0).trans HK0.out
  go_upto_region 14 with fail
  clear kk1
  have kz11 : w2.cell? ⟨w.heap.size, 11, none⟩ = some (.int .i64 m.call.f0) := (box_stay HBX.out (by decide) (by decide) HST1.out 11).trans rfl
  have kz12 : w2.cell? ⟨w.heap.size, 12, none⟩ = some (.int .i64 m.call.f1) := (box_stay HBX.out (by decide) (by decide) HST1.out 12).trans rfl
  have HB1 : Aside0 ((([] : List Int) ++ numsB [2]).length + (pairB ⟨m.call.f0, m.call.f1⟩).length ≤ 1099511627776) := ⟨by have h1 := congrArg List.length HT.out; simp only [List.length_append, List.length_nil] at h1 ⊢; have := HLEN.out; omega⟩
  go_upto_region 15 with (go_at_call 54; refine (call_calls w _ _ (([] : List Int) ++ numsB [2]) v2 ⟨m.call.f0, m.call.f1⟩ HS1.out HB1.out).mono ?_; rintro e w3 ⟨rfl, v3, hS1, hst⟩; have HS2 := Aside0.mk hS1; have HST2 : Aside0 (Stay w1 w3) := ⟨HST1.out.trans hst⟩; clear kz11 kz12; clear hS1 hst)
  have kk2 : w3.cell? ⟨w.heap.size, 0, none⟩ = some (.int .i64 2) := (box_stay HBX.out (by decide) (by decide) HST2.out 0).trans HK0.out
  go_upto_region 15 with fail
  clear kk2
  have kz1 : w3.cell? ⟨w.heap.size, 1, none⟩ = some (.string m.name) := (box_stay HBX.out (by decide) (by decide) HST2.out 1).trans rfl
  have HB2 : Aside0 ((([] : List Int) ++ numsB [2] ++ pairB ⟨m.call.f0, m.call.f1⟩).length + (textB m.name).length ≤ 1099511627776) := ⟨by have h1 := congrArg List.length HT.out; simp only [List.length_append, List.length_nil] at h1 ⊢; have := HLEN.out; omega⟩
  go_upto_region 16 with (go_at_call 57; refine (text_calls w _ _ (([] : List Int) ++ numsB [2] ++ pairB ⟨m.call.f0, m.call.f1⟩) v3 m.name HS2.out HB2.out).mono ?_; rintro e w4 ⟨rfl, v4, hS1, hst⟩; have HS3 := Aside0.mk hS1; have HST3 : Aside0 (Stay w1 w4) := ⟨HST2.out.trans hst⟩; clear kz1; clear hS1 hst)
  have kk3 : w4.cell? ⟨w.heap.size, 0, none⟩ = some (.int .i64 2) := (box_stay HBX.out (by decide) (by decide) HST3.out 0).trans HK0.out
  go_upto_region 16 with fail
  clear kk3
  have kz17 : w4.cell? ⟨w.heap.size, 17, none⟩ = some (.int .i64 m.err) := (box_stay HBX.out (by decide) (by decide) HST3.out 17).trans rfl
  have HB3 : Aside0 ((([] : List Int) ++ numsB [2] ++ pairB ⟨m.call.f0, m.call.f1⟩ ++ textB m.name).length + (numsB [m.err]).length ≤ 1099511627776) := ⟨by have h1 := congrArg List.length HT.out; simp only [List.length_append, List.length_nil] at h1 ⊢; have := HLEN.out; omega⟩
  have HL3 : Aside0 (IsL (w4.alloc (.cells #[.int .i64 m.err] 3 (0, 0))) w4.heap.size [m.err]) := ⟨heap_alloc_new w4 _⟩
  go_upto_region 17 with (go_at_call 53; refine (nums_calls w _ _ (([] : List Int) ++ numsB [2] ++ pairB ⟨m.call.f0, m.call.f1⟩ ++ textB m.name) v4 _ [m.err] _ _ rfl (HS3.out.below (al_below w4 _)) HL3.out HB3.out (by simp)).mono ?_; rintro e w5 ⟨rfl, v5, hS1, hst⟩; have HS4 := Aside0.mk hS1; have HST4 : Aside0 (Stay w1 w5) := ⟨HST3.out.trans ((Stay.below (al_below w4 _)).trans hst)⟩; clear kz17; clear hS1 hst)
  have kk4 : w5.cell? ⟨w.heap.size, 0, none⟩ = some (.int .i64 2) := (box_stay HBX.out (by decide) (by decide) HST4.out 0).trans HK0.out
  go_upto_region 17 with fail
  clear kk4
  have kz17 : w5.cell? ⟨w.heap.size, 17, none⟩ = some (.int .i64 m.err) := (box_stay HBX.out (by decide) (by decide) HST4.out 17).trans rfl
  go_upto_region 18 with (go_at_call 58; refine (capped_calls _ _).mono ?_; rintro e w6 ⟨rfl, hb⟩; rw [hcq]; have HST5 : Aside0 (Stay w1 w6) := ⟨HST4.out.trans (Stay.below hb)⟩; have HS5 : Aside0 (WS w w6 w0.heap.size (([] : List Int) ++ numsB [2] ++ pairB ⟨m.call.f0, m.call.f1⟩ ++ textB m.name ++ numsB [m.err]) v5) := ⟨HS4.out.below hb⟩; clear hb kz17)
  have kz2 : w6.cell? ⟨w.heap.size, 2, none⟩ = some (.int .i64 m.cap) := (box_stay HBX.out (by decide) (by decide) HST5.out 2).trans rfl
  have kz3 : w6.cell? ⟨w.heap.size, 3, none⟩ = some (.int .i64 m.recaps) := (box_stay HBX.out (by decide) (by decide) HST5.out 3).trans rfl
  have HB5 : Aside0 ((([] : List Int) ++ numsB [2] ++ pairB ⟨m.call.f0, m.call.f1⟩ ++ textB m.name ++ numsB [m.err]).length + (numsB [m.cap, m.recaps]).length ≤ 1099511627776) := ⟨by have h1 := congrArg List.length HT.out; simp only [List.length_append, List.length_nil] at h1 ⊢; have := HLEN.out; omega⟩
  have HL5 : Aside0 (IsL (w6.alloc (.cells #[.int .i64 m.cap, .int .i64 m.recaps] 3 (0, 0))) w6.heap.size [m.cap, m.recaps]) := ⟨heap_alloc_new w6 _⟩
  go_upto_region 19 with (go_at_call 53; refine (nums_calls w _ _ (([] : List Int) ++ numsB [2] ++ pairB ⟨m.call.f0, m.call.f1⟩ ++ textB m.name ++ numsB [m.err]) v5 _ [m.cap, m.recaps] _ _ rfl (HS5.out.below (al_below w6 _)) HL5.out HB5.out (by simp)).mono ?_; rintro e w7 ⟨rfl, v7, hS1, hst⟩; have HS6 := Aside0.mk hS1; have HST6 : Aside0 (Stay w1 w7) := ⟨HST5.out.trans ((Stay.below (al_below w6 _)).trans hst)⟩; clear kz2 kz3; clear hS1 hst)
  have kk6 : w7.cell? ⟨w.heap.size, 0, none⟩ = some (.int .i64 2) := (box_stay HBX.out (by decide) (by decide) HST6.out 0).trans HK0.out
  go_upto_region 19 with fail
  clear kk6
  obtain ⟨Az, nz, cz, rfl⟩ := R_sl HS6.out.row
  have kw : w7.cell? ⟨w0.heap.size, 0, none⟩ = some (.slice Az nz cz) := (blk_cell HS6.out.blk 0).trans rfl
  go_wp2_with fail
  go_ret2
  refine ⟨.slice Az nz cz, rfl, ?_, HS6.out.bel⟩
  have hrow := HS6.out.row
  rw [show ([] : List Int) ++ numsB [2] ++ pairB ⟨m.call.f0, m.call.f1⟩ ++ textB m.name ++ numsB [m.err] ++ numsB [m.cap, m.recaps] = msgB m from by rw [HT.out]; simp only [List.nil_append, List.append_assoc]] at hrow
  exact hrow
set_option maxHeartbeats 8000000 in
set_option maxRecDepth 100000 in
theorem enc2f_calls (m : Msg) (h : isI m.op.a ∧ isI m.op.b) (A : Option Addr) (c : Nat) (w : World) (hr : Kd.C k87 w A m.views.length m.views) (hc : m.views.length ≤ c) (hk : m.kind = 2) (hv : msgV m) (hq : ¬ capped m.err) :
    Calls Try.prog 16 #[MV m A c] w fun e w' => ∃ v, e = .returned (.tuple #[v, .int .i64 0]) ∧ Kd.R (Kd.int .u8) 5 w' w.heap.size (fun _ => True) v (msgB m) ∧ Below w.heap.size w w' := by
  have HT : Aside0 (msgB m = numsB [2] ++ (pairB ⟨m.call.f0, m.call.f1⟩ ++ (textB m.name ++ (numsB [m.err])))) := ⟨by unfold msgB restB; simp [hk, numsB, pairB, capOf, optB, hasEp, hasRt, hq]⟩
  have HLEN := Aside0.mk (msg_len hv)
  have HV := Aside0.mk hv
  have HR := Aside0.mk hr
  have HC := Aside0.mk hc
  have HI := Aside0.mk h
  have hcq := dcd_neg hq
  clear hv hr hc h hq
  have HK0 : Aside0 ((MVc m A c)[0]? = some (.int .i64 2)) := ⟨by unfold MVc; rw [hk]; rfl⟩
  have hu33 := Try.underlying33
  have hu23 := Try.underlying23
  have hu25 := Try.underlying25
  have hu27 := Try.underlying27
  have hu29 := Try.underlying29
  obtain ⟨wa, hwa⟩ : ∃ wa, wa = w.alloc (.cells (MVc m A c) 33 (0, 0)) := ⟨_, rfl⟩
  have HWA := Aside0.mk hwa
  have HB : Aside0 (Below w.heap.size w wa) := ⟨by rw [hwa]; exact (Below.refl _ _).alloc (Nat.le_refl _) _⟩
  have BK : Aside0 (wa.heap[w.heap.size]? = some (.cells (MVc m A c) 33 (0, 0))) := ⟨by rw [hwa]; exact heap_alloc_new w _⟩
  clear hwa
  go_enter Try.func16, Try.ntmps16
  unfold MV
  go_upto_region 1 with fail
  rw [← HWA.out]
  go_upto_region 3 with (first | ((with_reducible refine gate_dst (N := 5) rfl ?_); refine wpList_load_row rfl 33 (.tmp 1) rfl w.heap.size (by rfl) 33 (MVc m A c) (0, 0) _ BK.out Try.underlying33 rfl inf33 ?_) | (go_at_call 21; refine (valid_calls m HI.out A c _ (Kd.C_below HR.out HB.out) HC.out).mono ?_; rintro e w0 ⟨rfl, hb⟩; rw [dcd_pos HV.out]; have n0_ := Aside0.mk (below_step HB.out hb); have n1_ := Aside0.mk (blk_keep hb BK.out); clear HB BK hb; have HB := n0_; have BK := n1_; clear n0_ n1_))
  obtain ⟨w1, hw1⟩ : ∃ w1, w1 = w0.alloc (.cells #[.slice none 0 0] 99 (0, 0)) := ⟨_, rfl⟩
  have HW1 := Aside0.mk hw1
  have HS0 : Aside0 (WS w w1 w0.heap.size [] (.slice none 0 0)) := ⟨by rw [hw1]; exact ⟨heap_alloc_new w0 _, HB.out.size, Kd.R_nil _ _ _ _ _, below_alloc HB.out _⟩⟩
  have HBX : Aside0 (w1.heap[w.heap.size]? = some (.cells (MVc m A c) 33 (0, 0))) := ⟨by rw [hw1]; exact blk_keep (al_below w0 _) BK.out⟩
  have HST0 : Aside0 (Stay w1 w1) := ⟨Stay.refl _⟩
  clear hw1
  go_upto_region 4 with fail
  rw [← HW1.out]
  have kz0 : w1.cell? ⟨w.heap.size, 0, none⟩ = some (.int .i64 m.kind) := (box_stay HBX.out (by decide) (by decide) HST0.out 0).trans rfl
  rw [hk] at kz0
  have HB0 : Aside0 ((([] : List Int)).length + (numsB [2]).length ≤ 1099511627776) := ⟨by have h1 := congrArg List.length HT.out; simp only [List.length_append, List.length_nil] at h1 ⊢; have := HLEN.out; omega⟩
  have HL0 : Aside0 (IsL (w1.alloc (.cells #[.int .i64 2] 3 (0, 0))) w1.heap.size [2]) := ⟨heap_alloc_new w1 _⟩
  go_upto_region 5 with (go_at_call 53; refine (nums_calls w _ _ (([] : List Int)) (.slice none 0 0) _ [2] _ _ rfl (HS0.out.below (al_below w1 _)) HL0.out HB0.out (by simp)).mono ?_; rintro e w2 ⟨rfl, v2, hS1, hst⟩; have HS1 := Aside0.mk hS1; have HST1 : Aside0 (Stay w1 w2) := ⟨HST0.out.trans ((Stay.below (al_below w1 _)).trans hst)⟩; clear kz0; clear hS1 hst)
  have kk1 : w2.cell? ⟨w.heap.size, 0, none⟩ = some (.int .i64 2) := (box_stay HBX.out (by decide) (by decide) HST1.out 0).trans HK0.out
  go_upto_region 14 with fail
  clear kk1
  have kz11 : w2.cell? ⟨w.heap.size, 11, none⟩ = some (.int .i64 m.call.f0) := (box_stay HBX.out (by decide) (by decide) HST1.out 11).trans rfl
  have kz12 : w2.cell? ⟨w.heap.size, 12, none⟩ = some (.int .i64 m.call.f1) := (box_stay HBX.out (by decide) (by decide) HST1.out 12).trans rfl
  have HB1 : Aside0 ((([] : List Int) ++ numsB [2]).length + (pairB ⟨m.call.f0, m.call.f1⟩).length ≤ 1099511627776) := ⟨by have h1 := congrArg List.length HT.out; simp only [List.length_append, List.length_nil] at h1 ⊢; have := HLEN.out; omega⟩
  go_upto_region 15 with (go_at_call 54; refine (call_calls w _ _ (([] : List Int) ++ numsB [2]) v2 ⟨m.call.f0, m.call.f1⟩ HS1.out HB1.out).mono ?_; rintro e w3 ⟨rfl, v3, hS1, hst⟩; have HS2 := Aside0.mk hS1; have HST2 : Aside0 (Stay w1 w3) := ⟨HST1.out.trans hst⟩; clear kz11 kz12; clear hS1 hst)
  have kk2 : w3.cell? ⟨w.heap.size, 0, none⟩ = some (.int .i64 2) := (box_stay HBX.out (by decide) (by decide) HST2.out 0).trans HK0.out
  go_upto_region 15 with fail
  clear kk2
  have kz1 : w3.cell? ⟨w.heap.size, 1, none⟩ = some (.string m.name) := (box_stay HBX.out (by decide) (by decide) HST2.out 1).trans rfl
  have HB2 : Aside0 ((([] : List Int) ++ numsB [2] ++ pairB ⟨m.call.f0, m.call.f1⟩).length + (textB m.name).length ≤ 1099511627776) := ⟨by have h1 := congrArg List.length HT.out; simp only [List.length_append, List.length_nil] at h1 ⊢; have := HLEN.out; omega⟩
  go_upto_region 16 with (go_at_call 57; refine (text_calls w _ _ (([] : List Int) ++ numsB [2] ++ pairB ⟨m.call.f0, m.call.f1⟩) v3 m.name HS2.out HB2.out).mono ?_; rintro e w4 ⟨rfl, v4, hS1, hst⟩; have HS3 := Aside0.mk hS1; have HST3 : Aside0 (Stay w1 w4) := ⟨HST2.out.trans hst⟩; clear kz1; clear hS1 hst)
  have kk3 : w4.cell? ⟨w.heap.size, 0, none⟩ = some (.int .i64 2) := (box_stay HBX.out (by decide) (by decide) HST3.out 0).trans HK0.out
  go_upto_region 16 with fail
  clear kk3
  have kz17 : w4.cell? ⟨w.heap.size, 17, none⟩ = some (.int .i64 m.err) := (box_stay HBX.out (by decide) (by decide) HST3.out 17).trans rfl
  have HB3 : Aside0 ((([] : List Int) ++ numsB [2] ++ pairB ⟨m.call.f0, m.call.f1⟩ ++ textB m.name).length + (numsB [m.err]).length ≤ 1099511627776) := ⟨by have h1 := congrArg List.length HT.out; simp only [List.length_append, List.length_nil] at h1 ⊢; have := HLEN.out; omega⟩
  have HL3 : Aside0 (IsL (w4.alloc (.cells #[.int .i64 m.err] 3 (0, 0))) w4.heap.size [m.err]) := ⟨heap_alloc_new w4 _⟩
  go_upto_region 17 with (go_at_call 53; refine (nums_calls w _ _ (([] : List Int) ++ numsB [2] ++ pairB ⟨m.call.f0, m.call.f1⟩ ++ textB m.name) v4 _ [m.err] _ _ rfl (HS3.out.below (al_below w4 _)) HL3.out HB3.out (by simp)).mono ?_; rintro e w5 ⟨rfl, v5, hS1, hst⟩; have HS4 := Aside0.mk hS1; have HST4 : Aside0 (Stay w1 w5) := ⟨HST3.out.trans ((Stay.below (al_below w4 _)).trans hst)⟩; clear kz17; clear hS1 hst)
  have kk4 : w5.cell? ⟨w.heap.size, 0, none⟩ = some (.int .i64 2) := (box_stay HBX.out (by decide) (by decide) HST4.out 0).trans HK0.out
  go_upto_region 17 with fail
  clear kk4
  have kz17 : w5.cell? ⟨w.heap.size, 17, none⟩ = some (.int .i64 m.err) := (box_stay HBX.out (by decide) (by decide) HST4.out 17).trans rfl
  go_upto_region 19 with (go_at_call 58; refine (capped_calls _ _).mono ?_; rintro e w6 ⟨rfl, hb⟩; rw [hcq]; have HST5 : Aside0 (Stay w1 w6) := ⟨HST4.out.trans (Stay.below hb)⟩; have HS5 : Aside0 (WS w w6 w0.heap.size (([] : List Int) ++ numsB [2] ++ pairB ⟨m.call.f0, m.call.f1⟩ ++ textB m.name ++ numsB [m.err]) v5) := ⟨HS4.out.below hb⟩; clear hb kz17)
  obtain ⟨Az, nz, cz, rfl⟩ := R_sl HS5.out.row
  have kw : w6.cell? ⟨w0.heap.size, 0, none⟩ = some (.slice Az nz cz) := (blk_cell HS5.out.blk 0).trans rfl
  go_wp2_with fail
  go_ret2
  refine ⟨.slice Az nz cz, rfl, ?_, HS5.out.bel⟩
  have hrow := HS5.out.row
  rw [show ([] : List Int) ++ numsB [2] ++ pairB ⟨m.call.f0, m.call.f1⟩ ++ textB m.name ++ numsB [m.err] = msgB m from by rw [HT.out]; simp only [List.nil_append, List.append_assoc]] at hrow
  exact hrow
set_option maxHeartbeats 8000000 in
set_option maxRecDepth 100000 in
theorem enc7_calls (m : Msg) (h : isI m.op.a ∧ isI m.op.b) (A : Option Addr) (c : Nat) (w : World) (hr : Kd.C k87 w A m.views.length m.views) (hc : m.views.length ≤ c) (hk : m.kind = 7) (hv : msgV m) :
    Calls Try.prog 16 #[MV m A c] w fun e w' => ∃ v, e = .returned (.tuple #[v, .int .i64 0]) ∧ Kd.R (Kd.int .u8) 5 w' w.heap.size (fun _ => True) v (msgB m) ∧ Below w.heap.size w w' := by
  have HT : Aside0 (msgB m = numsB [7] ++ (textB m.name ++ (numsB [m.cap, m.recaps] ++ (numsB [m.epoch.f0, m.epoch.f1] ++ (numsB [m.over.f0, m.over.f1]))))) := ⟨by unfold msgB restB; simp [hk, numsB, pairB, capOf, optB, hasEp, hasRt]⟩
  have HLEN := Aside0.mk (msg_len hv)
  have HV := Aside0.mk hv
  have HR := Aside0.mk hr
  have HC := Aside0.mk hc
  have HI := Aside0.mk h
  clear hv hr hc h
  have HK0 : Aside0 ((MVc m A c)[0]? = some (.int .i64 7)) := ⟨by unfold MVc; rw [hk]; rfl⟩
  have hu33 := Try.underlying33
  have hu23 := Try.underlying23
  have hu25 := Try.underlying25
  have hu27 := Try.underlying27
  have hu29 := Try.underlying29
  obtain ⟨wa, hwa⟩ : ∃ wa, wa = w.alloc (.cells (MVc m A c) 33 (0, 0)) := ⟨_, rfl⟩
  have HWA := Aside0.mk hwa
  have HB : Aside0 (Below w.heap.size w wa) := ⟨by rw [hwa]; exact (Below.refl _ _).alloc (Nat.le_refl _) _⟩
  have BK : Aside0 (wa.heap[w.heap.size]? = some (.cells (MVc m A c) 33 (0, 0))) := ⟨by rw [hwa]; exact heap_alloc_new w _⟩
  clear hwa
  go_enter Try.func16, Try.ntmps16
  unfold MV
  go_upto_region 1 with fail
  rw [← HWA.out]
  go_upto_region 3 with (first | ((with_reducible refine gate_dst (N := 5) rfl ?_); refine wpList_load_row rfl 33 (.tmp 1) rfl w.heap.size (by rfl) 33 (MVc m A c) (0, 0) _ BK.out Try.underlying33 rfl inf33 ?_) | (go_at_call 21; refine (valid_calls m HI.out A c _ (Kd.C_below HR.out HB.out) HC.out).mono ?_; rintro e w0 ⟨rfl, hb⟩; rw [dcd_pos HV.out]; have n0_ := Aside0.mk (below_step HB.out hb); have n1_ := Aside0.mk (blk_keep hb BK.out); clear HB BK hb; have HB := n0_; have BK := n1_; clear n0_ n1_))
  obtain ⟨w1, hw1⟩ : ∃ w1, w1 = w0.alloc (.cells #[.slice none 0 0] 99 (0, 0)) := ⟨_, rfl⟩
  have HW1 := Aside0.mk hw1
  have HS0 : Aside0 (WS w w1 w0.heap.size [] (.slice none 0 0)) := ⟨by rw [hw1]; exact ⟨heap_alloc_new w0 _, HB.out.size, Kd.R_nil _ _ _ _ _, below_alloc HB.out _⟩⟩
  have HBX : Aside0 (w1.heap[w.heap.size]? = some (.cells (MVc m A c) 33 (0, 0))) := ⟨by rw [hw1]; exact blk_keep (al_below w0 _) BK.out⟩
  have HST0 : Aside0 (Stay w1 w1) := ⟨Stay.refl _⟩
  clear hw1
  go_upto_region 4 with fail
  rw [← HW1.out]
  have kz0 : w1.cell? ⟨w.heap.size, 0, none⟩ = some (.int .i64 m.kind) := (box_stay HBX.out (by decide) (by decide) HST0.out 0).trans rfl
  rw [hk] at kz0
  have HB0 : Aside0 ((([] : List Int)).length + (numsB [7]).length ≤ 1099511627776) := ⟨by have h1 := congrArg List.length HT.out; simp only [List.length_append, List.length_nil] at h1 ⊢; have := HLEN.out; omega⟩
  have HL0 : Aside0 (IsL (w1.alloc (.cells #[.int .i64 7] 3 (0, 0))) w1.heap.size [7]) := ⟨heap_alloc_new w1 _⟩
  go_upto_region 5 with (go_at_call 53; refine (nums_calls w _ _ (([] : List Int)) (.slice none 0 0) _ [7] _ _ rfl (HS0.out.below (al_below w1 _)) HL0.out HB0.out (by simp)).mono ?_; rintro e w2 ⟨rfl, v2, hS1, hst⟩; have HS1 := Aside0.mk hS1; have HST1 : Aside0 (Stay w1 w2) := ⟨HST0.out.trans ((Stay.below (al_below w1 _)).trans hst)⟩; clear kz0; clear hS1 hst)
  have kk1 : w2.cell? ⟨w.heap.size, 0, none⟩ = some (.int .i64 7) := (box_stay HBX.out (by decide) (by decide) HST1.out 0).trans HK0.out
  go_upto_region 20 with fail
  clear kk1
  have kz1 : w2.cell? ⟨w.heap.size, 1, none⟩ = some (.string m.name) := (box_stay HBX.out (by decide) (by decide) HST1.out 1).trans rfl
  have HB1 : Aside0 ((([] : List Int) ++ numsB [7]).length + (textB m.name).length ≤ 1099511627776) := ⟨by have h1 := congrArg List.length HT.out; simp only [List.length_append, List.length_nil] at h1 ⊢; have := HLEN.out; omega⟩
  go_upto_region 21 with (go_at_call 57; refine (text_calls w _ _ (([] : List Int) ++ numsB [7]) v2 m.name HS1.out HB1.out).mono ?_; rintro e w3 ⟨rfl, v3, hS1, hst⟩; have HS2 := Aside0.mk hS1; have HST2 : Aside0 (Stay w1 w3) := ⟨HST1.out.trans hst⟩; clear kz1; clear hS1 hst)
  have kk2 : w3.cell? ⟨w.heap.size, 0, none⟩ = some (.int .i64 7) := (box_stay HBX.out (by decide) (by decide) HST2.out 0).trans HK0.out
  go_upto_region 21 with fail
  clear kk2
  have kz2 : w3.cell? ⟨w.heap.size, 2, none⟩ = some (.int .i64 m.cap) := (box_stay HBX.out (by decide) (by decide) HST2.out 2).trans rfl
  have kz3 : w3.cell? ⟨w.heap.size, 3, none⟩ = some (.int .i64 m.recaps) := (box_stay HBX.out (by decide) (by decide) HST2.out 3).trans rfl
  have HB2 : Aside0 ((([] : List Int) ++ numsB [7] ++ textB m.name).length + (numsB [m.cap, m.recaps]).length ≤ 1099511627776) := ⟨by have h1 := congrArg List.length HT.out; simp only [List.length_append, List.length_nil] at h1 ⊢; have := HLEN.out; omega⟩
  have HL2 : Aside0 (IsL (w3.alloc (.cells #[.int .i64 m.cap, .int .i64 m.recaps] 3 (0, 0))) w3.heap.size [m.cap, m.recaps]) := ⟨heap_alloc_new w3 _⟩
  go_upto_region 22 with (go_at_call 53; refine (nums_calls w _ _ (([] : List Int) ++ numsB [7] ++ textB m.name) v3 _ [m.cap, m.recaps] _ _ rfl (HS2.out.below (al_below w3 _)) HL2.out HB2.out (by simp)).mono ?_; rintro e w4 ⟨rfl, v4, hS1, hst⟩; have HS3 := Aside0.mk hS1; have HST3 : Aside0 (Stay w1 w4) := ⟨HST2.out.trans ((Stay.below (al_below w3 _)).trans hst)⟩; clear kz2 kz3; clear hS1 hst)
  have kk3 : w4.cell? ⟨w.heap.size, 0, none⟩ = some (.int .i64 7) := (box_stay HBX.out (by decide) (by decide) HST3.out 0).trans HK0.out
  go_upto_region 28 with fail
  clear kk3
  have kz4 : w4.cell? ⟨w.heap.size, 4, none⟩ = some (.int .i64 m.epoch.f0) := (box_stay HBX.out (by decide) (by decide) HST3.out 4).trans rfl
  have kz5 : w4.cell? ⟨w.heap.size, 5, none⟩ = some (.int .i64 m.epoch.f1) := (box_stay HBX.out (by decide) (by decide) HST3.out 5).trans rfl
  have HB3 : Aside0 ((([] : List Int) ++ numsB [7] ++ textB m.name ++ numsB [m.cap, m.recaps]).length + (numsB [m.epoch.f0, m.epoch.f1]).length ≤ 1099511627776) := ⟨by have h1 := congrArg List.length HT.out; simp only [List.length_append, List.length_nil] at h1 ⊢; have := HLEN.out; omega⟩
  have HL3 : Aside0 (IsL (w4.alloc (.cells #[.int .i64 m.epoch.f0, .int .i64 m.epoch.f1] 3 (0, 0))) w4.heap.size [m.epoch.f0, m.epoch.f1]) := ⟨heap_alloc_new w4 _⟩
  go_upto_region 29 with (go_at_call 53; refine (nums_calls w _ _ (([] : List Int) ++ numsB [7] ++ textB m.name ++ numsB [m.cap, m.recaps]) v4 _ [m.epoch.f0, m.epoch.f1] _ _ rfl (HS3.out.below (al_below w4 _)) HL3.out HB3.out (by simp)).mono ?_; rintro e w5 ⟨rfl, v5, hS1, hst⟩; have HS4 := Aside0.mk hS1; have HST4 : Aside0 (Stay w1 w5) := ⟨HST3.out.trans ((Stay.below (al_below w4 _)).trans hst)⟩; clear kz4 kz5; clear hS1 hst)
  have kk4 : w5.cell? ⟨w.heap.size, 0, none⟩ = some (.int .i64 7) := (box_stay HBX.out (by decide) (by decide) HST4.out 0).trans HK0.out
  go_upto_region 35 with fail
  clear kk4
  have kz6 : w5.cell? ⟨w.heap.size, 6, none⟩ = some (.int .i64 m.over.f0) := (box_stay HBX.out (by decide) (by decide) HST4.out 6).trans rfl
  have kz7 : w5.cell? ⟨w.heap.size, 7, none⟩ = some (.int .i64 m.over.f1) := (box_stay HBX.out (by decide) (by decide) HST4.out 7).trans rfl
  have HB4 : Aside0 ((([] : List Int) ++ numsB [7] ++ textB m.name ++ numsB [m.cap, m.recaps] ++ numsB [m.epoch.f0, m.epoch.f1]).length + (numsB [m.over.f0, m.over.f1]).length ≤ 1099511627776) := ⟨by have h1 := congrArg List.length HT.out; simp only [List.length_append, List.length_nil] at h1 ⊢; have := HLEN.out; omega⟩
  have HL4 : Aside0 (IsL (w5.alloc (.cells #[.int .i64 m.over.f0, .int .i64 m.over.f1] 3 (0, 0))) w5.heap.size [m.over.f0, m.over.f1]) := ⟨heap_alloc_new w5 _⟩
  go_upto_region 36 with (go_at_call 53; refine (nums_calls w _ _ (([] : List Int) ++ numsB [7] ++ textB m.name ++ numsB [m.cap, m.recaps] ++ numsB [m.epoch.f0, m.epoch.f1]) v5 _ [m.over.f0, m.over.f1] _ _ rfl (HS4.out.below (al_below w5 _)) HL4.out HB4.out (by simp)).mono ?_; rintro e w6 ⟨rfl, v6, hS1, hst⟩; have HS5 := Aside0.mk hS1; have HST5 : Aside0 (Stay w1 w6) := ⟨HST4.out.trans ((Stay.below (al_below w5 _)).trans hst)⟩; clear kz6 kz7; clear hS1 hst)
  have kk5 : w6.cell? ⟨w.heap.size, 0, none⟩ = some (.int .i64 7) := (box_stay HBX.out (by decide) (by decide) HST5.out 0).trans HK0.out
  go_upto_region 36 with fail
  clear kk5
  obtain ⟨Az, nz, cz, rfl⟩ := R_sl HS5.out.row
  have kw : w6.cell? ⟨w0.heap.size, 0, none⟩ = some (.slice Az nz cz) := (blk_cell HS5.out.blk 0).trans rfl
  go_wp2_with fail
  go_ret2
  refine ⟨.slice Az nz cz, rfl, ?_, HS5.out.bel⟩
  have hrow := HS5.out.row
  rw [show ([] : List Int) ++ numsB [7] ++ textB m.name ++ numsB [m.cap, m.recaps] ++ numsB [m.epoch.f0, m.epoch.f1] ++ numsB [m.over.f0, m.over.f1] = msgB m from by rw [HT.out]; simp only [List.nil_append, List.append_assoc]] at hrow
  exact hrow
set_option maxHeartbeats 8000000 in
set_option maxRecDepth 100000 in
theorem enc8_calls (m : Msg) (h : isI m.op.a ∧ isI m.op.b) (A : Option Addr) (c : Nat) (w : World) (hr : Kd.C k87 w A m.views.length m.views) (hc : m.views.length ≤ c) (hk : m.kind = 8) (hv : msgV m) :
    Calls Try.prog 16 #[MV m A c] w fun e w' => ∃ v, e = .returned (.tuple #[v, .int .i64 0]) ∧ Kd.R (Kd.int .u8) 5 w' w.heap.size (fun _ => True) v (msgB m) ∧ Below w.heap.size w w' := by
  have HT : Aside0 (msgB m = numsB [8] ++ (textB m.name ++ (numsB [m.cap, m.recaps] ++ (numsB [m.rights.f0, m.rights.f1])))) := ⟨by unfold msgB restB; simp [hk, numsB, pairB, capOf, optB, hasEp, hasRt]⟩
  have HLEN := Aside0.mk (msg_len hv)
  have HV := Aside0.mk hv
  have HR := Aside0.mk hr
  have HC := Aside0.mk hc
  have HI := Aside0.mk h
  clear hv hr hc h
  have HK0 : Aside0 ((MVc m A c)[0]? = some (.int .i64 8)) := ⟨by unfold MVc; rw [hk]; rfl⟩
  have hu33 := Try.underlying33
  have hu23 := Try.underlying23
  have hu25 := Try.underlying25
  have hu27 := Try.underlying27
  have hu29 := Try.underlying29
  obtain ⟨wa, hwa⟩ : ∃ wa, wa = w.alloc (.cells (MVc m A c) 33 (0, 0)) := ⟨_, rfl⟩
  have HWA := Aside0.mk hwa
  have HB : Aside0 (Below w.heap.size w wa) := ⟨by rw [hwa]; exact (Below.refl _ _).alloc (Nat.le_refl _) _⟩
  have BK : Aside0 (wa.heap[w.heap.size]? = some (.cells (MVc m A c) 33 (0, 0))) := ⟨by rw [hwa]; exact heap_alloc_new w _⟩
  clear hwa
  go_enter Try.func16, Try.ntmps16
  unfold MV
  go_upto_region 1 with fail
  rw [← HWA.out]
  go_upto_region 3 with (first | ((with_reducible refine gate_dst (N := 5) rfl ?_); refine wpList_load_row rfl 33 (.tmp 1) rfl w.heap.size (by rfl) 33 (MVc m A c) (0, 0) _ BK.out Try.underlying33 rfl inf33 ?_) | (go_at_call 21; refine (valid_calls m HI.out A c _ (Kd.C_below HR.out HB.out) HC.out).mono ?_; rintro e w0 ⟨rfl, hb⟩; rw [dcd_pos HV.out]; have n0_ := Aside0.mk (below_step HB.out hb); have n1_ := Aside0.mk (blk_keep hb BK.out); clear HB BK hb; have HB := n0_; have BK := n1_; clear n0_ n1_))
  obtain ⟨w1, hw1⟩ : ∃ w1, w1 = w0.alloc (.cells #[.slice none 0 0] 99 (0, 0)) := ⟨_, rfl⟩
  have HW1 := Aside0.mk hw1
  have HS0 : Aside0 (WS w w1 w0.heap.size [] (.slice none 0 0)) := ⟨by rw [hw1]; exact ⟨heap_alloc_new w0 _, HB.out.size, Kd.R_nil _ _ _ _ _, below_alloc HB.out _⟩⟩
  have HBX : Aside0 (w1.heap[w.heap.size]? = some (.cells (MVc m A c) 33 (0, 0))) := ⟨by rw [hw1]; exact blk_keep (al_below w0 _) BK.out⟩
  have HST0 : Aside0 (Stay w1 w1) := ⟨Stay.refl _⟩
  clear hw1
  go_upto_region 4 with fail
  rw [← HW1.out]
  have kz0 : w1.cell? ⟨w.heap.size, 0, none⟩ = some (.int .i64 m.kind) := (box_stay HBX.out (by decide) (by decide) HST0.out 0).trans rfl
  rw [hk] at kz0
  have HB0 : Aside0 ((([] : List Int)).length + (numsB [8]).length ≤ 1099511627776) := ⟨by have h1 := congrArg List.length HT.out; simp only [List.length_append, List.length_nil] at h1 ⊢; have := HLEN.out; omega⟩
  have HL0 : Aside0 (IsL (w1.alloc (.cells #[.int .i64 8] 3 (0, 0))) w1.heap.size [8]) := ⟨heap_alloc_new w1 _⟩
  go_upto_region 5 with (go_at_call 53; refine (nums_calls w _ _ (([] : List Int)) (.slice none 0 0) _ [8] _ _ rfl (HS0.out.below (al_below w1 _)) HL0.out HB0.out (by simp)).mono ?_; rintro e w2 ⟨rfl, v2, hS1, hst⟩; have HS1 := Aside0.mk hS1; have HST1 : Aside0 (Stay w1 w2) := ⟨HST0.out.trans ((Stay.below (al_below w1 _)).trans hst)⟩; clear kz0; clear hS1 hst)
  have kk1 : w2.cell? ⟨w.heap.size, 0, none⟩ = some (.int .i64 8) := (box_stay HBX.out (by decide) (by decide) HST1.out 0).trans HK0.out
  go_upto_region 20 with fail
  clear kk1
  have kz1 : w2.cell? ⟨w.heap.size, 1, none⟩ = some (.string m.name) := (box_stay HBX.out (by decide) (by decide) HST1.out 1).trans rfl
  have HB1 : Aside0 ((([] : List Int) ++ numsB [8]).length + (textB m.name).length ≤ 1099511627776) := ⟨by have h1 := congrArg List.length HT.out; simp only [List.length_append, List.length_nil] at h1 ⊢; have := HLEN.out; omega⟩
  go_upto_region 21 with (go_at_call 57; refine (text_calls w _ _ (([] : List Int) ++ numsB [8]) v2 m.name HS1.out HB1.out).mono ?_; rintro e w3 ⟨rfl, v3, hS1, hst⟩; have HS2 := Aside0.mk hS1; have HST2 : Aside0 (Stay w1 w3) := ⟨HST1.out.trans hst⟩; clear kz1; clear hS1 hst)
  have kk2 : w3.cell? ⟨w.heap.size, 0, none⟩ = some (.int .i64 8) := (box_stay HBX.out (by decide) (by decide) HST2.out 0).trans HK0.out
  go_upto_region 21 with fail
  clear kk2
  have kz2 : w3.cell? ⟨w.heap.size, 2, none⟩ = some (.int .i64 m.cap) := (box_stay HBX.out (by decide) (by decide) HST2.out 2).trans rfl
  have kz3 : w3.cell? ⟨w.heap.size, 3, none⟩ = some (.int .i64 m.recaps) := (box_stay HBX.out (by decide) (by decide) HST2.out 3).trans rfl
  have HB2 : Aside0 ((([] : List Int) ++ numsB [8] ++ textB m.name).length + (numsB [m.cap, m.recaps]).length ≤ 1099511627776) := ⟨by have h1 := congrArg List.length HT.out; simp only [List.length_append, List.length_nil] at h1 ⊢; have := HLEN.out; omega⟩
  have HL2 : Aside0 (IsL (w3.alloc (.cells #[.int .i64 m.cap, .int .i64 m.recaps] 3 (0, 0))) w3.heap.size [m.cap, m.recaps]) := ⟨heap_alloc_new w3 _⟩
  go_upto_region 22 with (go_at_call 53; refine (nums_calls w _ _ (([] : List Int) ++ numsB [8] ++ textB m.name) v3 _ [m.cap, m.recaps] _ _ rfl (HS2.out.below (al_below w3 _)) HL2.out HB2.out (by simp)).mono ?_; rintro e w4 ⟨rfl, v4, hS1, hst⟩; have HS3 := Aside0.mk hS1; have HST3 : Aside0 (Stay w1 w4) := ⟨HST2.out.trans ((Stay.below (al_below w3 _)).trans hst)⟩; clear kz2 kz3; clear hS1 hst)
  have kk3 : w4.cell? ⟨w.heap.size, 0, none⟩ = some (.int .i64 8) := (box_stay HBX.out (by decide) (by decide) HST3.out 0).trans HK0.out
  go_upto_region 30 with fail
  clear kk3
  have kz8 : w4.cell? ⟨w.heap.size, 8, none⟩ = some (.int .i64 m.rights.f0) := (box_stay HBX.out (by decide) (by decide) HST3.out 8).trans rfl
  have kz9 : w4.cell? ⟨w.heap.size, 9, none⟩ = some (.int .i64 m.rights.f1) := (box_stay HBX.out (by decide) (by decide) HST3.out 9).trans rfl
  have HB3 : Aside0 ((([] : List Int) ++ numsB [8] ++ textB m.name ++ numsB [m.cap, m.recaps]).length + (numsB [m.rights.f0, m.rights.f1]).length ≤ 1099511627776) := ⟨by have h1 := congrArg List.length HT.out; simp only [List.length_append, List.length_nil] at h1 ⊢; have := HLEN.out; omega⟩
  have HL3 : Aside0 (IsL (w4.alloc (.cells #[.int .i64 m.rights.f0, .int .i64 m.rights.f1] 3 (0, 0))) w4.heap.size [m.rights.f0, m.rights.f1]) := ⟨heap_alloc_new w4 _⟩
  go_upto_region 31 with (go_at_call 53; refine (nums_calls w _ _ (([] : List Int) ++ numsB [8] ++ textB m.name ++ numsB [m.cap, m.recaps]) v4 _ [m.rights.f0, m.rights.f1] _ _ rfl (HS3.out.below (al_below w4 _)) HL3.out HB3.out (by simp)).mono ?_; rintro e w5 ⟨rfl, v5, hS1, hst⟩; have HS4 := Aside0.mk hS1; have HST4 : Aside0 (Stay w1 w5) := ⟨HST3.out.trans ((Stay.below (al_below w4 _)).trans hst)⟩; clear kz8 kz9; clear hS1 hst)
  have kk4 : w5.cell? ⟨w.heap.size, 0, none⟩ = some (.int .i64 8) := (box_stay HBX.out (by decide) (by decide) HST4.out 0).trans HK0.out
  go_upto_region 36 with fail
  clear kk4
  obtain ⟨Az, nz, cz, rfl⟩ := R_sl HS4.out.row
  have kw : w5.cell? ⟨w0.heap.size, 0, none⟩ = some (.slice Az nz cz) := (blk_cell HS4.out.blk 0).trans rfl
  go_wp2_with fail
  go_ret2
  refine ⟨.slice Az nz cz, rfl, ?_, HS4.out.bel⟩
  have hrow := HS4.out.row
  rw [show ([] : List Int) ++ numsB [8] ++ textB m.name ++ numsB [m.cap, m.recaps] ++ numsB [m.rights.f0, m.rights.f1] = msgB m from by rw [HT.out]; simp only [List.nil_append, List.append_assoc]] at hrow
  exact hrow
end Go.Proofs.Ytpgdmmjbhjbbhaa.En
end
section
namespace Go.Proofs.Ytpgdmmjbhjbbhaa.En
open Go Go.RowKit Go.Proofs.Ytpgdmmjbhjbbhaa.P Go.Proofs.Ytpgdmmjbhjbbhaa.Sp Go.Proofs.Ytpgdmmjbhjbbhaa.Vd Go.Proofs.Ytpgdmmjbhjbbhaa.Wr Go.Proofs.YtpgdmmjbhjbbhaaW.PrintWords Go.Proofs.YtpgdmmjbhjbbhaaW.PrintLast Go.Proofs.YtpgdmmjbhjbbhaaW.PrintMore
set_option linter.unusedVariables false
set_option linter.unusedSimpArgs false
set_option maxHeartbeats 8000000 in
set_option maxRecDepth 100000 in
theorem enc4_calls (m : Msg) (h : isI m.op.a ∧ isI m.op.b) (A : Option Addr) (c : Nat) (w : World) (hr : Kd.C k87 w A m.views.length m.views) (hc : m.views.length ≤ c) (hk : m.kind = 4) (hv : msgV m) :
    Calls Try.prog 16 #[MV m A c] w fun e w' => ∃ v, e = .returned (.tuple #[v, .int .i64 0]) ∧ Kd.R (Kd.int .u8) 5 w' w.heap.size (fun _ => True) v (msgB m) ∧ Below w.heap.size w w' := by
  have HT : Aside0 (msgB m = numsB [4] ++ (textB m.name ++ (numsB [m.cap, m.recaps] ++ (numsB [m.epoch.f0, m.epoch.f1] ++ (numsB [m.rights.f0, m.rights.f1] ++ (numsB [m.held])))))) := ⟨by unfold msgB restB; simp [hk, numsB, pairB, capOf, optB, hasEp, hasRt]⟩
  have HLEN := Aside0.mk (msg_len hv)
  have HV := Aside0.mk hv
  have HR := Aside0.mk hr
  have HC := Aside0.mk hc
  have HI := Aside0.mk h
  clear hv hr hc h
  have HK0 : Aside0 ((MVc m A c)[0]? = some (.int .i64 4)) := ⟨by unfold MVc; rw [hk]; rfl⟩
  have hu33 := Try.underlying33
  have hu23 := Try.underlying23
  have hu25 := Try.underlying25
  have hu27 := Try.underlying27
  have hu29 := Try.underlying29
  obtain ⟨wa, hwa⟩ : ∃ wa, wa = w.alloc (.cells (MVc m A c) 33 (0, 0)) := ⟨_, rfl⟩
  have HWA := Aside0.mk hwa
  have HB : Aside0 (Below w.heap.size w wa) := ⟨by rw [hwa]; exact (Below.refl _ _).alloc (Nat.le_refl _) _⟩
  have BK : Aside0 (wa.heap[w.heap.size]? = some (.cells (MVc m A c) 33 (0, 0))) := ⟨by rw [hwa]; exact heap_alloc_new w _⟩
  clear hwa
  go_enter Try.func16, Try.ntmps16
  unfold MV
  go_upto_region 1 with fail
  rw [← HWA.out]
  go_upto_region 3 with (first | ((with_reducible refine gate_dst (N := 5) rfl ?_); refine wpList_load_row rfl 33 (.tmp 1) rfl w.heap.size (by rfl) 33 (MVc m A c) (0, 0) _ BK.out Try.underlying33 rfl inf33 ?_) | (go_at_call 21; refine (valid_calls m HI.out A c _ (Kd.C_below HR.out HB.out) HC.out).mono ?_; rintro e w0 ⟨rfl, hb⟩; rw [dcd_pos HV.out]; have n0_ := Aside0.mk (below_step HB.out hb); have n1_ := Aside0.mk (blk_keep hb BK.out); clear HB BK hb; have HB := n0_; have BK := n1_; clear n0_ n1_))
  obtain ⟨w1, hw1⟩ : ∃ w1, w1 = w0.alloc (.cells #[.slice none 0 0] 99 (0, 0)) := ⟨_, rfl⟩
  have HW1 := Aside0.mk hw1
  have HS0 : Aside0 (WS w w1 w0.heap.size [] (.slice none 0 0)) := ⟨by rw [hw1]; exact ⟨heap_alloc_new w0 _, HB.out.size, Kd.R_nil _ _ _ _ _, below_alloc HB.out _⟩⟩
  have HBX : Aside0 (w1.heap[w.heap.size]? = some (.cells (MVc m A c) 33 (0, 0))) := ⟨by rw [hw1]; exact blk_keep (al_below w0 _) BK.out⟩
  have HST0 : Aside0 (Stay w1 w1) := ⟨Stay.refl _⟩
  clear hw1
  go_upto_region 4 with fail
  rw [← HW1.out]
  have kz0 : w1.cell? ⟨w.heap.size, 0, none⟩ = some (.int .i64 m.kind) := (box_stay HBX.out (by decide) (by decide) HST0.out 0).trans rfl
  rw [hk] at kz0
  have HB0 : Aside0 ((([] : List Int)).length + (numsB [4]).length ≤ 1099511627776) := ⟨by have h1 := congrArg List.length HT.out; simp only [List.length_append, List.length_nil] at h1 ⊢; have := HLEN.out; omega⟩
  have HL0 : Aside0 (IsL (w1.alloc (.cells #[.int .i64 4] 3 (0, 0))) w1.heap.size [4]) := ⟨heap_alloc_new w1 _⟩
  go_upto_region 5 with (go_at_call 53; refine (nums_calls w _ _ (([] : List Int)) (.slice none 0 0) _ [4] _ _ rfl (HS0.out.below (al_below w1 _)) HL0.out HB0.out (by simp)).mono ?_; rintro e w2 ⟨rfl, v2, hS1, hst⟩; have HS1 := Aside0.mk hS1; have HST1 : Aside0 (Stay w1 w2) := ⟨HST0.out.trans ((Stay.below (al_below w1 _)).trans hst)⟩; clear kz0; clear hS1 hst)
  have kk1 : w2.cell? ⟨w.heap.size, 0, none⟩ = some (.int .i64 4) := (box_stay HBX.out (by decide) (by decide) HST1.out 0).trans HK0.out
  go_upto_region 20 with fail
  clear kk1
  have kz1 : w2.cell? ⟨w.heap.size, 1, none⟩ = some (.string m.name) := (box_stay HBX.out (by decide) (by decide) HST1.out 1).trans rfl
  have HB1 : Aside0 ((([] : List Int) ++ numsB [4]).length + (textB m.name).length ≤ 1099511627776) := ⟨by have h1 := congrArg List.length HT.out; simp only [List.length_append, List.length_nil] at h1 ⊢; have := HLEN.out; omega⟩
  go_upto_region 21 with (go_at_call 57; refine (text_calls w _ _ (([] : List Int) ++ numsB [4]) v2 m.name HS1.out HB1.out).mono ?_; rintro e w3 ⟨rfl, v3, hS1, hst⟩; have HS2 := Aside0.mk hS1; have HST2 : Aside0 (Stay w1 w3) := ⟨HST1.out.trans hst⟩; clear kz1; clear hS1 hst)
  have kk2 : w3.cell? ⟨w.heap.size, 0, none⟩ = some (.int .i64 4) := (box_stay HBX.out (by decide) (by decide) HST2.out 0).trans HK0.out
  go_upto_region 21 with fail
  clear kk2
  have kz2 : w3.cell? ⟨w.heap.size, 2, none⟩ = some (.int .i64 m.cap) := (box_stay HBX.out (by decide) (by decide) HST2.out 2).trans rfl
  have kz3 : w3.cell? ⟨w.heap.size, 3, none⟩ = some (.int .i64 m.recaps) := (box_stay HBX.out (by decide) (by decide) HST2.out 3).trans rfl
  have HB2 : Aside0 ((([] : List Int) ++ numsB [4] ++ textB m.name).length + (numsB [m.cap, m.recaps]).length ≤ 1099511627776) := ⟨by have h1 := congrArg List.length HT.out; simp only [List.length_append, List.length_nil] at h1 ⊢; have := HLEN.out; omega⟩
  have HL2 : Aside0 (IsL (w3.alloc (.cells #[.int .i64 m.cap, .int .i64 m.recaps] 3 (0, 0))) w3.heap.size [m.cap, m.recaps]) := ⟨heap_alloc_new w3 _⟩
  go_upto_region 22 with (go_at_call 53; refine (nums_calls w _ _ (([] : List Int) ++ numsB [4] ++ textB m.name) v3 _ [m.cap, m.recaps] _ _ rfl (HS2.out.below (al_below w3 _)) HL2.out HB2.out (by simp)).mono ?_; rintro e w4 ⟨rfl, v4, hS1, hst⟩; have HS3 := Aside0.mk hS1; have HST3 : Aside0 (Stay w1 w4) := ⟨HST2.out.trans ((Stay.below (al_below w3 _)).trans hst)⟩; clear kz2 kz3; clear hS1 hst)
  have kk3 : w4.cell? ⟨w.heap.size, 0, none⟩ = some (.int .i64 4) := (box_stay HBX.out (by decide) (by decide) HST3.out 0).trans HK0.out
  go_upto_region 28 with fail
  clear kk3
  have kz4 : w4.cell? ⟨w.heap.size, 4, none⟩ = some (.int .i64 m.epoch.f0) := (box_stay HBX.out (by decide) (by decide) HST3.out 4).trans rfl
  have kz5 : w4.cell? ⟨w.heap.size, 5, none⟩ = some (.int .i64 m.epoch.f1) := (box_stay HBX.out (by decide) (by decide) HST3.out 5).trans rfl
  have HB3 : Aside0 ((([] : List Int) ++ numsB [4] ++ textB m.name ++ numsB [m.cap, m.recaps]).length + (numsB [m.epoch.f0, m.epoch.f1]).length ≤ 1099511627776) := ⟨by have h1 := congrArg List.length HT.out; simp only [List.length_append, List.length_nil] at h1 ⊢; have := HLEN.out; omega⟩
  have HL3 : Aside0 (IsL (w4.alloc (.cells #[.int .i64 m.epoch.f0, .int .i64 m.epoch.f1] 3 (0, 0))) w4.heap.size [m.epoch.f0, m.epoch.f1]) := ⟨heap_alloc_new w4 _⟩
  go_upto_region 29 with (go_at_call 53; refine (nums_calls w _ _ (([] : List Int) ++ numsB [4] ++ textB m.name ++ numsB [m.cap, m.recaps]) v4 _ [m.epoch.f0, m.epoch.f1] _ _ rfl (HS3.out.below (al_below w4 _)) HL3.out HB3.out (by simp)).mono ?_; rintro e w5 ⟨rfl, v5, hS1, hst⟩; have HS4 := Aside0.mk hS1; have HST4 : Aside0 (Stay w1 w5) := ⟨HST3.out.trans ((Stay.below (al_below w4 _)).trans hst)⟩; clear kz4 kz5; clear hS1 hst)
  have kk4 : w5.cell? ⟨w.heap.size, 0, none⟩ = some (.int .i64 4) := (box_stay HBX.out (by decide) (by decide) HST4.out 0).trans HK0.out
  go_upto_region 30 with fail
  clear kk4
  have kz8 : w5.cell? ⟨w.heap.size, 8, none⟩ = some (.int .i64 m.rights.f0) := (box_stay HBX.out (by decide) (by decide) HST4.out 8).trans rfl
  have kz9 : w5.cell? ⟨w.heap.size, 9, none⟩ = some (.int .i64 m.rights.f1) := (box_stay HBX.out (by decide) (by decide) HST4.out 9).trans rfl
  have HB4 : Aside0 ((([] : List Int) ++ numsB [4] ++ textB m.name ++ numsB [m.cap, m.recaps] ++ numsB [m.epoch.f0, m.epoch.f1]).length + (numsB [m.rights.f0, m.rights.f1]).length ≤ 1099511627776) := ⟨by have h1 := congrArg List.length HT.out; simp only [List.length_append, List.length_nil] at h1 ⊢; have := HLEN.out; omega⟩
  have HL4 : Aside0 (IsL (w5.alloc (.cells #[.int .i64 m.rights.f0, .int .i64 m.rights.f1] 3 (0, 0))) w5.heap.size [m.rights.f0, m.rights.f1]) := ⟨heap_alloc_new w5 _⟩
  go_upto_region 31 with (go_at_call 53; refine (nums_calls w _ _ (([] : List Int) ++ numsB [4] ++ textB m.name ++ numsB [m.cap, m.recaps] ++ numsB [m.epoch.f0, m.epoch.f1]) v5 _ [m.rights.f0, m.rights.f1] _ _ rfl (HS4.out.below (al_below w5 _)) HL4.out HB4.out (by simp)).mono ?_; rintro e w6 ⟨rfl, v6, hS1, hst⟩; have HS5 := Aside0.mk hS1; have HST5 : Aside0 (Stay w1 w6) := ⟨HST4.out.trans ((Stay.below (al_below w5 _)).trans hst)⟩; clear kz8 kz9; clear hS1 hst)
  have kk5 : w6.cell? ⟨w.heap.size, 0, none⟩ = some (.int .i64 4) := (box_stay HBX.out (by decide) (by decide) HST5.out 0).trans HK0.out
  go_upto_region 32 with fail
  clear kk5
  have kz10 : w6.cell? ⟨w.heap.size, 10, none⟩ = some (.int .i64 m.held) := (box_stay HBX.out (by decide) (by decide) HST5.out 10).trans rfl
  have HB5 : Aside0 ((([] : List Int) ++ numsB [4] ++ textB m.name ++ numsB [m.cap, m.recaps] ++ numsB [m.epoch.f0, m.epoch.f1] ++ numsB [m.rights.f0, m.rights.f1]).length + (numsB [m.held]).length ≤ 1099511627776) := ⟨by have h1 := congrArg List.length HT.out; simp only [List.length_append, List.length_nil] at h1 ⊢; have := HLEN.out; omega⟩
  have HL5 : Aside0 (IsL (w6.alloc (.cells #[.int .i64 m.held] 3 (0, 0))) w6.heap.size [m.held]) := ⟨heap_alloc_new w6 _⟩
  go_upto_region 36 with (go_at_call 53; refine (nums_calls w _ _ (([] : List Int) ++ numsB [4] ++ textB m.name ++ numsB [m.cap, m.recaps] ++ numsB [m.epoch.f0, m.epoch.f1] ++ numsB [m.rights.f0, m.rights.f1]) v6 _ [m.held] _ _ rfl (HS5.out.below (al_below w6 _)) HL5.out HB5.out (by simp)).mono ?_; rintro e w7 ⟨rfl, v7, hS1, hst⟩; have HS6 := Aside0.mk hS1; have HST6 : Aside0 (Stay w1 w7) := ⟨HST5.out.trans ((Stay.below (al_below w6 _)).trans hst)⟩; clear kz10; clear hS1 hst)
  have kk6 : w7.cell? ⟨w.heap.size, 0, none⟩ = some (.int .i64 4) := (box_stay HBX.out (by decide) (by decide) HST6.out 0).trans HK0.out
  go_upto_region 36 with fail
  clear kk6
  obtain ⟨Az, nz, cz, rfl⟩ := R_sl HS6.out.row
  have kw : w7.cell? ⟨w0.heap.size, 0, none⟩ = some (.slice Az nz cz) := (blk_cell HS6.out.blk 0).trans rfl
  go_wp2_with fail
  go_ret2
  refine ⟨.slice Az nz cz, rfl, ?_, HS6.out.bel⟩
  have hrow := HS6.out.row
  rw [show ([] : List Int) ++ numsB [4] ++ textB m.name ++ numsB [m.cap, m.recaps] ++ numsB [m.epoch.f0, m.epoch.f1] ++ numsB [m.rights.f0, m.rights.f1] ++ numsB [m.held] = msgB m from by rw [HT.out]; simp only [List.nil_append, List.append_assoc]] at hrow
  exact hrow
set_option maxHeartbeats 8000000 in
set_option maxRecDepth 100000 in
theorem enc5_calls (m : Msg) (h : isI m.op.a ∧ isI m.op.b) (A : Option Addr) (c : Nat) (w : World) (hr : Kd.C k87 w A m.views.length m.views) (hc : m.views.length ≤ c) (hk : m.kind = 5) (hv : msgV m) :
    Calls Try.prog 16 #[MV m A c] w fun e w' => ∃ v, e = .returned (.tuple #[v, .int .i64 0]) ∧ Kd.R (Kd.int .u8) 5 w' w.heap.size (fun _ => True) v (msgB m) ∧ Below w.heap.size w w' := by
  have HT : Aside0 (msgB m = numsB [5] ++ (textB m.name ++ (numsB [m.cap, m.recaps] ++ (numsB [m.epoch.f0, m.epoch.f1] ++ (numsB [m.rights.f0, m.rights.f1]))))) := ⟨by unfold msgB restB; simp [hk, numsB, pairB, capOf, optB, hasEp, hasRt]⟩
  have HLEN := Aside0.mk (msg_len hv)
  have HV := Aside0.mk hv
  have HR := Aside0.mk hr
  have HC := Aside0.mk hc
  have HI := Aside0.mk h
  clear hv hr hc h
  have HK0 : Aside0 ((MVc m A c)[0]? = some (.int .i64 5)) := ⟨by unfold MVc; rw [hk]; rfl⟩
  have hu33 := Try.underlying33
  have hu23 := Try.underlying23
  have hu25 := Try.underlying25
  have hu27 := Try.underlying27
  have hu29 := Try.underlying29
  obtain ⟨wa, hwa⟩ : ∃ wa, wa = w.alloc (.cells (MVc m A c) 33 (0, 0)) := ⟨_, rfl⟩
  have HWA := Aside0.mk hwa
  have HB : Aside0 (Below w.heap.size w wa) := ⟨by rw [hwa]; exact (Below.refl _ _).alloc (Nat.le_refl _) _⟩
  have BK : Aside0 (wa.heap[w.heap.size]? = some (.cells (MVc m A c) 33 (0, 0))) := ⟨by rw [hwa]; exact heap_alloc_new w _⟩
  clear hwa
  go_enter Try.func16, Try.ntmps16
  unfold MV
  go_upto_region 1 with fail
  rw [← HWA.out]
  go_upto_region 3 with (first | ((with_reducible refine gate_dst (N := 5) rfl ?_); refine wpList_load_row rfl 33 (.tmp 1) rfl w.heap.size (by rfl) 33 (MVc m A c) (0, 0) _ BK.out Try.underlying33 rfl inf33 ?_) | (go_at_call 21; refine (valid_calls m HI.out A c _ (Kd.C_below HR.out HB.out) HC.out).mono ?_; rintro e w0 ⟨rfl, hb⟩; rw [dcd_pos HV.out]; have n0_ := Aside0.mk (below_step HB.out hb); have n1_ := Aside0.mk (blk_keep hb BK.out); clear HB BK hb; have HB := n0_; have BK := n1_; clear n0_ n1_))
  obtain ⟨w1, hw1⟩ : ∃ w1, w1 = w0.alloc (.cells #[.slice none 0 0] 99 (0, 0)) := ⟨_, rfl⟩
  have HW1 := Aside0.mk hw1
  have HS0 : Aside0 (WS w w1 w0.heap.size [] (.slice none 0 0)) := ⟨by rw [hw1]; exact ⟨heap_alloc_new w0 _, HB.out.size, Kd.R_nil _ _ _ _ _, below_alloc HB.out _⟩⟩
  have HBX : Aside0 (w1.heap[w.heap.size]? = some (.cells (MVc m A c) 33 (0, 0))) := ⟨by rw [hw1]; exact blk_keep (al_below w0 _) BK.out⟩
  have HST0 : Aside0 (Stay w1 w1) := ⟨Stay.refl _⟩
  clear hw1
  go_upto_region 4 with fail
  rw [← HW1.out]
  have kz0 : w1.cell? ⟨w.heap.size, 0, none⟩ = some (.int .i64 m.kind) := (box_stay HBX.out (by decide) (by decide) HST0.out 0).trans rfl
  rw [hk] at kz0
  have HB0 : Aside0 ((([] : List Int)).length + (numsB [5]).length ≤ 1099511627776) := ⟨by have h1 := congrArg List.length HT.out; simp only [List.length_append, List.length_nil] at h1 ⊢; have := HLEN.out; omega⟩
  have HL0 : Aside0 (IsL (w1.alloc (.cells #[.int .i64 5] 3 (0, 0))) w1.heap.size [5]) := ⟨heap_alloc_new w1 _⟩
  go_upto_region 5 with (go_at_call 53; refine (nums_calls w _ _ (([] : List Int)) (.slice none 0 0) _ [5] _ _ rfl (HS0.out.below (al_below w1 _)) HL0.out HB0.out (by simp)).mono ?_; rintro e w2 ⟨rfl, v2, hS1, hst⟩; have HS1 := Aside0.mk hS1; have HST1 : Aside0 (Stay w1 w2) := ⟨HST0.out.trans ((Stay.below (al_below w1 _)).trans hst)⟩; clear kz0; clear hS1 hst)
  have kk1 : w2.cell? ⟨w.heap.size, 0, none⟩ = some (.int .i64 5) := (box_stay HBX.out (by decide) (by decide) HST1.out 0).trans HK0.out
  go_upto_region 20 with fail
  clear kk1
  have kz1 : w2.cell? ⟨w.heap.size, 1, none⟩ = some (.string m.name) := (box_stay HBX.out (by decide) (by decide) HST1.out 1).trans rfl
  have HB1 : Aside0 ((([] : List Int) ++ numsB [5]).length + (textB m.name).length ≤ 1099511627776) := ⟨by have h1 := congrArg List.length HT.out; simp only [List.length_append, List.length_nil] at h1 ⊢; have := HLEN.out; omega⟩
  go_upto_region 21 with (go_at_call 57; refine (text_calls w _ _ (([] : List Int) ++ numsB [5]) v2 m.name HS1.out HB1.out).mono ?_; rintro e w3 ⟨rfl, v3, hS1, hst⟩; have HS2 := Aside0.mk hS1; have HST2 : Aside0 (Stay w1 w3) := ⟨HST1.out.trans hst⟩; clear kz1; clear hS1 hst)
  have kk2 : w3.cell? ⟨w.heap.size, 0, none⟩ = some (.int .i64 5) := (box_stay HBX.out (by decide) (by decide) HST2.out 0).trans HK0.out
  go_upto_region 21 with fail
  clear kk2
  have kz2 : w3.cell? ⟨w.heap.size, 2, none⟩ = some (.int .i64 m.cap) := (box_stay HBX.out (by decide) (by decide) HST2.out 2).trans rfl
  have kz3 : w3.cell? ⟨w.heap.size, 3, none⟩ = some (.int .i64 m.recaps) := (box_stay HBX.out (by decide) (by decide) HST2.out 3).trans rfl
  have HB2 : Aside0 ((([] : List Int) ++ numsB [5] ++ textB m.name).length + (numsB [m.cap, m.recaps]).length ≤ 1099511627776) := ⟨by have h1 := congrArg List.length HT.out; simp only [List.length_append, List.length_nil] at h1 ⊢; have := HLEN.out; omega⟩
  have HL2 : Aside0 (IsL (w3.alloc (.cells #[.int .i64 m.cap, .int .i64 m.recaps] 3 (0, 0))) w3.heap.size [m.cap, m.recaps]) := ⟨heap_alloc_new w3 _⟩
  go_upto_region 22 with (go_at_call 53; refine (nums_calls w _ _ (([] : List Int) ++ numsB [5] ++ textB m.name) v3 _ [m.cap, m.recaps] _ _ rfl (HS2.out.below (al_below w3 _)) HL2.out HB2.out (by simp)).mono ?_; rintro e w4 ⟨rfl, v4, hS1, hst⟩; have HS3 := Aside0.mk hS1; have HST3 : Aside0 (Stay w1 w4) := ⟨HST2.out.trans ((Stay.below (al_below w3 _)).trans hst)⟩; clear kz2 kz3; clear hS1 hst)
  have kk3 : w4.cell? ⟨w.heap.size, 0, none⟩ = some (.int .i64 5) := (box_stay HBX.out (by decide) (by decide) HST3.out 0).trans HK0.out
  go_upto_region 28 with fail
  clear kk3
  have kz4 : w4.cell? ⟨w.heap.size, 4, none⟩ = some (.int .i64 m.epoch.f0) := (box_stay HBX.out (by decide) (by decide) HST3.out 4).trans rfl
  have kz5 : w4.cell? ⟨w.heap.size, 5, none⟩ = some (.int .i64 m.epoch.f1) := (box_stay HBX.out (by decide) (by decide) HST3.out 5).trans rfl
  have HB3 : Aside0 ((([] : List Int) ++ numsB [5] ++ textB m.name ++ numsB [m.cap, m.recaps]).length + (numsB [m.epoch.f0, m.epoch.f1]).length ≤ 1099511627776) := ⟨by have h1 := congrArg List.length HT.out; simp only [List.length_append, List.length_nil] at h1 ⊢; have := HLEN.out; omega⟩
  have HL3 : Aside0 (IsL (w4.alloc (.cells #[.int .i64 m.epoch.f0, .int .i64 m.epoch.f1] 3 (0, 0))) w4.heap.size [m.epoch.f0, m.epoch.f1]) := ⟨heap_alloc_new w4 _⟩
  go_upto_region 29 with (go_at_call 53; refine (nums_calls w _ _ (([] : List Int) ++ numsB [5] ++ textB m.name ++ numsB [m.cap, m.recaps]) v4 _ [m.epoch.f0, m.epoch.f1] _ _ rfl (HS3.out.below (al_below w4 _)) HL3.out HB3.out (by simp)).mono ?_; rintro e w5 ⟨rfl, v5, hS1, hst⟩; have HS4 := Aside0.mk hS1; have HST4 : Aside0 (Stay w1 w5) := ⟨HST3.out.trans ((Stay.below (al_below w4 _)).trans hst)⟩; clear kz4 kz5; clear hS1 hst)
  have kk4 : w5.cell? ⟨w.heap.size, 0, none⟩ = some (.int .i64 5) := (box_stay HBX.out (by decide) (by decide) HST4.out 0).trans HK0.out
  go_upto_region 30 with fail
  clear kk4
  have kz8 : w5.cell? ⟨w.heap.size, 8, none⟩ = some (.int .i64 m.rights.f0) := (box_stay HBX.out (by decide) (by decide) HST4.out 8).trans rfl
  have kz9 : w5.cell? ⟨w.heap.size, 9, none⟩ = some (.int .i64 m.rights.f1) := (box_stay HBX.out (by decide) (by decide) HST4.out 9).trans rfl
  have HB4 : Aside0 ((([] : List Int) ++ numsB [5] ++ textB m.name ++ numsB [m.cap, m.recaps] ++ numsB [m.epoch.f0, m.epoch.f1]).length + (numsB [m.rights.f0, m.rights.f1]).length ≤ 1099511627776) := ⟨by have h1 := congrArg List.length HT.out; simp only [List.length_append, List.length_nil] at h1 ⊢; have := HLEN.out; omega⟩
  have HL4 : Aside0 (IsL (w5.alloc (.cells #[.int .i64 m.rights.f0, .int .i64 m.rights.f1] 3 (0, 0))) w5.heap.size [m.rights.f0, m.rights.f1]) := ⟨heap_alloc_new w5 _⟩
  go_upto_region 31 with (go_at_call 53; refine (nums_calls w _ _ (([] : List Int) ++ numsB [5] ++ textB m.name ++ numsB [m.cap, m.recaps] ++ numsB [m.epoch.f0, m.epoch.f1]) v5 _ [m.rights.f0, m.rights.f1] _ _ rfl (HS4.out.below (al_below w5 _)) HL4.out HB4.out (by simp)).mono ?_; rintro e w6 ⟨rfl, v6, hS1, hst⟩; have HS5 := Aside0.mk hS1; have HST5 : Aside0 (Stay w1 w6) := ⟨HST4.out.trans ((Stay.below (al_below w5 _)).trans hst)⟩; clear kz8 kz9; clear hS1 hst)
  have kk5 : w6.cell? ⟨w.heap.size, 0, none⟩ = some (.int .i64 5) := (box_stay HBX.out (by decide) (by decide) HST5.out 0).trans HK0.out
  go_upto_region 36 with fail
  clear kk5
  obtain ⟨Az, nz, cz, rfl⟩ := R_sl HS5.out.row
  have kw : w6.cell? ⟨w0.heap.size, 0, none⟩ = some (.slice Az nz cz) := (blk_cell HS5.out.blk 0).trans rfl
  go_wp2_with fail
  go_ret2
  refine ⟨.slice Az nz cz, rfl, ?_, HS5.out.bel⟩
  have hrow := HS5.out.row
  rw [show ([] : List Int) ++ numsB [5] ++ textB m.name ++ numsB [m.cap, m.recaps] ++ numsB [m.epoch.f0, m.epoch.f1] ++ numsB [m.rights.f0, m.rights.f1] = msgB m from by rw [HT.out]; simp only [List.nil_append, List.append_assoc]] at hrow
  exact hrow
end Go.Proofs.Ytpgdmmjbhjbbhaa.En
end
section
namespace Go.Proofs.Ytpgdmmjbhjbbhaa.En
open Go Go.RowKit Go.Proofs.Ytpgdmmjbhjbbhaa.P Go.Proofs.Ytpgdmmjbhjbbhaa.Sp Go.Proofs.Ytpgdmmjbhjbbhaa.Vd Go.Proofs.Ytpgdmmjbhjbbhaa.Wr Go.Proofs.YtpgdmmjbhjbbhaaW.PrintWords Go.Proofs.YtpgdmmjbhjbbhaaW.PrintLast Go.Proofs.YtpgdmmjbhjbbhaaW.PrintMore
set_option linter.unusedVariables false
set_option linter.unusedSimpArgs false
set_option maxHeartbeats 8000000 in
set_option maxRecDepth 100000 in
theorem enc6_calls (m : Msg) (h : isI m.op.a ∧ isI m.op.b) (A : Option Addr) (c : Nat) (w : World) (hr : Kd.C k87 w A m.views.length m.views) (hc : m.views.length ≤ c) (hk : m.kind = 6) (hv : msgV m) :
    Calls Try.prog 16 #[MV m A c] w fun e w' => ∃ v, e = .returned (.tuple #[v, .int .i64 0]) ∧ Kd.R (Kd.int .u8) 5 w' w.heap.size (fun _ => True) v (msgB m) ∧ Below w.heap.size w w' := by
  have HT : Aside0 (msgB m = numsB [6] ++ (textB m.name ++ (numsB [m.cap, m.recaps] ++ (numsB [m.epoch.f0, m.epoch.f1] ++ (numsB [m.rights.f0, m.rights.f1]))))) := ⟨by unfold msgB restB; simp [hk, numsB, pairB, capOf, optB, hasEp, hasRt]⟩
  have HLEN := Aside0.mk (msg_len hv)
  have HV := Aside0.mk hv
  have HR := Aside0.mk hr
  have HC := Aside0.mk hc
  have HI := Aside0.mk h
  clear hv hr hc h
  have HK0 : Aside0 ((MVc m A c)[0]? = some (.int .i64 6)) := ⟨by unfold MVc; rw [hk]; rfl⟩
  have hu33 := Try.underlying33
  have hu23 := Try.underlying23
  have hu25 := Try.underlying25
  have hu27 := Try.underlying27
  have hu29 := Try.underlying29
  obtain ⟨wa, hwa⟩ : ∃ wa, wa = w.alloc (.cells (MVc m A c) 33 (0, 0)) := ⟨_, rfl⟩
  have HWA := Aside0.mk hwa
  have HB : Aside0 (Below w.heap.size w wa) := ⟨by rw [hwa]; exact (Below.refl _ _).alloc (Nat.le_refl _) _⟩
  have BK : Aside0 (wa.heap[w.heap.size]? = some (.cells (MVc m A c) 33 (0, 0))) := ⟨by rw [hwa]; exact heap_alloc_new w _⟩
  clear hwa
  go_enter Try.func16, Try.ntmps16
  unfold MV
  go_upto_region 1 with fail
  rw [← HWA.out]
  go_upto_region 3 with (first | ((with_reducible refine gate_dst (N := 5) rfl ?_); refine wpList_load_row rfl 33 (.tmp 1) rfl w.heap.size (by rfl) 33 (MVc m A c) (0, 0) _ BK.out Try.underlying33 rfl inf33 ?_) | (go_at_call 21; refine (valid_calls m HI.out A c _ (Kd.C_below HR.out HB.out) HC.out).mono ?_; rintro e w0 ⟨rfl, hb⟩; rw [dcd_pos HV.out]; have n0_ := Aside0.mk (below_step HB.out hb); have n1_ := Aside0.mk (blk_keep hb BK.out); clear HB BK hb; have HB := n0_; have BK := n1_; clear n0_ n1_))
  obtain ⟨w1, hw1⟩ : ∃ w1, w1 = w0.alloc (.cells #[.slice none 0 0] 99 (0, 0)) := ⟨_, rfl⟩
  have HW1 := Aside0.mk hw1
  have HS0 : Aside0 (WS w w1 w0.heap.size [] (.slice none 0 0)) := ⟨by rw [hw1]; exact ⟨heap_alloc_new w0 _, HB.out.size, Kd.R_nil _ _ _ _ _, below_alloc HB.out _⟩⟩
  have HBX : Aside0 (w1.heap[w.heap.size]? = some (.cells (MVc m A c) 33 (0, 0))) := ⟨by rw [hw1]; exact blk_keep (al_below w0 _) BK.out⟩
  have HST0 : Aside0 (Stay w1 w1) := ⟨Stay.refl _⟩
  clear hw1
  go_upto_region 4 with fail
  rw [← HW1.out]
  have kz0 : w1.cell? ⟨w.heap.size, 0, none⟩ = some (.int .i64 m.kind) := (box_stay HBX.out (by decide) (by decide) HST0.out 0).trans rfl
  rw [hk] at kz0
  have HB0 : Aside0 ((([] : List Int)).length + (numsB [6]).length ≤ 1099511627776) := ⟨by have h1 := congrArg List.length HT.out; simp only [List.length_append, List.length_nil] at h1 ⊢; have := HLEN.out; omega⟩
  have HL0 : Aside0 (IsL (w1.alloc (.cells #[.int .i64 6] 3 (0, 0))) w1.heap.size [6]) := ⟨heap_alloc_new w1 _⟩
  go_upto_region 5 with (go_at_call 53; refine (nums_calls w _ _ (([] : List Int)) (.slice none 0 0) _ [6] _ _ rfl (HS0.out.below (al_below w1 _)) HL0.out HB0.out (by simp)).mono ?_; rintro e w2 ⟨rfl, v2, hS1, hst⟩; have HS1 := Aside0.mk hS1; have HST1 : Aside0 (Stay w1 w2) := ⟨HST0.out.trans ((Stay.below (al_below w1 _)).trans hst)⟩; clear kz0; clear hS1 hst)
  have kk1 : w2.cell? ⟨w.heap.size, 0, none⟩ = some (.int .i64 6) := (box_stay HBX.out (by decide) (by decide) HST1.out 0).trans HK0.out
  go_upto_region 20 with fail
  clear kk1
  have kz1 : w2.cell? ⟨w.heap.size, 1, none⟩ = some (.string m.name) := (box_stay HBX.out (by decide) (by decide) HST1.out 1).trans rfl
  have HB1 : Aside0 ((([] : List Int) ++ numsB [6]).length + (textB m.name).length ≤ 1099511627776) := ⟨by have h1 := congrArg List.length HT.out; simp only [List.length_append, List.length_nil] at h1 ⊢; have := HLEN.out; omega⟩
  go_upto_region 21 with (go_at_call 57; refine (text_calls w _ _ (([] : List Int) ++ numsB [6]) v2 m.name HS1.out HB1.out).mono ?_; rintro e w3 ⟨rfl, v3, hS1, hst⟩; have HS2 := Aside0.mk hS1; have HST2 : Aside0 (Stay w1 w3) := ⟨HST1.out.trans hst⟩; clear kz1; clear hS1 hst)
  have kk2 : w3.cell? ⟨w.heap.size, 0, none⟩ = some (.int .i64 6) := (box_stay HBX.out (by decide) (by decide) HST2.out 0).trans HK0.out
  go_upto_region 21 with fail
  clear kk2
  have kz2 : w3.cell? ⟨w.heap.size, 2, none⟩ = some (.int .i64 m.cap) := (box_stay HBX.out (by decide) (by decide) HST2.out 2).trans rfl
  have kz3 : w3.cell? ⟨w.heap.size, 3, none⟩ = some (.int .i64 m.recaps) := (box_stay HBX.out (by decide) (by decide) HST2.out 3).trans rfl
  have HB2 : Aside0 ((([] : List Int) ++ numsB [6] ++ textB m.name).length + (numsB [m.cap, m.recaps]).length ≤ 1099511627776) := ⟨by have h1 := congrArg List.length HT.out; simp only [List.length_append, List.length_nil] at h1 ⊢; have := HLEN.out; omega⟩
  have HL2 : Aside0 (IsL (w3.alloc (.cells #[.int .i64 m.cap, .int .i64 m.recaps] 3 (0, 0))) w3.heap.size [m.cap, m.recaps]) := ⟨heap_alloc_new w3 _⟩
  go_upto_region 22 with (go_at_call 53; refine (nums_calls w _ _ (([] : List Int) ++ numsB [6] ++ textB m.name) v3 _ [m.cap, m.recaps] _ _ rfl (HS2.out.below (al_below w3 _)) HL2.out HB2.out (by simp)).mono ?_; rintro e w4 ⟨rfl, v4, hS1, hst⟩; have HS3 := Aside0.mk hS1; have HST3 : Aside0 (Stay w1 w4) := ⟨HST2.out.trans ((Stay.below (al_below w3 _)).trans hst)⟩; clear kz2 kz3; clear hS1 hst)
  have kk3 : w4.cell? ⟨w.heap.size, 0, none⟩ = some (.int .i64 6) := (box_stay HBX.out (by decide) (by decide) HST3.out 0).trans HK0.out
  go_upto_region 28 with fail
  clear kk3
  have kz4 : w4.cell? ⟨w.heap.size, 4, none⟩ = some (.int .i64 m.epoch.f0) := (box_stay HBX.out (by decide) (by decide) HST3.out 4).trans rfl
  have kz5 : w4.cell? ⟨w.heap.size, 5, none⟩ = some (.int .i64 m.epoch.f1) := (box_stay HBX.out (by decide) (by decide) HST3.out 5).trans rfl
  have HB3 : Aside0 ((([] : List Int) ++ numsB [6] ++ textB m.name ++ numsB [m.cap, m.recaps]).length + (numsB [m.epoch.f0, m.epoch.f1]).length ≤ 1099511627776) := ⟨by have h1 := congrArg List.length HT.out; simp only [List.length_append, List.length_nil] at h1 ⊢; have := HLEN.out; omega⟩
  have HL3 : Aside0 (IsL (w4.alloc (.cells #[.int .i64 m.epoch.f0, .int .i64 m.epoch.f1] 3 (0, 0))) w4.heap.size [m.epoch.f0, m.epoch.f1]) := ⟨heap_alloc_new w4 _⟩
  go_upto_region 29 with (go_at_call 53; refine (nums_calls w _ _ (([] : List Int) ++ numsB [6] ++ textB m.name ++ numsB [m.cap, m.recaps]) v4 _ [m.epoch.f0, m.epoch.f1] _ _ rfl (HS3.out.below (al_below w4 _)) HL3.out HB3.out (by simp)).mono ?_; rintro e w5 ⟨rfl, v5, hS1, hst⟩; have HS4 := Aside0.mk hS1; have HST4 : Aside0 (Stay w1 w5) := ⟨HST3.out.trans ((Stay.below (al_below w4 _)).trans hst)⟩; clear kz4 kz5; clear hS1 hst)
  have kk4 : w5.cell? ⟨w.heap.size, 0, none⟩ = some (.int .i64 6) := (box_stay HBX.out (by decide) (by decide) HST4.out 0).trans HK0.out
  go_upto_region 30 with fail
  clear kk4
  have kz8 : w5.cell? ⟨w.heap.size, 8, none⟩ = some (.int .i64 m.rights.f0) := (box_stay HBX.out (by decide) (by decide) HST4.out 8).trans rfl
  have kz9 : w5.cell? ⟨w.heap.size, 9, none⟩ = some (.int .i64 m.rights.f1) := (box_stay HBX.out (by decide) (by decide) HST4.out 9).trans rfl
  have HB4 : Aside0 ((([] : List Int) ++ numsB [6] ++ textB m.name ++ numsB [m.cap, m.recaps] ++ numsB [m.epoch.f0, m.epoch.f1]).length + (numsB [m.rights.f0, m.rights.f1]).length ≤ 1099511627776) := ⟨by have h1 := congrArg List.length HT.out; simp only [List.length_append, List.length_nil] at h1 ⊢; have := HLEN.out; omega⟩
  have HL4 : Aside0 (IsL (w5.alloc (.cells #[.int .i64 m.rights.f0, .int .i64 m.rights.f1] 3 (0, 0))) w5.heap.size [m.rights.f0, m.rights.f1]) := ⟨heap_alloc_new w5 _⟩
  go_upto_region 31 with (go_at_call 53; refine (nums_calls w _ _ (([] : List Int) ++ numsB [6] ++ textB m.name ++ numsB [m.cap, m.recaps] ++ numsB [m.epoch.f0, m.epoch.f1]) v5 _ [m.rights.f0, m.rights.f1] _ _ rfl (HS4.out.below (al_below w5 _)) HL4.out HB4.out (by simp)).mono ?_; rintro e w6 ⟨rfl, v6, hS1, hst⟩; have HS5 := Aside0.mk hS1; have HST5 : Aside0 (Stay w1 w6) := ⟨HST4.out.trans ((Stay.below (al_below w5 _)).trans hst)⟩; clear kz8 kz9; clear hS1 hst)
  have kk5 : w6.cell? ⟨w.heap.size, 0, none⟩ = some (.int .i64 6) := (box_stay HBX.out (by decide) (by decide) HST5.out 0).trans HK0.out
  go_upto_region 36 with fail
  clear kk5
  obtain ⟨Az, nz, cz, rfl⟩ := R_sl HS5.out.row
  have kw : w6.cell? ⟨w0.heap.size, 0, none⟩ = some (.slice Az nz cz) := (blk_cell HS5.out.blk 0).trans rfl
  go_wp2_with fail
  go_ret2
  refine ⟨.slice Az nz cz, rfl, ?_, HS5.out.bel⟩
  have hrow := HS5.out.row
  rw [show ([] : List Int) ++ numsB [6] ++ textB m.name ++ numsB [m.cap, m.recaps] ++ numsB [m.epoch.f0, m.epoch.f1] ++ numsB [m.rights.f0, m.rights.f1] = msgB m from by rw [HT.out]; simp only [List.nil_append, List.append_assoc]] at hrow
  exact hrow
set_option maxHeartbeats 8000000 in
set_option maxRecDepth 100000 in
theorem enc9_calls (m : Msg) (h : isI m.op.a ∧ isI m.op.b) (A : Option Addr) (c : Nat) (w : World) (hr : Kd.C k87 w A m.views.length m.views) (hc : m.views.length ≤ c) (hk : m.kind = 9) (hv : msgV m) :
    Calls Try.prog 16 #[MV m A c] w fun e w' => ∃ v, e = .returned (.tuple #[v, .int .i64 0]) ∧ Kd.R (Kd.int .u8) 5 w' w.heap.size (fun _ => True) v (msgB m) ∧ Below w.heap.size w w' := by
  have HT : Aside0 (msgB m = numsB [9] ++ (textB m.name ++ (numsB [m.cap, m.recaps] ++ (numsB [m.rights.f0, m.rights.f1])))) := ⟨by unfold msgB restB; simp [hk, numsB, pairB, capOf, optB, hasEp, hasRt]⟩
  have HLEN := Aside0.mk (msg_len hv)
  have HV := Aside0.mk hv
  have HR := Aside0.mk hr
  have HC := Aside0.mk hc
  have HI := Aside0.mk h
  clear hv hr hc h
  have HK0 : Aside0 ((MVc m A c)[0]? = some (.int .i64 9)) := ⟨by unfold MVc; rw [hk]; rfl⟩
  have hu33 := Try.underlying33
  have hu23 := Try.underlying23
  have hu25 := Try.underlying25
  have hu27 := Try.underlying27
  have hu29 := Try.underlying29
  obtain ⟨wa, hwa⟩ : ∃ wa, wa = w.alloc (.cells (MVc m A c) 33 (0, 0)) := ⟨_, rfl⟩
  have HWA := Aside0.mk hwa
  have HB : Aside0 (Below w.heap.size w wa) := ⟨by rw [hwa]; exact (Below.refl _ _).alloc (Nat.le_refl _) _⟩
  have BK : Aside0 (wa.heap[w.heap.size]? = some (.cells (MVc m A c) 33 (0, 0))) := ⟨by rw [hwa]; exact heap_alloc_new w _⟩
  clear hwa
  go_enter Try.func16, Try.ntmps16
  unfold MV
  go_upto_region 1 with fail
  rw [← HWA.out]
  go_upto_region 3 with (first | ((with_reducible refine gate_dst (N := 5) rfl ?_); refine wpList_load_row rfl 33 (.tmp 1) rfl w.heap.size (by rfl) 33 (MVc m A c) (0, 0) _ BK.out Try.underlying33 rfl inf33 ?_) | (go_at_call 21; refine (valid_calls m HI.out A c _ (Kd.C_below HR.out HB.out) HC.out).mono ?_; rintro e w0 ⟨rfl, hb⟩; rw [dcd_pos HV.out]; have n0_ := Aside0.mk (below_step HB.out hb); have n1_ := Aside0.mk (blk_keep hb BK.out); clear HB BK hb; have HB := n0_; have BK := n1_; clear n0_ n1_))
  obtain ⟨w1, hw1⟩ : ∃ w1, w1 = w0.alloc (.cells #[.slice none 0 0] 99 (0, 0)) := ⟨_, rfl⟩
  have HW1 := Aside0.mk hw1
  have HS0 : Aside0 (WS w w1 w0.heap.size [] (.slice none 0 0)) := ⟨by rw [hw1]; exact ⟨heap_alloc_new w0 _, HB.out.size, Kd.R_nil _ _ _ _ _, below_alloc HB.out _⟩⟩
  have HBX : Aside0 (w1.heap[w.heap.size]? = some (.cells (MVc m A c) 33 (0, 0))) := ⟨by rw [hw1]; exact blk_keep (al_below w0 _) BK.out⟩
  have HST0 : Aside0 (Stay w1 w1) := ⟨Stay.refl _⟩
  clear hw1
  go_upto_region 4 with fail
  rw [← HW1.out]
  have kz0 : w1.cell? ⟨w.heap.size, 0, none⟩ = some (.int .i64 m.kind) := (box_stay HBX.out (by decide) (by decide) HST0.out 0).trans rfl
  rw [hk] at kz0
  have HB0 : Aside0 ((([] : List Int)).length + (numsB [9]).length ≤ 1099511627776) := ⟨by have h1 := congrArg List.length HT.out; simp only [List.length_append, List.length_nil] at h1 ⊢; have := HLEN.out; omega⟩
  have HL0 : Aside0 (IsL (w1.alloc (.cells #[.int .i64 9] 3 (0, 0))) w1.heap.size [9]) := ⟨heap_alloc_new w1 _⟩
  go_upto_region 5 with (go_at_call 53; refine (nums_calls w _ _ (([] : List Int)) (.slice none 0 0) _ [9] _ _ rfl (HS0.out.below (al_below w1 _)) HL0.out HB0.out (by simp)).mono ?_; rintro e w2 ⟨rfl, v2, hS1, hst⟩; have HS1 := Aside0.mk hS1; have HST1 : Aside0 (Stay w1 w2) := ⟨HST0.out.trans ((Stay.below (al_below w1 _)).trans hst)⟩; clear kz0; clear hS1 hst)
  have kk1 : w2.cell? ⟨w.heap.size, 0, none⟩ = some (.int .i64 9) := (box_stay HBX.out (by decide) (by decide) HST1.out 0).trans HK0.out
  go_upto_region 20 with fail
  clear kk1
  have kz1 : w2.cell? ⟨w.heap.size, 1, none⟩ = some (.string m.name) := (box_stay HBX.out (by decide) (by decide) HST1.out 1).trans rfl
  have HB1 : Aside0 ((([] : List Int) ++ numsB [9]).length + (textB m.name).length ≤ 1099511627776) := ⟨by have h1 := congrArg List.length HT.out; simp only [List.length_append, List.length_nil] at h1 ⊢; have := HLEN.out; omega⟩
  go_upto_region 21 with (go_at_call 57; refine (text_calls w _ _ (([] : List Int) ++ numsB [9]) v2 m.name HS1.out HB1.out).mono ?_; rintro e w3 ⟨rfl, v3, hS1, hst⟩; have HS2 := Aside0.mk hS1; have HST2 : Aside0 (Stay w1 w3) := ⟨HST1.out.trans hst⟩; clear kz1; clear hS1 hst)
  have kk2 : w3.cell? ⟨w.heap.size, 0, none⟩ = some (.int .i64 9) := (box_stay HBX.out (by decide) (by decide) HST2.out 0).trans HK0.out
  go_upto_region 21 with fail
  clear kk2
  have kz2 : w3.cell? ⟨w.heap.size, 2, none⟩ = some (.int .i64 m.cap) := (box_stay HBX.out (by decide) (by decide) HST2.out 2).trans rfl
  have kz3 : w3.cell? ⟨w.heap.size, 3, none⟩ = some (.int .i64 m.recaps) := (box_stay HBX.out (by decide) (by decide) HST2.out 3).trans rfl
  have HB2 : Aside0 ((([] : List Int) ++ numsB [9] ++ textB m.name).length + (numsB [m.cap, m.recaps]).length ≤ 1099511627776) := ⟨by have h1 := congrArg List.length HT.out; simp only [List.length_append, List.length_nil] at h1 ⊢; have := HLEN.out; omega⟩
  have HL2 : Aside0 (IsL (w3.alloc (.cells #[.int .i64 m.cap, .int .i64 m.recaps] 3 (0, 0))) w3.heap.size [m.cap, m.recaps]) := ⟨heap_alloc_new w3 _⟩
  go_upto_region 22 with (go_at_call 53; refine (nums_calls w _ _ (([] : List Int) ++ numsB [9] ++ textB m.name) v3 _ [m.cap, m.recaps] _ _ rfl (HS2.out.below (al_below w3 _)) HL2.out HB2.out (by simp)).mono ?_; rintro e w4 ⟨rfl, v4, hS1, hst⟩; have HS3 := Aside0.mk hS1; have HST3 : Aside0 (Stay w1 w4) := ⟨HST2.out.trans ((Stay.below (al_below w3 _)).trans hst)⟩; clear kz2 kz3; clear hS1 hst)
  have kk3 : w4.cell? ⟨w.heap.size, 0, none⟩ = some (.int .i64 9) := (box_stay HBX.out (by decide) (by decide) HST3.out 0).trans HK0.out
  go_upto_region 30 with fail
  clear kk3
  have kz8 : w4.cell? ⟨w.heap.size, 8, none⟩ = some (.int .i64 m.rights.f0) := (box_stay HBX.out (by decide) (by decide) HST3.out 8).trans rfl
  have kz9 : w4.cell? ⟨w.heap.size, 9, none⟩ = some (.int .i64 m.rights.f1) := (box_stay HBX.out (by decide) (by decide) HST3.out 9).trans rfl
  have HB3 : Aside0 ((([] : List Int) ++ numsB [9] ++ textB m.name ++ numsB [m.cap, m.recaps]).length + (numsB [m.rights.f0, m.rights.f1]).length ≤ 1099511627776) := ⟨by have h1 := congrArg List.length HT.out; simp only [List.length_append, List.length_nil] at h1 ⊢; have := HLEN.out; omega⟩
  have HL3 : Aside0 (IsL (w4.alloc (.cells #[.int .i64 m.rights.f0, .int .i64 m.rights.f1] 3 (0, 0))) w4.heap.size [m.rights.f0, m.rights.f1]) := ⟨heap_alloc_new w4 _⟩
  go_upto_region 31 with (go_at_call 53; refine (nums_calls w _ _ (([] : List Int) ++ numsB [9] ++ textB m.name ++ numsB [m.cap, m.recaps]) v4 _ [m.rights.f0, m.rights.f1] _ _ rfl (HS3.out.below (al_below w4 _)) HL3.out HB3.out (by simp)).mono ?_; rintro e w5 ⟨rfl, v5, hS1, hst⟩; have HS4 := Aside0.mk hS1; have HST4 : Aside0 (Stay w1 w5) := ⟨HST3.out.trans ((Stay.below (al_below w4 _)).trans hst)⟩; clear kz8 kz9; clear hS1 hst)
  have kk4 : w5.cell? ⟨w.heap.size, 0, none⟩ = some (.int .i64 9) := (box_stay HBX.out (by decide) (by decide) HST4.out 0).trans HK0.out
  go_upto_region 36 with fail
  clear kk4
  obtain ⟨Az, nz, cz, rfl⟩ := R_sl HS4.out.row
  have kw : w5.cell? ⟨w0.heap.size, 0, none⟩ = some (.slice Az nz cz) := (blk_cell HS4.out.blk 0).trans rfl
  go_wp2_with fail
  go_ret2
  refine ⟨.slice Az nz cz, rfl, ?_, HS4.out.bel⟩
  have hrow := HS4.out.row
  rw [show ([] : List Int) ++ numsB [9] ++ textB m.name ++ numsB [m.cap, m.recaps] ++ numsB [m.rights.f0, m.rights.f1] = msgB m from by rw [HT.out]; simp only [List.nil_append, List.append_assoc]] at hrow
  exact hrow
end Go.Proofs.Ytpgdmmjbhjbbhaa.En
end
section
namespace Go.Proofs.Ytpgdmmjbhjbbhaa.En
open Go Go.RowKit Go.Proofs.Ytpgdmmjbhjbbhaa.P Go.Proofs.Ytpgdmmjbhjbbhaa.Sp Go.Proofs.Ytpgdmmjbhjbbhaa.Vd Go.Proofs.Ytpgdmmjbhjbbhaa.Wr Go.Proofs.YtpgdmmjbhjbbhaaW.PrintWords Go.Proofs.YtpgdmmjbhjbbhaaW.PrintLast Go.Proofs.YtpgdmmjbhjbbhaaW.PrintMore
set_option linter.unusedVariables false
set_option linter.unusedSimpArgs false
theorem lay_ok {α : Type} {e : α → List Int} {v : α → Prop} {x : α} (h : v x) : lay e v x = (e x, 0) := by unfold lay; rw [if_pos (dcd_pos h)]
theorem lay_no {α : Type} {e : α → List Int} {v : α → Prop} {x : α} (h : ¬ v x) : lay e v x = ([], 21) := by unfold lay; rw [if_neg (by rw [dcd_neg h]; decide)]
set_option maxHeartbeats 8000000 in
set_option maxRecDepth 100000 in
theorem enc0_calls (m : Msg) (h : isI m.op.a ∧ isI m.op.b) (A : Option Addr) (c : Nat) (w : World) (hr : Kd.C k87 w A m.views.length m.views) (hc : m.views.length ≤ c) (hv : ¬ msgV m) :
    Calls Try.prog 16 #[MV m A c] w fun e w' => e = .returned (.tuple #[.slice none 0 0, .int .i64 21]) ∧ Below w.heap.size w w' := by
  have HV := Aside0.mk hv
  have HR := Aside0.mk hr
  have HC := Aside0.mk hc
  have HI := Aside0.mk h
  clear hv hr hc h
  have hu33 := Try.underlying33
  obtain ⟨wa, hwa⟩ : ∃ wa, wa = w.alloc (.cells (MVc m A c) 33 (0, 0)) := ⟨_, rfl⟩
  have HWA := Aside0.mk hwa
  have HB : Aside0 (Below w.heap.size w wa) := ⟨by rw [hwa]; exact (Below.refl _ _).alloc (Nat.le_refl _) _⟩
  have BK : Aside0 (wa.heap[w.heap.size]? = some (.cells (MVc m A c) 33 (0, 0))) := ⟨by rw [hwa]; exact heap_alloc_new w _⟩
  clear hwa
  go_enter Try.func16, Try.ntmps16
  unfold MV
  go_upto_region 1 with fail
  rw [← HWA.out]
  go_wp2_with (first | ((with_reducible refine gate_dst (N := 5) rfl ?_); refine wpList_load_row rfl 33 (.tmp 1) rfl w.heap.size (by rfl) 33 (MVc m A c) (0, 0) _ BK.out Try.underlying33 rfl inf33 ?_) | (go_at_call 21; refine (valid_calls m HI.out A c _ (Kd.C_below HR.out HB.out) HC.out).mono ?_; rintro e w0 ⟨rfl, hb⟩; rw [dcd_neg HV.out]; have n0_ := Aside0.mk (below_step HB.out hb); clear HB BK hb; have HB := n0_; clear n0_))
  go_ret2
  exact ⟨rfl, HB.out⟩
theorem encode_calls (m : Msg) (h : isI m.op.a ∧ isI m.op.b) (A : Option Addr) (c : Nat) (w : World) (hr : Kd.C k87 w A m.views.length m.views) (hc : m.views.length ≤ c) :
    Calls Try.prog 16 #[MV m A c] w fun e w' => ∃ v, e = .returned (.tuple #[v, .int .i64 (lay msgB msgV m).2]) ∧ Kd.R (Kd.int .u8) 5 w' w.heap.size (fun _ => True) v (lay msgB msgV m).1 ∧ Below w.heap.size w w' := by
  by_cases hv : msgV m
  · rw [lay_ok hv]
    have hs : m.kind = 1 ∨ m.kind = 2 ∨ m.kind = 3 ∨ m.kind = 4 ∨ m.kind = 5 ∨ m.kind = 6 ∨ m.kind = 7 ∨ m.kind = 8 ∨ m.kind = 9 ∨ m.kind = 10 := by have := hv.1; omega
    rcases hs with h1 | h1 | h1 | h1 | h1 | h1 | h1 | h1 | h1 | h1
    · exact enc1_calls m h A c w hr hc h1 hv
    · by_cases hq : capped m.err
      · exact enc2t_calls m h A c w hr hc h1 hv hq
      · exact enc2f_calls m h A c w hr hc h1 hv hq
    · exact enc3_calls m h A c w hr hc h1 hv
    · exact enc4_calls m h A c w hr hc h1 hv
    · exact enc5_calls m h A c w hr hc h1 hv
    · exact enc6_calls m h A c w hr hc h1 hv
    · exact enc7_calls m h A c w hr hc h1 hv
    · exact enc8_calls m h A c w hr hc h1 hv
    · exact enc9_calls m h A c w hr hc h1 hv
    · exact enc10_calls m h A c w hr hc h1 hv
  · rw [lay_no hv]
    refine (enc0_calls m h A c w hr hc hv).mono ?_
    rintro e w' ⟨rfl, hb⟩
    exact ⟨_, rfl, Kd.R_nil _ _ _ _ _, hb⟩
end Go.Proofs.Ytpgdmmjbhjbbhaa.En
end
section
namespace Go.Proofs.Ytpgdmmjbhjbbhaa.En
open Go Go.RowKit Go.Proofs.Ytpgdmmjbhjbbhaa.P Go.Proofs.Ytpgdmmjbhjbbhaa.Sp Go.Proofs.Ytpgdmmjbhjbbhaa.Vd Go.Proofs.Ytpgdmmjbhjbbhaa.Wr Go.Proofs.YtpgdmmjbhjbbhaaW.PrintWords Go.Proofs.YtpgdmmjbhjbbhaaW.PrintLast Go.Proofs.YtpgdmmjbhjbbhaaW.PrintMore
set_option linter.unusedVariables false
set_option linter.unusedSimpArgs false
theorem inf27 : (Try.prog.info? 27).map (·.size) = some 2 := by kernel_rfl
theorem inf29 : (Try.prog.info? 29).map (·.size) = some 4 := by kernel_rfl
theorem below_al2 (w : World) (o p : Obj) : Below w.heap.size w ((w.alloc o).alloc p) := (al_below w o).alloc (by simp) p

set_option maxHeartbeats 8000000 in
set_option maxRecDepth 100000 in
theorem encreq1_calls (x : S25) (o : Sp.Op) (w : World) (h1 : callV x) (h2 : opV o) :
    Calls Try.prog 32 #[.agg #[.int .i64 x.f0, .int .i64 x.f1], .agg #[.int .i64 o.kind, .string o.name, .int .i64 o.a, .int .i64 o.b]] w fun e w' => ∃ v, e = .returned (.tuple #[v, .int .i64 0]) ∧ Kd.R (Kd.int .u8) 5 w' w.heap.size (fun _ => True) v (reqB (x, o)) ∧ Below w.heap.size w w' := by
  have hb1 := dcd_pos (p := callV ⟨x.f0, x.f1⟩) h1
  have hb2 := (oB_iff o h2.2.2).mpr h2
  have HLEN : Aside0 ((pairB x).length ≤ 12 ∧ (opB o).length ≤ 38) := ⟨call12 h1, op_len h2⟩
  have HI := Aside0.mk h2.2.2
  clear h1 h2
  obtain ⟨wa, hwa⟩ : ∃ wa, wa = (w.alloc (.cells #[.int .i64 x.f0, .int .i64 x.f1] 27 (0, 0))).alloc (.cells #[.int .i64 o.kind, .string o.name, .int .i64 o.a, .int .i64 o.b] 29 (0, 0)) := ⟨_, rfl⟩
  have HWA := Aside0.mk hwa
  have HB : Aside0 (Below w.heap.size w wa) := ⟨by rw [hwa]; exact below_al2 w _ _⟩
  have BK1 : Aside0 (wa.heap[w.heap.size]? = some (.cells #[.int .i64 x.f0, .int .i64 x.f1] 27 (0, 0))) := ⟨by rw [hwa]; exact (Below.heap_alloc _ _ _ (by simp)).trans (heap_alloc_new w _)⟩
  have BK2 : Aside0 (wa.heap[w.heap.size + 1]? = some (.cells #[.int .i64 o.kind, .string o.name, .int .i64 o.a, .int .i64 o.b] 29 (0, 0))) := ⟨by rw [hwa]; have := heap_alloc_new (w.alloc (.cells #[.int .i64 x.f0, .int .i64 x.f1] 27 (0, 0))) (.cells #[.int .i64 o.kind, .string o.name, .int .i64 o.a, .int .i64 o.b] 29 (0, 0)); simpa using this⟩
  clear hwa
  go_enter Try.func32, Try.ntmps32
  go_upto_region 1 with fail
  rw [← HWA.out]
  go_upto_region 3 with (first | ((with_reducible refine gate_dst (N := 7) rfl ?_); refine wpList_load_row rfl 27 (.tmp 2) rfl w.heap.size (by rfl) 27 _ (0, 0) _ BK1.out Try.underlying27 rfl inf27 ?_) | ((with_reducible refine gate_dst (N := 11) rfl ?_); refine gate_guard (by kernel_rfl) ?_; refine wpList_load_row rfl 29 (.tmp 3) rfl (w.heap.size + 1) (by rfl) 29 _ (0, 0) _ BK2.out Try.underlying29 rfl inf29 ?_) | (go_at_call 63; refine (rightCall_calls _ x.f0 x.f1).mono ?_; rintro e w1 ⟨rfl, hb⟩; have n0_ := Aside0.mk (below_step HB.out hb); have n1_ := Aside0.mk (blk_keep hb BK1.out); have n2_ := Aside0.mk (blk_keep hb BK2.out); clear HB BK1 BK2 hb; have HB := n0_; have BK1 := n1_; have BK2 := n2_; clear n0_ n1_ n2_; rw [hb1]) | (go_at_call 64; refine (rightOp_calls _ o.kind o.name o.a o.b).mono ?_; rintro e w0 ⟨rfl, hb⟩; have n0_ := Aside0.mk (below_step HB.out hb); have n1_ := Aside0.mk (blk_keep hb BK1.out); have n2_ := Aside0.mk (blk_keep hb BK2.out); clear HB BK1 BK2 hb; have HB := n0_; have BK1 := n1_; have BK2 := n2_; clear n0_ n1_ n2_; rw [hb2]))
  obtain ⟨w1, hw1⟩ : ∃ w1, w1 = w0.alloc (.cells #[.slice none 0 0] 99 (0, 0)) := ⟨_, rfl⟩
  have HW1 := Aside0.mk hw1
  have HS0 : Aside0 (WS w w1 w0.heap.size [] (.slice none 0 0)) := ⟨by rw [hw1]; exact ⟨heap_alloc_new w0 _, HB.out.size, Kd.R_nil _ _ _ _ _, below_alloc HB.out _⟩⟩
  have HX1 : Aside0 (w1.heap[w.heap.size]? = some (.cells #[.int .i64 x.f0, .int .i64 x.f1] 27 (0, 0))) := ⟨by rw [hw1]; exact blk_keep (al_below w0 _) BK1.out⟩
  have HX2 : Aside0 (w1.heap[w.heap.size + 1]? = some (.cells #[.int .i64 o.kind, .string o.name, .int .i64 o.a, .int .i64 o.b] 29 (0, 0))) := ⟨by rw [hw1]; exact blk_keep (al_below w0 _) BK2.out⟩
  clear hw1
  go_upto_region 4 with fail
  rw [← HW1.out]
  have HB0 : Aside0 (([] : List Int).length + (pairB x).length ≤ 1099511627776) := ⟨by have := HLEN.out.1; simp only [List.length_nil]; omega⟩
  go_upto_region 5 with (first | ((with_reducible refine gate_dst (N := 18) rfl ?_); refine wpList_load_row rfl 27 (.tmp 2) rfl w.heap.size (by rfl) 27 _ (0, 0) _ HX1.out Try.underlying27 rfl inf27 ?_) | (go_at_call 54; refine (call_calls w _ _ [] (.slice none 0 0) x HS0.out HB0.out).mono ?_; rintro e w2 ⟨rfl, v2, hS1, hst⟩; have HS1 := Aside0.mk hS1; have HX3 := Aside0.mk (hst _ _ _ (by decide) (by decide) HX2.out); clear hS1 hst))
  have HB1 : Aside0 (([] ++ pairB x).length + (opB o).length ≤ 1099511627776) := ⟨by have := HLEN.out; simp only [List.length_append, List.length_nil]; omega⟩
  go_upto_region 6 with (first | ((with_reducible refine gate_dst (N := 21) rfl ?_); refine wpList_load_row rfl 29 (.tmp 3) rfl (w.heap.size + 1) (by rfl) 29 _ (0, 0) _ HX3.out Try.underlying29 rfl inf29 ?_) | (go_at_call 55; refine (op_calls w _ _ ([] ++ pairB x) v2 o HI.out HS1.out HB1.out).mono ?_; rintro e w3 ⟨rfl, v3, hS1, hst⟩; have HS2 := Aside0.mk hS1; clear hS1 hst))
  obtain ⟨Az, nz, cz, rfl⟩ := R_sl HS2.out.row
  have kw : w3.cell? ⟨w0.heap.size, 0, none⟩ = some (.slice Az nz cz) := (blk_cell HS2.out.blk 0).trans rfl
  go_wp2_with fail
  go_ret2
  refine ⟨.slice Az nz cz, rfl, ?_, HS2.out.bel⟩
  have hrow := HS2.out.row
  rw [show [] ++ pairB x ++ opB o = reqB (x, o) from rfl] at hrow
  exact hrow
set_option maxHeartbeats 8000000 in
set_option maxRecDepth 100000 in
theorem encreq0_calls (x : S25) (o : Sp.Op) (w : World) (h : ¬ (dcd (callV ⟨x.f0, x.f1⟩) = true ∧ oB o.kind o.name = true)) :
    Calls Try.prog 32 #[.agg #[.int .i64 x.f0, .int .i64 x.f1], .agg #[.int .i64 o.kind, .string o.name, .int .i64 o.a, .int .i64 o.b]] w fun e w' => e = .returned (.tuple #[.slice none 0 0, .int .i64 21]) ∧ Below w.heap.size w w' := by
  obtain ⟨wa, hwa⟩ : ∃ wa, wa = (w.alloc (.cells #[.int .i64 x.f0, .int .i64 x.f1] 27 (0, 0))).alloc (.cells #[.int .i64 o.kind, .string o.name, .int .i64 o.a, .int .i64 o.b] 29 (0, 0)) := ⟨_, rfl⟩
  have HWA := Aside0.mk hwa
  have HB : Aside0 (Below w.heap.size w wa) := ⟨by rw [hwa]; exact below_al2 w _ _⟩
  have BK1 : Aside0 (wa.heap[w.heap.size]? = some (.cells #[.int .i64 x.f0, .int .i64 x.f1] 27 (0, 0))) := ⟨by rw [hwa]; exact (Below.heap_alloc _ _ _ (by simp)).trans (heap_alloc_new w _)⟩
  have BK2 : Aside0 (wa.heap[w.heap.size + 1]? = some (.cells #[.int .i64 o.kind, .string o.name, .int .i64 o.a, .int .i64 o.b] 29 (0, 0))) := ⟨by rw [hwa]; have := heap_alloc_new (w.alloc (.cells #[.int .i64 x.f0, .int .i64 x.f1] 27 (0, 0))) (.cells #[.int .i64 o.kind, .string o.name, .int .i64 o.a, .int .i64 o.b] 29 (0, 0)); simpa using this⟩
  clear hwa
  go_enter Try.func32, Try.ntmps32
  go_upto_region 1 with fail
  rw [← HWA.out]
  by_cases hb1 : dcd (callV ⟨x.f0, x.f1⟩) = true
  · have hb2 : oB o.kind o.name = false := by cases hh : oB o.kind o.name with | false => rfl | true => exact absurd ⟨hb1, hh⟩ h
    clear h
    go_wp2_with (first | ((with_reducible refine gate_dst (N := 7) rfl ?_); refine wpList_load_row rfl 27 (.tmp 2) rfl w.heap.size (by rfl) 27 _ (0, 0) _ BK1.out Try.underlying27 rfl inf27 ?_) | ((with_reducible refine gate_dst (N := 11) rfl ?_); refine gate_guard (by kernel_rfl) ?_; refine wpList_load_row rfl 29 (.tmp 3) rfl (w.heap.size + 1) (by rfl) 29 _ (0, 0) _ BK2.out Try.underlying29 rfl inf29 ?_) | (go_at_call 63; refine (rightCall_calls _ x.f0 x.f1).mono ?_; rintro e w1 ⟨rfl, hb⟩; have n0_ := Aside0.mk (below_step HB.out hb); have n1_ := Aside0.mk (blk_keep hb BK1.out); have n2_ := Aside0.mk (blk_keep hb BK2.out); clear HB BK1 BK2 hb; have HB := n0_; have BK1 := n1_; have BK2 := n2_; clear n0_ n1_ n2_; rw [hb1]) | (go_at_call 64; refine (rightOp_calls _ o.kind o.name o.a o.b).mono ?_; rintro e w0 ⟨rfl, hb⟩; have n0_ := Aside0.mk (below_step HB.out hb); have n1_ := Aside0.mk (blk_keep hb BK1.out); have n2_ := Aside0.mk (blk_keep hb BK2.out); clear HB BK1 BK2 hb; have HB := n0_; have BK1 := n1_; have BK2 := n2_; clear n0_ n1_ n2_; rw [hb2]))
    go_ret2
    exact ⟨rfl, HB.out⟩
  · replace hb1 : dcd (callV ⟨x.f0, x.f1⟩) = false := by cases hh : dcd (callV ⟨x.f0, x.f1⟩) with | false => rfl | true => exact absurd hh hb1
    clear h
    go_wp2_with (first | ((with_reducible refine gate_dst (N := 7) rfl ?_); refine wpList_load_row rfl 27 (.tmp 2) rfl w.heap.size (by rfl) 27 _ (0, 0) _ BK1.out Try.underlying27 rfl inf27 ?_) | (go_at_call 63; refine (rightCall_calls _ x.f0 x.f1).mono ?_; rintro e w1 ⟨rfl, hb⟩; have n0_ := Aside0.mk (below_step HB.out hb); have n1_ := Aside0.mk (blk_keep hb BK1.out); have n2_ := Aside0.mk (blk_keep hb BK2.out); clear HB BK1 BK2 hb; have HB := n0_; have BK1 := n1_; have BK2 := n2_; clear n0_ n1_ n2_; rw [hb1]))
    go_ret2
    exact ⟨rfl, HB.out⟩
set_option maxHeartbeats 8000000 in
set_option maxRecDepth 100000 in
theorem encrep1_calls (r : Rep) (w : World) (h : repV r) :
    Calls Try.prog 34 #[.agg #[.int .i64 r.call.f0, .int .i64 r.call.f1, .int .i64 r.err, .int .i64 r.value]] w fun e w' => ∃ v, e = .returned (.tuple #[v, .int .i64 0]) ∧ Kd.R (Kd.int .u8) 5 w' w.heap.size (fun _ => True) v (repB r) ∧ Below w.heap.size w w' := by
  have hb1 := dcd_pos (p := callV ⟨r.call.f0, r.call.f1⟩) h.1
  have hb2 : bB r.err 0 255 = true := dcd_pos h.2.1
  have HLEN : Aside0 ((pairB r.call).length ≤ 12 ∧ (intB r.err).length ≤ 2 ∧ (signB r.value).length ≤ 10) := ⟨call12 h.1, int2 h.2.1.1 (by have := h.2.1.2; omega), sign10 h.2.2⟩
  have HI := Aside0.mk h.2.2
  clear h
  have hu50 := Try.underlying50
  have hu27 := Try.underlying27
  obtain ⟨wa, hwa⟩ : ∃ wa, wa = w.alloc (.cells #[.int .i64 r.call.f0, .int .i64 r.call.f1, .int .i64 r.err, .int .i64 r.value] 50 (0, 0)) := ⟨_, rfl⟩
  have HWA := Aside0.mk hwa
  have HB : Aside0 (Below w.heap.size w wa) := ⟨by rw [hwa]; exact al_below w _⟩
  have BK1 : Aside0 (wa.heap[w.heap.size]? = some (.cells #[.int .i64 r.call.f0, .int .i64 r.call.f1, .int .i64 r.err, .int .i64 r.value] 50 (0, 0))) := ⟨by rw [hwa]; exact heap_alloc_new w _⟩
  clear hwa
  have kz0 : wa.cell? ⟨w.heap.size, 0, none⟩ = some (.int .i64 r.call.f0) := (blk_cell BK1.out 0).trans rfl
  have kz1 : wa.cell? ⟨w.heap.size, 1, none⟩ = some (.int .i64 r.call.f1) := (blk_cell BK1.out 1).trans rfl
  have kz2 : wa.cell? ⟨w.heap.size, 2, none⟩ = some (.int .i64 r.err) := (blk_cell BK1.out 2).trans rfl
  go_enter Try.func34, Try.ntmps34
  go_upto_region 1 with fail
  rw [← HWA.out]
  go_upto_region 3 with (first | (go_at_call 63; refine (rightCall_calls _ r.call.f0 r.call.f1).mono ?_; rintro e w1 ⟨rfl, hb⟩; have n0_ := Aside0.mk (below_step HB.out hb); have n1_ := Aside0.mk (blk_keep hb BK1.out); clear HB BK1 hb; have HB := n0_; have BK1 := n1_; clear n0_ n1_; rw [hb1]; have kz2 : w1.cell? ⟨w.heap.size, 2, none⟩ = some (.int .i64 r.err) := (blk_cell BK1.out 2).trans rfl) | (go_at_call 66; refine (between_calls _ r.err 0 255).mono ?_; rintro e w0 ⟨rfl, hb⟩; have n0_ := Aside0.mk (below_step HB.out hb); have n1_ := Aside0.mk (blk_keep hb BK1.out); clear HB BK1 hb; have HB := n0_; have BK1 := n1_; clear n0_ n1_; rw [hb2]))
  obtain ⟨w1, hw1⟩ : ∃ w1, w1 = w0.alloc (.cells #[.slice none 0 0] 99 (0, 0)) := ⟨_, rfl⟩
  have HW1 := Aside0.mk hw1
  have HS0 : Aside0 (WS w w1 w0.heap.size [] (.slice none 0 0)) := ⟨by rw [hw1]; exact ⟨heap_alloc_new w0 _, HB.out.size, Kd.R_nil _ _ _ _ _, below_alloc HB.out _⟩⟩
  have HX1 : Aside0 (w1.heap[w.heap.size]? = some (.cells #[.int .i64 r.call.f0, .int .i64 r.call.f1, .int .i64 r.err, .int .i64 r.value] 50 (0, 0))) := ⟨by rw [hw1]; exact blk_keep (al_below w0 _) BK1.out⟩
  clear hw1
  go_upto_region 4 with fail
  rw [← HW1.out]
  have HB0 : Aside0 (([] : List Int).length + (pairB r.call).length ≤ 1099511627776) := ⟨by have := HLEN.out.1; simp only [List.length_nil]; omega⟩
  have ky0 : w1.cell? ⟨w.heap.size, 0, none⟩ = some (.int .i64 r.call.f0) := (blk_cell HX1.out 0).trans rfl
  have ky1 : w1.cell? ⟨w.heap.size, 1, none⟩ = some (.int .i64 r.call.f1) := (blk_cell HX1.out 1).trans rfl
  go_upto_region 5 with (go_at_call 54; refine (call_calls w _ _ [] (.slice none 0 0) r.call HS0.out HB0.out).mono ?_; rintro e w2 ⟨rfl, v2, hS1, hst⟩; have HS1 := Aside0.mk hS1; have HST1 := Aside0.mk hst; clear hS1 hst ky0 ky1)
  have kx2 : w2.cell? ⟨w.heap.size, 2, none⟩ = some (.int .i64 r.err) := (box_stay HX1.out (by decide) (by decide) HST1.out 2).trans rfl
  have HL1 : Aside0 (IsL (w2.alloc (.cells #[.int .i64 r.err] 3 (0, 0))) w2.heap.size [r.err]) := ⟨heap_alloc_new w2 _⟩
  have HB1 : Aside0 (([] ++ pairB r.call).length + (numsB [r.err]).length ≤ 1099511627776) := ⟨by rw [numsB1]; have := HLEN.out; simp only [List.length_append, List.length_nil]; omega⟩
  go_upto_region 6 with (go_at_call 53; refine (nums_calls w _ _ ([] ++ pairB r.call) v2 _ [r.err] _ _ rfl (HS1.out.below (al_below w2 _)) HL1.out HB1.out (by simp)).mono ?_; rintro e w3 ⟨rfl, v3, hS1, hst⟩; rw [numsB1] at hS1; have HS2 := Aside0.mk hS1; have HST2 : Aside0 (Stay w1 w3) := ⟨HST1.out.trans ((Stay.below (al_below w2 _)).trans hst)⟩; clear hS1 hst kx2)
  have kx3 : w3.cell? ⟨w.heap.size, 3, none⟩ = some (.int .i64 r.value) := (box_stay HX1.out (by decide) (by decide) HST2.out 3).trans rfl
  have HB2 : Aside0 (([] ++ pairB r.call ++ intB r.err).length + (signB r.value).length ≤ 1099511627776) := ⟨by have := HLEN.out; simp only [List.length_append, List.length_nil]; omega⟩
  go_upto_region 7 with (go_at_call 85; refine (signed_calls w _ _ ([] ++ pairB r.call ++ intB r.err) v3 r.value HI.out HS2.out HB2.out).mono ?_; rintro e w4 ⟨rfl, v4, hS1, hst⟩; have HS3 := Aside0.mk hS1; clear hS1 hst kx3)
  obtain ⟨Az, nz, cz, rfl⟩ := R_sl HS3.out.row
  have kw : w4.cell? ⟨w0.heap.size, 0, none⟩ = some (.slice Az nz cz) := (blk_cell HS3.out.blk 0).trans rfl
  go_wp2_with fail
  go_ret2
  refine ⟨.slice Az nz cz, rfl, ?_, HS3.out.bel⟩
  have hrow := HS3.out.row
  rw [show [] ++ pairB r.call ++ intB r.err ++ signB r.value = repB r from by simp [repB]] at hrow
  exact hrow
set_option maxHeartbeats 8000000 in
set_option maxRecDepth 100000 in
theorem encrep0_calls (r : Rep) (w : World) (h : ¬ (dcd (callV ⟨r.call.f0, r.call.f1⟩) = true ∧ bB r.err 0 255 = true)) :
    Calls Try.prog 34 #[.agg #[.int .i64 r.call.f0, .int .i64 r.call.f1, .int .i64 r.err, .int .i64 r.value]] w fun e w' => e = .returned (.tuple #[.slice none 0 0, .int .i64 21]) ∧ Below w.heap.size w w' := by
  have hu50 := Try.underlying50
  have hu27 := Try.underlying27
  obtain ⟨wa, hwa⟩ : ∃ wa, wa = w.alloc (.cells #[.int .i64 r.call.f0, .int .i64 r.call.f1, .int .i64 r.err, .int .i64 r.value] 50 (0, 0)) := ⟨_, rfl⟩
  have HWA := Aside0.mk hwa
  have HB : Aside0 (Below w.heap.size w wa) := ⟨by rw [hwa]; exact al_below w _⟩
  have BK1 : Aside0 (wa.heap[w.heap.size]? = some (.cells #[.int .i64 r.call.f0, .int .i64 r.call.f1, .int .i64 r.err, .int .i64 r.value] 50 (0, 0))) := ⟨by rw [hwa]; exact heap_alloc_new w _⟩
  clear hwa
  have kz0 : wa.cell? ⟨w.heap.size, 0, none⟩ = some (.int .i64 r.call.f0) := (blk_cell BK1.out 0).trans rfl
  have kz1 : wa.cell? ⟨w.heap.size, 1, none⟩ = some (.int .i64 r.call.f1) := (blk_cell BK1.out 1).trans rfl
  have kz2 : wa.cell? ⟨w.heap.size, 2, none⟩ = some (.int .i64 r.err) := (blk_cell BK1.out 2).trans rfl
  go_enter Try.func34, Try.ntmps34
  go_upto_region 1 with fail
  rw [← HWA.out]
  by_cases hb1 : dcd (callV ⟨r.call.f0, r.call.f1⟩) = true
  · have hb2 : bB r.err 0 255 = false := by cases hh : bB r.err 0 255 with | false => rfl | true => exact absurd ⟨hb1, hh⟩ h
    clear h
    go_wp2_with (first | (go_at_call 63; refine (rightCall_calls _ r.call.f0 r.call.f1).mono ?_; rintro e w1 ⟨rfl, hb⟩; have n0_ := Aside0.mk (below_step HB.out hb); have n1_ := Aside0.mk (blk_keep hb BK1.out); clear HB BK1 hb; have HB := n0_; have BK1 := n1_; clear n0_ n1_; rw [hb1]; have kz2 : w1.cell? ⟨w.heap.size, 2, none⟩ = some (.int .i64 r.err) := (blk_cell BK1.out 2).trans rfl) | (go_at_call 66; refine (between_calls _ r.err 0 255).mono ?_; rintro e w0 ⟨rfl, hb⟩; have n0_ := Aside0.mk (below_step HB.out hb); have n1_ := Aside0.mk (blk_keep hb BK1.out); clear HB BK1 hb; have HB := n0_; have BK1 := n1_; clear n0_ n1_; rw [hb2]))
    go_ret2
    exact ⟨rfl, HB.out⟩
  · replace hb1 : dcd (callV ⟨r.call.f0, r.call.f1⟩) = false := by cases hh : dcd (callV ⟨r.call.f0, r.call.f1⟩) with | false => rfl | true => exact absurd hh hb1
    clear h
    go_wp2_with (go_at_call 63; refine (rightCall_calls _ r.call.f0 r.call.f1).mono ?_; rintro e w1 ⟨rfl, hb⟩; have n0_ := Aside0.mk (below_step HB.out hb); have n1_ := Aside0.mk (blk_keep hb BK1.out); clear HB BK1 hb; have HB := n0_; have BK1 := n1_; clear n0_ n1_; rw [hb1]; have kz2 : w1.cell? ⟨w.heap.size, 2, none⟩ = some (.int .i64 r.err) := (blk_cell BK1.out 2).trans rfl)
    go_ret2
    exact ⟨rfl, HB.out⟩
theorem encreq_calls (x : S25) (o : Sp.Op) (w : World) (h : isI o.a ∧ isI o.b) :
    Calls Try.prog 32 #[.agg #[.int .i64 x.f0, .int .i64 x.f1], .agg #[.int .i64 o.kind, .string o.name, .int .i64 o.a, .int .i64 o.b]] w fun e w' => ∃ v, e = .returned (.tuple #[v, .int .i64 (lay reqB reqV (x, o)).2]) ∧ Kd.R (Kd.int .u8) 5 w' w.heap.size (fun _ => True) v (lay reqB reqV (x, o)).1 ∧ Below w.heap.size w w' := by
  by_cases hv : reqV (x, o)
  · rw [lay_ok hv]
    exact encreq1_calls x o w hv.1 hv.2
  · rw [lay_no hv]
    refine (encreq0_calls x o w (fun hh => hv ⟨dcd_iff.mp hh.1, (oB_iff o h).mp hh.2⟩)).mono ?_
    rintro e w' ⟨rfl, hb⟩
    exact ⟨_, rfl, Kd.R_nil _ _ _ _ _, hb⟩
theorem encrep_calls (r : Rep) (w : World) (h : isI r.value) :
    Calls Try.prog 34 #[.agg #[.int .i64 r.call.f0, .int .i64 r.call.f1, .int .i64 r.err, .int .i64 r.value]] w fun e w' => ∃ v, e = .returned (.tuple #[v, .int .i64 (lay repB repV r).2]) ∧ Kd.R (Kd.int .u8) 5 w' w.heap.size (fun _ => True) v (lay repB repV r).1 ∧ Below w.heap.size w w' := by
  by_cases hv : repV r
  · rw [lay_ok hv]
    exact encrep1_calls r w hv
  · rw [lay_no hv]
    refine (encrep0_calls r w (fun hh => hv ⟨dcd_iff.mp hh.1, dcd_iff.mp hh.2, h⟩)).mono ?_
    rintro e w' ⟨rfl, hb⟩
    exact ⟨_, rfl, Kd.R_nil _ _ _ _ _, hb⟩
end Go.Proofs.Ytpgdmmjbhjbbhaa.En
end
section
namespace Go.Proofs.Ytpgdmmjbhjbbhaa.En
open Go Go.RowKit Go.Proofs.Ytpgdmmjbhjbbhaa.P Go.Proofs.Ytpgdmmjbhjbbhaa.Sp Go.Proofs.Ytpgdmmjbhjbbhaa.Vd Go.Proofs.Ytpgdmmjbhjbbhaa.Wr Go.Proofs.YtpgdmmjbhjbbhaaW.PrintWords Go.Proofs.YtpgdmmjbhjbbhaaW.PrintLast Go.Proofs.YtpgdmmjbhjbbhaaW.PrintMore
set_option linter.unusedVariables false
set_option linter.unusedSimpArgs false
def SVc (s : Seg) (A : Option Addr) (c : Nat) : Array Value := #[.int .i64 s.src, .int .i64 s.dst, .int .i64 s.seq, .int .i64 s.ack, .slice A s.data.length c]
/-- A segment, as a value. -/
def SV (s : Seg) (A : Option Addr) (c : Nat) : Value := .agg (SVc s A c)
theorem kM8 {W : World} {base : Nat} : ∀ (x : Int) (cs : List Value), (Kd.int .u8).K W x cs → (Kd.int .u8).M W base (fun _ => False) x cs := fun x cs h => h
/-- the numbers of a segment -/
noncomputable def sgB (s : Seg) : Bool := bB s.src 0 15 && bB s.dst 0 15 && bB s.seq 0 1099511627776 && bB s.ack 0 1099511627776
theorem sg_iff (s : Seg) (h : IsB s.data) : segV s ↔ sgB s = true ∧ s.data.length ≤ 4000 ∧ ((s.seq == 0) = ((s.data.length : Int) == 0)) := by
  unfold segV sgB
  simp only [Bool.and_eq_true, bB_iff]
  have h2 : ((s.seq == 0) = ((s.data.length : Int) == 0)) ↔ (s.seq = 0 ↔ (s.data.length : Int) = 0) := by
    rw [Bool.eq_iff_iff, beq_iff_eq, beq_iff_eq]
  rw [h2]
  constructor
  · rintro ⟨a, b, c, d, e, f⟩
    refine ⟨⟨⟨⟨a, b⟩, c⟩, d⟩, by split at e <;> omega, by split at e <;> omega⟩
  · rintro ⟨⟨⟨⟨a, b⟩, c⟩, d⟩, e, f⟩
    refine ⟨a, b, c, d, ?_, h⟩
    split <;> omega
set_option maxHeartbeats 8000000 in
set_option maxRecDepth 100000 in
theorem encseg1_calls (s : Seg) (A : Option Addr) (c : Nat) (w : World) (hr : Kd.C (Kd.int .u8) w A s.data.length s.data) (hc : s.data.length ≤ c) (z : Bool) (hz1 : (s.seq == 0) = z) (hz2 : ((s.data.length : Int) == 0) = z) (hv : segV s) :
    Calls Try.prog 27 #[SV s A c] w fun e w' => ∃ v, e = .returned (.tuple #[v, .int .i64 0]) ∧ Kd.R (Kd.int .u8) 5 w' w.heap.size (fun _ => True) v (segB s) ∧ Below w.heap.size w w' := by
  have hg := ((sg_iff s hv.2.2.2.2.2).mp hv).1
  unfold sgB at hg
  simp only [Bool.and_eq_true] at hg
  obtain ⟨⟨⟨hb1, hb2⟩, hb3⟩, hb4⟩ := hg
  have hl : (s.data.length : Int) ≤ 4000 := by have := ((sg_iff s hv.2.2.2.2.2).mp hv).2.1; omega
  have hl2 : ¬ ((s.data.length : Int) > 4000) := by omega
  have HLEN := Aside0.mk (seg_len hv)
  have HR := Aside0.mk hr
  clear hv hr hc
  have hu47 := Try.underlying47
  obtain ⟨wa, hwa⟩ : ∃ wa, wa = w.alloc (.cells (SVc s A c) 47 (0, 0)) := ⟨_, rfl⟩
  have HWA := Aside0.mk hwa
  have HB : Aside0 (Below w.heap.size w wa) := ⟨by rw [hwa]; exact al_below w _⟩
  have BK : Aside0 (wa.heap[w.heap.size]? = some (.cells (SVc s A c) 47 (0, 0))) := ⟨by rw [hwa]; exact heap_alloc_new w _⟩
  clear hwa
  have kz0 : wa.cell? ⟨w.heap.size, 0, none⟩ = some (.int .i64 s.src) := (blk_cell BK.out 0).trans rfl
  have kz1 : wa.cell? ⟨w.heap.size, 1, none⟩ = some (.int .i64 s.dst) := (blk_cell BK.out 1).trans rfl
  have kz2 : wa.cell? ⟨w.heap.size, 2, none⟩ = some (.int .i64 s.seq) := (blk_cell BK.out 2).trans rfl
  have kz3 : wa.cell? ⟨w.heap.size, 3, none⟩ = some (.int .i64 s.ack) := (blk_cell BK.out 3).trans rfl
  go_enter Try.func27, Try.ntmps27
  unfold SV
  go_upto_region 1 with fail
  rw [← HWA.out]
  go_upto_region 2 with (go_at_call 66; refine (between_calls _ _ _ _).mono ?_; rintro e w0 ⟨rfl, hb⟩; have n0_ := Aside0.mk (below_step HB.out hb); have n1_ := Aside0.mk (blk_keep hb BK.out); clear HB BK hb kz0 kz1 kz2 kz3; have HB := n0_; have BK := n1_; clear n0_ n1_; (first | rw [hb1] | rw [hb2] | rw [hb3] | rw [hb4]); have kz0 : w0.cell? ⟨w.heap.size, 0, none⟩ = some (.int .i64 s.src) := (blk_cell BK.out 0).trans rfl; have kz1 : w0.cell? ⟨w.heap.size, 1, none⟩ = some (.int .i64 s.dst) := (blk_cell BK.out 1).trans rfl; have kz2 : w0.cell? ⟨w.heap.size, 2, none⟩ = some (.int .i64 s.seq) := (blk_cell BK.out 2).trans rfl; have kz3 : w0.cell? ⟨w.heap.size, 3, none⟩ = some (.int .i64 s.ack) := (blk_cell BK.out 3).trans rfl)
  have kz4 : w0.cell? ⟨w.heap.size, 4, none⟩ = some (.slice A s.data.length c) := (blk_cell BK.out 4).trans rfl
  go_upto_region 4 with fail
  clear kz0 kz1 kz2 kz3 kz4
  obtain ⟨w1, hw1⟩ : ∃ w1, w1 = w0.alloc (.cells #[.slice none 0 0] 99 (0, 0)) := ⟨_, rfl⟩
  have HW1 := Aside0.mk hw1
  have HS0 : Aside0 (WS w w1 w0.heap.size [] (.slice none 0 0)) := ⟨by rw [hw1]; exact ⟨heap_alloc_new w0 _, HB.out.size, Kd.R_nil _ _ _ _ _, below_alloc HB.out _⟩⟩
  have HX1 : Aside0 (w1.heap[w.heap.size]? = some (.cells (SVc s A c) 47 (0, 0))) := ⟨by rw [hw1]; exact blk_keep (al_below w0 _) BK.out⟩
  clear hw1
  go_upto_region 5 with fail
  rw [← HW1.out]
  have kz0 : w1.cell? ⟨w.heap.size, 0, none⟩ = some (.int .i64 s.src) := (blk_cell HX1.out 0).trans rfl
  have kz1 : w1.cell? ⟨w.heap.size, 1, none⟩ = some (.int .i64 s.dst) := (blk_cell HX1.out 1).trans rfl
  have kz2 : w1.cell? ⟨w.heap.size, 2, none⟩ = some (.int .i64 s.seq) := (blk_cell HX1.out 2).trans rfl
  have kz3 : w1.cell? ⟨w.heap.size, 3, none⟩ = some (.int .i64 s.ack) := (blk_cell HX1.out 3).trans rfl
  have kz4 : w1.cell? ⟨w.heap.size, 4, none⟩ = some (.slice A s.data.length c) := (blk_cell HX1.out 4).trans rfl
  have HT : Aside0 (segB s = numsB [s.src, s.dst, s.seq, s.ack, (s.data.length : Int)] ++ s.data) := ⟨by simp [segB, numsB]⟩
  have HB0 : Aside0 (([] : List Int).length + (numsB [s.src, s.dst, s.seq, s.ack, (s.data.length : Int)]).length ≤ 1099511627776) := ⟨by have h1 := congrArg List.length HT.out; have := HLEN.out; rw [List.length_append] at h1; rw [List.length_nil]; omega⟩
  have HL0 : Aside0 (IsL (w1.alloc (.cells #[.int .i64 s.src, .int .i64 s.dst, .int .i64 s.seq, .int .i64 s.ack, .int .i64 (s.data.length : Int)] 3 (0, 0))) w1.heap.size [s.src, s.dst, s.seq, s.ack, (s.data.length : Int)]) := ⟨heap_alloc_new w1 _⟩
  go_upto_region 6 with (go_at_call 53; refine (nums_calls w _ _ [] (.slice none 0 0) _ [s.src, s.dst, s.seq, s.ack, (s.data.length : Int)] _ _ rfl (HS0.out.below (al_below w1 _)) HL0.out HB0.out (by simp)).mono ?_; rintro e w2 ⟨rfl, v2, hS1, hst⟩; have HS1 := Aside0.mk hS1; have HST1 : Aside0 (Stay w1 w2) := ⟨(Stay.below (al_below w1 _)).trans hst⟩; clear hS1 hst kz0 kz1 kz2 kz3 kz4)
  obtain ⟨Az, nz, cz, rfl⟩ := R_sl HS1.out.row
  have HBD : Aside0 (Below w2.heap.size w2 w2.drew) := ⟨(Below.refl _ _).drew⟩
  have kw : w2.drew.cell? ⟨w0.heap.size, 0, none⟩ = some (.slice Az nz cz) := (blk_cell (blk_keep HBD.out HS1.out.blk) 0).trans rfl
  have kz4 : w2.drew.cell? ⟨w.heap.size, 4, none⟩ = some (.slice A s.data.length c) := (blk_cell (blk_keep HBD.out (HST1.out _ _ _ (by decide) (by decide) HX1.out)) 4).trans rfl
  have HR2 : Aside0 (Kd.R (Kd.int .u8) 5 w2.drew w.heap.size (fun _ => True) (.slice Az nz cz) ([] ++ numsB [s.src, s.dst, s.seq, s.ack, (s.data.length : Int)])) := ⟨Kd.R_below HS1.out.row HBD.out⟩
  have HB2 : Aside0 (Below w.heap.size w w2.drew) := ⟨HS1.out.bel.drew⟩
  have HC2 : Aside0 (Kd.C (Kd.int .u8) w2.drew A s.data.length s.data) := ⟨Kd.C_below HR.out HB2.out⟩
  have HZ2 : Aside0 ((([] ++ numsB [s.src, s.dst, s.seq, s.ack, (s.data.length : Int)]).length + s.data.length) * 1 ≤ 140737488355328) := ⟨by have h1 := congrArg List.length HT.out; have := HLEN.out; rw [List.length_append] at h1; rw [List.nil_append]; omega⟩
  go_region_law (refine Kd.R_append_rows_step (Kd.int .u8) (Rr := Kd.K (Kd.int .u8) w2.drew) (w0 := w) w.heap.size rfl (.tmp 61) (.tmp 63) 36 5 (.int .u8 0) 1 (by rfl) Try.underlying36 inf8 rfl (by decide) (by decide) (.slice Az nz cz) _ s.data A s.data.length c (fun _ => True) (fun _ => False) (by rfl) (by simp [Act.eval, Act.put]) HR2.out HC2.out kM8 (fun _ hk => hk.elim) (fun _ _ => trivial) HB2.out HB2.out.size HZ2.out ?_; intro v3 w3 hR3 hB3 hg3 hat3; have HR3 := Aside0.mk hR3; have HB3 := Aside0.mk hB3; clear hR3 hB3 hg3 hat3)
  all_goals (go_wp2_with fail)
  all_goals go_ret2
  all_goals (refine ⟨v3, rfl, ?_, HB3.out⟩; have h3 := HR3.out; rw [List.nil_append, ← HT.out] at h3; exact h3)
set_option maxHeartbeats 8000000 in
set_option maxRecDepth 100000 in
theorem encseg0_calls (s : Seg) (A : Option Addr) (c : Nat) (w : World) (hr : Kd.C (Kd.int .u8) w A s.data.length s.data) (hd : IsB s.data) (hv : ¬ segV s) :
    Calls Try.prog 27 #[SV s A c] w fun e w' => e = .returned (.tuple #[.slice none 0 0, .int .i64 21]) ∧ Below w.heap.size w w' := by
  have hvv : ¬ (sgB s = true ∧ s.data.length ≤ 4000 ∧ ((s.seq == 0) = ((s.data.length : Int) == 0))) := fun h => hv ((sg_iff s hd).mpr h)
  have HV := Aside0.mk hvv
  have HR := Aside0.mk hr
  clear hv hvv hr hd
  have hu47 := Try.underlying47
  obtain ⟨wa, hwa⟩ : ∃ wa, wa = w.alloc (.cells (SVc s A c) 47 (0, 0)) := ⟨_, rfl⟩
  have HWA := Aside0.mk hwa
  have HB : Aside0 (Below w.heap.size w wa) := ⟨by rw [hwa]; exact al_below w _⟩
  have BK : Aside0 (wa.heap[w.heap.size]? = some (.cells (SVc s A c) 47 (0, 0))) := ⟨by rw [hwa]; exact heap_alloc_new w _⟩
  clear hwa
  have kz0 : wa.cell? ⟨w.heap.size, 0, none⟩ = some (.int .i64 s.src) := (blk_cell BK.out 0).trans rfl
  have kz1 : wa.cell? ⟨w.heap.size, 1, none⟩ = some (.int .i64 s.dst) := (blk_cell BK.out 1).trans rfl
  have kz2 : wa.cell? ⟨w.heap.size, 2, none⟩ = some (.int .i64 s.seq) := (blk_cell BK.out 2).trans rfl
  have kz3 : wa.cell? ⟨w.heap.size, 3, none⟩ = some (.int .i64 s.ack) := (blk_cell BK.out 3).trans rfl
  go_enter Try.func27, Try.ntmps27
  unfold SV
  go_upto_region 1 with fail
  rw [← HWA.out]
  go_cut [4] from 6 (fun v4 wx => v4 = .bool (sgB s) ∧ Aside0 (Below w.heap.size w wx ∧ wx.heap[w.heap.size]? = some (.cells (SVc s A c) 47 (0, 0))))
  case first =>
    go_wp2_with (go_at_call 66; refine (between_calls _ _ _ _).mono ?_; rintro e w0 ⟨rfl, hb⟩; have n0_ := Aside0.mk (below_step HB.out hb); have n1_ := Aside0.mk (blk_keep hb BK.out); clear HB BK hb kz0 kz1 kz2 kz3; have HB := n0_; have BK := n1_; clear n0_ n1_; have kz0 : w0.cell? ⟨w.heap.size, 0, none⟩ = some (.int .i64 s.src) := (blk_cell BK.out 0).trans rfl; have kz1 : w0.cell? ⟨w.heap.size, 1, none⟩ = some (.int .i64 s.dst) := (blk_cell BK.out 1).trans rfl; have kz2 : w0.cell? ⟨w.heap.size, 2, none⟩ = some (.int .i64 s.seq) := (blk_cell BK.out 2).trans rfl; have kz3 : w0.cell? ⟨w.heap.size, 3, none⟩ = some (.int .i64 s.ack) := (blk_cell BK.out 3).trans rfl)
    all_goals go_meet
    all_goals exact ⟨congrArg Value.bool (by first | (simp [sgB, *]; done) | (simp_all [sgB]; done)), ⟨HB.out, BK.out⟩⟩
  case rest =>
    obtain ⟨rfl, HH⟩ := hcut
    have HB2 := Aside0.mk HH.out.1
    have BK2 := Aside0.mk HH.out.2
    clear HH HB BK kz0 kz1 kz2 kz3
    have kz2 : wc.cell? ⟨w.heap.size, 2, none⟩ = some (.int .i64 s.seq) := (blk_cell BK2.out 2).trans rfl
    have kz4 : wc.cell? ⟨w.heap.size, 4, none⟩ = some (.slice A s.data.length c) := (blk_cell BK2.out 4).trans rfl
    obtain ⟨q, hq⟩ : ∃ q, q = sgB s := ⟨_, rfl⟩
    rw [← hq]
    have HQ := Aside0.mk hq
    clear hq
    obtain rfl | rfl : q = true ∨ q = false := by cases q <;> simp
    · by_cases hl : (s.data.length : Int) > 4000
      · go_wp2_with fail
        go_ret2
        exact ⟨rfl, HB2.out⟩
      · obtain ⟨z, hz⟩ : ∃ z, z = (s.seq == 0) := ⟨_, rfl⟩
        obtain ⟨y, hy⟩ : ∃ y, y = ((s.data.length : Int) == 0) := ⟨_, rfl⟩
        have hne : z ≠ y := fun e => HV.out ⟨HQ.out.symm, by omega, by rw [← hz, ← hy]; exact e⟩
        have hz1 := hz.symm
        have hy1 := hy.symm
        clear hz hy
        obtain rfl | rfl : z = true ∨ z = false := by cases z <;> simp
        · obtain rfl : y = false := by cases y <;> simp_all
          clear hne
          go_wp2_with fail
          go_ret2
          exact ⟨rfl, HB2.out⟩
        · obtain rfl : y = true := by cases y <;> simp_all
          clear hne
          go_wp2_with fail
          go_ret2
          exact ⟨rfl, HB2.out⟩
    · go_wp2_with fail
      go_ret2
      exact ⟨rfl, HB2.out⟩
theorem encseg_calls (s : Seg) (A : Option Addr) (c : Nat) (w : World) (hr : Kd.C (Kd.int .u8) w A s.data.length s.data) (hc : s.data.length ≤ c) (hd : IsB s.data) :
    Calls Try.prog 27 #[SV s A c] w fun e w' => ∃ v, e = .returned (.tuple #[v, .int .i64 (lay segB segV s).2]) ∧ Kd.R (Kd.int .u8) 5 w' w.heap.size (fun _ => True) v (lay segB segV s).1 ∧ Below w.heap.size w w' := by
  by_cases hv : segV s
  · rw [lay_ok hv]
    exact encseg1_calls s A c w hr hc (s.seq == 0) rfl ((sg_iff s hd).mp hv).2.2.symm hv
  · rw [lay_no hv]
    refine (encseg0_calls s A c w hr hd hv).mono ?_
    rintro e w' ⟨rfl, hb⟩
    exact ⟨_, rfl, Kd.R_nil _ _ _ _ _, hb⟩
end Go.Proofs.Ytpgdmmjbhjbbhaa.En
end
section
namespace Go.Proofs.Ytpgdmmjbhjbbhaa.Sp
open Go Go.RowKit Go.Proofs.Ytpgdmmjbhjbbhaa.P Go.Proofs.YtpgdmmjbhjbbhaaW.PrintWords Go.Proofs.YtpgdmmjbhjbbhaaW.PrintLast Go.Proofs.YtpgdmmjbhjbbhaaW.PrintMore
theorem and127f : ∀ y : Fin 256, bits BinOp.and IntKind.u8 (y.val : Int) 127 = ((y.val % 128 : Nat) : Int) := by decide +kernel
theorem and127 (x : Int) (h0 : 0 ≤ x) (h1 : x ≤ 255) : bits BinOp.and IntKind.u8 x 127 = ((x.toNat % 128 : Nat) : Int) := by
  have h := and127f ⟨x.toNat, by omega⟩
  simp only at h
  rwa [Int.toNat_of_nonneg h0] at h
theorem pow128 (k : Nat) : 128 ^ k = 2 ^ (7 * k) := by rw [Nat.pow_mul]
/-- seven bits more -/
theorem or_step (acc y k : Nat) (hk : k ≤ 9) (hacc : acc < 128 ^ k) (hy : y < 128) (h9 : k = 9 → y ≤ 1) : bits BinOp.or IntKind.u64 (acc : Int) (((y * 2 ^ (7 * k)) % 18446744073709551616 : Nat) : Int) = ((acc + 128 ^ k * y : Nat) : Int) := by
  have hp : y * 2 ^ (7 * k) < 18446744073709551616 := by
    rcases Nat.lt_or_ge k 9 with h | h
    · have h2 : 2 ^ (7 * k) ≤ 2 ^ 56 := Nat.pow_le_pow_right (by decide) (by omega)
      have h3 : y * 2 ^ (7 * k) ≤ 127 * 2 ^ 56 := Nat.mul_le_mul (by omega) h2
      omega
    · have : k = 9 := by omega
      subst this
      have := h9 rfl
      have h3 : y * 2 ^ (7 * 9) ≤ 1 * 2 ^ 63 := Nat.mul_le_mul this (Nat.le_refl _)
      omega
  rw [Nat.mod_eq_of_lt hp]
  have ha : acc < 2 ^ (7 * k) := by rw [← pow128]; exact hacc
  have ha2 : acc < 18446744073709551616 := by
    have h2 : 2 ^ (7 * k) ≤ 2 ^ 63 := Nat.pow_le_pow_right (by decide) (by omega)
    omega
  rw [bits_or_u64_nat _ _ ha2 hp, Nat.or_comm, ← Nat.shiftLeft_eq, ← Nat.shiftLeft_add_eq_or_of_lt ha, Nat.shiftLeft_eq, pow128, Nat.mul_comm y, Nat.add_comm]
/-- the reader's sign -/
theorem and1 (n : Nat) (h : n < 18446744073709551616) : bits BinOp.and IntKind.u64 (n : Int) 1 = ((n % 2 : Nat) : Int) := by
  have := u64_and_nat n 1 h (by decide)
  rw [Nat.and_one_is_mod] at this
  exact this
theorem ofInt_u64' (a : Nat) (h : a < 18446744073709551616) : (BitVec.ofInt 64 (a : Int)).toNat = a := by
  rw [BitVec.toNat_ofInt]
  omega
theorem i64_xor0 (a : Nat) (ha : a < 9223372036854775808) : bits .xor .i64 (a : Int) 0 = (a : Int) := by
  show IntKind.i64.wrap ((BitVec.ofInt 64 (a : Int) ^^^ BitVec.ofInt 64 0).toNat : Int) = _
  have h1 : BitVec.ofInt 64 0 = 0#64 := by decide
  rw [h1, BitVec.xor_zero, ofInt_u64' a (by omega)]
  simp [IntKind.wrap, IntKind.bits, IntKind.signed]
  omega
theorem i64_xor1 (a : Nat) (ha : a < 9223372036854775808) : bits .xor .i64 (a : Int) (-1) = -1 - (a : Int) := by
  show IntKind.i64.wrap ((BitVec.ofInt 64 (a : Int) ^^^ BitVec.ofInt 64 (-1)).toNat : Int) = _
  have h1 : BitVec.ofInt 64 (-1) = BitVec.allOnes 64 := by decide
  rw [h1, BitVec.xor_allOnes, BitVec.toNat_not, ofInt_u64' a (by omega)]
  simp [IntKind.wrap, IntKind.bits, IntKind.signed]
  omega
theorem sign_read (n : Nat) (h : n < 18446744073709551616) : bits BinOp.xor IntKind.i64 ((n : Int) / 2) (wrap64 (-wrap64 (bits BinOp.and IntKind.u64 (n : Int) 1))) = unsign n := by
  rw [and1 n h, show ((n : Int) / 2) = ((n / 2 : Nat) : Int) from by omega]
  unfold unsign
  by_cases h2 : n % 2 = 0
  · rw [h2, if_pos rfl, show wrap64 (-wrap64 ((0 : Nat) : Int)) = 0 from by unfold wrap64; omega]
    exact i64_xor0 _ (by omega)
  · rw [show n % 2 = 1 from by omega, if_neg (by decide), show wrap64 (-wrap64 ((1 : Nat) : Int)) = -1 from by unfold wrap64; omega, i64_xor1 _ (by omega)]
    omega
end Go.Proofs.Ytpgdmmjbhjbbhaa.Sp
end
section
namespace Go.Proofs.Ytpgdmmjbhjbbhaa.Rd
open Go Go.RowKit Go.Proofs.Ytpgdmmjbhjbbhaa.P Go.Proofs.Ytpgdmmjbhjbbhaa.Sp Go.Proofs.Ytpgdmmjbhjbbhaa.Vd Go.Proofs.Ytpgdmmjbhjbbhaa.Wr Go.Proofs.YtpgdmmjbhjbbhaaW.PrintWords Go.Proofs.YtpgdmmjbhjbbhaaW.PrintLast Go.Proofs.YtpgdmmjbhjbbhaaW.PrintMore
set_option linter.unusedVariables false
set_option linter.unusedSimpArgs false
/-- All blocks but g's stay. -/
structure Kb (g : Nat) (w w1 : World) : Prop where
  size : w.heap.size ≤ w1.heap.size
  block : ∀ k, k < w.heap.size → k ≠ g → w1.heap[k]? = w.heap[k]?
theorem Kb.refl (g : Nat) (w : World) : Kb g w w := ⟨Nat.le_refl _, fun _ _ _ => rfl⟩
theorem Kb.trans {g : Nat} {a b c : World} (h : Kb g a b) (k : Kb g b c) : Kb g a c := ⟨Nat.le_trans h.size k.size, fun i hi hg => (k.block i (Nat.lt_of_lt_of_le hi h.size) hg).trans (h.block i hi hg)⟩
theorem Kb.below {g : Nat} {a b : World} (h : Below a.heap.size a b) : Kb g a b := ⟨h.size, fun i hi _ => h.block i hi⟩
theorem Kb.set (g i : Nat) (w : World) (v : Value) : Kb g w (w.setCell ⟨g, i, none⟩ v) := ⟨Nat.le_of_eq (by first | rw [World.size_setCell] | simp), fun k _ hk => Below.heap_setCell w ⟨g, i, none⟩ v k hk⟩
/-- What is read, for all that follows: the bytes, below w0. -/
structure In (w0 : World) (A : Option Addr) (c : Nat) (b : List Int) : Prop where
  row : Kd.C (Kd.int .u8) w0 A b.length b
  isB : IsB b
  cap : b.length ≤ c
theorem In.len {w0 : World} {A : Option Addr} {c : Nat} {b : List Int} (h : In w0 A c b) : b.length ≤ 9223372036854775807 := by have := h.row.2.1; omega
/-- The place behind which l is left. -/
def pl (b l : List Int) : Int := (b.length : Int) - l.length
/-- The reader's state: l is left. -/
structure RS (w0 w : World) (g : Nat) (A : Option Addr) (c : Nat) (b l : List Int) : Prop where
  blk : w.heap[g]? = some (.cells #[.slice A b.length c, .int .i64 (pl b l)] 141 (0, 0))
  ge : w0.heap.size ≤ g
  bel : Below w0.heap.size w0 w
  suf : ∃ pre, b = pre ++ l
theorem RS.below {w0 w w1 : World} {g : Nat} {A : Option Addr} {c : Nat} {b l : List Int} (h : RS w0 w g A c b l) (hb : Below w.heap.size w w1) : RS w0 w1 g A c b l :=
  ⟨(hb.block g (blk_lt h.blk)).trans h.blk, h.ge, h.bel.trans (hb.mono h.bel.size), h.suf⟩
theorem RS.le {w0 w : World} {g : Nat} {A : Option Addr} {c : Nat} {b l : List Int} (h : RS w0 w g A c b l) : l.length ≤ b.length := by
  obtain ⟨pre, hp⟩ := h.suf
  rw [hp, List.length_append]
  omega
theorem RS.isB {w0 w : World} {g : Nat} {A : Option Addr} {c : Nat} {b l : List Int} (h : RS w0 w g A c b l) (hi : IsB b) : IsB l := by
  obtain ⟨pre, hp⟩ := h.suf
  rw [hp] at hi
  exact (IsB.append.mp hi).2
/-- The byte at the place. -/
theorem rd_pl {b l : List Int} {x : Int} {r : List Int} (h : ∃ pre, b = pre ++ l) (hl : l = x :: r) : rd b (pl b l) = x ∧ 0 ≤ pl b l ∧ pl b l < (b.length : Int) ∧ pl b r = pl b l + 1 := by
  obtain ⟨pre, rfl⟩ := h
  subst hl
  have h1 : pl (pre ++ x :: r) (x :: r) = (pre.length : Int) := by unfold pl; rw [List.length_append]; omega
  refine ⟨?_, by rw [h1]; omega, by rw [h1, List.length_append, List.length_cons]; omega, ?_⟩
  · rw [h1]
    unfold rd
    rw [Int.toNat_natCast, List.getD_eq_getElem?_getD]
    simp
  · unfold pl
    rw [List.length_cons]
    omega
/-- A store of the place. -/
theorem RS.put {w0 w : World} {g : Nat} {A : Option Addr} {c : Nat} {b l r : List Int} (h : RS w0 w g A c b l) (n : Int) (hn : n = pl b r) (hs : ∃ pre, b = pre ++ r) : RS w0 (w.setCell ⟨g, 1, none⟩ (.int .i64 n)) g A c b r := by
  subst hn
  exact ⟨blk_set h.blk 1 _, h.ge, h.bel.setCell h.ge _, hs⟩
/-- The panic with a place. -/
def pan (n : Int) : Ending := .panicked [{ v := .iface 138 (.int .i64 n), recovered := false }]
/-- What a reading call leaves: a panic with the place, or the thing and the state behind it. -/
def Left {α : Type} (w0 w : World) (g : Nat) (A : Option Addr) (c : Nat) (b : List Int) (enc : α → Value) (r : R α) (e : Ending) (w1 : World) : Prop :=
  Kb g w w1 ∧ Below w0.heap.size w0 w1 ∧ match r with
    | .bad n => e = pan ((b.length : Int) - n)
    | .ok x l => e = .returned (enc x) ∧ RS w0 w1 g A c b l
/-- A number, and where it began. -/
def bigP : Rdr (Nat × Nat) := fun l => match rawP l with
  | .bad n => .bad n
  | .ok n r => .ok (n, l.length) r
/-- What the bytes behind say, with what was gathered ahead. -/
def ext (acc k : Nat) : NR → NR
  | .cut => .cut
  | .bad => .bad
  | .ok n r => .ok (acc + 128 ^ k * n) r
theorem ext0 (x : NR) : ext 0 0 x = x := by cases x <;> simp [ext]
set_option maxHeartbeats 4000000 in
set_option maxRecDepth 100000 in
theorem big_calls (w0 w : World) (g : Nat) (A : Option Addr) (c : Nat) (b l : List Int) (hi : In w0 A c b) (h : RS w0 w g A c b l) :
    Calls Try.prog 113 #[.pointer (some ⟨g, 0, none⟩)] w fun e w' => Left w0 w g A c b (fun x : Nat × Nat => .tuple #[.int .u64 (x.1 : Int), .int .i64 ((b.length : Int) - x.2)]) (bigP l) e w' := by
  have HI := Aside0.mk hi
  have HS := Aside0.mk h
  clear hi h
  have kz1 : w.cell? ⟨g, 1, none⟩ = some (.int .i64 (pl b l)) := (blk_cell HS.out.blk 1).trans rfl
  go_enter Try.func113, Try.ntmps113
  go_wp2_with fail
  go_loopw [5, 6] (fun v5 v6 wr => ∃ (k acc : Nat) (l' : List Int), v5 = .int .u64 (acc : Int) ∧ v6 = .int .i64 ((7 * k : Nat) : Int) ∧ Aside0 (k ≤ 9 ∧ acc < 128 ^ k ∧ numGo 0 l = ext acc k (numGo k l') ∧ RS w0 wr g A c b l' ∧ Kb g w wr)) (fun _ v6 _ => 70 - (intOf v6).toNat)
  case atStart => exact ⟨0, 0, l, rfl, rfl, ⟨Nat.zero_le _, by decide, by rw [ext0], HS.out, Kb.refl _ _⟩⟩
  case round =>
    obtain ⟨k, acc, l', rfl, rfl, HR⟩ := hrel
    clear kz1
    have kz0 : wr.cell? ⟨g, 0, none⟩ = some (.slice A b.length c) := (blk_cell HR.out.2.2.2.1.blk 0).trans rfl
    have kz1 : wr.cell? ⟨g, 1, none⟩ = some (.int .i64 (pl b l')) := (blk_cell HR.out.2.2.2.1.blk 1).trans rfl
    rcases hl' : l' with _ | ⟨x, r⟩
    · have hpl : pl b l' = (b.length : Int) := by rw [hl']; unfold pl; simp
      rw [hpl] at kz1
      have HL := Aside0.mk hl'
      go_wp2_with fail
      go_quiet (fail)
      go_wp2_with fail
      refine ⟨rfl, ?_⟩
      have hb2 : Below wr.heap.size wr (wr.drewN nq) := pw_below_drewN (Below.refl _ _) nq
      refine ⟨HR.out.2.2.2.2.trans (Kb.below hb2), HR.out.2.2.2.1.bel.trans (hb2.mono HR.out.2.2.2.1.bel.size), ?_⟩
      have h1 := HR.out.2.2.1
      rw [HL.out] at h1
      have h2 : bigP l = .bad 0 := by unfold bigP rawP; rw [h1]; rfl
      rw [h2]
      simp [pan]
    · obtain ⟨j, hj⟩ : ∃ j, j = pl b l' := ⟨_, rfl⟩
      rw [← hj] at kz1
      obtain ⟨hx1, hx2, hx3, hx4⟩ := rd_pl HR.out.2.2.2.1.suf hl'
      rw [← hj] at hx1 hx2 hx3 hx4
      have HL := Aside0.mk hl'
      have HJ := Aside0.mk hj
      have HX4 := Aside0.mk hx4
      clear hl' hj hx4
      have hjne : ¬ (j = (b.length : Int)) := by omega
      obtain ⟨ad, rfl, kx⟩ := Kd.at_int (Kd.C_below HI.out.row HR.out.2.2.2.1.bel) j hx2 hx3
      rw [hx1] at kx
      clear hx1
      go_wp2_with fail
      go_quiet (fail)
      have hf1 := frozen_of_row wr g 1 _ _ HR.out.2.2.2.1.blk
      have hxb : 0 ≤ x ∧ x ≤ 255 := by
        have := HR.out.2.2.2.1.isB HI.out.isB
        rw [HL.out] at this
        exact (IsB.cons.mp this).1
      obtain ⟨y, hy⟩ : ∃ y : Nat, y = x.toNat % 128 := ⟨_, rfl⟩
      have hand : bits BinOp.and IntKind.u8 x 127 = (y : Int) := by rw [hy]; exact and127 x hxb.1 hxb.2
      have hyw : IntKind.u64.wrap (y : Int) = (y : Int) := by rw [u64_wrap]; omega
      obtain ⟨N, hN⟩ : ∃ N : Int, bits BinOp.or IntKind.u64 (acc : Int) (IntKind.u64.wrap ((y : Int) * 2 ^ (7 * k))) = N := ⟨_, rfl⟩
      have HN : Aside0 ((k = 9 → y ≤ 1) → N = ((acc + 128 ^ k * y : Nat) : Int)) := ⟨fun h9 => by
        rw [← hN, u64_wrap, show ((y : Int) * 2 ^ (7 * k)) % 18446744073709551616 = (((y * 2 ^ (7 * k)) % 18446744073709551616 : Nat) : Int) from by rw [Int.natCast_emod, Int.natCast_mul, Int.natCast_pow]; rfl]
        exact or_step acc y k HR.out.1 HR.out.2.1 (by omega) h9⟩
      have HY := Aside0.mk hy
      have HXB := Aside0.mk hxb
      clear hy
      have hjw : wrap64 (j + 1) = j + 1 := by have := HI.out.len; unfold wrap64; omega
      have HW : Aside0 (∀ nd, RS w0 ((wr.drewN nd).setCell ⟨g, 1, none⟩ (.int .i64 (j + 1))) g (some ad) c b r ∧ Kb g w ((wr.drewN nd).setCell ⟨g, 1, none⟩ (.int .i64 (j + 1)))) := ⟨fun nd => by
        have hb2 : Below wr.heap.size wr (wr.drewN nd) := pw_below_drewN (Below.refl _ _) nd
        refine ⟨(HR.out.2.2.2.1.below hb2).put _ HX4.out.symm ?_, HR.out.2.2.2.2.trans ((Kb.below hb2).trans (Kb.set g 1 _ _))⟩
        obtain ⟨pre, hp⟩ := HR.out.2.2.2.1.suf
        exact ⟨pre ++ [x], by rw [hp, HL.out, List.append_assoc]; rfl⟩⟩
      have HG : Aside0 (numGo 0 l = ext acc k (numGo k (x :: r))) := ⟨by rw [HR.out.2.2.1, HL.out]⟩
      have hbad : numGo k (x :: r) = .bad → bigP l = .bad l.length := fun h => by unfold bigP rawP; rw [HG.out, h]; rfl
      have HBAD := Aside0.mk hbad
      have hk9 := HR.out.1
      clear hbad
      go_wp2_with fail
      go_quiet (fail)
      go_upto_region 11 with fail
      clear kz0 kz1 kx hf1 hand hyw hN hjw
      by_cases hx : x < 128
      · by_cases h1 : (k = 0 ∨ 0 < x) ∧ (k < 9 ∨ x = 1)
        · have HOK : Aside0 (bigP l = .ok ((acc + 128 ^ k * x.toNat), l.length) r) := ⟨by
            unfold bigP rawP
            rw [HG.out]
            simp only [numGo]
            rw [if_pos hx, if_pos h1]
            rfl⟩
          have HNN : Aside0 (N = ((acc + 128 ^ k * x.toNat : Nat) : Int)) := ⟨by rw [HN.out (fun h => by rw [HY.out]; omega), HY.out, Nat.mod_eq_of_lt (by omega)]⟩
          have hfin : ∀ wx, (∃ nd, wx = (wr.drewN nd).setCell ⟨g, 1, none⟩ (.int .i64 (j + 1))) → Left w0 w g (some ad) c b (fun x : Nat × Nat => .tuple #[.int .u64 (x.1 : Int), .int .i64 ((b.length : Int) - x.2)]) (bigP l) (.returned (.tuple #[.int .u64 N, .int .i64 (pl b l)])) wx := by
            rintro wx ⟨nd, rfl⟩
            refine ⟨(HW.out nd).2, (HW.out nd).1.bel, ?_⟩
            rw [HOK.out, HNN.out]
            exact ⟨rfl, (HW.out nd).1⟩
          have HFIN := Aside0.mk hfin
          clear hfin
          rcases Nat.eq_zero_or_pos k with h0 | h0
          · subst h0
            by_cases hx0 : x > 0
            · go_wp2_with fail
              go_ret2
              exact HFIN.out _ ⟨_, rfl⟩
            · go_wp2_with fail
              go_ret2
              exact HFIN.out _ ⟨_, rfl⟩
          · have hx0 : x > 0 := by omega
            have hk0 : (7 * (k : Int) == 0) = false := by rw [beq_eq_false_iff_ne]; omega
            by_cases h9 : k = 9
            · subst h9
              obtain rfl : x = 1 := by omega
              go_wp2_with fail
              go_ret2
              exact HFIN.out _ ⟨_, rfl⟩
            · have hk63 : (7 * (k : Int) == 63) = false := by rw [beq_eq_false_iff_ne]; omega
              go_wp2_with fail
              go_ret2
              exact HFIN.out _ ⟨_, rfl⟩
        · have hb3 : bigP l = .bad l.length := HBAD.out (by simp only [numGo]; rw [if_pos hx, if_neg h1])
          have hfin : ∀ wx, (∃ nd, wx = (wr.drewN nd).setCell ⟨g, 1, none⟩ (.int .i64 (j + 1))) → Left w0 w g (some ad) c b (fun x : Nat × Nat => .tuple #[.int .u64 (x.1 : Int), .int .i64 ((b.length : Int) - x.2)]) (bigP l) (.panicked [{ v := .iface 138 (.int .i64 (pl b l)), recovered := false }]) wx := by
            rintro wx ⟨nd, rfl⟩
            refine ⟨(HW.out nd).2, (HW.out nd).1.bel, ?_⟩
            rw [hb3]
            rfl
          have HFIN := Aside0.mk hfin
          clear hfin hb3
          have hk0 : (7 * (k : Int) == 0) = false := by rw [beq_eq_false_iff_ne]; omega
          by_cases hx0 : x > 0
          · have h9 : k = 9 := by omega
            subst h9
            have hx1 : (x == 1) = false := by rw [beq_eq_false_iff_ne]; omega
            have hx2 : ¬ (x = 1) := by omega
            go_wp2_with fail
            exact ⟨rfl, HFIN.out _ ⟨_, rfl⟩⟩
          · by_cases h9 : k = 9
            · subst h9
              go_wp2_with fail
              exact ⟨rfl, HFIN.out _ ⟨_, rfl⟩⟩
            · have hk63 : (7 * (k : Int) == 63) = false := by rw [beq_eq_false_iff_ne]; omega
              go_wp2_with fail
              exact ⟨rfl, HFIN.out _ ⟨_, rfl⟩⟩
      · by_cases h9 : 9 ≤ k
        · have hb3 : bigP l = .bad l.length := HBAD.out (by simp only [numGo]; rw [if_neg hx, if_pos h9])
          have hfin : ∀ wx, (∃ nd, wx = (wr.drewN nd).setCell ⟨g, 1, none⟩ (.int .i64 (j + 1))) → Left w0 w g (some ad) c b (fun x : Nat × Nat => .tuple #[.int .u64 (x.1 : Int), .int .i64 ((b.length : Int) - x.2)]) (bigP l) (.panicked [{ v := .iface 138 (.int .i64 (pl b l)), recovered := false }]) wx := by
            rintro wx ⟨nd, rfl⟩
            refine ⟨(HW.out nd).2, (HW.out nd).1.bel, ?_⟩
            rw [hb3]
            rfl
          have HFIN := Aside0.mk hfin
          clear hfin hb3
          obtain rfl : k = 9 := by omega
          go_wp2_with fail
          exact ⟨rfl, HFIN.out _ ⟨_, rfl⟩⟩
        · have HN2 : Aside0 (N = ((acc + 128 ^ k * y : Nat) : Int)) := ⟨HN.out (fun h => by omega)⟩
          have HA2 : Aside0 (acc + 128 ^ k * y < 128 ^ (k + 1)) := ⟨by
            have h1 : y ≤ 127 := by rw [HY.out]; omega
            have h2 : 128 ^ k * y ≤ 128 ^ k * 127 := Nat.mul_le_mul (Nat.le_refl _) h1
            have := HR.out.2.1
            rw [Nat.pow_succ]
            omega⟩
          have HG2 : Aside0 (numGo 0 l = ext (acc + 128 ^ k * y) (k + 1) (numGo (k + 1) r)) := ⟨by
            rw [HG.out]
            simp only [numGo]
            rw [if_neg hx, if_neg h9]
            cases numGo (k + 1) r with
            | cut => rfl
            | bad => rfl
            | ok n r' =>
              simp only [ext]
              rw [HY.out, Nat.pow_succ, Nat.mul_add, ← Nat.mul_assoc, Nat.add_assoc]⟩
          have hk63 : (7 * (k : Int) == 63) = false := by rw [beq_eq_false_iff_ne]; omega
          have HK9 : Aside0 (¬ 9 ≤ k) := ⟨h9⟩
          go_wp2_with fail
          go_roundw
          case rel => exact ⟨k + 1, acc + 128 ^ k * y, r, by rw [HN2.out], by go_num, ⟨by have := HK9.out; omega, HA2.out, HG2.out, (HW.out _).1, (HW.out _).2⟩⟩
          case measure => simp only [intOf]; have := HK9.out; first | omega | (go_num; omega) | (simp; omega)
end Go.Proofs.Ytpgdmmjbhjbbhaa.Rd
end
