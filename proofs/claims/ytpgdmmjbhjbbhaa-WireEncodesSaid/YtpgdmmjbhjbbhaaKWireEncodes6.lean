/- texts that the proof needs, laid together by a program of this session. -/
import Derived.Deep.Cut
import Derived.Test.YtpgdmmjbhjbbhaaKWireEncodes5
section
namespace Go.Proofs.Ytpgdmmjbhjbbhaa.Vd
open Go Go.RowKit Go.Proofs.Ytpgdmmjbhjbbhaa.P Go.Proofs.Ytpgdmmjbhjbbhaa.Sp Go.Proofs.YtpgdmmjbhjbbhaaW.PrintWords Go.Proofs.YtpgdmmjbhjbbhaaW.PrintLast Go.Proofs.YtpgdmmjbhjbbhaaW.PrintMore
set_option linter.unusedVariables false
set_option linter.unusedSimpArgs false
noncomputable def vp1 (m : Msg) : Bool := (dcd (callV ⟨m.call.f0, m.call.f1⟩) && oB m.op.kind m.op.name) && emB (m.name) (m.cap) (m.recaps) (m.epoch.f0) (m.epoch.f1) (m.over.f0) (m.over.f1) (m.rights.f0) (m.rights.f1) (m.held) (0) (0) (0) (⟨#[]⟩) (0) (0) (m.err) (m.value) m.views
def CS1 (m : Msg) (A : Option Addr) (c : Nat) : Nat → Array Value
  | 0 => #[.int .i64 1, .string m.name, .int .i64 m.cap, .int .i64 m.recaps, .int .i64 m.epoch.f0, .int .i64 m.epoch.f1, .int .i64 m.over.f0, .int .i64 m.over.f1, .int .i64 m.rights.f0, .int .i64 m.rights.f1, .int .i64 m.held, .int .i64 m.call.f0, .int .i64 m.call.f1, .int .i64 m.op.kind, .string m.op.name, .int .i64 m.op.a, .int .i64 m.op.b, .int .i64 m.err, .int .i64 m.value, .slice A m.views.length c]
  | _ => #[.int .i64 1, .string m.name, .int .i64 m.cap, .int .i64 m.recaps, .int .i64 m.epoch.f0, .int .i64 m.epoch.f1, .int .i64 m.over.f0, .int .i64 m.over.f1, .int .i64 m.rights.f0, .int .i64 m.rights.f1, .int .i64 m.held, .int .i64 0, .int .i64 0, .int .i64 0, .string ⟨#[]⟩, .int .i64 0, .int .i64 0, .int .i64 m.err, .int .i64 m.value, .slice A m.views.length c]
set_option maxHeartbeats 16000000 in
set_option maxRecDepth 100000 in
theorem valid1_calls (m : Msg) (A : Option Addr) (c : Nat) (w : World) (hr : Kd.C k87 w A m.views.length m.views) (hc : m.views.length ≤ c) :
    Calls Try.prog 21 #[.agg #[.int .i64 1, .string m.name, .int .i64 m.cap, .int .i64 m.recaps, .int .i64 m.epoch.f0, .int .i64 m.epoch.f1, .int .i64 m.over.f0, .int .i64 m.over.f1, .int .i64 m.rights.f0, .int .i64 m.rights.f1, .int .i64 m.held, .int .i64 m.call.f0, .int .i64 m.call.f1, .int .i64 m.op.kind, .string m.op.name, .int .i64 m.op.a, .int .i64 m.op.b, .int .i64 m.err, .int .i64 m.value, .slice A m.views.length c]] w fun e w' => ∃ r, e = .returned (.bool r) ∧ r = vp1 m ∧ Below w.heap.size w w' := by
  have hu33 := Try.underlying33
  have hu23 := Try.underlying23
  have hu25 := Try.underlying25
  have hu27 := Try.underlying27
  have hu29 := Try.underlying29
  have HR := Aside0.mk hr
  have HC := Aside0.mk hc
  clear hr hc
  obtain ⟨wa, hwa⟩ : ∃ wa, wa = w.alloc (.cells #[.int .i64 1, .string m.name, .int .i64 m.cap, .int .i64 m.recaps, .int .i64 m.epoch.f0, .int .i64 m.epoch.f1, .int .i64 m.over.f0, .int .i64 m.over.f1, .int .i64 m.rights.f0, .int .i64 m.rights.f1, .int .i64 m.held, .int .i64 m.call.f0, .int .i64 m.call.f1, .int .i64 m.op.kind, .string m.op.name, .int .i64 m.op.a, .int .i64 m.op.b, .int .i64 m.err, .int .i64 m.value, .slice A m.views.length c] 33 (0, 0)) := ⟨_, rfl⟩
  have HWA := Aside0.mk hwa
  have HB : Aside0 (Below w.heap.size w wa) := ⟨by rw [hwa]; exact (Below.refl _ _).alloc (Nat.le_refl _) _⟩
  have BK : Aside0 (wa.heap[w.heap.size]? = some (.cells (CS1 m A c 0) 33 (0, 0))) := ⟨by rw [hwa]; exact heap_alloc_new w _⟩
  clear hwa
  have hcz_0 : wa.cell? ⟨w.heap.size, 0, none⟩ = some (.int .i64 1) := (blk_cell BK.out 0).trans rfl
  go_enter Try.func21, Try.ntmps21
  go_upto_region 1 with fail
  rw [← HWA.out]
  go_upto_region 15 with fail
  go_cut [3] from 5 (fun v3 wx => ∃ rr : Bool, v3 = .bool rr ∧ Aside0 (rr = (dcd (callV ⟨m.call.f0, m.call.f1⟩) && oB m.op.kind m.op.name) ∧ Below w.heap.size w wx ∧ wx.heap[w.heap.size]? = some (.cells (CS1 m A c 0) 33 (0, 0))))
  case first =>
    have hcz_11 : wa.cell? ⟨w.heap.size, 11, none⟩ = some (.int .i64 m.call.f0) := (blk_cell BK.out 11).trans rfl
    have hcz_12 : wa.cell? ⟨w.heap.size, 12, none⟩ = some (.int .i64 m.call.f1) := (blk_cell BK.out 12).trans rfl
    have hcz_13 : wa.cell? ⟨w.heap.size, 13, none⟩ = some (.int .i64 m.op.kind) := (blk_cell BK.out 13).trans rfl
    have hcz_14 : wa.cell? ⟨w.heap.size, 14, none⟩ = some (.string m.op.name) := (blk_cell BK.out 14).trans rfl
    have hcz_15 : wa.cell? ⟨w.heap.size, 15, none⟩ = some (.int .i64 m.op.a) := (blk_cell BK.out 15).trans rfl
    have hcz_16 : wa.cell? ⟨w.heap.size, 16, none⟩ = some (.int .i64 m.op.b) := (blk_cell BK.out 16).trans rfl
    go_wp2_with (first | (go_at_call 63; refine (rightCall_calls _ _ _).mono ?_; rintro e w1 ⟨rfl, hb⟩; have n0_ := Aside0.mk (below_step (by exact HB.out) hb); have n1_ : Aside0 (w1.heap[w.heap.size]? = some (.cells (CS1 m A c 0) 33 (0, 0))) := ⟨blk_keep hb (by exact BK.out)⟩; clear HB BK hb; have HB := n0_; have BK := n1_; clear n0_ n1_; have hcz_13 : w1.cell? ⟨w.heap.size, 13, none⟩ = some (.int .i64 m.op.kind) := (blk_cell BK.out 13).trans rfl; have hcz_14 : w1.cell? ⟨w.heap.size, 14, none⟩ = some (.string m.op.name) := (blk_cell BK.out 14).trans rfl; have hcz_15 : w1.cell? ⟨w.heap.size, 15, none⟩ = some (.int .i64 m.op.a) := (blk_cell BK.out 15).trans rfl; have hcz_16 : w1.cell? ⟨w.heap.size, 16, none⟩ = some (.int .i64 m.op.b) := (blk_cell BK.out 16).trans rfl) | (go_at_call 64; refine (rightOp_calls _ _ _ _ _).mono ?_; rintro e w1 ⟨rfl, hb⟩; have n0_ := Aside0.mk (below_step (by exact HB.out) hb); have n1_ : Aside0 (w1.heap[w.heap.size]? = some (.cells (CS1 m A c 0) 33 (0, 0))) := ⟨blk_keep hb (by exact BK.out)⟩; clear HB BK hb; have HB := n0_; have BK := n1_; clear n0_ n1_))
    all_goals go_meet
    all_goals exact ⟨_, rfl, ⟨by first | rfl | (simp [*]; done) | (simp_all; done), by exact HB.out, by exact BK.out⟩⟩
  case rest =>
    obtain ⟨r1, rfl, HH⟩ := hcut
    have Hr1 := Aside0.mk HH.out.1
    have N0_ := Aside0.mk HH.out.2.1
    have N1_ := Aside0.mk HH.out.2.2
    clear HB BK HH
    have HB := N0_
    have BK := N1_
    clear N0_ N1_
    have hcz_11 : wc.cell? ⟨w.heap.size, 11, none⟩ = some (.int .i64 m.call.f0) := (blk_cell BK.out 11).trans rfl
    have hcz_12 : wc.cell? ⟨w.heap.size, 12, none⟩ = some (.int .i64 m.call.f1) := (blk_cell BK.out 12).trans rfl
    have hcz_13 : wc.cell? ⟨w.heap.size, 13, none⟩ = some (.int .i64 m.op.kind) := (blk_cell BK.out 13).trans rfl
    have hcz_14 : wc.cell? ⟨w.heap.size, 14, none⟩ = some (.string m.op.name) := (blk_cell BK.out 14).trans rfl
    have hcz_15 : wc.cell? ⟨w.heap.size, 15, none⟩ = some (.int .i64 m.op.a) := (blk_cell BK.out 15).trans rfl
    have hcz_16 : wc.cell? ⟨w.heap.size, 16, none⟩ = some (.int .i64 m.op.b) := (blk_cell BK.out 16).trans rfl
    have hfz_11 : wc.frozen? ⟨w.heap.size, 11, none⟩ = false := blk_frozen BK.out 11
    have hfz_12 : wc.frozen? ⟨w.heap.size, 12, none⟩ = false := blk_frozen BK.out 12
    have hfz_13 : wc.frozen? ⟨w.heap.size, 13, none⟩ = false := blk_frozen BK.out 13
    have hfz_14 : wc.frozen? ⟨w.heap.size, 14, none⟩ = false := blk_frozen BK.out 14
    have hfz_15 : wc.frozen? ⟨w.heap.size, 15, none⟩ = false := blk_frozen BK.out 15
    have hfz_16 : wc.frozen? ⟨w.heap.size, 16, none⟩ = false := blk_frozen BK.out 16
    go_upto_region 34 with fail
    have hce : (((((((CS1 m A c 0).setIfInBounds 11 (.int .i64 0)).setIfInBounds 12 (.int .i64 0)).setIfInBounds 13 (.int .i64 0)).setIfInBounds 14 (.string ⟨#[]⟩)).setIfInBounds 15 (.int .i64 0)).setIfInBounds 16 (.int .i64 0)) = CS1 m A c 1 := by simp [CS1]
    have hbk := (blk_set (blk_set (blk_set (blk_set (blk_set (blk_set BK.out 11 (.int .i64 0)) 12 (.int .i64 0)) 13 (.int .i64 0)) 14 (.string ⟨#[]⟩)) 15 (.int .i64 0)) 16 (.int .i64 0))
    rw [hce] at hbk
    clear hce
    obtain ⟨wz2, hwz⟩ : ∃ wz : World, Below w.heap.size w wz ∧ wz.heap[w.heap.size]? = some (.cells (CS1 m A c 1) 33 (0, 0)) ∧ wz = ((((((wc).setCell ⟨w.heap.size, 11, none⟩ (.int .i64 0)).setCell ⟨w.heap.size, 12, none⟩ (.int .i64 0)).setCell ⟨w.heap.size, 13, none⟩ (.int .i64 0)).setCell ⟨w.heap.size, 14, none⟩ (.string ⟨#[]⟩)).setCell ⟨w.heap.size, 15, none⟩ (.int .i64 0)).setCell ⟨w.heap.size, 16, none⟩ (.int .i64 0) := ⟨_, (Below.setCell (Below.setCell (Below.setCell (Below.setCell (Below.setCell (Below.setCell HB.out (Nat.le_refl _) (.int .i64 0)) (Nat.le_refl _) (.int .i64 0)) (Nat.le_refl _) (.int .i64 0)) (Nat.le_refl _) (.string ⟨#[]⟩)) (Nat.le_refl _) (.int .i64 0)) (Nat.le_refl _) (.int .i64 0)), hbk, rfl⟩
    clear hbk
    rw [← hwz.2.2]
    have N0_ := Aside0.mk hwz.1
    have N1_ := Aside0.mk hwz.2.1
    clear hwz HB BK hcz_11 hfz_11 hcz_12 hfz_12 hcz_13 hfz_13 hcz_14 hfz_14 hcz_15 hfz_15 hcz_16 hfz_16
    have HB := N0_
    have BK := N1_
    clear N0_ N1_
    go_upto_region 34 with fail
    obtain rfl | rfl : r1 = true ∨ r1 = false := by cases r1 <;> simp
    · go_wp2_with (first | ((with_reducible refine gate_dst (N := 122) rfl ?_); refine gate_guard (by kernel_rfl) ?_; refine wpList_load_row rfl 33 (.tmp 1) rfl w.heap.size (by rfl) 33 (CS1 m A c 1) (0, 0) _ BK.out Try.underlying33 rfl inf33 ?_) | (go_at_call 69; refine (empty_calls _ _ _ _ _ _ _ _ _ _ _ _ _ _ _ _ _ _ _ _ _ m.views _ ((Kd.C_below HR.out (by exact HB.out))) HC.out).mono ?_; rintro e w1 ⟨rfl, hb⟩; have n0_ := Aside0.mk (below_step (by exact HB.out) hb); clear HB hb; have HB := n0_; clear n0_))
      go_ret
      refine ⟨_, congrArg Ending.returned (show _ = Value.bool _ from rfl), ?_, HB.out⟩
      unfold vp1 emB
      rw [← Hr1.out]
      first | (simp [*, toList_nil]; done) | (simp_all [toList_nil]; done)
    · go_wp2_with fail
      go_ret
      refine ⟨_, congrArg Ending.returned (show _ = Value.bool _ from rfl), ?_, HB.out⟩
      unfold vp1 emB
      rw [← Hr1.out]
      first | (simp [*, toList_nil]; done) | (simp_all [toList_nil]; done)
noncomputable def vp10 (m : Msg) : Bool := (dcd (listV m.views)) && emB (m.name) (m.cap) (m.recaps) (m.epoch.f0) (m.epoch.f1) (m.over.f0) (m.over.f1) (m.rights.f0) (m.rights.f1) (m.held) (m.call.f0) (m.call.f1) (m.op.kind) (m.op.name) (m.op.a) (m.op.b) (m.err) (m.value) []
def CS10 (m : Msg) (A : Option Addr) (c : Nat) : Nat → Array Value
  | 0 => #[.int .i64 10, .string m.name, .int .i64 m.cap, .int .i64 m.recaps, .int .i64 m.epoch.f0, .int .i64 m.epoch.f1, .int .i64 m.over.f0, .int .i64 m.over.f1, .int .i64 m.rights.f0, .int .i64 m.rights.f1, .int .i64 m.held, .int .i64 m.call.f0, .int .i64 m.call.f1, .int .i64 m.op.kind, .string m.op.name, .int .i64 m.op.a, .int .i64 m.op.b, .int .i64 m.err, .int .i64 m.value, .slice A m.views.length c]
  | _ => #[.int .i64 10, .string m.name, .int .i64 m.cap, .int .i64 m.recaps, .int .i64 m.epoch.f0, .int .i64 m.epoch.f1, .int .i64 m.over.f0, .int .i64 m.over.f1, .int .i64 m.rights.f0, .int .i64 m.rights.f1, .int .i64 m.held, .int .i64 m.call.f0, .int .i64 m.call.f1, .int .i64 m.op.kind, .string m.op.name, .int .i64 m.op.a, .int .i64 m.op.b, .int .i64 m.err, .int .i64 m.value, .slice none 0 0]
set_option maxHeartbeats 16000000 in
set_option maxRecDepth 100000 in
theorem valid10_calls (m : Msg) (A : Option Addr) (c : Nat) (w : World) (hr : Kd.C k87 w A m.views.length m.views) (hc : m.views.length ≤ c) :
    Calls Try.prog 21 #[.agg #[.int .i64 10, .string m.name, .int .i64 m.cap, .int .i64 m.recaps, .int .i64 m.epoch.f0, .int .i64 m.epoch.f1, .int .i64 m.over.f0, .int .i64 m.over.f1, .int .i64 m.rights.f0, .int .i64 m.rights.f1, .int .i64 m.held, .int .i64 m.call.f0, .int .i64 m.call.f1, .int .i64 m.op.kind, .string m.op.name, .int .i64 m.op.a, .int .i64 m.op.b, .int .i64 m.err, .int .i64 m.value, .slice A m.views.length c]] w fun e w' => ∃ r, e = .returned (.bool r) ∧ r = vp10 m ∧ Below w.heap.size w w' := by
  have hu33 := Try.underlying33
  have hu23 := Try.underlying23
  have hu25 := Try.underlying25
  have hu27 := Try.underlying27
  have hu29 := Try.underlying29
  have HR := Aside0.mk hr
  have HC := Aside0.mk hc
  clear hr hc
  obtain ⟨wa, hwa⟩ : ∃ wa, wa = w.alloc (.cells #[.int .i64 10, .string m.name, .int .i64 m.cap, .int .i64 m.recaps, .int .i64 m.epoch.f0, .int .i64 m.epoch.f1, .int .i64 m.over.f0, .int .i64 m.over.f1, .int .i64 m.rights.f0, .int .i64 m.rights.f1, .int .i64 m.held, .int .i64 m.call.f0, .int .i64 m.call.f1, .int .i64 m.op.kind, .string m.op.name, .int .i64 m.op.a, .int .i64 m.op.b, .int .i64 m.err, .int .i64 m.value, .slice A m.views.length c] 33 (0, 0)) := ⟨_, rfl⟩
  have HWA := Aside0.mk hwa
  have HB : Aside0 (Below w.heap.size w wa) := ⟨by rw [hwa]; exact (Below.refl _ _).alloc (Nat.le_refl _) _⟩
  have BK : Aside0 (wa.heap[w.heap.size]? = some (.cells (CS10 m A c 0) 33 (0, 0))) := ⟨by rw [hwa]; exact heap_alloc_new w _⟩
  clear hwa
  have hcz_0 : wa.cell? ⟨w.heap.size, 0, none⟩ = some (.int .i64 10) := (blk_cell BK.out 0).trans rfl
  go_enter Try.func21, Try.ntmps21
  go_upto_region 1 with fail
  rw [← HWA.out]
  go_upto_region 13 with fail
  go_cut [3] from 5 (fun v3 wx => ∃ rr : Bool, v3 = .bool rr ∧ Aside0 (rr = (dcd (listV m.views)) ∧ Below w.heap.size w wx ∧ wx.heap[w.heap.size]? = some (.cells (CS10 m A c 0) 33 (0, 0))))
  case first =>
    have hcz_19 : wa.cell? ⟨w.heap.size, 19, none⟩ = some (.slice A m.views.length c) := (blk_cell BK.out 19).trans rfl
    go_wp2_with (first | (go_at_call 62; refine (rightViews_calls _ _ _ _ (Kd.C_below HR.out (by exact HB.out))).mono ?_; rintro e w1 ⟨rfl, hb⟩; have n0_ := Aside0.mk (below_step (by exact HB.out) hb); have n1_ : Aside0 (w1.heap[w.heap.size]? = some (.cells (CS10 m A c 0) 33 (0, 0))) := ⟨blk_keep hb (by exact BK.out)⟩; clear HB BK hb; have HB := n0_; have BK := n1_; clear n0_ n1_))
    all_goals go_meet
    all_goals exact ⟨_, rfl, ⟨by first | rfl | (simp [*]; done) | (simp_all; done), by exact HB.out, by exact BK.out⟩⟩
  case rest =>
    obtain ⟨r1, rfl, HH⟩ := hcut
    have Hr1 := Aside0.mk HH.out.1
    have N0_ := Aside0.mk HH.out.2.1
    have N1_ := Aside0.mk HH.out.2.2
    clear HB BK HH
    have HB := N0_
    have BK := N1_
    clear N0_ N1_
    have hcz_19 : wc.cell? ⟨w.heap.size, 19, none⟩ = some (.slice A m.views.length c) := (blk_cell BK.out 19).trans rfl
    have hfz_19 : wc.frozen? ⟨w.heap.size, 19, none⟩ = false := blk_frozen BK.out 19
    go_upto_region 34 with fail
    have hce : ((CS10 m A c 0).setIfInBounds 19 (.slice none 0 0)) = CS10 m A c 1 := by simp [CS10]
    have hbk := (blk_set BK.out 19 (.slice none 0 0))
    rw [hce] at hbk
    clear hce
    obtain ⟨wz2, hwz⟩ : ∃ wz : World, Below w.heap.size w wz ∧ wz.heap[w.heap.size]? = some (.cells (CS10 m A c 1) 33 (0, 0)) ∧ wz = (wc).setCell ⟨w.heap.size, 19, none⟩ (.slice none 0 0) := ⟨_, (Below.setCell HB.out (Nat.le_refl _) (.slice none 0 0)), hbk, rfl⟩
    clear hbk
    rw [← hwz.2.2]
    have N0_ := Aside0.mk hwz.1
    have N1_ := Aside0.mk hwz.2.1
    clear hwz HB BK hcz_19 hfz_19
    have HB := N0_
    have BK := N1_
    clear N0_ N1_
    go_upto_region 34 with fail
    obtain rfl | rfl : r1 = true ∨ r1 = false := by cases r1 <;> simp
    · go_wp2_with (first | ((with_reducible refine gate_dst (N := 122) rfl ?_); refine gate_guard (by kernel_rfl) ?_; refine wpList_load_row rfl 33 (.tmp 1) rfl w.heap.size (by rfl) 33 (CS10 m A c 1) (0, 0) _ BK.out Try.underlying33 rfl inf33 ?_) | (go_at_call 69; refine (empty_calls _ _ _ _ _ _ _ _ _ _ _ _ _ _ _ _ _ _ _ _ _ [] _ (Kd.C_nil' _) (Nat.le_refl 0)).mono ?_; rintro e w1 ⟨rfl, hb⟩; have n0_ := Aside0.mk (below_step (by exact HB.out) hb); clear HB hb; have HB := n0_; clear n0_))
      go_ret
      refine ⟨_, congrArg Ending.returned (show _ = Value.bool _ from rfl), ?_, HB.out⟩
      unfold vp10 emB
      rw [← Hr1.out]
      first | (simp [*, toList_nil]; done) | (simp_all [toList_nil]; done)
    · go_wp2_with fail
      go_ret
      refine ⟨_, congrArg Ending.returned (show _ = Value.bool _ from rfl), ?_, HB.out⟩
      unfold vp10 emB
      rw [← Hr1.out]
      first | (simp [*, toList_nil]; done) | (simp_all [toList_nil]; done)
noncomputable def vp3 (m : Msg) : Bool := ((dcd (epochV ⟨m.epoch.f0, m.epoch.f1⟩) && nB m.name) && bB m.cap 1 1099511627776 && bB m.recaps 0 1099511627776) && emB (⟨#[]⟩) (0) (0) (0) (0) (m.over.f0) (m.over.f1) (m.rights.f0) (m.rights.f1) (m.held) (m.call.f0) (m.call.f1) (m.op.kind) (m.op.name) (m.op.a) (m.op.b) (m.err) (m.value) m.views
def CS3 (m : Msg) (A : Option Addr) (c : Nat) : Nat → Array Value
  | 0 => #[.int .i64 3, .string m.name, .int .i64 m.cap, .int .i64 m.recaps, .int .i64 m.epoch.f0, .int .i64 m.epoch.f1, .int .i64 m.over.f0, .int .i64 m.over.f1, .int .i64 m.rights.f0, .int .i64 m.rights.f1, .int .i64 m.held, .int .i64 m.call.f0, .int .i64 m.call.f1, .int .i64 m.op.kind, .string m.op.name, .int .i64 m.op.a, .int .i64 m.op.b, .int .i64 m.err, .int .i64 m.value, .slice A m.views.length c]
  | 1 => #[.int .i64 3, .string ⟨#[]⟩, .int .i64 m.cap, .int .i64 m.recaps, .int .i64 0, .int .i64 0, .int .i64 m.over.f0, .int .i64 m.over.f1, .int .i64 m.rights.f0, .int .i64 m.rights.f1, .int .i64 m.held, .int .i64 m.call.f0, .int .i64 m.call.f1, .int .i64 m.op.kind, .string m.op.name, .int .i64 m.op.a, .int .i64 m.op.b, .int .i64 m.err, .int .i64 m.value, .slice A m.views.length c]
  | _ => #[.int .i64 3, .string ⟨#[]⟩, .int .i64 0, .int .i64 0, .int .i64 0, .int .i64 0, .int .i64 m.over.f0, .int .i64 m.over.f1, .int .i64 m.rights.f0, .int .i64 m.rights.f1, .int .i64 m.held, .int .i64 m.call.f0, .int .i64 m.call.f1, .int .i64 m.op.kind, .string m.op.name, .int .i64 m.op.a, .int .i64 m.op.b, .int .i64 m.err, .int .i64 m.value, .slice A m.views.length c]
set_option maxHeartbeats 16000000 in
set_option maxRecDepth 100000 in
theorem valid3_calls (m : Msg) (A : Option Addr) (c : Nat) (w : World) (hr : Kd.C k87 w A m.views.length m.views) (hc : m.views.length ≤ c) :
    Calls Try.prog 21 #[.agg #[.int .i64 3, .string m.name, .int .i64 m.cap, .int .i64 m.recaps, .int .i64 m.epoch.f0, .int .i64 m.epoch.f1, .int .i64 m.over.f0, .int .i64 m.over.f1, .int .i64 m.rights.f0, .int .i64 m.rights.f1, .int .i64 m.held, .int .i64 m.call.f0, .int .i64 m.call.f1, .int .i64 m.op.kind, .string m.op.name, .int .i64 m.op.a, .int .i64 m.op.b, .int .i64 m.err, .int .i64 m.value, .slice A m.views.length c]] w fun e w' => ∃ r, e = .returned (.bool r) ∧ r = vp3 m ∧ Below w.heap.size w w' := by
  have hu33 := Try.underlying33
  have hu23 := Try.underlying23
  have hu25 := Try.underlying25
  have hu27 := Try.underlying27
  have hu29 := Try.underlying29
  have HR := Aside0.mk hr
  have HC := Aside0.mk hc
  clear hr hc
  obtain ⟨wa, hwa⟩ : ∃ wa, wa = w.alloc (.cells #[.int .i64 3, .string m.name, .int .i64 m.cap, .int .i64 m.recaps, .int .i64 m.epoch.f0, .int .i64 m.epoch.f1, .int .i64 m.over.f0, .int .i64 m.over.f1, .int .i64 m.rights.f0, .int .i64 m.rights.f1, .int .i64 m.held, .int .i64 m.call.f0, .int .i64 m.call.f1, .int .i64 m.op.kind, .string m.op.name, .int .i64 m.op.a, .int .i64 m.op.b, .int .i64 m.err, .int .i64 m.value, .slice A m.views.length c] 33 (0, 0)) := ⟨_, rfl⟩
  have HWA := Aside0.mk hwa
  have HB : Aside0 (Below w.heap.size w wa) := ⟨by rw [hwa]; exact (Below.refl _ _).alloc (Nat.le_refl _) _⟩
  have BK : Aside0 (wa.heap[w.heap.size]? = some (.cells (CS3 m A c 0) 33 (0, 0))) := ⟨by rw [hwa]; exact heap_alloc_new w _⟩
  clear hwa
  have hcz_0 : wa.cell? ⟨w.heap.size, 0, none⟩ = some (.int .i64 3) := (blk_cell BK.out 0).trans rfl
  go_enter Try.func21, Try.ntmps21
  go_upto_region 1 with fail
  rw [← HWA.out]
  go_upto_region 22 with fail
  go_cut [3] from 5 (fun v3 wx => ∃ rr : Bool, v3 = .bool rr ∧ Aside0 (rr = (dcd (epochV ⟨m.epoch.f0, m.epoch.f1⟩) && nB m.name) ∧ Below w.heap.size w wx ∧ wx.heap[w.heap.size]? = some (.cells (CS3 m A c 0) 33 (0, 0))))
  case first =>
    have hcz_4 : wa.cell? ⟨w.heap.size, 4, none⟩ = some (.int .i64 m.epoch.f0) := (blk_cell BK.out 4).trans rfl
    have hcz_5 : wa.cell? ⟨w.heap.size, 5, none⟩ = some (.int .i64 m.epoch.f1) := (blk_cell BK.out 5).trans rfl
    have hcz_1 : wa.cell? ⟨w.heap.size, 1, none⟩ = some (.string m.name) := (blk_cell BK.out 1).trans rfl
    go_wp2_with (first | (go_at_call 67; refine (rightEpoch_calls _ _ _).mono ?_; rintro e w1 ⟨rfl, hb⟩; have n0_ := Aside0.mk (below_step (by exact HB.out) hb); have n1_ : Aside0 (w1.heap[w.heap.size]? = some (.cells (CS3 m A c 0) 33 (0, 0))) := ⟨blk_keep hb (by exact BK.out)⟩; clear HB BK hb; have HB := n0_; have BK := n1_; clear n0_ n1_; have hcz_1 : w1.cell? ⟨w.heap.size, 1, none⟩ = some (.string m.name) := (blk_cell BK.out 1).trans rfl) | (go_at_call 65; refine (named_calls _ _).mono ?_; rintro e w1 ⟨rfl, hb⟩; have n0_ := Aside0.mk (below_step (by exact HB.out) hb); have n1_ : Aside0 (w1.heap[w.heap.size]? = some (.cells (CS3 m A c 0) 33 (0, 0))) := ⟨blk_keep hb (by exact BK.out)⟩; clear HB BK hb; have HB := n0_; have BK := n1_; clear n0_ n1_))
    all_goals go_meet
    all_goals exact ⟨_, rfl, ⟨by first | rfl | (simp [*]; done) | (simp_all; done), by exact HB.out, by exact BK.out⟩⟩
  case rest =>
    obtain ⟨r1, rfl, HH⟩ := hcut
    have Hr1 := Aside0.mk HH.out.1
    have N0_ := Aside0.mk HH.out.2.1
    have N1_ := Aside0.mk HH.out.2.2
    clear HB BK HH
    have HB := N0_
    have BK := N1_
    clear N0_ N1_
    have hcz_4 : wc.cell? ⟨w.heap.size, 4, none⟩ = some (.int .i64 m.epoch.f0) := (blk_cell BK.out 4).trans rfl
    have hcz_5 : wc.cell? ⟨w.heap.size, 5, none⟩ = some (.int .i64 m.epoch.f1) := (blk_cell BK.out 5).trans rfl
    have hcz_1 : wc.cell? ⟨w.heap.size, 1, none⟩ = some (.string m.name) := (blk_cell BK.out 1).trans rfl
    have hfz_4 : wc.frozen? ⟨w.heap.size, 4, none⟩ = false := blk_frozen BK.out 4
    have hfz_5 : wc.frozen? ⟨w.heap.size, 5, none⟩ = false := blk_frozen BK.out 5
    have hfz_1 : wc.frozen? ⟨w.heap.size, 1, none⟩ = false := blk_frozen BK.out 1
    go_upto_region 31 with fail
    have hce : ((((CS3 m A c 0).setIfInBounds 4 (.int .i64 0)).setIfInBounds 5 (.int .i64 0)).setIfInBounds 1 (.string ⟨#[]⟩)) = CS3 m A c 1 := by simp [CS3]
    have hbk := (blk_set (blk_set (blk_set BK.out 4 (.int .i64 0)) 5 (.int .i64 0)) 1 (.string ⟨#[]⟩))
    rw [hce] at hbk
    clear hce
    obtain ⟨wz2, hwz⟩ : ∃ wz : World, Below w.heap.size w wz ∧ wz.heap[w.heap.size]? = some (.cells (CS3 m A c 1) 33 (0, 0)) ∧ wz = (((wc).setCell ⟨w.heap.size, 4, none⟩ (.int .i64 0)).setCell ⟨w.heap.size, 5, none⟩ (.int .i64 0)).setCell ⟨w.heap.size, 1, none⟩ (.string ⟨#[]⟩) := ⟨_, (Below.setCell (Below.setCell (Below.setCell HB.out (Nat.le_refl _) (.int .i64 0)) (Nat.le_refl _) (.int .i64 0)) (Nat.le_refl _) (.string ⟨#[]⟩)), hbk, rfl⟩
    clear hbk
    rw [← hwz.2.2]
    have N0_ := Aside0.mk hwz.1
    have N1_ := Aside0.mk hwz.2.1
    clear hwz HB BK hcz_4 hfz_4 hcz_5 hfz_5 hcz_1 hfz_1
    have HB := N0_
    have BK := N1_
    clear N0_ N1_
    go_upto_region 32 with fail
    go_cut [3] from 5 (fun v3 wx => ∃ rr : Bool, v3 = .bool rr ∧ Aside0 (rr = (r1 && bB m.cap 1 1099511627776 && bB m.recaps 0 1099511627776) ∧ Below w.heap.size w wx ∧ wx.heap[w.heap.size]? = some (.cells (CS3 m A c 1) 33 (0, 0))))
    case first =>
      have hcz_2 : wz2.cell? ⟨w.heap.size, 2, none⟩ = some (.int .i64 m.cap) := (blk_cell BK.out 2).trans rfl
      have hcz_3 : wz2.cell? ⟨w.heap.size, 3, none⟩ = some (.int .i64 m.recaps) := (blk_cell BK.out 3).trans rfl
      go_wp2_with (first | (go_at_call 66; refine (between_calls _ _ _ _).mono ?_; rintro e w1 ⟨rfl, hb⟩; have n0_ := Aside0.mk (below_step (by exact HB.out) hb); have n1_ : Aside0 (w1.heap[w.heap.size]? = some (.cells (CS3 m A c 1) 33 (0, 0))) := ⟨blk_keep hb (by exact BK.out)⟩; clear HB BK hb; have HB := n0_; have BK := n1_; clear n0_ n1_; have hcz_3 : w1.cell? ⟨w.heap.size, 3, none⟩ = some (.int .i64 m.recaps) := (blk_cell BK.out 3).trans rfl) | (go_at_call 66; refine (between_calls _ _ _ _).mono ?_; rintro e w1 ⟨rfl, hb⟩; have n0_ := Aside0.mk (below_step (by exact HB.out) hb); have n1_ : Aside0 (w1.heap[w.heap.size]? = some (.cells (CS3 m A c 1) 33 (0, 0))) := ⟨blk_keep hb (by exact BK.out)⟩; clear HB BK hb; have HB := n0_; have BK := n1_; clear n0_ n1_))
      all_goals go_meet
      all_goals exact ⟨_, rfl, ⟨by first | rfl | (simp [*]; done) | (simp_all; done), by exact HB.out, by exact BK.out⟩⟩
    case rest =>
      obtain ⟨r3, rfl, HH⟩ := hcut
      have Hr3 := Aside0.mk HH.out.1
      have N0_ := Aside0.mk HH.out.2.1
      have N1_ := Aside0.mk HH.out.2.2
      clear HB BK HH
      have HB := N0_
      have BK := N1_
      clear N0_ N1_
      have hcz_2 : wc.cell? ⟨w.heap.size, 2, none⟩ = some (.int .i64 m.cap) := (blk_cell BK.out 2).trans rfl
      have hcz_3 : wc.cell? ⟨w.heap.size, 3, none⟩ = some (.int .i64 m.recaps) := (blk_cell BK.out 3).trans rfl
      have hfz_2 : wc.frozen? ⟨w.heap.size, 2, none⟩ = false := blk_frozen BK.out 2
      have hfz_3 : wc.frozen? ⟨w.heap.size, 3, none⟩ = false := blk_frozen BK.out 3
      go_upto_region 34 with fail
      have hce : (((CS3 m A c 1).setIfInBounds 2 (.int .i64 0)).setIfInBounds 3 (.int .i64 0)) = CS3 m A c 2 := by simp [CS3]
      have hbk := (blk_set (blk_set BK.out 2 (.int .i64 0)) 3 (.int .i64 0))
      rw [hce] at hbk
      clear hce
      obtain ⟨wz4, hwz⟩ : ∃ wz : World, Below w.heap.size w wz ∧ wz.heap[w.heap.size]? = some (.cells (CS3 m A c 2) 33 (0, 0)) ∧ wz = ((wc).setCell ⟨w.heap.size, 2, none⟩ (.int .i64 0)).setCell ⟨w.heap.size, 3, none⟩ (.int .i64 0) := ⟨_, (Below.setCell (Below.setCell HB.out (Nat.le_refl _) (.int .i64 0)) (Nat.le_refl _) (.int .i64 0)), hbk, rfl⟩
      clear hbk
      rw [← hwz.2.2]
      have N0_ := Aside0.mk hwz.1
      have N1_ := Aside0.mk hwz.2.1
      clear hwz HB BK hcz_2 hfz_2 hcz_3 hfz_3
      have HB := N0_
      have BK := N1_
      clear N0_ N1_
      go_upto_region 34 with fail
      obtain rfl | rfl : r3 = true ∨ r3 = false := by cases r3 <;> simp
      · go_wp2_with (first | ((with_reducible refine gate_dst (N := 122) rfl ?_); refine gate_guard (by kernel_rfl) ?_; refine wpList_load_row rfl 33 (.tmp 1) rfl w.heap.size (by rfl) 33 (CS3 m A c 2) (0, 0) _ BK.out Try.underlying33 rfl inf33 ?_) | (go_at_call 69; refine (empty_calls _ _ _ _ _ _ _ _ _ _ _ _ _ _ _ _ _ _ _ _ _ m.views _ ((Kd.C_below HR.out (by exact HB.out))) HC.out).mono ?_; rintro e w1 ⟨rfl, hb⟩; have n0_ := Aside0.mk (below_step (by exact HB.out) hb); clear HB hb; have HB := n0_; clear n0_))
        go_ret
        refine ⟨_, congrArg Ending.returned (show _ = Value.bool _ from rfl), ?_, HB.out⟩
        unfold vp3 emB
        rw [← Hr1.out]
        rw [← Hr3.out]
        first | (simp [*, toList_nil]; done) | (simp_all [toList_nil]; done)
      · go_wp2_with fail
        go_ret
        refine ⟨_, congrArg Ending.returned (show _ = Value.bool _ from rfl), ?_, HB.out⟩
        unfold vp3 emB
        rw [← Hr1.out]
        rw [← Hr3.out]
        first | (simp [*, toList_nil]; done) | (simp_all [toList_nil]; done)
end Go.Proofs.Ytpgdmmjbhjbbhaa.Vd
end
section
namespace Go.Proofs.Ytpgdmmjbhjbbhaa.Vd
open Go Go.RowKit Go.Proofs.Ytpgdmmjbhjbbhaa.P Go.Proofs.Ytpgdmmjbhjbbhaa.Sp Go.Proofs.YtpgdmmjbhjbbhaaW.PrintWords Go.Proofs.YtpgdmmjbhjbbhaaW.PrintLast Go.Proofs.YtpgdmmjbhjbbhaaW.PrintMore
set_option linter.unusedVariables false
set_option linter.unusedSimpArgs false
noncomputable def vp2 (m : Msg) : Bool := (if dcd (capped m.err) = true then (((dcd (callV ⟨m.call.f0, m.call.f1⟩) && nB m.name && bB m.err 0 255)) && bB m.cap 1 1099511627776 && bB m.recaps 0 1099511627776) && emB (⟨#[]⟩) (0) (0) (m.epoch.f0) (m.epoch.f1) (m.over.f0) (m.over.f1) (m.rights.f0) (m.rights.f1) (m.held) (0) (0) (m.op.kind) (m.op.name) (m.op.a) (m.op.b) (0) (m.value) m.views else (dcd (callV ⟨m.call.f0, m.call.f1⟩) && nB m.name && bB m.err 0 255) && emB (⟨#[]⟩) (m.cap) (m.recaps) (m.epoch.f0) (m.epoch.f1) (m.over.f0) (m.over.f1) (m.rights.f0) (m.rights.f1) (m.held) (0) (0) (m.op.kind) (m.op.name) (m.op.a) (m.op.b) (0) (m.value) m.views)
def CS2 (m : Msg) (A : Option Addr) (c : Nat) : Nat → Array Value
  | 0 => #[.int .i64 2, .string m.name, .int .i64 m.cap, .int .i64 m.recaps, .int .i64 m.epoch.f0, .int .i64 m.epoch.f1, .int .i64 m.over.f0, .int .i64 m.over.f1, .int .i64 m.rights.f0, .int .i64 m.rights.f1, .int .i64 m.held, .int .i64 m.call.f0, .int .i64 m.call.f1, .int .i64 m.op.kind, .string m.op.name, .int .i64 m.op.a, .int .i64 m.op.b, .int .i64 m.err, .int .i64 m.value, .slice A m.views.length c]
  | 1 => #[.int .i64 2, .string ⟨#[]⟩, .int .i64 m.cap, .int .i64 m.recaps, .int .i64 m.epoch.f0, .int .i64 m.epoch.f1, .int .i64 m.over.f0, .int .i64 m.over.f1, .int .i64 m.rights.f0, .int .i64 m.rights.f1, .int .i64 m.held, .int .i64 0, .int .i64 0, .int .i64 m.op.kind, .string m.op.name, .int .i64 m.op.a, .int .i64 m.op.b, .int .i64 0, .int .i64 m.value, .slice A m.views.length c]
  | _ => #[.int .i64 2, .string ⟨#[]⟩, .int .i64 0, .int .i64 0, .int .i64 m.epoch.f0, .int .i64 m.epoch.f1, .int .i64 m.over.f0, .int .i64 m.over.f1, .int .i64 m.rights.f0, .int .i64 m.rights.f1, .int .i64 m.held, .int .i64 0, .int .i64 0, .int .i64 m.op.kind, .string m.op.name, .int .i64 m.op.a, .int .i64 m.op.b, .int .i64 0, .int .i64 m.value, .slice A m.views.length c]
set_option maxHeartbeats 16000000 in
set_option maxRecDepth 100000 in
theorem valid2_calls (m : Msg) (A : Option Addr) (c : Nat) (w : World) (hr : Kd.C k87 w A m.views.length m.views) (hc : m.views.length ≤ c) :
    Calls Try.prog 21 #[.agg #[.int .i64 2, .string m.name, .int .i64 m.cap, .int .i64 m.recaps, .int .i64 m.epoch.f0, .int .i64 m.epoch.f1, .int .i64 m.over.f0, .int .i64 m.over.f1, .int .i64 m.rights.f0, .int .i64 m.rights.f1, .int .i64 m.held, .int .i64 m.call.f0, .int .i64 m.call.f1, .int .i64 m.op.kind, .string m.op.name, .int .i64 m.op.a, .int .i64 m.op.b, .int .i64 m.err, .int .i64 m.value, .slice A m.views.length c]] w fun e w' => ∃ r, e = .returned (.bool r) ∧ r = vp2 m ∧ Below w.heap.size w w' := by
  have hu33 := Try.underlying33
  have hu23 := Try.underlying23
  have hu25 := Try.underlying25
  have hu27 := Try.underlying27
  have hu29 := Try.underlying29
  have HR := Aside0.mk hr
  have HC := Aside0.mk hc
  clear hr hc
  obtain ⟨wa, hwa⟩ : ∃ wa, wa = w.alloc (.cells #[.int .i64 2, .string m.name, .int .i64 m.cap, .int .i64 m.recaps, .int .i64 m.epoch.f0, .int .i64 m.epoch.f1, .int .i64 m.over.f0, .int .i64 m.over.f1, .int .i64 m.rights.f0, .int .i64 m.rights.f1, .int .i64 m.held, .int .i64 m.call.f0, .int .i64 m.call.f1, .int .i64 m.op.kind, .string m.op.name, .int .i64 m.op.a, .int .i64 m.op.b, .int .i64 m.err, .int .i64 m.value, .slice A m.views.length c] 33 (0, 0)) := ⟨_, rfl⟩
  have HWA := Aside0.mk hwa
  have HB : Aside0 (Below w.heap.size w wa) := ⟨by rw [hwa]; exact (Below.refl _ _).alloc (Nat.le_refl _) _⟩
  have BK : Aside0 (wa.heap[w.heap.size]? = some (.cells (CS2 m A c 0) 33 (0, 0))) := ⟨by rw [hwa]; exact heap_alloc_new w _⟩
  clear hwa
  have hcz_0 : wa.cell? ⟨w.heap.size, 0, none⟩ = some (.int .i64 2) := (blk_cell BK.out 0).trans rfl
  go_enter Try.func21, Try.ntmps21
  go_upto_region 1 with fail
  rw [← HWA.out]
  go_upto_region 17 with fail
  go_cut [3] from 5 (fun v3 wx => ∃ rr : Bool, v3 = .bool rr ∧ Aside0 (rr = (dcd (callV ⟨m.call.f0, m.call.f1⟩) && nB m.name && bB m.err 0 255) ∧ Below w.heap.size w wx ∧ wx.heap[w.heap.size]? = some (.cells (CS2 m A c 0) 33 (0, 0))))
  case first =>
    have hcz_11 : wa.cell? ⟨w.heap.size, 11, none⟩ = some (.int .i64 m.call.f0) := (blk_cell BK.out 11).trans rfl
    have hcz_12 : wa.cell? ⟨w.heap.size, 12, none⟩ = some (.int .i64 m.call.f1) := (blk_cell BK.out 12).trans rfl
    have hcz_1 : wa.cell? ⟨w.heap.size, 1, none⟩ = some (.string m.name) := (blk_cell BK.out 1).trans rfl
    have hcz_17 : wa.cell? ⟨w.heap.size, 17, none⟩ = some (.int .i64 m.err) := (blk_cell BK.out 17).trans rfl
    go_wp2_with (first | (go_at_call 63; refine (rightCall_calls _ _ _).mono ?_; rintro e w1 ⟨rfl, hb⟩; have n0_ := Aside0.mk (below_step (by exact HB.out) hb); have n1_ : Aside0 (w1.heap[w.heap.size]? = some (.cells (CS2 m A c 0) 33 (0, 0))) := ⟨blk_keep hb (by exact BK.out)⟩; clear HB BK hb; have HB := n0_; have BK := n1_; clear n0_ n1_; have hcz_1 : w1.cell? ⟨w.heap.size, 1, none⟩ = some (.string m.name) := (blk_cell BK.out 1).trans rfl; have hcz_17 : w1.cell? ⟨w.heap.size, 17, none⟩ = some (.int .i64 m.err) := (blk_cell BK.out 17).trans rfl) | (go_at_call 65; refine (named_calls _ _).mono ?_; rintro e w1 ⟨rfl, hb⟩; have n0_ := Aside0.mk (below_step (by exact HB.out) hb); have n1_ : Aside0 (w1.heap[w.heap.size]? = some (.cells (CS2 m A c 0) 33 (0, 0))) := ⟨blk_keep hb (by exact BK.out)⟩; clear HB BK hb; have HB := n0_; have BK := n1_; clear n0_ n1_; have hcz_17 : w1.cell? ⟨w.heap.size, 17, none⟩ = some (.int .i64 m.err) := (blk_cell BK.out 17).trans rfl) | (go_at_call 66; refine (between_calls _ _ _ _).mono ?_; rintro e w1 ⟨rfl, hb⟩; have n0_ := Aside0.mk (below_step (by exact HB.out) hb); have n1_ : Aside0 (w1.heap[w.heap.size]? = some (.cells (CS2 m A c 0) 33 (0, 0))) := ⟨blk_keep hb (by exact BK.out)⟩; clear HB BK hb; have HB := n0_; have BK := n1_; clear n0_ n1_))
    all_goals go_meet
    all_goals exact ⟨_, rfl, ⟨by first | rfl | (simp [*]; done) | (simp_all; done), by exact HB.out, by exact BK.out⟩⟩
  case rest =>
    obtain ⟨r1, rfl, HH⟩ := hcut
    have Hr1 := Aside0.mk HH.out.1
    have N0_ := Aside0.mk HH.out.2.1
    have N1_ := Aside0.mk HH.out.2.2
    clear HB BK HH
    have HB := N0_
    have BK := N1_
    clear N0_ N1_
    go_upto_region 18 with fail
    have hcz_17 : wc.cell? ⟨w.heap.size, 17, none⟩ = some (.int .i64 m.err) := (blk_cell BK.out 17).trans rfl
    obtain ⟨q, hq⟩ : ∃ q, q = dcd (capped m.err) := ⟨_, rfl⟩
    have HQ := Aside0.mk hq
    clear hq
    go_upto_region 19 with (go_at_call 58; refine (capped_calls _ _).mono ?_; rintro e w9 ⟨rfl, hb⟩; have n0_ := Aside0.mk (below_step (by exact HB.out) hb); have n1_ : Aside0 (w9.heap[w.heap.size]? = some (.cells (CS2 m A c 0) 33 (0, 0))) := ⟨blk_keep hb (by exact BK.out)⟩; clear HB BK hb; have HB := n0_; have BK := n1_; clear n0_ n1_; rw [← HQ.out])
    have hcz_11 : w9.cell? ⟨w.heap.size, 11, none⟩ = some (.int .i64 m.call.f0) := (blk_cell BK.out 11).trans rfl
    have hcz_12 : w9.cell? ⟨w.heap.size, 12, none⟩ = some (.int .i64 m.call.f1) := (blk_cell BK.out 12).trans rfl
    have hcz_1 : w9.cell? ⟨w.heap.size, 1, none⟩ = some (.string m.name) := (blk_cell BK.out 1).trans rfl
    have hcz_17 : w9.cell? ⟨w.heap.size, 17, none⟩ = some (.int .i64 m.err) := (blk_cell BK.out 17).trans rfl
    have hfz_11 : w9.frozen? ⟨w.heap.size, 11, none⟩ = false := blk_frozen BK.out 11
    have hfz_12 : w9.frozen? ⟨w.heap.size, 12, none⟩ = false := blk_frozen BK.out 12
    have hfz_1 : w9.frozen? ⟨w.heap.size, 1, none⟩ = false := blk_frozen BK.out 1
    have hfz_17 : w9.frozen? ⟨w.heap.size, 17, none⟩ = false := blk_frozen BK.out 17
    go_upto_region 31 with fail
    have hce : (((((CS2 m A c 0).setIfInBounds 11 (.int .i64 0)).setIfInBounds 12 (.int .i64 0)).setIfInBounds 1 (.string ⟨#[]⟩)).setIfInBounds 17 (.int .i64 0)) = CS2 m A c 1 := by simp [CS2]
    have hbk := (blk_set (blk_set (blk_set (blk_set BK.out 11 (.int .i64 0)) 12 (.int .i64 0)) 1 (.string ⟨#[]⟩)) 17 (.int .i64 0))
    rw [hce] at hbk
    clear hce
    obtain ⟨wz2, hwz⟩ : ∃ wz : World, Below w.heap.size w wz ∧ wz.heap[w.heap.size]? = some (.cells (CS2 m A c 1) 33 (0, 0)) ∧ wz = ((((w9).setCell ⟨w.heap.size, 11, none⟩ (.int .i64 0)).setCell ⟨w.heap.size, 12, none⟩ (.int .i64 0)).setCell ⟨w.heap.size, 1, none⟩ (.string ⟨#[]⟩)).setCell ⟨w.heap.size, 17, none⟩ (.int .i64 0) := ⟨_, (Below.setCell (Below.setCell (Below.setCell (Below.setCell HB.out (Nat.le_refl _) (.int .i64 0)) (Nat.le_refl _) (.int .i64 0)) (Nat.le_refl _) (.string ⟨#[]⟩)) (Nat.le_refl _) (.int .i64 0)), hbk, rfl⟩
    clear hbk
    rw [← hwz.2.2]
    have N0_ := Aside0.mk hwz.1
    have N1_ := Aside0.mk hwz.2.1
    clear hwz HB BK hcz_11 hfz_11 hcz_12 hfz_12 hcz_1 hfz_1 hcz_17 hfz_17
    have HB := N0_
    have BK := N1_
    clear N0_ N1_
    obtain rfl | rfl : q = true ∨ q = false := by cases q <;> simp
    · go_upto_region 32 with fail
      go_cut [3] from 5 (fun v3 wx => ∃ rr : Bool, v3 = .bool rr ∧ Aside0 (rr = (r1 && bB m.cap 1 1099511627776 && bB m.recaps 0 1099511627776) ∧ Below w.heap.size w wx ∧ wx.heap[w.heap.size]? = some (.cells (CS2 m A c 1) 33 (0, 0))))
      case first =>
        have hcz_2 : wz2.cell? ⟨w.heap.size, 2, none⟩ = some (.int .i64 m.cap) := (blk_cell BK.out 2).trans rfl
        have hcz_3 : wz2.cell? ⟨w.heap.size, 3, none⟩ = some (.int .i64 m.recaps) := (blk_cell BK.out 3).trans rfl
        go_wp2_with (first | (go_at_call 66; refine (between_calls _ _ _ _).mono ?_; rintro e w1 ⟨rfl, hb⟩; have n0_ := Aside0.mk (below_step (by exact HB.out) hb); have n1_ : Aside0 (w1.heap[w.heap.size]? = some (.cells (CS2 m A c 1) 33 (0, 0))) := ⟨blk_keep hb (by exact BK.out)⟩; clear HB BK hb; have HB := n0_; have BK := n1_; clear n0_ n1_; have hcz_3 : w1.cell? ⟨w.heap.size, 3, none⟩ = some (.int .i64 m.recaps) := (blk_cell BK.out 3).trans rfl) | (go_at_call 66; refine (between_calls _ _ _ _).mono ?_; rintro e w1 ⟨rfl, hb⟩; have n0_ := Aside0.mk (below_step (by exact HB.out) hb); have n1_ : Aside0 (w1.heap[w.heap.size]? = some (.cells (CS2 m A c 1) 33 (0, 0))) := ⟨blk_keep hb (by exact BK.out)⟩; clear HB BK hb; have HB := n0_; have BK := n1_; clear n0_ n1_))
        all_goals go_meet
        all_goals exact ⟨_, rfl, ⟨by first | rfl | (simp [*]; done) | (simp_all; done), by exact HB.out, by exact BK.out⟩⟩
      case rest =>
        obtain ⟨r3, rfl, HH⟩ := hcut
        have Hr3 := Aside0.mk HH.out.1
        have N0_ := Aside0.mk HH.out.2.1
        have N1_ := Aside0.mk HH.out.2.2
        clear HB BK HH
        have HB := N0_
        have BK := N1_
        clear N0_ N1_
        have hcz_2 : wc.cell? ⟨w.heap.size, 2, none⟩ = some (.int .i64 m.cap) := (blk_cell BK.out 2).trans rfl
        have hcz_3 : wc.cell? ⟨w.heap.size, 3, none⟩ = some (.int .i64 m.recaps) := (blk_cell BK.out 3).trans rfl
        have hfz_2 : wc.frozen? ⟨w.heap.size, 2, none⟩ = false := blk_frozen BK.out 2
        have hfz_3 : wc.frozen? ⟨w.heap.size, 3, none⟩ = false := blk_frozen BK.out 3
        go_upto_region 34 with fail
        have hce : (((CS2 m A c 1).setIfInBounds 2 (.int .i64 0)).setIfInBounds 3 (.int .i64 0)) = CS2 m A c 2 := by simp [CS2]
        have hbk := (blk_set (blk_set BK.out 2 (.int .i64 0)) 3 (.int .i64 0))
        rw [hce] at hbk
        clear hce
        obtain ⟨wz4, hwz⟩ : ∃ wz : World, Below w.heap.size w wz ∧ wz.heap[w.heap.size]? = some (.cells (CS2 m A c 2) 33 (0, 0)) ∧ wz = ((wc).setCell ⟨w.heap.size, 2, none⟩ (.int .i64 0)).setCell ⟨w.heap.size, 3, none⟩ (.int .i64 0) := ⟨_, (Below.setCell (Below.setCell HB.out (Nat.le_refl _) (.int .i64 0)) (Nat.le_refl _) (.int .i64 0)), hbk, rfl⟩
        clear hbk
        rw [← hwz.2.2]
        have N0_ := Aside0.mk hwz.1
        have N1_ := Aside0.mk hwz.2.1
        clear hwz HB BK hcz_2 hfz_2 hcz_3 hfz_3
        have HB := N0_
        have BK := N1_
        clear N0_ N1_
        go_upto_region 34 with fail
        obtain rfl | rfl : r3 = true ∨ r3 = false := by cases r3 <;> simp
        · go_wp2_with (first | ((with_reducible refine gate_dst (N := 122) rfl ?_); refine gate_guard (by kernel_rfl) ?_; refine wpList_load_row rfl 33 (.tmp 1) rfl w.heap.size (by rfl) 33 (CS2 m A c 2) (0, 0) _ BK.out Try.underlying33 rfl inf33 ?_) | (go_at_call 69; refine (empty_calls _ _ _ _ _ _ _ _ _ _ _ _ _ _ _ _ _ _ _ _ _ m.views _ ((Kd.C_below HR.out (by exact HB.out))) HC.out).mono ?_; rintro e w1 ⟨rfl, hb⟩; have n0_ := Aside0.mk (below_step (by exact HB.out) hb); clear HB hb; have HB := n0_; clear n0_))
          go_ret
          refine ⟨_, congrArg Ending.returned (show _ = Value.bool _ from rfl), ?_, HB.out⟩
          unfold vp2 emB
          rw [← Hr1.out]
          rw [← HQ.out]
          rw [← Hr3.out]
          first | (simp [*, toList_nil]; done) | (simp_all [toList_nil]; done)
        · go_wp2_with fail
          go_ret
          refine ⟨_, congrArg Ending.returned (show _ = Value.bool _ from rfl), ?_, HB.out⟩
          unfold vp2 emB
          rw [← Hr1.out]
          rw [← HQ.out]
          rw [← Hr3.out]
          first | (simp [*, toList_nil]; done) | (simp_all [toList_nil]; done)
    · go_upto_region 34 with fail
      obtain rfl | rfl : r1 = true ∨ r1 = false := by cases r1 <;> simp
      · go_wp2_with (first | ((with_reducible refine gate_dst (N := 122) rfl ?_); refine gate_guard (by kernel_rfl) ?_; refine wpList_load_row rfl 33 (.tmp 1) rfl w.heap.size (by rfl) 33 (CS2 m A c 1) (0, 0) _ BK.out Try.underlying33 rfl inf33 ?_) | (go_at_call 69; refine (empty_calls _ _ _ _ _ _ _ _ _ _ _ _ _ _ _ _ _ _ _ _ _ m.views _ ((Kd.C_below HR.out (by exact HB.out))) HC.out).mono ?_; rintro e w1 ⟨rfl, hb⟩; have n0_ := Aside0.mk (below_step (by exact HB.out) hb); clear HB hb; have HB := n0_; clear n0_))
        go_ret
        refine ⟨_, congrArg Ending.returned (show _ = Value.bool _ from rfl), ?_, HB.out⟩
        unfold vp2 emB
        rw [← Hr1.out]
        rw [← HQ.out]
        first | (simp [*, toList_nil]; done) | (simp_all [toList_nil]; done)
      · go_wp2_with fail
        go_ret
        refine ⟨_, congrArg Ending.returned (show _ = Value.bool _ from rfl), ?_, HB.out⟩
        unfold vp2 emB
        rw [← Hr1.out]
        rw [← HQ.out]
        first | (simp [*, toList_nil]; done) | (simp_all [toList_nil]; done)
noncomputable def vp7 (m : Msg) : Bool := (((dcd (epochV ⟨m.over.f0, m.over.f1⟩)) && dcd (epochV ⟨m.epoch.f0, m.epoch.f1⟩) && nB m.name) && bB m.cap 1 1099511627776 && bB m.recaps 0 1099511627776) && emB (⟨#[]⟩) (0) (0) (0) (0) (0) (0) (m.rights.f0) (m.rights.f1) (m.held) (m.call.f0) (m.call.f1) (m.op.kind) (m.op.name) (m.op.a) (m.op.b) (m.err) (m.value) m.views
def CS7 (m : Msg) (A : Option Addr) (c : Nat) : Nat → Array Value
  | 0 => #[.int .i64 7, .string m.name, .int .i64 m.cap, .int .i64 m.recaps, .int .i64 m.epoch.f0, .int .i64 m.epoch.f1, .int .i64 m.over.f0, .int .i64 m.over.f1, .int .i64 m.rights.f0, .int .i64 m.rights.f1, .int .i64 m.held, .int .i64 m.call.f0, .int .i64 m.call.f1, .int .i64 m.op.kind, .string m.op.name, .int .i64 m.op.a, .int .i64 m.op.b, .int .i64 m.err, .int .i64 m.value, .slice A m.views.length c]
  | 1 => #[.int .i64 7, .string m.name, .int .i64 m.cap, .int .i64 m.recaps, .int .i64 m.epoch.f0, .int .i64 m.epoch.f1, .int .i64 0, .int .i64 0, .int .i64 m.rights.f0, .int .i64 m.rights.f1, .int .i64 m.held, .int .i64 m.call.f0, .int .i64 m.call.f1, .int .i64 m.op.kind, .string m.op.name, .int .i64 m.op.a, .int .i64 m.op.b, .int .i64 m.err, .int .i64 m.value, .slice A m.views.length c]
  | 2 => #[.int .i64 7, .string ⟨#[]⟩, .int .i64 m.cap, .int .i64 m.recaps, .int .i64 0, .int .i64 0, .int .i64 0, .int .i64 0, .int .i64 m.rights.f0, .int .i64 m.rights.f1, .int .i64 m.held, .int .i64 m.call.f0, .int .i64 m.call.f1, .int .i64 m.op.kind, .string m.op.name, .int .i64 m.op.a, .int .i64 m.op.b, .int .i64 m.err, .int .i64 m.value, .slice A m.views.length c]
  | _ => #[.int .i64 7, .string ⟨#[]⟩, .int .i64 0, .int .i64 0, .int .i64 0, .int .i64 0, .int .i64 0, .int .i64 0, .int .i64 m.rights.f0, .int .i64 m.rights.f1, .int .i64 m.held, .int .i64 m.call.f0, .int .i64 m.call.f1, .int .i64 m.op.kind, .string m.op.name, .int .i64 m.op.a, .int .i64 m.op.b, .int .i64 m.err, .int .i64 m.value, .slice A m.views.length c]
set_option maxHeartbeats 16000000 in
set_option maxRecDepth 100000 in
theorem valid7_calls (m : Msg) (A : Option Addr) (c : Nat) (w : World) (hr : Kd.C k87 w A m.views.length m.views) (hc : m.views.length ≤ c) :
    Calls Try.prog 21 #[.agg #[.int .i64 7, .string m.name, .int .i64 m.cap, .int .i64 m.recaps, .int .i64 m.epoch.f0, .int .i64 m.epoch.f1, .int .i64 m.over.f0, .int .i64 m.over.f1, .int .i64 m.rights.f0, .int .i64 m.rights.f1, .int .i64 m.held, .int .i64 m.call.f0, .int .i64 m.call.f1, .int .i64 m.op.kind, .string m.op.name, .int .i64 m.op.a, .int .i64 m.op.b, .int .i64 m.err, .int .i64 m.value, .slice A m.views.length c]] w fun e w' => ∃ r, e = .returned (.bool r) ∧ r = vp7 m ∧ Below w.heap.size w w' := by
  have hu33 := Try.underlying33
  have hu23 := Try.underlying23
  have hu25 := Try.underlying25
  have hu27 := Try.underlying27
  have hu29 := Try.underlying29
  have HR := Aside0.mk hr
  have HC := Aside0.mk hc
  clear hr hc
  obtain ⟨wa, hwa⟩ : ∃ wa, wa = w.alloc (.cells #[.int .i64 7, .string m.name, .int .i64 m.cap, .int .i64 m.recaps, .int .i64 m.epoch.f0, .int .i64 m.epoch.f1, .int .i64 m.over.f0, .int .i64 m.over.f1, .int .i64 m.rights.f0, .int .i64 m.rights.f1, .int .i64 m.held, .int .i64 m.call.f0, .int .i64 m.call.f1, .int .i64 m.op.kind, .string m.op.name, .int .i64 m.op.a, .int .i64 m.op.b, .int .i64 m.err, .int .i64 m.value, .slice A m.views.length c] 33 (0, 0)) := ⟨_, rfl⟩
  have HWA := Aside0.mk hwa
  have HB : Aside0 (Below w.heap.size w wa) := ⟨by rw [hwa]; exact (Below.refl _ _).alloc (Nat.le_refl _) _⟩
  have BK : Aside0 (wa.heap[w.heap.size]? = some (.cells (CS7 m A c 0) 33 (0, 0))) := ⟨by rw [hwa]; exact heap_alloc_new w _⟩
  clear hwa
  have hcz_0 : wa.cell? ⟨w.heap.size, 0, none⟩ = some (.int .i64 7) := (blk_cell BK.out 0).trans rfl
  go_enter Try.func21, Try.ntmps21
  go_upto_region 1 with fail
  rw [← HWA.out]
  go_upto_region 20 with fail
  go_cut [3] from 5 (fun v3 wx => ∃ rr : Bool, v3 = .bool rr ∧ Aside0 (rr = (dcd (epochV ⟨m.over.f0, m.over.f1⟩)) ∧ Below w.heap.size w wx ∧ wx.heap[w.heap.size]? = some (.cells (CS7 m A c 0) 33 (0, 0))))
  case first =>
    have hcz_6 : wa.cell? ⟨w.heap.size, 6, none⟩ = some (.int .i64 m.over.f0) := (blk_cell BK.out 6).trans rfl
    have hcz_7 : wa.cell? ⟨w.heap.size, 7, none⟩ = some (.int .i64 m.over.f1) := (blk_cell BK.out 7).trans rfl
    go_wp2_with (first | (go_at_call 67; refine (rightEpoch_calls _ _ _).mono ?_; rintro e w1 ⟨rfl, hb⟩; have n0_ := Aside0.mk (below_step (by exact HB.out) hb); have n1_ : Aside0 (w1.heap[w.heap.size]? = some (.cells (CS7 m A c 0) 33 (0, 0))) := ⟨blk_keep hb (by exact BK.out)⟩; clear HB BK hb; have HB := n0_; have BK := n1_; clear n0_ n1_))
    all_goals go_meet
    all_goals exact ⟨_, rfl, ⟨by first | rfl | (simp [*]; done) | (simp_all; done), by exact HB.out, by exact BK.out⟩⟩
  case rest =>
    obtain ⟨r1, rfl, HH⟩ := hcut
    have Hr1 := Aside0.mk HH.out.1
    have N0_ := Aside0.mk HH.out.2.1
    have N1_ := Aside0.mk HH.out.2.2
    clear HB BK HH
    have HB := N0_
    have BK := N1_
    clear N0_ N1_
    have hcz_6 : wc.cell? ⟨w.heap.size, 6, none⟩ = some (.int .i64 m.over.f0) := (blk_cell BK.out 6).trans rfl
    have hcz_7 : wc.cell? ⟨w.heap.size, 7, none⟩ = some (.int .i64 m.over.f1) := (blk_cell BK.out 7).trans rfl
    have hfz_6 : wc.frozen? ⟨w.heap.size, 6, none⟩ = false := blk_frozen BK.out 6
    have hfz_7 : wc.frozen? ⟨w.heap.size, 7, none⟩ = false := blk_frozen BK.out 7
    go_upto_region 22 with fail
    have hce : (((CS7 m A c 0).setIfInBounds 6 (.int .i64 0)).setIfInBounds 7 (.int .i64 0)) = CS7 m A c 1 := by simp [CS7]
    have hbk := (blk_set (blk_set BK.out 6 (.int .i64 0)) 7 (.int .i64 0))
    rw [hce] at hbk
    clear hce
    obtain ⟨wz2, hwz⟩ : ∃ wz : World, Below w.heap.size w wz ∧ wz.heap[w.heap.size]? = some (.cells (CS7 m A c 1) 33 (0, 0)) ∧ wz = ((wc).setCell ⟨w.heap.size, 6, none⟩ (.int .i64 0)).setCell ⟨w.heap.size, 7, none⟩ (.int .i64 0) := ⟨_, (Below.setCell (Below.setCell HB.out (Nat.le_refl _) (.int .i64 0)) (Nat.le_refl _) (.int .i64 0)), hbk, rfl⟩
    clear hbk
    rw [← hwz.2.2]
    have N0_ := Aside0.mk hwz.1
    have N1_ := Aside0.mk hwz.2.1
    clear hwz HB BK hcz_6 hfz_6 hcz_7 hfz_7
    have HB := N0_
    have BK := N1_
    clear N0_ N1_
    go_upto_region 22 with fail
    go_cut [3] from 5 (fun v3 wx => ∃ rr : Bool, v3 = .bool rr ∧ Aside0 (rr = (r1 && dcd (epochV ⟨m.epoch.f0, m.epoch.f1⟩) && nB m.name) ∧ Below w.heap.size w wx ∧ wx.heap[w.heap.size]? = some (.cells (CS7 m A c 1) 33 (0, 0))))
    case first =>
      have hcz_4 : wz2.cell? ⟨w.heap.size, 4, none⟩ = some (.int .i64 m.epoch.f0) := (blk_cell BK.out 4).trans rfl
      have hcz_5 : wz2.cell? ⟨w.heap.size, 5, none⟩ = some (.int .i64 m.epoch.f1) := (blk_cell BK.out 5).trans rfl
      have hcz_1 : wz2.cell? ⟨w.heap.size, 1, none⟩ = some (.string m.name) := (blk_cell BK.out 1).trans rfl
      go_wp2_with (first | (go_at_call 67; refine (rightEpoch_calls _ _ _).mono ?_; rintro e w1 ⟨rfl, hb⟩; have n0_ := Aside0.mk (below_step (by exact HB.out) hb); have n1_ : Aside0 (w1.heap[w.heap.size]? = some (.cells (CS7 m A c 1) 33 (0, 0))) := ⟨blk_keep hb (by exact BK.out)⟩; clear HB BK hb; have HB := n0_; have BK := n1_; clear n0_ n1_; have hcz_1 : w1.cell? ⟨w.heap.size, 1, none⟩ = some (.string m.name) := (blk_cell BK.out 1).trans rfl) | (go_at_call 65; refine (named_calls _ _).mono ?_; rintro e w1 ⟨rfl, hb⟩; have n0_ := Aside0.mk (below_step (by exact HB.out) hb); have n1_ : Aside0 (w1.heap[w.heap.size]? = some (.cells (CS7 m A c 1) 33 (0, 0))) := ⟨blk_keep hb (by exact BK.out)⟩; clear HB BK hb; have HB := n0_; have BK := n1_; clear n0_ n1_))
      all_goals go_meet
      all_goals exact ⟨_, rfl, ⟨by first | rfl | (simp [*]; done) | (simp_all; done), by exact HB.out, by exact BK.out⟩⟩
    case rest =>
      obtain ⟨r3, rfl, HH⟩ := hcut
      have Hr3 := Aside0.mk HH.out.1
      have N0_ := Aside0.mk HH.out.2.1
      have N1_ := Aside0.mk HH.out.2.2
      clear HB BK HH
      have HB := N0_
      have BK := N1_
      clear N0_ N1_
      have hcz_4 : wc.cell? ⟨w.heap.size, 4, none⟩ = some (.int .i64 m.epoch.f0) := (blk_cell BK.out 4).trans rfl
      have hcz_5 : wc.cell? ⟨w.heap.size, 5, none⟩ = some (.int .i64 m.epoch.f1) := (blk_cell BK.out 5).trans rfl
      have hcz_1 : wc.cell? ⟨w.heap.size, 1, none⟩ = some (.string m.name) := (blk_cell BK.out 1).trans rfl
      have hfz_4 : wc.frozen? ⟨w.heap.size, 4, none⟩ = false := blk_frozen BK.out 4
      have hfz_5 : wc.frozen? ⟨w.heap.size, 5, none⟩ = false := blk_frozen BK.out 5
      have hfz_1 : wc.frozen? ⟨w.heap.size, 1, none⟩ = false := blk_frozen BK.out 1
      go_upto_region 31 with fail
      have hce : ((((CS7 m A c 1).setIfInBounds 4 (.int .i64 0)).setIfInBounds 5 (.int .i64 0)).setIfInBounds 1 (.string ⟨#[]⟩)) = CS7 m A c 2 := by simp [CS7]
      have hbk := (blk_set (blk_set (blk_set BK.out 4 (.int .i64 0)) 5 (.int .i64 0)) 1 (.string ⟨#[]⟩))
      rw [hce] at hbk
      clear hce
      obtain ⟨wz4, hwz⟩ : ∃ wz : World, Below w.heap.size w wz ∧ wz.heap[w.heap.size]? = some (.cells (CS7 m A c 2) 33 (0, 0)) ∧ wz = (((wc).setCell ⟨w.heap.size, 4, none⟩ (.int .i64 0)).setCell ⟨w.heap.size, 5, none⟩ (.int .i64 0)).setCell ⟨w.heap.size, 1, none⟩ (.string ⟨#[]⟩) := ⟨_, (Below.setCell (Below.setCell (Below.setCell HB.out (Nat.le_refl _) (.int .i64 0)) (Nat.le_refl _) (.int .i64 0)) (Nat.le_refl _) (.string ⟨#[]⟩)), hbk, rfl⟩
      clear hbk
      rw [← hwz.2.2]
      have N0_ := Aside0.mk hwz.1
      have N1_ := Aside0.mk hwz.2.1
      clear hwz HB BK hcz_4 hfz_4 hcz_5 hfz_5 hcz_1 hfz_1
      have HB := N0_
      have BK := N1_
      clear N0_ N1_
      go_upto_region 32 with fail
      go_cut [3] from 5 (fun v3 wx => ∃ rr : Bool, v3 = .bool rr ∧ Aside0 (rr = (r3 && bB m.cap 1 1099511627776 && bB m.recaps 0 1099511627776) ∧ Below w.heap.size w wx ∧ wx.heap[w.heap.size]? = some (.cells (CS7 m A c 2) 33 (0, 0))))
      case first =>
        have hcz_2 : wz4.cell? ⟨w.heap.size, 2, none⟩ = some (.int .i64 m.cap) := (blk_cell BK.out 2).trans rfl
        have hcz_3 : wz4.cell? ⟨w.heap.size, 3, none⟩ = some (.int .i64 m.recaps) := (blk_cell BK.out 3).trans rfl
        go_wp2_with (first | (go_at_call 66; refine (between_calls _ _ _ _).mono ?_; rintro e w1 ⟨rfl, hb⟩; have n0_ := Aside0.mk (below_step (by exact HB.out) hb); have n1_ : Aside0 (w1.heap[w.heap.size]? = some (.cells (CS7 m A c 2) 33 (0, 0))) := ⟨blk_keep hb (by exact BK.out)⟩; clear HB BK hb; have HB := n0_; have BK := n1_; clear n0_ n1_; have hcz_3 : w1.cell? ⟨w.heap.size, 3, none⟩ = some (.int .i64 m.recaps) := (blk_cell BK.out 3).trans rfl) | (go_at_call 66; refine (between_calls _ _ _ _).mono ?_; rintro e w1 ⟨rfl, hb⟩; have n0_ := Aside0.mk (below_step (by exact HB.out) hb); have n1_ : Aside0 (w1.heap[w.heap.size]? = some (.cells (CS7 m A c 2) 33 (0, 0))) := ⟨blk_keep hb (by exact BK.out)⟩; clear HB BK hb; have HB := n0_; have BK := n1_; clear n0_ n1_))
        all_goals go_meet
        all_goals exact ⟨_, rfl, ⟨by first | rfl | (simp [*]; done) | (simp_all; done), by exact HB.out, by exact BK.out⟩⟩
      case rest =>
        obtain ⟨r5, rfl, HH⟩ := hcut
        have Hr5 := Aside0.mk HH.out.1
        have N0_ := Aside0.mk HH.out.2.1
        have N1_ := Aside0.mk HH.out.2.2
        clear HB BK HH
        have HB := N0_
        have BK := N1_
        clear N0_ N1_
        have hcz_2 : wc.cell? ⟨w.heap.size, 2, none⟩ = some (.int .i64 m.cap) := (blk_cell BK.out 2).trans rfl
        have hcz_3 : wc.cell? ⟨w.heap.size, 3, none⟩ = some (.int .i64 m.recaps) := (blk_cell BK.out 3).trans rfl
        have hfz_2 : wc.frozen? ⟨w.heap.size, 2, none⟩ = false := blk_frozen BK.out 2
        have hfz_3 : wc.frozen? ⟨w.heap.size, 3, none⟩ = false := blk_frozen BK.out 3
        go_upto_region 34 with fail
        have hce : (((CS7 m A c 2).setIfInBounds 2 (.int .i64 0)).setIfInBounds 3 (.int .i64 0)) = CS7 m A c 3 := by simp [CS7]
        have hbk := (blk_set (blk_set BK.out 2 (.int .i64 0)) 3 (.int .i64 0))
        rw [hce] at hbk
        clear hce
        obtain ⟨wz6, hwz⟩ : ∃ wz : World, Below w.heap.size w wz ∧ wz.heap[w.heap.size]? = some (.cells (CS7 m A c 3) 33 (0, 0)) ∧ wz = ((wc).setCell ⟨w.heap.size, 2, none⟩ (.int .i64 0)).setCell ⟨w.heap.size, 3, none⟩ (.int .i64 0) := ⟨_, (Below.setCell (Below.setCell HB.out (Nat.le_refl _) (.int .i64 0)) (Nat.le_refl _) (.int .i64 0)), hbk, rfl⟩
        clear hbk
        rw [← hwz.2.2]
        have N0_ := Aside0.mk hwz.1
        have N1_ := Aside0.mk hwz.2.1
        clear hwz HB BK hcz_2 hfz_2 hcz_3 hfz_3
        have HB := N0_
        have BK := N1_
        clear N0_ N1_
        go_upto_region 34 with fail
        obtain rfl | rfl : r5 = true ∨ r5 = false := by cases r5 <;> simp
        · go_wp2_with (first | ((with_reducible refine gate_dst (N := 122) rfl ?_); refine gate_guard (by kernel_rfl) ?_; refine wpList_load_row rfl 33 (.tmp 1) rfl w.heap.size (by rfl) 33 (CS7 m A c 3) (0, 0) _ BK.out Try.underlying33 rfl inf33 ?_) | (go_at_call 69; refine (empty_calls _ _ _ _ _ _ _ _ _ _ _ _ _ _ _ _ _ _ _ _ _ m.views _ ((Kd.C_below HR.out (by exact HB.out))) HC.out).mono ?_; rintro e w1 ⟨rfl, hb⟩; have n0_ := Aside0.mk (below_step (by exact HB.out) hb); clear HB hb; have HB := n0_; clear n0_))
          go_ret
          refine ⟨_, congrArg Ending.returned (show _ = Value.bool _ from rfl), ?_, HB.out⟩
          unfold vp7 emB
          rw [← Hr1.out]
          rw [← Hr3.out]
          rw [← Hr5.out]
          first | (simp [*, toList_nil]; done) | (simp_all [toList_nil]; done)
        · go_wp2_with fail
          go_ret
          refine ⟨_, congrArg Ending.returned (show _ = Value.bool _ from rfl), ?_, HB.out⟩
          unfold vp7 emB
          rw [← Hr1.out]
          rw [← Hr3.out]
          rw [← Hr5.out]
          first | (simp [*, toList_nil]; done) | (simp_all [toList_nil]; done)
end Go.Proofs.Ytpgdmmjbhjbbhaa.Vd
end
section
namespace Go.Proofs.Ytpgdmmjbhjbbhaa.Vd
open Go Go.RowKit Go.Proofs.Ytpgdmmjbhjbbhaa.P Go.Proofs.Ytpgdmmjbhjbbhaa.Sp Go.Proofs.YtpgdmmjbhjbbhaaW.PrintWords Go.Proofs.YtpgdmmjbhjbbhaaW.PrintLast Go.Proofs.YtpgdmmjbhjbbhaaW.PrintMore
set_option linter.unusedVariables false
set_option linter.unusedSimpArgs false
noncomputable def vp4 (m : Msg) : Bool := ((((bB m.held 0 1099511627776) && dcd (epochV ⟨m.epoch.f0, m.epoch.f1⟩)) && dcd (rightsV ⟨m.rights.f0, m.rights.f1⟩) && nB m.name) && bB m.cap 1 1099511627776 && bB m.recaps 0 1099511627776) && emB (⟨#[]⟩) (0) (0) (0) (0) (m.over.f0) (m.over.f1) (0) (0) (0) (m.call.f0) (m.call.f1) (m.op.kind) (m.op.name) (m.op.a) (m.op.b) (m.err) (m.value) m.views
def CS4 (m : Msg) (A : Option Addr) (c : Nat) : Nat → Array Value
  | 0 => #[.int .i64 4, .string m.name, .int .i64 m.cap, .int .i64 m.recaps, .int .i64 m.epoch.f0, .int .i64 m.epoch.f1, .int .i64 m.over.f0, .int .i64 m.over.f1, .int .i64 m.rights.f0, .int .i64 m.rights.f1, .int .i64 m.held, .int .i64 m.call.f0, .int .i64 m.call.f1, .int .i64 m.op.kind, .string m.op.name, .int .i64 m.op.a, .int .i64 m.op.b, .int .i64 m.err, .int .i64 m.value, .slice A m.views.length c]
  | 1 => #[.int .i64 4, .string m.name, .int .i64 m.cap, .int .i64 m.recaps, .int .i64 m.epoch.f0, .int .i64 m.epoch.f1, .int .i64 m.over.f0, .int .i64 m.over.f1, .int .i64 m.rights.f0, .int .i64 m.rights.f1, .int .i64 0, .int .i64 m.call.f0, .int .i64 m.call.f1, .int .i64 m.op.kind, .string m.op.name, .int .i64 m.op.a, .int .i64 m.op.b, .int .i64 m.err, .int .i64 m.value, .slice A m.views.length c]
  | 2 => #[.int .i64 4, .string m.name, .int .i64 m.cap, .int .i64 m.recaps, .int .i64 0, .int .i64 0, .int .i64 m.over.f0, .int .i64 m.over.f1, .int .i64 m.rights.f0, .int .i64 m.rights.f1, .int .i64 0, .int .i64 m.call.f0, .int .i64 m.call.f1, .int .i64 m.op.kind, .string m.op.name, .int .i64 m.op.a, .int .i64 m.op.b, .int .i64 m.err, .int .i64 m.value, .slice A m.views.length c]
  | 3 => #[.int .i64 4, .string ⟨#[]⟩, .int .i64 m.cap, .int .i64 m.recaps, .int .i64 0, .int .i64 0, .int .i64 m.over.f0, .int .i64 m.over.f1, .int .i64 0, .int .i64 0, .int .i64 0, .int .i64 m.call.f0, .int .i64 m.call.f1, .int .i64 m.op.kind, .string m.op.name, .int .i64 m.op.a, .int .i64 m.op.b, .int .i64 m.err, .int .i64 m.value, .slice A m.views.length c]
  | _ => #[.int .i64 4, .string ⟨#[]⟩, .int .i64 0, .int .i64 0, .int .i64 0, .int .i64 0, .int .i64 m.over.f0, .int .i64 m.over.f1, .int .i64 0, .int .i64 0, .int .i64 0, .int .i64 m.call.f0, .int .i64 m.call.f1, .int .i64 m.op.kind, .string m.op.name, .int .i64 m.op.a, .int .i64 m.op.b, .int .i64 m.err, .int .i64 m.value, .slice A m.views.length c]
set_option maxHeartbeats 16000000 in
set_option maxRecDepth 100000 in
theorem valid4_calls (m : Msg) (A : Option Addr) (c : Nat) (w : World) (hr : Kd.C k87 w A m.views.length m.views) (hc : m.views.length ≤ c) :
    Calls Try.prog 21 #[.agg #[.int .i64 4, .string m.name, .int .i64 m.cap, .int .i64 m.recaps, .int .i64 m.epoch.f0, .int .i64 m.epoch.f1, .int .i64 m.over.f0, .int .i64 m.over.f1, .int .i64 m.rights.f0, .int .i64 m.rights.f1, .int .i64 m.held, .int .i64 m.call.f0, .int .i64 m.call.f1, .int .i64 m.op.kind, .string m.op.name, .int .i64 m.op.a, .int .i64 m.op.b, .int .i64 m.err, .int .i64 m.value, .slice A m.views.length c]] w fun e w' => ∃ r, e = .returned (.bool r) ∧ r = vp4 m ∧ Below w.heap.size w w' := by
  have hu33 := Try.underlying33
  have hu23 := Try.underlying23
  have hu25 := Try.underlying25
  have hu27 := Try.underlying27
  have hu29 := Try.underlying29
  have HR := Aside0.mk hr
  have HC := Aside0.mk hc
  clear hr hc
  obtain ⟨wa, hwa⟩ : ∃ wa, wa = w.alloc (.cells #[.int .i64 4, .string m.name, .int .i64 m.cap, .int .i64 m.recaps, .int .i64 m.epoch.f0, .int .i64 m.epoch.f1, .int .i64 m.over.f0, .int .i64 m.over.f1, .int .i64 m.rights.f0, .int .i64 m.rights.f1, .int .i64 m.held, .int .i64 m.call.f0, .int .i64 m.call.f1, .int .i64 m.op.kind, .string m.op.name, .int .i64 m.op.a, .int .i64 m.op.b, .int .i64 m.err, .int .i64 m.value, .slice A m.views.length c] 33 (0, 0)) := ⟨_, rfl⟩
  have HWA := Aside0.mk hwa
  have HB : Aside0 (Below w.heap.size w wa) := ⟨by rw [hwa]; exact (Below.refl _ _).alloc (Nat.le_refl _) _⟩
  have BK : Aside0 (wa.heap[w.heap.size]? = some (.cells (CS4 m A c 0) 33 (0, 0))) := ⟨by rw [hwa]; exact heap_alloc_new w _⟩
  clear hwa
  have hcz_0 : wa.cell? ⟨w.heap.size, 0, none⟩ = some (.int .i64 4) := (blk_cell BK.out 0).trans rfl
  go_enter Try.func21, Try.ntmps21
  go_upto_region 1 with fail
  rw [← HWA.out]
  go_upto_region 24 with fail
  go_cut [3] from 5 (fun v3 wx => ∃ rr : Bool, v3 = .bool rr ∧ Aside0 (rr = (bB m.held 0 1099511627776) ∧ Below w.heap.size w wx ∧ wx.heap[w.heap.size]? = some (.cells (CS4 m A c 0) 33 (0, 0))))
  case first =>
    have hcz_10 : wa.cell? ⟨w.heap.size, 10, none⟩ = some (.int .i64 m.held) := (blk_cell BK.out 10).trans rfl
    go_wp2_with (first | (go_at_call 66; refine (between_calls _ _ _ _).mono ?_; rintro e w1 ⟨rfl, hb⟩; have n0_ := Aside0.mk (below_step (by exact HB.out) hb); have n1_ : Aside0 (w1.heap[w.heap.size]? = some (.cells (CS4 m A c 0) 33 (0, 0))) := ⟨blk_keep hb (by exact BK.out)⟩; clear HB BK hb; have HB := n0_; have BK := n1_; clear n0_ n1_))
    all_goals go_meet
    all_goals exact ⟨_, rfl, ⟨by first | rfl | (simp [*]; done) | (simp_all; done), by exact HB.out, by exact BK.out⟩⟩
  case rest =>
    obtain ⟨r1, rfl, HH⟩ := hcut
    have Hr1 := Aside0.mk HH.out.1
    have N0_ := Aside0.mk HH.out.2.1
    have N1_ := Aside0.mk HH.out.2.2
    clear HB BK HH
    have HB := N0_
    have BK := N1_
    clear N0_ N1_
    have hcz_10 : wc.cell? ⟨w.heap.size, 10, none⟩ = some (.int .i64 m.held) := (blk_cell BK.out 10).trans rfl
    have hfz_10 : wc.frozen? ⟨w.heap.size, 10, none⟩ = false := blk_frozen BK.out 10
    go_upto_region 26 with fail
    have hce : ((CS4 m A c 0).setIfInBounds 10 (.int .i64 0)) = CS4 m A c 1 := by simp [CS4]
    have hbk := (blk_set BK.out 10 (.int .i64 0))
    rw [hce] at hbk
    clear hce
    obtain ⟨wz2, hwz⟩ : ∃ wz : World, Below w.heap.size w wz ∧ wz.heap[w.heap.size]? = some (.cells (CS4 m A c 1) 33 (0, 0)) ∧ wz = (wc).setCell ⟨w.heap.size, 10, none⟩ (.int .i64 0) := ⟨_, (Below.setCell HB.out (Nat.le_refl _) (.int .i64 0)), hbk, rfl⟩
    clear hbk
    rw [← hwz.2.2]
    have N0_ := Aside0.mk hwz.1
    have N1_ := Aside0.mk hwz.2.1
    clear hwz HB BK hcz_10 hfz_10
    have HB := N0_
    have BK := N1_
    clear N0_ N1_
    go_upto_region 26 with fail
    go_cut [3] from 5 (fun v3 wx => ∃ rr : Bool, v3 = .bool rr ∧ Aside0 (rr = (r1 && dcd (epochV ⟨m.epoch.f0, m.epoch.f1⟩)) ∧ Below w.heap.size w wx ∧ wx.heap[w.heap.size]? = some (.cells (CS4 m A c 1) 33 (0, 0))))
    case first =>
      have hcz_4 : wz2.cell? ⟨w.heap.size, 4, none⟩ = some (.int .i64 m.epoch.f0) := (blk_cell BK.out 4).trans rfl
      have hcz_5 : wz2.cell? ⟨w.heap.size, 5, none⟩ = some (.int .i64 m.epoch.f1) := (blk_cell BK.out 5).trans rfl
      go_wp2_with (first | (go_at_call 67; refine (rightEpoch_calls _ _ _).mono ?_; rintro e w1 ⟨rfl, hb⟩; have n0_ := Aside0.mk (below_step (by exact HB.out) hb); have n1_ : Aside0 (w1.heap[w.heap.size]? = some (.cells (CS4 m A c 1) 33 (0, 0))) := ⟨blk_keep hb (by exact BK.out)⟩; clear HB BK hb; have HB := n0_; have BK := n1_; clear n0_ n1_))
      all_goals go_meet
      all_goals exact ⟨_, rfl, ⟨by first | rfl | (simp [*]; done) | (simp_all; done), by exact HB.out, by exact BK.out⟩⟩
    case rest =>
      obtain ⟨r3, rfl, HH⟩ := hcut
      have Hr3 := Aside0.mk HH.out.1
      have N0_ := Aside0.mk HH.out.2.1
      have N1_ := Aside0.mk HH.out.2.2
      clear HB BK HH
      have HB := N0_
      have BK := N1_
      clear N0_ N1_
      have hcz_4 : wc.cell? ⟨w.heap.size, 4, none⟩ = some (.int .i64 m.epoch.f0) := (blk_cell BK.out 4).trans rfl
      have hcz_5 : wc.cell? ⟨w.heap.size, 5, none⟩ = some (.int .i64 m.epoch.f1) := (blk_cell BK.out 5).trans rfl
      have hfz_4 : wc.frozen? ⟨w.heap.size, 4, none⟩ = false := blk_frozen BK.out 4
      have hfz_5 : wc.frozen? ⟨w.heap.size, 5, none⟩ = false := blk_frozen BK.out 5
      go_upto_region 28 with fail
      have hce : (((CS4 m A c 1).setIfInBounds 4 (.int .i64 0)).setIfInBounds 5 (.int .i64 0)) = CS4 m A c 2 := by simp [CS4]
      have hbk := (blk_set (blk_set BK.out 4 (.int .i64 0)) 5 (.int .i64 0))
      rw [hce] at hbk
      clear hce
      obtain ⟨wz4, hwz⟩ : ∃ wz : World, Below w.heap.size w wz ∧ wz.heap[w.heap.size]? = some (.cells (CS4 m A c 2) 33 (0, 0)) ∧ wz = ((wc).setCell ⟨w.heap.size, 4, none⟩ (.int .i64 0)).setCell ⟨w.heap.size, 5, none⟩ (.int .i64 0) := ⟨_, (Below.setCell (Below.setCell HB.out (Nat.le_refl _) (.int .i64 0)) (Nat.le_refl _) (.int .i64 0)), hbk, rfl⟩
      clear hbk
      rw [← hwz.2.2]
      have N0_ := Aside0.mk hwz.1
      have N1_ := Aside0.mk hwz.2.1
      clear hwz HB BK hcz_4 hfz_4 hcz_5 hfz_5
      have HB := N0_
      have BK := N1_
      clear N0_ N1_
      go_upto_region 28 with fail
      go_cut [3] from 5 (fun v3 wx => ∃ rr : Bool, v3 = .bool rr ∧ Aside0 (rr = (r3 && dcd (rightsV ⟨m.rights.f0, m.rights.f1⟩) && nB m.name) ∧ Below w.heap.size w wx ∧ wx.heap[w.heap.size]? = some (.cells (CS4 m A c 2) 33 (0, 0))))
      case first =>
        have hcz_8 : wz4.cell? ⟨w.heap.size, 8, none⟩ = some (.int .i64 m.rights.f0) := (blk_cell BK.out 8).trans rfl
        have hcz_9 : wz4.cell? ⟨w.heap.size, 9, none⟩ = some (.int .i64 m.rights.f1) := (blk_cell BK.out 9).trans rfl
        have hcz_1 : wz4.cell? ⟨w.heap.size, 1, none⟩ = some (.string m.name) := (blk_cell BK.out 1).trans rfl
        go_wp2_with (first | (go_at_call 68; refine (rightRights_calls _ _ _).mono ?_; rintro e w1 ⟨rfl, hb⟩; have n0_ := Aside0.mk (below_step (by exact HB.out) hb); have n1_ : Aside0 (w1.heap[w.heap.size]? = some (.cells (CS4 m A c 2) 33 (0, 0))) := ⟨blk_keep hb (by exact BK.out)⟩; clear HB BK hb; have HB := n0_; have BK := n1_; clear n0_ n1_; have hcz_1 : w1.cell? ⟨w.heap.size, 1, none⟩ = some (.string m.name) := (blk_cell BK.out 1).trans rfl) | (go_at_call 65; refine (named_calls _ _).mono ?_; rintro e w1 ⟨rfl, hb⟩; have n0_ := Aside0.mk (below_step (by exact HB.out) hb); have n1_ : Aside0 (w1.heap[w.heap.size]? = some (.cells (CS4 m A c 2) 33 (0, 0))) := ⟨blk_keep hb (by exact BK.out)⟩; clear HB BK hb; have HB := n0_; have BK := n1_; clear n0_ n1_))
        all_goals go_meet
        all_goals exact ⟨_, rfl, ⟨by first | rfl | (simp [*]; done) | (simp_all; done), by exact HB.out, by exact BK.out⟩⟩
      case rest =>
        obtain ⟨r5, rfl, HH⟩ := hcut
        have Hr5 := Aside0.mk HH.out.1
        have N0_ := Aside0.mk HH.out.2.1
        have N1_ := Aside0.mk HH.out.2.2
        clear HB BK HH
        have HB := N0_
        have BK := N1_
        clear N0_ N1_
        have hcz_8 : wc.cell? ⟨w.heap.size, 8, none⟩ = some (.int .i64 m.rights.f0) := (blk_cell BK.out 8).trans rfl
        have hcz_9 : wc.cell? ⟨w.heap.size, 9, none⟩ = some (.int .i64 m.rights.f1) := (blk_cell BK.out 9).trans rfl
        have hcz_1 : wc.cell? ⟨w.heap.size, 1, none⟩ = some (.string m.name) := (blk_cell BK.out 1).trans rfl
        have hfz_8 : wc.frozen? ⟨w.heap.size, 8, none⟩ = false := blk_frozen BK.out 8
        have hfz_9 : wc.frozen? ⟨w.heap.size, 9, none⟩ = false := blk_frozen BK.out 9
        have hfz_1 : wc.frozen? ⟨w.heap.size, 1, none⟩ = false := blk_frozen BK.out 1
        go_upto_region 31 with fail
        have hce : ((((CS4 m A c 2).setIfInBounds 8 (.int .i64 0)).setIfInBounds 9 (.int .i64 0)).setIfInBounds 1 (.string ⟨#[]⟩)) = CS4 m A c 3 := by simp [CS4]
        have hbk := (blk_set (blk_set (blk_set BK.out 8 (.int .i64 0)) 9 (.int .i64 0)) 1 (.string ⟨#[]⟩))
        rw [hce] at hbk
        clear hce
        obtain ⟨wz6, hwz⟩ : ∃ wz : World, Below w.heap.size w wz ∧ wz.heap[w.heap.size]? = some (.cells (CS4 m A c 3) 33 (0, 0)) ∧ wz = (((wc).setCell ⟨w.heap.size, 8, none⟩ (.int .i64 0)).setCell ⟨w.heap.size, 9, none⟩ (.int .i64 0)).setCell ⟨w.heap.size, 1, none⟩ (.string ⟨#[]⟩) := ⟨_, (Below.setCell (Below.setCell (Below.setCell HB.out (Nat.le_refl _) (.int .i64 0)) (Nat.le_refl _) (.int .i64 0)) (Nat.le_refl _) (.string ⟨#[]⟩)), hbk, rfl⟩
        clear hbk
        rw [← hwz.2.2]
        have N0_ := Aside0.mk hwz.1
        have N1_ := Aside0.mk hwz.2.1
        clear hwz HB BK hcz_8 hfz_8 hcz_9 hfz_9 hcz_1 hfz_1
        have HB := N0_
        have BK := N1_
        clear N0_ N1_
        go_upto_region 32 with fail
        go_cut [3] from 5 (fun v3 wx => ∃ rr : Bool, v3 = .bool rr ∧ Aside0 (rr = (r5 && bB m.cap 1 1099511627776 && bB m.recaps 0 1099511627776) ∧ Below w.heap.size w wx ∧ wx.heap[w.heap.size]? = some (.cells (CS4 m A c 3) 33 (0, 0))))
        case first =>
          have hcz_2 : wz6.cell? ⟨w.heap.size, 2, none⟩ = some (.int .i64 m.cap) := (blk_cell BK.out 2).trans rfl
          have hcz_3 : wz6.cell? ⟨w.heap.size, 3, none⟩ = some (.int .i64 m.recaps) := (blk_cell BK.out 3).trans rfl
          go_wp2_with (first | (go_at_call 66; refine (between_calls _ _ _ _).mono ?_; rintro e w1 ⟨rfl, hb⟩; have n0_ := Aside0.mk (below_step (by exact HB.out) hb); have n1_ : Aside0 (w1.heap[w.heap.size]? = some (.cells (CS4 m A c 3) 33 (0, 0))) := ⟨blk_keep hb (by exact BK.out)⟩; clear HB BK hb; have HB := n0_; have BK := n1_; clear n0_ n1_; have hcz_3 : w1.cell? ⟨w.heap.size, 3, none⟩ = some (.int .i64 m.recaps) := (blk_cell BK.out 3).trans rfl) | (go_at_call 66; refine (between_calls _ _ _ _).mono ?_; rintro e w1 ⟨rfl, hb⟩; have n0_ := Aside0.mk (below_step (by exact HB.out) hb); have n1_ : Aside0 (w1.heap[w.heap.size]? = some (.cells (CS4 m A c 3) 33 (0, 0))) := ⟨blk_keep hb (by exact BK.out)⟩; clear HB BK hb; have HB := n0_; have BK := n1_; clear n0_ n1_))
          all_goals go_meet
          all_goals exact ⟨_, rfl, ⟨by first | rfl | (simp [*]; done) | (simp_all; done), by exact HB.out, by exact BK.out⟩⟩
        case rest =>
          obtain ⟨r7, rfl, HH⟩ := hcut
          have Hr7 := Aside0.mk HH.out.1
          have N0_ := Aside0.mk HH.out.2.1
          have N1_ := Aside0.mk HH.out.2.2
          clear HB BK HH
          have HB := N0_
          have BK := N1_
          clear N0_ N1_
          have hcz_2 : wc.cell? ⟨w.heap.size, 2, none⟩ = some (.int .i64 m.cap) := (blk_cell BK.out 2).trans rfl
          have hcz_3 : wc.cell? ⟨w.heap.size, 3, none⟩ = some (.int .i64 m.recaps) := (blk_cell BK.out 3).trans rfl
          have hfz_2 : wc.frozen? ⟨w.heap.size, 2, none⟩ = false := blk_frozen BK.out 2
          have hfz_3 : wc.frozen? ⟨w.heap.size, 3, none⟩ = false := blk_frozen BK.out 3
          go_upto_region 34 with fail
          have hce : (((CS4 m A c 3).setIfInBounds 2 (.int .i64 0)).setIfInBounds 3 (.int .i64 0)) = CS4 m A c 4 := by simp [CS4]
          have hbk := (blk_set (blk_set BK.out 2 (.int .i64 0)) 3 (.int .i64 0))
          rw [hce] at hbk
          clear hce
          obtain ⟨wz8, hwz⟩ : ∃ wz : World, Below w.heap.size w wz ∧ wz.heap[w.heap.size]? = some (.cells (CS4 m A c 4) 33 (0, 0)) ∧ wz = ((wc).setCell ⟨w.heap.size, 2, none⟩ (.int .i64 0)).setCell ⟨w.heap.size, 3, none⟩ (.int .i64 0) := ⟨_, (Below.setCell (Below.setCell HB.out (Nat.le_refl _) (.int .i64 0)) (Nat.le_refl _) (.int .i64 0)), hbk, rfl⟩
          clear hbk
          rw [← hwz.2.2]
          have N0_ := Aside0.mk hwz.1
          have N1_ := Aside0.mk hwz.2.1
          clear hwz HB BK hcz_2 hfz_2 hcz_3 hfz_3
          have HB := N0_
          have BK := N1_
          clear N0_ N1_
          go_upto_region 34 with fail
          obtain rfl | rfl : r7 = true ∨ r7 = false := by cases r7 <;> simp
          · go_wp2_with (first | ((with_reducible refine gate_dst (N := 122) rfl ?_); refine gate_guard (by kernel_rfl) ?_; refine wpList_load_row rfl 33 (.tmp 1) rfl w.heap.size (by rfl) 33 (CS4 m A c 4) (0, 0) _ BK.out Try.underlying33 rfl inf33 ?_) | (go_at_call 69; refine (empty_calls _ _ _ _ _ _ _ _ _ _ _ _ _ _ _ _ _ _ _ _ _ m.views _ ((Kd.C_below HR.out (by exact HB.out))) HC.out).mono ?_; rintro e w1 ⟨rfl, hb⟩; have n0_ := Aside0.mk (below_step (by exact HB.out) hb); clear HB hb; have HB := n0_; clear n0_))
            go_ret
            refine ⟨_, congrArg Ending.returned (show _ = Value.bool _ from rfl), ?_, HB.out⟩
            unfold vp4 emB
            rw [← Hr1.out]
            rw [← Hr3.out]
            rw [← Hr5.out]
            rw [← Hr7.out]
            first | (simp [*, toList_nil]; done) | (simp_all [toList_nil]; done)
          · go_wp2_with fail
            go_ret
            refine ⟨_, congrArg Ending.returned (show _ = Value.bool _ from rfl), ?_, HB.out⟩
            unfold vp4 emB
            rw [← Hr1.out]
            rw [← Hr3.out]
            rw [← Hr5.out]
            rw [← Hr7.out]
            first | (simp [*, toList_nil]; done) | (simp_all [toList_nil]; done)
noncomputable def vp8 (m : Msg) : Bool := ((dcd (rightsV ⟨m.rights.f0, m.rights.f1⟩) && nB m.name) && bB m.cap 1 1099511627776 && bB m.recaps 0 1099511627776) && emB (⟨#[]⟩) (0) (0) (m.epoch.f0) (m.epoch.f1) (m.over.f0) (m.over.f1) (0) (0) (m.held) (m.call.f0) (m.call.f1) (m.op.kind) (m.op.name) (m.op.a) (m.op.b) (m.err) (m.value) m.views
def CS8 (m : Msg) (A : Option Addr) (c : Nat) : Nat → Array Value
  | 0 => #[.int .i64 8, .string m.name, .int .i64 m.cap, .int .i64 m.recaps, .int .i64 m.epoch.f0, .int .i64 m.epoch.f1, .int .i64 m.over.f0, .int .i64 m.over.f1, .int .i64 m.rights.f0, .int .i64 m.rights.f1, .int .i64 m.held, .int .i64 m.call.f0, .int .i64 m.call.f1, .int .i64 m.op.kind, .string m.op.name, .int .i64 m.op.a, .int .i64 m.op.b, .int .i64 m.err, .int .i64 m.value, .slice A m.views.length c]
  | 1 => #[.int .i64 8, .string ⟨#[]⟩, .int .i64 m.cap, .int .i64 m.recaps, .int .i64 m.epoch.f0, .int .i64 m.epoch.f1, .int .i64 m.over.f0, .int .i64 m.over.f1, .int .i64 0, .int .i64 0, .int .i64 m.held, .int .i64 m.call.f0, .int .i64 m.call.f1, .int .i64 m.op.kind, .string m.op.name, .int .i64 m.op.a, .int .i64 m.op.b, .int .i64 m.err, .int .i64 m.value, .slice A m.views.length c]
  | _ => #[.int .i64 8, .string ⟨#[]⟩, .int .i64 0, .int .i64 0, .int .i64 m.epoch.f0, .int .i64 m.epoch.f1, .int .i64 m.over.f0, .int .i64 m.over.f1, .int .i64 0, .int .i64 0, .int .i64 m.held, .int .i64 m.call.f0, .int .i64 m.call.f1, .int .i64 m.op.kind, .string m.op.name, .int .i64 m.op.a, .int .i64 m.op.b, .int .i64 m.err, .int .i64 m.value, .slice A m.views.length c]
set_option maxHeartbeats 16000000 in
set_option maxRecDepth 100000 in
theorem valid8_calls (m : Msg) (A : Option Addr) (c : Nat) (w : World) (hr : Kd.C k87 w A m.views.length m.views) (hc : m.views.length ≤ c) :
    Calls Try.prog 21 #[.agg #[.int .i64 8, .string m.name, .int .i64 m.cap, .int .i64 m.recaps, .int .i64 m.epoch.f0, .int .i64 m.epoch.f1, .int .i64 m.over.f0, .int .i64 m.over.f1, .int .i64 m.rights.f0, .int .i64 m.rights.f1, .int .i64 m.held, .int .i64 m.call.f0, .int .i64 m.call.f1, .int .i64 m.op.kind, .string m.op.name, .int .i64 m.op.a, .int .i64 m.op.b, .int .i64 m.err, .int .i64 m.value, .slice A m.views.length c]] w fun e w' => ∃ r, e = .returned (.bool r) ∧ r = vp8 m ∧ Below w.heap.size w w' := by
  have hu33 := Try.underlying33
  have hu23 := Try.underlying23
  have hu25 := Try.underlying25
  have hu27 := Try.underlying27
  have hu29 := Try.underlying29
  have HR := Aside0.mk hr
  have HC := Aside0.mk hc
  clear hr hc
  obtain ⟨wa, hwa⟩ : ∃ wa, wa = w.alloc (.cells #[.int .i64 8, .string m.name, .int .i64 m.cap, .int .i64 m.recaps, .int .i64 m.epoch.f0, .int .i64 m.epoch.f1, .int .i64 m.over.f0, .int .i64 m.over.f1, .int .i64 m.rights.f0, .int .i64 m.rights.f1, .int .i64 m.held, .int .i64 m.call.f0, .int .i64 m.call.f1, .int .i64 m.op.kind, .string m.op.name, .int .i64 m.op.a, .int .i64 m.op.b, .int .i64 m.err, .int .i64 m.value, .slice A m.views.length c] 33 (0, 0)) := ⟨_, rfl⟩
  have HWA := Aside0.mk hwa
  have HB : Aside0 (Below w.heap.size w wa) := ⟨by rw [hwa]; exact (Below.refl _ _).alloc (Nat.le_refl _) _⟩
  have BK : Aside0 (wa.heap[w.heap.size]? = some (.cells (CS8 m A c 0) 33 (0, 0))) := ⟨by rw [hwa]; exact heap_alloc_new w _⟩
  clear hwa
  have hcz_0 : wa.cell? ⟨w.heap.size, 0, none⟩ = some (.int .i64 8) := (blk_cell BK.out 0).trans rfl
  go_enter Try.func21, Try.ntmps21
  go_upto_region 1 with fail
  rw [← HWA.out]
  go_upto_region 28 with fail
  go_cut [3] from 5 (fun v3 wx => ∃ rr : Bool, v3 = .bool rr ∧ Aside0 (rr = (dcd (rightsV ⟨m.rights.f0, m.rights.f1⟩) && nB m.name) ∧ Below w.heap.size w wx ∧ wx.heap[w.heap.size]? = some (.cells (CS8 m A c 0) 33 (0, 0))))
  case first =>
    have hcz_8 : wa.cell? ⟨w.heap.size, 8, none⟩ = some (.int .i64 m.rights.f0) := (blk_cell BK.out 8).trans rfl
    have hcz_9 : wa.cell? ⟨w.heap.size, 9, none⟩ = some (.int .i64 m.rights.f1) := (blk_cell BK.out 9).trans rfl
    have hcz_1 : wa.cell? ⟨w.heap.size, 1, none⟩ = some (.string m.name) := (blk_cell BK.out 1).trans rfl
    go_wp2_with (first | (go_at_call 68; refine (rightRights_calls _ _ _).mono ?_; rintro e w1 ⟨rfl, hb⟩; have n0_ := Aside0.mk (below_step (by exact HB.out) hb); have n1_ : Aside0 (w1.heap[w.heap.size]? = some (.cells (CS8 m A c 0) 33 (0, 0))) := ⟨blk_keep hb (by exact BK.out)⟩; clear HB BK hb; have HB := n0_; have BK := n1_; clear n0_ n1_; have hcz_1 : w1.cell? ⟨w.heap.size, 1, none⟩ = some (.string m.name) := (blk_cell BK.out 1).trans rfl) | (go_at_call 65; refine (named_calls _ _).mono ?_; rintro e w1 ⟨rfl, hb⟩; have n0_ := Aside0.mk (below_step (by exact HB.out) hb); have n1_ : Aside0 (w1.heap[w.heap.size]? = some (.cells (CS8 m A c 0) 33 (0, 0))) := ⟨blk_keep hb (by exact BK.out)⟩; clear HB BK hb; have HB := n0_; have BK := n1_; clear n0_ n1_))
    all_goals go_meet
    all_goals exact ⟨_, rfl, ⟨by first | rfl | (simp [*]; done) | (simp_all; done), by exact HB.out, by exact BK.out⟩⟩
  case rest =>
    obtain ⟨r1, rfl, HH⟩ := hcut
    have Hr1 := Aside0.mk HH.out.1
    have N0_ := Aside0.mk HH.out.2.1
    have N1_ := Aside0.mk HH.out.2.2
    clear HB BK HH
    have HB := N0_
    have BK := N1_
    clear N0_ N1_
    have hcz_8 : wc.cell? ⟨w.heap.size, 8, none⟩ = some (.int .i64 m.rights.f0) := (blk_cell BK.out 8).trans rfl
    have hcz_9 : wc.cell? ⟨w.heap.size, 9, none⟩ = some (.int .i64 m.rights.f1) := (blk_cell BK.out 9).trans rfl
    have hcz_1 : wc.cell? ⟨w.heap.size, 1, none⟩ = some (.string m.name) := (blk_cell BK.out 1).trans rfl
    have hfz_8 : wc.frozen? ⟨w.heap.size, 8, none⟩ = false := blk_frozen BK.out 8
    have hfz_9 : wc.frozen? ⟨w.heap.size, 9, none⟩ = false := blk_frozen BK.out 9
    have hfz_1 : wc.frozen? ⟨w.heap.size, 1, none⟩ = false := blk_frozen BK.out 1
    go_upto_region 31 with fail
    have hce : ((((CS8 m A c 0).setIfInBounds 8 (.int .i64 0)).setIfInBounds 9 (.int .i64 0)).setIfInBounds 1 (.string ⟨#[]⟩)) = CS8 m A c 1 := by simp [CS8]
    have hbk := (blk_set (blk_set (blk_set BK.out 8 (.int .i64 0)) 9 (.int .i64 0)) 1 (.string ⟨#[]⟩))
    rw [hce] at hbk
    clear hce
    obtain ⟨wz2, hwz⟩ : ∃ wz : World, Below w.heap.size w wz ∧ wz.heap[w.heap.size]? = some (.cells (CS8 m A c 1) 33 (0, 0)) ∧ wz = (((wc).setCell ⟨w.heap.size, 8, none⟩ (.int .i64 0)).setCell ⟨w.heap.size, 9, none⟩ (.int .i64 0)).setCell ⟨w.heap.size, 1, none⟩ (.string ⟨#[]⟩) := ⟨_, (Below.setCell (Below.setCell (Below.setCell HB.out (Nat.le_refl _) (.int .i64 0)) (Nat.le_refl _) (.int .i64 0)) (Nat.le_refl _) (.string ⟨#[]⟩)), hbk, rfl⟩
    clear hbk
    rw [← hwz.2.2]
    have N0_ := Aside0.mk hwz.1
    have N1_ := Aside0.mk hwz.2.1
    clear hwz HB BK hcz_8 hfz_8 hcz_9 hfz_9 hcz_1 hfz_1
    have HB := N0_
    have BK := N1_
    clear N0_ N1_
    go_upto_region 32 with fail
    go_cut [3] from 5 (fun v3 wx => ∃ rr : Bool, v3 = .bool rr ∧ Aside0 (rr = (r1 && bB m.cap 1 1099511627776 && bB m.recaps 0 1099511627776) ∧ Below w.heap.size w wx ∧ wx.heap[w.heap.size]? = some (.cells (CS8 m A c 1) 33 (0, 0))))
    case first =>
      have hcz_2 : wz2.cell? ⟨w.heap.size, 2, none⟩ = some (.int .i64 m.cap) := (blk_cell BK.out 2).trans rfl
      have hcz_3 : wz2.cell? ⟨w.heap.size, 3, none⟩ = some (.int .i64 m.recaps) := (blk_cell BK.out 3).trans rfl
      go_wp2_with (first | (go_at_call 66; refine (between_calls _ _ _ _).mono ?_; rintro e w1 ⟨rfl, hb⟩; have n0_ := Aside0.mk (below_step (by exact HB.out) hb); have n1_ : Aside0 (w1.heap[w.heap.size]? = some (.cells (CS8 m A c 1) 33 (0, 0))) := ⟨blk_keep hb (by exact BK.out)⟩; clear HB BK hb; have HB := n0_; have BK := n1_; clear n0_ n1_; have hcz_3 : w1.cell? ⟨w.heap.size, 3, none⟩ = some (.int .i64 m.recaps) := (blk_cell BK.out 3).trans rfl) | (go_at_call 66; refine (between_calls _ _ _ _).mono ?_; rintro e w1 ⟨rfl, hb⟩; have n0_ := Aside0.mk (below_step (by exact HB.out) hb); have n1_ : Aside0 (w1.heap[w.heap.size]? = some (.cells (CS8 m A c 1) 33 (0, 0))) := ⟨blk_keep hb (by exact BK.out)⟩; clear HB BK hb; have HB := n0_; have BK := n1_; clear n0_ n1_))
      all_goals go_meet
      all_goals exact ⟨_, rfl, ⟨by first | rfl | (simp [*]; done) | (simp_all; done), by exact HB.out, by exact BK.out⟩⟩
    case rest =>
      obtain ⟨r3, rfl, HH⟩ := hcut
      have Hr3 := Aside0.mk HH.out.1
      have N0_ := Aside0.mk HH.out.2.1
      have N1_ := Aside0.mk HH.out.2.2
      clear HB BK HH
      have HB := N0_
      have BK := N1_
      clear N0_ N1_
      have hcz_2 : wc.cell? ⟨w.heap.size, 2, none⟩ = some (.int .i64 m.cap) := (blk_cell BK.out 2).trans rfl
      have hcz_3 : wc.cell? ⟨w.heap.size, 3, none⟩ = some (.int .i64 m.recaps) := (blk_cell BK.out 3).trans rfl
      have hfz_2 : wc.frozen? ⟨w.heap.size, 2, none⟩ = false := blk_frozen BK.out 2
      have hfz_3 : wc.frozen? ⟨w.heap.size, 3, none⟩ = false := blk_frozen BK.out 3
      go_upto_region 34 with fail
      have hce : (((CS8 m A c 1).setIfInBounds 2 (.int .i64 0)).setIfInBounds 3 (.int .i64 0)) = CS8 m A c 2 := by simp [CS8]
      have hbk := (blk_set (blk_set BK.out 2 (.int .i64 0)) 3 (.int .i64 0))
      rw [hce] at hbk
      clear hce
      obtain ⟨wz4, hwz⟩ : ∃ wz : World, Below w.heap.size w wz ∧ wz.heap[w.heap.size]? = some (.cells (CS8 m A c 2) 33 (0, 0)) ∧ wz = ((wc).setCell ⟨w.heap.size, 2, none⟩ (.int .i64 0)).setCell ⟨w.heap.size, 3, none⟩ (.int .i64 0) := ⟨_, (Below.setCell (Below.setCell HB.out (Nat.le_refl _) (.int .i64 0)) (Nat.le_refl _) (.int .i64 0)), hbk, rfl⟩
      clear hbk
      rw [← hwz.2.2]
      have N0_ := Aside0.mk hwz.1
      have N1_ := Aside0.mk hwz.2.1
      clear hwz HB BK hcz_2 hfz_2 hcz_3 hfz_3
      have HB := N0_
      have BK := N1_
      clear N0_ N1_
      go_upto_region 34 with fail
      obtain rfl | rfl : r3 = true ∨ r3 = false := by cases r3 <;> simp
      · go_wp2_with (first | ((with_reducible refine gate_dst (N := 122) rfl ?_); refine gate_guard (by kernel_rfl) ?_; refine wpList_load_row rfl 33 (.tmp 1) rfl w.heap.size (by rfl) 33 (CS8 m A c 2) (0, 0) _ BK.out Try.underlying33 rfl inf33 ?_) | (go_at_call 69; refine (empty_calls _ _ _ _ _ _ _ _ _ _ _ _ _ _ _ _ _ _ _ _ _ m.views _ ((Kd.C_below HR.out (by exact HB.out))) HC.out).mono ?_; rintro e w1 ⟨rfl, hb⟩; have n0_ := Aside0.mk (below_step (by exact HB.out) hb); clear HB hb; have HB := n0_; clear n0_))
        go_ret
        refine ⟨_, congrArg Ending.returned (show _ = Value.bool _ from rfl), ?_, HB.out⟩
        unfold vp8 emB
        rw [← Hr1.out]
        rw [← Hr3.out]
        first | (simp [*, toList_nil]; done) | (simp_all [toList_nil]; done)
      · go_wp2_with fail
        go_ret
        refine ⟨_, congrArg Ending.returned (show _ = Value.bool _ from rfl), ?_, HB.out⟩
        unfold vp8 emB
        rw [← Hr1.out]
        rw [← Hr3.out]
        first | (simp [*, toList_nil]; done) | (simp_all [toList_nil]; done)
end Go.Proofs.Ytpgdmmjbhjbbhaa.Vd
end
