/- texts that the proof needs, laid together by a program of this session. -/
import Derived.Deep.Cut
import Derived.Deep.AppendLies
import Derived.Laws.Bits64
import Derived.Laws.BitsAllLaws
import Derived.Test.YtpgdmmjbhjbbhaaKWireDecodes4
section
namespace Go.Proofs.Ytpgdmmjbhjbbhaa.Vd
open Go Go.RowKit Go.Proofs.Ytpgdmmjbhjbbhaa.P Go.Proofs.Ytpgdmmjbhjbbhaa.Sp Go.Proofs.YtpgdmmjbhjbbhaaW.PrintWords Go.Proofs.YtpgdmmjbhjbbhaaW.PrintLast Go.Proofs.YtpgdmmjbhjbbhaaW.PrintMore
set_option linter.unusedVariables false
set_option linter.unusedSimpArgs false
noncomputable def vp4 (m : Msg) : Bool := ((((bB m.held 0 1099511627776) && dcd (epochV ⟨m.epoch.f0, m.epoch.f1⟩)) && dcd (rightsV ⟨m.rights.f0, m.rights.f1⟩) && nB m.name) && bB m.cap 1 1099511627776 && bB m.recaps 0 1099511627776) && emB (⟨#[]⟩) (0) (0) (0) (0) (m.over.f0) (m.over.f1) (0) (0) (0) (m.call.f0) (m.call.f1) (m.op.kind) (m.op.name) (m.op.a) (m.op.b) (m.err) (m.value) m.views
def CS4 (m : Msg) (A : Option Addr) (c : Nat) : Nat → Array Value
  | 0 => #[.int .i64 4, .string m.name, .int .i64 m.cap, .int .i64 m.recaps, .int .i64 m.epoch.f0, .int .i64 m.epoch.f1, .int .i64 m.over.f0, .int .i64 m.over.f1, .int .i64 m.rights.f0, .int .i64 m.rights.f1, .int .i64 m.held, .int .i64 m.call.f0, .int .i64 m.call.f1, .int .i64 m.op.kind, .string m.op.name, .int .i64 m.op.a, .int .i64 m.op.b, .int .i64 m.err, .int .i64 m.value, .slice A m.views.length c]
  | 1 => #[.int .i64 4, .string m.name, .int .i64 m.cap, .int .i64 m.recaps, .int .i64 m.epoch.f0, .int .i64 m.epoch.f1, .int .i64 m.over.f0, .int .i64 m.over.f1, .int .i64 m.rights.f0, .int .i64 m.rights.f1, .int .i64 0, .int .i64 m.call.f0, .int .i64 m.call.f1, .int .i64 m.op.kind, .string m.op.name, .int .i64 m.op.a, .int .i64 m.op.b, .int .i64 m.err, .int .i64 m.value, .slice A m.views.length c]
  | 2 => #[.int .i64 4, .string m.name, .int .i64 m.cap, .int .i64 m.recaps, .int .i64 0, .int .i64 0, .int .i64 m.over.f0, .int .i64 m.over.f1, .int .i64 m.rights.f0, .int .i64 m.rights.f1, .int .i64 0, .int .i64 m.call.f0, .int .i64 m.call.f1, .int .i64 m.op.kind, .string m.op.name, .int .i64 m.op.a, .int .i64 m.op.b, .int .i64 m.err, .int .i64 m.value, .slice A m.views.length c]
  | 3 => #[.int .i64 4, .string ⟨#[]⟩, .int .i64 m.cap, .int .i64 m.recaps, .int .i64 0, .int .i64 0, .int .i64 m.over.f0, .int .i64 m.over.f1, .int .i64 0, .int .i64 0, .int .i64 0, .int .i64 m.call.f0, .int .i64 m.call.f1, .int .i64 m.op.kind, .string m.op.name, .int .i64 m.op.a, .int .i64 m.op.b, .int .i64 m.err, .int .i64 m.value, .slice A m.views.length c]
  | _ => #[.int .i64 4, .string ⟨#[]⟩, .int .i64 0, .int .i64 0, .int .i64 0, .int .i64 0, .int .i64 m.over.f0, .int .i64 m.over.f1, .int .i64 0, .int .i64 0, .int .i64 0, .int .i64 m.call.f0, .int .i64 m.call.f1, .int .i64 m.op.kind, .string m.op.name, .int .i64 m.op.a, .int .i64 m.op.b, .int .i64 m.err, .int .i64 m.value, .slice A m.views.length c]
set_option maxHeartbeats 16000000 in
set_option maxRecDepth 100000 in
theorem valid4_calls (m : Msg) (A : Option Addr) (c : Nat) (w : World) (hr : Kd.C k87 w A m.views.length m.views) (hc : m.views.length ≤ c) :
    Calls Try.prog 21 #[.agg #[.int .i64 4, .string m.name, .int .i64 m.cap, .int .i64 m.recaps, .int .i64 m.epoch.f0, .int .i64 m.epoch.f1, .int .i64 m.over.f0, .int .i64 m.over.f1, .int .i64 m.rights.f0, .int .i64 m.rights.f1, .int .i64 m.held, .int .i64 m.call.f0, .int .i64 m.call.f1, .int .i64 m.op.kind, .string m.op.name, .int .i64 m.op.a, .int .i64 m.op.b, .int .i64 m.err, .int .i64 m.value, .slice A m.views.length c]] w fun e w' => ∃ r, e = .returned (.bool r) ∧ r = vp4 m ∧ Below w.heap.size w w' := by
  have hu33 := Try.underlying33
  have hu23 := Try.underlying23
  have hu25 := Try.underlying25
  have hu27 := Try.underlying27
  have hu29 := Try.underlying29
  have HR := Aside0.mk hr
  have HC := Aside0.mk hc
  clear hr hc
  obtain ⟨wa, hwa⟩ : ∃ wa, wa = w.alloc (.cells #[.int .i64 4, .string m.name, .int .i64 m.cap, .int .i64 m.recaps, .int .i64 m.epoch.f0, .int .i64 m.epoch.f1, .int .i64 m.over.f0, .int .i64 m.over.f1, .int .i64 m.rights.f0, .int .i64 m.rights.f1, .int .i64 m.held, .int .i64 m.call.f0, .int .i64 m.call.f1, .int .i64 m.op.kind, .string m.op.name, .int .i64 m.op.a, .int .i64 m.op.b, .int .i64 m.err, .int .i64 m.value, .slice A m.views.length c] 33 (0, 0)) := ⟨_, rfl⟩
  have HWA := Aside0.mk hwa
  have HB : Aside0 (Below w.heap.size w wa) := ⟨by rw [hwa]; exact (Below.refl _ _).alloc (Nat.le_refl _) _⟩
  have BK : Aside0 (wa.heap[w.heap.size]? = some (.cells (CS4 m A c 0) 33 (0, 0))) := ⟨by rw [hwa]; exact heap_alloc_new w _⟩
  clear hwa
  have hcz_0 : wa.cell? ⟨w.heap.size, 0, none⟩ = some (.int .i64 4) := (blk_cell BK.out 0).trans rfl
  go_enter Try.func21, Try.ntmps21
  go_upto_region 1 with fail
  rw [← HWA.out]
  go_upto_region 24 with fail
  go_cut [3] from 5 (fun v3 wx => ∃ rr : Bool, v3 = .bool rr ∧ Aside0 (rr = (bB m.held 0 1099511627776) ∧ Below w.heap.size w wx ∧ wx.heap[w.heap.size]? = some (.cells (CS4 m A c 0) 33 (0, 0))))
  case first =>
    have hcz_10 : wa.cell? ⟨w.heap.size, 10, none⟩ = some (.int .i64 m.held) := (blk_cell BK.out 10).trans rfl
    go_wp2_with (first | (go_at_call 66; refine (between_calls _ _ _ _).mono ?_; rintro e w1 ⟨rfl, hb⟩; have n0_ := Aside0.mk (below_step (by exact HB.out) hb); have n1_ : Aside0 (w1.heap[w.heap.size]? = some (.cells (CS4 m A c 0) 33 (0, 0))) := ⟨blk_keep hb (by exact BK.out)⟩; clear HB BK hb; have HB := n0_; have BK := n1_; clear n0_ n1_))
    all_goals go_meet
    all_goals exact ⟨_, rfl, ⟨by first | rfl | (simp [*]; done) | (simp_all; done), by exact HB.out, by exact BK.out⟩⟩
  case rest =>
    obtain ⟨r1, rfl, HH⟩ := hcut
    have Hr1 := Aside0.mk HH.out.1
    have N0_ := Aside0.mk HH.out.2.1
    have N1_ := Aside0.mk HH.out.2.2
    clear HB BK HH
    have HB := N0_
    have BK := N1_
    clear N0_ N1_
    have hcz_10 : wc.cell? ⟨w.heap.size, 10, none⟩ = some (.int .i64 m.held) := (blk_cell BK.out 10).trans rfl
    have hfz_10 : wc.frozen? ⟨w.heap.size, 10, none⟩ = false := blk_frozen BK.out 10
    go_upto_region 26 with fail
    have hce : ((CS4 m A c 0).setIfInBounds 10 (.int .i64 0)) = CS4 m A c 1 := by simp [CS4]
    have hbk := (blk_set BK.out 10 (.int .i64 0))
    rw [hce] at hbk
    clear hce
    obtain ⟨wz2, hwz⟩ : ∃ wz : World, Below w.heap.size w wz ∧ wz.heap[w.heap.size]? = some (.cells (CS4 m A c 1) 33 (0, 0)) ∧ wz = (wc).setCell ⟨w.heap.size, 10, none⟩ (.int .i64 0) := ⟨_, (Below.setCell HB.out (Nat.le_refl _) (.int .i64 0)), hbk, rfl⟩
    clear hbk
    rw [← hwz.2.2]
    have N0_ := Aside0.mk hwz.1
    have N1_ := Aside0.mk hwz.2.1
    clear hwz HB BK hcz_10 hfz_10
    have HB := N0_
    have BK := N1_
    clear N0_ N1_
    go_upto_region 26 with fail
    go_cut [3] from 5 (fun v3 wx => ∃ rr : Bool, v3 = .bool rr ∧ Aside0 (rr = (r1 && dcd (epochV ⟨m.epoch.f0, m.epoch.f1⟩)) ∧ Below w.heap.size w wx ∧ wx.heap[w.heap.size]? = some (.cells (CS4 m A c 1) 33 (0, 0))))
    case first =>
      have hcz_4 : wz2.cell? ⟨w.heap.size, 4, none⟩ = some (.int .i64 m.epoch.f0) := (blk_cell BK.out 4).trans rfl
      have hcz_5 : wz2.cell? ⟨w.heap.size, 5, none⟩ = some (.int .i64 m.epoch.f1) := (blk_cell BK.out 5).trans rfl
      go_wp2_with (first | (go_at_call 67; refine (rightEpoch_calls _ _ _).mono ?_; rintro e w1 ⟨rfl, hb⟩; have n0_ := Aside0.mk (below_step (by exact HB.out) hb); have n1_ : Aside0 (w1.heap[w.heap.size]? = some (.cells (CS4 m A c 1) 33 (0, 0))) := ⟨blk_keep hb (by exact BK.out)⟩; clear HB BK hb; have HB := n0_; have BK := n1_; clear n0_ n1_))
      all_goals go_meet
      all_goals exact ⟨_, rfl, ⟨by first | rfl | (simp [*]; done) | (simp_all; done), by exact HB.out, by exact BK.out⟩⟩
    case rest =>
      obtain ⟨r3, rfl, HH⟩ := hcut
      have Hr3 := Aside0.mk HH.out.1
      have N0_ := Aside0.mk HH.out.2.1
      have N1_ := Aside0.mk HH.out.2.2
      clear HB BK HH
      have HB := N0_
      have BK := N1_
      clear N0_ N1_
      have hcz_4 : wc.cell? ⟨w.heap.size, 4, none⟩ = some (.int .i64 m.epoch.f0) := (blk_cell BK.out 4).trans rfl
      have hcz_5 : wc.cell? ⟨w.heap.size, 5, none⟩ = some (.int .i64 m.epoch.f1) := (blk_cell BK.out 5).trans rfl
      have hfz_4 : wc.frozen? ⟨w.heap.size, 4, none⟩ = false := blk_frozen BK.out 4
      have hfz_5 : wc.frozen? ⟨w.heap.size, 5, none⟩ = false := blk_frozen BK.out 5
      go_upto_region 28 with fail
      have hce : (((CS4 m A c 1).setIfInBounds 4 (.int .i64 0)).setIfInBounds 5 (.int .i64 0)) = CS4 m A c 2 := by simp [CS4]
      have hbk := (blk_set (blk_set BK.out 4 (.int .i64 0)) 5 (.int .i64 0))
      rw [hce] at hbk
      clear hce
      obtain ⟨wz4, hwz⟩ : ∃ wz : World, Below w.heap.size w wz ∧ wz.heap[w.heap.size]? = some (.cells (CS4 m A c 2) 33 (0, 0)) ∧ wz = ((wc).setCell ⟨w.heap.size, 4, none⟩ (.int .i64 0)).setCell ⟨w.heap.size, 5, none⟩ (.int .i64 0) := ⟨_, (Below.setCell (Below.setCell HB.out (Nat.le_refl _) (.int .i64 0)) (Nat.le_refl _) (.int .i64 0)), hbk, rfl⟩
      clear hbk
      rw [← hwz.2.2]
      have N0_ := Aside0.mk hwz.1
      have N1_ := Aside0.mk hwz.2.1
      clear hwz HB BK hcz_4 hfz_4 hcz_5 hfz_5
      have HB := N0_
      have BK := N1_
      clear N0_ N1_
      go_upto_region 28 with fail
      go_cut [3] from 5 (fun v3 wx => ∃ rr : Bool, v3 = .bool rr ∧ Aside0 (rr = (r3 && dcd (rightsV ⟨m.rights.f0, m.rights.f1⟩) && nB m.name) ∧ Below w.heap.size w wx ∧ wx.heap[w.heap.size]? = some (.cells (CS4 m A c 2) 33 (0, 0))))
      case first =>
        have hcz_8 : wz4.cell? ⟨w.heap.size, 8, none⟩ = some (.int .i64 m.rights.f0) := (blk_cell BK.out 8).trans rfl
        have hcz_9 : wz4.cell? ⟨w.heap.size, 9, none⟩ = some (.int .i64 m.rights.f1) := (blk_cell BK.out 9).trans rfl
        have hcz_1 : wz4.cell? ⟨w.heap.size, 1, none⟩ = some (.string m.name) := (blk_cell BK.out 1).trans rfl
        go_wp2_with (first | (go_at_call 68; refine (rightRights_calls _ _ _).mono ?_; rintro e w1 ⟨rfl, hb⟩; have n0_ := Aside0.mk (below_step (by exact HB.out) hb); have n1_ : Aside0 (w1.heap[w.heap.size]? = some (.cells (CS4 m A c 2) 33 (0, 0))) := ⟨blk_keep hb (by exact BK.out)⟩; clear HB BK hb; have HB := n0_; have BK := n1_; clear n0_ n1_; have hcz_1 : w1.cell? ⟨w.heap.size, 1, none⟩ = some (.string m.name) := (blk_cell BK.out 1).trans rfl) | (go_at_call 65; refine (named_calls _ _).mono ?_; rintro e w1 ⟨rfl, hb⟩; have n0_ := Aside0.mk (below_step (by exact HB.out) hb); have n1_ : Aside0 (w1.heap[w.heap.size]? = some (.cells (CS4 m A c 2) 33 (0, 0))) := ⟨blk_keep hb (by exact BK.out)⟩; clear HB BK hb; have HB := n0_; have BK := n1_; clear n0_ n1_))
        all_goals go_meet
        all_goals exact ⟨_, rfl, ⟨by first | rfl | (simp [*]; done) | (simp_all; done), by exact HB.out, by exact BK.out⟩⟩
      case rest =>
        obtain ⟨r5, rfl, HH⟩ := hcut
        have Hr5 := Aside0.mk HH.out.1
        have N0_ := Aside0.mk HH.out.2.1
        have N1_ := Aside0.mk HH.out.2.2
        clear HB BK HH
        have HB := N0_
        have BK := N1_
        clear N0_ N1_
        have hcz_8 : wc.cell? ⟨w.heap.size, 8, none⟩ = some (.int .i64 m.rights.f0) := (blk_cell BK.out 8).trans rfl
        have hcz_9 : wc.cell? ⟨w.heap.size, 9, none⟩ = some (.int .i64 m.rights.f1) := (blk_cell BK.out 9).trans rfl
        have hcz_1 : wc.cell? ⟨w.heap.size, 1, none⟩ = some (.string m.name) := (blk_cell BK.out 1).trans rfl
        have hfz_8 : wc.frozen? ⟨w.heap.size, 8, none⟩ = false := blk_frozen BK.out 8
        have hfz_9 : wc.frozen? ⟨w.heap.size, 9, none⟩ = false := blk_frozen BK.out 9
        have hfz_1 : wc.frozen? ⟨w.heap.size, 1, none⟩ = false := blk_frozen BK.out 1
        go_upto_region 31 with fail
        have hce : ((((CS4 m A c 2).setIfInBounds 8 (.int .i64 0)).setIfInBounds 9 (.int .i64 0)).setIfInBounds 1 (.string ⟨#[]⟩)) = CS4 m A c 3 := by simp [CS4]
        have hbk := (blk_set (blk_set (blk_set BK.out 8 (.int .i64 0)) 9 (.int .i64 0)) 1 (.string ⟨#[]⟩))
        rw [hce] at hbk
        clear hce
        obtain ⟨wz6, hwz⟩ : ∃ wz : World, Below w.heap.size w wz ∧ wz.heap[w.heap.size]? = some (.cells (CS4 m A c 3) 33 (0, 0)) ∧ wz = (((wc).setCell ⟨w.heap.size, 8, none⟩ (.int .i64 0)).setCell ⟨w.heap.size, 9, none⟩ (.int .i64 0)).setCell ⟨w.heap.size, 1, none⟩ (.string ⟨#[]⟩) := ⟨_, (Below.setCell (Below.setCell (Below.setCell HB.out (Nat.le_refl _) (.int .i64 0)) (Nat.le_refl _) (.int .i64 0)) (Nat.le_refl _) (.string ⟨#[]⟩)), hbk, rfl⟩
        clear hbk
        rw [← hwz.2.2]
        have N0_ := Aside0.mk hwz.1
        have N1_ := Aside0.mk hwz.2.1
        clear hwz HB BK hcz_8 hfz_8 hcz_9 hfz_9 hcz_1 hfz_1
        have HB := N0_
        have BK := N1_
        clear N0_ N1_
        go_upto_region 32 with fail
        go_cut [3] from 5 (fun v3 wx => ∃ rr : Bool, v3 = .bool rr ∧ Aside0 (rr = (r5 && bB m.cap 1 1099511627776 && bB m.recaps 0 1099511627776) ∧ Below w.heap.size w wx ∧ wx.heap[w.heap.size]? = some (.cells (CS4 m A c 3) 33 (0, 0))))
        case first =>
          have hcz_2 : wz6.cell? ⟨w.heap.size, 2, none⟩ = some (.int .i64 m.cap) := (blk_cell BK.out 2).trans rfl
          have hcz_3 : wz6.cell? ⟨w.heap.size, 3, none⟩ = some (.int .i64 m.recaps) := (blk_cell BK.out 3).trans rfl
          go_wp2_with (first | (go_at_call 66; refine (between_calls _ _ _ _).mono ?_; rintro e w1 ⟨rfl, hb⟩; have n0_ := Aside0.mk (below_step (by exact HB.out) hb); have n1_ : Aside0 (w1.heap[w.heap.size]? = some (.cells (CS4 m A c 3) 33 (0, 0))) := ⟨blk_keep hb (by exact BK.out)⟩; clear HB BK hb; have HB := n0_; have BK := n1_; clear n0_ n1_; have hcz_3 : w1.cell? ⟨w.heap.size, 3, none⟩ = some (.int .i64 m.recaps) := (blk_cell BK.out 3).trans rfl) | (go_at_call 66; refine (between_calls _ _ _ _).mono ?_; rintro e w1 ⟨rfl, hb⟩; have n0_ := Aside0.mk (below_step (by exact HB.out) hb); have n1_ : Aside0 (w1.heap[w.heap.size]? = some (.cells (CS4 m A c 3) 33 (0, 0))) := ⟨blk_keep hb (by exact BK.out)⟩; clear HB BK hb; have HB := n0_; have BK := n1_; clear n0_ n1_))
          all_goals go_meet
          all_goals exact ⟨_, rfl, ⟨by first | rfl | (simp [*]; done) | (simp_all; done), by exact HB.out, by exact BK.out⟩⟩
        case rest =>
          obtain ⟨r7, rfl, HH⟩ := hcut
          have Hr7 := Aside0.mk HH.out.1
          have N0_ := Aside0.mk HH.out.2.1
          have N1_ := Aside0.mk HH.out.2.2
          clear HB BK HH
          have HB := N0_
          have BK := N1_
          clear N0_ N1_
          have hcz_2 : wc.cell? ⟨w.heap.size, 2, none⟩ = some (.int .i64 m.cap) := (blk_cell BK.out 2).trans rfl
          have hcz_3 : wc.cell? ⟨w.heap.size, 3, none⟩ = some (.int .i64 m.recaps) := (blk_cell BK.out 3).trans rfl
          have hfz_2 : wc.frozen? ⟨w.heap.size, 2, none⟩ = false := blk_frozen BK.out 2
          have hfz_3 : wc.frozen? ⟨w.heap.size, 3, none⟩ = false := blk_frozen BK.out 3
          go_upto_region 34 with fail
          have hce : (((CS4 m A c 3).setIfInBounds 2 (.int .i64 0)).setIfInBounds 3 (.int .i64 0)) = CS4 m A c 4 := by simp [CS4]
          have hbk := (blk_set (blk_set BK.out 2 (.int .i64 0)) 3 (.int .i64 0))
          rw [hce] at hbk
          clear hce
          obtain ⟨wz8, hwz⟩ : ∃ wz : World, Below w.heap.size w wz ∧ wz.heap[w.heap.size]? = some (.cells (CS4 m A c 4) 33 (0, 0)) ∧ wz = ((wc).setCell ⟨w.heap.size, 2, none⟩ (.int .i64 0)).setCell ⟨w.heap.size, 3, none⟩ (.int .i64 0) := ⟨_, (Below.setCell (Below.setCell HB.out (Nat.le_refl _) (.int .i64 0)) (Nat.le_refl _) (.int .i64 0)), hbk, rfl⟩
          clear hbk
          rw [← hwz.2.2]
          have N0_ := Aside0.mk hwz.1
          have N1_ := Aside0.mk hwz.2.1
          clear hwz HB BK hcz_2 hfz_2 hcz_3 hfz_3
          have HB := N0_
          have BK := N1_
          clear N0_ N1_
          go_upto_region 34 with fail
          obtain rfl | rfl : r7 = true ∨ r7 = false := by cases r7 <;> simp
          · go_wp2_with (first | ((with_reducible refine gate_dst (N := 122) rfl ?_); refine gate_guard (by kernel_rfl) ?_; refine wpList_load_row rfl 33 (.tmp 1) rfl w.heap.size (by rfl) 33 (CS4 m A c 4) (0, 0) _ BK.out Try.underlying33 rfl inf33 ?_) | (go_at_call 69; refine (empty_calls _ _ _ _ _ _ _ _ _ _ _ _ _ _ _ _ _ _ _ _ _ m.views _ ((Kd.C_below HR.out (by exact HB.out))) HC.out).mono ?_; rintro e w1 ⟨rfl, hb⟩; have n0_ := Aside0.mk (below_step (by exact HB.out) hb); clear HB hb; have HB := n0_; clear n0_))
            go_ret
            refine ⟨_, congrArg Ending.returned (show _ = Value.bool _ from rfl), ?_, HB.out⟩
            unfold vp4 emB
            rw [← Hr1.out]
            rw [← Hr3.out]
            rw [← Hr5.out]
            rw [← Hr7.out]
            first | (simp [*, toList_nil]; done) | (simp_all [toList_nil]; done)
          · go_wp2_with fail
            go_ret
            refine ⟨_, congrArg Ending.returned (show _ = Value.bool _ from rfl), ?_, HB.out⟩
            unfold vp4 emB
            rw [← Hr1.out]
            rw [← Hr3.out]
            rw [← Hr5.out]
            rw [← Hr7.out]
            first | (simp [*, toList_nil]; done) | (simp_all [toList_nil]; done)
noncomputable def vp8 (m : Msg) : Bool := ((dcd (rightsV ⟨m.rights.f0, m.rights.f1⟩) && nB m.name) && bB m.cap 1 1099511627776 && bB m.recaps 0 1099511627776) && emB (⟨#[]⟩) (0) (0) (m.epoch.f0) (m.epoch.f1) (m.over.f0) (m.over.f1) (0) (0) (m.held) (m.call.f0) (m.call.f1) (m.op.kind) (m.op.name) (m.op.a) (m.op.b) (m.err) (m.value) m.views
def CS8 (m : Msg) (A : Option Addr) (c : Nat) : Nat → Array Value
  | 0 => #[.int .i64 8, .string m.name, .int .i64 m.cap, .int .i64 m.recaps, .int .i64 m.epoch.f0, .int .i64 m.epoch.f1, .int .i64 m.over.f0, .int .i64 m.over.f1, .int .i64 m.rights.f0, .int .i64 m.rights.f1, .int .i64 m.held, .int .i64 m.call.f0, .int .i64 m.call.f1, .int .i64 m.op.kind, .string m.op.name, .int .i64 m.op.a, .int .i64 m.op.b, .int .i64 m.err, .int .i64 m.value, .slice A m.views.length c]
  | 1 => #[.int .i64 8, .string ⟨#[]⟩, .int .i64 m.cap, .int .i64 m.recaps, .int .i64 m.epoch.f0, .int .i64 m.epoch.f1, .int .i64 m.over.f0, .int .i64 m.over.f1, .int .i64 0, .int .i64 0, .int .i64 m.held, .int .i64 m.call.f0, .int .i64 m.call.f1, .int .i64 m.op.kind, .string m.op.name, .int .i64 m.op.a, .int .i64 m.op.b, .int .i64 m.err, .int .i64 m.value, .slice A m.views.length c]
  | _ => #[.int .i64 8, .string ⟨#[]⟩, .int .i64 0, .int .i64 0, .int .i64 m.epoch.f0, .int .i64 m.epoch.f1, .int .i64 m.over.f0, .int .i64 m.over.f1, .int .i64 0, .int .i64 0, .int .i64 m.held, .int .i64 m.call.f0, .int .i64 m.call.f1, .int .i64 m.op.kind, .string m.op.name, .int .i64 m.op.a, .int .i64 m.op.b, .int .i64 m.err, .int .i64 m.value, .slice A m.views.length c]
set_option maxHeartbeats 16000000 in
set_option maxRecDepth 100000 in
theorem valid8_calls (m : Msg) (A : Option Addr) (c : Nat) (w : World) (hr : Kd.C k87 w A m.views.length m.views) (hc : m.views.length ≤ c) :
    Calls Try.prog 21 #[.agg #[.int .i64 8, .string m.name, .int .i64 m.cap, .int .i64 m.recaps, .int .i64 m.epoch.f0, .int .i64 m.epoch.f1, .int .i64 m.over.f0, .int .i64 m.over.f1, .int .i64 m.rights.f0, .int .i64 m.rights.f1, .int .i64 m.held, .int .i64 m.call.f0, .int .i64 m.call.f1, .int .i64 m.op.kind, .string m.op.name, .int .i64 m.op.a, .int .i64 m.op.b, .int .i64 m.err, .int .i64 m.value, .slice A m.views.length c]] w fun e w' => ∃ r, e = .returned (.bool r) ∧ r = vp8 m ∧ Below w.heap.size w w' := by
  have hu33 := Try.underlying33
  have hu23 := Try.underlying23
  have hu25 := Try.underlying25
  have hu27 := Try.underlying27
  have hu29 := Try.underlying29
  have HR := Aside0.mk hr
  have HC := Aside0.mk hc
  clear hr hc
  obtain ⟨wa, hwa⟩ : ∃ wa, wa = w.alloc (.cells #[.int .i64 8, .string m.name, .int .i64 m.cap, .int .i64 m.recaps, .int .i64 m.epoch.f0, .int .i64 m.epoch.f1, .int .i64 m.over.f0, .int .i64 m.over.f1, .int .i64 m.rights.f0, .int .i64 m.rights.f1, .int .i64 m.held, .int .i64 m.call.f0, .int .i64 m.call.f1, .int .i64 m.op.kind, .string m.op.name, .int .i64 m.op.a, .int .i64 m.op.b, .int .i64 m.err, .int .i64 m.value, .slice A m.views.length c] 33 (0, 0)) := ⟨_, rfl⟩
  have HWA := Aside0.mk hwa
  have HB : Aside0 (Below w.heap.size w wa) := ⟨by rw [hwa]; exact (Below.refl _ _).alloc (Nat.le_refl _) _⟩
  have BK : Aside0 (wa.heap[w.heap.size]? = some (.cells (CS8 m A c 0) 33 (0, 0))) := ⟨by rw [hwa]; exact heap_alloc_new w _⟩
  clear hwa
  have hcz_0 : wa.cell? ⟨w.heap.size, 0, none⟩ = some (.int .i64 8) := (blk_cell BK.out 0).trans rfl
  go_enter Try.func21, Try.ntmps21
  go_upto_region 1 with fail
  rw [← HWA.out]
  go_upto_region 28 with fail
  go_cut [3] from 5 (fun v3 wx => ∃ rr : Bool, v3 = .bool rr ∧ Aside0 (rr = (dcd (rightsV ⟨m.rights.f0, m.rights.f1⟩) && nB m.name) ∧ Below w.heap.size w wx ∧ wx.heap[w.heap.size]? = some (.cells (CS8 m A c 0) 33 (0, 0))))
  case first =>
    have hcz_8 : wa.cell? ⟨w.heap.size, 8, none⟩ = some (.int .i64 m.rights.f0) := (blk_cell BK.out 8).trans rfl
    have hcz_9 : wa.cell? ⟨w.heap.size, 9, none⟩ = some (.int .i64 m.rights.f1) := (blk_cell BK.out 9).trans rfl
    have hcz_1 : wa.cell? ⟨w.heap.size, 1, none⟩ = some (.string m.name) := (blk_cell BK.out 1).trans rfl
    go_wp2_with (first | (go_at_call 68; refine (rightRights_calls _ _ _).mono ?_; rintro e w1 ⟨rfl, hb⟩; have n0_ := Aside0.mk (below_step (by exact HB.out) hb); have n1_ : Aside0 (w1.heap[w.heap.size]? = some (.cells (CS8 m A c 0) 33 (0, 0))) := ⟨blk_keep hb (by exact BK.out)⟩; clear HB BK hb; have HB := n0_; have BK := n1_; clear n0_ n1_; have hcz_1 : w1.cell? ⟨w.heap.size, 1, none⟩ = some (.string m.name) := (blk_cell BK.out 1).trans rfl) | (go_at_call 65; refine (named_calls _ _).mono ?_; rintro e w1 ⟨rfl, hb⟩; have n0_ := Aside0.mk (below_step (by exact HB.out) hb); have n1_ : Aside0 (w1.heap[w.heap.size]? = some (.cells (CS8 m A c 0) 33 (0, 0))) := ⟨blk_keep hb (by exact BK.out)⟩; clear HB BK hb; have HB := n0_; have BK := n1_; clear n0_ n1_))
    all_goals go_meet
    all_goals exact ⟨_, rfl, ⟨by first | rfl | (simp [*]; done) | (simp_all; done), by exact HB.out, by exact BK.out⟩⟩
  case rest =>
    obtain ⟨r1, rfl, HH⟩ := hcut
    have Hr1 := Aside0.mk HH.out.1
    have N0_ := Aside0.mk HH.out.2.1
    have N1_ := Aside0.mk HH.out.2.2
    clear HB BK HH
    have HB := N0_
    have BK := N1_
    clear N0_ N1_
    have hcz_8 : wc.cell? ⟨w.heap.size, 8, none⟩ = some (.int .i64 m.rights.f0) := (blk_cell BK.out 8).trans rfl
    have hcz_9 : wc.cell? ⟨w.heap.size, 9, none⟩ = some (.int .i64 m.rights.f1) := (blk_cell BK.out 9).trans rfl
    have hcz_1 : wc.cell? ⟨w.heap.size, 1, none⟩ = some (.string m.name) := (blk_cell BK.out 1).trans rfl
    have hfz_8 : wc.frozen? ⟨w.heap.size, 8, none⟩ = false := blk_frozen BK.out 8
    have hfz_9 : wc.frozen? ⟨w.heap.size, 9, none⟩ = false := blk_frozen BK.out 9
    have hfz_1 : wc.frozen? ⟨w.heap.size, 1, none⟩ = false := blk_frozen BK.out 1
    go_upto_region 31 with fail
    have hce : ((((CS8 m A c 0).setIfInBounds 8 (.int .i64 0)).setIfInBounds 9 (.int .i64 0)).setIfInBounds 1 (.string ⟨#[]⟩)) = CS8 m A c 1 := by simp [CS8]
    have hbk := (blk_set (blk_set (blk_set BK.out 8 (.int .i64 0)) 9 (.int .i64 0)) 1 (.string ⟨#[]⟩))
    rw [hce] at hbk
    clear hce
    obtain ⟨wz2, hwz⟩ : ∃ wz : World, Below w.heap.size w wz ∧ wz.heap[w.heap.size]? = some (.cells (CS8 m A c 1) 33 (0, 0)) ∧ wz = (((wc).setCell ⟨w.heap.size, 8, none⟩ (.int .i64 0)).setCell ⟨w.heap.size, 9, none⟩ (.int .i64 0)).setCell ⟨w.heap.size, 1, none⟩ (.string ⟨#[]⟩) := ⟨_, (Below.setCell (Below.setCell (Below.setCell HB.out (Nat.le_refl _) (.int .i64 0)) (Nat.le_refl _) (.int .i64 0)) (Nat.le_refl _) (.string ⟨#[]⟩)), hbk, rfl⟩
    clear hbk
    rw [← hwz.2.2]
    have N0_ := Aside0.mk hwz.1
    have N1_ := Aside0.mk hwz.2.1
    clear hwz HB BK hcz_8 hfz_8 hcz_9 hfz_9 hcz_1 hfz_1
    have HB := N0_
    have BK := N1_
    clear N0_ N1_
    go_upto_region 32 with fail
    go_cut [3] from 5 (fun v3 wx => ∃ rr : Bool, v3 = .bool rr ∧ Aside0 (rr = (r1 && bB m.cap 1 1099511627776 && bB m.recaps 0 1099511627776) ∧ Below w.heap.size w wx ∧ wx.heap[w.heap.size]? = some (.cells (CS8 m A c 1) 33 (0, 0))))
    case first =>
      have hcz_2 : wz2.cell? ⟨w.heap.size, 2, none⟩ = some (.int .i64 m.cap) := (blk_cell BK.out 2).trans rfl
      have hcz_3 : wz2.cell? ⟨w.heap.size, 3, none⟩ = some (.int .i64 m.recaps) := (blk_cell BK.out 3).trans rfl
      go_wp2_with (first | (go_at_call 66; refine (between_calls _ _ _ _).mono ?_; rintro e w1 ⟨rfl, hb⟩; have n0_ := Aside0.mk (below_step (by exact HB.out) hb); have n1_ : Aside0 (w1.heap[w.heap.size]? = some (.cells (CS8 m A c 1) 33 (0, 0))) := ⟨blk_keep hb (by exact BK.out)⟩; clear HB BK hb; have HB := n0_; have BK := n1_; clear n0_ n1_; have hcz_3 : w1.cell? ⟨w.heap.size, 3, none⟩ = some (.int .i64 m.recaps) := (blk_cell BK.out 3).trans rfl) | (go_at_call 66; refine (between_calls _ _ _ _).mono ?_; rintro e w1 ⟨rfl, hb⟩; have n0_ := Aside0.mk (below_step (by exact HB.out) hb); have n1_ : Aside0 (w1.heap[w.heap.size]? = some (.cells (CS8 m A c 1) 33 (0, 0))) := ⟨blk_keep hb (by exact BK.out)⟩; clear HB BK hb; have HB := n0_; have BK := n1_; clear n0_ n1_))
      all_goals go_meet
      all_goals exact ⟨_, rfl, ⟨by first | rfl | (simp [*]; done) | (simp_all; done), by exact HB.out, by exact BK.out⟩⟩
    case rest =>
      obtain ⟨r3, rfl, HH⟩ := hcut
      have Hr3 := Aside0.mk HH.out.1
      have N0_ := Aside0.mk HH.out.2.1
      have N1_ := Aside0.mk HH.out.2.2
      clear HB BK HH
      have HB := N0_
      have BK := N1_
      clear N0_ N1_
      have hcz_2 : wc.cell? ⟨w.heap.size, 2, none⟩ = some (.int .i64 m.cap) := (blk_cell BK.out 2).trans rfl
      have hcz_3 : wc.cell? ⟨w.heap.size, 3, none⟩ = some (.int .i64 m.recaps) := (blk_cell BK.out 3).trans rfl
      have hfz_2 : wc.frozen? ⟨w.heap.size, 2, none⟩ = false := blk_frozen BK.out 2
      have hfz_3 : wc.frozen? ⟨w.heap.size, 3, none⟩ = false := blk_frozen BK.out 3
      go_upto_region 34 with fail
      have hce : (((CS8 m A c 1).setIfInBounds 2 (.int .i64 0)).setIfInBounds 3 (.int .i64 0)) = CS8 m A c 2 := by simp [CS8]
      have hbk := (blk_set (blk_set BK.out 2 (.int .i64 0)) 3 (.int .i64 0))
      rw [hce] at hbk
      clear hce
      obtain ⟨wz4, hwz⟩ : ∃ wz : World, Below w.heap.size w wz ∧ wz.heap[w.heap.size]? = some (.cells (CS8 m A c 2) 33 (0, 0)) ∧ wz = ((wc).setCell ⟨w.heap.size, 2, none⟩ (.int .i64 0)).setCell ⟨w.heap.size, 3, none⟩ (.int .i64 0) := ⟨_, (Below.setCell (Below.setCell HB.out (Nat.le_refl _) (.int .i64 0)) (Nat.le_refl _) (.int .i64 0)), hbk, rfl⟩
      clear hbk
      rw [← hwz.2.2]
      have N0_ := Aside0.mk hwz.1
      have N1_ := Aside0.mk hwz.2.1
      clear hwz HB BK hcz_2 hfz_2 hcz_3 hfz_3
      have HB := N0_
      have BK := N1_
      clear N0_ N1_
      go_upto_region 34 with fail
      obtain rfl | rfl : r3 = true ∨ r3 = false := by cases r3 <;> simp
      · go_wp2_with (first | ((with_reducible refine gate_dst (N := 122) rfl ?_); refine gate_guard (by kernel_rfl) ?_; refine wpList_load_row rfl 33 (.tmp 1) rfl w.heap.size (by rfl) 33 (CS8 m A c 2) (0, 0) _ BK.out Try.underlying33 rfl inf33 ?_) | (go_at_call 69; refine (empty_calls _ _ _ _ _ _ _ _ _ _ _ _ _ _ _ _ _ _ _ _ _ m.views _ ((Kd.C_below HR.out (by exact HB.out))) HC.out).mono ?_; rintro e w1 ⟨rfl, hb⟩; have n0_ := Aside0.mk (below_step (by exact HB.out) hb); clear HB hb; have HB := n0_; clear n0_))
        go_ret
        refine ⟨_, congrArg Ending.returned (show _ = Value.bool _ from rfl), ?_, HB.out⟩
        unfold vp8 emB
        rw [← Hr1.out]
        rw [← Hr3.out]
        first | (simp [*, toList_nil]; done) | (simp_all [toList_nil]; done)
      · go_wp2_with fail
        go_ret
        refine ⟨_, congrArg Ending.returned (show _ = Value.bool _ from rfl), ?_, HB.out⟩
        unfold vp8 emB
        rw [← Hr1.out]
        rw [← Hr3.out]
        first | (simp [*, toList_nil]; done) | (simp_all [toList_nil]; done)
end Go.Proofs.Ytpgdmmjbhjbbhaa.Vd
end
section
namespace Go.Proofs.Ytpgdmmjbhjbbhaa.Vd
open Go Go.RowKit Go.Proofs.Ytpgdmmjbhjbbhaa.P Go.Proofs.Ytpgdmmjbhjbbhaa.Sp Go.Proofs.YtpgdmmjbhjbbhaaW.PrintWords Go.Proofs.YtpgdmmjbhjbbhaaW.PrintLast Go.Proofs.YtpgdmmjbhjbbhaaW.PrintMore
set_option linter.unusedVariables false
set_option linter.unusedSimpArgs false
noncomputable def vp5 (m : Msg) : Bool := (((dcd (epochV ⟨m.epoch.f0, m.epoch.f1⟩)) && dcd (rightsV ⟨m.rights.f0, m.rights.f1⟩) && nB m.name) && bB m.cap 1 1099511627776 && bB m.recaps 0 1099511627776) && emB (⟨#[]⟩) (0) (0) (0) (0) (m.over.f0) (m.over.f1) (0) (0) (m.held) (m.call.f0) (m.call.f1) (m.op.kind) (m.op.name) (m.op.a) (m.op.b) (m.err) (m.value) m.views
def CS5 (m : Msg) (A : Option Addr) (c : Nat) : Nat → Array Value
  | 0 => #[.int .i64 5, .string m.name, .int .i64 m.cap, .int .i64 m.recaps, .int .i64 m.epoch.f0, .int .i64 m.epoch.f1, .int .i64 m.over.f0, .int .i64 m.over.f1, .int .i64 m.rights.f0, .int .i64 m.rights.f1, .int .i64 m.held, .int .i64 m.call.f0, .int .i64 m.call.f1, .int .i64 m.op.kind, .string m.op.name, .int .i64 m.op.a, .int .i64 m.op.b, .int .i64 m.err, .int .i64 m.value, .slice A m.views.length c]
  | 1 => #[.int .i64 5, .string m.name, .int .i64 m.cap, .int .i64 m.recaps, .int .i64 0, .int .i64 0, .int .i64 m.over.f0, .int .i64 m.over.f1, .int .i64 m.rights.f0, .int .i64 m.rights.f1, .int .i64 m.held, .int .i64 m.call.f0, .int .i64 m.call.f1, .int .i64 m.op.kind, .string m.op.name, .int .i64 m.op.a, .int .i64 m.op.b, .int .i64 m.err, .int .i64 m.value, .slice A m.views.length c]
  | 2 => #[.int .i64 5, .string ⟨#[]⟩, .int .i64 m.cap, .int .i64 m.recaps, .int .i64 0, .int .i64 0, .int .i64 m.over.f0, .int .i64 m.over.f1, .int .i64 0, .int .i64 0, .int .i64 m.held, .int .i64 m.call.f0, .int .i64 m.call.f1, .int .i64 m.op.kind, .string m.op.name, .int .i64 m.op.a, .int .i64 m.op.b, .int .i64 m.err, .int .i64 m.value, .slice A m.views.length c]
  | _ => #[.int .i64 5, .string ⟨#[]⟩, .int .i64 0, .int .i64 0, .int .i64 0, .int .i64 0, .int .i64 m.over.f0, .int .i64 m.over.f1, .int .i64 0, .int .i64 0, .int .i64 m.held, .int .i64 m.call.f0, .int .i64 m.call.f1, .int .i64 m.op.kind, .string m.op.name, .int .i64 m.op.a, .int .i64 m.op.b, .int .i64 m.err, .int .i64 m.value, .slice A m.views.length c]
set_option maxHeartbeats 16000000 in
set_option maxRecDepth 100000 in
theorem valid5_calls (m : Msg) (A : Option Addr) (c : Nat) (w : World) (hr : Kd.C k87 w A m.views.length m.views) (hc : m.views.length ≤ c) :
    Calls Try.prog 21 #[.agg #[.int .i64 5, .string m.name, .int .i64 m.cap, .int .i64 m.recaps, .int .i64 m.epoch.f0, .int .i64 m.epoch.f1, .int .i64 m.over.f0, .int .i64 m.over.f1, .int .i64 m.rights.f0, .int .i64 m.rights.f1, .int .i64 m.held, .int .i64 m.call.f0, .int .i64 m.call.f1, .int .i64 m.op.kind, .string m.op.name, .int .i64 m.op.a, .int .i64 m.op.b, .int .i64 m.err, .int .i64 m.value, .slice A m.views.length c]] w fun e w' => ∃ r, e = .returned (.bool r) ∧ r = vp5 m ∧ Below w.heap.size w w' := by
  have hu33 := Try.underlying33
  have hu23 := Try.underlying23
  have hu25 := Try.underlying25
  have hu27 := Try.underlying27
  have hu29 := Try.underlying29
  have HR := Aside0.mk hr
  have HC := Aside0.mk hc
  clear hr hc
  obtain ⟨wa, hwa⟩ : ∃ wa, wa = w.alloc (.cells #[.int .i64 5, .string m.name, .int .i64 m.cap, .int .i64 m.recaps, .int .i64 m.epoch.f0, .int .i64 m.epoch.f1, .int .i64 m.over.f0, .int .i64 m.over.f1, .int .i64 m.rights.f0, .int .i64 m.rights.f1, .int .i64 m.held, .int .i64 m.call.f0, .int .i64 m.call.f1, .int .i64 m.op.kind, .string m.op.name, .int .i64 m.op.a, .int .i64 m.op.b, .int .i64 m.err, .int .i64 m.value, .slice A m.views.length c] 33 (0, 0)) := ⟨_, rfl⟩
  have HWA := Aside0.mk hwa
  have HB : Aside0 (Below w.heap.size w wa) := ⟨by rw [hwa]; exact (Below.refl _ _).alloc (Nat.le_refl _) _⟩
  have BK : Aside0 (wa.heap[w.heap.size]? = some (.cells (CS5 m A c 0) 33 (0, 0))) := ⟨by rw [hwa]; exact heap_alloc_new w _⟩
  clear hwa
  have hcz_0 : wa.cell? ⟨w.heap.size, 0, none⟩ = some (.int .i64 5) := (blk_cell BK.out 0).trans rfl
  go_enter Try.func21, Try.ntmps21
  go_upto_region 1 with fail
  rw [← HWA.out]
  go_upto_region 26 with fail
  go_cut [3] from 5 (fun v3 wx => ∃ rr : Bool, v3 = .bool rr ∧ Aside0 (rr = (dcd (epochV ⟨m.epoch.f0, m.epoch.f1⟩)) ∧ Below w.heap.size w wx ∧ wx.heap[w.heap.size]? = some (.cells (CS5 m A c 0) 33 (0, 0))))
  case first =>
    have hcz_4 : wa.cell? ⟨w.heap.size, 4, none⟩ = some (.int .i64 m.epoch.f0) := (blk_cell BK.out 4).trans rfl
    have hcz_5 : wa.cell? ⟨w.heap.size, 5, none⟩ = some (.int .i64 m.epoch.f1) := (blk_cell BK.out 5).trans rfl
    go_wp2_with (first | (go_at_call 67; refine (rightEpoch_calls _ _ _).mono ?_; rintro e w1 ⟨rfl, hb⟩; have n0_ := Aside0.mk (below_step (by exact HB.out) hb); have n1_ : Aside0 (w1.heap[w.heap.size]? = some (.cells (CS5 m A c 0) 33 (0, 0))) := ⟨blk_keep hb (by exact BK.out)⟩; clear HB BK hb; have HB := n0_; have BK := n1_; clear n0_ n1_))
    all_goals go_meet
    all_goals exact ⟨_, rfl, ⟨by first | rfl | (simp [*]; done) | (simp_all; done), by exact HB.out, by exact BK.out⟩⟩
  case rest =>
    obtain ⟨r1, rfl, HH⟩ := hcut
    have Hr1 := Aside0.mk HH.out.1
    have N0_ := Aside0.mk HH.out.2.1
    have N1_ := Aside0.mk HH.out.2.2
    clear HB BK HH
    have HB := N0_
    have BK := N1_
    clear N0_ N1_
    have hcz_4 : wc.cell? ⟨w.heap.size, 4, none⟩ = some (.int .i64 m.epoch.f0) := (blk_cell BK.out 4).trans rfl
    have hcz_5 : wc.cell? ⟨w.heap.size, 5, none⟩ = some (.int .i64 m.epoch.f1) := (blk_cell BK.out 5).trans rfl
    have hfz_4 : wc.frozen? ⟨w.heap.size, 4, none⟩ = false := blk_frozen BK.out 4
    have hfz_5 : wc.frozen? ⟨w.heap.size, 5, none⟩ = false := blk_frozen BK.out 5
    go_upto_region 28 with fail
    have hce : (((CS5 m A c 0).setIfInBounds 4 (.int .i64 0)).setIfInBounds 5 (.int .i64 0)) = CS5 m A c 1 := by simp [CS5]
    have hbk := (blk_set (blk_set BK.out 4 (.int .i64 0)) 5 (.int .i64 0))
    rw [hce] at hbk
    clear hce
    obtain ⟨wz2, hwz⟩ : ∃ wz : World, Below w.heap.size w wz ∧ wz.heap[w.heap.size]? = some (.cells (CS5 m A c 1) 33 (0, 0)) ∧ wz = ((wc).setCell ⟨w.heap.size, 4, none⟩ (.int .i64 0)).setCell ⟨w.heap.size, 5, none⟩ (.int .i64 0) := ⟨_, (Below.setCell (Below.setCell HB.out (Nat.le_refl _) (.int .i64 0)) (Nat.le_refl _) (.int .i64 0)), hbk, rfl⟩
    clear hbk
    rw [← hwz.2.2]
    have N0_ := Aside0.mk hwz.1
    have N1_ := Aside0.mk hwz.2.1
    clear hwz HB BK hcz_4 hfz_4 hcz_5 hfz_5
    have HB := N0_
    have BK := N1_
    clear N0_ N1_
    go_upto_region 28 with fail
    go_cut [3] from 5 (fun v3 wx => ∃ rr : Bool, v3 = .bool rr ∧ Aside0 (rr = (r1 && dcd (rightsV ⟨m.rights.f0, m.rights.f1⟩) && nB m.name) ∧ Below w.heap.size w wx ∧ wx.heap[w.heap.size]? = some (.cells (CS5 m A c 1) 33 (0, 0))))
    case first =>
      have hcz_8 : wz2.cell? ⟨w.heap.size, 8, none⟩ = some (.int .i64 m.rights.f0) := (blk_cell BK.out 8).trans rfl
      have hcz_9 : wz2.cell? ⟨w.heap.size, 9, none⟩ = some (.int .i64 m.rights.f1) := (blk_cell BK.out 9).trans rfl
      have hcz_1 : wz2.cell? ⟨w.heap.size, 1, none⟩ = some (.string m.name) := (blk_cell BK.out 1).trans rfl
      go_wp2_with (first | (go_at_call 68; refine (rightRights_calls _ _ _).mono ?_; rintro e w1 ⟨rfl, hb⟩; have n0_ := Aside0.mk (below_step (by exact HB.out) hb); have n1_ : Aside0 (w1.heap[w.heap.size]? = some (.cells (CS5 m A c 1) 33 (0, 0))) := ⟨blk_keep hb (by exact BK.out)⟩; clear HB BK hb; have HB := n0_; have BK := n1_; clear n0_ n1_; have hcz_1 : w1.cell? ⟨w.heap.size, 1, none⟩ = some (.string m.name) := (blk_cell BK.out 1).trans rfl) | (go_at_call 65; refine (named_calls _ _).mono ?_; rintro e w1 ⟨rfl, hb⟩; have n0_ := Aside0.mk (below_step (by exact HB.out) hb); have n1_ : Aside0 (w1.heap[w.heap.size]? = some (.cells (CS5 m A c 1) 33 (0, 0))) := ⟨blk_keep hb (by exact BK.out)⟩; clear HB BK hb; have HB := n0_; have BK := n1_; clear n0_ n1_))
      all_goals go_meet
      all_goals exact ⟨_, rfl, ⟨by first | rfl | (simp [*]; done) | (simp_all; done), by exact HB.out, by exact BK.out⟩⟩
    case rest =>
      obtain ⟨r3, rfl, HH⟩ := hcut
      have Hr3 := Aside0.mk HH.out.1
      have N0_ := Aside0.mk HH.out.2.1
      have N1_ := Aside0.mk HH.out.2.2
      clear HB BK HH
      have HB := N0_
      have BK := N1_
      clear N0_ N1_
      have hcz_8 : wc.cell? ⟨w.heap.size, 8, none⟩ = some (.int .i64 m.rights.f0) := (blk_cell BK.out 8).trans rfl
      have hcz_9 : wc.cell? ⟨w.heap.size, 9, none⟩ = some (.int .i64 m.rights.f1) := (blk_cell BK.out 9).trans rfl
      have hcz_1 : wc.cell? ⟨w.heap.size, 1, none⟩ = some (.string m.name) := (blk_cell BK.out 1).trans rfl
      have hfz_8 : wc.frozen? ⟨w.heap.size, 8, none⟩ = false := blk_frozen BK.out 8
      have hfz_9 : wc.frozen? ⟨w.heap.size, 9, none⟩ = false := blk_frozen BK.out 9
      have hfz_1 : wc.frozen? ⟨w.heap.size, 1, none⟩ = false := blk_frozen BK.out 1
      go_upto_region 31 with fail
      have hce : ((((CS5 m A c 1).setIfInBounds 8 (.int .i64 0)).setIfInBounds 9 (.int .i64 0)).setIfInBounds 1 (.string ⟨#[]⟩)) = CS5 m A c 2 := by simp [CS5]
      have hbk := (blk_set (blk_set (blk_set BK.out 8 (.int .i64 0)) 9 (.int .i64 0)) 1 (.string ⟨#[]⟩))
      rw [hce] at hbk
      clear hce
      obtain ⟨wz4, hwz⟩ : ∃ wz : World, Below w.heap.size w wz ∧ wz.heap[w.heap.size]? = some (.cells (CS5 m A c 2) 33 (0, 0)) ∧ wz = (((wc).setCell ⟨w.heap.size, 8, none⟩ (.int .i64 0)).setCell ⟨w.heap.size, 9, none⟩ (.int .i64 0)).setCell ⟨w.heap.size, 1, none⟩ (.string ⟨#[]⟩) := ⟨_, (Below.setCell (Below.setCell (Below.setCell HB.out (Nat.le_refl _) (.int .i64 0)) (Nat.le_refl _) (.int .i64 0)) (Nat.le_refl _) (.string ⟨#[]⟩)), hbk, rfl⟩
      clear hbk
      rw [← hwz.2.2]
      have N0_ := Aside0.mk hwz.1
      have N1_ := Aside0.mk hwz.2.1
      clear hwz HB BK hcz_8 hfz_8 hcz_9 hfz_9 hcz_1 hfz_1
      have HB := N0_
      have BK := N1_
      clear N0_ N1_
      go_upto_region 32 with fail
      go_cut [3] from 5 (fun v3 wx => ∃ rr : Bool, v3 = .bool rr ∧ Aside0 (rr = (r3 && bB m.cap 1 1099511627776 && bB m.recaps 0 1099511627776) ∧ Below w.heap.size w wx ∧ wx.heap[w.heap.size]? = some (.cells (CS5 m A c 2) 33 (0, 0))))
      case first =>
        have hcz_2 : wz4.cell? ⟨w.heap.size, 2, none⟩ = some (.int .i64 m.cap) := (blk_cell BK.out 2).trans rfl
        have hcz_3 : wz4.cell? ⟨w.heap.size, 3, none⟩ = some (.int .i64 m.recaps) := (blk_cell BK.out 3).trans rfl
        go_wp2_with (first | (go_at_call 66; refine (between_calls _ _ _ _).mono ?_; rintro e w1 ⟨rfl, hb⟩; have n0_ := Aside0.mk (below_step (by exact HB.out) hb); have n1_ : Aside0 (w1.heap[w.heap.size]? = some (.cells (CS5 m A c 2) 33 (0, 0))) := ⟨blk_keep hb (by exact BK.out)⟩; clear HB BK hb; have HB := n0_; have BK := n1_; clear n0_ n1_; have hcz_3 : w1.cell? ⟨w.heap.size, 3, none⟩ = some (.int .i64 m.recaps) := (blk_cell BK.out 3).trans rfl) | (go_at_call 66; refine (between_calls _ _ _ _).mono ?_; rintro e w1 ⟨rfl, hb⟩; have n0_ := Aside0.mk (below_step (by exact HB.out) hb); have n1_ : Aside0 (w1.heap[w.heap.size]? = some (.cells (CS5 m A c 2) 33 (0, 0))) := ⟨blk_keep hb (by exact BK.out)⟩; clear HB BK hb; have HB := n0_; have BK := n1_; clear n0_ n1_))
        all_goals go_meet
        all_goals exact ⟨_, rfl, ⟨by first | rfl | (simp [*]; done) | (simp_all; done), by exact HB.out, by exact BK.out⟩⟩
      case rest =>
        obtain ⟨r5, rfl, HH⟩ := hcut
        have Hr5 := Aside0.mk HH.out.1
        have N0_ := Aside0.mk HH.out.2.1
        have N1_ := Aside0.mk HH.out.2.2
        clear HB BK HH
        have HB := N0_
        have BK := N1_
        clear N0_ N1_
        have hcz_2 : wc.cell? ⟨w.heap.size, 2, none⟩ = some (.int .i64 m.cap) := (blk_cell BK.out 2).trans rfl
        have hcz_3 : wc.cell? ⟨w.heap.size, 3, none⟩ = some (.int .i64 m.recaps) := (blk_cell BK.out 3).trans rfl
        have hfz_2 : wc.frozen? ⟨w.heap.size, 2, none⟩ = false := blk_frozen BK.out 2
        have hfz_3 : wc.frozen? ⟨w.heap.size, 3, none⟩ = false := blk_frozen BK.out 3
        go_upto_region 34 with fail
        have hce : (((CS5 m A c 2).setIfInBounds 2 (.int .i64 0)).setIfInBounds 3 (.int .i64 0)) = CS5 m A c 3 := by simp [CS5]
        have hbk := (blk_set (blk_set BK.out 2 (.int .i64 0)) 3 (.int .i64 0))
        rw [hce] at hbk
        clear hce
        obtain ⟨wz6, hwz⟩ : ∃ wz : World, Below w.heap.size w wz ∧ wz.heap[w.heap.size]? = some (.cells (CS5 m A c 3) 33 (0, 0)) ∧ wz = ((wc).setCell ⟨w.heap.size, 2, none⟩ (.int .i64 0)).setCell ⟨w.heap.size, 3, none⟩ (.int .i64 0) := ⟨_, (Below.setCell (Below.setCell HB.out (Nat.le_refl _) (.int .i64 0)) (Nat.le_refl _) (.int .i64 0)), hbk, rfl⟩
        clear hbk
        rw [← hwz.2.2]
        have N0_ := Aside0.mk hwz.1
        have N1_ := Aside0.mk hwz.2.1
        clear hwz HB BK hcz_2 hfz_2 hcz_3 hfz_3
        have HB := N0_
        have BK := N1_
        clear N0_ N1_
        go_upto_region 34 with fail
        obtain rfl | rfl : r5 = true ∨ r5 = false := by cases r5 <;> simp
        · go_wp2_with (first | ((with_reducible refine gate_dst (N := 122) rfl ?_); refine gate_guard (by kernel_rfl) ?_; refine wpList_load_row rfl 33 (.tmp 1) rfl w.heap.size (by rfl) 33 (CS5 m A c 3) (0, 0) _ BK.out Try.underlying33 rfl inf33 ?_) | (go_at_call 69; refine (empty_calls _ _ _ _ _ _ _ _ _ _ _ _ _ _ _ _ _ _ _ _ _ m.views _ ((Kd.C_below HR.out (by exact HB.out))) HC.out).mono ?_; rintro e w1 ⟨rfl, hb⟩; have n0_ := Aside0.mk (below_step (by exact HB.out) hb); clear HB hb; have HB := n0_; clear n0_))
          go_ret
          refine ⟨_, congrArg Ending.returned (show _ = Value.bool _ from rfl), ?_, HB.out⟩
          unfold vp5 emB
          rw [← Hr1.out]
          rw [← Hr3.out]
          rw [← Hr5.out]
          first | (simp [*, toList_nil]; done) | (simp_all [toList_nil]; done)
        · go_wp2_with fail
          go_ret
          refine ⟨_, congrArg Ending.returned (show _ = Value.bool _ from rfl), ?_, HB.out⟩
          unfold vp5 emB
          rw [← Hr1.out]
          rw [← Hr3.out]
          rw [← Hr5.out]
          first | (simp [*, toList_nil]; done) | (simp_all [toList_nil]; done)
noncomputable def vp6 (m : Msg) : Bool := (((dcd (epochV ⟨m.epoch.f0, m.epoch.f1⟩)) && dcd (rightsV ⟨m.rights.f0, m.rights.f1⟩) && nB m.name) && bB m.cap 1 1099511627776 && bB m.recaps 0 1099511627776) && emB (⟨#[]⟩) (0) (0) (0) (0) (m.over.f0) (m.over.f1) (0) (0) (m.held) (m.call.f0) (m.call.f1) (m.op.kind) (m.op.name) (m.op.a) (m.op.b) (m.err) (m.value) m.views
def CS6 (m : Msg) (A : Option Addr) (c : Nat) : Nat → Array Value
  | 0 => #[.int .i64 6, .string m.name, .int .i64 m.cap, .int .i64 m.recaps, .int .i64 m.epoch.f0, .int .i64 m.epoch.f1, .int .i64 m.over.f0, .int .i64 m.over.f1, .int .i64 m.rights.f0, .int .i64 m.rights.f1, .int .i64 m.held, .int .i64 m.call.f0, .int .i64 m.call.f1, .int .i64 m.op.kind, .string m.op.name, .int .i64 m.op.a, .int .i64 m.op.b, .int .i64 m.err, .int .i64 m.value, .slice A m.views.length c]
  | 1 => #[.int .i64 6, .string m.name, .int .i64 m.cap, .int .i64 m.recaps, .int .i64 0, .int .i64 0, .int .i64 m.over.f0, .int .i64 m.over.f1, .int .i64 m.rights.f0, .int .i64 m.rights.f1, .int .i64 m.held, .int .i64 m.call.f0, .int .i64 m.call.f1, .int .i64 m.op.kind, .string m.op.name, .int .i64 m.op.a, .int .i64 m.op.b, .int .i64 m.err, .int .i64 m.value, .slice A m.views.length c]
  | 2 => #[.int .i64 6, .string ⟨#[]⟩, .int .i64 m.cap, .int .i64 m.recaps, .int .i64 0, .int .i64 0, .int .i64 m.over.f0, .int .i64 m.over.f1, .int .i64 0, .int .i64 0, .int .i64 m.held, .int .i64 m.call.f0, .int .i64 m.call.f1, .int .i64 m.op.kind, .string m.op.name, .int .i64 m.op.a, .int .i64 m.op.b, .int .i64 m.err, .int .i64 m.value, .slice A m.views.length c]
  | _ => #[.int .i64 6, .string ⟨#[]⟩, .int .i64 0, .int .i64 0, .int .i64 0, .int .i64 0, .int .i64 m.over.f0, .int .i64 m.over.f1, .int .i64 0, .int .i64 0, .int .i64 m.held, .int .i64 m.call.f0, .int .i64 m.call.f1, .int .i64 m.op.kind, .string m.op.name, .int .i64 m.op.a, .int .i64 m.op.b, .int .i64 m.err, .int .i64 m.value, .slice A m.views.length c]
set_option maxHeartbeats 16000000 in
set_option maxRecDepth 100000 in
theorem valid6_calls (m : Msg) (A : Option Addr) (c : Nat) (w : World) (hr : Kd.C k87 w A m.views.length m.views) (hc : m.views.length ≤ c) :
    Calls Try.prog 21 #[.agg #[.int .i64 6, .string m.name, .int .i64 m.cap, .int .i64 m.recaps, .int .i64 m.epoch.f0, .int .i64 m.epoch.f1, .int .i64 m.over.f0, .int .i64 m.over.f1, .int .i64 m.rights.f0, .int .i64 m.rights.f1, .int .i64 m.held, .int .i64 m.call.f0, .int .i64 m.call.f1, .int .i64 m.op.kind, .string m.op.name, .int .i64 m.op.a, .int .i64 m.op.b, .int .i64 m.err, .int .i64 m.value, .slice A m.views.length c]] w fun e w' => ∃ r, e = .returned (.bool r) ∧ r = vp6 m ∧ Below w.heap.size w w' := by
  have hu33 := Try.underlying33
  have hu23 := Try.underlying23
  have hu25 := Try.underlying25
  have hu27 := Try.underlying27
  have hu29 := Try.underlying29
  have HR := Aside0.mk hr
  have HC := Aside0.mk hc
  clear hr hc
  obtain ⟨wa, hwa⟩ : ∃ wa, wa = w.alloc (.cells #[.int .i64 6, .string m.name, .int .i64 m.cap, .int .i64 m.recaps, .int .i64 m.epoch.f0, .int .i64 m.epoch.f1, .int .i64 m.over.f0, .int .i64 m.over.f1, .int .i64 m.rights.f0, .int .i64 m.rights.f1, .int .i64 m.held, .int .i64 m.call.f0, .int .i64 m.call.f1, .int .i64 m.op.kind, .string m.op.name, .int .i64 m.op.a, .int .i64 m.op.b, .int .i64 m.err, .int .i64 m.value, .slice A m.views.length c] 33 (0, 0)) := ⟨_, rfl⟩
  have HWA := Aside0.mk hwa
  have HB : Aside0 (Below w.heap.size w wa) := ⟨by rw [hwa]; exact (Below.refl _ _).alloc (Nat.le_refl _) _⟩
  have BK : Aside0 (wa.heap[w.heap.size]? = some (.cells (CS6 m A c 0) 33 (0, 0))) := ⟨by rw [hwa]; exact heap_alloc_new w _⟩
  clear hwa
  have hcz_0 : wa.cell? ⟨w.heap.size, 0, none⟩ = some (.int .i64 6) := (blk_cell BK.out 0).trans rfl
  go_enter Try.func21, Try.ntmps21
  go_upto_region 1 with fail
  rw [← HWA.out]
  go_upto_region 26 with fail
  go_cut [3] from 5 (fun v3 wx => ∃ rr : Bool, v3 = .bool rr ∧ Aside0 (rr = (dcd (epochV ⟨m.epoch.f0, m.epoch.f1⟩)) ∧ Below w.heap.size w wx ∧ wx.heap[w.heap.size]? = some (.cells (CS6 m A c 0) 33 (0, 0))))
  case first =>
    have hcz_4 : wa.cell? ⟨w.heap.size, 4, none⟩ = some (.int .i64 m.epoch.f0) := (blk_cell BK.out 4).trans rfl
    have hcz_5 : wa.cell? ⟨w.heap.size, 5, none⟩ = some (.int .i64 m.epoch.f1) := (blk_cell BK.out 5).trans rfl
    go_wp2_with (first | (go_at_call 67; refine (rightEpoch_calls _ _ _).mono ?_; rintro e w1 ⟨rfl, hb⟩; have n0_ := Aside0.mk (below_step (by exact HB.out) hb); have n1_ : Aside0 (w1.heap[w.heap.size]? = some (.cells (CS6 m A c 0) 33 (0, 0))) := ⟨blk_keep hb (by exact BK.out)⟩; clear HB BK hb; have HB := n0_; have BK := n1_; clear n0_ n1_))
    all_goals go_meet
    all_goals exact ⟨_, rfl, ⟨by first | rfl | (simp [*]; done) | (simp_all; done), by exact HB.out, by exact BK.out⟩⟩
  case rest =>
    obtain ⟨r1, rfl, HH⟩ := hcut
    have Hr1 := Aside0.mk HH.out.1
    have N0_ := Aside0.mk HH.out.2.1
    have N1_ := Aside0.mk HH.out.2.2
    clear HB BK HH
    have HB := N0_
    have BK := N1_
    clear N0_ N1_
    have hcz_4 : wc.cell? ⟨w.heap.size, 4, none⟩ = some (.int .i64 m.epoch.f0) := (blk_cell BK.out 4).trans rfl
    have hcz_5 : wc.cell? ⟨w.heap.size, 5, none⟩ = some (.int .i64 m.epoch.f1) := (blk_cell BK.out 5).trans rfl
    have hfz_4 : wc.frozen? ⟨w.heap.size, 4, none⟩ = false := blk_frozen BK.out 4
    have hfz_5 : wc.frozen? ⟨w.heap.size, 5, none⟩ = false := blk_frozen BK.out 5
    go_upto_region 28 with fail
    have hce : (((CS6 m A c 0).setIfInBounds 4 (.int .i64 0)).setIfInBounds 5 (.int .i64 0)) = CS6 m A c 1 := by simp [CS6]
    have hbk := (blk_set (blk_set BK.out 4 (.int .i64 0)) 5 (.int .i64 0))
    rw [hce] at hbk
    clear hce
    obtain ⟨wz2, hwz⟩ : ∃ wz : World, Below w.heap.size w wz ∧ wz.heap[w.heap.size]? = some (.cells (CS6 m A c 1) 33 (0, 0)) ∧ wz = ((wc).setCell ⟨w.heap.size, 4, none⟩ (.int .i64 0)).setCell ⟨w.heap.size, 5, none⟩ (.int .i64 0) := ⟨_, (Below.setCell (Below.setCell HB.out (Nat.le_refl _) (.int .i64 0)) (Nat.le_refl _) (.int .i64 0)), hbk, rfl⟩
    clear hbk
    rw [← hwz.2.2]
    have N0_ := Aside0.mk hwz.1
    have N1_ := Aside0.mk hwz.2.1
    clear hwz HB BK hcz_4 hfz_4 hcz_5 hfz_5
    have HB := N0_
    have BK := N1_
    clear N0_ N1_
    go_upto_region 28 with fail
    go_cut [3] from 5 (fun v3 wx => ∃ rr : Bool, v3 = .bool rr ∧ Aside0 (rr = (r1 && dcd (rightsV ⟨m.rights.f0, m.rights.f1⟩) && nB m.name) ∧ Below w.heap.size w wx ∧ wx.heap[w.heap.size]? = some (.cells (CS6 m A c 1) 33 (0, 0))))
    case first =>
      have hcz_8 : wz2.cell? ⟨w.heap.size, 8, none⟩ = some (.int .i64 m.rights.f0) := (blk_cell BK.out 8).trans rfl
      have hcz_9 : wz2.cell? ⟨w.heap.size, 9, none⟩ = some (.int .i64 m.rights.f1) := (blk_cell BK.out 9).trans rfl
      have hcz_1 : wz2.cell? ⟨w.heap.size, 1, none⟩ = some (.string m.name) := (blk_cell BK.out 1).trans rfl
      go_wp2_with (first | (go_at_call 68; refine (rightRights_calls _ _ _).mono ?_; rintro e w1 ⟨rfl, hb⟩; have n0_ := Aside0.mk (below_step (by exact HB.out) hb); have n1_ : Aside0 (w1.heap[w.heap.size]? = some (.cells (CS6 m A c 1) 33 (0, 0))) := ⟨blk_keep hb (by exact BK.out)⟩; clear HB BK hb; have HB := n0_; have BK := n1_; clear n0_ n1_; have hcz_1 : w1.cell? ⟨w.heap.size, 1, none⟩ = some (.string m.name) := (blk_cell BK.out 1).trans rfl) | (go_at_call 65; refine (named_calls _ _).mono ?_; rintro e w1 ⟨rfl, hb⟩; have n0_ := Aside0.mk (below_step (by exact HB.out) hb); have n1_ : Aside0 (w1.heap[w.heap.size]? = some (.cells (CS6 m A c 1) 33 (0, 0))) := ⟨blk_keep hb (by exact BK.out)⟩; clear HB BK hb; have HB := n0_; have BK := n1_; clear n0_ n1_))
      all_goals go_meet
      all_goals exact ⟨_, rfl, ⟨by first | rfl | (simp [*]; done) | (simp_all; done), by exact HB.out, by exact BK.out⟩⟩
    case rest =>
      obtain ⟨r3, rfl, HH⟩ := hcut
      have Hr3 := Aside0.mk HH.out.1
      have N0_ := Aside0.mk HH.out.2.1
      have N1_ := Aside0.mk HH.out.2.2
      clear HB BK HH
      have HB := N0_
      have BK := N1_
      clear N0_ N1_
      have hcz_8 : wc.cell? ⟨w.heap.size, 8, none⟩ = some (.int .i64 m.rights.f0) := (blk_cell BK.out 8).trans rfl
      have hcz_9 : wc.cell? ⟨w.heap.size, 9, none⟩ = some (.int .i64 m.rights.f1) := (blk_cell BK.out 9).trans rfl
      have hcz_1 : wc.cell? ⟨w.heap.size, 1, none⟩ = some (.string m.name) := (blk_cell BK.out 1).trans rfl
      have hfz_8 : wc.frozen? ⟨w.heap.size, 8, none⟩ = false := blk_frozen BK.out 8
      have hfz_9 : wc.frozen? ⟨w.heap.size, 9, none⟩ = false := blk_frozen BK.out 9
      have hfz_1 : wc.frozen? ⟨w.heap.size, 1, none⟩ = false := blk_frozen BK.out 1
      go_upto_region 31 with fail
      have hce : ((((CS6 m A c 1).setIfInBounds 8 (.int .i64 0)).setIfInBounds 9 (.int .i64 0)).setIfInBounds 1 (.string ⟨#[]⟩)) = CS6 m A c 2 := by simp [CS6]
      have hbk := (blk_set (blk_set (blk_set BK.out 8 (.int .i64 0)) 9 (.int .i64 0)) 1 (.string ⟨#[]⟩))
      rw [hce] at hbk
      clear hce
      obtain ⟨wz4, hwz⟩ : ∃ wz : World, Below w.heap.size w wz ∧ wz.heap[w.heap.size]? = some (.cells (CS6 m A c 2) 33 (0, 0)) ∧ wz = (((wc).setCell ⟨w.heap.size, 8, none⟩ (.int .i64 0)).setCell ⟨w.heap.size, 9, none⟩ (.int .i64 0)).setCell ⟨w.heap.size, 1, none⟩ (.string ⟨#[]⟩) := ⟨_, (Below.setCell (Below.setCell (Below.setCell HB.out (Nat.le_refl _) (.int .i64 0)) (Nat.le_refl _) (.int .i64 0)) (Nat.le_refl _) (.string ⟨#[]⟩)), hbk, rfl⟩
      clear hbk
      rw [← hwz.2.2]
      have N0_ := Aside0.mk hwz.1
      have N1_ := Aside0.mk hwz.2.1
      clear hwz HB BK hcz_8 hfz_8 hcz_9 hfz_9 hcz_1 hfz_1
      have HB := N0_
      have BK := N1_
      clear N0_ N1_
      go_upto_region 32 with fail
      go_cut [3] from 5 (fun v3 wx => ∃ rr : Bool, v3 = .bool rr ∧ Aside0 (rr = (r3 && bB m.cap 1 1099511627776 && bB m.recaps 0 1099511627776) ∧ Below w.heap.size w wx ∧ wx.heap[w.heap.size]? = some (.cells (CS6 m A c 2) 33 (0, 0))))
      case first =>
        have hcz_2 : wz4.cell? ⟨w.heap.size, 2, none⟩ = some (.int .i64 m.cap) := (blk_cell BK.out 2).trans rfl
        have hcz_3 : wz4.cell? ⟨w.heap.size, 3, none⟩ = some (.int .i64 m.recaps) := (blk_cell BK.out 3).trans rfl
        go_wp2_with (first | (go_at_call 66; refine (between_calls _ _ _ _).mono ?_; rintro e w1 ⟨rfl, hb⟩; have n0_ := Aside0.mk (below_step (by exact HB.out) hb); have n1_ : Aside0 (w1.heap[w.heap.size]? = some (.cells (CS6 m A c 2) 33 (0, 0))) := ⟨blk_keep hb (by exact BK.out)⟩; clear HB BK hb; have HB := n0_; have BK := n1_; clear n0_ n1_; have hcz_3 : w1.cell? ⟨w.heap.size, 3, none⟩ = some (.int .i64 m.recaps) := (blk_cell BK.out 3).trans rfl) | (go_at_call 66; refine (between_calls _ _ _ _).mono ?_; rintro e w1 ⟨rfl, hb⟩; have n0_ := Aside0.mk (below_step (by exact HB.out) hb); have n1_ : Aside0 (w1.heap[w.heap.size]? = some (.cells (CS6 m A c 2) 33 (0, 0))) := ⟨blk_keep hb (by exact BK.out)⟩; clear HB BK hb; have HB := n0_; have BK := n1_; clear n0_ n1_))
        all_goals go_meet
        all_goals exact ⟨_, rfl, ⟨by first | rfl | (simp [*]; done) | (simp_all; done), by exact HB.out, by exact BK.out⟩⟩
      case rest =>
        obtain ⟨r5, rfl, HH⟩ := hcut
        have Hr5 := Aside0.mk HH.out.1
        have N0_ := Aside0.mk HH.out.2.1
        have N1_ := Aside0.mk HH.out.2.2
        clear HB BK HH
        have HB := N0_
        have BK := N1_
        clear N0_ N1_
        have hcz_2 : wc.cell? ⟨w.heap.size, 2, none⟩ = some (.int .i64 m.cap) := (blk_cell BK.out 2).trans rfl
        have hcz_3 : wc.cell? ⟨w.heap.size, 3, none⟩ = some (.int .i64 m.recaps) := (blk_cell BK.out 3).trans rfl
        have hfz_2 : wc.frozen? ⟨w.heap.size, 2, none⟩ = false := blk_frozen BK.out 2
        have hfz_3 : wc.frozen? ⟨w.heap.size, 3, none⟩ = false := blk_frozen BK.out 3
        go_upto_region 34 with fail
        have hce : (((CS6 m A c 2).setIfInBounds 2 (.int .i64 0)).setIfInBounds 3 (.int .i64 0)) = CS6 m A c 3 := by simp [CS6]
        have hbk := (blk_set (blk_set BK.out 2 (.int .i64 0)) 3 (.int .i64 0))
        rw [hce] at hbk
        clear hce
        obtain ⟨wz6, hwz⟩ : ∃ wz : World, Below w.heap.size w wz ∧ wz.heap[w.heap.size]? = some (.cells (CS6 m A c 3) 33 (0, 0)) ∧ wz = ((wc).setCell ⟨w.heap.size, 2, none⟩ (.int .i64 0)).setCell ⟨w.heap.size, 3, none⟩ (.int .i64 0) := ⟨_, (Below.setCell (Below.setCell HB.out (Nat.le_refl _) (.int .i64 0)) (Nat.le_refl _) (.int .i64 0)), hbk, rfl⟩
        clear hbk
        rw [← hwz.2.2]
        have N0_ := Aside0.mk hwz.1
        have N1_ := Aside0.mk hwz.2.1
        clear hwz HB BK hcz_2 hfz_2 hcz_3 hfz_3
        have HB := N0_
        have BK := N1_
        clear N0_ N1_
        go_upto_region 34 with fail
        obtain rfl | rfl : r5 = true ∨ r5 = false := by cases r5 <;> simp
        · go_wp2_with (first | ((with_reducible refine gate_dst (N := 122) rfl ?_); refine gate_guard (by kernel_rfl) ?_; refine wpList_load_row rfl 33 (.tmp 1) rfl w.heap.size (by rfl) 33 (CS6 m A c 3) (0, 0) _ BK.out Try.underlying33 rfl inf33 ?_) | (go_at_call 69; refine (empty_calls _ _ _ _ _ _ _ _ _ _ _ _ _ _ _ _ _ _ _ _ _ m.views _ ((Kd.C_below HR.out (by exact HB.out))) HC.out).mono ?_; rintro e w1 ⟨rfl, hb⟩; have n0_ := Aside0.mk (below_step (by exact HB.out) hb); clear HB hb; have HB := n0_; clear n0_))
          go_ret
          refine ⟨_, congrArg Ending.returned (show _ = Value.bool _ from rfl), ?_, HB.out⟩
          unfold vp6 emB
          rw [← Hr1.out]
          rw [← Hr3.out]
          rw [← Hr5.out]
          first | (simp [*, toList_nil]; done) | (simp_all [toList_nil]; done)
        · go_wp2_with fail
          go_ret
          refine ⟨_, congrArg Ending.returned (show _ = Value.bool _ from rfl), ?_, HB.out⟩
          unfold vp6 emB
          rw [← Hr1.out]
          rw [← Hr3.out]
          rw [← Hr5.out]
          first | (simp [*, toList_nil]; done) | (simp_all [toList_nil]; done)
noncomputable def vp9 (m : Msg) : Bool := ((dcd (rightsV ⟨m.rights.f0, m.rights.f1⟩) && nB m.name) && bB m.cap 1 1099511627776 && bB m.recaps 0 1099511627776) && emB (⟨#[]⟩) (0) (0) (m.epoch.f0) (m.epoch.f1) (m.over.f0) (m.over.f1) (0) (0) (m.held) (m.call.f0) (m.call.f1) (m.op.kind) (m.op.name) (m.op.a) (m.op.b) (m.err) (m.value) m.views
def CS9 (m : Msg) (A : Option Addr) (c : Nat) : Nat → Array Value
  | 0 => #[.int .i64 9, .string m.name, .int .i64 m.cap, .int .i64 m.recaps, .int .i64 m.epoch.f0, .int .i64 m.epoch.f1, .int .i64 m.over.f0, .int .i64 m.over.f1, .int .i64 m.rights.f0, .int .i64 m.rights.f1, .int .i64 m.held, .int .i64 m.call.f0, .int .i64 m.call.f1, .int .i64 m.op.kind, .string m.op.name, .int .i64 m.op.a, .int .i64 m.op.b, .int .i64 m.err, .int .i64 m.value, .slice A m.views.length c]
  | 1 => #[.int .i64 9, .string ⟨#[]⟩, .int .i64 m.cap, .int .i64 m.recaps, .int .i64 m.epoch.f0, .int .i64 m.epoch.f1, .int .i64 m.over.f0, .int .i64 m.over.f1, .int .i64 0, .int .i64 0, .int .i64 m.held, .int .i64 m.call.f0, .int .i64 m.call.f1, .int .i64 m.op.kind, .string m.op.name, .int .i64 m.op.a, .int .i64 m.op.b, .int .i64 m.err, .int .i64 m.value, .slice A m.views.length c]
  | _ => #[.int .i64 9, .string ⟨#[]⟩, .int .i64 0, .int .i64 0, .int .i64 m.epoch.f0, .int .i64 m.epoch.f1, .int .i64 m.over.f0, .int .i64 m.over.f1, .int .i64 0, .int .i64 0, .int .i64 m.held, .int .i64 m.call.f0, .int .i64 m.call.f1, .int .i64 m.op.kind, .string m.op.name, .int .i64 m.op.a, .int .i64 m.op.b, .int .i64 m.err, .int .i64 m.value, .slice A m.views.length c]
set_option maxHeartbeats 16000000 in
set_option maxRecDepth 100000 in
theorem valid9_calls (m : Msg) (A : Option Addr) (c : Nat) (w : World) (hr : Kd.C k87 w A m.views.length m.views) (hc : m.views.length ≤ c) :
    Calls Try.prog 21 #[.agg #[.int .i64 9, .string m.name, .int .i64 m.cap, .int .i64 m.recaps, .int .i64 m.epoch.f0, .int .i64 m.epoch.f1, .int .i64 m.over.f0, .int .i64 m.over.f1, .int .i64 m.rights.f0, .int .i64 m.rights.f1, .int .i64 m.held, .int .i64 m.call.f0, .int .i64 m.call.f1, .int .i64 m.op.kind, .string m.op.name, .int .i64 m.op.a, .int .i64 m.op.b, .int .i64 m.err, .int .i64 m.value, .slice A m.views.length c]] w fun e w' => ∃ r, e = .returned (.bool r) ∧ r = vp9 m ∧ Below w.heap.size w w' := by
  have hu33 := Try.underlying33
  have hu23 := Try.underlying23
  have hu25 := Try.underlying25
  have hu27 := Try.underlying27
  have hu29 := Try.underlying29
  have HR := Aside0.mk hr
  have HC := Aside0.mk hc
  clear hr hc
  obtain ⟨wa, hwa⟩ : ∃ wa, wa = w.alloc (.cells #[.int .i64 9, .string m.name, .int .i64 m.cap, .int .i64 m.recaps, .int .i64 m.epoch.f0, .int .i64 m.epoch.f1, .int .i64 m.over.f0, .int .i64 m.over.f1, .int .i64 m.rights.f0, .int .i64 m.rights.f1, .int .i64 m.held, .int .i64 m.call.f0, .int .i64 m.call.f1, .int .i64 m.op.kind, .string m.op.name, .int .i64 m.op.a, .int .i64 m.op.b, .int .i64 m.err, .int .i64 m.value, .slice A m.views.length c] 33 (0, 0)) := ⟨_, rfl⟩
  have HWA := Aside0.mk hwa
  have HB : Aside0 (Below w.heap.size w wa) := ⟨by rw [hwa]; exact (Below.refl _ _).alloc (Nat.le_refl _) _⟩
  have BK : Aside0 (wa.heap[w.heap.size]? = some (.cells (CS9 m A c 0) 33 (0, 0))) := ⟨by rw [hwa]; exact heap_alloc_new w _⟩
  clear hwa
  have hcz_0 : wa.cell? ⟨w.heap.size, 0, none⟩ = some (.int .i64 9) := (blk_cell BK.out 0).trans rfl
  go_enter Try.func21, Try.ntmps21
  go_upto_region 1 with fail
  rw [← HWA.out]
  go_upto_region 28 with fail
  go_cut [3] from 5 (fun v3 wx => ∃ rr : Bool, v3 = .bool rr ∧ Aside0 (rr = (dcd (rightsV ⟨m.rights.f0, m.rights.f1⟩) && nB m.name) ∧ Below w.heap.size w wx ∧ wx.heap[w.heap.size]? = some (.cells (CS9 m A c 0) 33 (0, 0))))
  case first =>
    have hcz_8 : wa.cell? ⟨w.heap.size, 8, none⟩ = some (.int .i64 m.rights.f0) := (blk_cell BK.out 8).trans rfl
    have hcz_9 : wa.cell? ⟨w.heap.size, 9, none⟩ = some (.int .i64 m.rights.f1) := (blk_cell BK.out 9).trans rfl
    have hcz_1 : wa.cell? ⟨w.heap.size, 1, none⟩ = some (.string m.name) := (blk_cell BK.out 1).trans rfl
    go_wp2_with (first | (go_at_call 68; refine (rightRights_calls _ _ _).mono ?_; rintro e w1 ⟨rfl, hb⟩; have n0_ := Aside0.mk (below_step (by exact HB.out) hb); have n1_ : Aside0 (w1.heap[w.heap.size]? = some (.cells (CS9 m A c 0) 33 (0, 0))) := ⟨blk_keep hb (by exact BK.out)⟩; clear HB BK hb; have HB := n0_; have BK := n1_; clear n0_ n1_; have hcz_1 : w1.cell? ⟨w.heap.size, 1, none⟩ = some (.string m.name) := (blk_cell BK.out 1).trans rfl) | (go_at_call 65; refine (named_calls _ _).mono ?_; rintro e w1 ⟨rfl, hb⟩; have n0_ := Aside0.mk (below_step (by exact HB.out) hb); have n1_ : Aside0 (w1.heap[w.heap.size]? = some (.cells (CS9 m A c 0) 33 (0, 0))) := ⟨blk_keep hb (by exact BK.out)⟩; clear HB BK hb; have HB := n0_; have BK := n1_; clear n0_ n1_))
    all_goals go_meet
    all_goals exact ⟨_, rfl, ⟨by first | rfl | (simp [*]; done) | (simp_all; done), by exact HB.out, by exact BK.out⟩⟩
  case rest =>
    obtain ⟨r1, rfl, HH⟩ := hcut
    have Hr1 := Aside0.mk HH.out.1
    have N0_ := Aside0.mk HH.out.2.1
    have N1_ := Aside0.mk HH.out.2.2
    clear HB BK HH
    have HB := N0_
    have BK := N1_
    clear N0_ N1_
    have hcz_8 : wc.cell? ⟨w.heap.size, 8, none⟩ = some (.int .i64 m.rights.f0) := (blk_cell BK.out 8).trans rfl
    have hcz_9 : wc.cell? ⟨w.heap.size, 9, none⟩ = some (.int .i64 m.rights.f1) := (blk_cell BK.out 9).trans rfl
    have hcz_1 : wc.cell? ⟨w.heap.size, 1, none⟩ = some (.string m.name) := (blk_cell BK.out 1).trans rfl
    have hfz_8 : wc.frozen? ⟨w.heap.size, 8, none⟩ = false := blk_frozen BK.out 8
    have hfz_9 : wc.frozen? ⟨w.heap.size, 9, none⟩ = false := blk_frozen BK.out 9
    have hfz_1 : wc.frozen? ⟨w.heap.size, 1, none⟩ = false := blk_frozen BK.out 1
    go_upto_region 31 with fail
    have hce : ((((CS9 m A c 0).setIfInBounds 8 (.int .i64 0)).setIfInBounds 9 (.int .i64 0)).setIfInBounds 1 (.string ⟨#[]⟩)) = CS9 m A c 1 := by simp [CS9]
    have hbk := (blk_set (blk_set (blk_set BK.out 8 (.int .i64 0)) 9 (.int .i64 0)) 1 (.string ⟨#[]⟩))
    rw [hce] at hbk
    clear hce
    obtain ⟨wz2, hwz⟩ : ∃ wz : World, Below w.heap.size w wz ∧ wz.heap[w.heap.size]? = some (.cells (CS9 m A c 1) 33 (0, 0)) ∧ wz = (((wc).setCell ⟨w.heap.size, 8, none⟩ (.int .i64 0)).setCell ⟨w.heap.size, 9, none⟩ (.int .i64 0)).setCell ⟨w.heap.size, 1, none⟩ (.string ⟨#[]⟩) := ⟨_, (Below.setCell (Below.setCell (Below.setCell HB.out (Nat.le_refl _) (.int .i64 0)) (Nat.le_refl _) (.int .i64 0)) (Nat.le_refl _) (.string ⟨#[]⟩)), hbk, rfl⟩
    clear hbk
    rw [← hwz.2.2]
    have N0_ := Aside0.mk hwz.1
    have N1_ := Aside0.mk hwz.2.1
    clear hwz HB BK hcz_8 hfz_8 hcz_9 hfz_9 hcz_1 hfz_1
    have HB := N0_
    have BK := N1_
    clear N0_ N1_
    go_upto_region 32 with fail
    go_cut [3] from 5 (fun v3 wx => ∃ rr : Bool, v3 = .bool rr ∧ Aside0 (rr = (r1 && bB m.cap 1 1099511627776 && bB m.recaps 0 1099511627776) ∧ Below w.heap.size w wx ∧ wx.heap[w.heap.size]? = some (.cells (CS9 m A c 1) 33 (0, 0))))
    case first =>
      have hcz_2 : wz2.cell? ⟨w.heap.size, 2, none⟩ = some (.int .i64 m.cap) := (blk_cell BK.out 2).trans rfl
      have hcz_3 : wz2.cell? ⟨w.heap.size, 3, none⟩ = some (.int .i64 m.recaps) := (blk_cell BK.out 3).trans rfl
      go_wp2_with (first | (go_at_call 66; refine (between_calls _ _ _ _).mono ?_; rintro e w1 ⟨rfl, hb⟩; have n0_ := Aside0.mk (below_step (by exact HB.out) hb); have n1_ : Aside0 (w1.heap[w.heap.size]? = some (.cells (CS9 m A c 1) 33 (0, 0))) := ⟨blk_keep hb (by exact BK.out)⟩; clear HB BK hb; have HB := n0_; have BK := n1_; clear n0_ n1_; have hcz_3 : w1.cell? ⟨w.heap.size, 3, none⟩ = some (.int .i64 m.recaps) := (blk_cell BK.out 3).trans rfl) | (go_at_call 66; refine (between_calls _ _ _ _).mono ?_; rintro e w1 ⟨rfl, hb⟩; have n0_ := Aside0.mk (below_step (by exact HB.out) hb); have n1_ : Aside0 (w1.heap[w.heap.size]? = some (.cells (CS9 m A c 1) 33 (0, 0))) := ⟨blk_keep hb (by exact BK.out)⟩; clear HB BK hb; have HB := n0_; have BK := n1_; clear n0_ n1_))
      all_goals go_meet
      all_goals exact ⟨_, rfl, ⟨by first | rfl | (simp [*]; done) | (simp_all; done), by exact HB.out, by exact BK.out⟩⟩
    case rest =>
      obtain ⟨r3, rfl, HH⟩ := hcut
      have Hr3 := Aside0.mk HH.out.1
      have N0_ := Aside0.mk HH.out.2.1
      have N1_ := Aside0.mk HH.out.2.2
      clear HB BK HH
      have HB := N0_
      have BK := N1_
      clear N0_ N1_
      have hcz_2 : wc.cell? ⟨w.heap.size, 2, none⟩ = some (.int .i64 m.cap) := (blk_cell BK.out 2).trans rfl
      have hcz_3 : wc.cell? ⟨w.heap.size, 3, none⟩ = some (.int .i64 m.recaps) := (blk_cell BK.out 3).trans rfl
      have hfz_2 : wc.frozen? ⟨w.heap.size, 2, none⟩ = false := blk_frozen BK.out 2
      have hfz_3 : wc.frozen? ⟨w.heap.size, 3, none⟩ = false := blk_frozen BK.out 3
      go_upto_region 34 with fail
      have hce : (((CS9 m A c 1).setIfInBounds 2 (.int .i64 0)).setIfInBounds 3 (.int .i64 0)) = CS9 m A c 2 := by simp [CS9]
      have hbk := (blk_set (blk_set BK.out 2 (.int .i64 0)) 3 (.int .i64 0))
      rw [hce] at hbk
      clear hce
      obtain ⟨wz4, hwz⟩ : ∃ wz : World, Below w.heap.size w wz ∧ wz.heap[w.heap.size]? = some (.cells (CS9 m A c 2) 33 (0, 0)) ∧ wz = ((wc).setCell ⟨w.heap.size, 2, none⟩ (.int .i64 0)).setCell ⟨w.heap.size, 3, none⟩ (.int .i64 0) := ⟨_, (Below.setCell (Below.setCell HB.out (Nat.le_refl _) (.int .i64 0)) (Nat.le_refl _) (.int .i64 0)), hbk, rfl⟩
      clear hbk
      rw [← hwz.2.2]
      have N0_ := Aside0.mk hwz.1
      have N1_ := Aside0.mk hwz.2.1
      clear hwz HB BK hcz_2 hfz_2 hcz_3 hfz_3
      have HB := N0_
      have BK := N1_
      clear N0_ N1_
      go_upto_region 34 with fail
      obtain rfl | rfl : r3 = true ∨ r3 = false := by cases r3 <;> simp
      · go_wp2_with (first | ((with_reducible refine gate_dst (N := 122) rfl ?_); refine gate_guard (by kernel_rfl) ?_; refine wpList_load_row rfl 33 (.tmp 1) rfl w.heap.size (by rfl) 33 (CS9 m A c 2) (0, 0) _ BK.out Try.underlying33 rfl inf33 ?_) | (go_at_call 69; refine (empty_calls _ _ _ _ _ _ _ _ _ _ _ _ _ _ _ _ _ _ _ _ _ m.views _ ((Kd.C_below HR.out (by exact HB.out))) HC.out).mono ?_; rintro e w1 ⟨rfl, hb⟩; have n0_ := Aside0.mk (below_step (by exact HB.out) hb); clear HB hb; have HB := n0_; clear n0_))
        go_ret
        refine ⟨_, congrArg Ending.returned (show _ = Value.bool _ from rfl), ?_, HB.out⟩
        unfold vp9 emB
        rw [← Hr1.out]
        rw [← Hr3.out]
        first | (simp [*, toList_nil]; done) | (simp_all [toList_nil]; done)
      · go_wp2_with fail
        go_ret
        refine ⟨_, congrArg Ending.returned (show _ = Value.bool _ from rfl), ?_, HB.out⟩
        unfold vp9 emB
        rw [← Hr1.out]
        rw [← Hr3.out]
        first | (simp [*, toList_nil]; done) | (simp_all [toList_nil]; done)
end Go.Proofs.Ytpgdmmjbhjbbhaa.Vd
end
section
namespace Go.Proofs.Ytpgdmmjbhjbbhaa.Vd
open Go Go.RowKit Go.Proofs.Ytpgdmmjbhjbbhaa.P Go.Proofs.Ytpgdmmjbhjbbhaa.Sp Go.Proofs.YtpgdmmjbhjbbhaaW.PrintWords Go.Proofs.YtpgdmmjbhjbbhaaW.PrintLast Go.Proofs.YtpgdmmjbhjbbhaaW.PrintMore
set_option linter.unusedVariables false
set_option linter.unusedSimpArgs false
def MVc (m : Msg) (A : Option Addr) (c : Nat) : Array Value := #[.int .i64 m.kind, .string m.name, .int .i64 m.cap, .int .i64 m.recaps, .int .i64 m.epoch.f0, .int .i64 m.epoch.f1, .int .i64 m.over.f0, .int .i64 m.over.f1, .int .i64 m.rights.f0, .int .i64 m.rights.f1, .int .i64 m.held, .int .i64 m.call.f0, .int .i64 m.call.f1, .int .i64 m.op.kind, .string m.op.name, .int .i64 m.op.a, .int .i64 m.op.b, .int .i64 m.err, .int .i64 m.value, .slice A m.views.length c]
/-- A message, as a value. -/
def MV (m : Msg) (A : Option Addr) (c : Nat) : Value := .agg (MVc m A c)
theorem nil_iff (s : ByteArray) : s.toList = [] ↔ s = eB := by
  rw [ByteArray.toList_eq]
  constructor
  · intro h
    cases s with
    | mk d =>
      have h2 : d = #[] := Array.toList_eq_nil_iff.mp h
      rw [h2]
      rfl
  · rintro rfl
    rfl
theorem nB_iff (s : ByteArray) : nB s = true ↔ nameV eB s := dcd_iff.trans nameV_nil.symm
theorem bB_iff (n lo hi : Int) : bB n lo hi = true ↔ lo ≤ n ∧ n ≤ hi := dcd_iff
theorem oB_iff (o : Sp.Op) (h : isI o.a ∧ isI o.b) : oB o.kind o.name = true ↔ opV o := by
  unfold oB opV
  rw [Bool.and_eq_true, bB_iff, nB_iff]
  exact ⟨fun k => ⟨k.1, k.2, h⟩, fun k => ⟨k.1, k.2.1⟩⟩
theorem em_iff (a1 : ByteArray) (a2 a3 a4 a5 a6 a7 a8 a9 a10 a11 a12 a13 : Int) (a14 : ByteArray) (a15 a16 a17 a18 : Int) (l : List S87) : emB a1 a2 a3 a4 a5 a6 a7 a8 a9 a10 a11 a12 a13 a14 a15 a16 a17 a18 l = true ↔
    l = [] ∧ a1 = eB ∧ a2 = 0 ∧ a3 = 0 ∧ a4 = 0 ∧ a5 = 0 ∧ a6 = 0 ∧ a7 = 0 ∧ a8 = 0 ∧ a9 = 0 ∧ a10 = 0 ∧ a11 = 0 ∧ a12 = 0 ∧ a13 = 0 ∧ a14 = eB ∧ a15 = 0 ∧ a16 = 0 ∧ a17 = 0 ∧ a18 = 0 := by
  unfold emB
  simp only [Bool.and_eq_true, decide_eq_true_eq, nil_iff, and_assoc]
  constructor
  · rintro ⟨h, r⟩; exact ⟨List.length_eq_zero_iff.mp (by omega), r⟩
  · rintro ⟨rfl, r⟩; exact ⟨rfl, r⟩
theorem capV_iff (a b : Int) : capV ⟨a, b⟩ ↔ (1 ≤ a ∧ a ≤ 1099511627776) ∧ 0 ≤ b ∧ b ≤ 1099511627776 := Iff.rfl
theorem bool_dcd {b : Bool} {p : Prop} (h : b = true ↔ p) : b = dcd p := by
  cases hb : b with
  | false => exact (dcd_neg (fun hp => by rw [h.mpr hp] at hb; cases hb)).symm
  | true => exact (dcd_pos (h.mp hb)).symm
theorem eB_mk : (⟨#[]⟩ : ByteArray) = eB := rfl
set_option maxHeartbeats 4000000 in
theorem vp1_iff (m : Msg) (hk : m.kind = 1) (h : isI m.op.a ∧ isI m.op.b) : vp1 m = true ↔ restV m := by
  obtain ⟨kind, name, cap, recaps, ⟨e0, e1⟩, ⟨o0, o1⟩, ⟨r0, r1⟩, held, ⟨c0, c1⟩, ⟨ok, on, oa, ob⟩, err, value, views⟩ := m
  simp only at hk h
  subst hk
  have ho := oB_iff ⟨ok, on, oa, ob⟩ h
  simp only at ho
  unfold vp1 restV
  simp only [Bool.and_eq_true, em_iff, dcd_iff, nB_iff, bB_iff, ho, capOf, optV, hasEp, hasRt, mAsk, mDig, mTold, mOf, zMsg, zOp, z25, Msg.mk.injEq, S25.mk.injEq, Sp.Op.mk.injEq, eB_mk, capV_iff, big]
  simp
  exact ⟨fun hh => by simp [hh], fun hh => by simp [hh]⟩
set_option maxHeartbeats 4000000 in
theorem vp2_iff (m : Msg) (hk : m.kind = 2) (h : isI m.op.a ∧ isI m.op.b) : vp2 m = true ↔ restV m := by
  obtain ⟨kind, name, cap, recaps, ⟨e0, e1⟩, ⟨o0, o1⟩, ⟨r0, r1⟩, held, ⟨c0, c1⟩, ⟨ok, on, oa, ob⟩, err, value, views⟩ := m
  simp only at hk h
  subst hk
  have ho := oB_iff ⟨ok, on, oa, ob⟩ h
  simp only at ho
  unfold vp2 restV
  simp only [Bool.and_eq_true, em_iff, dcd_iff, nB_iff, bB_iff, ho, capOf, optV, hasEp, hasRt, mAsk, mDig, mTold, mOf, zMsg, zOp, z25, Msg.mk.injEq, S25.mk.injEq, Sp.Op.mk.injEq, eB_mk, capV_iff, big]
  by_cases hc : capped err <;> simp [hc, dcd_iff, Bool.and_eq_true, em_iff, nB_iff, bB_iff, eB_mk, dcd_pos, dcd_neg, capV_iff, big]; all_goals exact ⟨fun hh => by simp [hh], fun hh => by simp [hh]⟩
set_option maxHeartbeats 4000000 in
theorem vp3_iff (m : Msg) (hk : m.kind = 3) (h : isI m.op.a ∧ isI m.op.b) : vp3 m = true ↔ restV m := by
  obtain ⟨kind, name, cap, recaps, ⟨e0, e1⟩, ⟨o0, o1⟩, ⟨r0, r1⟩, held, ⟨c0, c1⟩, ⟨ok, on, oa, ob⟩, err, value, views⟩ := m
  simp only at hk h
  subst hk
  have ho := oB_iff ⟨ok, on, oa, ob⟩ h
  simp only at ho
  unfold vp3 restV
  simp only [Bool.and_eq_true, em_iff, dcd_iff, nB_iff, bB_iff, ho, capOf, optV, hasEp, hasRt, mAsk, mDig, mTold, mOf, zMsg, zOp, z25, Msg.mk.injEq, S25.mk.injEq, Sp.Op.mk.injEq, eB_mk, capV_iff, big]
  simp
  exact ⟨fun hh => by simp [hh], fun hh => by simp [hh]⟩
set_option maxHeartbeats 4000000 in
theorem vp4_iff (m : Msg) (hk : m.kind = 4) (h : isI m.op.a ∧ isI m.op.b) : vp4 m = true ↔ restV m := by
  obtain ⟨kind, name, cap, recaps, ⟨e0, e1⟩, ⟨o0, o1⟩, ⟨r0, r1⟩, held, ⟨c0, c1⟩, ⟨ok, on, oa, ob⟩, err, value, views⟩ := m
  simp only at hk h
  subst hk
  have ho := oB_iff ⟨ok, on, oa, ob⟩ h
  simp only at ho
  unfold vp4 restV
  simp only [Bool.and_eq_true, em_iff, dcd_iff, nB_iff, bB_iff, ho, capOf, optV, hasEp, hasRt, mAsk, mDig, mTold, mOf, zMsg, zOp, z25, Msg.mk.injEq, S25.mk.injEq, Sp.Op.mk.injEq, eB_mk, capV_iff, big]
  simp
  exact ⟨fun hh => by simp [hh], fun hh => by simp [hh]⟩
set_option maxHeartbeats 4000000 in
theorem vp5_iff (m : Msg) (hk : m.kind = 5) (h : isI m.op.a ∧ isI m.op.b) : vp5 m = true ↔ restV m := by
  obtain ⟨kind, name, cap, recaps, ⟨e0, e1⟩, ⟨o0, o1⟩, ⟨r0, r1⟩, held, ⟨c0, c1⟩, ⟨ok, on, oa, ob⟩, err, value, views⟩ := m
  simp only at hk h
  subst hk
  have ho := oB_iff ⟨ok, on, oa, ob⟩ h
  simp only at ho
  unfold vp5 restV
  simp only [Bool.and_eq_true, em_iff, dcd_iff, nB_iff, bB_iff, ho, capOf, optV, hasEp, hasRt, mAsk, mDig, mTold, mOf, zMsg, zOp, z25, Msg.mk.injEq, S25.mk.injEq, Sp.Op.mk.injEq, eB_mk, capV_iff, big]
  simp
  exact ⟨fun hh => by simp [hh], fun hh => by simp [hh]⟩
set_option maxHeartbeats 4000000 in
theorem vp6_iff (m : Msg) (hk : m.kind = 6) (h : isI m.op.a ∧ isI m.op.b) : vp6 m = true ↔ restV m := by
  obtain ⟨kind, name, cap, recaps, ⟨e0, e1⟩, ⟨o0, o1⟩, ⟨r0, r1⟩, held, ⟨c0, c1⟩, ⟨ok, on, oa, ob⟩, err, value, views⟩ := m
  simp only at hk h
  subst hk
  have ho := oB_iff ⟨ok, on, oa, ob⟩ h
  simp only at ho
  unfold vp6 restV
  simp only [Bool.and_eq_true, em_iff, dcd_iff, nB_iff, bB_iff, ho, capOf, optV, hasEp, hasRt, mAsk, mDig, mTold, mOf, zMsg, zOp, z25, Msg.mk.injEq, S25.mk.injEq, Sp.Op.mk.injEq, eB_mk, capV_iff, big]
  simp
  exact ⟨fun hh => by simp [hh], fun hh => by simp [hh]⟩
set_option maxHeartbeats 4000000 in
theorem vp7_iff (m : Msg) (hk : m.kind = 7) (h : isI m.op.a ∧ isI m.op.b) : vp7 m = true ↔ restV m := by
  obtain ⟨kind, name, cap, recaps, ⟨e0, e1⟩, ⟨o0, o1⟩, ⟨r0, r1⟩, held, ⟨c0, c1⟩, ⟨ok, on, oa, ob⟩, err, value, views⟩ := m
  simp only at hk h
  subst hk
  have ho := oB_iff ⟨ok, on, oa, ob⟩ h
  simp only at ho
  unfold vp7 restV
  simp only [Bool.and_eq_true, em_iff, dcd_iff, nB_iff, bB_iff, ho, capOf, optV, hasEp, hasRt, mAsk, mDig, mTold, mOf, zMsg, zOp, z25, Msg.mk.injEq, S25.mk.injEq, Sp.Op.mk.injEq, eB_mk, capV_iff, big]
  simp
  exact ⟨fun hh => by simp [hh], fun hh => by simp [hh]⟩
set_option maxHeartbeats 4000000 in
theorem vp8_iff (m : Msg) (hk : m.kind = 8) (h : isI m.op.a ∧ isI m.op.b) : vp8 m = true ↔ restV m := by
  obtain ⟨kind, name, cap, recaps, ⟨e0, e1⟩, ⟨o0, o1⟩, ⟨r0, r1⟩, held, ⟨c0, c1⟩, ⟨ok, on, oa, ob⟩, err, value, views⟩ := m
  simp only at hk h
  subst hk
  have ho := oB_iff ⟨ok, on, oa, ob⟩ h
  simp only at ho
  unfold vp8 restV
  simp only [Bool.and_eq_true, em_iff, dcd_iff, nB_iff, bB_iff, ho, capOf, optV, hasEp, hasRt, mAsk, mDig, mTold, mOf, zMsg, zOp, z25, Msg.mk.injEq, S25.mk.injEq, Sp.Op.mk.injEq, eB_mk, capV_iff, big]
  simp
  exact ⟨fun hh => by simp [hh], fun hh => by simp [hh]⟩
set_option maxHeartbeats 4000000 in
theorem vp9_iff (m : Msg) (hk : m.kind = 9) (h : isI m.op.a ∧ isI m.op.b) : vp9 m = true ↔ restV m := by
  obtain ⟨kind, name, cap, recaps, ⟨e0, e1⟩, ⟨o0, o1⟩, ⟨r0, r1⟩, held, ⟨c0, c1⟩, ⟨ok, on, oa, ob⟩, err, value, views⟩ := m
  simp only at hk h
  subst hk
  have ho := oB_iff ⟨ok, on, oa, ob⟩ h
  simp only at ho
  unfold vp9 restV
  simp only [Bool.and_eq_true, em_iff, dcd_iff, nB_iff, bB_iff, ho, capOf, optV, hasEp, hasRt, mAsk, mDig, mTold, mOf, zMsg, zOp, z25, Msg.mk.injEq, S25.mk.injEq, Sp.Op.mk.injEq, eB_mk, capV_iff, big]
  simp
  exact ⟨fun hh => by simp [hh], fun hh => by simp [hh]⟩
set_option maxHeartbeats 4000000 in
theorem vp10_iff (m : Msg) (hk : m.kind = 10) (h : isI m.op.a ∧ isI m.op.b) : vp10 m = true ↔ restV m := by
  obtain ⟨kind, name, cap, recaps, ⟨e0, e1⟩, ⟨o0, o1⟩, ⟨r0, r1⟩, held, ⟨c0, c1⟩, ⟨ok, on, oa, ob⟩, err, value, views⟩ := m
  simp only at hk h
  subst hk
  have ho := oB_iff ⟨ok, on, oa, ob⟩ h
  simp only at ho
  unfold vp10 restV
  simp only [Bool.and_eq_true, em_iff, dcd_iff, nB_iff, bB_iff, ho, capOf, optV, hasEp, hasRt, mAsk, mDig, mTold, mOf, zMsg, zOp, z25, Msg.mk.injEq, S25.mk.injEq, Sp.Op.mk.injEq, eB_mk, capV_iff, big]
  simp
  intro h1 h2 h3 h4
  exact ⟨fun hh => by simp [hh], fun hh => by simp [hh]⟩
set_option maxHeartbeats 4000000 in
set_option maxRecDepth 100000 in
theorem valid0_calls (m : Msg) (A : Option Addr) (c : Nat) (w : World) (hk : ¬ (1 ≤ m.kind ∧ m.kind ≤ 10)) :
    Calls Try.prog 21 #[MV m A c] w fun e w' => e = .returned (.bool false) ∧ Below w.heap.size w w' := by
  unfold MV
  obtain ⟨wa, hwa⟩ : ∃ wa, wa = w.alloc (.cells (MVc m A c) 33 (0, 0)) := ⟨_, rfl⟩
  have HWA := Aside0.mk hwa
  have HB : Aside0 (Below w.heap.size w wa) := ⟨by rw [hwa]; exact (Below.refl _ _).alloc (Nat.le_refl _) _⟩
  have BK : Aside0 (wa.heap[w.heap.size]? = some (.cells (MVc m A c) 33 (0, 0))) := ⟨by rw [hwa]; exact heap_alloc_new w _⟩
  clear hwa
  have hcz_0 : wa.cell? ⟨w.heap.size, 0, none⟩ = some (.int .i64 m.kind) := (blk_cell BK.out 0).trans rfl
  have hk1 : (m.kind == 1) = false := beq_eq_false_iff_ne.mpr (fun e => hk ⟨by omega, by omega⟩)
  have hk2 : (m.kind == 2) = false := beq_eq_false_iff_ne.mpr (fun e => hk ⟨by omega, by omega⟩)
  have hk3 : (m.kind == 3) = false := beq_eq_false_iff_ne.mpr (fun e => hk ⟨by omega, by omega⟩)
  have hk4 : (m.kind == 4) = false := beq_eq_false_iff_ne.mpr (fun e => hk ⟨by omega, by omega⟩)
  have hk5 : (m.kind == 5) = false := beq_eq_false_iff_ne.mpr (fun e => hk ⟨by omega, by omega⟩)
  have hk6 : (m.kind == 6) = false := beq_eq_false_iff_ne.mpr (fun e => hk ⟨by omega, by omega⟩)
  have hk7 : (m.kind == 7) = false := beq_eq_false_iff_ne.mpr (fun e => hk ⟨by omega, by omega⟩)
  have hk8 : (m.kind == 8) = false := beq_eq_false_iff_ne.mpr (fun e => hk ⟨by omega, by omega⟩)
  have hk9 : (m.kind == 9) = false := beq_eq_false_iff_ne.mpr (fun e => hk ⟨by omega, by omega⟩)
  have hk10 : (m.kind == 10) = false := beq_eq_false_iff_ne.mpr (fun e => hk ⟨by omega, by omega⟩)
  have hu33 := Try.underlying33
  go_enter Try.func21, Try.ntmps21
  go_upto_region 1 with fail
  rw [← HWA.out]
  go_wp2_with fail
  go_ret
  exact ⟨rfl, HB.out⟩
/-- wire.Valid. -/
theorem valid_calls (m : Msg) (h : isI m.op.a ∧ isI m.op.b) (A : Option Addr) (c : Nat) (w : World) (hr : Kd.C k87 w A m.views.length m.views) (hc : m.views.length ≤ c) :
    Calls Try.prog 21 #[MV m A c] w fun e w' => e = .returned (.bool (dcd (msgV m))) ∧ Below w.heap.size w w' := by
  by_cases hk : 1 ≤ m.kind ∧ m.kind ≤ 10
  · have hm : ∀ b, (b = true ↔ restV m) → b = dcd (msgV m) := fun b hb => bool_dcd (hb.trans ⟨fun h => ⟨hk, h⟩, fun h => h.2⟩)
    have hs : m.kind = 1 ∨ m.kind = 2 ∨ m.kind = 3 ∨ m.kind = 4 ∨ m.kind = 5 ∨ m.kind = 6 ∨ m.kind = 7 ∨ m.kind = 8 ∨ m.kind = 9 ∨ m.kind = 10 := by omega
    unfold MV MVc
    rcases hs with h1 | h2 | h3 | h4 | h5 | h6 | h7 | h8 | h9 | h10
    · rw [h1]
      exact (valid1_calls m A c w hr hc).mono fun e w' hh => by obtain ⟨r, rfl, rfl, hb⟩ := hh; exact ⟨by rw [hm _ (vp1_iff m h1 h)], hb⟩
    · rw [h2]
      exact (valid2_calls m A c w hr hc).mono fun e w' hh => by obtain ⟨r, rfl, rfl, hb⟩ := hh; exact ⟨by rw [hm _ (vp2_iff m h2 h)], hb⟩
    · rw [h3]
      exact (valid3_calls m A c w hr hc).mono fun e w' hh => by obtain ⟨r, rfl, rfl, hb⟩ := hh; exact ⟨by rw [hm _ (vp3_iff m h3 h)], hb⟩
    · rw [h4]
      exact (valid4_calls m A c w hr hc).mono fun e w' hh => by obtain ⟨r, rfl, rfl, hb⟩ := hh; exact ⟨by rw [hm _ (vp4_iff m h4 h)], hb⟩
    · rw [h5]
      exact (valid5_calls m A c w hr hc).mono fun e w' hh => by obtain ⟨r, rfl, rfl, hb⟩ := hh; exact ⟨by rw [hm _ (vp5_iff m h5 h)], hb⟩
    · rw [h6]
      exact (valid6_calls m A c w hr hc).mono fun e w' hh => by obtain ⟨r, rfl, rfl, hb⟩ := hh; exact ⟨by rw [hm _ (vp6_iff m h6 h)], hb⟩
    · rw [h7]
      exact (valid7_calls m A c w hr hc).mono fun e w' hh => by obtain ⟨r, rfl, rfl, hb⟩ := hh; exact ⟨by rw [hm _ (vp7_iff m h7 h)], hb⟩
    · rw [h8]
      exact (valid8_calls m A c w hr hc).mono fun e w' hh => by obtain ⟨r, rfl, rfl, hb⟩ := hh; exact ⟨by rw [hm _ (vp8_iff m h8 h)], hb⟩
    · rw [h9]
      exact (valid9_calls m A c w hr hc).mono fun e w' hh => by obtain ⟨r, rfl, rfl, hb⟩ := hh; exact ⟨by rw [hm _ (vp9_iff m h9 h)], hb⟩
    · rw [h10]
      exact (valid10_calls m A c w hr hc).mono fun e w' hh => by obtain ⟨r, rfl, rfl, hb⟩ := hh; exact ⟨by rw [hm _ (vp10_iff m h10 h)], hb⟩
  · rw [dcd_neg (fun h => hk h.1)]
    exact valid0_calls m A c w hk
end Go.Proofs.Ytpgdmmjbhjbbhaa.Vd
end
section
namespace Go.Proofs.Ytpgdmmjbhjbbhaa.Wr
open Go Go.RowKit Go.Proofs.Ytpgdmmjbhjbbhaa.P Go.Proofs.Ytpgdmmjbhjbbhaa.Sp Go.Proofs.YtpgdmmjbhjbbhaaW.PrintWords Go.Proofs.YtpgdmmjbhjbbhaaW.PrintLast Go.Proofs.YtpgdmmjbhjbbhaaW.PrintMore
set_option linter.unusedVariables false
set_option linter.unusedSimpArgs false
/-- Rows and boxes of other types than the bytes' and the writer's stay. -/
def Stay (w w1 : World) : Prop := ∀ (k : Nat) (cs : Array Value) (t : TypeId), t ≠ 5 → t ≠ 99 → w.heap[k]? = some (Obj.cells cs t (0, 0)) → w1.heap[k]? = some (Obj.cells cs t (0, 0))
theorem Stay.refl (w : World) : Stay w w := fun _ _ _ _ _ h => h
theorem Stay.trans {a b c : World} (h : Stay a b) (k : Stay b c) : Stay a c := fun i cs t h1 h2 hi => k i cs t h1 h2 (h i cs t h1 h2 hi)
theorem Stay.below {a b : World} (h : Below a.heap.size a b) : Stay a b := fun i cs t _ _ hi => (h.block i (blk_lt hi)).trans hi
theorem R_sl {α : Type} {d : Kd α} {e base : Nat} {ok : Nat → Prop} {w : World} {v : Value} {xs : List α} (h : d.R e w base ok v xs) : ∃ A n c, v = .slice A n c := by
  obtain ⟨A, c, rfl⟩ := Kd.R_slice h
  exact ⟨A, _, c, rfl⟩
/-- The writer's state: the box g, and the bytes laid so far. -/
structure WS (w0 w : World) (g : Nat) (bs : List Int) (v : Value) : Prop where
  blk : w.heap[g]? = some (.cells #[v] 99 (0, 0))
  ge : w0.heap.size ≤ g
  row : Kd.R (Kd.int .u8) 5 w w0.heap.size (fun _ => True) v bs
  bel : Below w0.heap.size w0 w
theorem WS.below {w0 w w1 : World} {g : Nat} {bs : List Int} {v : Value} (h : WS w0 w g bs v) (hb : Below w.heap.size w w1) : WS w0 w1 g bs v :=
  ⟨(hb.block g (blk_lt h.blk)).trans h.blk, h.ge, Kd.R_below h.row hb, h.bel.trans (hb.mono h.bel.size)⟩
/-- An append to the row, stored into the box. -/
theorem WS.store {w0 w w1 : World} {g : Nat} {bs cs : List Int} {v v1 : Value} (h : WS w0 w g bs v) (hr : Kd.R (Kd.int .u8) 5 w1 w0.heap.size (fun _ => True) v1 cs) (hb : Below w0.heap.size w0 w1) (hg : w.grownBy w1 v.ownBlock) :
    WS w0 (w1.setCell ⟨g, 0, none⟩ v1) g cs v1 ∧ Stay w (w1.setCell ⟨g, 0, none⟩ v1) ∧ w1.frozen? ⟨g, 0, none⟩ = false ∧ w1.cell? ⟨g, 0, none⟩ = some v := by
  have hne : some g ≠ v.ownBlock := Kd.R_ne h.row h.blk (by decide)
  have hgl := blk_lt h.blk
  have hb1 : w1.heap[g]? = some (.cells #[v] 99 (0, 0)) := (hg.block g hgl hne).trans h.blk
  have hne1 : some g ≠ v1.ownBlock := Kd.R_ne hr hb1 (by decide)
  refine ⟨⟨one_setCell hb1, h.ge, Kd.R_far (Kd.R_reok (ok := fun k => some k = v1.ownBlock) rfl hr (fun k hk => hk.symm)) (fun k hk e => hne1 (by rw [← hk]; exact congrArg some e.symm)) v1 |> fun x => Kd.R_mono x (fun _ _ => trivial), hb.setCell h.ge v1⟩, fun k c t ht1 ht2 hk => ?_, frozen_of_row w1 g 0 _ _ hb1, by rw [cell_of_row w1 g 0 _ _ (0, 0) hb1]; rfl⟩
  have hkg : k ≠ g := fun e => by rw [e, h.blk] at hk; injection hk with h2; injection h2 with h3 h4; exact absurd h4.symm ht2
  have hkv : some k ≠ v.ownBlock := fun e => by
    exact Kd.R_ne h.row hk ht1.symm e
  exact (Below.heap_setCell w1 ⟨g, 0, none⟩ v1 k hkg).trans ((hg.block k (blk_lt hk) hkv).trans hk)
end Go.Proofs.Ytpgdmmjbhjbbhaa.Wr
end
section
namespace Go.Proofs.Ytpgdmmjbhjbbhaa.Wr
open Go Go.RowKit Go.Proofs.Ytpgdmmjbhjbbhaa.P Go.Proofs.Ytpgdmmjbhjbbhaa.Sp Go.Proofs.YtpgdmmjbhjbbhaaW.PrintWords Go.Proofs.YtpgdmmjbhjbbhaaW.PrintLast Go.Proofs.YtpgdmmjbhjbbhaaW.PrintMore
set_option linter.unusedVariables false
set_option linter.unusedSimpArgs false
theorem inf8 : (Try.prog.info? 5).map (fun i => (i.zero, i.size, i.bytes)) = some (some (.int .u8 0), 1, 1) := by kernel_rfl
theorem one_row (k : IntKind) (x : Int) (w : World) (b : Nat) (t : TypeId) (h : w.heap[b]? = some (.cells #[.int k x] t (0, 0))) : Kd.C (Kd.int k) w (some ⟨b, 0, none⟩) 1 [x] := by
  refine Kd.C_of_reads (d := (0 : Int)) (h1 := fun _ => rfl) ⟨rfl, by omega, fun _ => ⟨_, rfl, fun j hj => ?_⟩⟩
  rw [add_plain, cell_of_row _ b j _ t (0, 0) h]
  obtain rfl : j = 0 := by omega
  rfl
theorem or128f : ∀ y : Fin 256, bits BinOp.or IntKind.u8 (y.val : Int) 128 = ((y.val % 128 + 128 : Nat) : Int) := by decide +kernel
theorem or128 (m : Nat) : bits BinOp.or IntKind.u8 ((m : Int) % 256) 128 = ((m % 128 + 128 : Nat) : Int) := by
  have h := or128f ⟨m % 256, Nat.mod_lt _ (by decide)⟩
  simp only [Int.natCast_emod] at h ⊢
  rw [show ((m : Int) % 256) = ((m : Int) % ((256 : Nat) : Int)) from rfl, h]
  omega
set_option maxHeartbeats 2000000 in
set_option maxRecDepth 100000 in
theorem big_calls (w0 w : World) (g : Nat) (bs : List Int) (v : Value) (n : Nat) (hn : n < 18446744073709551616) (hS : WS w0 w g bs v) (hb : bs.length + (numB n).length ≤ 1099511627776) :
    Calls Try.prog 95 #[.pointer (some ⟨g, 0, none⟩), .int .u64 (n : Int)] w fun e w' => e = .returned (.tuple #[]) ∧ ∃ v', WS w0 w' g (bs ++ numB n) v' ∧ Stay w w' := by
  have HS := Aside0.mk hS
  have HB := Aside0.mk hb
  have HN := Aside0.mk hn
  clear hS hb hn
  go_enter Try.func95, Try.ntmps95
  go_wp2_with fail
  go_loopw [1] (fun v1 wr => ∃ (m : Nat) (cs : List Int) (v : Value), v1 = .int .u64 (m : Int) ∧ Aside0 (WS w0 wr g cs v ∧ cs ++ numB m = bs ++ numB n ∧ m < 18446744073709551616 ∧ Stay w wr)) (fun v1 _ => (intOf v1).toNat)
  case atStart => exact ⟨n, bs, v, rfl, ⟨HS.out, rfl, HN.out, Stay.refl _⟩⟩
  case round =>
    obtain ⟨m, cs, v, rfl, HR⟩ := hrel
    have HL : Aside0 ((cs.length + 1) * 1 ≤ 140737488355328) := ⟨by have := congrArg List.length HR.out.2.1; rw [List.length_append, List.length_append] at this; have := HB.out; omega⟩
    obtain ⟨A, c, rfl⟩ := Kd.R_slice HR.out.1.row
    have hk0 := frozen_of_row wr g 0 _ _ HR.out.1.blk
    have hk1 : wr.cell? ⟨g, 0, none⟩ = some (.slice A cs.length c) := by rw [cell_of_row wr g 0 _ _ (0, 0) HR.out.1.blk]; rfl
    by_cases hlt : m < 128
    · have hc : ¬ ((m : Int) > 127) := by omega
      have HA : Aside0 (WS w0 (wr.alloc (.cells #[.int .u8 (m : Int)] 5 (0, 0))) g cs (.slice A cs.length c)) := ⟨HR.out.1.below ((Below.refl _ _).alloc (Nat.le_refl _) _)⟩
      have HX : Aside0 (Kd.C (Kd.int .u8) (wr.alloc (.cells #[.int .u8 (m : Int)] 5 (0, 0))) (some ⟨wr.heap.size, 0, none⟩) 1 [(m : Int)]) := ⟨one_row .u8 _ _ _ _ (heap_alloc_new wr _)⟩
      have HE : Aside0 (cs ++ [(m : Int)] = bs ++ numB n) := ⟨by rw [← HR.out.2.1, numB_lt hlt]⟩
      go_wp2_with (refine Kd.R_append_row (Value.int .u8) (0 : Int) (h1 := fun _ => rfl) (w0 := w0) w0.heap.size rfl (.tmp 24) (.tmp 27) 36 5 (.int .u8 0) 1 rfl Try.underlying36 inf8 rfl (by omega) (.slice A cs.length c) cs [(m : Int)] (some ⟨wr.heap.size, 0, none⟩) 1 1 (fun _ => True) rfl rfl (fun _ _ => trivial) HA.out.row HX.out HA.out.bel HA.out.bel.size HL.out ?_; intro v1 w1 hR1 hB1 hg1 hat1; obtain ⟨A1, c1, rfl⟩ := Kd.R_slice hR1; have hst := HA.out.store hR1 hB1 hg1; simp only [List.length_append, List.length_cons, List.length_nil, Nat.zero_add] at hst; have hf := hst.2.2.1; have hcl := hst.2.2.2; have HST := Aside0.mk (And.intro hst.1 hst.2.1); clear hst hR1 hB1 hg1 hat1 hk0 hk1)
      (first | go_end0 | ((try simp only [Exit.inBlock, Exit.then]); refine bodyPost_ret (results_none rfl _ _ _) rfl ?_))
      rw [← HE.out]
      first | exact ⟨rfl, ⟨_, HST.out.1⟩, HR.out.2.2.2.trans ((Stay.below ((Below.refl _ _).alloc (Nat.le_refl _) _)).trans HST.out.2)⟩ | exact ⟨⟨_, HST.out.1⟩, HR.out.2.2.2.trans ((Stay.below ((Below.refl _ _).alloc (Nat.le_refl _) _)).trans HST.out.2)⟩ | exact ⟨rfl, _, HST.out.1, HR.out.2.2.2.trans ((Stay.below ((Below.refl _ _).alloc (Nat.le_refl _) _)).trans HST.out.2)⟩
    · have hc : (m : Int) > 127 := by omega
      obtain ⟨x, hx⟩ : ∃ x : Int, x = ((m % 128 + 128 : Nat) : Int) := ⟨_, rfl⟩
      have hbit : bits BinOp.or IntKind.u8 ((m : Int) % 256) 128 = x := by rw [hx]; exact or128 m
      have HXX := Aside0.mk hx
      clear hx
      have HA : Aside0 (WS w0 (wr.alloc (.cells #[.int .u8 x] 5 (0, 0))) g cs (.slice A cs.length c)) := ⟨HR.out.1.below ((Below.refl _ _).alloc (Nat.le_refl _) _)⟩
      have HX : Aside0 (Kd.C (Kd.int .u8) (wr.alloc (.cells #[.int .u8 x] 5 (0, 0))) (some ⟨wr.heap.size, 0, none⟩) 1 [x]) := ⟨one_row .u8 _ _ _ _ (heap_alloc_new wr _)⟩
      have HE : Aside0 ((cs ++ [x]) ++ numB (m / 128) = bs ++ numB n) := ⟨by rw [← HR.out.2.1, numB_ge hlt, List.append_assoc, HXX.out]; rfl⟩
      go_wp2_with (refine Kd.R_append_row (Value.int .u8) (0 : Int) (h1 := fun _ => rfl) (w0 := w0) w0.heap.size rfl (.tmp 12) (.tmp 16) 36 5 (.int .u8 0) 1 rfl Try.underlying36 inf8 rfl (by omega) (.slice A cs.length c) cs [x] (some ⟨wr.heap.size, 0, none⟩) 1 1 (fun _ => True) rfl rfl (fun _ _ => trivial) HA.out.row HX.out HA.out.bel HA.out.bel.size HL.out ?_; intro v1 w1 hR1 hB1 hg1 hat1; obtain ⟨A1, c1, rfl⟩ := Kd.R_slice hR1; have hst := HA.out.store hR1 hB1 hg1; simp only [List.length_append, List.length_cons, List.length_nil, Nat.zero_add] at hst; have hf := hst.2.2.1; have hcl := hst.2.2.2; have HST := Aside0.mk (And.intro hst.1 hst.2.1); clear hst hR1 hB1 hg1 hat1 hk0 hk1)
      go_roundw
      case rel => exact ⟨m / 128, _, _, by go_num, ⟨HST.out.1, HE.out, by have := HR.out.2.2.1; omega, HR.out.2.2.2.trans ((Stay.below ((Below.refl _ _).alloc (Nat.le_refl _) _)).trans HST.out.2)⟩⟩
      case measure => simp only [intOf]; first | omega | (go_num; omega) | (simp; omega)
end Go.Proofs.Ytpgdmmjbhjbbhaa.Wr
end
section
namespace Go.Proofs.Ytpgdmmjbhjbbhaa.Sp
open Go Go.RowKit Go.Proofs.Ytpgdmmjbhjbbhaa.P Go.Proofs.YtpgdmmjbhjbbhaaW.PrintWords Go.Proofs.YtpgdmmjbhjbbhaaW.PrintLast Go.Proofs.YtpgdmmjbhjbbhaaW.PrintMore
theorem xor_ones (x : Nat) (h : x < 18446744073709551616) : x ^^^ 18446744073709551615 = 18446744073709551615 - x := by
  have h1 := congrArg BitVec.toNat (BitVec.xor_allOnes (x := BitVec.ofNat 64 x))
  rw [BitVec.toNat_xor, BitVec.toNat_not, BitVec.toNat_allOnes, BitVec.toNat_ofNat, Nat.mod_eq_of_lt h] at h1
  exact h1
theorem u64_wrap (n : Int) : IntKind.u64.wrap n = n % 18446744073709551616 := by simp [IntKind.wrap, IntKind.bits, IntKind.signed]
theorem sign_bits (n : Int) (h : isI n) : bits BinOp.xor IntKind.u64 (IntKind.u64.wrap (IntKind.u64.wrap n * 2)) (IntKind.u64.wrap (n / 9223372036854775808)) = ((signN n : Nat) : Int) := by
  unfold isI at h
  rw [u64_wrap, u64_wrap, u64_wrap]
  unfold signN
  by_cases h0 : 0 ≤ n
  · rw [if_pos h0]
    obtain ⟨a, ha⟩ : ∃ a : Nat, (a : Int) = n % 18446744073709551616 * 2 % 18446744073709551616 := ⟨(n % 18446744073709551616 * 2 % 18446744073709551616).toNat, by omega⟩
    rw [show n / 9223372036854775808 % 18446744073709551616 = ((0 : Nat) : Int) from by omega, ← ha, bits_xor_u64_nat a 0 (by omega) (by omega), Nat.xor_zero]
    omega
  · rw [if_neg h0]
    obtain ⟨a, ha⟩ : ∃ a : Nat, (a : Int) = n % 18446744073709551616 * 2 % 18446744073709551616 := ⟨(n % 18446744073709551616 * 2 % 18446744073709551616).toNat, by omega⟩
    rw [show n / 9223372036854775808 % 18446744073709551616 = ((18446744073709551615 : Nat) : Int) from by omega, ← ha, bits_xor_u64_nat a _ (by omega) (by omega), xor_ones a (by omega)]
    omega
theorem signN_lt (n : Int) (h : isI n) : signN n < 18446744073709551616 := by unfold isI at h; unfold signN; split <;> omega
end Go.Proofs.Ytpgdmmjbhjbbhaa.Sp
end
section
namespace Go.Proofs.Ytpgdmmjbhjbbhaa.Wr
open Go Go.RowKit Go.Proofs.Ytpgdmmjbhjbbhaa.P Go.Proofs.Ytpgdmmjbhjbbhaa.Sp Go.Proofs.YtpgdmmjbhjbbhaaW.PrintWords Go.Proofs.YtpgdmmjbhjbbhaaW.PrintLast Go.Proofs.YtpgdmmjbhjbbhaaW.PrintMore
set_option linter.unusedVariables false
set_option linter.unusedSimpArgs false
/-- A literal list of ints. -/
def IsL (w : World) (B : Nat) (l : List Int) : Prop := w.heap[B]? = some (.cells (l.map (Value.int .i64)).toArray 3 (0, 0))
theorem IsL.stay {w w1 : World} {B : Nat} {l : List Int} (h : IsL w B l) (k : Stay w w1) : IsL w1 B l := k _ _ _ (by decide) (by decide) h
theorem IsL.cell {w : World} {B : Nat} {l : List Int} (h : IsL w B l) (i : Nat) (hi : i < l.length) : w.cell? ⟨B, i, none⟩ = some (.int .i64 (rd l i)) := by
  rw [cell_of_row w B i _ _ (0, 0) h]
  simp [rd, List.getD_eq_getElem?_getD, List.getElem?_eq_getElem hi, hi]
def numsB (l : List Int) : List Int := l.flatMap intB
theorem numsB_take (l : List Int) (i : Nat) (hi : i < l.length) : numsB (l.take (i + 1)) = numsB (l.take i) ++ intB (rd l i) := by
  unfold numsB
  rw [List.take_add_one, List.getElem?_eq_getElem hi, List.flatMap_append]
  simp [rd, List.getD_eq_getElem?_getD, List.getElem?_eq_getElem hi]
theorem numsB_le (l : List Int) (i : Nat) : (numsB (l.take i)).length ≤ (numsB l).length := by
  unfold numsB
  conv => rhs; rw [← List.take_append_drop i l, List.flatMap_append, List.length_append]
  omega
theorem u64_nat (n : Int) : ((IntKind.u64.wrap n).toNat : Int) = IntKind.u64.wrap n ∧ (IntKind.u64.wrap n).toNat < 18446744073709551616 := by
  have h : IntKind.u64.wrap n = n % 18446744073709551616 := by simp [IntKind.wrap, IntKind.bits, IntKind.signed]
  omega
set_option maxHeartbeats 2000000 in
set_option maxRecDepth 100000 in
theorem nums_calls (w0 w : World) (g : Nat) (bs : List Int) (v : Value) (B : Nat) (l : List Int) (n c : Nat) (hn : n = l.length) (hS : WS w0 w g bs v) (hB : IsL w B l) (hb : bs.length + (numsB l).length ≤ 1099511627776) (hl : l.length ≤ 1000) :
    Calls Try.prog 53 #[.pointer (some ⟨g, 0, none⟩), .slice (some ⟨B, 0, none⟩) n c] w fun e w' => e = .returned (.tuple #[]) ∧ ∃ v', WS w0 w' g (bs ++ numsB l) v' ∧ Stay w w' := by
  subst hn
  have HS := Aside0.mk hS
  have HL := Aside0.mk hB
  have HB := Aside0.mk hb
  clear hS hB hb
  have hlI : (l.length : Int) ≤ 1000 := by omega
  go_enter Try.func53, Try.ntmps53
  go_wp2_with fail
  go_loopw [8] (fun v8 wr => ∃ (i : Nat) (v : Value), v8 = .int .i64 (i : Int) ∧ Aside0 (i ≤ l.length ∧ WS w0 wr g (bs ++ numsB (l.take i)) v ∧ Stay w wr)) (fun v8 _ => l.length - (intOf v8).toNat)
  case atStart => exact ⟨0, v, rfl, ⟨Nat.zero_le _, by simpa [numsB] using HS.out, Stay.refl _⟩⟩
  case round =>
    obtain ⟨i, v, rfl, HR⟩ := hrel
    by_cases hlt : i < l.length
    · have hi0 : (0 : Int) ≤ (i : Int) := by omega
      have hi1 : (i : Int) < (l.length : Int) := by omega
      have hc := (HL.out.stay HR.out.2.2).cell i hlt
      obtain ⟨x, hx⟩ : ∃ x : Nat, x = (IntKind.u64.wrap (rd l i)).toNat := ⟨_, rfl⟩
      have hx2 := (u64_nat (rd l i)).1
      rw [← hx] at hx2
      have HX : Aside0 (x < 18446744073709551616 ∧ intB (rd l i) = numB x) := ⟨by rw [hx]; exact (u64_nat _).2, by rw [intB, hx]⟩
      have HT : Aside0 (bs ++ numsB (l.take (i + 1)) = (bs ++ numsB (l.take i)) ++ numB x) := ⟨by rw [numsB_take l i hlt, HX.out.2, List.append_assoc]⟩
      have HT2 : Aside0 ((bs ++ numsB (l.take i)).length + (numB x).length ≤ 1099511627776) := ⟨by rw [← List.length_append, ← HT.out, List.length_append]; have := numsB_le l (i + 1); have := HB.out; omega⟩
      have hx3 := hx2.symm
      clear hx hx2
      have HLT := Aside0.mk hlt
      go_wp2_with (go_at_call 95; refine (big_calls w0 _ g _ v x HX.out.1 HR.out.2.1 HT2.out).mono ?_; rintro e w1 ⟨rfl, v1, hS1, hst⟩; have HS1 := Aside0.mk hS1; have HST := Aside0.mk hst; clear hS1 hst)
      go_roundw
      case rel => exact ⟨i + 1, v1, by go_num, ⟨by have := HLT.out; omega, HT.out ▸ HS1.out, HR.out.2.2.trans HST.out⟩⟩
      case measure => simp only [intOf]; have := HLT.out; first | omega | (go_num; omega) | (simp; omega)
    · have hi1 : ¬ ((i : Int) < (l.length : Int)) := by omega
      have HI : Aside0 (l.take i = l) := ⟨List.take_of_length_le (by omega)⟩
      go_wp2_with fail
      (first | go_end0 | ((try simp only [Exit.inBlock, Exit.then]); refine bodyPost_ret (results_none rfl _ _ _) rfl ?_))
      have h1 := HR.out.2.1
      rw [HI.out] at h1
      first | exact ⟨rfl, v, h1, HR.out.2.2⟩ | exact ⟨⟨v, h1⟩, HR.out.2.2⟩ | exact ⟨rfl, ⟨v, h1⟩, HR.out.2.2⟩
set_option maxHeartbeats 2000000 in
set_option maxRecDepth 100000 in
theorem signed_calls (w0 w : World) (g : Nat) (bs : List Int) (v : Value) (n : Int) (hn : isI n) (hS : WS w0 w g bs v) (hb : bs.length + (signB n).length ≤ 1099511627776) :
    Calls Try.prog 85 #[.pointer (some ⟨g, 0, none⟩), .int .i64 n] w fun e w' => e = .returned (.tuple #[]) ∧ ∃ v', WS w0 w' g (bs ++ signB n) v' ∧ Stay w w' := by
  have HS := Aside0.mk hS
  have HB := Aside0.mk hb
  clear hS hb
  have HI := Aside0.mk hn
  have hn0 := hn.1
  have hn1 := hn.2
  have hbit := sign_bits n hn
  go_enter Try.func85, Try.ntmps85
  go_wp2_with (go_at_call 95; refine (big_calls w0 _ g bs v _ (signN_lt n HI.out) HS.out HB.out).mono ?_; rintro e w1 ⟨rfl, v1, hS1, hst⟩; have HS1 := Aside0.mk hS1; have HST := Aside0.mk hst; clear hS1 hst)
  (first | go_end0 | ((try simp only [Exit.inBlock, Exit.then]); refine bodyPost_ret (results_none rfl _ _ _) rfl ?_))
  first | exact ⟨rfl, v1, HS1.out, HST.out⟩ | exact ⟨⟨v1, HS1.out⟩, HST.out⟩ | exact ⟨rfl, ⟨v1, HS1.out⟩, HST.out⟩
set_option maxHeartbeats 2000000 in
set_option maxRecDepth 100000 in
theorem text_calls (w0 w : World) (g : Nat) (bs : List Int) (v : Value) (s : ByteArray) (hS : WS w0 w g bs v) (hb : bs.length + (textB s).length ≤ 1099511627776) :
    Calls Try.prog 57 #[.pointer (some ⟨g, 0, none⟩), .string s] w fun e w' => e = .returned (.tuple #[]) ∧ ∃ v', WS w0 w' g (bs ++ textB s) v' ∧ Stay w w' := by
  have HS := Aside0.mk hS
  have HB := Aside0.mk hb
  clear hS hb
  have HA : Aside0 (WS w0 (w.alloc (.cells #[.int .i64 (s.size : Int)] 3 (0, 0))) g bs v) := ⟨HS.out.below ((Below.refl _ _).alloc (Nat.le_refl _) _)⟩
  have HL : Aside0 (IsL (w.alloc (.cells #[.int .i64 (s.size : Int)] 3 (0, 0))) w.heap.size [(s.size : Int)]) := ⟨heap_alloc_new w _⟩
  have HE : Aside0 (numsB [(s.size : Int)] = intB s.size ∧ (bs ++ numsB [(s.size : Int)]) ++ bytesOf s = bs ++ textB s) := ⟨by simp [numsB], by simp [numsB, textB]⟩
  have HB1 : Aside0 (bs.length + (numsB [(s.size : Int)]).length ≤ 1099511627776) := ⟨by rw [HE.out.1]; have := HB.out; unfold textB at this; rw [List.length_append] at this; omega⟩
  have HB2 : Aside0 ((bs ++ numsB [(s.size : Int)]).length + s.size ≤ 140737488355328) := ⟨by have h1 := HB1.out; have h2 := HB.out; unfold textB at h2; rw [List.length_append, bytesOf_length] at h2; rw [List.length_append]; omega⟩
  go_enter Try.func57, Try.ntmps57
  go_upto_region 1 with (go_at_call 53; refine (nums_calls w0 _ g _ v _ [(s.size : Int)] _ _ rfl HA.out HL.out HB1.out (by simp)).mono ?_; rintro e w1 ⟨rfl, v1, hS1, hst⟩; have HS1 := Aside0.mk hS1; have HST := Aside0.mk hst; clear hS1 hst)
  obtain ⟨A, c, rfl⟩ := Kd.R_slice HS1.out.row
  have hk0 := frozen_of_row w1 g 0 _ _ HS1.out.blk
  have hk1 : w1.cell? ⟨g, 0, none⟩ = some (.slice A (bs ++ numsB [(s.size : Int)]).length c) := by rw [cell_of_row w1 g 0 _ _ (0, 0) HS1.out.blk]; rfl
  have HB3 : Aside0 (Below w0.heap.size w0 w1) := ⟨HS1.out.bel⟩
  go_wp2_with (at_builtin; refine print_append_str (w0 := w0) w0.heap.size rfl (.tmp 13) (.tmp 14) 36 9 5 rfl Try.underlying36 Try.underlying9 inf8 (.slice A (bs ++ numsB [(s.size : Int)]).length c) (bs ++ numsB [(s.size : Int)]) s (by simp [Act.eval]) rfl (Kd.own_of_R HS1.out.row) HB3.out HB3.out.size HB2.out ?_; intro v2 w2 ho hb2 hg2; have hR2 := Kd.R_of_own (h1 := fun _ => rfl) (ok := fun _ => True) ho (fun _ _ => trivial); obtain ⟨A2, n2, c2, rfl⟩ := R_sl hR2; have hst := HS1.out.store hR2 hb2 hg2; simp only [HE.out.2] at hst; have hf := hst.2.2.1; have hcl := hst.2.2.2; have HST2 := Aside0.mk (And.intro hst.1 hst.2.1); clear hst hR2 ho hb2 hg2 hk0 hk1)
  (first | go_end0 | ((try simp only [Exit.inBlock, Exit.then]); refine bodyPost_ret (results_none rfl _ _ _) rfl ?_))
  have hfin : Stay w _ := (Stay.below ((Below.refl _ _).alloc (Nat.le_refl _) _)).trans (HST.out.trans HST2.out.2)
  first | exact ⟨rfl, _, HST2.out.1, hfin⟩ | exact ⟨⟨_, HST2.out.1⟩, hfin⟩ | exact ⟨rfl, ⟨_, HST2.out.1⟩, hfin⟩
end Go.Proofs.Ytpgdmmjbhjbbhaa.Wr
end
section
namespace Go.Proofs.Ytpgdmmjbhjbbhaa.Wr
open Go Go.RowKit Go.Proofs.Ytpgdmmjbhjbbhaa.P Go.Proofs.Ytpgdmmjbhjbbhaa.Sp Go.Proofs.YtpgdmmjbhjbbhaaW.PrintWords Go.Proofs.YtpgdmmjbhjbbhaaW.PrintLast Go.Proofs.YtpgdmmjbhjbbhaaW.PrintMore
set_option linter.unusedVariables false
set_option linter.unusedSimpArgs false
theorem numsB2 (x : S25) : numsB [x.f0, x.f1] = pairB x := by simp [numsB, pairB]
theorem numsB1 (n : Int) : numsB [n] = intB n := by simp [numsB]
theorem al_below (w : World) (o : Obj) : Below w.heap.size w (w.alloc o) := (Below.refl _ _).alloc (Nat.le_refl _) o
/-- A box of another type, as its cells. -/
theorem box_stay {w w1 : World} {B : Nat} {cs : Array Value} {t : TypeId} (h : w.heap[B]? = some (.cells cs t (0, 0))) (h1 : t ≠ 5) (h2 : t ≠ 99) (k : Stay w w1) (i : Nat) : w1.cell? ⟨B, i, none⟩ = cs[i]? := cell_of_row w1 B i _ t (0, 0) (k B cs t h1 h2 h)
set_option maxHeartbeats 2000000 in
set_option maxRecDepth 100000 in
theorem call_calls (w0 w : World) (g : Nat) (bs : List Int) (v : Value) (x : S25) (hS : WS w0 w g bs v) (hb : bs.length + (pairB x).length ≤ 1099511627776) :
    Calls Try.prog 54 #[.pointer (some ⟨g, 0, none⟩), .agg #[.int .i64 x.f0, .int .i64 x.f1]] w fun e w' => e = .returned (.tuple #[]) ∧ ∃ v', WS w0 w' g (bs ++ pairB x) v' ∧ Stay w w' := by
  have HS := Aside0.mk hS
  have HB := Aside0.mk hb
  clear hS hb
  have HBX : Aside0 (Below w.heap.size w ((w.alloc (.cells #[.int .i64 x.f0, .int .i64 x.f1] 27 (0, 0))).alloc (.cells #[.int .i64 x.f0, .int .i64 x.f1] 3 (0, 0)))) := ⟨(al_below w _).alloc (by simp) _⟩
  have HL : Aside0 (IsL ((w.alloc (.cells #[.int .i64 x.f0, .int .i64 x.f1] 27 (0, 0))).alloc (.cells #[.int .i64 x.f0, .int .i64 x.f1] 3 (0, 0))) (w.heap.size + 1) [x.f0, x.f1]) := ⟨by
    have := heap_alloc_new (w.alloc (.cells #[.int .i64 x.f0, .int .i64 x.f1] 27 (0, 0))) (.cells #[.int .i64 x.f0, .int .i64 x.f1] 3 (0, 0))
    simpa [IsL] using this⟩
  have HB1 : Aside0 (bs.length + (numsB [x.f0, x.f1]).length ≤ 1099511627776) := ⟨by rw [numsB2]; exact HB.out⟩
  go_enter Try.func54, Try.ntmps54
  go_wp2_with (go_at_call 53; refine (nums_calls w0 _ g _ v _ [x.f0, x.f1] _ _ rfl (HS.out.below HBX.out) HL.out HB1.out (by simp)).mono ?_; rintro e w1 ⟨rfl, v1, hS1, hst⟩; rw [numsB2] at hS1; have HS1 := Aside0.mk hS1; have HST := Aside0.mk hst; clear hS1 hst)
  (first | go_end0 | ((try simp only [Exit.inBlock, Exit.then]); refine bodyPost_ret (results_none rfl _ _ _) rfl ?_))
  have hfin : Stay w _ := (Stay.below HBX.out).trans HST.out
  first | exact ⟨rfl, _, HS1.out, hfin⟩ | exact ⟨⟨_, HS1.out⟩, hfin⟩ | exact ⟨rfl, ⟨_, HS1.out⟩, hfin⟩
set_option maxHeartbeats 2000000 in
set_option maxRecDepth 100000 in
theorem op_calls (w0 w : World) (g : Nat) (bs : List Int) (v : Value) (o : Sp.Op) (ho : isI o.a ∧ isI o.b) (hS : WS w0 w g bs v) (hb : bs.length + (opB o).length ≤ 1099511627776) :
    Calls Try.prog 55 #[.pointer (some ⟨g, 0, none⟩), .agg #[.int .i64 o.kind, .string o.name, .int .i64 o.a, .int .i64 o.b]] w fun e w' => e = .returned (.tuple #[]) ∧ ∃ v', WS w0 w' g (bs ++ opB o) v' ∧ Stay w w' := by
  have HS := Aside0.mk hS
  have HI := Aside0.mk ho
  have HB : Aside0 (bs.length + (intB o.kind).length + (textB o.name).length + (signB o.a).length + (signB o.b).length ≤ 1099511627776) := ⟨by simp only [opB, List.length_append] at hb; omega⟩
  clear hS hb ho
  obtain ⟨wa, hwa⟩ : ∃ wa, wa = w.alloc (.cells #[.int .i64 o.kind, .string o.name, .int .i64 o.a, .int .i64 o.b] 29 (0, 0)) := ⟨_, rfl⟩
  have HWA := Aside0.mk hwa
  have HBX : Aside0 (wa.heap[w.heap.size]? = some (.cells #[.int .i64 o.kind, .string o.name, .int .i64 o.a, .int .i64 o.b] 29 (0, 0))) := ⟨by rw [hwa]; exact heap_alloc_new w _⟩
  have HSA : Aside0 (WS w0 wa g bs v ∧ Stay w wa) := ⟨by rw [hwa]; exact HS.out.below (al_below w _), by rw [hwa]; exact Stay.below (al_below w _)⟩
  clear hwa
  have k0 := box_stay HBX.out (by decide) (by decide) (Stay.refl wa) 0
  have HL : Aside0 (IsL (wa.alloc (.cells #[.int .i64 o.kind] 3 (0, 0))) wa.heap.size [o.kind]) := ⟨heap_alloc_new wa _⟩
  have HB1 : Aside0 (bs.length + (numsB [o.kind]).length ≤ 1099511627776) := ⟨by rw [numsB1]; have := HB.out; omega⟩
  go_enter Try.func55, Try.ntmps55
  go_upto_region 1 with fail
  rw [← HWA.out]
  go_upto_region 2 with (go_at_call 53; refine (nums_calls w0 _ g _ v _ [o.kind] _ _ rfl (HSA.out.1.below (al_below wa _)) HL.out HB1.out (by simp)).mono ?_; rintro e w1 ⟨rfl, v1, hS1, hst⟩; rw [numsB1] at hS1; have HS1 := Aside0.mk hS1; have HST1 : Aside0 (Stay wa w1) := ⟨(Stay.below (al_below wa _)).trans hst⟩; clear hS1 hst)
  have k1 := box_stay HBX.out (by decide) (by decide) HST1.out 1
  have HB2 : Aside0 ((bs ++ intB o.kind).length + (textB o.name).length ≤ 1099511627776) := ⟨by rw [List.length_append]; have := HB.out; omega⟩
  go_upto_region 3 with (go_at_call 57; refine (text_calls w0 _ g _ v1 o.name HS1.out HB2.out).mono ?_; rintro e w2 ⟨rfl, v2, hS2, hst⟩; have HS2 := Aside0.mk hS2; have HST2 : Aside0 (Stay wa w2) := ⟨HST1.out.trans hst⟩; clear hS2 hst k1)
  have k2 := box_stay HBX.out (by decide) (by decide) HST2.out 2
  have HB3 : Aside0 ((bs ++ intB o.kind ++ textB o.name).length + (signB o.a).length ≤ 1099511627776) := ⟨by rw [List.length_append, List.length_append]; have := HB.out; omega⟩
  go_upto_region 4 with (go_at_call 85; refine (signed_calls w0 _ g _ v2 o.a HI.out.1 HS2.out HB3.out).mono ?_; rintro e w3 ⟨rfl, v3, hS3, hst⟩; have HS3 := Aside0.mk hS3; have HST3 : Aside0 (Stay wa w3) := ⟨HST2.out.trans hst⟩; clear hS3 hst k2)
  have k3 := box_stay HBX.out (by decide) (by decide) HST3.out 3
  have HB4 : Aside0 ((bs ++ intB o.kind ++ textB o.name ++ signB o.a).length + (signB o.b).length ≤ 1099511627776) := ⟨by rw [List.length_append, List.length_append, List.length_append]; have := HB.out; omega⟩
  go_wp2_with (go_at_call 85; refine (signed_calls w0 _ g _ v3 o.b HI.out.2 HS3.out HB4.out).mono ?_; rintro e w4 ⟨rfl, v4, hS4, hst⟩; have HS4 := Aside0.mk hS4; have HST4 : Aside0 (Stay wa w4) := ⟨HST3.out.trans hst⟩; clear hS4 hst k3)
  (first | go_end0 | ((try simp only [Exit.inBlock, Exit.then]); refine bodyPost_ret (results_none rfl _ _ _) rfl ?_))
  have hfin : Stay w _ := HSA.out.2.trans HST4.out
  have h4 := HS4.out
  rw [show bs ++ intB o.kind ++ textB o.name ++ signB o.a ++ signB o.b = bs ++ opB o from by simp [opB]] at h4
  first | exact ⟨rfl, _, h4, hfin⟩ | exact ⟨⟨_, h4⟩, hfin⟩ | exact ⟨rfl, ⟨_, h4⟩, hfin⟩
end Go.Proofs.Ytpgdmmjbhjbbhaa.Wr
end
