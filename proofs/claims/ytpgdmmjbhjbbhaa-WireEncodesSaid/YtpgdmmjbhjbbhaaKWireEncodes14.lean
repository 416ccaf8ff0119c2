/- texts that the proof needs, laid together by a program of this session. -/
import Derived.Test.YtpgdmmjbhjbbhaaKWireEncodes13
section
namespace Go.Proofs.Ytpgdmmjbhjbbhaa.Rf
open Go Go.RowKit Go.Proofs.Ytpgdmmjbhjbbhaa.P Go.Proofs.Ytpgdmmjbhjbbhaa.Sp Go.Proofs.Ytpgdmmjbhjbbhaa.Vd Go.Proofs.Ytpgdmmjbhjbbhaa.En Go.Proofs.Ytpgdmmjbhjbbhaa.Wr Go.Proofs.Ytpgdmmjbhjbbhaa.Rd Go.Proofs.Ytpgdmmjbhjbbhaa.Lw Go.Proofs.YtpgdmmjbhjbbhaaW.PrintWords Go.Proofs.YtpgdmmjbhjbbhaaW.PrintLast Go.Proofs.YtpgdmmjbhjbbhaaW.PrintMore
set_option linter.unusedVariables false
set_option linter.unusedSimpArgs false
theorem three_blocks (w : World) (a b c : Obj) : (((w.alloc a).alloc b).alloc c).heap[w.heap.size]? = some a ∧ (((w.alloc a).alloc b).alloc c).heap[w.heap.size + 1]? = some b ∧ (((w.alloc a).alloc b).alloc c).heap[w.heap.size + 1 + 1]? = some c ∧ Below w.heap.size w (((w.alloc a).alloc b).alloc c) := by
  have hs : ((w.alloc a).alloc b).heap.size = w.heap.size + 1 + 1 := by simp
  refine ⟨(Below.heap_alloc _ _ _ (by simp; omega)).trans (two_blocks w a b).1, (Below.heap_alloc _ _ _ (by simp)).trans (two_blocks w a b).2, ?_, (below_al2 w a b).alloc (by simp; omega) c⟩
  have := heap_alloc_new ((w.alloc a).alloc b) c
  rwa [hs] at this
/-- The message's box, the result's row, the row x. -/
theorem shape_rows (w : World) (src zk : Array Value) : ∃ w0, Aside0 (w0 = ((w.alloc (.cells src 33 (0, 0))).alloc (.cells (MVc zMsg none 0) 33 (0, 0))).alloc (.cells (MVc zMsg none 0) 33 (0, 0))) ∧ ∃ wa, Aside0 (wa = w0.setRow (w.heap.size + 1 + 1) zk) ∧
    Aside0 (w.heap.size ≠ w.heap.size + 1 + 1 ∧ w.heap.size + 1 ≠ w.heap.size + 1 + 1 ∧ w.heap.size + 1 + 1 ≠ w.heap.size + 1) ∧ Aside0 (w.heap.size ≤ w.heap.size + 1 + 1) ∧
    Aside0 (wa.heap[w.heap.size]? = some (.cells src 33 (0, 0)) ∧ wa.heap[w.heap.size + 1]? = some (.cells (MVc zMsg none 0) 33 (0, 0)) ∧ wa.heap[w.heap.size + 1 + 1]? = some (.cells zk 33 (0, 0)) ∧ Below w.heap.size w wa) ∧
    Aside0 (w0.heap[w.heap.size]? = some (.cells src 33 (0, 0)) ∧ w0.heap[w.heap.size + 1]? = some (.cells (MVc zMsg none 0) 33 (0, 0)) ∧ w0.heap[w.heap.size + 1 + 1]? = some (.cells (MVc zMsg none 0) 33 (0, 0)) ∧ Below w.heap.size w w0) := by
  have H0 := three_blocks w (.cells src 33 (0, 0)) (.cells (MVc zMsg none 0) 33 (0, 0)) (.cells (MVc zMsg none 0) 33 (0, 0))
  exact ⟨_, ⟨rfl⟩, _, ⟨rfl⟩, ⟨by omega⟩, ⟨by omega⟩, ⟨(setRow_far (by omega) _).trans H0.1, (setRow_far (by omega) _).trans H0.2.1, setRow_blk H0.2.2.1 _, below_setRow H0.2.2.2 (by omega) _⟩, ⟨H0⟩⟩
set_option maxHeartbeats 8000000 in
set_option maxRecDepth 100000 in
theorem shape1_calls (m : Msg) (hk : m.kind = 1) (A : Option Addr) (c : Nat) (w : World) :
    Calls Try.prog 45 #[.agg (MVc m A c)] w fun e w' => e = .returned (.agg (MVc (mAsk 1 m.call m.op) none 0)) ∧ Below w.heap.size w w' := by
  have hu33 := Try.underlying33
  have hu23 := Try.underlying23
  have hu25 := Try.underlying25
  have hu27 := Try.underlying27
  have hu29 := Try.underlying29
  obtain ⟨w0, HW0, wa, HWA, BNE, BGE, HB, H0⟩ := shape_rows w (MVc m A c) (MVc { zMsg with kind := 1 } none 0)
  rw [mv_zero] at HW0
  have ka0 : wa.cell? ⟨w.heap.size, 0, none⟩ = some (.int .i64 1) := by rw [blk_cell HB.out.1 0]; show some (Value.int .i64 m.kind) = _; rw [hk]
  have kb0 : ((w.alloc (.cells (MVc m A c) 33 (0, 0))).alloc (.cells (MVc zMsg none 0) 33 (0, 0))).cell? ⟨w.heap.size, 0, none⟩ = some (.int .i64 1) := by rw [blk_cell (two_blocks w _ _).1 0]; show some (Value.int .i64 m.kind) = _; rw [hk]
  rw [mv_zero] at kb0
  clear hk
  have ka11 : wa.cell? ⟨w.heap.size, 11, none⟩ = some (.int .i64 m.call.f0) := (blk_cell HB.out.1 11).trans rfl
  have ka12 : wa.cell? ⟨w.heap.size, 12, none⟩ = some (.int .i64 m.call.f1) := (blk_cell HB.out.1 12).trans rfl
  have ka13 : wa.cell? ⟨w.heap.size, 13, none⟩ = some (.int .i64 m.op.kind) := (blk_cell HB.out.1 13).trans rfl
  have ka14 : wa.cell? ⟨w.heap.size, 14, none⟩ = some (.string m.op.name) := (blk_cell HB.out.1 14).trans rfl
  have ka15 : wa.cell? ⟨w.heap.size, 15, none⟩ = some (.int .i64 m.op.a) := (blk_cell HB.out.1 15).trans rfl
  have ka16 : wa.cell? ⟨w.heap.size, 16, none⟩ = some (.int .i64 m.op.b) := (blk_cell HB.out.1 16).trans rfl
  have kc11 : wa.cell? ⟨w.heap.size + 1 + 1, 11, none⟩ = some (.int .i64 0) := (blk_cell HB.out.2.2.1 11).trans rfl
  have kf11 := blk_frozen HB.out.2.2.1 11
  have kc12 : wa.cell? ⟨w.heap.size + 1 + 1, 12, none⟩ = some (.int .i64 0) := (blk_cell HB.out.2.2.1 12).trans rfl
  have kf12 := blk_frozen HB.out.2.2.1 12
  have kc13 : wa.cell? ⟨w.heap.size + 1 + 1, 13, none⟩ = some (.int .i64 0) := (blk_cell HB.out.2.2.1 13).trans rfl
  have kf13 := blk_frozen HB.out.2.2.1 13
  have kc14 : wa.cell? ⟨w.heap.size + 1 + 1, 14, none⟩ = some (.string ⟨#[]⟩) := (blk_cell HB.out.2.2.1 14).trans rfl
  have kf14 := blk_frozen HB.out.2.2.1 14
  have kc15 : wa.cell? ⟨w.heap.size + 1 + 1, 15, none⟩ = some (.int .i64 0) := (blk_cell HB.out.2.2.1 15).trans rfl
  have kf15 := blk_frozen HB.out.2.2.1 15
  have kc16 : wa.cell? ⟨w.heap.size + 1 + 1, 16, none⟩ = some (.int .i64 0) := (blk_cell HB.out.2.2.1 16).trans rfl
  have kf16 := blk_frozen HB.out.2.2.1 16
  obtain ⟨wf, hwf⟩ : ∃ wf, wf = ((((((wa).setCell ⟨w.heap.size + 1 + 1, 11, none⟩ (.int .i64 m.call.f0)).setCell ⟨w.heap.size + 1 + 1, 12, none⟩ (.int .i64 m.call.f1)).setCell ⟨w.heap.size + 1 + 1, 13, none⟩ (.int .i64 m.op.kind)).setCell ⟨w.heap.size + 1 + 1, 14, none⟩ (.string m.op.name)).setCell ⟨w.heap.size + 1 + 1, 15, none⟩ (.int .i64 m.op.a)).setCell ⟨w.heap.size + 1 + 1, 16, none⟩ (.int .i64 m.op.b) := ⟨_, rfl⟩
  have HWF := Aside0.mk hwf
  have HX : Aside0 (wf.heap[w.heap.size + 1 + 1]? = some (.cells (MVc (mAsk 1 m.call m.op) none 0) 33 (0, 0)) ∧ wf.heap[w.heap.size + 1]? = some (.cells (MVc zMsg none 0) 33 (0, 0)) ∧ Below w.heap.size w wf) := ⟨by
    rw [hwf]
    exact ⟨(blk_set (blk_set (blk_set (blk_set (blk_set (blk_set HB.out.2.2.1 11 _) 12 _) 13 _) 14 _) 15 _) 16 _).trans rfl, (blk_far (blk_far (blk_far (blk_far (blk_far (blk_far HB.out.2.1 BNE.out.2.2 11 _) BNE.out.2.2 12 _) BNE.out.2.2 13 _) BNE.out.2.2 14 _) BNE.out.2.2 15 _) BNE.out.2.2 16 _), (Below.setCell (Below.setCell (Below.setCell (Below.setCell (Below.setCell (Below.setCell HB.out.2.2.2 BGE.out _) BGE.out _) BGE.out _) BGE.out _) BGE.out _) BGE.out _)⟩⟩
  clear hwf
  go_enter Try.func45, Try.ntmps45
  go_upto_region 2 with (rw [← HW0.out]; refine wpList_store_row rfl 33 (.tmp 3) (.tmp 6) rfl (w.heap.size + 1 + 1) (MVc { zMsg with kind := 1 } none 0) (by rfl) (by rfl) 33 _ H0.out.2.2.1 inf33 rfl (mv_one _ _ _) ?_)
  rw [← HWA.out]
  simp only [Act.put, List.getElem_toArray, List.getElem_cons_succ, List.getElem_cons_zero, List.setIfInBounds_toArray, List.set_cons_succ, List.set_cons_zero]
  go_wp2_with ((with_reducible refine gate_dst (N := 17) rfl ?_); rw [← HWF.out]; refine wpList_load_row rfl 33 (.tmp 3) rfl (w.heap.size + 1 + 1) (by rfl) 33 (MVc (mAsk 1 m.call m.op) none 0) (0, 0) _ HX.out.1 Try.underlying33 rfl inf33 ?_; refine wpList_store_row rfl 33 (.tmp 2) (.tmp 17) rfl (w.heap.size + 1) (MVc (mAsk 1 m.call m.op) none 0) (by rfl) (by rfl) 33 _ HX.out.2.1 inf33 rfl (mv_one _ _ _) ?_)
  (try simp only [Exit.inBlock, Exit.then])
  refine bodyPost_ret (v := .agg (MVc (mAsk 1 m.call m.op) none 0)) ?_ rfl ?_
  · exact results_cell_row (fn := Try.f45) (p := 2) (cs := (MVc (mAsk 1 m.call m.op) none 0)) rfl _ _ (w.heap.size + 1) 33 (0, 0) _ (by rfl) (setRow_blk HX.out.2.1 _) hu33 rfl inf33
  exact ⟨rfl, below_setRow HX.out.2.2 (by omega) _⟩
set_option maxHeartbeats 8000000 in
set_option maxRecDepth 100000 in
theorem shape2a_calls (m : Msg) (hk : m.kind = 2) (A : Option Addr) (c : Nat) (w : World) (h0 : (m.err == 0) = true) :
    Calls Try.prog 45 #[.agg (MVc m A c)] w fun e w' => e = .returned (.agg (MVc (mTold 2 m.call m.name m.err (capOf m)) none 0)) ∧ Below w.heap.size w w' := by
  have hu33 := Try.underlying33
  have hu23 := Try.underlying23
  have hu25 := Try.underlying25
  have hu27 := Try.underlying27
  have hu29 := Try.underlying29
  obtain ⟨w0, HW0, wa, HWA, BNE, BGE, HB, H0⟩ := shape_rows w (MVc m A c) (MVc { zMsg with kind := 2 } none 0)
  rw [mv_zero] at HW0
  have ka0 : wa.cell? ⟨w.heap.size, 0, none⟩ = some (.int .i64 2) := by rw [blk_cell HB.out.1 0]; show some (Value.int .i64 m.kind) = _; rw [hk]
  have kb0 : ((w.alloc (.cells (MVc m A c) 33 (0, 0))).alloc (.cells (MVc zMsg none 0) 33 (0, 0))).cell? ⟨w.heap.size, 0, none⟩ = some (.int .i64 2) := by rw [blk_cell (two_blocks w _ _).1 0]; show some (Value.int .i64 m.kind) = _; rw [hk]
  rw [mv_zero] at kb0
  clear hk
  have ka1 : wa.cell? ⟨w.heap.size, 1, none⟩ = some (.string m.name) := (blk_cell HB.out.1 1).trans rfl
  have ka2 : wa.cell? ⟨w.heap.size, 2, none⟩ = some (.int .i64 m.cap) := (blk_cell HB.out.1 2).trans rfl
  have ka3 : wa.cell? ⟨w.heap.size, 3, none⟩ = some (.int .i64 m.recaps) := (blk_cell HB.out.1 3).trans rfl
  have ka11 : wa.cell? ⟨w.heap.size, 11, none⟩ = some (.int .i64 m.call.f0) := (blk_cell HB.out.1 11).trans rfl
  have ka12 : wa.cell? ⟨w.heap.size, 12, none⟩ = some (.int .i64 m.call.f1) := (blk_cell HB.out.1 12).trans rfl
  have ka17 : wa.cell? ⟨w.heap.size, 17, none⟩ = some (.int .i64 m.err) := (blk_cell HB.out.1 17).trans rfl
  have kc11 : wa.cell? ⟨w.heap.size + 1 + 1, 11, none⟩ = some (.int .i64 0) := (blk_cell HB.out.2.2.1 11).trans rfl
  have kf11 := blk_frozen HB.out.2.2.1 11
  have kc12 : wa.cell? ⟨w.heap.size + 1 + 1, 12, none⟩ = some (.int .i64 0) := (blk_cell HB.out.2.2.1 12).trans rfl
  have kf12 := blk_frozen HB.out.2.2.1 12
  have kc1 : wa.cell? ⟨w.heap.size + 1 + 1, 1, none⟩ = some (.string ⟨#[]⟩) := (blk_cell HB.out.2.2.1 1).trans rfl
  have kf1 := blk_frozen HB.out.2.2.1 1
  have kc17 : wa.cell? ⟨w.heap.size + 1 + 1, 17, none⟩ = some (.int .i64 0) := (blk_cell HB.out.2.2.1 17).trans rfl
  have kf17 := blk_frozen HB.out.2.2.1 17
  have kc2 : wa.cell? ⟨w.heap.size + 1 + 1, 2, none⟩ = some (.int .i64 0) := (blk_cell HB.out.2.2.1 2).trans rfl
  have kf2 := blk_frozen HB.out.2.2.1 2
  have kc3 : wa.cell? ⟨w.heap.size + 1 + 1, 3, none⟩ = some (.int .i64 0) := (blk_cell HB.out.2.2.1 3).trans rfl
  have kf3 := blk_frozen HB.out.2.2.1 3
  obtain ⟨wf, hwf⟩ : ∃ wf, wf = ((((((wa).setCell ⟨w.heap.size + 1 + 1, 11, none⟩ (.int .i64 m.call.f0)).setCell ⟨w.heap.size + 1 + 1, 12, none⟩ (.int .i64 m.call.f1)).setCell ⟨w.heap.size + 1 + 1, 1, none⟩ (.string m.name)).setCell ⟨w.heap.size + 1 + 1, 17, none⟩ (.int .i64 m.err)).setCell ⟨w.heap.size + 1 + 1, 2, none⟩ (.int .i64 m.cap)).setCell ⟨w.heap.size + 1 + 1, 3, none⟩ (.int .i64 m.recaps) := ⟨_, rfl⟩
  have HWF := Aside0.mk hwf
  have HX : Aside0 (wf.heap[w.heap.size + 1 + 1]? = some (.cells (MVc (mTold 2 m.call m.name m.err (capOf m)) none 0) 33 (0, 0)) ∧ wf.heap[w.heap.size + 1]? = some (.cells (MVc zMsg none 0) 33 (0, 0)) ∧ Below w.heap.size w wf) := ⟨by
    rw [hwf]
    exact ⟨(blk_set (blk_set (blk_set (blk_set (blk_set (blk_set HB.out.2.2.1 11 _) 12 _) 1 _) 17 _) 2 _) 3 _).trans rfl, (blk_far (blk_far (blk_far (blk_far (blk_far (blk_far HB.out.2.1 BNE.out.2.2 11 _) BNE.out.2.2 12 _) BNE.out.2.2 1 _) BNE.out.2.2 17 _) BNE.out.2.2 2 _) BNE.out.2.2 3 _), (Below.setCell (Below.setCell (Below.setCell (Below.setCell (Below.setCell (Below.setCell HB.out.2.2.2 BGE.out _) BGE.out _) BGE.out _) BGE.out _) BGE.out _) BGE.out _)⟩⟩
  clear hwf
  go_enter Try.func45, Try.ntmps45
  go_upto_region 2 with (rw [← HW0.out]; refine wpList_store_row rfl 33 (.tmp 3) (.tmp 6) rfl (w.heap.size + 1 + 1) (MVc { zMsg with kind := 2 } none 0) (by rfl) (by rfl) 33 _ H0.out.2.2.1 inf33 rfl (mv_one _ _ _) ?_)
  rw [← HWA.out]
  simp only [Act.put, List.getElem_toArray, List.getElem_cons_succ, List.getElem_cons_zero, List.setIfInBounds_toArray, List.set_cons_succ, List.set_cons_zero]
  go_wp2_with ((with_reducible refine gate_dst (N := 49) rfl ?_); rw [← HWF.out]; refine wpList_load_row rfl 33 (.tmp 3) rfl (w.heap.size + 1 + 1) (by rfl) 33 (MVc (mTold 2 m.call m.name m.err (capOf m)) none 0) (0, 0) _ HX.out.1 Try.underlying33 rfl inf33 ?_; refine wpList_store_row rfl 33 (.tmp 2) (.tmp 49) rfl (w.heap.size + 1) (MVc (mTold 2 m.call m.name m.err (capOf m)) none 0) (by rfl) (by rfl) 33 _ HX.out.2.1 inf33 rfl (mv_one _ _ _) ?_)
  (try simp only [Exit.inBlock, Exit.then])
  refine bodyPost_ret (v := .agg (MVc (mTold 2 m.call m.name m.err (capOf m)) none 0)) ?_ rfl ?_
  · exact results_cell_row (fn := Try.f45) (p := 2) (cs := (MVc (mTold 2 m.call m.name m.err (capOf m)) none 0)) rfl _ _ (w.heap.size + 1) 33 (0, 0) _ (by rfl) (setRow_blk HX.out.2.1 _) hu33 rfl inf33
  exact ⟨rfl, below_setRow HX.out.2.2 (by omega) _⟩
set_option maxHeartbeats 8000000 in
set_option maxRecDepth 100000 in
theorem shape2b_calls (m : Msg) (hk : m.kind = 2) (A : Option Addr) (c : Nat) (w : World) (h0 : (m.err == 0) = false) (h1 : (m.err == 101) = true) :
    Calls Try.prog 45 #[.agg (MVc m A c)] w fun e w' => e = .returned (.agg (MVc (mTold 2 m.call m.name m.err (capOf m)) none 0)) ∧ Below w.heap.size w w' := by
  have hu33 := Try.underlying33
  have hu23 := Try.underlying23
  have hu25 := Try.underlying25
  have hu27 := Try.underlying27
  have hu29 := Try.underlying29
  obtain ⟨w0, HW0, wa, HWA, BNE, BGE, HB, H0⟩ := shape_rows w (MVc m A c) (MVc { zMsg with kind := 2 } none 0)
  rw [mv_zero] at HW0
  have ka0 : wa.cell? ⟨w.heap.size, 0, none⟩ = some (.int .i64 2) := by rw [blk_cell HB.out.1 0]; show some (Value.int .i64 m.kind) = _; rw [hk]
  have kb0 : ((w.alloc (.cells (MVc m A c) 33 (0, 0))).alloc (.cells (MVc zMsg none 0) 33 (0, 0))).cell? ⟨w.heap.size, 0, none⟩ = some (.int .i64 2) := by rw [blk_cell (two_blocks w _ _).1 0]; show some (Value.int .i64 m.kind) = _; rw [hk]
  rw [mv_zero] at kb0
  clear hk
  have ka1 : wa.cell? ⟨w.heap.size, 1, none⟩ = some (.string m.name) := (blk_cell HB.out.1 1).trans rfl
  have ka2 : wa.cell? ⟨w.heap.size, 2, none⟩ = some (.int .i64 m.cap) := (blk_cell HB.out.1 2).trans rfl
  have ka3 : wa.cell? ⟨w.heap.size, 3, none⟩ = some (.int .i64 m.recaps) := (blk_cell HB.out.1 3).trans rfl
  have ka11 : wa.cell? ⟨w.heap.size, 11, none⟩ = some (.int .i64 m.call.f0) := (blk_cell HB.out.1 11).trans rfl
  have ka12 : wa.cell? ⟨w.heap.size, 12, none⟩ = some (.int .i64 m.call.f1) := (blk_cell HB.out.1 12).trans rfl
  have ka17 : wa.cell? ⟨w.heap.size, 17, none⟩ = some (.int .i64 m.err) := (blk_cell HB.out.1 17).trans rfl
  have kc11 : wa.cell? ⟨w.heap.size + 1 + 1, 11, none⟩ = some (.int .i64 0) := (blk_cell HB.out.2.2.1 11).trans rfl
  have kf11 := blk_frozen HB.out.2.2.1 11
  have kc12 : wa.cell? ⟨w.heap.size + 1 + 1, 12, none⟩ = some (.int .i64 0) := (blk_cell HB.out.2.2.1 12).trans rfl
  have kf12 := blk_frozen HB.out.2.2.1 12
  have kc1 : wa.cell? ⟨w.heap.size + 1 + 1, 1, none⟩ = some (.string ⟨#[]⟩) := (blk_cell HB.out.2.2.1 1).trans rfl
  have kf1 := blk_frozen HB.out.2.2.1 1
  have kc17 : wa.cell? ⟨w.heap.size + 1 + 1, 17, none⟩ = some (.int .i64 0) := (blk_cell HB.out.2.2.1 17).trans rfl
  have kf17 := blk_frozen HB.out.2.2.1 17
  have kc2 : wa.cell? ⟨w.heap.size + 1 + 1, 2, none⟩ = some (.int .i64 0) := (blk_cell HB.out.2.2.1 2).trans rfl
  have kf2 := blk_frozen HB.out.2.2.1 2
  have kc3 : wa.cell? ⟨w.heap.size + 1 + 1, 3, none⟩ = some (.int .i64 0) := (blk_cell HB.out.2.2.1 3).trans rfl
  have kf3 := blk_frozen HB.out.2.2.1 3
  obtain ⟨wf, hwf⟩ : ∃ wf, wf = ((((((wa).setCell ⟨w.heap.size + 1 + 1, 11, none⟩ (.int .i64 m.call.f0)).setCell ⟨w.heap.size + 1 + 1, 12, none⟩ (.int .i64 m.call.f1)).setCell ⟨w.heap.size + 1 + 1, 1, none⟩ (.string m.name)).setCell ⟨w.heap.size + 1 + 1, 17, none⟩ (.int .i64 m.err)).setCell ⟨w.heap.size + 1 + 1, 2, none⟩ (.int .i64 m.cap)).setCell ⟨w.heap.size + 1 + 1, 3, none⟩ (.int .i64 m.recaps) := ⟨_, rfl⟩
  have HWF := Aside0.mk hwf
  have HX : Aside0 (wf.heap[w.heap.size + 1 + 1]? = some (.cells (MVc (mTold 2 m.call m.name m.err (capOf m)) none 0) 33 (0, 0)) ∧ wf.heap[w.heap.size + 1]? = some (.cells (MVc zMsg none 0) 33 (0, 0)) ∧ Below w.heap.size w wf) := ⟨by
    rw [hwf]
    exact ⟨(blk_set (blk_set (blk_set (blk_set (blk_set (blk_set HB.out.2.2.1 11 _) 12 _) 1 _) 17 _) 2 _) 3 _).trans rfl, (blk_far (blk_far (blk_far (blk_far (blk_far (blk_far HB.out.2.1 BNE.out.2.2 11 _) BNE.out.2.2 12 _) BNE.out.2.2 1 _) BNE.out.2.2 17 _) BNE.out.2.2 2 _) BNE.out.2.2 3 _), (Below.setCell (Below.setCell (Below.setCell (Below.setCell (Below.setCell (Below.setCell HB.out.2.2.2 BGE.out _) BGE.out _) BGE.out _) BGE.out _) BGE.out _) BGE.out _)⟩⟩
  clear hwf
  go_enter Try.func45, Try.ntmps45
  go_upto_region 2 with (rw [← HW0.out]; refine wpList_store_row rfl 33 (.tmp 3) (.tmp 6) rfl (w.heap.size + 1 + 1) (MVc { zMsg with kind := 2 } none 0) (by rfl) (by rfl) 33 _ H0.out.2.2.1 inf33 rfl (mv_one _ _ _) ?_)
  rw [← HWA.out]
  simp only [Act.put, List.getElem_toArray, List.getElem_cons_succ, List.getElem_cons_zero, List.setIfInBounds_toArray, List.set_cons_succ, List.set_cons_zero]
  go_wp2_with ((with_reducible refine gate_dst (N := 49) rfl ?_); rw [← HWF.out]; refine wpList_load_row rfl 33 (.tmp 3) rfl (w.heap.size + 1 + 1) (by rfl) 33 (MVc (mTold 2 m.call m.name m.err (capOf m)) none 0) (0, 0) _ HX.out.1 Try.underlying33 rfl inf33 ?_; refine wpList_store_row rfl 33 (.tmp 2) (.tmp 49) rfl (w.heap.size + 1) (MVc (mTold 2 m.call m.name m.err (capOf m)) none 0) (by rfl) (by rfl) 33 _ HX.out.2.1 inf33 rfl (mv_one _ _ _) ?_)
  (try simp only [Exit.inBlock, Exit.then])
  refine bodyPost_ret (v := .agg (MVc (mTold 2 m.call m.name m.err (capOf m)) none 0)) ?_ rfl ?_
  · exact results_cell_row (fn := Try.f45) (p := 2) (cs := (MVc (mTold 2 m.call m.name m.err (capOf m)) none 0)) rfl _ _ (w.heap.size + 1) 33 (0, 0) _ (by rfl) (setRow_blk HX.out.2.1 _) hu33 rfl inf33
  exact ⟨rfl, below_setRow HX.out.2.2 (by omega) _⟩
set_option maxHeartbeats 8000000 in
set_option maxRecDepth 100000 in
theorem shape2c_calls (m : Msg) (hk : m.kind = 2) (A : Option Addr) (c : Nat) (w : World) (h0 : (m.err == 0) = false) (h1 : (m.err == 101) = false) :
    Calls Try.prog 45 #[.agg (MVc m A c)] w fun e w' => e = .returned (.agg (MVc (mTold 2 m.call m.name m.err z25) none 0)) ∧ Below w.heap.size w w' := by
  have hu33 := Try.underlying33
  have hu23 := Try.underlying23
  have hu25 := Try.underlying25
  have hu27 := Try.underlying27
  have hu29 := Try.underlying29
  obtain ⟨w0, HW0, wa, HWA, BNE, BGE, HB, H0⟩ := shape_rows w (MVc m A c) (MVc { zMsg with kind := 2 } none 0)
  rw [mv_zero] at HW0
  have ka0 : wa.cell? ⟨w.heap.size, 0, none⟩ = some (.int .i64 2) := by rw [blk_cell HB.out.1 0]; show some (Value.int .i64 m.kind) = _; rw [hk]
  have kb0 : ((w.alloc (.cells (MVc m A c) 33 (0, 0))).alloc (.cells (MVc zMsg none 0) 33 (0, 0))).cell? ⟨w.heap.size, 0, none⟩ = some (.int .i64 2) := by rw [blk_cell (two_blocks w _ _).1 0]; show some (Value.int .i64 m.kind) = _; rw [hk]
  rw [mv_zero] at kb0
  clear hk
  have ka1 : wa.cell? ⟨w.heap.size, 1, none⟩ = some (.string m.name) := (blk_cell HB.out.1 1).trans rfl
  have ka11 : wa.cell? ⟨w.heap.size, 11, none⟩ = some (.int .i64 m.call.f0) := (blk_cell HB.out.1 11).trans rfl
  have ka12 : wa.cell? ⟨w.heap.size, 12, none⟩ = some (.int .i64 m.call.f1) := (blk_cell HB.out.1 12).trans rfl
  have ka17 : wa.cell? ⟨w.heap.size, 17, none⟩ = some (.int .i64 m.err) := (blk_cell HB.out.1 17).trans rfl
  have kc11 : wa.cell? ⟨w.heap.size + 1 + 1, 11, none⟩ = some (.int .i64 0) := (blk_cell HB.out.2.2.1 11).trans rfl
  have kf11 := blk_frozen HB.out.2.2.1 11
  have kc12 : wa.cell? ⟨w.heap.size + 1 + 1, 12, none⟩ = some (.int .i64 0) := (blk_cell HB.out.2.2.1 12).trans rfl
  have kf12 := blk_frozen HB.out.2.2.1 12
  have kc1 : wa.cell? ⟨w.heap.size + 1 + 1, 1, none⟩ = some (.string ⟨#[]⟩) := (blk_cell HB.out.2.2.1 1).trans rfl
  have kf1 := blk_frozen HB.out.2.2.1 1
  have kc17 : wa.cell? ⟨w.heap.size + 1 + 1, 17, none⟩ = some (.int .i64 0) := (blk_cell HB.out.2.2.1 17).trans rfl
  have kf17 := blk_frozen HB.out.2.2.1 17
  obtain ⟨wf, hwf⟩ : ∃ wf, wf = ((((wa).setCell ⟨w.heap.size + 1 + 1, 11, none⟩ (.int .i64 m.call.f0)).setCell ⟨w.heap.size + 1 + 1, 12, none⟩ (.int .i64 m.call.f1)).setCell ⟨w.heap.size + 1 + 1, 1, none⟩ (.string m.name)).setCell ⟨w.heap.size + 1 + 1, 17, none⟩ (.int .i64 m.err) := ⟨_, rfl⟩
  have HWF := Aside0.mk hwf
  have HX : Aside0 (wf.heap[w.heap.size + 1 + 1]? = some (.cells (MVc (mTold 2 m.call m.name m.err z25) none 0) 33 (0, 0)) ∧ wf.heap[w.heap.size + 1]? = some (.cells (MVc zMsg none 0) 33 (0, 0)) ∧ Below w.heap.size w wf) := ⟨by
    rw [hwf]
    exact ⟨(blk_set (blk_set (blk_set (blk_set HB.out.2.2.1 11 _) 12 _) 1 _) 17 _).trans rfl, (blk_far (blk_far (blk_far (blk_far HB.out.2.1 BNE.out.2.2 11 _) BNE.out.2.2 12 _) BNE.out.2.2 1 _) BNE.out.2.2 17 _), (Below.setCell (Below.setCell (Below.setCell (Below.setCell HB.out.2.2.2 BGE.out _) BGE.out _) BGE.out _) BGE.out _)⟩⟩
  clear hwf
  go_enter Try.func45, Try.ntmps45
  go_upto_region 2 with (rw [← HW0.out]; refine wpList_store_row rfl 33 (.tmp 3) (.tmp 6) rfl (w.heap.size + 1 + 1) (MVc { zMsg with kind := 2 } none 0) (by rfl) (by rfl) 33 _ H0.out.2.2.1 inf33 rfl (mv_one _ _ _) ?_)
  rw [← HWA.out]
  simp only [Act.put, List.getElem_toArray, List.getElem_cons_succ, List.getElem_cons_zero, List.setIfInBounds_toArray, List.set_cons_succ, List.set_cons_zero]
  go_wp2_with ((with_reducible refine gate_dst (N := 49) rfl ?_); rw [← HWF.out]; refine wpList_load_row rfl 33 (.tmp 3) rfl (w.heap.size + 1 + 1) (by rfl) 33 (MVc (mTold 2 m.call m.name m.err z25) none 0) (0, 0) _ HX.out.1 Try.underlying33 rfl inf33 ?_; refine wpList_store_row rfl 33 (.tmp 2) (.tmp 49) rfl (w.heap.size + 1) (MVc (mTold 2 m.call m.name m.err z25) none 0) (by rfl) (by rfl) 33 _ HX.out.2.1 inf33 rfl (mv_one _ _ _) ?_)
  (try simp only [Exit.inBlock, Exit.then])
  refine bodyPost_ret (v := .agg (MVc (mTold 2 m.call m.name m.err z25) none 0)) ?_ rfl ?_
  · exact results_cell_row (fn := Try.f45) (p := 2) (cs := (MVc (mTold 2 m.call m.name m.err z25) none 0)) rfl _ _ (w.heap.size + 1) 33 (0, 0) _ (by rfl) (setRow_blk HX.out.2.1 _) hu33 rfl inf33
  exact ⟨rfl, below_setRow HX.out.2.2 (by omega) _⟩
set_option maxHeartbeats 8000000 in
set_option maxRecDepth 100000 in
theorem shape3_calls (m : Msg) (hk : m.kind = 3) (A : Option Addr) (c : Nat) (w : World) :
    Calls Try.prog 45 #[.agg (MVc m A c)] w fun e w' => e = .returned (.agg (MVc (mOf 3 m.name (capOf m) m.epoch z25 z25 0) none 0)) ∧ Below w.heap.size w w' := by
  have hu33 := Try.underlying33
  have hu23 := Try.underlying23
  have hu25 := Try.underlying25
  have hu27 := Try.underlying27
  have hu29 := Try.underlying29
  obtain ⟨w0, HW0, wa, HWA, BNE, BGE, HB, H0⟩ := shape_rows w (MVc m A c) (MVc { zMsg with kind := 3 } none 0)
  rw [mv_zero] at HW0
  have ka0 : wa.cell? ⟨w.heap.size, 0, none⟩ = some (.int .i64 3) := by rw [blk_cell HB.out.1 0]; show some (Value.int .i64 m.kind) = _; rw [hk]
  have kb0 : ((w.alloc (.cells (MVc m A c) 33 (0, 0))).alloc (.cells (MVc zMsg none 0) 33 (0, 0))).cell? ⟨w.heap.size, 0, none⟩ = some (.int .i64 3) := by rw [blk_cell (two_blocks w _ _).1 0]; show some (Value.int .i64 m.kind) = _; rw [hk]
  rw [mv_zero] at kb0
  clear hk
  have ka1 : wa.cell? ⟨w.heap.size, 1, none⟩ = some (.string m.name) := (blk_cell HB.out.1 1).trans rfl
  have ka2 : wa.cell? ⟨w.heap.size, 2, none⟩ = some (.int .i64 m.cap) := (blk_cell HB.out.1 2).trans rfl
  have ka3 : wa.cell? ⟨w.heap.size, 3, none⟩ = some (.int .i64 m.recaps) := (blk_cell HB.out.1 3).trans rfl
  have ka4 : wa.cell? ⟨w.heap.size, 4, none⟩ = some (.int .i64 m.epoch.f0) := (blk_cell HB.out.1 4).trans rfl
  have ka5 : wa.cell? ⟨w.heap.size, 5, none⟩ = some (.int .i64 m.epoch.f1) := (blk_cell HB.out.1 5).trans rfl
  have kc1 : wa.cell? ⟨w.heap.size + 1 + 1, 1, none⟩ = some (.string ⟨#[]⟩) := (blk_cell HB.out.2.2.1 1).trans rfl
  have kf1 := blk_frozen HB.out.2.2.1 1
  have kc2 : wa.cell? ⟨w.heap.size + 1 + 1, 2, none⟩ = some (.int .i64 0) := (blk_cell HB.out.2.2.1 2).trans rfl
  have kf2 := blk_frozen HB.out.2.2.1 2
  have kc3 : wa.cell? ⟨w.heap.size + 1 + 1, 3, none⟩ = some (.int .i64 0) := (blk_cell HB.out.2.2.1 3).trans rfl
  have kf3 := blk_frozen HB.out.2.2.1 3
  have kc4 : wa.cell? ⟨w.heap.size + 1 + 1, 4, none⟩ = some (.int .i64 0) := (blk_cell HB.out.2.2.1 4).trans rfl
  have kf4 := blk_frozen HB.out.2.2.1 4
  have kc5 : wa.cell? ⟨w.heap.size + 1 + 1, 5, none⟩ = some (.int .i64 0) := (blk_cell HB.out.2.2.1 5).trans rfl
  have kf5 := blk_frozen HB.out.2.2.1 5
  obtain ⟨wf, hwf⟩ : ∃ wf, wf = (((((wa).setCell ⟨w.heap.size + 1 + 1, 1, none⟩ (.string m.name)).setCell ⟨w.heap.size + 1 + 1, 2, none⟩ (.int .i64 m.cap)).setCell ⟨w.heap.size + 1 + 1, 3, none⟩ (.int .i64 m.recaps)).setCell ⟨w.heap.size + 1 + 1, 4, none⟩ (.int .i64 m.epoch.f0)).setCell ⟨w.heap.size + 1 + 1, 5, none⟩ (.int .i64 m.epoch.f1) := ⟨_, rfl⟩
  have HWF := Aside0.mk hwf
  have HX : Aside0 (wf.heap[w.heap.size + 1 + 1]? = some (.cells (MVc (mOf 3 m.name (capOf m) m.epoch z25 z25 0) none 0) 33 (0, 0)) ∧ wf.heap[w.heap.size + 1]? = some (.cells (MVc zMsg none 0) 33 (0, 0)) ∧ Below w.heap.size w wf) := ⟨by
    rw [hwf]
    exact ⟨(blk_set (blk_set (blk_set (blk_set (blk_set HB.out.2.2.1 1 _) 2 _) 3 _) 4 _) 5 _).trans rfl, (blk_far (blk_far (blk_far (blk_far (blk_far HB.out.2.1 BNE.out.2.2 1 _) BNE.out.2.2 2 _) BNE.out.2.2 3 _) BNE.out.2.2 4 _) BNE.out.2.2 5 _), (Below.setCell (Below.setCell (Below.setCell (Below.setCell (Below.setCell HB.out.2.2.2 BGE.out _) BGE.out _) BGE.out _) BGE.out _) BGE.out _)⟩⟩
  clear hwf
  go_enter Try.func45, Try.ntmps45
  go_upto_region 2 with (rw [← HW0.out]; refine wpList_store_row rfl 33 (.tmp 3) (.tmp 6) rfl (w.heap.size + 1 + 1) (MVc { zMsg with kind := 3 } none 0) (by rfl) (by rfl) 33 _ H0.out.2.2.1 inf33 rfl (mv_one _ _ _) ?_)
  rw [← HWA.out]
  simp only [Act.put, List.getElem_toArray, List.getElem_cons_succ, List.getElem_cons_zero, List.setIfInBounds_toArray, List.set_cons_succ, List.set_cons_zero]
  go_wp2_with ((with_reducible refine gate_dst (N := 103) rfl ?_); rw [← HWF.out]; refine wpList_load_row rfl 33 (.tmp 3) rfl (w.heap.size + 1 + 1) (by rfl) 33 (MVc (mOf 3 m.name (capOf m) m.epoch z25 z25 0) none 0) (0, 0) _ HX.out.1 Try.underlying33 rfl inf33 ?_; refine wpList_store_row rfl 33 (.tmp 2) (.tmp 103) rfl (w.heap.size + 1) (MVc (mOf 3 m.name (capOf m) m.epoch z25 z25 0) none 0) (by rfl) (by rfl) 33 _ HX.out.2.1 inf33 rfl (mv_one _ _ _) ?_)
  (try simp only [Exit.inBlock, Exit.then])
  refine bodyPost_ret (v := .agg (MVc (mOf 3 m.name (capOf m) m.epoch z25 z25 0) none 0)) ?_ rfl ?_
  · exact results_cell_row (fn := Try.f45) (p := 2) (cs := (MVc (mOf 3 m.name (capOf m) m.epoch z25 z25 0) none 0)) rfl _ _ (w.heap.size + 1) 33 (0, 0) _ (by rfl) (setRow_blk HX.out.2.1 _) hu33 rfl inf33
  exact ⟨rfl, below_setRow HX.out.2.2 (by omega) _⟩
set_option maxHeartbeats 8000000 in
set_option maxRecDepth 100000 in
theorem shape4_calls (m : Msg) (hk : m.kind = 4) (A : Option Addr) (c : Nat) (w : World) :
    Calls Try.prog 45 #[.agg (MVc m A c)] w fun e w' => e = .returned (.agg (MVc (mOf 4 m.name (capOf m) m.epoch z25 m.rights m.held) none 0)) ∧ Below w.heap.size w w' := by
  have hu33 := Try.underlying33
  have hu23 := Try.underlying23
  have hu25 := Try.underlying25
  have hu27 := Try.underlying27
  have hu29 := Try.underlying29
  obtain ⟨w0, HW0, wa, HWA, BNE, BGE, HB, H0⟩ := shape_rows w (MVc m A c) (MVc { zMsg with kind := 4 } none 0)
  rw [mv_zero] at HW0
  have ka0 : wa.cell? ⟨w.heap.size, 0, none⟩ = some (.int .i64 4) := by rw [blk_cell HB.out.1 0]; show some (Value.int .i64 m.kind) = _; rw [hk]
  have kb0 : ((w.alloc (.cells (MVc m A c) 33 (0, 0))).alloc (.cells (MVc zMsg none 0) 33 (0, 0))).cell? ⟨w.heap.size, 0, none⟩ = some (.int .i64 4) := by rw [blk_cell (two_blocks w _ _).1 0]; show some (Value.int .i64 m.kind) = _; rw [hk]
  rw [mv_zero] at kb0
  clear hk
  have ka1 : wa.cell? ⟨w.heap.size, 1, none⟩ = some (.string m.name) := (blk_cell HB.out.1 1).trans rfl
  have ka2 : wa.cell? ⟨w.heap.size, 2, none⟩ = some (.int .i64 m.cap) := (blk_cell HB.out.1 2).trans rfl
  have ka3 : wa.cell? ⟨w.heap.size, 3, none⟩ = some (.int .i64 m.recaps) := (blk_cell HB.out.1 3).trans rfl
  have ka4 : wa.cell? ⟨w.heap.size, 4, none⟩ = some (.int .i64 m.epoch.f0) := (blk_cell HB.out.1 4).trans rfl
  have ka5 : wa.cell? ⟨w.heap.size, 5, none⟩ = some (.int .i64 m.epoch.f1) := (blk_cell HB.out.1 5).trans rfl
  have ka8 : wa.cell? ⟨w.heap.size, 8, none⟩ = some (.int .i64 m.rights.f0) := (blk_cell HB.out.1 8).trans rfl
  have ka9 : wa.cell? ⟨w.heap.size, 9, none⟩ = some (.int .i64 m.rights.f1) := (blk_cell HB.out.1 9).trans rfl
  have ka10 : wa.cell? ⟨w.heap.size, 10, none⟩ = some (.int .i64 m.held) := (blk_cell HB.out.1 10).trans rfl
  have kc1 : wa.cell? ⟨w.heap.size + 1 + 1, 1, none⟩ = some (.string ⟨#[]⟩) := (blk_cell HB.out.2.2.1 1).trans rfl
  have kf1 := blk_frozen HB.out.2.2.1 1
  have kc2 : wa.cell? ⟨w.heap.size + 1 + 1, 2, none⟩ = some (.int .i64 0) := (blk_cell HB.out.2.2.1 2).trans rfl
  have kf2 := blk_frozen HB.out.2.2.1 2
  have kc3 : wa.cell? ⟨w.heap.size + 1 + 1, 3, none⟩ = some (.int .i64 0) := (blk_cell HB.out.2.2.1 3).trans rfl
  have kf3 := blk_frozen HB.out.2.2.1 3
  have kc4 : wa.cell? ⟨w.heap.size + 1 + 1, 4, none⟩ = some (.int .i64 0) := (blk_cell HB.out.2.2.1 4).trans rfl
  have kf4 := blk_frozen HB.out.2.2.1 4
  have kc5 : wa.cell? ⟨w.heap.size + 1 + 1, 5, none⟩ = some (.int .i64 0) := (blk_cell HB.out.2.2.1 5).trans rfl
  have kf5 := blk_frozen HB.out.2.2.1 5
  have kc8 : wa.cell? ⟨w.heap.size + 1 + 1, 8, none⟩ = some (.int .i64 0) := (blk_cell HB.out.2.2.1 8).trans rfl
  have kf8 := blk_frozen HB.out.2.2.1 8
  have kc9 : wa.cell? ⟨w.heap.size + 1 + 1, 9, none⟩ = some (.int .i64 0) := (blk_cell HB.out.2.2.1 9).trans rfl
  have kf9 := blk_frozen HB.out.2.2.1 9
  have kc10 : wa.cell? ⟨w.heap.size + 1 + 1, 10, none⟩ = some (.int .i64 0) := (blk_cell HB.out.2.2.1 10).trans rfl
  have kf10 := blk_frozen HB.out.2.2.1 10
  obtain ⟨wf, hwf⟩ : ∃ wf, wf = ((((((((wa).setCell ⟨w.heap.size + 1 + 1, 1, none⟩ (.string m.name)).setCell ⟨w.heap.size + 1 + 1, 2, none⟩ (.int .i64 m.cap)).setCell ⟨w.heap.size + 1 + 1, 3, none⟩ (.int .i64 m.recaps)).setCell ⟨w.heap.size + 1 + 1, 4, none⟩ (.int .i64 m.epoch.f0)).setCell ⟨w.heap.size + 1 + 1, 5, none⟩ (.int .i64 m.epoch.f1)).setCell ⟨w.heap.size + 1 + 1, 8, none⟩ (.int .i64 m.rights.f0)).setCell ⟨w.heap.size + 1 + 1, 9, none⟩ (.int .i64 m.rights.f1)).setCell ⟨w.heap.size + 1 + 1, 10, none⟩ (.int .i64 m.held) := ⟨_, rfl⟩
  have HWF := Aside0.mk hwf
  have HX : Aside0 (wf.heap[w.heap.size + 1 + 1]? = some (.cells (MVc (mOf 4 m.name (capOf m) m.epoch z25 m.rights m.held) none 0) 33 (0, 0)) ∧ wf.heap[w.heap.size + 1]? = some (.cells (MVc zMsg none 0) 33 (0, 0)) ∧ Below w.heap.size w wf) := ⟨by
    rw [hwf]
    exact ⟨(blk_set (blk_set (blk_set (blk_set (blk_set (blk_set (blk_set (blk_set HB.out.2.2.1 1 _) 2 _) 3 _) 4 _) 5 _) 8 _) 9 _) 10 _).trans rfl, (blk_far (blk_far (blk_far (blk_far (blk_far (blk_far (blk_far (blk_far HB.out.2.1 BNE.out.2.2 1 _) BNE.out.2.2 2 _) BNE.out.2.2 3 _) BNE.out.2.2 4 _) BNE.out.2.2 5 _) BNE.out.2.2 8 _) BNE.out.2.2 9 _) BNE.out.2.2 10 _), (Below.setCell (Below.setCell (Below.setCell (Below.setCell (Below.setCell (Below.setCell (Below.setCell (Below.setCell HB.out.2.2.2 BGE.out _) BGE.out _) BGE.out _) BGE.out _) BGE.out _) BGE.out _) BGE.out _) BGE.out _)⟩⟩
  clear hwf
  go_enter Try.func45, Try.ntmps45
  go_upto_region 2 with (rw [← HW0.out]; refine wpList_store_row rfl 33 (.tmp 3) (.tmp 6) rfl (w.heap.size + 1 + 1) (MVc { zMsg with kind := 4 } none 0) (by rfl) (by rfl) 33 _ H0.out.2.2.1 inf33 rfl (mv_one _ _ _) ?_)
  rw [← HWA.out]
  simp only [Act.put, List.getElem_toArray, List.getElem_cons_succ, List.getElem_cons_zero, List.setIfInBounds_toArray, List.set_cons_succ, List.set_cons_zero]
  go_wp2_with ((with_reducible refine gate_dst (N := 103) rfl ?_); rw [← HWF.out]; refine wpList_load_row rfl 33 (.tmp 3) rfl (w.heap.size + 1 + 1) (by rfl) 33 (MVc (mOf 4 m.name (capOf m) m.epoch z25 m.rights m.held) none 0) (0, 0) _ HX.out.1 Try.underlying33 rfl inf33 ?_; refine wpList_store_row rfl 33 (.tmp 2) (.tmp 103) rfl (w.heap.size + 1) (MVc (mOf 4 m.name (capOf m) m.epoch z25 m.rights m.held) none 0) (by rfl) (by rfl) 33 _ HX.out.2.1 inf33 rfl (mv_one _ _ _) ?_)
  (try simp only [Exit.inBlock, Exit.then])
  refine bodyPost_ret (v := .agg (MVc (mOf 4 m.name (capOf m) m.epoch z25 m.rights m.held) none 0)) ?_ rfl ?_
  · exact results_cell_row (fn := Try.f45) (p := 2) (cs := (MVc (mOf 4 m.name (capOf m) m.epoch z25 m.rights m.held) none 0)) rfl _ _ (w.heap.size + 1) 33 (0, 0) _ (by rfl) (setRow_blk HX.out.2.1 _) hu33 rfl inf33
  exact ⟨rfl, below_setRow HX.out.2.2 (by omega) _⟩
set_option maxHeartbeats 8000000 in
set_option maxRecDepth 100000 in
theorem shape5_calls (m : Msg) (hk : m.kind = 5) (A : Option Addr) (c : Nat) (w : World) :
    Calls Try.prog 45 #[.agg (MVc m A c)] w fun e w' => e = .returned (.agg (MVc (mOf 5 m.name (capOf m) m.epoch z25 m.rights 0) none 0)) ∧ Below w.heap.size w w' := by
  have hu33 := Try.underlying33
  have hu23 := Try.underlying23
  have hu25 := Try.underlying25
  have hu27 := Try.underlying27
  have hu29 := Try.underlying29
  obtain ⟨w0, HW0, wa, HWA, BNE, BGE, HB, H0⟩ := shape_rows w (MVc m A c) (MVc { zMsg with kind := 5 } none 0)
  rw [mv_zero] at HW0
  have ka0 : wa.cell? ⟨w.heap.size, 0, none⟩ = some (.int .i64 5) := by rw [blk_cell HB.out.1 0]; show some (Value.int .i64 m.kind) = _; rw [hk]
  have kb0 : ((w.alloc (.cells (MVc m A c) 33 (0, 0))).alloc (.cells (MVc zMsg none 0) 33 (0, 0))).cell? ⟨w.heap.size, 0, none⟩ = some (.int .i64 5) := by rw [blk_cell (two_blocks w _ _).1 0]; show some (Value.int .i64 m.kind) = _; rw [hk]
  rw [mv_zero] at kb0
  clear hk
  have ka1 : wa.cell? ⟨w.heap.size, 1, none⟩ = some (.string m.name) := (blk_cell HB.out.1 1).trans rfl
  have ka2 : wa.cell? ⟨w.heap.size, 2, none⟩ = some (.int .i64 m.cap) := (blk_cell HB.out.1 2).trans rfl
  have ka3 : wa.cell? ⟨w.heap.size, 3, none⟩ = some (.int .i64 m.recaps) := (blk_cell HB.out.1 3).trans rfl
  have ka4 : wa.cell? ⟨w.heap.size, 4, none⟩ = some (.int .i64 m.epoch.f0) := (blk_cell HB.out.1 4).trans rfl
  have ka5 : wa.cell? ⟨w.heap.size, 5, none⟩ = some (.int .i64 m.epoch.f1) := (blk_cell HB.out.1 5).trans rfl
  have ka8 : wa.cell? ⟨w.heap.size, 8, none⟩ = some (.int .i64 m.rights.f0) := (blk_cell HB.out.1 8).trans rfl
  have ka9 : wa.cell? ⟨w.heap.size, 9, none⟩ = some (.int .i64 m.rights.f1) := (blk_cell HB.out.1 9).trans rfl
  have kc1 : wa.cell? ⟨w.heap.size + 1 + 1, 1, none⟩ = some (.string ⟨#[]⟩) := (blk_cell HB.out.2.2.1 1).trans rfl
  have kf1 := blk_frozen HB.out.2.2.1 1
  have kc2 : wa.cell? ⟨w.heap.size + 1 + 1, 2, none⟩ = some (.int .i64 0) := (blk_cell HB.out.2.2.1 2).trans rfl
  have kf2 := blk_frozen HB.out.2.2.1 2
  have kc3 : wa.cell? ⟨w.heap.size + 1 + 1, 3, none⟩ = some (.int .i64 0) := (blk_cell HB.out.2.2.1 3).trans rfl
  have kf3 := blk_frozen HB.out.2.2.1 3
  have kc4 : wa.cell? ⟨w.heap.size + 1 + 1, 4, none⟩ = some (.int .i64 0) := (blk_cell HB.out.2.2.1 4).trans rfl
  have kf4 := blk_frozen HB.out.2.2.1 4
  have kc5 : wa.cell? ⟨w.heap.size + 1 + 1, 5, none⟩ = some (.int .i64 0) := (blk_cell HB.out.2.2.1 5).trans rfl
  have kf5 := blk_frozen HB.out.2.2.1 5
  have kc8 : wa.cell? ⟨w.heap.size + 1 + 1, 8, none⟩ = some (.int .i64 0) := (blk_cell HB.out.2.2.1 8).trans rfl
  have kf8 := blk_frozen HB.out.2.2.1 8
  have kc9 : wa.cell? ⟨w.heap.size + 1 + 1, 9, none⟩ = some (.int .i64 0) := (blk_cell HB.out.2.2.1 9).trans rfl
  have kf9 := blk_frozen HB.out.2.2.1 9
  obtain ⟨wf, hwf⟩ : ∃ wf, wf = (((((((wa).setCell ⟨w.heap.size + 1 + 1, 1, none⟩ (.string m.name)).setCell ⟨w.heap.size + 1 + 1, 2, none⟩ (.int .i64 m.cap)).setCell ⟨w.heap.size + 1 + 1, 3, none⟩ (.int .i64 m.recaps)).setCell ⟨w.heap.size + 1 + 1, 4, none⟩ (.int .i64 m.epoch.f0)).setCell ⟨w.heap.size + 1 + 1, 5, none⟩ (.int .i64 m.epoch.f1)).setCell ⟨w.heap.size + 1 + 1, 8, none⟩ (.int .i64 m.rights.f0)).setCell ⟨w.heap.size + 1 + 1, 9, none⟩ (.int .i64 m.rights.f1) := ⟨_, rfl⟩
  have HWF := Aside0.mk hwf
  have HX : Aside0 (wf.heap[w.heap.size + 1 + 1]? = some (.cells (MVc (mOf 5 m.name (capOf m) m.epoch z25 m.rights 0) none 0) 33 (0, 0)) ∧ wf.heap[w.heap.size + 1]? = some (.cells (MVc zMsg none 0) 33 (0, 0)) ∧ Below w.heap.size w wf) := ⟨by
    rw [hwf]
    exact ⟨(blk_set (blk_set (blk_set (blk_set (blk_set (blk_set (blk_set HB.out.2.2.1 1 _) 2 _) 3 _) 4 _) 5 _) 8 _) 9 _).trans rfl, (blk_far (blk_far (blk_far (blk_far (blk_far (blk_far (blk_far HB.out.2.1 BNE.out.2.2 1 _) BNE.out.2.2 2 _) BNE.out.2.2 3 _) BNE.out.2.2 4 _) BNE.out.2.2 5 _) BNE.out.2.2 8 _) BNE.out.2.2 9 _), (Below.setCell (Below.setCell (Below.setCell (Below.setCell (Below.setCell (Below.setCell (Below.setCell HB.out.2.2.2 BGE.out _) BGE.out _) BGE.out _) BGE.out _) BGE.out _) BGE.out _) BGE.out _)⟩⟩
  clear hwf
  go_enter Try.func45, Try.ntmps45
  go_upto_region 2 with (rw [← HW0.out]; refine wpList_store_row rfl 33 (.tmp 3) (.tmp 6) rfl (w.heap.size + 1 + 1) (MVc { zMsg with kind := 5 } none 0) (by rfl) (by rfl) 33 _ H0.out.2.2.1 inf33 rfl (mv_one _ _ _) ?_)
  rw [← HWA.out]
  simp only [Act.put, List.getElem_toArray, List.getElem_cons_succ, List.getElem_cons_zero, List.setIfInBounds_toArray, List.set_cons_succ, List.set_cons_zero]
  go_wp2_with ((with_reducible refine gate_dst (N := 103) rfl ?_); rw [← HWF.out]; refine wpList_load_row rfl 33 (.tmp 3) rfl (w.heap.size + 1 + 1) (by rfl) 33 (MVc (mOf 5 m.name (capOf m) m.epoch z25 m.rights 0) none 0) (0, 0) _ HX.out.1 Try.underlying33 rfl inf33 ?_; refine wpList_store_row rfl 33 (.tmp 2) (.tmp 103) rfl (w.heap.size + 1) (MVc (mOf 5 m.name (capOf m) m.epoch z25 m.rights 0) none 0) (by rfl) (by rfl) 33 _ HX.out.2.1 inf33 rfl (mv_one _ _ _) ?_)
  (try simp only [Exit.inBlock, Exit.then])
  refine bodyPost_ret (v := .agg (MVc (mOf 5 m.name (capOf m) m.epoch z25 m.rights 0) none 0)) ?_ rfl ?_
  · exact results_cell_row (fn := Try.f45) (p := 2) (cs := (MVc (mOf 5 m.name (capOf m) m.epoch z25 m.rights 0) none 0)) rfl _ _ (w.heap.size + 1) 33 (0, 0) _ (by rfl) (setRow_blk HX.out.2.1 _) hu33 rfl inf33
  exact ⟨rfl, below_setRow HX.out.2.2 (by omega) _⟩
set_option maxHeartbeats 8000000 in
set_option maxRecDepth 100000 in
theorem shape6_calls (m : Msg) (hk : m.kind = 6) (A : Option Addr) (c : Nat) (w : World) :
    Calls Try.prog 45 #[.agg (MVc m A c)] w fun e w' => e = .returned (.agg (MVc (mOf 6 m.name (capOf m) m.epoch z25 m.rights 0) none 0)) ∧ Below w.heap.size w w' := by
  have hu33 := Try.underlying33
  have hu23 := Try.underlying23
  have hu25 := Try.underlying25
  have hu27 := Try.underlying27
  have hu29 := Try.underlying29
  obtain ⟨w0, HW0, wa, HWA, BNE, BGE, HB, H0⟩ := shape_rows w (MVc m A c) (MVc { zMsg with kind := 6 } none 0)
  rw [mv_zero] at HW0
  have ka0 : wa.cell? ⟨w.heap.size, 0, none⟩ = some (.int .i64 6) := by rw [blk_cell HB.out.1 0]; show some (Value.int .i64 m.kind) = _; rw [hk]
  have kb0 : ((w.alloc (.cells (MVc m A c) 33 (0, 0))).alloc (.cells (MVc zMsg none 0) 33 (0, 0))).cell? ⟨w.heap.size, 0, none⟩ = some (.int .i64 6) := by rw [blk_cell (two_blocks w _ _).1 0]; show some (Value.int .i64 m.kind) = _; rw [hk]
  rw [mv_zero] at kb0
  clear hk
  have ka1 : wa.cell? ⟨w.heap.size, 1, none⟩ = some (.string m.name) := (blk_cell HB.out.1 1).trans rfl
  have ka2 : wa.cell? ⟨w.heap.size, 2, none⟩ = some (.int .i64 m.cap) := (blk_cell HB.out.1 2).trans rfl
  have ka3 : wa.cell? ⟨w.heap.size, 3, none⟩ = some (.int .i64 m.recaps) := (blk_cell HB.out.1 3).trans rfl
  have ka4 : wa.cell? ⟨w.heap.size, 4, none⟩ = some (.int .i64 m.epoch.f0) := (blk_cell HB.out.1 4).trans rfl
  have ka5 : wa.cell? ⟨w.heap.size, 5, none⟩ = some (.int .i64 m.epoch.f1) := (blk_cell HB.out.1 5).trans rfl
  have ka8 : wa.cell? ⟨w.heap.size, 8, none⟩ = some (.int .i64 m.rights.f0) := (blk_cell HB.out.1 8).trans rfl
  have ka9 : wa.cell? ⟨w.heap.size, 9, none⟩ = some (.int .i64 m.rights.f1) := (blk_cell HB.out.1 9).trans rfl
  have kc1 : wa.cell? ⟨w.heap.size + 1 + 1, 1, none⟩ = some (.string ⟨#[]⟩) := (blk_cell HB.out.2.2.1 1).trans rfl
  have kf1 := blk_frozen HB.out.2.2.1 1
  have kc2 : wa.cell? ⟨w.heap.size + 1 + 1, 2, none⟩ = some (.int .i64 0) := (blk_cell HB.out.2.2.1 2).trans rfl
  have kf2 := blk_frozen HB.out.2.2.1 2
  have kc3 : wa.cell? ⟨w.heap.size + 1 + 1, 3, none⟩ = some (.int .i64 0) := (blk_cell HB.out.2.2.1 3).trans rfl
  have kf3 := blk_frozen HB.out.2.2.1 3
  have kc4 : wa.cell? ⟨w.heap.size + 1 + 1, 4, none⟩ = some (.int .i64 0) := (blk_cell HB.out.2.2.1 4).trans rfl
  have kf4 := blk_frozen HB.out.2.2.1 4
  have kc5 : wa.cell? ⟨w.heap.size + 1 + 1, 5, none⟩ = some (.int .i64 0) := (blk_cell HB.out.2.2.1 5).trans rfl
  have kf5 := blk_frozen HB.out.2.2.1 5
  have kc8 : wa.cell? ⟨w.heap.size + 1 + 1, 8, none⟩ = some (.int .i64 0) := (blk_cell HB.out.2.2.1 8).trans rfl
  have kf8 := blk_frozen HB.out.2.2.1 8
  have kc9 : wa.cell? ⟨w.heap.size + 1 + 1, 9, none⟩ = some (.int .i64 0) := (blk_cell HB.out.2.2.1 9).trans rfl
  have kf9 := blk_frozen HB.out.2.2.1 9
  obtain ⟨wf, hwf⟩ : ∃ wf, wf = (((((((wa).setCell ⟨w.heap.size + 1 + 1, 1, none⟩ (.string m.name)).setCell ⟨w.heap.size + 1 + 1, 2, none⟩ (.int .i64 m.cap)).setCell ⟨w.heap.size + 1 + 1, 3, none⟩ (.int .i64 m.recaps)).setCell ⟨w.heap.size + 1 + 1, 4, none⟩ (.int .i64 m.epoch.f0)).setCell ⟨w.heap.size + 1 + 1, 5, none⟩ (.int .i64 m.epoch.f1)).setCell ⟨w.heap.size + 1 + 1, 8, none⟩ (.int .i64 m.rights.f0)).setCell ⟨w.heap.size + 1 + 1, 9, none⟩ (.int .i64 m.rights.f1) := ⟨_, rfl⟩
  have HWF := Aside0.mk hwf
  have HX : Aside0 (wf.heap[w.heap.size + 1 + 1]? = some (.cells (MVc (mOf 6 m.name (capOf m) m.epoch z25 m.rights 0) none 0) 33 (0, 0)) ∧ wf.heap[w.heap.size + 1]? = some (.cells (MVc zMsg none 0) 33 (0, 0)) ∧ Below w.heap.size w wf) := ⟨by
    rw [hwf]
    exact ⟨(blk_set (blk_set (blk_set (blk_set (blk_set (blk_set (blk_set HB.out.2.2.1 1 _) 2 _) 3 _) 4 _) 5 _) 8 _) 9 _).trans rfl, (blk_far (blk_far (blk_far (blk_far (blk_far (blk_far (blk_far HB.out.2.1 BNE.out.2.2 1 _) BNE.out.2.2 2 _) BNE.out.2.2 3 _) BNE.out.2.2 4 _) BNE.out.2.2 5 _) BNE.out.2.2 8 _) BNE.out.2.2 9 _), (Below.setCell (Below.setCell (Below.setCell (Below.setCell (Below.setCell (Below.setCell (Below.setCell HB.out.2.2.2 BGE.out _) BGE.out _) BGE.out _) BGE.out _) BGE.out _) BGE.out _) BGE.out _)⟩⟩
  clear hwf
  go_enter Try.func45, Try.ntmps45
  go_upto_region 2 with (rw [← HW0.out]; refine wpList_store_row rfl 33 (.tmp 3) (.tmp 6) rfl (w.heap.size + 1 + 1) (MVc { zMsg with kind := 6 } none 0) (by rfl) (by rfl) 33 _ H0.out.2.2.1 inf33 rfl (mv_one _ _ _) ?_)
  rw [← HWA.out]
  simp only [Act.put, List.getElem_toArray, List.getElem_cons_succ, List.getElem_cons_zero, List.setIfInBounds_toArray, List.set_cons_succ, List.set_cons_zero]
  go_wp2_with ((with_reducible refine gate_dst (N := 103) rfl ?_); rw [← HWF.out]; refine wpList_load_row rfl 33 (.tmp 3) rfl (w.heap.size + 1 + 1) (by rfl) 33 (MVc (mOf 6 m.name (capOf m) m.epoch z25 m.rights 0) none 0) (0, 0) _ HX.out.1 Try.underlying33 rfl inf33 ?_; refine wpList_store_row rfl 33 (.tmp 2) (.tmp 103) rfl (w.heap.size + 1) (MVc (mOf 6 m.name (capOf m) m.epoch z25 m.rights 0) none 0) (by rfl) (by rfl) 33 _ HX.out.2.1 inf33 rfl (mv_one _ _ _) ?_)
  (try simp only [Exit.inBlock, Exit.then])
  refine bodyPost_ret (v := .agg (MVc (mOf 6 m.name (capOf m) m.epoch z25 m.rights 0) none 0)) ?_ rfl ?_
  · exact results_cell_row (fn := Try.f45) (p := 2) (cs := (MVc (mOf 6 m.name (capOf m) m.epoch z25 m.rights 0) none 0)) rfl _ _ (w.heap.size + 1) 33 (0, 0) _ (by rfl) (setRow_blk HX.out.2.1 _) hu33 rfl inf33
  exact ⟨rfl, below_setRow HX.out.2.2 (by omega) _⟩
set_option maxHeartbeats 8000000 in
set_option maxRecDepth 100000 in
theorem shape7_calls (m : Msg) (hk : m.kind = 7) (A : Option Addr) (c : Nat) (w : World) :
    Calls Try.prog 45 #[.agg (MVc m A c)] w fun e w' => e = .returned (.agg (MVc (mOf 7 m.name (capOf m) m.epoch m.over z25 0) none 0)) ∧ Below w.heap.size w w' := by
  have hu33 := Try.underlying33
  have hu23 := Try.underlying23
  have hu25 := Try.underlying25
  have hu27 := Try.underlying27
  have hu29 := Try.underlying29
  obtain ⟨w0, HW0, wa, HWA, BNE, BGE, HB, H0⟩ := shape_rows w (MVc m A c) (MVc { zMsg with kind := 7 } none 0)
  rw [mv_zero] at HW0
  have ka0 : wa.cell? ⟨w.heap.size, 0, none⟩ = some (.int .i64 7) := by rw [blk_cell HB.out.1 0]; show some (Value.int .i64 m.kind) = _; rw [hk]
  have kb0 : ((w.alloc (.cells (MVc m A c) 33 (0, 0))).alloc (.cells (MVc zMsg none 0) 33 (0, 0))).cell? ⟨w.heap.size, 0, none⟩ = some (.int .i64 7) := by rw [blk_cell (two_blocks w _ _).1 0]; show some (Value.int .i64 m.kind) = _; rw [hk]
  rw [mv_zero] at kb0
  clear hk
  have ka1 : wa.cell? ⟨w.heap.size, 1, none⟩ = some (.string m.name) := (blk_cell HB.out.1 1).trans rfl
  have ka2 : wa.cell? ⟨w.heap.size, 2, none⟩ = some (.int .i64 m.cap) := (blk_cell HB.out.1 2).trans rfl
  have ka3 : wa.cell? ⟨w.heap.size, 3, none⟩ = some (.int .i64 m.recaps) := (blk_cell HB.out.1 3).trans rfl
  have ka4 : wa.cell? ⟨w.heap.size, 4, none⟩ = some (.int .i64 m.epoch.f0) := (blk_cell HB.out.1 4).trans rfl
  have ka5 : wa.cell? ⟨w.heap.size, 5, none⟩ = some (.int .i64 m.epoch.f1) := (blk_cell HB.out.1 5).trans rfl
  have ka6 : wa.cell? ⟨w.heap.size, 6, none⟩ = some (.int .i64 m.over.f0) := (blk_cell HB.out.1 6).trans rfl
  have ka7 : wa.cell? ⟨w.heap.size, 7, none⟩ = some (.int .i64 m.over.f1) := (blk_cell HB.out.1 7).trans rfl
  have kc1 : wa.cell? ⟨w.heap.size + 1 + 1, 1, none⟩ = some (.string ⟨#[]⟩) := (blk_cell HB.out.2.2.1 1).trans rfl
  have kf1 := blk_frozen HB.out.2.2.1 1
  have kc2 : wa.cell? ⟨w.heap.size + 1 + 1, 2, none⟩ = some (.int .i64 0) := (blk_cell HB.out.2.2.1 2).trans rfl
  have kf2 := blk_frozen HB.out.2.2.1 2
  have kc3 : wa.cell? ⟨w.heap.size + 1 + 1, 3, none⟩ = some (.int .i64 0) := (blk_cell HB.out.2.2.1 3).trans rfl
  have kf3 := blk_frozen HB.out.2.2.1 3
  have kc4 : wa.cell? ⟨w.heap.size + 1 + 1, 4, none⟩ = some (.int .i64 0) := (blk_cell HB.out.2.2.1 4).trans rfl
  have kf4 := blk_frozen HB.out.2.2.1 4
  have kc5 : wa.cell? ⟨w.heap.size + 1 + 1, 5, none⟩ = some (.int .i64 0) := (blk_cell HB.out.2.2.1 5).trans rfl
  have kf5 := blk_frozen HB.out.2.2.1 5
  have kc6 : wa.cell? ⟨w.heap.size + 1 + 1, 6, none⟩ = some (.int .i64 0) := (blk_cell HB.out.2.2.1 6).trans rfl
  have kf6 := blk_frozen HB.out.2.2.1 6
  have kc7 : wa.cell? ⟨w.heap.size + 1 + 1, 7, none⟩ = some (.int .i64 0) := (blk_cell HB.out.2.2.1 7).trans rfl
  have kf7 := blk_frozen HB.out.2.2.1 7
  obtain ⟨wf, hwf⟩ : ∃ wf, wf = (((((((wa).setCell ⟨w.heap.size + 1 + 1, 1, none⟩ (.string m.name)).setCell ⟨w.heap.size + 1 + 1, 2, none⟩ (.int .i64 m.cap)).setCell ⟨w.heap.size + 1 + 1, 3, none⟩ (.int .i64 m.recaps)).setCell ⟨w.heap.size + 1 + 1, 4, none⟩ (.int .i64 m.epoch.f0)).setCell ⟨w.heap.size + 1 + 1, 5, none⟩ (.int .i64 m.epoch.f1)).setCell ⟨w.heap.size + 1 + 1, 6, none⟩ (.int .i64 m.over.f0)).setCell ⟨w.heap.size + 1 + 1, 7, none⟩ (.int .i64 m.over.f1) := ⟨_, rfl⟩
  have HWF := Aside0.mk hwf
  have HX : Aside0 (wf.heap[w.heap.size + 1 + 1]? = some (.cells (MVc (mOf 7 m.name (capOf m) m.epoch m.over z25 0) none 0) 33 (0, 0)) ∧ wf.heap[w.heap.size + 1]? = some (.cells (MVc zMsg none 0) 33 (0, 0)) ∧ Below w.heap.size w wf) := ⟨by
    rw [hwf]
    exact ⟨(blk_set (blk_set (blk_set (blk_set (blk_set (blk_set (blk_set HB.out.2.2.1 1 _) 2 _) 3 _) 4 _) 5 _) 6 _) 7 _).trans rfl, (blk_far (blk_far (blk_far (blk_far (blk_far (blk_far (blk_far HB.out.2.1 BNE.out.2.2 1 _) BNE.out.2.2 2 _) BNE.out.2.2 3 _) BNE.out.2.2 4 _) BNE.out.2.2 5 _) BNE.out.2.2 6 _) BNE.out.2.2 7 _), (Below.setCell (Below.setCell (Below.setCell (Below.setCell (Below.setCell (Below.setCell (Below.setCell HB.out.2.2.2 BGE.out _) BGE.out _) BGE.out _) BGE.out _) BGE.out _) BGE.out _) BGE.out _)⟩⟩
  clear hwf
  go_enter Try.func45, Try.ntmps45
  go_upto_region 2 with (rw [← HW0.out]; refine wpList_store_row rfl 33 (.tmp 3) (.tmp 6) rfl (w.heap.size + 1 + 1) (MVc { zMsg with kind := 7 } none 0) (by rfl) (by rfl) 33 _ H0.out.2.2.1 inf33 rfl (mv_one _ _ _) ?_)
  rw [← HWA.out]
  simp only [Act.put, List.getElem_toArray, List.getElem_cons_succ, List.getElem_cons_zero, List.setIfInBounds_toArray, List.set_cons_succ, List.set_cons_zero]
  go_wp2_with ((with_reducible refine gate_dst (N := 103) rfl ?_); rw [← HWF.out]; refine wpList_load_row rfl 33 (.tmp 3) rfl (w.heap.size + 1 + 1) (by rfl) 33 (MVc (mOf 7 m.name (capOf m) m.epoch m.over z25 0) none 0) (0, 0) _ HX.out.1 Try.underlying33 rfl inf33 ?_; refine wpList_store_row rfl 33 (.tmp 2) (.tmp 103) rfl (w.heap.size + 1) (MVc (mOf 7 m.name (capOf m) m.epoch m.over z25 0) none 0) (by rfl) (by rfl) 33 _ HX.out.2.1 inf33 rfl (mv_one _ _ _) ?_)
  (try simp only [Exit.inBlock, Exit.then])
  refine bodyPost_ret (v := .agg (MVc (mOf 7 m.name (capOf m) m.epoch m.over z25 0) none 0)) ?_ rfl ?_
  · exact results_cell_row (fn := Try.f45) (p := 2) (cs := (MVc (mOf 7 m.name (capOf m) m.epoch m.over z25 0) none 0)) rfl _ _ (w.heap.size + 1) 33 (0, 0) _ (by rfl) (setRow_blk HX.out.2.1 _) hu33 rfl inf33
  exact ⟨rfl, below_setRow HX.out.2.2 (by omega) _⟩
set_option maxHeartbeats 8000000 in
set_option maxRecDepth 100000 in
theorem shape8_calls (m : Msg) (hk : m.kind = 8) (A : Option Addr) (c : Nat) (w : World) :
    Calls Try.prog 45 #[.agg (MVc m A c)] w fun e w' => e = .returned (.agg (MVc (mOf 8 m.name (capOf m) z25 z25 m.rights 0) none 0)) ∧ Below w.heap.size w w' := by
  have hu33 := Try.underlying33
  have hu23 := Try.underlying23
  have hu25 := Try.underlying25
  have hu27 := Try.underlying27
  have hu29 := Try.underlying29
  obtain ⟨w0, HW0, wa, HWA, BNE, BGE, HB, H0⟩ := shape_rows w (MVc m A c) (MVc { zMsg with kind := 8 } none 0)
  rw [mv_zero] at HW0
  have ka0 : wa.cell? ⟨w.heap.size, 0, none⟩ = some (.int .i64 8) := by rw [blk_cell HB.out.1 0]; show some (Value.int .i64 m.kind) = _; rw [hk]
  have kb0 : ((w.alloc (.cells (MVc m A c) 33 (0, 0))).alloc (.cells (MVc zMsg none 0) 33 (0, 0))).cell? ⟨w.heap.size, 0, none⟩ = some (.int .i64 8) := by rw [blk_cell (two_blocks w _ _).1 0]; show some (Value.int .i64 m.kind) = _; rw [hk]
  rw [mv_zero] at kb0
  clear hk
  have ka1 : wa.cell? ⟨w.heap.size, 1, none⟩ = some (.string m.name) := (blk_cell HB.out.1 1).trans rfl
  have ka2 : wa.cell? ⟨w.heap.size, 2, none⟩ = some (.int .i64 m.cap) := (blk_cell HB.out.1 2).trans rfl
  have ka3 : wa.cell? ⟨w.heap.size, 3, none⟩ = some (.int .i64 m.recaps) := (blk_cell HB.out.1 3).trans rfl
  have ka8 : wa.cell? ⟨w.heap.size, 8, none⟩ = some (.int .i64 m.rights.f0) := (blk_cell HB.out.1 8).trans rfl
  have ka9 : wa.cell? ⟨w.heap.size, 9, none⟩ = some (.int .i64 m.rights.f1) := (blk_cell HB.out.1 9).trans rfl
  have kc1 : wa.cell? ⟨w.heap.size + 1 + 1, 1, none⟩ = some (.string ⟨#[]⟩) := (blk_cell HB.out.2.2.1 1).trans rfl
  have kf1 := blk_frozen HB.out.2.2.1 1
  have kc2 : wa.cell? ⟨w.heap.size + 1 + 1, 2, none⟩ = some (.int .i64 0) := (blk_cell HB.out.2.2.1 2).trans rfl
  have kf2 := blk_frozen HB.out.2.2.1 2
  have kc3 : wa.cell? ⟨w.heap.size + 1 + 1, 3, none⟩ = some (.int .i64 0) := (blk_cell HB.out.2.2.1 3).trans rfl
  have kf3 := blk_frozen HB.out.2.2.1 3
  have kc8 : wa.cell? ⟨w.heap.size + 1 + 1, 8, none⟩ = some (.int .i64 0) := (blk_cell HB.out.2.2.1 8).trans rfl
  have kf8 := blk_frozen HB.out.2.2.1 8
  have kc9 : wa.cell? ⟨w.heap.size + 1 + 1, 9, none⟩ = some (.int .i64 0) := (blk_cell HB.out.2.2.1 9).trans rfl
  have kf9 := blk_frozen HB.out.2.2.1 9
  obtain ⟨wf, hwf⟩ : ∃ wf, wf = (((((wa).setCell ⟨w.heap.size + 1 + 1, 1, none⟩ (.string m.name)).setCell ⟨w.heap.size + 1 + 1, 2, none⟩ (.int .i64 m.cap)).setCell ⟨w.heap.size + 1 + 1, 3, none⟩ (.int .i64 m.recaps)).setCell ⟨w.heap.size + 1 + 1, 8, none⟩ (.int .i64 m.rights.f0)).setCell ⟨w.heap.size + 1 + 1, 9, none⟩ (.int .i64 m.rights.f1) := ⟨_, rfl⟩
  have HWF := Aside0.mk hwf
  have HX : Aside0 (wf.heap[w.heap.size + 1 + 1]? = some (.cells (MVc (mOf 8 m.name (capOf m) z25 z25 m.rights 0) none 0) 33 (0, 0)) ∧ wf.heap[w.heap.size + 1]? = some (.cells (MVc zMsg none 0) 33 (0, 0)) ∧ Below w.heap.size w wf) := ⟨by
    rw [hwf]
    exact ⟨(blk_set (blk_set (blk_set (blk_set (blk_set HB.out.2.2.1 1 _) 2 _) 3 _) 8 _) 9 _).trans rfl, (blk_far (blk_far (blk_far (blk_far (blk_far HB.out.2.1 BNE.out.2.2 1 _) BNE.out.2.2 2 _) BNE.out.2.2 3 _) BNE.out.2.2 8 _) BNE.out.2.2 9 _), (Below.setCell (Below.setCell (Below.setCell (Below.setCell (Below.setCell HB.out.2.2.2 BGE.out _) BGE.out _) BGE.out _) BGE.out _) BGE.out _)⟩⟩
  clear hwf
  go_enter Try.func45, Try.ntmps45
  go_upto_region 2 with (rw [← HW0.out]; refine wpList_store_row rfl 33 (.tmp 3) (.tmp 6) rfl (w.heap.size + 1 + 1) (MVc { zMsg with kind := 8 } none 0) (by rfl) (by rfl) 33 _ H0.out.2.2.1 inf33 rfl (mv_one _ _ _) ?_)
  rw [← HWA.out]
  simp only [Act.put, List.getElem_toArray, List.getElem_cons_succ, List.getElem_cons_zero, List.setIfInBounds_toArray, List.set_cons_succ, List.set_cons_zero]
  go_wp2_with ((with_reducible refine gate_dst (N := 103) rfl ?_); rw [← HWF.out]; refine wpList_load_row rfl 33 (.tmp 3) rfl (w.heap.size + 1 + 1) (by rfl) 33 (MVc (mOf 8 m.name (capOf m) z25 z25 m.rights 0) none 0) (0, 0) _ HX.out.1 Try.underlying33 rfl inf33 ?_; refine wpList_store_row rfl 33 (.tmp 2) (.tmp 103) rfl (w.heap.size + 1) (MVc (mOf 8 m.name (capOf m) z25 z25 m.rights 0) none 0) (by rfl) (by rfl) 33 _ HX.out.2.1 inf33 rfl (mv_one _ _ _) ?_)
  (try simp only [Exit.inBlock, Exit.then])
  refine bodyPost_ret (v := .agg (MVc (mOf 8 m.name (capOf m) z25 z25 m.rights 0) none 0)) ?_ rfl ?_
  · exact results_cell_row (fn := Try.f45) (p := 2) (cs := (MVc (mOf 8 m.name (capOf m) z25 z25 m.rights 0) none 0)) rfl _ _ (w.heap.size + 1) 33 (0, 0) _ (by rfl) (setRow_blk HX.out.2.1 _) hu33 rfl inf33
  exact ⟨rfl, below_setRow HX.out.2.2 (by omega) _⟩
set_option maxHeartbeats 8000000 in
set_option maxRecDepth 100000 in
theorem shape9_calls (m : Msg) (hk : m.kind = 9) (A : Option Addr) (c : Nat) (w : World) :
    Calls Try.prog 45 #[.agg (MVc m A c)] w fun e w' => e = .returned (.agg (MVc (mOf 9 m.name (capOf m) z25 z25 m.rights 0) none 0)) ∧ Below w.heap.size w w' := by
  have hu33 := Try.underlying33
  have hu23 := Try.underlying23
  have hu25 := Try.underlying25
  have hu27 := Try.underlying27
  have hu29 := Try.underlying29
  obtain ⟨w0, HW0, wa, HWA, BNE, BGE, HB, H0⟩ := shape_rows w (MVc m A c) (MVc { zMsg with kind := 9 } none 0)
  rw [mv_zero] at HW0
  have ka0 : wa.cell? ⟨w.heap.size, 0, none⟩ = some (.int .i64 9) := by rw [blk_cell HB.out.1 0]; show some (Value.int .i64 m.kind) = _; rw [hk]
  have kb0 : ((w.alloc (.cells (MVc m A c) 33 (0, 0))).alloc (.cells (MVc zMsg none 0) 33 (0, 0))).cell? ⟨w.heap.size, 0, none⟩ = some (.int .i64 9) := by rw [blk_cell (two_blocks w _ _).1 0]; show some (Value.int .i64 m.kind) = _; rw [hk]
  rw [mv_zero] at kb0
  clear hk
  have ka1 : wa.cell? ⟨w.heap.size, 1, none⟩ = some (.string m.name) := (blk_cell HB.out.1 1).trans rfl
  have ka2 : wa.cell? ⟨w.heap.size, 2, none⟩ = some (.int .i64 m.cap) := (blk_cell HB.out.1 2).trans rfl
  have ka3 : wa.cell? ⟨w.heap.size, 3, none⟩ = some (.int .i64 m.recaps) := (blk_cell HB.out.1 3).trans rfl
  have ka8 : wa.cell? ⟨w.heap.size, 8, none⟩ = some (.int .i64 m.rights.f0) := (blk_cell HB.out.1 8).trans rfl
  have ka9 : wa.cell? ⟨w.heap.size, 9, none⟩ = some (.int .i64 m.rights.f1) := (blk_cell HB.out.1 9).trans rfl
  have kc1 : wa.cell? ⟨w.heap.size + 1 + 1, 1, none⟩ = some (.string ⟨#[]⟩) := (blk_cell HB.out.2.2.1 1).trans rfl
  have kf1 := blk_frozen HB.out.2.2.1 1
  have kc2 : wa.cell? ⟨w.heap.size + 1 + 1, 2, none⟩ = some (.int .i64 0) := (blk_cell HB.out.2.2.1 2).trans rfl
  have kf2 := blk_frozen HB.out.2.2.1 2
  have kc3 : wa.cell? ⟨w.heap.size + 1 + 1, 3, none⟩ = some (.int .i64 0) := (blk_cell HB.out.2.2.1 3).trans rfl
  have kf3 := blk_frozen HB.out.2.2.1 3
  have kc8 : wa.cell? ⟨w.heap.size + 1 + 1, 8, none⟩ = some (.int .i64 0) := (blk_cell HB.out.2.2.1 8).trans rfl
  have kf8 := blk_frozen HB.out.2.2.1 8
  have kc9 : wa.cell? ⟨w.heap.size + 1 + 1, 9, none⟩ = some (.int .i64 0) := (blk_cell HB.out.2.2.1 9).trans rfl
  have kf9 := blk_frozen HB.out.2.2.1 9
  obtain ⟨wf, hwf⟩ : ∃ wf, wf = (((((wa).setCell ⟨w.heap.size + 1 + 1, 1, none⟩ (.string m.name)).setCell ⟨w.heap.size + 1 + 1, 2, none⟩ (.int .i64 m.cap)).setCell ⟨w.heap.size + 1 + 1, 3, none⟩ (.int .i64 m.recaps)).setCell ⟨w.heap.size + 1 + 1, 8, none⟩ (.int .i64 m.rights.f0)).setCell ⟨w.heap.size + 1 + 1, 9, none⟩ (.int .i64 m.rights.f1) := ⟨_, rfl⟩
  have HWF := Aside0.mk hwf
  have HX : Aside0 (wf.heap[w.heap.size + 1 + 1]? = some (.cells (MVc (mOf 9 m.name (capOf m) z25 z25 m.rights 0) none 0) 33 (0, 0)) ∧ wf.heap[w.heap.size + 1]? = some (.cells (MVc zMsg none 0) 33 (0, 0)) ∧ Below w.heap.size w wf) := ⟨by
    rw [hwf]
    exact ⟨(blk_set (blk_set (blk_set (blk_set (blk_set HB.out.2.2.1 1 _) 2 _) 3 _) 8 _) 9 _).trans rfl, (blk_far (blk_far (blk_far (blk_far (blk_far HB.out.2.1 BNE.out.2.2 1 _) BNE.out.2.2 2 _) BNE.out.2.2 3 _) BNE.out.2.2 8 _) BNE.out.2.2 9 _), (Below.setCell (Below.setCell (Below.setCell (Below.setCell (Below.setCell HB.out.2.2.2 BGE.out _) BGE.out _) BGE.out _) BGE.out _) BGE.out _)⟩⟩
  clear hwf
  go_enter Try.func45, Try.ntmps45
  go_upto_region 2 with (rw [← HW0.out]; refine wpList_store_row rfl 33 (.tmp 3) (.tmp 6) rfl (w.heap.size + 1 + 1) (MVc { zMsg with kind := 9 } none 0) (by rfl) (by rfl) 33 _ H0.out.2.2.1 inf33 rfl (mv_one _ _ _) ?_)
  rw [← HWA.out]
  simp only [Act.put, List.getElem_toArray, List.getElem_cons_succ, List.getElem_cons_zero, List.setIfInBounds_toArray, List.set_cons_succ, List.set_cons_zero]
  go_wp2_with ((with_reducible refine gate_dst (N := 103) rfl ?_); rw [← HWF.out]; refine wpList_load_row rfl 33 (.tmp 3) rfl (w.heap.size + 1 + 1) (by rfl) 33 (MVc (mOf 9 m.name (capOf m) z25 z25 m.rights 0) none 0) (0, 0) _ HX.out.1 Try.underlying33 rfl inf33 ?_; refine wpList_store_row rfl 33 (.tmp 2) (.tmp 103) rfl (w.heap.size + 1) (MVc (mOf 9 m.name (capOf m) z25 z25 m.rights 0) none 0) (by rfl) (by rfl) 33 _ HX.out.2.1 inf33 rfl (mv_one _ _ _) ?_)
  (try simp only [Exit.inBlock, Exit.then])
  refine bodyPost_ret (v := .agg (MVc (mOf 9 m.name (capOf m) z25 z25 m.rights 0) none 0)) ?_ rfl ?_
  · exact results_cell_row (fn := Try.f45) (p := 2) (cs := (MVc (mOf 9 m.name (capOf m) z25 z25 m.rights 0) none 0)) rfl _ _ (w.heap.size + 1) 33 (0, 0) _ (by rfl) (setRow_blk HX.out.2.1 _) hu33 rfl inf33
  exact ⟨rfl, below_setRow HX.out.2.2 (by omega) _⟩
set_option maxHeartbeats 8000000 in
set_option maxRecDepth 100000 in
theorem shape10_calls (m : Msg) (hk : m.kind = 10) (A : Option Addr) (c : Nat) (w : World) :
    Calls Try.prog 45 #[.agg (MVc m A c)] w fun e w' => e = .returned (.agg (MVc (mDig 10 m.views) A c)) ∧ Below w.heap.size w w' := by
  have hu33 := Try.underlying33
  have hu23 := Try.underlying23
  have hu25 := Try.underlying25
  have hu27 := Try.underlying27
  have hu29 := Try.underlying29
  obtain ⟨w0, HW0, wa, HWA, BNE, BGE, HB, H0⟩ := shape_rows w (MVc m A c) (MVc { zMsg with kind := 10 } none 0)
  rw [mv_zero] at HW0
  have ka0 : wa.cell? ⟨w.heap.size, 0, none⟩ = some (.int .i64 10) := by rw [blk_cell HB.out.1 0]; show some (Value.int .i64 m.kind) = _; rw [hk]
  have kb0 : ((w.alloc (.cells (MVc m A c) 33 (0, 0))).alloc (.cells (MVc zMsg none 0) 33 (0, 0))).cell? ⟨w.heap.size, 0, none⟩ = some (.int .i64 10) := by rw [blk_cell (two_blocks w _ _).1 0]; show some (Value.int .i64 m.kind) = _; rw [hk]
  rw [mv_zero] at kb0
  clear hk
  have ka19 : wa.cell? ⟨w.heap.size, 19, none⟩ = some (.slice A m.views.length c) := (blk_cell HB.out.1 19).trans rfl
  have kc19 : wa.cell? ⟨w.heap.size + 1 + 1, 19, none⟩ = some (.slice none 0 0) := (blk_cell HB.out.2.2.1 19).trans rfl
  have kf19 := blk_frozen HB.out.2.2.1 19
  obtain ⟨wf, hwf⟩ : ∃ wf, wf = (wa).setCell ⟨w.heap.size + 1 + 1, 19, none⟩ (.slice A m.views.length c) := ⟨_, rfl⟩
  have HWF := Aside0.mk hwf
  have HX : Aside0 (wf.heap[w.heap.size + 1 + 1]? = some (.cells (MVc (mDig 10 m.views) A c) 33 (0, 0)) ∧ wf.heap[w.heap.size + 1]? = some (.cells (MVc zMsg none 0) 33 (0, 0)) ∧ Below w.heap.size w wf) := ⟨by
    rw [hwf]
    exact ⟨(blk_set HB.out.2.2.1 19 _).trans rfl, (blk_far HB.out.2.1 BNE.out.2.2 19 _), (Below.setCell HB.out.2.2.2 BGE.out _)⟩⟩
  clear hwf
  go_enter Try.func45, Try.ntmps45
  go_upto_region 2 with (rw [← HW0.out]; refine wpList_store_row rfl 33 (.tmp 3) (.tmp 6) rfl (w.heap.size + 1 + 1) (MVc { zMsg with kind := 10 } none 0) (by rfl) (by rfl) 33 _ H0.out.2.2.1 inf33 rfl (mv_one _ _ _) ?_)
  rw [← HWA.out]
  simp only [Act.put, List.getElem_toArray, List.getElem_cons_succ, List.getElem_cons_zero, List.setIfInBounds_toArray, List.set_cons_succ, List.set_cons_zero]
  go_wp2_with ((with_reducible refine gate_dst (N := 23) rfl ?_); rw [← HWF.out]; refine wpList_load_row rfl 33 (.tmp 3) rfl (w.heap.size + 1 + 1) (by rfl) 33 (MVc (mDig 10 m.views) A c) (0, 0) _ HX.out.1 Try.underlying33 rfl inf33 ?_; refine wpList_store_row rfl 33 (.tmp 2) (.tmp 23) rfl (w.heap.size + 1) (MVc (mDig 10 m.views) A c) (by rfl) (by rfl) 33 _ HX.out.2.1 inf33 rfl (mv_one _ _ _) ?_)
  (try simp only [Exit.inBlock, Exit.then])
  refine bodyPost_ret (v := .agg (MVc (mDig 10 m.views) A c)) ?_ rfl ?_
  · exact results_cell_row (fn := Try.f45) (p := 2) (cs := (MVc (mDig 10 m.views) A c)) rfl _ _ (w.heap.size + 1) 33 (0, 0) _ (by rfl) (setRow_blk HX.out.2.1 _) hu33 rfl inf33
  exact ⟨rfl, below_setRow HX.out.2.2 (by omega) _⟩
end Go.Proofs.Ytpgdmmjbhjbbhaa.Rf
end
