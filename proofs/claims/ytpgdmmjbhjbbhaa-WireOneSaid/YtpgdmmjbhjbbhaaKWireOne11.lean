/- texts that the proof needs, laid together by a program of this session. -/
import Derived.WalkKit
import Derived.ProofKit
import Derived.OpenShut
import Derived.ShutString
import Derived.ChangeOld
import Derived.Below
import Derived.SizedLaws
import Derived.Deep.Slices
import Derived.Deep.Cut
import Derived.Test.YtpgdmmjbhjbbhaaKWireOne10
section
namespace Go.Proofs.Ytpgdmmjbhjbbhaa.Lw
open Go Go.RowKit Go.Proofs.Ytpgdmmjbhjbbhaa.P Go.Proofs.Ytpgdmmjbhjbbhaa.Sp Go.Proofs.Ytpgdmmjbhjbbhaa.Vd Go.Proofs.Ytpgdmmjbhjbbhaa.En Go.Proofs.Ytpgdmmjbhjbbhaa.Wr Go.Proofs.Ytpgdmmjbhjbbhaa.Rd Go.Proofs.YtpgdmmjbhjbbhaaW.PrintWords Go.Proofs.YtpgdmmjbhjbbhaaW.PrintLast Go.Proofs.YtpgdmmjbhjbbhaaW.PrintMore
set_option linter.unusedVariables false
set_option linter.unusedSimpArgs false
theorem msg_iff (m n : Msg) : m = n ↔ m.kind = n.kind ∧ m.name.toList = n.name.toList ∧ m.cap = n.cap ∧ m.recaps = n.recaps ∧ (m.epoch.f0 = n.epoch.f0 ∧ m.epoch.f1 = n.epoch.f1) ∧ (m.over.f0 = n.over.f0 ∧ m.over.f1 = n.over.f1) ∧ m.views = n.views ∧ (m.rights.f0 = n.rights.f0 ∧ m.rights.f1 = n.rights.f1) ∧ m.held = n.held ∧ (m.call.f0 = n.call.f0 ∧ m.call.f1 = n.call.f1) ∧ (m.op.kind = n.op.kind ∧ m.op.name.toList = n.op.name.toList ∧ m.op.a = n.op.a ∧ m.op.b = n.op.b) ∧ m.err = n.err ∧ m.value = n.value := by
  obtain ⟨a1, a2, a3, a4, ⟨a5, a6⟩, ⟨a7, a8⟩, ⟨a9, b1⟩, b2, ⟨b3, b4⟩, ⟨b5, b6, b7, b8⟩, b9, c1, c2⟩ := m
  obtain ⟨d1, d2, d3, d4, ⟨d5, d6⟩, ⟨d7, d8⟩, ⟨d9, e1⟩, e2, ⟨e3, e4⟩, ⟨e5, e6, e7, e8⟩, e9, f1, f2⟩ := n
  simp only [Msg.mk.injEq, S25.mk.injEq, Sp.Op.mk.injEq, toList_inj]
  constructor <;> (rintro h; simp [h])
set_option maxHeartbeats 8000000 in
set_option maxRecDepth 100000 in
theorem same_calls (m n : Msg) (A : Option Addr) (c : Nat) (A2 : Option Addr) (c2 : Nat) (w : World) (hx : Kd.C k87 w A m.views.length m.views) (hxc : m.views.length ≤ c) (hy : Kd.C k87 w A2 n.views.length n.views) (hyc : n.views.length ≤ c2) :
    Calls Try.prog 20 #[MV m A c, MV n A2 c2] w fun e w' => e = .returned (.bool (dcd (m = n))) ∧ Below w.heap.size w w' := by
  have HX := Aside0.mk (And.intro hx hxc)
  have HY := Aside0.mk (And.intro hy hyc)
  clear hx hxc hy hyc
  have hu33 := Try.underlying33
  have hu23 := Try.underlying23
  have hu25 := Try.underlying25
  have hu27 := Try.underlying27
  have hu29 := Try.underlying29
  unfold MV
  obtain ⟨wa, hwa⟩ : ∃ wa, wa = (w.alloc (.cells (MVc m A c) 33 (0, 0))).alloc (.cells (MVc n A2 c2) 33 (0, 0)) := ⟨_, rfl⟩
  have HWA := Aside0.mk hwa
  have HB : Aside0 (Below w.heap.size w wa) := ⟨by rw [hwa]; exact below_al2 w _ _⟩
  have BK : Aside0 (wa.heap[w.heap.size]? = some (.cells (MVc m A c) 33 (0, 0)) ∧ wa.heap[w.heap.size + 1]? = some (.cells (MVc n A2 c2) 33 (0, 0))) := ⟨by
    rw [hwa]
    refine ⟨(Below.heap_alloc _ _ _ (by simp)).trans (heap_alloc_new w _), ?_⟩
    have := heap_alloc_new (w.alloc (.cells (MVc m A c) 33 (0, 0))) (.cells (MVc n A2 c2) 33 (0, 0))
    rwa [show (w.alloc (.cells (MVc m A c) 33 (0, 0))).heap.size = w.heap.size + 1 by simp] at this⟩
  clear hwa
  obtain ⟨vv, hvv⟩ : ∃ vv, dcd (m.views = n.views) = vv := ⟨_, rfl⟩
  have HVI : Aside0 (m.views = n.views ↔ vv = true) := ⟨by rw [← hvv, dcd_iff]⟩
  have HVV := Aside0.mk hvv
  clear hvv
  have ka0 : wa.cell? ⟨w.heap.size, 0, none⟩ = some (.int .i64 m.kind) := (blk_cell BK.out.1 0).trans rfl
  have kb0 : wa.cell? ⟨w.heap.size + 1, 0, none⟩ = some (.int .i64 n.kind) := (blk_cell BK.out.2 0).trans rfl
  have ka1 : wa.cell? ⟨w.heap.size, 1, none⟩ = some (.string m.name) := (blk_cell BK.out.1 1).trans rfl
  have kb1 : wa.cell? ⟨w.heap.size + 1, 1, none⟩ = some (.string n.name) := (blk_cell BK.out.2 1).trans rfl
  have ka2 : wa.cell? ⟨w.heap.size, 2, none⟩ = some (.int .i64 m.cap) := (blk_cell BK.out.1 2).trans rfl
  have kb2 : wa.cell? ⟨w.heap.size + 1, 2, none⟩ = some (.int .i64 n.cap) := (blk_cell BK.out.2 2).trans rfl
  have ka3 : wa.cell? ⟨w.heap.size, 3, none⟩ = some (.int .i64 m.recaps) := (blk_cell BK.out.1 3).trans rfl
  have kb3 : wa.cell? ⟨w.heap.size + 1, 3, none⟩ = some (.int .i64 n.recaps) := (blk_cell BK.out.2 3).trans rfl
  have ka4 : wa.cell? ⟨w.heap.size, 4, none⟩ = some (.int .i64 m.epoch.f0) := (blk_cell BK.out.1 4).trans rfl
  have kb4 : wa.cell? ⟨w.heap.size + 1, 4, none⟩ = some (.int .i64 n.epoch.f0) := (blk_cell BK.out.2 4).trans rfl
  have ka5 : wa.cell? ⟨w.heap.size, 5, none⟩ = some (.int .i64 m.epoch.f1) := (blk_cell BK.out.1 5).trans rfl
  have kb5 : wa.cell? ⟨w.heap.size + 1, 5, none⟩ = some (.int .i64 n.epoch.f1) := (blk_cell BK.out.2 5).trans rfl
  have ka6 : wa.cell? ⟨w.heap.size, 6, none⟩ = some (.int .i64 m.over.f0) := (blk_cell BK.out.1 6).trans rfl
  have kb6 : wa.cell? ⟨w.heap.size + 1, 6, none⟩ = some (.int .i64 n.over.f0) := (blk_cell BK.out.2 6).trans rfl
  have ka7 : wa.cell? ⟨w.heap.size, 7, none⟩ = some (.int .i64 m.over.f1) := (blk_cell BK.out.1 7).trans rfl
  have kb7 : wa.cell? ⟨w.heap.size + 1, 7, none⟩ = some (.int .i64 n.over.f1) := (blk_cell BK.out.2 7).trans rfl
  have ka19 : wa.cell? ⟨w.heap.size, 19, none⟩ = some (.slice A m.views.length c) := (blk_cell BK.out.1 19).trans rfl
  have kb19 : wa.cell? ⟨w.heap.size + 1, 19, none⟩ = some (.slice A2 n.views.length c2) := (blk_cell BK.out.2 19).trans rfl
  go_enter Try.func20, Try.ntmps20
  go_upto_region 1 with fail
  rw [← HWA.out]
  go_wp2_with (go_at_call 40; refine (sameViews_calls A c m.views A2 c2 n.views _ (Kd.C_below HX.out.1 HB.out) HX.out.2 (Kd.C_below HY.out.1 HB.out) HY.out.2).mono ?_; rintro e w1 ⟨rfl, hb⟩; rw [HVV.out]; have n0_ := Aside0.mk (below_step HB.out hb); have n1_ := Aside0.mk (And.intro (blk_keep hb BK.out.1) (blk_keep hb BK.out.2)); clear HB BK hb ka0 kb0 ka1 kb1 ka2 kb2 ka3 kb3 ka4 kb4 ka5 kb5 ka6 kb6 ka7 kb7 ka19 kb19; have HB := n0_; have BK := n1_; clear n0_ n1_; have ka8 : w1.cell? ⟨w.heap.size, 8, none⟩ = some (.int .i64 m.rights.f0) := (blk_cell BK.out.1 8).trans rfl; have kb8 : w1.cell? ⟨w.heap.size + 1, 8, none⟩ = some (.int .i64 n.rights.f0) := (blk_cell BK.out.2 8).trans rfl; have ka9 : w1.cell? ⟨w.heap.size, 9, none⟩ = some (.int .i64 m.rights.f1) := (blk_cell BK.out.1 9).trans rfl; have kb9 : w1.cell? ⟨w.heap.size + 1, 9, none⟩ = some (.int .i64 n.rights.f1) := (blk_cell BK.out.2 9).trans rfl; have ka10 : w1.cell? ⟨w.heap.size, 10, none⟩ = some (.int .i64 m.held) := (blk_cell BK.out.1 10).trans rfl; have kb10 : w1.cell? ⟨w.heap.size + 1, 10, none⟩ = some (.int .i64 n.held) := (blk_cell BK.out.2 10).trans rfl; have ka11 : w1.cell? ⟨w.heap.size, 11, none⟩ = some (.int .i64 m.call.f0) := (blk_cell BK.out.1 11).trans rfl; have kb11 : w1.cell? ⟨w.heap.size + 1, 11, none⟩ = some (.int .i64 n.call.f0) := (blk_cell BK.out.2 11).trans rfl; have ka12 : w1.cell? ⟨w.heap.size, 12, none⟩ = some (.int .i64 m.call.f1) := (blk_cell BK.out.1 12).trans rfl; have kb12 : w1.cell? ⟨w.heap.size + 1, 12, none⟩ = some (.int .i64 n.call.f1) := (blk_cell BK.out.2 12).trans rfl; have ka13 : w1.cell? ⟨w.heap.size, 13, none⟩ = some (.int .i64 m.op.kind) := (blk_cell BK.out.1 13).trans rfl; have kb13 : w1.cell? ⟨w.heap.size + 1, 13, none⟩ = some (.int .i64 n.op.kind) := (blk_cell BK.out.2 13).trans rfl; have ka14 : w1.cell? ⟨w.heap.size, 14, none⟩ = some (.string m.op.name) := (blk_cell BK.out.1 14).trans rfl; have kb14 : w1.cell? ⟨w.heap.size + 1, 14, none⟩ = some (.string n.op.name) := (blk_cell BK.out.2 14).trans rfl; have ka15 : w1.cell? ⟨w.heap.size, 15, none⟩ = some (.int .i64 m.op.a) := (blk_cell BK.out.1 15).trans rfl; have kb15 : w1.cell? ⟨w.heap.size + 1, 15, none⟩ = some (.int .i64 n.op.a) := (blk_cell BK.out.2 15).trans rfl; have ka16 : w1.cell? ⟨w.heap.size, 16, none⟩ = some (.int .i64 m.op.b) := (blk_cell BK.out.1 16).trans rfl; have kb16 : w1.cell? ⟨w.heap.size + 1, 16, none⟩ = some (.int .i64 n.op.b) := (blk_cell BK.out.2 16).trans rfl; have ka17 : w1.cell? ⟨w.heap.size, 17, none⟩ = some (.int .i64 m.err) := (blk_cell BK.out.1 17).trans rfl; have kb17 : w1.cell? ⟨w.heap.size + 1, 17, none⟩ = some (.int .i64 n.err) := (blk_cell BK.out.2 17).trans rfl; have ka18 : w1.cell? ⟨w.heap.size, 18, none⟩ = some (.int .i64 m.value) := (blk_cell BK.out.1 18).trans rfl; have kb18 : w1.cell? ⟨w.heap.size + 1, 18, none⟩ = some (.int .i64 n.value) := (blk_cell BK.out.2 18).trans rfl)
  all_goals go_ret
  all_goals refine ⟨congrArg (fun b => Ending.returned (Value.bool b)) (bool_dcd ?_), HB.out⟩
  all_goals clear HX HY HWA hu33 hu23 hu25 hu27 hu29 BK HVV HB
  all_goals rw [msg_iff, HVI.out]
  all_goals clear HVI
  all_goals (first | (simp [*]; done) | (cases vv <;> first | (simp [*]; done) | contradiction | (simp at *; done) | (simp_all; done)))
end Go.Proofs.Ytpgdmmjbhjbbhaa.Lw
end
section
namespace Go.Proofs.Ytpgdmmjbhjbbhaa.Lw
open Go Go.RowKit Go.Proofs.Ytpgdmmjbhjbbhaa.P Go.Proofs.Ytpgdmmjbhjbbhaa.Sp Go.Proofs.Ytpgdmmjbhjbbhaa.Vd Go.Proofs.Ytpgdmmjbhjbbhaa.En Go.Proofs.Ytpgdmmjbhjbbhaa.Wr Go.Proofs.Ytpgdmmjbhjbbhaa.Rd Go.Proofs.YtpgdmmjbhjbbhaaW.PrintWords Go.Proofs.YtpgdmmjbhjbbhaaW.PrintLast Go.Proofs.YtpgdmmjbhjbbhaaW.PrintMore
set_option linter.unusedVariables false
set_option linter.unusedSimpArgs false
theorem In.below {w w1 : World} {A : Option Addr} {c : Nat} {l : List Int} (h : In w A c l) (hb : Below w.heap.size w w1) : In w1 A c l := ⟨Kd.C_below h.row hb, h.isB, h.cap⟩
theorem in_of_R {w : World} {base : Nat} {ok : Nat → Prop} {v : Value} {l : List Int} (h : Kd.R (Kd.int .u8) 5 w base ok v l) (hb : IsB l) : ∃ A c, v = .slice A l.length c ∧ In w A c l := by
  obtain ⟨A, c, hv, hc, hC⟩ := Kd.R_reads h
  exact ⟨A, c, hv, hC, hb, hc⟩
theorem in_lit {l : List Int} {w : World} {b : Nat} {t : TypeId} {cs : Array Value} {n : Nat} (h : w.heap[b]? = some (.cells cs t (0, 0))) (hc : cs.toList = l.map (Value.int .u8)) (hl : l.length ≤ 1000) (hb : IsB l) (hn : n = l.length) : In w (some ⟨b, 0, none⟩) n l := ⟨lit_row h hc hl, hb, by omega⟩
theorem views_nil (w : World) (A : Option Addr) : Kd.C k87 w A ([] : List S87).length [] := ⟨rfl, by simp, fun h => by simp at h⟩
theorem isB_of {l : List Int} (h : ∀ x ∈ l, decide (0 ≤ x ∧ x ≤ 255) = true) : IsB l := fun x hx => of_decide_eq_true (h x hx)
theorem mEx_isI : isI mEx.op.a ∧ isI mEx.op.b := ⟨by unfold isI; decide, by unfold isI; decide⟩
def bM : List Int := [3, 1, 107, 10, 0, 2, 1]
def bS : List Int := [0, 1, 0, 7, 0]
def bQ : List Int := [3, 1, 2, 1, 107, 10, 0]
def bR : List Int := [0, 9, 0, 5]
theorem bM_B : IsB bM := isB_of (by decide)
theorem bS_B : IsB bS := isB_of (by decide)
theorem bQ_B : IsB bQ := isB_of (by decide)
theorem bR_B : IsB bR := isB_of (by decide)
theorem enc_ex (w : World) : Calls Try.prog 16 #[.agg #[.int .i64 3, .string ⟨#[107]⟩, .int .i64 10, .int .i64 0, .int .i64 2, .int .i64 1, .int .i64 0, .int .i64 0, .int .i64 0, .int .i64 0, .int .i64 0, .int .i64 0, .int .i64 0, .int .i64 0, .string ⟨#[]⟩, .int .i64 0, .int .i64 0, .int .i64 0, .int .i64 0, .slice none 0 0]] w fun e w' => ∃ A c, e = .returned (.tuple #[.slice A 7 c, .int .i64 0]) ∧ In w' A c bM ∧ Below w.heap.size w w' := by
  refine (encode_calls mEx mEx_isI none 0 w (views_nil _ _) (Nat.le_refl _)).mono ?_
  rintro e w' ⟨v, he, hR, hb⟩
  rw [lay_right mEx_right] at he hR
  simp only [mEx_bytes] at hR
  obtain ⟨A, c, rfl, hi⟩ := in_of_R hR bM_B
  exact ⟨A, c, he, hi, hb⟩
theorem dec_ex (w : World) (A : Option Addr) (c : Nat) (h : In w A c bM) : Calls Try.prog 18 #[.slice A 7 c] w fun e w' => ∃ A1 c1, e = .returned (.tuple #[.agg (MVc mEx A1 c1), .int .i64 0, .int .i64 0]) ∧ Below w.heap.size w w' := by
  refine (decode_calls w A c bM h).mono ?_
  rintro e w' ⟨hb, A1, c1, he, _⟩
  have hw : whole zMsg msgP bM = (mEx, 0, 0) := by rw [show bM = msgB mEx from mEx_bytes.symm]; exact whole_back msgP_codec _ mEx_right
  rw [hw] at he
  exact ⟨A1, c1, he, hb⟩
theorem seg_ex (w : World) : Calls Try.prog 27 #[.agg #[.int .i64 0, .int .i64 1, .int .i64 0, .int .i64 7, .slice none 0 0]] w fun e w' => ∃ A c, e = .returned (.tuple #[.slice A 5 c, .int .i64 0]) ∧ In w' A c bS ∧ Below w.heap.size w w' := by
  refine (encseg_calls sEx none 0 w ⟨rfl, by decide, fun h => absurd h (by decide)⟩ (Nat.le_refl _) (fun x h => by cases h)).mono ?_
  rintro e w' ⟨v, he, hR, hb⟩
  rw [lay_right sEx_right] at he hR
  simp only [sEx_bytes] at hR
  obtain ⟨A, c, rfl, hi⟩ := in_of_R hR bS_B
  exact ⟨A, c, he, hi, hb⟩
theorem req_ex (w : World) (A : Option Addr) (c : Nat) (h : In w A c bQ) : Calls Try.prog 33 #[.slice A 7 c] w fun e w' => e = .returned (.tuple #[.agg #[.int .i64 3, .int .i64 1], .agg #[.int .i64 2, .string ⟨#[107]⟩, .int .i64 5, .int .i64 0], .int .i64 0, .int .i64 0]) ∧ Below w.heap.size w w' := by
  refine (decreq_calls w A c bQ h).mono ?_
  rintro e w' ⟨hb, he⟩
  have hw : whole (z25, zOp) reqP bQ = (qEx, 0, 0) := by rw [show bQ = reqB qEx from qEx_bytes.symm]; exact whole_back reqP_codec _ qEx_right
  rw [hw] at he
  exact ⟨he, hb⟩
theorem rep_ex (w : World) : Calls Try.prog 34 #[.agg #[.int .i64 0, .int .i64 9, .int .i64 0, .int .i64 (-3)]] w fun e w' => ∃ A c, e = .returned (.tuple #[.slice A 4 c, .int .i64 0]) ∧ In w' A c bR ∧ Below w.heap.size w w' := by
  refine (encrep_calls rEx w (by unfold isI; decide)).mono ?_
  rintro e w' ⟨v, he, hR, hb⟩
  rw [lay_right rEx_right] at he hR
  simp only [rEx_bytes] at hR
  obtain ⟨A, c, rfl, hi⟩ := in_of_R hR bR_B
  exact ⟨A, c, he, hi, hb⟩
theorem val_ex (w : World) (A1 : Option Addr) (c1 : Nat) : Calls Try.prog 21 #[.agg (MVc mEx A1 c1)] w fun e w' => e = .returned (.bool true) ∧ Below w.heap.size w w' := by
  refine (valid_calls mEx mEx_isI A1 c1 w (views_nil _ _) (Nat.zero_le _)).mono ?_
  rintro e w' ⟨he, hb⟩
  rw [dcd_pos mEx_right] at he
  exact ⟨he, hb⟩
theorem alike_ex (A0 : Option Addr) (c0 : Nat) (A1 : Option Addr) (c1 : Nat) (b : List Int) (n : Nat) (hn : b.length = n) (w : World) (ha : In w A0 c0 b) (hb : In w A1 c1 b) :
    Calls Try.prog 37 #[.slice A0 n c0, .slice A1 n c1] w fun e w' => e = .returned (.bool true) ∧ Below w.heap.size w w' := by
  subst hn
  refine (alike_calls A0 c0 b A1 c1 b w ha hb).mono ?_
  rintro e w' ⟨he, hb⟩
  rw [dcd_pos rfl] at he
  exact ⟨he, hb⟩
end Go.Proofs.Ytpgdmmjbhjbbhaa.Lw
end
section
namespace Go.Proofs.Ytpgdmmjbhjbbhaa.Lw
open Go Go.RowKit Go.Proofs.Ytpgdmmjbhjbbhaa.P Go.Proofs.Ytpgdmmjbhjbbhaa.Sp Go.Proofs.Ytpgdmmjbhjbbhaa.Vd Go.Proofs.Ytpgdmmjbhjbbhaa.En Go.Proofs.Ytpgdmmjbhjbbhaa.Wr Go.Proofs.Ytpgdmmjbhjbbhaa.Rd Go.Proofs.YtpgdmmjbhjbbhaaW.PrintWords Go.Proofs.YtpgdmmjbhjbbhaaW.PrintLast Go.Proofs.YtpgdmmjbhjbbhaaW.PrintMore
set_option linter.unusedVariables false
set_option linter.unusedSimpArgs false
theorem in_new (w : World) (l : List Int) (cs : Array Value) (n : Nat) (hc : cs.toList = l.map (Value.int .u8)) (hl : l.length ≤ 1000) (hb : IsB l) (hn : n = l.length) : In (w.alloc (.cells cs 5 (0, 0))) (some ⟨w.heap.size, 0, none⟩) n l := in_lit (heap_alloc_new w _) hc hl hb hn
/-- What stands when all is called. -/
structure AF (w W : World) (Ab As Ar A1 : Option Addr) (cb cs cr c1 g3 g8 g9 : Nat) : Prop where
  bel : Below w.heap.size w W
  b : In W Ab cb bM
  s : In W As cs bS
  r : In W Ar cr bR
  m : W.heap[g3]? = some (.cells (MVc mEx A1 c1) 33 (0, 0))
  c : W.heap[g8]? = some (.cells #[.int .i64 3, .int .i64 1] 27 (0, 0))
  o : W.heap[g9]? = some (.cells #[.int .i64 2, .string ⟨#[107]⟩, .int .i64 5, .int .i64 0] 29 (0, 0))
theorem AF.below {w W W1 : World} {Ab As Ar A1 : Option Addr} {cb cs cr c1 g3 g8 g9 : Nat} (h : AF w W Ab As Ar A1 cb cs cr c1 g3 g8 g9) (k : Below W.heap.size W W1) : AF w W1 Ab As Ar A1 cb cs cr c1 g3 g8 g9 :=
  ⟨below_step h.bel k, In.below h.b k, In.below h.s k, In.below h.r k, blk_keep k h.m, blk_keep k h.c, blk_keep k h.o⟩
theorem AF.new {w W : World} {Ab As Ar A1 : Option Addr} {cb cs cr c1 g3 g8 g9 : Nat} (h : AF w W Ab As Ar A1 cb cs cr c1 g3 g8 g9) (o : Obj) : AF w (W.alloc o) Ab As Ar A1 cb cs cr c1 g3 g8 g9 := h.below (al_below W o)
set_option maxHeartbeats 8000000 in
set_option maxRecDepth 100000 in
theorem able_calls (w : World) : Calls Try.prog 12 #[] w fun e w' => e = .returned (.bool true) ∧ Below w.heap.size w w' := by
  have hu33 := Try.underlying33
  have hu23 := Try.underlying23
  have hu25 := Try.underlying25
  have hu27 := Try.underlying27
  have hu29 := Try.underlying29
  have hu47 := Try.underlying47
  have hu50 := Try.underlying50
  go_enter Try.func12, Try.ntmps12
  go_upto_region 2 with (go_at_call 16; refine (enc_ex _).mono ?_; rintro e w1 ⟨Ab, cb, rfl, hi, hb⟩; have H1 := Aside0.mk (And.intro hb hi); clear hi hb)
  obtain ⟨wa, hwa⟩ : ∃ wa, wa = w1.alloc (.cells #[.int .u8 3, .int .u8 1, .int .u8 107, .int .u8 10, .int .u8 0, .int .u8 2, .int .u8 1] 5 (0, 0)) := ⟨_, rfl⟩
  have HWA := Aside0.mk hwa
  have HIA : Aside0 (In wa (some ⟨w1.heap.size, 0, none⟩) 7 bM) := ⟨by rw [hwa]; exact in_new w1 bM _ _ rfl (by decide) bM_B rfl⟩
  have HBA : Aside0 (Below w.heap.size w wa ∧ Below w1.heap.size w1 wa) := ⟨by rw [hwa]; exact ⟨below_step H1.out.1 (al_below _ _), al_below _ _⟩⟩
  have HMV := Aside0.mk mv_one
  clear hwa
  go_upto_region 3 with (first
    | (refine wpList_store_row rfl 33 (.tmp 3) (.tmp 23) rfl w2.heap.size (MVc mEx A1 c1) (by rfl) (by rfl) 33 _ H2.out.2 inf33 rfl (mv_one _ _ _) ?_)
    | (go_at_call 18; rw [← HWA.out]; refine (dec_ex _ _ _ HIA.out).mono ?_; rintro e w2 ⟨A1, c1, rfl, hb⟩; have H2 := Aside0.mk (And.intro hb (heap_alloc_new w2 (.cells (MVc zMsg none 0) 33 (0, 0)))); clear hb))
  obtain ⟨w3, hw3⟩ : ∃ w3, w3 = (w2.alloc (.cells (MVc zMsg none 0) 33 (0, 0))).setRow w2.heap.size (MVc mEx A1 c1) := ⟨_, rfl⟩
  have HW3 := Aside0.mk hw3
  rw [mv_zero] at HW3
  have H3 : Aside0 (Below w.heap.size w w3 ∧ In w3 Ab cb bM ∧ w3.heap[w2.heap.size]? = some (.cells (MVc mEx A1 c1) 33 (0, 0))) := ⟨by
    have h1 := below_step HBA.out.1 H2.out.1
    have h2 : Below w2.heap.size w2 w3 := by rw [hw3]; exact below_setRow (al_below _ _) (Nat.le_refl _) _
    refine ⟨below_step h1 h2, In.below (In.below (In.below H1.out.2 HBA.out.2) H2.out.1) h2, ?_⟩
    rw [hw3]
    exact setRow_blk H2.out.2 _⟩
  rw [← HW3.out]
  clear hw3 HW3 H2 HWA HIA HBA H1
  go_upto_region 4 with (go_at_call 27; refine (seg_ex _).mono ?_; rintro e w4 ⟨As, cs, rfl, hi, hb⟩; have H4 := Aside0.mk (And.intro (below_step H3.out.1 hb) (And.intro (In.below H3.out.2.1 hb) (And.intro (blk_keep hb H3.out.2.2) hi))); clear hi hb)
  obtain ⟨wa, hwa⟩ : ∃ wa, wa = w4.alloc (.cells #[.int .u8 3, .int .u8 1, .int .u8 2, .int .u8 1, .int .u8 107, .int .u8 10, .int .u8 0] 5 (0, 0)) := ⟨_, rfl⟩
  have HWA := Aside0.mk hwa
  have HIA : Aside0 (In wa (some ⟨w4.heap.size, 0, none⟩) 7 bQ) := ⟨by rw [hwa]; exact in_new w4 bQ _ _ rfl (by decide) bQ_B rfl⟩
  have HBA : Aside0 (Below w4.heap.size w4 wa) := ⟨by rw [hwa]; exact al_below _ _⟩
  clear hwa
  go_upto_region 5 with (go_at_call 33; rw [← HWA.out]; refine (req_ex _ _ _ HIA.out).mono ?_; rintro e w5 ⟨rfl, hb⟩; have H5 := Aside0.mk hb; clear hb)
  obtain ⟨w6, hw6⟩ : ∃ w6, w6 = (w5.alloc (.cells #[.int .i64 3, .int .i64 1] 27 (0, 0))).alloc (.cells #[.int .i64 2, .string ⟨#[107]⟩, .int .i64 5, .int .i64 0] 29 (0, 0)) := ⟨_, rfl⟩
  have HW6 := Aside0.mk hw6
  have H6 : Aside0 (Below w5.heap.size w5 w6 ∧ w6.heap[w5.heap.size]? = some (.cells #[.int .i64 3, .int .i64 1] 27 (0, 0)) ∧ w6.heap[w5.heap.size + 1]? = some (.cells #[.int .i64 2, .string ⟨#[107]⟩, .int .i64 5, .int .i64 0] 29 (0, 0))) := ⟨by
    rw [hw6]
    refine ⟨below_al2 w5 _ _, (Below.heap_alloc _ _ _ (by simp)).trans (heap_alloc_new w5 _), ?_⟩
    have := heap_alloc_new (w5.alloc (.cells #[.int .i64 3, .int .i64 1] 27 (0, 0))) (.cells #[.int .i64 2, .string ⟨#[107]⟩, .int .i64 5, .int .i64 0] 29 (0, 0))
    rwa [show (w5.alloc (.cells #[.int .i64 3, .int .i64 1] 27 (0, 0))).heap.size = w5.heap.size + 1 by simp] at this⟩
  rw [← HW6.out]
  clear hw6 HW6 HWA HIA
  have HK : Aside0 (Below w4.heap.size w4 w6) := ⟨below_step (below_step HBA.out H5.out) H6.out.1⟩
  go_upto_region 6 with (go_at_call 34; refine (rep_ex _).mono ?_; rintro e w7 ⟨Ar, cr, rfl, hi, hb⟩; have HF : Aside0 (AF w w7 Ab As Ar A1 cb cs cr c1 w2.heap.size w5.heap.size (w5.heap.size + 1)) := ⟨⟨below_step (below_step H4.out.1 HK.out) hb, In.below (In.below H4.out.2.1 HK.out) hb, In.below (In.below H4.out.2.2.2 HK.out) hb, hi, blk_keep hb (blk_keep HK.out H4.out.2.2.1), blk_keep hb H6.out.2.1, blk_keep hb H6.out.2.2⟩⟩; clear hi hb)
  clear H3 H4 H5 H6 HK HBA
  go_wp2_with (first
    | (go_at_call 37; refine (alike_ex Ab cb _ _ bM 7 rfl _ (AF.new HF.out _).b (in_new _ bM _ _ rfl (by decide) bM_B rfl)).mono ?_; rintro e wx ⟨rfl, hb⟩; have n0_ := Aside0.mk (AF.below (AF.new HF.out _) hb); clear HF hb; have HF := n0_; clear n0_; have km0 : wx.cell? ⟨w2.heap.size, 0, none⟩ = some (.int .i64 3) := (blk_cell HF.out.m 0).trans rfl; have km2 : wx.cell? ⟨w2.heap.size, 2, none⟩ = some (.int .i64 10) := (blk_cell HF.out.m 2).trans rfl; have km4 : wx.cell? ⟨w2.heap.size, 4, none⟩ = some (.int .i64 2) := (blk_cell HF.out.m 4).trans rfl; have kc0 : wx.cell? ⟨w5.heap.size, 0, none⟩ = some (.int .i64 3) := (blk_cell HF.out.c 0).trans rfl; have ko2 : wx.cell? ⟨w5.heap.size + 1, 2, none⟩ = some (.int .i64 5) := (blk_cell HF.out.o 2).trans rfl)
    | (go_at_call 37; refine (alike_ex As cs _ _ bS 5 rfl _ (AF.new HF.out _).s (in_new _ bS _ _ rfl (by decide) bS_B rfl)).mono ?_; rintro e wx ⟨rfl, hb⟩; clear km0 km2 km4 kc0 ko2; have n0_ := Aside0.mk (AF.below (AF.new HF.out _) hb); clear HF hb; have HF := n0_; clear n0_; have km0 : wx.cell? ⟨w2.heap.size, 0, none⟩ = some (.int .i64 3) := (blk_cell HF.out.m 0).trans rfl; have km2 : wx.cell? ⟨w2.heap.size, 2, none⟩ = some (.int .i64 10) := (blk_cell HF.out.m 2).trans rfl; have km4 : wx.cell? ⟨w2.heap.size, 4, none⟩ = some (.int .i64 2) := (blk_cell HF.out.m 4).trans rfl; have kc0 : wx.cell? ⟨w5.heap.size, 0, none⟩ = some (.int .i64 3) := (blk_cell HF.out.c 0).trans rfl; have ko2 : wx.cell? ⟨w5.heap.size + 1, 2, none⟩ = some (.int .i64 5) := (blk_cell HF.out.o 2).trans rfl)
    | (go_at_call 37; refine (alike_ex Ar cr _ _ bR 4 rfl _ (AF.new HF.out _).r (in_new _ bR _ _ rfl (by decide) bR_B rfl)).mono ?_; rintro e wx ⟨rfl, hb⟩; clear km0 km2 km4 kc0 ko2; have n0_ := Aside0.mk (AF.below (AF.new HF.out _) hb); clear HF hb; have HF := n0_; clear n0_; have km0 : wx.cell? ⟨w2.heap.size, 0, none⟩ = some (.int .i64 3) := (blk_cell HF.out.m 0).trans rfl; have km2 : wx.cell? ⟨w2.heap.size, 2, none⟩ = some (.int .i64 10) := (blk_cell HF.out.m 2).trans rfl; have km4 : wx.cell? ⟨w2.heap.size, 4, none⟩ = some (.int .i64 2) := (blk_cell HF.out.m 4).trans rfl; have kc0 : wx.cell? ⟨w5.heap.size, 0, none⟩ = some (.int .i64 3) := (blk_cell HF.out.c 0).trans rfl; have ko2 : wx.cell? ⟨w5.heap.size + 1, 2, none⟩ = some (.int .i64 5) := (blk_cell HF.out.o 2).trans rfl)
    | ((with_reducible refine gate_dst (N := 106) rfl ?_); refine gate_guard (by kernel_rfl) ?_; refine wpList_load_row rfl 33 (.tmp 3) rfl w2.heap.size (by rfl) 33 (MVc mEx A1 c1) (0, 0) _ HF.out.m Try.underlying33 rfl inf33 ?_)
    | (go_at_call 21; refine (val_ex _ A1 c1).mono ?_; rintro e wy ⟨rfl, hb⟩; have HE := Aside0.mk (below_step HF.out.bel hb); clear hb))
  go_ret
  exact ⟨rfl, HE.out⟩
end Go.Proofs.Ytpgdmmjbhjbbhaa.Lw
end
section
namespace Go.Proofs.Ytpgdmmjbhjbbhaa.Lw
open Go Go.RowKit Go.Proofs.Ytpgdmmjbhjbbhaa.P Go.Proofs.Ytpgdmmjbhjbbhaa.Sp Go.Proofs.Ytpgdmmjbhjbbhaa.Vd Go.Proofs.Ytpgdmmjbhjbbhaa.En Go.Proofs.Ytpgdmmjbhjbbhaa.Wr Go.Proofs.Ytpgdmmjbhjbbhaa.Rd Go.Proofs.YtpgdmmjbhjbbhaaW.PrintWords Go.Proofs.YtpgdmmjbhjbbhaaW.PrintLast Go.Proofs.YtpgdmmjbhjbbhaaW.PrintMore
set_option linter.unusedVariables false
set_option linter.unusedSimpArgs false
/-- Taken: the very bytes; or refused: nothing but a place within. -/
def Took {α : Type} (z : α) (e : α → List Int) (v : α → Prop) (b : List Int) (x : α) (p er : Int) : Prop :=
  (er = 0 ∧ p = 0 ∧ v x ∧ e x = b) ∨ (er = 20 ∧ 0 ≤ p ∧ p ≤ b.length ∧ x = z)
theorem took_of {α : Type} {p : Rdr α} {e : α → List Int} {v : α → Prop} (h : Codec p e v) (hs : Sp.Safe p) (z : α) {b : List Int} (hb : IsB b) : Took z e v b (whole z p b).1 (whole z p b).2.1 (whole z p b).2.2 := by
  rcases whole_one h hs z hb with ⟨x, hw, hv, he⟩ | ⟨n, hw, h0, h1⟩
  · rw [hw]; exact .inl ⟨rfl, rfl, hv, he⟩
  · rw [hw]; exact .inr ⟨rfl, h0, h1, rfl⟩
theorem rowV_get : ∀ (l : List S87) (j i : Nat) (p : S87), l[j]? = some p → i < 7 → (rowV l)[j * 7 + i]? = (vcells p)[i]?
  | [], j, i, p, h, hi => by simp at h
  | v :: r, 0, i, p, h, hi => by
    obtain rfl : v = p := by simpa using h
    show (vcells v ++ rowV r)[0 * 7 + i]? = _
    rw [Nat.zero_mul, Nat.zero_add, List.getElem?_append_left (by simpa [vcells] using hi)]
  | v :: r, j + 1, i, p, h, hi => by
    have h2 : r[j]? = some p := by simpa using h
    show (vcells v ++ rowV r)[(j + 1) * 7 + i]? = _
    have hl : (vcells v).length = 7 := rfl
    rw [List.getElem?_append_right (by omega), hl, show (j + 1) * 7 + i - 7 = j * 7 + i by omega]
    exact rowV_get r j i p h2 hi
theorem views_row {w : World} {vb : Nat} {xs : List S87} (h : w.heap[vb]? = some (.cells (rowV xs).toArray 87 (0, 0))) (hl : xs.length ≤ 1000000) : Kd.C k87 w (some ⟨vb, 0, none⟩) xs.length xs := by
  refine ⟨rfl, by omega, fun _ => ⟨_, rfl, fun j p hj => ⟨vcells p, rfl, k87_mk w p, fun i u hu => ?_⟩⟩⟩
  rw [add_plain, cell_of_row _ vb _ _ _ (0, 0) h]
  have hi : i < 7 := by have := (List.getElem?_eq_some_iff.1 hu).1; simpa [vcells] using this
  have := rowV_get xs j i p hj hi
  rw [List.getElem?_toArray]
  exact this.trans hu
theorem newV_C {w w1 : World} {A : Option Addr} {c : Nat} {xs : List S87} (h : NewV w w1 A c xs) (hl : xs.length ≤ 1000000) : Kd.C k87 w1 A xs.length xs ∧ xs.length ≤ c := by
  rcases h with ⟨rfl, rfl, rfl⟩ | ⟨vb, rfl, rfl, _, hb⟩
  · exact ⟨views_nil _ _, Nat.le_refl _⟩
  · exact ⟨views_row hb hl, Nat.le_refl _⟩
theorem isI_0 : isI 0 := by unfold isI; omega
theorem msgV_isI {m : Msg} (h : msgV m) : isI m.op.a ∧ isI m.op.b := by
  have h2 := h.2
  unfold restV at h2
  have hz : ∀ m2 : Msg, m = m2 → isI m2.op.a ∧ isI m2.op.b → isI m.op.a ∧ isI m.op.b := fun m2 e k => e ▸ k
  split at h2
  · exact h2.2.1.2.2
  · split at h2
    · exact hz _ h2.2.2.2.2 ⟨isI_0, isI_0⟩
    · split at h2
      · exact hz _ h2.2 ⟨isI_0, isI_0⟩
      · exact hz _ h2.2.2.2.2.2.2 ⟨isI_0, isI_0⟩
theorem msgV_views {m : Msg} (h : msgV m) : m.views.length ≤ 64 := by
  have h2 := h.2
  unfold restV at h2
  have hz : ∀ m2 : Msg, m = m2 → m2.views.length ≤ 64 → m.views.length ≤ 64 := fun m2 e k => e ▸ k
  split at h2
  · exact hz _ h2.2.2 (Nat.zero_le _)
  · split at h2
    · exact hz _ h2.2.2.2.2 (Nat.zero_le _)
    · split at h2
      · exact h2.1.1
      · exact hz _ h2.2.2.2.2.2.2 (Nat.zero_le _)
theorem dec_one (w : World) (A : Option Addr) (c : Nat) (b : List Int) (hi : In w A c b) :
    Calls Try.prog 18 #[.slice A b.length c] w fun e w' => ∃ (x : Msg) (p er : Int) (A1 : Option Addr) (c1 : Nat), e = .returned (.tuple #[.agg (MVc x A1 c1), .int .i64 p, .int .i64 er]) ∧ Took zMsg msgB msgV b x p er ∧ (Kd.C k87 w' A1 x.views.length x.views ∧ x.views.length ≤ c1) ∧ Below w.heap.size w w' := by
  refine (decode_calls w A c b hi).mono ?_
  rintro e w' ⟨hb, A1, c1, he, hn⟩
  have ht := took_of msgP_codec safe_msg zMsg hi.isB
  refine ⟨_, _, _, A1, c1, he, ht, newV_C hn ?_, hb⟩
  rcases ht with ⟨_, _, hv, _⟩ | ⟨_, _, _, hz⟩
  · have := msgV_views hv; omega
  · rw [hz]; exact Nat.zero_le _
theorem enc_took (x : Msg) (b : List Int) (hv : msgV x) (he : msgB x = b) (hb : IsB b) (A1 : Option Addr) (c1 : Nat) (w : World) (h : Kd.C k87 w A1 x.views.length x.views ∧ x.views.length ≤ c1) :
    Calls Try.prog 16 #[.agg (MVc x A1 c1)] w fun e w' => ∃ A c, e = .returned (.tuple #[.slice A b.length c, .int .i64 0]) ∧ In w' A c b ∧ Below w.heap.size w w' := by
  refine (encode_calls x (msgV_isI hv) A1 c1 w h.1 h.2).mono ?_
  rintro e w' ⟨v, hr, hR, hbl⟩
  rw [lay_right hv] at hr hR
  simp only [he] at hR
  obtain ⟨A, c, rfl, hin⟩ := in_of_R hR hb
  exact ⟨A, c, hr, hin, hbl⟩
theorem dec_seg_one (w : World) (A : Option Addr) (c : Nat) (b : List Int) (hi : In w A c b) :
    Calls Try.prog 28 #[.slice A b.length c] w fun e w' => ∃ (x : Seg) (p er : Int) (A1 : Option Addr) (c1 : Nat), e = .returned (.tuple #[.agg (SVc x A1 c1), .int .i64 p, .int .i64 er]) ∧ Took zSeg segB segV b x p er ∧ In w' A1 c1 x.data ∧ Below w.heap.size w w' := by
  refine (decseg_calls w A c b hi).mono ?_
  rintro e w' ⟨hb, A1, c1, he, hR⟩
  have ht := took_of segP_codec safe_seg zSeg hi.isB
  obtain ⟨A2, c2, hv, hc2, hC⟩ := Kd.R_reads hR
  obtain ⟨rfl, _, rfl⟩ := Value.slice.inj hv
  refine ⟨_, _, _, A1, c1, he, ht, ⟨hC, ?_, hc2⟩, hb⟩
  rcases ht with ⟨_, _, hv, _⟩ | ⟨_, _, _, hz⟩
  · exact hv.2.2.2.2.2
  · rw [hz]; intro y hy; cases hy
theorem enc_seg_took (x : Seg) (b : List Int) (hv : segV x) (he : segB x = b) (hb : IsB b) (A1 : Option Addr) (c1 : Nat) (w : World) (h : In w A1 c1 x.data) :
    Calls Try.prog 27 #[.agg (SVc x A1 c1)] w fun e w' => ∃ A c, e = .returned (.tuple #[.slice A b.length c, .int .i64 0]) ∧ In w' A c b ∧ Below w.heap.size w w' := by
  refine (encseg_calls x A1 c1 w h.row h.cap h.isB).mono ?_
  rintro e w' ⟨v, hr, hR, hbl⟩
  rw [lay_right hv] at hr hR
  simp only [he] at hR
  obtain ⟨A, c, rfl, hin⟩ := in_of_R hR hb
  exact ⟨A, c, hr, hin, hbl⟩
theorem dec_req_one (w : World) (A : Option Addr) (c : Nat) (b : List Int) (hi : In w A c b) :
    Calls Try.prog 33 #[.slice A b.length c] w fun e w' => ∃ (x : S25) (o : Sp.Op) (p er : Int), e = .returned (.tuple #[.agg #[.int .i64 x.f0, .int .i64 x.f1], .agg #[.int .i64 o.kind, .string o.name, .int .i64 o.a, .int .i64 o.b], .int .i64 p, .int .i64 er]) ∧ Took (z25, zOp) reqB reqV b (x, o) p er ∧ Below w.heap.size w w' := by
  refine (decreq_calls w A c b hi).mono ?_
  rintro e w' ⟨hb, he⟩
  exact ⟨_, _, _, _, he, took_of reqP_codec safe_req (z25, zOp) hi.isB, hb⟩
theorem enc_req_took (x : S25) (o : Sp.Op) (b : List Int) (hv : reqV (x, o)) (he : reqB (x, o) = b) (hb : IsB b) (w : World) :
    Calls Try.prog 32 #[.agg #[.int .i64 x.f0, .int .i64 x.f1], .agg #[.int .i64 o.kind, .string o.name, .int .i64 o.a, .int .i64 o.b]] w fun e w' => ∃ A c, e = .returned (.tuple #[.slice A b.length c, .int .i64 0]) ∧ In w' A c b ∧ Below w.heap.size w w' := by
  refine (encreq_calls x o w ⟨hv.2.2.2.1, hv.2.2.2.2⟩).mono ?_
  rintro e w' ⟨v, hr, hR, hbl⟩
  rw [lay_right hv] at hr hR
  simp only [he] at hR
  obtain ⟨A, c, rfl, hin⟩ := in_of_R hR hb
  exact ⟨A, c, hr, hin, hbl⟩
theorem dec_rep_one (w : World) (A : Option Addr) (c : Nat) (b : List Int) (hi : In w A c b) :
    Calls Try.prog 35 #[.slice A b.length c] w fun e w' => ∃ (x : Rep) (p er : Int), e = .returned (.tuple #[.agg #[.int .i64 x.call.f0, .int .i64 x.call.f1, .int .i64 x.err, .int .i64 x.value], .int .i64 p, .int .i64 er]) ∧ Took zRep repB repV b x p er ∧ Below w.heap.size w w' := by
  refine (decrep_calls w A c b hi).mono ?_
  rintro e w' ⟨hb, he⟩
  exact ⟨_, _, _, he, took_of repP_codec safe_rep zRep hi.isB, hb⟩
theorem enc_rep_took (x : Rep) (b : List Int) (hv : repV x) (he : repB x = b) (hb : IsB b) (w : World) :
    Calls Try.prog 34 #[.agg #[.int .i64 x.call.f0, .int .i64 x.call.f1, .int .i64 x.err, .int .i64 x.value]] w fun e w' => ∃ A c, e = .returned (.tuple #[.slice A b.length c, .int .i64 0]) ∧ In w' A c b ∧ Below w.heap.size w w' := by
  refine (encrep_calls x w hv.2.2).mono ?_
  rintro e w' ⟨v, hr, hR, hbl⟩
  rw [lay_right hv] at hr hR
  simp only [he] at hR
  obtain ⟨A, c, rfl, hin⟩ := in_of_R hR hb
  exact ⟨A, c, hr, hin, hbl⟩
/-- EncodeReply of what was refused. -/
theorem enc_rep_zero (w : World) :
    Calls Try.prog 34 #[.agg #[.int .i64 zRep.call.f0, .int .i64 zRep.call.f1, .int .i64 zRep.err, .int .i64 zRep.value]] w fun e w' => ∃ (v : Value) (n : Int), e = .returned (.tuple #[v, .int .i64 n]) ∧ Below w.heap.size w w' := by
  refine (encrep_calls zRep w isI_0).mono ?_
  rintro e w' ⟨v, hr, hR, hbl⟩
  exact ⟨v, _, hr, hbl⟩
theorem one_any (p er n : Int) (z t : Bool) (w : World) (ht : (er == 0) = t) (h : (er = 0 ∧ p = 0) ∨ (er = 20 ∧ 0 ≤ p ∧ p ≤ n ∧ z = true)) :
    Calls Try.prog 36 #[.int .i64 p, .int .i64 er, .int .i64 n, .bool z] w fun e w' => e = .returned (.tuple #[.bool t, .bool true]) ∧ Below w.heap.size w w' := by
  subst ht
  rcases h with ⟨rfl, rfl⟩ | ⟨rfl, h0, h1, rfl⟩
  · exact one_took n z w
  · exact one_not p n w h0 h1
theorem took_one {α : Type} {z : α} {e : α → List Int} {v : α → Prop} {b : List Int} {x : α} {p er : Int} (h : Took z e v b x p er) (t : Bool) (ht : x = z → t = true) : (er = 0 ∧ p = 0) ∨ (er = 20 ∧ 0 ≤ p ∧ p ≤ (b.length : Int) ∧ t = true) := by
  rcases h with ⟨h0, h1, _⟩ | ⟨h0, h1, h2, h3⟩
  · exact .inl ⟨h0, h1⟩
  · exact .inr ⟨h0, h1, h2, ht h3⟩
theorem took_true {α : Type} {z : α} {e : α → List Int} {v : α → Prop} {b : List Int} {x : α} {p er : Int} (h : Took z e v b x p er) (ht : (er == 0) = true) : v x ∧ e x = b := by
  rcases h with ⟨_, _, h2, h3⟩ | ⟨h0, _⟩
  · exact ⟨h2, h3⟩
  · rw [h0] at ht; cases ht
theorem took_false {α : Type} {z : α} {e : α → List Int} {v : α → Prop} {b : List Int} {x : α} {p er : Int} (h : Took z e v b x p er) (ht : (er == 0) = false) : x = z := by
  rcases h with ⟨h0, _⟩ | ⟨_, _, _, h3⟩
  · rw [h0] at ht; cases ht
  · exact h3
/-- lent(b)[:len(b)]: the bytes, with marks in the spare room. -/
theorem lent_cut {w : World} {base : Nat} {v : Value} {b : List Int} (h : Kd.R (Kd.int .u8) 5 w base (fun _ => True) v (b ++ [165, 90])) (hb : IsB b) : ∃ A c, v = .slice A (b.length + 2) c ∧ b.length + 2 ≤ c ∧ In w A c b := by
  have hlen : (b ++ [165, 90] : List Int).length = b.length + 2 := by simp
  obtain ⟨A, c, rfl, hc, hC⟩ := Kd.R_reads h
  rw [hlen] at hc hC ⊢
  refine ⟨A, c, rfl, hc, ?_, hb, by omega⟩
  have h2 := Kd.C_take (m := b.length) (k := Kd.int .u8) (xs := b ++ [165, 90]) (by rw [hlen]; exact hC) (by simp)
  rwa [List.take_left] at h2
theorem In_nil (w : World) : In w none 0 [] := ⟨⟨rfl, by decide, fun h => absurd h (by decide)⟩, (fun x h => by cases h), Nat.le_refl _⟩
theorem two_blocks (w : World) (a b : Obj) : ((w.alloc a).alloc b).heap[w.heap.size]? = some a ∧ ((w.alloc a).alloc b).heap[w.heap.size + 1]? = some b := by
  refine ⟨(Below.heap_alloc _ _ _ (by simp)).trans (heap_alloc_new w _), ?_⟩
  have := heap_alloc_new (w.alloc a) b
  rwa [show (w.alloc a).heap.size = w.heap.size + 1 by simp] at this
theorem took_zero {α : Type} {z : α} {e : α → List Int} {v : α → Prop} {b : List Int} {x : α} {p er : Int} (h : Took z e v b x p er) (ht : (er == 0) = true) : er = 0 ∧ p = 0 := by
  rcases h with ⟨h0, h1, _⟩ | ⟨h0, _⟩
  · exact ⟨h0, h1⟩
  · rw [h0] at ht; cases ht
theorem took_nil {α : Type} {z : α} {e : α → List Int} {v : α → Prop} {b : List Int} {x : α} {p er : Int} (h : Took z e v b x p er) (ht : (er == 0) = false) : er = 20 ∧ 0 ≤ p ∧ p ≤ (b.length : Int) := by
  rcases h with ⟨h0, _⟩ | ⟨h0, h1, h2, _⟩
  · rw [h0] at ht; cases ht
  · exact ⟨h0, h1, h2⟩
theorem sv_one (s : Seg) (A : Option Addr) (c : Nat) : (SVc s A c).all (·.oneCell') = true := by simp [SVc, Value.oneCell']
end Go.Proofs.Ytpgdmmjbhjbbhaa.Lw
end
section
namespace Go.Proofs.Ytpgdmmjbhjbbhaa.Ow
open Go Go.ChangeShapes Go.WideShapes Go.ChangeAt Go.RowKit Go.Proofs.Ytpgdmmjbhjbbhaa.P Go.Proofs.Ytpgdmmjbhjbbhaa.Sp Go.Proofs.Ytpgdmmjbhjbbhaa.Vd Go.Proofs.Ytpgdmmjbhjbbhaa.En Go.Proofs.Ytpgdmmjbhjbbhaa.Wr Go.Proofs.Ytpgdmmjbhjbbhaa.Rd Go.Proofs.Ytpgdmmjbhjbbhaa.Lw Go.Proofs.YtpgdmmjbhjbbhaaW.PrintWords
set_option linter.unusedVariables false
set_option linter.unusedSimpArgs false
/-- The datum weighs no more than a machine has. -/
def Fit {H : Type} (t : TypeId) (d : DataW H) : Prop := ∀ n ∈ d.weights Try.prog t, n ≤ 140737488351232
theorem fit_all {H : Type} {ts : List TypeId} {ds : List (DataW H)} (h : (DataW.weightsEach Try.prog ts ds).all (· ≤ reachBytes) = true) {j : Nat} {t : TypeId} {d : DataW H} (ht : ts[j]? = some t) (hd : ds[j]? = some d) : Fit t d := fun n hn => by
  have := List.all_eq_true.1 h _ (DataW.weights_mem_each ht hd n hn)
  exact of_decide_eq_true this
theorem weights_all {H : Type} {e : TypeId} : ∀ {l : List (DataW H)} {d : DataW H}, d ∈ l → ∀ n ∈ d.weights Try.prog e, n ∈ DataW.weightsAll Try.prog e l
  | x :: r, d, h, n, hn => by
    simp only [DataW.weightsAll, List.mem_append]
    rcases List.mem_cons.1 h with rfl | h
    · exact .inl hn
    · exact .inr (weights_all h n hn)
  | [], _, h, _, _ => by cases h
theorem fit_slice {H : Type} {t e : TypeId} {elems spare : List (DataW H)} (hu : Try.prog.underlying t = some (.slice e)) (h : Fit t (.slice elems spare)) : (elems.length + spare.length) * Try.prog.bytesOf e ≤ 140737488351232 ∧ ∀ d ∈ elems, Fit e d :=
  ⟨h _ (by simp [DataW.weights, hu]), fun d hd n hn => h n (by simp only [DataW.weights, hu, List.mem_cons, List.mem_append]; exact .inr (.inl (weights_all hd n hn)))⟩
section
variable {H : Type} {enc : TypeId × Value → H} {w : World} {spare : Nat → Bool} {held : Bool}
theorem isB_wf {l : List Int} (h : ∀ n ∈ l, (Lit.int .u8 n).wf = true) : IsB l := fun n hn => by
  have := h n hn
  simp [Lit.wf, IntKind.min, IntKind.max, IntKind.signed, IntKind.bits] at this
  omega
/-- Bytes as they are read. -/
theorem bytes_open {fuel : Nat} {cs : List Value} {x : DataW H × List MemPlace} (h : DataW.trod enc Try.prog w 0 spare held fuel 36 cs = some x) (hf : Fit 36 x.1) :
    ∃ (A : Option Addr) (c : Nat) (xs : List Int), cs = [.slice A xs.length c] ∧ In w A c xs ∧ xs.length ≤ 140737488351232 := by
  obtain ⟨v, rfl⟩ : ∃ v, cs = [v] := by
    rcases DataW.trod_slice Try.underlying36 h with ⟨g, _⟩ | ⟨a, l, c, _, _, _, _, g, _⟩
    · exact ⟨_, g⟩
    · exact ⟨_, g⟩
  rcases open_ints Try.underlying36 Try.underlying5 (by kernel_rfl) h with ⟨hcs, _⟩ | ⟨a, l, c, zs, hcs, _, hl, hm, hz, hy, hcell, hwz⟩
  · obtain rfl : v = .slice none 0 0 := by simpa using hcs
    exact ⟨none, 0, [], rfl, In_nil _, by simp⟩
  · obtain rfl : v = .slice (some a) l c := by simpa using hcs
    have hlz : l ≤ zs.length := by rw [hz]; split <;> omega
    have hlen : (zs.take l).length = l := by rw [List.length_take]; omega
    refine ⟨some a, c, zs.take l, by rw [hlen], ⟨Kd.C_of_reads (d := (0 : Int)) (h1 := fun _ => rfl) ⟨rfl, by simp only [maxLen] at hm; omega, fun _ => ⟨a, rfl, fun j hj => ?_⟩⟩, isB_wf (fun n hn => hwz n (List.mem_of_mem_take hn)), by omega⟩, ?_⟩
    · rw [hcell j (by omega), List.getD_eq_getElem?_getD, List.getD_eq_getElem?_getD, List.getElem?_take, if_pos (by omega)]
    · rw [hy] at hf
      have h1 := (fit_slice Try.underlying36 hf).1
      rw [show Try.prog.bytesOf 5 = 1 by kernel_rfl] at h1
      have h2 : (lits (H := H) .u8 (zs.take l)).length = (zs.take l).length := by simp [lits]
      omega
end
end Go.Proofs.Ytpgdmmjbhjbbhaa.Ow
end
section
namespace Go.Proofs.Ytpgdmmjbhjbbhaa.Lw
open Go Go.RowKit Go.Proofs.Ytpgdmmjbhjbbhaa.P Go.Proofs.Ytpgdmmjbhjbbhaa.Sp Go.Proofs.Ytpgdmmjbhjbbhaa.Vd Go.Proofs.Ytpgdmmjbhjbbhaa.En Go.Proofs.Ytpgdmmjbhjbbhaa.Wr Go.Proofs.Ytpgdmmjbhjbbhaa.Rd Go.Proofs.YtpgdmmjbhjbbhaaW.PrintWords Go.Proofs.YtpgdmmjbhjbbhaaW.PrintLast Go.Proofs.YtpgdmmjbhjbbhaaW.PrintMore
set_option linter.unusedVariables false
set_option linter.unusedSimpArgs false
set_option maxHeartbeats 8000000 in
set_option maxRecDepth 100000 in
theorem one_walk (w : World) (A : Option Addr) (c : Nat) (b : List Int) (hi : In w A c b) (hl : b.length ≤ 140737488351232) :
    Calls Try.prog 11 #[.slice A b.length c] w fun e w' => e = .returned (.bool true) ∧ Below w.heap.size w w' := by
  have HI := Aside0.mk hi
  have HL := Aside0.mk hl
  have hbl : (b.length : Int) ≤ 9223372036854775807 := by have := hi.len; omega
  have hb0 : (0 : Int) ≤ (b.length : Int) := by omega
  clear hi hl
  have hu33 := Try.underlying33
  have hu23 := Try.underlying23
  have hu25 := Try.underlying25
  have hu27 := Try.underlying27
  have hu29 := Try.underlying29
  have hu47 := Try.underlying47
  have hu50 := Try.underlying50
  go_enter Try.func11, Try.ntmps11
  go_upto_region 3 with (go_at_call 12; refine (able_calls _).mono ?_; rintro e w1 ⟨rfl, hb⟩; have HB := Aside0.mk hb; clear hb)
  go_upto_region 4 with (first
    | (refine wpList_store_row rfl 33 (.tmp 3) (.tmp 29) rfl w3.heap.size (MVc x A1 c1) (by rfl) (by rfl) 33 _ H3.out inf33 rfl (mv_one _ _ _) ?_)
    | (go_at_call 18; refine (dec_one _ _ _ b HIN.out).mono ?_; rintro e w3 ⟨x, p, er, A1, c1, rfl, ht, hC, hb⟩; have HT := Aside0.mk ht; have HC := Aside0.mk hC; have H3 := Aside0.mk (heap_alloc_new w3 (.cells (MVc zMsg none 0) 33 (0, 0))); clear ht hC; have n0_ := Aside0.mk (below_step HB.out hb); clear HB hb; have HB := n0_; clear n0_)
    | (go_at_call 19; refine (lent_calls A c b _ (In.below HI.out HB.out).row HL.out).mono ?_; rintro e w2 ⟨v, rfl, hR, hb⟩; obtain ⟨Av, cv, rfl, hcv, hin⟩ := lent_cut hR HI.out.isB; have hcI : (b.length : Int) ≤ (cv : Int) := (by omega); have HIN := Aside0.mk hin; clear hR hcv hin; have n0_ := Aside0.mk (below_step HB.out hb); clear HB hb; have HB := n0_; clear n0_))
  obtain ⟨w4, hw4⟩ : ∃ w4, w4 = (w3.alloc (.cells (MVc zMsg none 0) 33 (0, 0))).setRow w3.heap.size (MVc x A1 c1) := ⟨_, rfl⟩
  have HW4 := Aside0.mk hw4
  rw [mv_zero] at HW4
  have H4 : Aside0 (Below w3.heap.size w3 w4 ∧ w4.heap[w3.heap.size]? = some (.cells (MVc x A1 c1) 33 (0, 0))) := ⟨by
    exact ⟨by rw [hw4]; exact below_setRow (al_below _ _) (Nat.le_refl _) _, by rw [hw4]; exact setRow_blk H3.out _⟩⟩
  rw [← HW4.out]
  clear hw4 HW4 H3 HIN
  have HC4 : Aside0 (Kd.C k87 w4 A1 x.views.length x.views ∧ x.views.length ≤ c1) := ⟨Kd.C_below HC.out.1 H4.out.1, HC.out.2⟩
  have n0_ := Aside0.mk (below_step HB.out H4.out.1)
  have n1_ := Aside0.mk H4.out.2
  clear HB HC H4
  have HB := n0_
  have BK := n1_
  clear n0_ n1_
  obtain ⟨tk, htk⟩ : ∃ tk, (er == 0) = tk := ⟨_, rfl⟩
  obtain ⟨tz, htz⟩ : ∃ tz, dcd (x = zMsg) = tz := ⟨_, rfl⟩
  have HTK := Aside0.mk htk
  have HTZ := Aside0.mk htz
  have HO : Aside0 ((er = 0 ∧ p = 0) ∨ (er = 20 ∧ 0 ≤ p ∧ p ≤ (b.length : Int) ∧ tz = true)) := ⟨took_one HT.out tz (fun h => by rw [← htz]; exact dcd_pos h)⟩
  clear htk htz
  go_upto_region 5 with (first
    | ((with_reducible refine gate_dst (N := 37) rfl ?_); refine wpList_load_row rfl 33 (.tmp 3) rfl w3.heap.size (by rfl) 33 (MVc x A1 c1) (0, 0) _ BK.out Try.underlying33 rfl inf33 ?_)
    | (go_at_call 20; refine (same_calls x zMsg A1 c1 none 0 _ HC4.out.1 HC4.out.2 (views_nil _ _) (Nat.le_refl _)).mono ?_; rintro e w5 ⟨rfl, hb⟩; rw [HTZ.out]; have n1_ := Aside0.mk (blk_keep hb BK.out); have n2_ : Aside0 (Kd.C k87 w5 A1 x.views.length x.views ∧ x.views.length ≤ c1) := ⟨Kd.C_below HC4.out.1 hb, HC4.out.2⟩; clear BK HC4; have BK := n1_; have HC4 := n2_; clear n1_ n2_; have n0_ := Aside0.mk (below_step HB.out hb); clear HB hb; have HB := n0_; clear n0_)
    | (go_at_call 36; refine (one_any p er b.length tz tk _ HTK.out HO.out).mono ?_; rintro e w6 ⟨rfl, hb⟩; have n1_ := Aside0.mk (blk_keep hb BK.out); have n2_ : Aside0 (Kd.C k87 w6 A1 x.views.length x.views ∧ x.views.length ≤ c1) := ⟨Kd.C_below HC4.out.1 hb, HC4.out.2⟩; clear BK HC4; have BK := n1_; have HC4 := n2_; clear n1_ n2_; have n0_ := Aside0.mk (below_step HB.out hb); clear HB hb; have HB := n0_; clear n0_))
  go_upto_if 45 with fail
  go_cut [6, 32, 40, 41, 45] from 179 (fun _ _ _ _ _ wx => Aside0 (Below w.heap.size w wx))
  case first =>
    obtain rfl | rfl : tk = true ∨ tk = false := by cases tk <;> simp
    · have hv := took_true HT.out HTK.out
      have HV := Aside0.mk hv
      clear hv
      go_wp2_with (first
        | ((with_reducible refine gate_dst (N := 47) rfl ?_); refine wpList_load_row rfl 33 (.tmp 3) rfl w3.heap.size (by rfl) 33 (MVc x A1 c1) (0, 0) _ BK.out Try.underlying33 rfl inf33 ?_)
        | (go_at_call 16; refine (enc_took x b HV.out.1 HV.out.2 HI.out.isB A1 c1 _ HC4.out).mono ?_; rintro e w7 ⟨A2, c2, rfl, hin, hb⟩; have HF := Aside0.mk (And.intro (below_step HB.out hb) hin); clear hin hb)
        | (go_at_call 37; refine (alike_ex _ _ A c b _ rfl _ HF.out.2 (In.below HI.out HF.out.1)).mono ?_; rintro e w8 ⟨rfl, hb⟩; have HE := Aside0.mk (below_step HF.out.1 hb); clear hb))
      go_meet
      exact ⟨HE.out⟩
    · go_wp2_with fail
      go_meet
      exact ⟨HB.out⟩
  case rest =>
    clear HB HTK HT
    (try clear HO)
    (try clear BK)
    (try clear HTZ)
    (try clear HC4)
    have HB := hcut
    clear hcut
    go_upto_region 12 with (first
      | (refine wpList_store_row rfl 47 (.tmp 10) (.tmp 66) rfl w3.heap.size (SVc x A1 c1) (by rfl) (by rfl) 47 _ H3.out inf47 rfl (sv_one _ _ _) ?_)
      | (go_at_call 28; refine (dec_seg_one _ _ _ b HIN.out).mono ?_; rintro e w3 ⟨x, p, er, A1, c1, rfl, ht, hC, hb⟩; have HT := Aside0.mk ht; have HC := Aside0.mk hC; have H3 := Aside0.mk (heap_alloc_new w3 (.cells (SVc zSeg none 0) 47 (0, 0))); clear ht hC; have n0_ := Aside0.mk (below_step HB.out hb); clear HB hb; have HB := n0_; clear n0_)
      | (go_at_call 19; refine (lent_calls A c b _ (In.below HI.out HB.out).row HL.out).mono ?_; rintro e w2 ⟨v, rfl, hR, hb⟩; obtain ⟨Av, cv, rfl, hcv, hin⟩ := lent_cut hR HI.out.isB; have hcI : (b.length : Int) ≤ (cv : Int) := (by omega); have HIN := Aside0.mk hin; clear hR hcv hin; have n0_ := Aside0.mk (below_step HB.out hb); clear HB hb; have HB := n0_; clear n0_))
    obtain ⟨w4, hw4⟩ : ∃ w4, w4 = (w3.alloc (.cells (SVc zSeg none 0) 47 (0, 0))).setRow w3.heap.size (SVc x A1 c1) := ⟨_, rfl⟩
    have HW4 := Aside0.mk hw4
    rw [show SVc zSeg none 0 = #[.int .i64 0, .int .i64 0, .int .i64 0, .int .i64 0, .slice none 0 0] from rfl] at HW4
    have H4 : Aside0 (Below w3.heap.size w3 w4 ∧ w4.heap[w3.heap.size]? = some (.cells (SVc x A1 c1) 47 (0, 0))) := ⟨by
      exact ⟨by rw [hw4]; exact below_setRow (al_below _ _) (Nat.le_refl _) _, by rw [hw4]; exact setRow_blk H3.out _⟩⟩
    rw [← HW4.out]
    clear hw4 HW4 H3 HIN
    have HC4 : Aside0 (In w4 A1 c1 x.data) := ⟨In.below HC.out H4.out.1⟩
    have n0_ := Aside0.mk (below_step HB.out H4.out.1)
    have n1_ := Aside0.mk H4.out.2
    clear HB HC H4
    have HB := n0_
    have BK := n1_
    clear n0_ n1_
    obtain ⟨tk, htk⟩ : ∃ tk, (er == 0) = tk := ⟨_, rfl⟩
    obtain ⟨tz, htz⟩ : ∃ tz, dcd (x = zSeg) = tz := ⟨_, rfl⟩
    have HTK := Aside0.mk htk
    have HTZ := Aside0.mk htz
    have HO : Aside0 ((er = 0 ∧ p = 0) ∨ (er = 20 ∧ 0 ≤ p ∧ p ≤ (b.length : Int) ∧ tz = true)) := ⟨took_one HT.out tz (fun h => by rw [← htz]; exact dcd_pos h)⟩
    clear htk htz
    go_upto_region 13 with (first
      | ((with_reducible refine gate_dst (N := 74) rfl ?_); refine wpList_load_row rfl 47 (.tmp 10) rfl w3.heap.size (by rfl) 47 (SVc x A1 c1) (0, 0) _ BK.out Try.underlying47 rfl inf47 ?_)
      | (go_at_call 29; refine (sameSegment_calls x zSeg A1 c1 none 0 _ HC4.out (In_nil _)).mono ?_; rintro e w5 ⟨rfl, hb⟩; rw [HTZ.out]; have n1_ := Aside0.mk (blk_keep hb BK.out); have n2_ := Aside0.mk (In.below HC4.out hb); clear BK HC4; have BK := n1_; have HC4 := n2_; clear n1_ n2_; have n0_ := Aside0.mk (below_step HB.out hb); clear HB hb; have HB := n0_; clear n0_)
      | (go_at_call 36; refine (one_any p er b.length tz tk _ HTK.out HO.out).mono ?_; rintro e w6 ⟨rfl, hb⟩; have n1_ := Aside0.mk (blk_keep hb BK.out); have n2_ := Aside0.mk (In.below HC4.out hb); clear BK HC4; have BK := n1_; have HC4 := n2_; clear n1_ n2_; have n0_ := Aside0.mk (below_step HB.out hb); clear HB hb; have HB := n0_; clear n0_))
    go_upto_if 82 with fail
    go_cut [6, 69, 77, 78, 82] from 179 (fun _ _ _ _ _ wx => Aside0 (Below w.heap.size w wx))
    case first =>
      obtain rfl | rfl : tk = true ∨ tk = false := by cases tk <;> simp
      · have hv := took_true HT.out HTK.out
        have HV := Aside0.mk hv
        clear hv
        go_wp2_with (first
          | ((with_reducible refine gate_dst (N := 84) rfl ?_); refine wpList_load_row rfl 47 (.tmp 10) rfl w3.heap.size (by rfl) 47 (SVc x A1 c1) (0, 0) _ BK.out Try.underlying47 rfl inf47 ?_)
          | (go_at_call 27; refine (enc_seg_took x b HV.out.1 HV.out.2 HI.out.isB A1 c1 _ HC4.out).mono ?_; rintro e w7 ⟨A2, c2, rfl, hin, hb⟩; have HF := Aside0.mk (And.intro (below_step HB.out hb) hin); clear hin hb)
          | (go_at_call 37; refine (alike_ex _ _ A c b _ rfl _ HF.out.2 (In.below HI.out HF.out.1)).mono ?_; rintro e w8 ⟨rfl, hb⟩; have HE := Aside0.mk (below_step HF.out.1 hb); clear hb))
        go_meet
        exact ⟨HE.out⟩
      · go_wp2_with fail
        go_meet
        exact ⟨HB.out⟩
    case rest =>
      clear HB HTK HT
      (try clear HO)
      (try clear BK)
      (try clear HTZ)
      (try clear HC4)
      have HB := hcut
      clear hcut
      go_upto_region 20 with (first
        | (go_at_call 33; refine (dec_req_one _ _ _ b HIN.out).mono ?_; rintro e w3 ⟨x, o, p, er, rfl, ht, hb⟩; have HT := Aside0.mk ht; clear ht; have n0_ := Aside0.mk (below_step HB.out hb); clear HB hb; have HB := n0_; clear n0_)
        | (go_at_call 19; refine (lent_calls A c b _ (In.below HI.out HB.out).row HL.out).mono ?_; rintro e w2 ⟨v, rfl, hR, hb⟩; obtain ⟨Av, cv, rfl, hcv, hin⟩ := lent_cut hR HI.out.isB; have hcI : (b.length : Int) ≤ (cv : Int) := (by omega); have HIN := Aside0.mk hin; clear hR hcv hin; have n0_ := Aside0.mk (below_step HB.out hb); clear HB hb; have HB := n0_; clear n0_))
      obtain ⟨w4, hw4⟩ : ∃ w4, w4 = (w3.alloc (.cells #[.int .i64 x.f0, .int .i64 x.f1] 27 (0, 0))).alloc (.cells #[.int .i64 o.kind, .string o.name, .int .i64 o.a, .int .i64 o.b] 29 (0, 0)) := ⟨_, rfl⟩
      have HW4 := Aside0.mk hw4
      have H4 : Aside0 (Below w3.heap.size w3 w4 ∧ w4.heap[w3.heap.size]? = some (.cells #[.int .i64 x.f0, .int .i64 x.f1] 27 (0, 0)) ∧ w4.heap[w3.heap.size + 1]? = some (.cells #[.int .i64 o.kind, .string o.name, .int .i64 o.a, .int .i64 o.b] 29 (0, 0))) := ⟨by
        rw [hw4]
        exact ⟨below_al2 w3 _ _, two_blocks w3 _ _⟩⟩
      rw [← HW4.out]
      clear hw4 HW4 HIN
      have n0_ := Aside0.mk (below_step HB.out H4.out.1)
      have n1_ := Aside0.mk H4.out.2
      clear HB H4
      have HB := n0_
      have BK := n1_
      clear n0_ n1_
      obtain ⟨tk, htk⟩ : ∃ tk, (er == 0) = tk := ⟨_, rfl⟩
      have HTK := Aside0.mk htk
      clear htk
      go_cut [6, 7, 96, 102, 103, 104] from 179 (fun s6 s7 _ _ _ _ wx => s6 = .bool tk ∧ s7 = .bool true ∧ Aside0 (Below w.heap.size w wx ∧ wx.heap[w3.heap.size]? = some (.cells #[.int .i64 x.f0, .int .i64 x.f1] 27 (0, 0)) ∧ wx.heap[w3.heap.size + 1]? = some (.cells #[.int .i64 o.kind, .string o.name, .int .i64 o.a, .int .i64 o.b] 29 (0, 0))))
      case first =>
        obtain rfl | rfl : tk = true ∨ tk = false := by cases tk <;> simp
        · have HO := Aside0.mk (took_zero HT.out HTK.out)
          have kc0 : w4.cell? ⟨w3.heap.size, 0, none⟩ = some (.int .i64 x.f0) := (blk_cell BK.out.1 0).trans rfl
          have kc1 : w4.cell? ⟨w3.heap.size, 1, none⟩ = some (.int .i64 x.f1) := (blk_cell BK.out.1 1).trans rfl
          have ko0 : w4.cell? ⟨w3.heap.size + 1, 0, none⟩ = some (.int .i64 o.kind) := (blk_cell BK.out.2 0).trans rfl
          have ko1 : w4.cell? ⟨w3.heap.size + 1, 1, none⟩ = some (.string o.name) := (blk_cell BK.out.2 1).trans rfl
          have ko2 : w4.cell? ⟨w3.heap.size + 1, 2, none⟩ = some (.int .i64 o.a) := (blk_cell BK.out.2 2).trans rfl
          have ko3 : w4.cell? ⟨w3.heap.size + 1, 3, none⟩ = some (.int .i64 o.b) := (blk_cell BK.out.2 3).trans rfl
          go_wp2_with ((go_at_call 36; refine (one_any p er b.length _ true _ HTK.out (.inl HO.out)).mono ?_; rintro e w6 ⟨rfl, hb⟩; have HE := Aside0.mk (And.intro (below_step HB.out hb) (And.intro (blk_keep hb BK.out.1) (blk_keep hb BK.out.2))); clear hb))
          all_goals go_meet
          all_goals exact ⟨rfl, rfl, ⟨HE.out⟩⟩
        · have HZ := took_false HT.out HTK.out
          have HO := Aside0.mk (took_nil HT.out HTK.out)
          obtain ⟨rfl, rfl⟩ := Prod.mk.inj HZ
          clear HZ
          have kc0 : w4.cell? ⟨w3.heap.size, 0, none⟩ = some (.int .i64 0) := (blk_cell BK.out.1 0).trans rfl
          have kc1 : w4.cell? ⟨w3.heap.size, 1, none⟩ = some (.int .i64 0) := (blk_cell BK.out.1 1).trans rfl
          have ko0 : w4.cell? ⟨w3.heap.size + 1, 0, none⟩ = some (.int .i64 0) := (blk_cell BK.out.2 0).trans rfl
          have ko1 : w4.cell? ⟨w3.heap.size + 1, 1, none⟩ = some (.string ⟨#[]⟩) := (blk_cell BK.out.2 1).trans rfl
          have ko2 : w4.cell? ⟨w3.heap.size + 1, 2, none⟩ = some (.int .i64 0) := (blk_cell BK.out.2 2).trans rfl
          have ko3 : w4.cell? ⟨w3.heap.size + 1, 3, none⟩ = some (.int .i64 0) := (blk_cell BK.out.2 3).trans rfl
          go_wp2_with ((go_at_call 36; refine (one_any p er b.length true false _ HTK.out (.inr ⟨HO.out.1, HO.out.2.1, HO.out.2.2, rfl⟩)).mono ?_; rintro e w6 ⟨rfl, hb⟩; have HE := Aside0.mk (And.intro (below_step HB.out hb) (And.intro (blk_keep hb BK.out.1) (blk_keep hb BK.out.2))); clear hb))
          all_goals go_meet
          all_goals exact ⟨rfl, rfl, ⟨HE.out⟩⟩
      case rest =>
        obtain ⟨rfl, rfl, HH⟩ := hcut
        clear HB BK
        have HB := Aside0.mk HH.out.1
        have BK := Aside0.mk HH.out.2
        clear HH
        go_upto_if 125 with fail
        go_cut [6, 107, 120, 121, 125] from 179 (fun _ _ _ _ _ wx => Aside0 (Below w.heap.size w wx))
        case first =>
          obtain rfl | rfl : tk = true ∨ tk = false := by cases tk <;> simp
          · have hv := took_true HT.out HTK.out
            have HV := Aside0.mk hv
            clear hv
            have kc0 : wc.cell? ⟨w3.heap.size, 0, none⟩ = some (.int .i64 x.f0) := (blk_cell BK.out.1 0).trans rfl
            have kc1 : wc.cell? ⟨w3.heap.size, 1, none⟩ = some (.int .i64 x.f1) := (blk_cell BK.out.1 1).trans rfl
            have ko0 : wc.cell? ⟨w3.heap.size + 1, 0, none⟩ = some (.int .i64 o.kind) := (blk_cell BK.out.2 0).trans rfl
            have ko1 : wc.cell? ⟨w3.heap.size + 1, 1, none⟩ = some (.string o.name) := (blk_cell BK.out.2 1).trans rfl
            have ko2 : wc.cell? ⟨w3.heap.size + 1, 2, none⟩ = some (.int .i64 o.a) := (blk_cell BK.out.2 2).trans rfl
            have ko3 : wc.cell? ⟨w3.heap.size + 1, 3, none⟩ = some (.int .i64 o.b) := (blk_cell BK.out.2 3).trans rfl
            go_wp2_with (first
              | (go_at_call 32; refine (enc_req_took x o b HV.out.1 HV.out.2 HI.out.isB _).mono ?_; rintro e w7 ⟨A2, c2, rfl, hin, hb⟩; have HF := Aside0.mk (And.intro (below_step HB.out hb) hin); clear hin hb)
              | (go_at_call 37; refine (alike_ex _ _ A c b _ rfl _ HF.out.2 (In.below HI.out HF.out.1)).mono ?_; rintro e w8 ⟨rfl, hb⟩; have HE := Aside0.mk (below_step HF.out.1 hb); clear hb))
            go_meet
            exact ⟨HE.out⟩
          · go_wp2_with fail
            go_meet
            exact ⟨HB.out⟩
        case rest =>
          clear HB HTK HT
          (try clear HO)
          (try clear BK)
          (try clear HTZ)
          (try clear HC4)
          have HB := hcut
          clear hcut
          go_upto_region 28 with (first
            | (go_at_call 35; refine (dec_rep_one _ _ _ b HIN.out).mono ?_; rintro e w3 ⟨x, p, er, rfl, ht, hb⟩; have HT := Aside0.mk ht; clear ht; have n0_ := Aside0.mk (below_step HB.out hb); clear HB hb; have HB := n0_; clear n0_)
            | (go_at_call 19; refine (lent_calls A c b _ (In.below HI.out HB.out).row HL.out).mono ?_; rintro e w2 ⟨v, rfl, hR, hb⟩; obtain ⟨Av, cv, rfl, hcv, hin⟩ := lent_cut hR HI.out.isB; have hcI : (b.length : Int) ≤ (cv : Int) := (by omega); have HIN := Aside0.mk hin; clear hR hcv hin; have n0_ := Aside0.mk (below_step HB.out hb); clear HB hb; have HB := n0_; clear n0_))
          obtain ⟨w4, hw4⟩ : ∃ w4, w4 = w3.alloc (.cells #[.int .i64 x.call.f0, .int .i64 x.call.f1, .int .i64 x.err, .int .i64 x.value] 50 (0, 0)) := ⟨_, rfl⟩
          have HW4 := Aside0.mk hw4
          have H4 : Aside0 (Below w3.heap.size w3 w4 ∧ w4.heap[w3.heap.size]? = some (.cells #[.int .i64 x.call.f0, .int .i64 x.call.f1, .int .i64 x.err, .int .i64 x.value] 50 (0, 0))) := ⟨by
            rw [hw4]
            exact ⟨al_below w3 _, heap_alloc_new w3 _⟩⟩
          rw [← HW4.out]
          clear hw4 HW4 HIN
          have n0_ := Aside0.mk (below_step HB.out H4.out.1)
          have n1_ := Aside0.mk H4.out.2
          clear HB H4
          have HB := n0_
          have BK := n1_
          clear n0_ n1_
          obtain ⟨tk, htk⟩ : ∃ tk, (er == 0) = tk := ⟨_, rfl⟩
          have HTK := Aside0.mk htk
          clear htk
          go_cut [6, 7, 140, 146, 147] from 179 (fun s6 s7 _ _ _ wx => s6 = .bool tk ∧ s7 = .bool true ∧ Aside0 (Below w.heap.size w wx ∧ wx.heap[w3.heap.size]? = some (.cells #[.int .i64 x.call.f0, .int .i64 x.call.f1, .int .i64 x.err, .int .i64 x.value] 50 (0, 0))))
          case first =>
            obtain rfl | rfl : tk = true ∨ tk = false := by cases tk <;> simp
            · have HO := Aside0.mk (took_zero HT.out HTK.out)
              have kr0 : w4.cell? ⟨w3.heap.size, 0, none⟩ = some (.int .i64 x.call.f0) := (blk_cell BK.out 0).trans rfl
              have kr1 : w4.cell? ⟨w3.heap.size, 1, none⟩ = some (.int .i64 x.call.f1) := (blk_cell BK.out 1).trans rfl
              have kr2 : w4.cell? ⟨w3.heap.size, 2, none⟩ = some (.int .i64 x.err) := (blk_cell BK.out 2).trans rfl
              have kr3 : w4.cell? ⟨w3.heap.size, 3, none⟩ = some (.int .i64 x.value) := (blk_cell BK.out 3).trans rfl
              go_wp2_with ((go_at_call 36; refine (one_any p er b.length _ true _ HTK.out (.inl HO.out)).mono ?_; rintro e w6 ⟨rfl, hb⟩; have HE := Aside0.mk (And.intro (below_step HB.out hb) (blk_keep hb BK.out)); clear hb))
              all_goals go_meet
              all_goals exact ⟨rfl, rfl, ⟨HE.out⟩⟩
            · have HZ := took_false HT.out HTK.out
              have HO := Aside0.mk (took_nil HT.out HTK.out)
              subst HZ
              have kr0 : w4.cell? ⟨w3.heap.size, 0, none⟩ = some (.int .i64 0) := (blk_cell BK.out 0).trans rfl
              have kr1 : w4.cell? ⟨w3.heap.size, 1, none⟩ = some (.int .i64 0) := (blk_cell BK.out 1).trans rfl
              have kr2 : w4.cell? ⟨w3.heap.size, 2, none⟩ = some (.int .i64 0) := (blk_cell BK.out 2).trans rfl
              have kr3 : w4.cell? ⟨w3.heap.size, 3, none⟩ = some (.int .i64 0) := (blk_cell BK.out 3).trans rfl
              go_wp2_with ((go_at_call 36; refine (one_any p er b.length true false _ HTK.out (.inr ⟨HO.out.1, HO.out.2.1, HO.out.2.2, rfl⟩)).mono ?_; rintro e w6 ⟨rfl, hb⟩; have HE := Aside0.mk (And.intro (below_step HB.out hb) (blk_keep hb BK.out)); clear hb))
              all_goals go_meet
              all_goals exact ⟨rfl, rfl, ⟨HE.out⟩⟩
          case rest =>
            obtain ⟨rfl, rfl, HH⟩ := hcut
            clear HB BK
            have HB := Aside0.mk HH.out.1
            have BK := Aside0.mk HH.out.2
            clear HH
            obtain rfl | rfl : tk = true ∨ tk = false := by cases tk <;> simp
            · have hv := took_true HT.out HTK.out
              have HV := Aside0.mk hv
              clear hv
              have kr0 : wc.cell? ⟨w3.heap.size, 0, none⟩ = some (.int .i64 x.call.f0) := (blk_cell BK.out 0).trans rfl
              have kr1 : wc.cell? ⟨w3.heap.size, 1, none⟩ = some (.int .i64 x.call.f1) := (blk_cell BK.out 1).trans rfl
              have kr2 : wc.cell? ⟨w3.heap.size, 2, none⟩ = some (.int .i64 x.err) := (blk_cell BK.out 2).trans rfl
              have kr3 : wc.cell? ⟨w3.heap.size, 3, none⟩ = some (.int .i64 x.value) := (blk_cell BK.out 3).trans rfl
              go_wp2_with (first
                | (go_at_call 34; refine (enc_rep_took x b HV.out.1 HV.out.2 HI.out.isB _).mono ?_; rintro e w7 ⟨A2, c2, rfl, hin, hb⟩; have HF := Aside0.mk (And.intro (below_step HB.out hb) hin); clear hin hb)
                | (go_at_call 37; refine (alike_ex _ _ A c b _ rfl _ HF.out.2 (In.below HI.out HF.out.1)).mono ?_; rintro e w8 ⟨rfl, hb⟩; have HE := Aside0.mk (below_step HF.out.1 hb); clear hb))
              go_ret
              exact ⟨rfl, HE.out⟩
            · have HZ := took_false HT.out HTK.out
              subst HZ
              have kr0 : wc.cell? ⟨w3.heap.size, 0, none⟩ = some (.int .i64 0) := (blk_cell BK.out 0).trans rfl
              have kr1 : wc.cell? ⟨w3.heap.size, 1, none⟩ = some (.int .i64 0) := (blk_cell BK.out 1).trans rfl
              have kr2 : wc.cell? ⟨w3.heap.size, 2, none⟩ = some (.int .i64 0) := (blk_cell BK.out 2).trans rfl
              have kr3 : wc.cell? ⟨w3.heap.size, 3, none⟩ = some (.int .i64 0) := (blk_cell BK.out 3).trans rfl
              go_wp2_with ((go_at_call 34; refine (enc_rep_zero _).mono ?_; rintro e w7 ⟨v7, n7, rfl, hb⟩; have HE := Aside0.mk (below_step HB.out hb); clear hb))
              go_ret
              exact ⟨rfl, HE.out⟩
end Go.Proofs.Ytpgdmmjbhjbbhaa.Lw
end
