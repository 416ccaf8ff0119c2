/- texts that the proof needs, laid together by a program of this session. -/
import Derived.Test.YtpgdmmjbhjbbhaaKWireRequests16
section
namespace Go.Proofs.Ytpgdmmjbhjbbhaa.Rf
open Go Go.RowKit Go.Proofs.Ytpgdmmjbhjbbhaa.P Go.Proofs.Ytpgdmmjbhjbbhaa.Sp Go.Proofs.Ytpgdmmjbhjbbhaa.Vd Go.Proofs.Ytpgdmmjbhjbbhaa.En Go.Proofs.Ytpgdmmjbhjbbhaa.Wr Go.Proofs.Ytpgdmmjbhjbbhaa.Lw Go.Proofs.YtpgdmmjbhjbbhaaW.PrintWords Go.Proofs.YtpgdmmjbhjbbhaaW.PrintLast Go.Proofs.YtpgdmmjbhjbbhaaW.PrintMore
open Go.Proofs.Ytpgdmmjbhjbbhaa.Rd (pl In setRow_far setRow_blk SGc DecSP results_cell_two inf47 R_keep2 sg_one)
set_option linter.unusedVariables false
set_option linter.unusedSimpArgs false
end Go.Proofs.Ytpgdmmjbhjbbhaa.Rf
end
section
namespace Go.Proofs.Ytpgdmmjbhjbbhaa.Lw
open Go Go.RowKit Go.Proofs.Ytpgdmmjbhjbbhaa.P Go.Proofs.Ytpgdmmjbhjbbhaa.Sp Go.Proofs.Ytpgdmmjbhjbbhaa.Vd Go.Proofs.Ytpgdmmjbhjbbhaa.En Go.Proofs.Ytpgdmmjbhjbbhaa.Wr Go.Proofs.Ytpgdmmjbhjbbhaa.Rd Go.Proofs.Ytpgdmmjbhjbbhaa.Rf Go.Proofs.YtpgdmmjbhjbbhaaW.PrintWords Go.Proofs.YtpgdmmjbhjbbhaaW.PrintLast Go.Proofs.YtpgdmmjbhjbbhaaW.PrintMore
set_option linter.unusedVariables false
set_option linter.unusedSimpArgs false
theorem in_cut {w : World} {base : Nat} {ok : Nat → Prop} {A : Option Addr} {c : Nat} {b : List Int} (h : Kd.R (Kd.int .u8) 5 w base ok (.slice A (b.length + 2) c) (b ++ [165, 90])) (hb : IsB b) : In w A c b := by
  obtain ⟨A', c', hv, _, hi⟩ := lent_cut (Kd.R_mono h (fun _ _ => trivial)) hb
  obtain ⟨rfl, _, rfl⟩ := Value.slice.inj hv
  exact hi
theorem in_row {w : World} {base : Nat} {ok : Nat → Prop} {A : Option Addr} {c n : Nat} {b : List Int} (h : Kd.R (Kd.int .u8) 5 w base ok (.slice A n c) b) (hb : IsB b) : In w A c b := by
  have := Kd.R_reads' h
  exact ⟨this.2.2, hb, this.1 ▸ this.2.1⟩
end Go.Proofs.Ytpgdmmjbhjbbhaa.Lw
end
section
namespace Go.Proofs.Ytpgdmmjbhjbbhaa.Lw
open Go Go.RowKit Go.Proofs.Ytpgdmmjbhjbbhaa.P Go.Proofs.Ytpgdmmjbhjbbhaa.Sp Go.Proofs.Ytpgdmmjbhjbbhaa.Vd Go.Proofs.Ytpgdmmjbhjbbhaa.En Go.Proofs.Ytpgdmmjbhjbbhaa.Wr Go.Proofs.Ytpgdmmjbhjbbhaa.Rd Go.Proofs.Ytpgdmmjbhjbbhaa.Rf Go.Proofs.YtpgdmmjbhjbbhaaW.PrintWords Go.Proofs.YtpgdmmjbhjbbhaaW.PrintLast Go.Proofs.YtpgdmmjbhjbbhaaW.PrintMore
set_option linter.unusedVariables false
set_option linter.unusedSimpArgs false
/-- A row of its own that lies ahead of what is written over. -/
theorem row_ahead {w w1 : World} {base base2 a lo hi : Nat} {v : Value} {b : List Int} (h : Kd.R (Kd.int .u8) 5 w base (fun k => base2 ≤ k ∧ k < a) v b) (hk : Kept w w1 (fun k => lo ≤ k ∧ k < hi)) (hh : a ≤ lo) : Kd.R (Kd.int .u8) 5 w1 base (fun k => base2 ≤ k ∧ k < a) v b :=
  Kd.R_kept h hk (fun k h1 h2 => by omega)
theorem enc_req_law (x : S25) (o : Sp.Op) (w : World) (h : isI o.a ∧ isI o.b) :
    Calls Try.prog 32 #[.agg #[.int .i64 x.f0, .int .i64 x.f1], .agg #[.int .i64 o.kind, .string o.name, .int .i64 o.a, .int .i64 o.b]] w fun e w' => ∃ Ap cp, e = .returned (.tuple #[.slice Ap (lay reqB reqV (x, o)).1.length cp, .int .i64 (lay reqB reqV (x, o)).2]) ∧ Kd.R (Kd.int .u8) 5 w' w.heap.size (fun _ => True) (.slice Ap (lay reqB reqV (x, o)).1.length cp) (lay reqB reqV (x, o)).1 ∧ Below w.heap.size w w' := by
  refine (encreq_calls x o w h).mono ?_
  rintro e w' ⟨v, he, hR, hb⟩
  obtain ⟨Ap, cp, rfl⟩ := Kd.R_slice hR
  exact ⟨Ap, cp, he, hR, hb⟩
theorem renc_req_law (x : S25) (o : Sp.Op) (w : World) (h : isI o.a ∧ isI o.b) :
    Calls Try.prog 72 #[.agg #[.int .i64 x.f0, .int .i64 x.f1], .agg #[.int .i64 o.kind, .string o.name, .int .i64 o.a, .int .i64 o.b]] w fun e w' => ∃ Ap cp, e = .returned (.tuple #[.slice Ap (lay reqB reqV (x, o)).1.length cp, .int .i64 (lay reqB reqV (x, o)).2]) ∧ Kd.R (Kd.int .u8) 5 w' w.heap.size (fun _ => True) (.slice Ap (lay reqB reqV (x, o)).1.length cp) (lay reqB reqV (x, o)).1 ∧ Below w.heap.size w w' := by
  refine (rencreq_calls x o w h).mono ?_
  rintro e w' ⟨v, he, hR, hb⟩
  obtain ⟨Ap, cp, rfl⟩ := Kd.R_slice hR
  exact ⟨Ap, cp, he, hR, hb⟩
theorem enc_rep_law (r : Rep) (w : World) (h : isI r.value) :
    Calls Try.prog 34 #[.agg #[.int .i64 r.call.f0, .int .i64 r.call.f1, .int .i64 r.err, .int .i64 r.value]] w fun e w' => ∃ Ap cp, e = .returned (.tuple #[.slice Ap (lay repB repV r).1.length cp, .int .i64 (lay repB repV r).2]) ∧ Kd.R (Kd.int .u8) 5 w' w.heap.size (fun _ => True) (.slice Ap (lay repB repV r).1.length cp) (lay repB repV r).1 ∧ Below w.heap.size w w' := by
  refine (encrep_calls r w h).mono ?_
  rintro e w' ⟨v, he, hR, hb⟩
  obtain ⟨Ap, cp, rfl⟩ := Kd.R_slice hR
  exact ⟨Ap, cp, he, hR, hb⟩
theorem renc_rep_law (r : Rep) (w : World) (h : isI r.value) :
    Calls Try.prog 74 #[.agg #[.int .i64 r.call.f0, .int .i64 r.call.f1, .int .i64 r.err, .int .i64 r.value]] w fun e w' => ∃ Ap cp, e = .returned (.tuple #[.slice Ap (lay repB repV r).1.length cp, .int .i64 (lay repB repV r).2]) ∧ Kd.R (Kd.int .u8) 5 w' w.heap.size (fun _ => True) (.slice Ap (lay repB repV r).1.length cp) (lay repB repV r).1 ∧ Below w.heap.size w w' := by
  refine (rencrep_calls r w h).mono ?_
  rintro e w' ⟨v, he, hR, hb⟩
  obtain ⟨Ap, cp, rfl⟩ := Kd.R_slice hR
  exact ⟨Ap, cp, he, hR, hb⟩
theorem dec_req_law (w : World) (A : Option Addr) (c : Nat) (b : List Int) (hi : In w A c b) {y : S25} {u : Sp.Op} {p er : Int} (h : whole (z25, zOp) reqP b = ((y, u), p, er)) :
    Calls Try.prog 33 #[.slice A b.length c] w fun e w' => e = .returned (.tuple #[.agg #[.int .i64 y.f0, .int .i64 y.f1], .agg #[.int .i64 u.kind, .string u.name, .int .i64 u.a, .int .i64 u.b], .int .i64 p, .int .i64 er]) ∧ Below w.heap.size w w' := by
  refine (decreq_calls w A c b hi).mono ?_
  rintro e w' ⟨hb, he⟩
  rw [h] at he
  exact ⟨he, hb⟩
theorem rdec_req_law (w : World) (A : Option Addr) (c : Nat) (b : List Int) (hi : In w A c b) {y : S25} {u : Sp.Op} {p er : Int} (h : whole (z25, zOp) reqP b = ((y, u), p, er)) :
    Calls Try.prog 73 #[.slice A b.length c] w fun e w' => e = .returned (.tuple #[.agg #[.int .i64 y.f0, .int .i64 y.f1], .agg #[.int .i64 u.kind, .string u.name, .int .i64 u.a, .int .i64 u.b], .int .i64 p, .int .i64 er]) ∧ Below w.heap.size w w' := by
  refine (rdecreq_calls w A c b hi).mono ?_
  rintro e w' ⟨hb, he⟩
  rw [h] at he
  exact ⟨he, hb⟩
theorem dec_rep_law (w : World) (A : Option Addr) (c : Nat) (b : List Int) (hi : In w A c b) {y : Rep} {p er : Int} (h : whole zRep repP b = (y, p, er)) :
    Calls Try.prog 35 #[.slice A b.length c] w fun e w' => e = .returned (.tuple #[.agg #[.int .i64 y.call.f0, .int .i64 y.call.f1, .int .i64 y.err, .int .i64 y.value], .int .i64 p, .int .i64 er]) ∧ Below w.heap.size w w' := by
  refine (decrep_calls w A c b hi).mono ?_
  rintro e w' ⟨hb, he⟩
  rw [h] at he
  exact ⟨he, hb⟩
theorem rdec_rep_law (w : World) (A : Option Addr) (c : Nat) (b : List Int) (hi : In w A c b) {y : Rep} {p er : Int} (h : whole zRep repP b = (y, p, er)) :
    Calls Try.prog 75 #[.slice A b.length c] w fun e w' => e = .returned (.tuple #[.agg #[.int .i64 y.call.f0, .int .i64 y.call.f1, .int .i64 y.err, .int .i64 y.value], .int .i64 p, .int .i64 er]) ∧ Below w.heap.size w w' := by
  refine (rdecrep_calls w A c b hi).mono ?_
  rintro e w' ⟨hb, he⟩
  rw [h] at he
  exact ⟨he, hb⟩
set_option maxHeartbeats 8000000 in
set_option maxRecDepth 100000 in
theorem requests_calls (w : World) (x : S25) (o : Sp.Op) (A : Option Addr) (c : Nat) (b : List Int) (ho : isI o.a ∧ isI o.b) (hb : In w A c b) (hbl : b.length ≤ 140737488351232) :
    Calls Try.prog 23 #[.agg #[.int .i64 x.f0, .int .i64 x.f1], .agg #[.int .i64 o.kind, .string o.name, .int .i64 o.a, .int .i64 o.b], .slice A b.length c] w fun e w' => e = .returned (.bool true) ∧ Below w.heap.size w w' := by
  have HO := Aside0.mk ho
  have HI := Aside0.mk (And.intro hb hbl)
  have hbI : (b.length : Int) ≤ 9223372036854775807 := by omega
  have hb0 : (0 : Int) ≤ (b.length : Int) := by omega
  clear ho hb hbl
  have hu27 := Try.underlying27
  have hu29 := Try.underlying29
  have hu50 := Try.underlying50
  obtain ⟨wa, hwa⟩ : ∃ wa, wa = (w.alloc (.cells #[.int .i64 x.f0, .int .i64 x.f1] 27 (0, 0))).alloc (.cells #[.int .i64 o.kind, .string o.name, .int .i64 o.a, .int .i64 o.b] 29 (0, 0)) := ⟨_, rfl⟩
  have HWA := Aside0.mk hwa
  have H0 : Aside0 (Below w.heap.size w wa ∧ wa.heap[w.heap.size]? = some (.cells #[.int .i64 x.f0, .int .i64 x.f1] 27 (0, 0)) ∧ wa.heap[w.heap.size + 1]? = some (.cells #[.int .i64 o.kind, .string o.name, .int .i64 o.a, .int .i64 o.b] 29 (0, 0))) := ⟨by rw [hwa]; exact ⟨below_al2 w _ _, (two_blocks w _ _).1, (two_blocks w _ _).2⟩⟩
  clear hwa
  go_enter Try.func23, Try.ntmps23
  go_upto_region 1 with fail
  rw [← HWA.out]
  have kc0 : wa.cell? ⟨w.heap.size, 0, none⟩ = some (.int .i64 x.f0) := (blk_cell H0.out.2.1 0).trans rfl; have kc1 : wa.cell? ⟨w.heap.size, 1, none⟩ = some (.int .i64 x.f1) := (blk_cell H0.out.2.1 1).trans rfl; have ko0 : wa.cell? ⟨w.heap.size + 1, 0, none⟩ = some (.int .i64 o.kind) := (blk_cell H0.out.2.2 0).trans rfl; have ko1 : wa.cell? ⟨w.heap.size + 1, 1, none⟩ = some (.string o.name) := (blk_cell H0.out.2.2 1).trans rfl; have ko2 : wa.cell? ⟨w.heap.size + 1, 2, none⟩ = some (.int .i64 o.a) := (blk_cell H0.out.2.2 2).trans rfl; have ko3 : wa.cell? ⟨w.heap.size + 1, 3, none⟩ = some (.int .i64 o.b) := (blk_cell H0.out.2.2 3).trans rfl
  go_upto_region 3 with (first
    | (go_at_call 32; refine (enc_req_law x o _ HO.out).mono ?_; rintro e w1 ⟨Ap, cp, rfl, hR, hb⟩; have H1 : Aside0 (Below w.heap.size w w1 ∧ Kd.R (Kd.int .u8) 5 w1 w.heap.size (fun k => wa.heap.size ≤ k ∧ k < w1.heap.size) (.slice Ap (lay reqB reqV (x, o)).1.length cp) (lay reqB reqV (x, o)).1 ∧ w1.heap[w.heap.size]? = some (.cells #[.int .i64 x.f0, .int .i64 x.f1] 27 (0, 0)) ∧ w1.heap[w.heap.size + 1]? = some (.cells #[.int .i64 o.kind, .string o.name, .int .i64 o.a, .int .i64 o.b] 29 (0, 0))) := ⟨below_step H0.out.1 hb, lent_in hR H0.out.1.size, blk_keep hb H0.out.2.1, blk_keep hb H0.out.2.2⟩; clear hR hb kc0 kc1 ko0 ko1 ko2 ko3; have kc0 : w1.cell? ⟨w.heap.size, 0, none⟩ = some (.int .i64 x.f0) := (blk_cell H1.out.2.2.1 0).trans rfl; have kc1 : w1.cell? ⟨w.heap.size, 1, none⟩ = some (.int .i64 x.f1) := (blk_cell H1.out.2.2.1 1).trans rfl; have ko0 : w1.cell? ⟨w.heap.size + 1, 0, none⟩ = some (.int .i64 o.kind) := (blk_cell H1.out.2.2.2 0).trans rfl; have ko1 : w1.cell? ⟨w.heap.size + 1, 1, none⟩ = some (.string o.name) := (blk_cell H1.out.2.2.2 1).trans rfl; have ko2 : w1.cell? ⟨w.heap.size + 1, 2, none⟩ = some (.int .i64 o.a) := (blk_cell H1.out.2.2.2 2).trans rfl; have ko3 : w1.cell? ⟨w.heap.size + 1, 3, none⟩ = some (.int .i64 o.b) := (blk_cell H1.out.2.2.2 3).trans rfl)
    | (go_at_call 72; refine (renc_req_law x o _ HO.out).mono ?_; rintro e w2 ⟨Aq, cq, rfl, hR, hb⟩; have H2 : Aside0 (Below w.heap.size w w2 ∧ Kd.R (Kd.int .u8) 5 w2 w.heap.size (fun k => wa.heap.size ≤ k ∧ k < w1.heap.size) (.slice Ap (lay reqB reqV (x, o)).1.length cp) (lay reqB reqV (x, o)).1 ∧ Kd.R (Kd.int .u8) 5 w2 w.heap.size (fun k => w1.heap.size ≤ k ∧ k < w2.heap.size) (.slice Aq (lay reqB reqV (x, o)).1.length cq) (lay reqB reqV (x, o)).1 ∧ w.heap.size ≤ w2.heap.size ∧ w1.heap.size ≤ w2.heap.size) := ⟨below_step H1.out.1 hb, Kd.R_below H1.out.2.1 hb, lent_in hR H1.out.1.size, Nat.le_trans H1.out.1.size hb.size, hb.size⟩; clear hR hb kc0 kc1 ko0 ko1 ko2 ko3))
  clear H0 H1 HWA
  obtain ⟨pb, er0, hpb⟩ : ∃ pb er0, lay reqB reqV (x, o) = (pb, er0) := ⟨_, _, rfl⟩
  have HPB : Aside0 (IsB pb) := ⟨by have := lay_isB (v := reqV) (b_req (x, o)); rwa [hpb] at this⟩
  have H3 := H2
  rw [hpb] at H3
  rw [hpb]
  clear hpb H2
  obtain ⟨y, u, p, er, hyp⟩ : ∃ y u p er, whole (z25, zOp) reqP b = ((y, u), p, er) := ⟨_, _, _, _, rfl⟩
  have HYP := Aside0.mk hyp
  clear hyp
  go_upto_region 4 with (go_at_call 19; refine (lent_calls A c b _ (In.below HI.out.1 H3.out.1).row HI.out.2).mono ?_; rintro e w3 ⟨v, rfl, hR, hb⟩; obtain ⟨Ab, cb, rfl, hcv, hin⟩ := lent_cut hR HI.out.1.isB; have hcB : (b.length : Int) ≤ (cb : Int) := (by omega); clear hcv hin; have H4 : Aside0 (Below w.heap.size w w3 ∧ Kd.R (Kd.int .u8) 5 w3 w.heap.size (fun k => wa.heap.size ≤ k ∧ k < w1.heap.size) (.slice Ap pb.length cp) pb ∧ Kd.R (Kd.int .u8) 5 w3 w.heap.size (fun k => w1.heap.size ≤ k ∧ k < w2.heap.size) (.slice Aq pb.length cq) pb ∧ Kd.R (Kd.int .u8) 5 w3 w.heap.size (fun k => w2.heap.size ≤ k ∧ k < w3.heap.size) (.slice Ab (b.length + 2) cb) (b ++ [165, 90])) := ⟨below_step H3.out.1 hb, Kd.R_below H3.out.2.1 hb, Kd.R_below H3.out.2.2.1 hb, lent_in hR H3.out.1.size⟩; clear hR hb)
  go_upto_region 5 with (go_at_call 33; refine (dec_req_law _ Ab cb b (in_cut H4.out.2.2.2 HI.out.1.isB) HYP.out).mono ?_; rintro e w4 ⟨rfl, hb⟩; have H5 : Aside0 (Below w.heap.size w w4 ∧ Kd.R (Kd.int .u8) 5 w4 w.heap.size (fun k => wa.heap.size ≤ k ∧ k < w1.heap.size) (.slice Ap pb.length cp) pb ∧ Kd.R (Kd.int .u8) 5 w4 w.heap.size (fun k => w1.heap.size ≤ k ∧ k < w2.heap.size) (.slice Aq pb.length cq) pb ∧ Kd.R (Kd.int .u8) 5 w4 w.heap.size (fun k => w2.heap.size ≤ k ∧ k < w3.heap.size) (.slice Ab (b.length + 2) cb) (b ++ [165, 90]) ∧ w3.heap.size ≤ w4.heap.size) := ⟨below_step H4.out.1 hb, Kd.R_below H4.out.2.1 hb, Kd.R_below H4.out.2.2.1 hb, Kd.R_below H4.out.2.2.2 hb, hb.size⟩; clear hb)
  obtain ⟨w5, hw5⟩ : ∃ w5, w5 = (w4.alloc (.cells #[.int .i64 y.f0, .int .i64 y.f1] 27 (0, 0))).alloc (.cells #[.int .i64 u.kind, .string u.name, .int .i64 u.a, .int .i64 u.b] 29 (0, 0)) := ⟨_, rfl⟩
  have HW5 := Aside0.mk hw5
  have H6 : Aside0 (Below w.heap.size w w5 ∧ Kd.R (Kd.int .u8) 5 w5 w.heap.size (fun k => wa.heap.size ≤ k ∧ k < w1.heap.size) (.slice Ap pb.length cp) pb ∧ Kd.R (Kd.int .u8) 5 w5 w.heap.size (fun k => w1.heap.size ≤ k ∧ k < w2.heap.size) (.slice Aq pb.length cq) pb ∧ Kd.R (Kd.int .u8) 5 w5 w.heap.size (fun k => w2.heap.size ≤ k ∧ k < w3.heap.size) (.slice Ab (b.length + 2) cb) (b ++ [165, 90]) ∧ w4.heap.size ≤ w5.heap.size ∧ w5.heap[w4.heap.size]? = some (.cells #[.int .i64 y.f0, .int .i64 y.f1] 27 (0, 0)) ∧ w5.heap[w4.heap.size + 1]? = some (.cells #[.int .i64 u.kind, .string u.name, .int .i64 u.a, .int .i64 u.b] 29 (0, 0))) := ⟨by
    have hb : Below w4.heap.size w4 w5 := by rw [hw5]; exact below_al2 w4 _ _
    exact ⟨below_step H5.out.1 hb, Kd.R_below H5.out.2.1 hb, Kd.R_below H5.out.2.2.1 hb, Kd.R_below H5.out.2.2.2.1 hb, hb.size, by rw [hw5]; exact ⟨(two_blocks w4 _ _).1, (two_blocks w4 _ _).2⟩⟩⟩
  rw [← HW5.out]
  clear hw5 HW5
  go_upto_region 6 with (go_at_call 73; refine (rdec_req_law _ A c b (In.below HI.out.1 H6.out.1) HYP.out).mono ?_; rintro e w6 ⟨rfl, hb⟩; have H7 : Aside0 (Below w.heap.size w w6 ∧ Kd.R (Kd.int .u8) 5 w6 w.heap.size (fun k => wa.heap.size ≤ k ∧ k < w1.heap.size) (.slice Ap pb.length cp) pb ∧ Kd.R (Kd.int .u8) 5 w6 w.heap.size (fun k => w1.heap.size ≤ k ∧ k < w2.heap.size) (.slice Aq pb.length cq) pb ∧ Kd.R (Kd.int .u8) 5 w6 w.heap.size (fun k => w2.heap.size ≤ k ∧ k < w3.heap.size) (.slice Ab (b.length + 2) cb) (b ++ [165, 90]) ∧ w5.heap.size ≤ w6.heap.size ∧ w6.heap[w4.heap.size]? = some (.cells #[.int .i64 y.f0, .int .i64 y.f1] 27 (0, 0)) ∧ w6.heap[w4.heap.size + 1]? = some (.cells #[.int .i64 u.kind, .string u.name, .int .i64 u.a, .int .i64 u.b] 29 (0, 0))) := ⟨below_step H6.out.1 hb, Kd.R_below H6.out.2.1 hb, Kd.R_below H6.out.2.2.1 hb, Kd.R_below H6.out.2.2.2.1 hb, hb.size, blk_keep hb H6.out.2.2.2.2.2.1, blk_keep hb H6.out.2.2.2.2.2.2⟩; clear hb)
  obtain ⟨w7, hw7⟩ : ∃ w7, w7 = (w6.alloc (.cells #[.int .i64 y.f0, .int .i64 y.f1] 27 (0, 0))).alloc (.cells #[.int .i64 u.kind, .string u.name, .int .i64 u.a, .int .i64 u.b] 29 (0, 0)) := ⟨_, rfl⟩
  have HW7 := Aside0.mk hw7
  have H8 : Aside0 (Below w.heap.size w w7 ∧ Kd.R (Kd.int .u8) 5 w7 w.heap.size (fun k => wa.heap.size ≤ k ∧ k < w1.heap.size) (.slice Ap pb.length cp) pb ∧ Kd.R (Kd.int .u8) 5 w7 w.heap.size (fun k => w1.heap.size ≤ k ∧ k < w2.heap.size) (.slice Aq pb.length cq) pb ∧ Kd.R (Kd.int .u8) 5 w7 w.heap.size (fun k => w2.heap.size ≤ k ∧ k < w3.heap.size) (.slice Ab (b.length + 2) cb) (b ++ [165, 90]) ∧ (w3.heap.size ≤ w4.heap.size ∧ w4.heap.size ≤ w5.heap.size ∧ w5.heap.size ≤ w6.heap.size ∧ w.heap.size ≤ w2.heap.size ∧ w1.heap.size ≤ w2.heap.size) ∧ w7.heap[w4.heap.size]? = some (.cells #[.int .i64 y.f0, .int .i64 y.f1] 27 (0, 0)) ∧ w7.heap[w4.heap.size + 1]? = some (.cells #[.int .i64 u.kind, .string u.name, .int .i64 u.a, .int .i64 u.b] 29 (0, 0)) ∧ w7.heap[w6.heap.size]? = some (.cells #[.int .i64 y.f0, .int .i64 y.f1] 27 (0, 0)) ∧ w7.heap[w6.heap.size + 1]? = some (.cells #[.int .i64 u.kind, .string u.name, .int .i64 u.a, .int .i64 u.b] 29 (0, 0))) := ⟨by
    have hb : Below w6.heap.size w6 w7 := by rw [hw7]; exact below_al2 w6 _ _
    exact ⟨below_step H7.out.1 hb, Kd.R_below H7.out.2.1 hb, Kd.R_below H7.out.2.2.1 hb, Kd.R_below H7.out.2.2.2.1 hb, ⟨H5.out.2.2.2.2, H6.out.2.2.2.2.1, H7.out.2.2.2.2.1, H3.out.2.2.2⟩, blk_keep hb H7.out.2.2.2.2.2.1, blk_keep hb H7.out.2.2.2.2.2.2, by rw [hw7]; exact ⟨(two_blocks w6 _ _).1, (two_blocks w6 _ _).2⟩⟩⟩
  rw [← HW7.out]
  clear hw7 HW7 H3 H4 H5 H6 H7
  go_wp2_with (first
    | (go_at_call 42; refine (back_law w _ _ b w2.heap.size w3.heap.size H8.out.1 H8.out.2.2.2.2.1.2.2.2.1 H8.out.2.2.2.1 A c HI.out.1 HI.out.2).mono ?_; rintro e w8 ⟨rfl, hb, hk⟩; have H9 : Aside0 (Below w.heap.size w w8 ∧ In w8 Ap cp pb ∧ In w8 Aq cq pb ∧ w8.heap[w4.heap.size]? = some (.cells #[.int .i64 y.f0, .int .i64 y.f1] 27 (0, 0)) ∧ w8.heap[w4.heap.size + 1]? = some (.cells #[.int .i64 u.kind, .string u.name, .int .i64 u.a, .int .i64 u.b] 29 (0, 0)) ∧ w8.heap[w6.heap.size]? = some (.cells #[.int .i64 y.f0, .int .i64 y.f1] 27 (0, 0)) ∧ w8.heap[w6.heap.size + 1]? = some (.cells #[.int .i64 u.kind, .string u.name, .int .i64 u.a, .int .i64 u.b] 29 (0, 0))) := ⟨hb, in_row (row_ahead H8.out.2.1 hk H8.out.2.2.2.2.1.2.2.2.2) HPB.out, in_row (row_ahead H8.out.2.2.1 hk (Nat.le_refl _)) HPB.out, blk_kept H8.out.2.2.2.2.2.1 hk (by have := H8.out.2.2.2.2.1; omega), blk_kept H8.out.2.2.2.2.2.2.1 hk (by have := H8.out.2.2.2.2.1; omega), blk_kept H8.out.2.2.2.2.2.2.2.1 hk (by have := H8.out.2.2.2.2.1; omega), blk_kept H8.out.2.2.2.2.2.2.2.2 hk (by have := H8.out.2.2.2.2.1; omega)⟩; clear hb hk H8)
    | (go_at_call 37; refine (alike_ex Ap cp Aq cq pb _ rfl _ H9.out.2.1 H9.out.2.2.1).mono ?_; rintro e w9 ⟨rfl, hb⟩; have HE := Aside0.mk (below_step H9.out.1 hb); have HD : Aside0 (w9.heap[w4.heap.size]? = some (.cells #[.int .i64 y.f0, .int .i64 y.f1] 27 (0, 0)) ∧ w9.heap[w4.heap.size + 1]? = some (.cells #[.int .i64 u.kind, .string u.name, .int .i64 u.a, .int .i64 u.b] 29 (0, 0)) ∧ w9.heap[w6.heap.size]? = some (.cells #[.int .i64 y.f0, .int .i64 y.f1] 27 (0, 0)) ∧ w9.heap[w6.heap.size + 1]? = some (.cells #[.int .i64 u.kind, .string u.name, .int .i64 u.a, .int .i64 u.b] 29 (0, 0))) := ⟨⟨blk_keep hb H9.out.2.2.2.1, blk_keep hb H9.out.2.2.2.2.1, blk_keep hb H9.out.2.2.2.2.2.1, blk_keep hb H9.out.2.2.2.2.2.2⟩⟩; clear hb H9; have dc0 : w9.cell? ⟨w4.heap.size, 0, none⟩ = some (.int .i64 y.f0) := (blk_cell HD.out.1 0).trans rfl; have dc1 : w9.cell? ⟨w4.heap.size, 1, none⟩ = some (.int .i64 y.f1) := (blk_cell HD.out.1 1).trans rfl; have do0 : w9.cell? ⟨w4.heap.size + 1, 0, none⟩ = some (.int .i64 u.kind) := (blk_cell HD.out.2.1 0).trans rfl; have do1 : w9.cell? ⟨w4.heap.size + 1, 1, none⟩ = some (.string u.name) := (blk_cell HD.out.2.1 1).trans rfl; have do2 : w9.cell? ⟨w4.heap.size + 1, 2, none⟩ = some (.int .i64 u.a) := (blk_cell HD.out.2.1 2).trans rfl; have do3 : w9.cell? ⟨w4.heap.size + 1, 3, none⟩ = some (.int .i64 u.b) := (blk_cell HD.out.2.1 3).trans rfl; have ec0 : w9.cell? ⟨w6.heap.size, 0, none⟩ = some (.int .i64 y.f0) := (blk_cell HD.out.2.2.1 0).trans rfl; have ec1 : w9.cell? ⟨w6.heap.size, 1, none⟩ = some (.int .i64 y.f1) := (blk_cell HD.out.2.2.1 1).trans rfl; have eo0 : w9.cell? ⟨w6.heap.size + 1, 0, none⟩ = some (.int .i64 u.kind) := (blk_cell HD.out.2.2.2 0).trans rfl; have eo1 : w9.cell? ⟨w6.heap.size + 1, 1, none⟩ = some (.string u.name) := (blk_cell HD.out.2.2.2 1).trans rfl; have eo2 : w9.cell? ⟨w6.heap.size + 1, 2, none⟩ = some (.int .i64 u.a) := (blk_cell HD.out.2.2.2 2).trans rfl; have eo3 : w9.cell? ⟨w6.heap.size + 1, 3, none⟩ = some (.int .i64 u.b) := (blk_cell HD.out.2.2.2 3).trans rfl))
  go_ret
  exact ⟨rfl, HE.out⟩
set_option maxHeartbeats 8000000 in
set_option maxRecDepth 100000 in
theorem replies_calls (w : World) (r : Rep) (A : Option Addr) (c : Nat) (b : List Int) (ho : isI r.value) (hb : In w A c b) (hbl : b.length ≤ 140737488351232) :
    Calls Try.prog 24 #[.agg #[.int .i64 r.call.f0, .int .i64 r.call.f1, .int .i64 r.err, .int .i64 r.value], .slice A b.length c] w fun e w' => e = .returned (.bool true) ∧ Below w.heap.size w w' := by
  have HO := Aside0.mk ho
  have HI := Aside0.mk (And.intro hb hbl)
  have hbI : (b.length : Int) ≤ 9223372036854775807 := by omega
  have hb0 : (0 : Int) ≤ (b.length : Int) := by omega
  clear ho hb hbl
  have hu27 := Try.underlying27
  have hu29 := Try.underlying29
  have hu50 := Try.underlying50
  obtain ⟨wa, hwa⟩ : ∃ wa, wa = w.alloc (.cells #[.int .i64 r.call.f0, .int .i64 r.call.f1, .int .i64 r.err, .int .i64 r.value] 50 (0, 0)) := ⟨_, rfl⟩
  have HWA := Aside0.mk hwa
  have H0 : Aside0 (Below w.heap.size w wa ∧ wa.heap[w.heap.size]? = some (.cells #[.int .i64 r.call.f0, .int .i64 r.call.f1, .int .i64 r.err, .int .i64 r.value] 50 (0, 0))) := ⟨by rw [hwa]; exact ⟨al_below w _, heap_alloc_new w _⟩⟩
  clear hwa
  go_enter Try.func24, Try.ntmps24
  go_upto_region 1 with fail
  rw [← HWA.out]
  have kr0 : wa.cell? ⟨w.heap.size, 0, none⟩ = some (.int .i64 r.call.f0) := (blk_cell H0.out.2 0).trans rfl; have kr1 : wa.cell? ⟨w.heap.size, 1, none⟩ = some (.int .i64 r.call.f1) := (blk_cell H0.out.2 1).trans rfl; have kr2 : wa.cell? ⟨w.heap.size, 2, none⟩ = some (.int .i64 r.err) := (blk_cell H0.out.2 2).trans rfl; have kr3 : wa.cell? ⟨w.heap.size, 3, none⟩ = some (.int .i64 r.value) := (blk_cell H0.out.2 3).trans rfl
  go_upto_region 3 with (first
    | (go_at_call 34; refine (enc_rep_law r _ HO.out).mono ?_; rintro e w1 ⟨Ap, cp, rfl, hR, hb⟩; have H1 : Aside0 (Below w.heap.size w w1 ∧ Kd.R (Kd.int .u8) 5 w1 w.heap.size (fun k => wa.heap.size ≤ k ∧ k < w1.heap.size) (.slice Ap (lay repB repV r).1.length cp) (lay repB repV r).1 ∧ w1.heap[w.heap.size]? = some (.cells #[.int .i64 r.call.f0, .int .i64 r.call.f1, .int .i64 r.err, .int .i64 r.value] 50 (0, 0))) := ⟨below_step H0.out.1 hb, lent_in hR H0.out.1.size, blk_keep hb H0.out.2⟩; clear hR hb kr0 kr1 kr2 kr3; have kr0 : w1.cell? ⟨w.heap.size, 0, none⟩ = some (.int .i64 r.call.f0) := (blk_cell H1.out.2.2 0).trans rfl; have kr1 : w1.cell? ⟨w.heap.size, 1, none⟩ = some (.int .i64 r.call.f1) := (blk_cell H1.out.2.2 1).trans rfl; have kr2 : w1.cell? ⟨w.heap.size, 2, none⟩ = some (.int .i64 r.err) := (blk_cell H1.out.2.2 2).trans rfl; have kr3 : w1.cell? ⟨w.heap.size, 3, none⟩ = some (.int .i64 r.value) := (blk_cell H1.out.2.2 3).trans rfl)
    | (go_at_call 74; refine (renc_rep_law r _ HO.out).mono ?_; rintro e w2 ⟨Aq, cq, rfl, hR, hb⟩; have H2 : Aside0 (Below w.heap.size w w2 ∧ Kd.R (Kd.int .u8) 5 w2 w.heap.size (fun k => wa.heap.size ≤ k ∧ k < w1.heap.size) (.slice Ap (lay repB repV r).1.length cp) (lay repB repV r).1 ∧ Kd.R (Kd.int .u8) 5 w2 w.heap.size (fun k => w1.heap.size ≤ k ∧ k < w2.heap.size) (.slice Aq (lay repB repV r).1.length cq) (lay repB repV r).1 ∧ w.heap.size ≤ w2.heap.size ∧ w1.heap.size ≤ w2.heap.size) := ⟨below_step H1.out.1 hb, Kd.R_below H1.out.2.1 hb, lent_in hR H1.out.1.size, Nat.le_trans H1.out.1.size hb.size, hb.size⟩; clear hR hb kr0 kr1 kr2 kr3))
  clear H0 H1 HWA
  obtain ⟨pb, er0, hpb⟩ : ∃ pb er0, lay repB repV r = (pb, er0) := ⟨_, _, rfl⟩
  have HPB : Aside0 (IsB pb) := ⟨by have := lay_isB (v := repV) (b_rep r); rwa [hpb] at this⟩
  have H3 := H2
  rw [hpb] at H3
  rw [hpb]
  clear hpb H2
  obtain ⟨y, p, er, hyp⟩ : ∃ y p er, whole zRep repP b = (y, p, er) := ⟨_, _, _, rfl⟩
  have HYP := Aside0.mk hyp
  clear hyp
  go_upto_region 4 with (go_at_call 19; refine (lent_calls A c b _ (In.below HI.out.1 H3.out.1).row HI.out.2).mono ?_; rintro e w3 ⟨v, rfl, hR, hb⟩; obtain ⟨Ab, cb, rfl, hcv, hin⟩ := lent_cut hR HI.out.1.isB; have hcB : (b.length : Int) ≤ (cb : Int) := (by omega); clear hcv hin; have H4 : Aside0 (Below w.heap.size w w3 ∧ Kd.R (Kd.int .u8) 5 w3 w.heap.size (fun k => wa.heap.size ≤ k ∧ k < w1.heap.size) (.slice Ap pb.length cp) pb ∧ Kd.R (Kd.int .u8) 5 w3 w.heap.size (fun k => w1.heap.size ≤ k ∧ k < w2.heap.size) (.slice Aq pb.length cq) pb ∧ Kd.R (Kd.int .u8) 5 w3 w.heap.size (fun k => w2.heap.size ≤ k ∧ k < w3.heap.size) (.slice Ab (b.length + 2) cb) (b ++ [165, 90])) := ⟨below_step H3.out.1 hb, Kd.R_below H3.out.2.1 hb, Kd.R_below H3.out.2.2.1 hb, lent_in hR H3.out.1.size⟩; clear hR hb)
  go_upto_region 5 with (go_at_call 35; refine (dec_rep_law _ Ab cb b (in_cut H4.out.2.2.2 HI.out.1.isB) HYP.out).mono ?_; rintro e w4 ⟨rfl, hb⟩; have H5 : Aside0 (Below w.heap.size w w4 ∧ Kd.R (Kd.int .u8) 5 w4 w.heap.size (fun k => wa.heap.size ≤ k ∧ k < w1.heap.size) (.slice Ap pb.length cp) pb ∧ Kd.R (Kd.int .u8) 5 w4 w.heap.size (fun k => w1.heap.size ≤ k ∧ k < w2.heap.size) (.slice Aq pb.length cq) pb ∧ Kd.R (Kd.int .u8) 5 w4 w.heap.size (fun k => w2.heap.size ≤ k ∧ k < w3.heap.size) (.slice Ab (b.length + 2) cb) (b ++ [165, 90]) ∧ w3.heap.size ≤ w4.heap.size) := ⟨below_step H4.out.1 hb, Kd.R_below H4.out.2.1 hb, Kd.R_below H4.out.2.2.1 hb, Kd.R_below H4.out.2.2.2 hb, hb.size⟩; clear hb)
  obtain ⟨w5, hw5⟩ : ∃ w5, w5 = w4.alloc (.cells #[.int .i64 y.call.f0, .int .i64 y.call.f1, .int .i64 y.err, .int .i64 y.value] 50 (0, 0)) := ⟨_, rfl⟩
  have HW5 := Aside0.mk hw5
  have H6 : Aside0 (Below w.heap.size w w5 ∧ Kd.R (Kd.int .u8) 5 w5 w.heap.size (fun k => wa.heap.size ≤ k ∧ k < w1.heap.size) (.slice Ap pb.length cp) pb ∧ Kd.R (Kd.int .u8) 5 w5 w.heap.size (fun k => w1.heap.size ≤ k ∧ k < w2.heap.size) (.slice Aq pb.length cq) pb ∧ Kd.R (Kd.int .u8) 5 w5 w.heap.size (fun k => w2.heap.size ≤ k ∧ k < w3.heap.size) (.slice Ab (b.length + 2) cb) (b ++ [165, 90]) ∧ w4.heap.size ≤ w5.heap.size ∧ w5.heap[w4.heap.size]? = some (.cells #[.int .i64 y.call.f0, .int .i64 y.call.f1, .int .i64 y.err, .int .i64 y.value] 50 (0, 0))) := ⟨by
    have hb : Below w4.heap.size w4 w5 := by rw [hw5]; exact al_below w4 _
    exact ⟨below_step H5.out.1 hb, Kd.R_below H5.out.2.1 hb, Kd.R_below H5.out.2.2.1 hb, Kd.R_below H5.out.2.2.2.1 hb, hb.size, by rw [hw5]; exact heap_alloc_new w4 _⟩⟩
  rw [← HW5.out]
  clear hw5 HW5
  go_upto_region 6 with (go_at_call 75; refine (rdec_rep_law _ A c b (In.below HI.out.1 H6.out.1) HYP.out).mono ?_; rintro e w6 ⟨rfl, hb⟩; have H7 : Aside0 (Below w.heap.size w w6 ∧ Kd.R (Kd.int .u8) 5 w6 w.heap.size (fun k => wa.heap.size ≤ k ∧ k < w1.heap.size) (.slice Ap pb.length cp) pb ∧ Kd.R (Kd.int .u8) 5 w6 w.heap.size (fun k => w1.heap.size ≤ k ∧ k < w2.heap.size) (.slice Aq pb.length cq) pb ∧ Kd.R (Kd.int .u8) 5 w6 w.heap.size (fun k => w2.heap.size ≤ k ∧ k < w3.heap.size) (.slice Ab (b.length + 2) cb) (b ++ [165, 90]) ∧ w5.heap.size ≤ w6.heap.size ∧ w6.heap[w4.heap.size]? = some (.cells #[.int .i64 y.call.f0, .int .i64 y.call.f1, .int .i64 y.err, .int .i64 y.value] 50 (0, 0))) := ⟨below_step H6.out.1 hb, Kd.R_below H6.out.2.1 hb, Kd.R_below H6.out.2.2.1 hb, Kd.R_below H6.out.2.2.2.1 hb, hb.size, blk_keep hb H6.out.2.2.2.2.2⟩; clear hb)
  obtain ⟨w7, hw7⟩ : ∃ w7, w7 = w6.alloc (.cells #[.int .i64 y.call.f0, .int .i64 y.call.f1, .int .i64 y.err, .int .i64 y.value] 50 (0, 0)) := ⟨_, rfl⟩
  have HW7 := Aside0.mk hw7
  have H8 : Aside0 (Below w.heap.size w w7 ∧ Kd.R (Kd.int .u8) 5 w7 w.heap.size (fun k => wa.heap.size ≤ k ∧ k < w1.heap.size) (.slice Ap pb.length cp) pb ∧ Kd.R (Kd.int .u8) 5 w7 w.heap.size (fun k => w1.heap.size ≤ k ∧ k < w2.heap.size) (.slice Aq pb.length cq) pb ∧ Kd.R (Kd.int .u8) 5 w7 w.heap.size (fun k => w2.heap.size ≤ k ∧ k < w3.heap.size) (.slice Ab (b.length + 2) cb) (b ++ [165, 90]) ∧ (w3.heap.size ≤ w4.heap.size ∧ w4.heap.size ≤ w5.heap.size ∧ w5.heap.size ≤ w6.heap.size ∧ w.heap.size ≤ w2.heap.size ∧ w1.heap.size ≤ w2.heap.size) ∧ w7.heap[w4.heap.size]? = some (.cells #[.int .i64 y.call.f0, .int .i64 y.call.f1, .int .i64 y.err, .int .i64 y.value] 50 (0, 0)) ∧ w7.heap[w6.heap.size]? = some (.cells #[.int .i64 y.call.f0, .int .i64 y.call.f1, .int .i64 y.err, .int .i64 y.value] 50 (0, 0))) := ⟨by
    have hb : Below w6.heap.size w6 w7 := by rw [hw7]; exact al_below w6 _
    exact ⟨below_step H7.out.1 hb, Kd.R_below H7.out.2.1 hb, Kd.R_below H7.out.2.2.1 hb, Kd.R_below H7.out.2.2.2.1 hb, ⟨H5.out.2.2.2.2, H6.out.2.2.2.2.1, H7.out.2.2.2.2.1, H3.out.2.2.2⟩, blk_keep hb H7.out.2.2.2.2.2, by rw [hw7]; exact heap_alloc_new w6 _⟩⟩
  rw [← HW7.out]
  clear hw7 HW7 H3 H4 H5 H6 H7
  go_wp2_with (first
    | (go_at_call 42; refine (back_law w _ _ b w2.heap.size w3.heap.size H8.out.1 H8.out.2.2.2.2.1.2.2.2.1 H8.out.2.2.2.1 A c HI.out.1 HI.out.2).mono ?_; rintro e w8 ⟨rfl, hb, hk⟩; have H9 : Aside0 (Below w.heap.size w w8 ∧ In w8 Ap cp pb ∧ In w8 Aq cq pb ∧ w8.heap[w4.heap.size]? = some (.cells #[.int .i64 y.call.f0, .int .i64 y.call.f1, .int .i64 y.err, .int .i64 y.value] 50 (0, 0)) ∧ w8.heap[w6.heap.size]? = some (.cells #[.int .i64 y.call.f0, .int .i64 y.call.f1, .int .i64 y.err, .int .i64 y.value] 50 (0, 0))) := ⟨hb, in_row (row_ahead H8.out.2.1 hk H8.out.2.2.2.2.1.2.2.2.2) HPB.out, in_row (row_ahead H8.out.2.2.1 hk (Nat.le_refl _)) HPB.out, blk_kept H8.out.2.2.2.2.2.1 hk (by have := H8.out.2.2.2.2.1; omega), blk_kept H8.out.2.2.2.2.2.2 hk (by have := H8.out.2.2.2.2.1; omega)⟩; clear hb hk H8)
    | (go_at_call 37; refine (alike_ex Ap cp Aq cq pb _ rfl _ H9.out.2.1 H9.out.2.2.1).mono ?_; rintro e w9 ⟨rfl, hb⟩; have HE := Aside0.mk (below_step H9.out.1 hb); have HD : Aside0 (w9.heap[w4.heap.size]? = some (.cells #[.int .i64 y.call.f0, .int .i64 y.call.f1, .int .i64 y.err, .int .i64 y.value] 50 (0, 0)) ∧ w9.heap[w6.heap.size]? = some (.cells #[.int .i64 y.call.f0, .int .i64 y.call.f1, .int .i64 y.err, .int .i64 y.value] 50 (0, 0))) := ⟨⟨blk_keep hb H9.out.2.2.2.1, blk_keep hb H9.out.2.2.2.2⟩⟩; clear hb H9; have dr0 : w9.cell? ⟨w4.heap.size, 0, none⟩ = some (.int .i64 y.call.f0) := (blk_cell HD.out.1 0).trans rfl; have dr1 : w9.cell? ⟨w4.heap.size, 1, none⟩ = some (.int .i64 y.call.f1) := (blk_cell HD.out.1 1).trans rfl; have dr2 : w9.cell? ⟨w4.heap.size, 2, none⟩ = some (.int .i64 y.err) := (blk_cell HD.out.1 2).trans rfl; have dr3 : w9.cell? ⟨w4.heap.size, 3, none⟩ = some (.int .i64 y.value) := (blk_cell HD.out.1 3).trans rfl; have er0 : w9.cell? ⟨w6.heap.size, 0, none⟩ = some (.int .i64 y.call.f0) := (blk_cell HD.out.2 0).trans rfl; have er1 : w9.cell? ⟨w6.heap.size, 1, none⟩ = some (.int .i64 y.call.f1) := (blk_cell HD.out.2 1).trans rfl; have er2 : w9.cell? ⟨w6.heap.size, 2, none⟩ = some (.int .i64 y.err) := (blk_cell HD.out.2 2).trans rfl; have er3 : w9.cell? ⟨w6.heap.size, 3, none⟩ = some (.int .i64 y.value) := (blk_cell HD.out.2 3).trans rfl))
  go_ret
  exact ⟨rfl, HE.out⟩
end Go.Proofs.Ytpgdmmjbhjbbhaa.Lw
end
section
namespace Go.Proofs.Ytpgdmmjbhjbbhaa.Lw
open Go Go.RowKit Go.Proofs.Ytpgdmmjbhjbbhaa.P Go.Proofs.Ytpgdmmjbhjbbhaa.Sp Go.Proofs.Ytpgdmmjbhjbbhaa.Vd Go.Proofs.Ytpgdmmjbhjbbhaa.En Go.Proofs.Ytpgdmmjbhjbbhaa.Wr Go.Proofs.Ytpgdmmjbhjbbhaa.Rd Go.Proofs.YtpgdmmjbhjbbhaaW.PrintWords Go.Proofs.YtpgdmmjbhjbbhaaW.PrintLast Go.Proofs.YtpgdmmjbhjbbhaaW.PrintMore
set_option linter.unusedVariables false
set_option linter.unusedSimpArgs false
/-- The arguments, boxed. -/
structure QX (w W : World) (x : S25) (o : Sp.Op) (r : Rep) : Prop where
  bel : Below w.heap.size w W
  c : W.heap[w.heap.size]? = some (.cells #[.int .i64 x.f0, .int .i64 x.f1] 27 (0, 0))
  o : W.heap[w.heap.size + 1]? = some (.cells #[.int .i64 o.kind, .string o.name, .int .i64 o.a, .int .i64 o.b] 29 (0, 0))
  r : W.heap[w.heap.size + 1 + 1]? = some (.cells #[.int .i64 r.call.f0, .int .i64 r.call.f1, .int .i64 r.err, .int .i64 r.value] 50 (0, 0))
theorem QX.below {w W W1 : World} {x : S25} {o : Sp.Op} {r : Rep} (h : QX w W x o r) (k : Below W.heap.size W W1) : QX w W1 x o r :=
  ⟨below_step h.bel k, blk_keep k h.c, blk_keep k h.o, blk_keep k h.r⟩
theorem blk_al' {w : World} {g : Nat} {o o2 : Obj} (h : w.heap[g]? = some o) : (w.alloc o2).heap[g]? = some o := (Below.heap_alloc _ _ _ (by have := (Array.getElem?_eq_some_iff.1 h).1; exact this)).trans h
theorem qx_new (w : World) (x : S25) (o : Sp.Op) (r : Rep) :
    QX w (((w.alloc (.cells #[.int .i64 x.f0, .int .i64 x.f1] 27 (0, 0))).alloc (.cells #[.int .i64 o.kind, .string o.name, .int .i64 o.a, .int .i64 o.b] 29 (0, 0))).alloc (.cells #[.int .i64 r.call.f0, .int .i64 r.call.f1, .int .i64 r.err, .int .i64 r.value] 50 (0, 0))) x o r := by
  have hn : ∀ (w : World) (o : Obj) (n : Nat), w.heap.size = n → (w.alloc o).heap[n]? = some o := fun w o n h => h ▸ heap_alloc_new w o
  refine ⟨?_, blk_al' (blk_al' (heap_alloc_new _ _)), blk_al' (hn _ _ _ (by simp)), hn _ _ _ (by simp)⟩
  exact (((Below.refl _ _).alloc (Nat.le_refl _) _).alloc (by simp) _).alloc (by simp; omega) _
set_option maxHeartbeats 4000000 in
set_option maxRecDepth 100000 in
theorem requests_walk (w : World) (x : S25) (o : Sp.Op) (r : Rep) (A : Option Addr) (c : Nat) (b : List Int) (h0 : isI o.kind) (h1 : isI o.a) (h2 : isI o.b) (h3 : isI r.err) (h4 : isI r.value) (hb : In w A c b) (hbl : b.length ≤ 140737488351232) :
    Calls Try.prog 7 #[.agg #[.int .i64 x.f0, .int .i64 x.f1], .agg #[.int .i64 o.kind, .string o.name, .int .i64 o.a, .int .i64 o.b], .agg (RVc r), .slice A b.length c] w fun e w' => e = .returned (.bool true) ∧ Below w.heap.size w w' := by
  have HI := Aside0.mk (And.intro hb hbl)
  have HO : Aside0 ((isI o.a ∧ isI o.b) ∧ isI r.value) := ⟨⟨h1, h2⟩, h4⟩
  clear hb hbl h0 h1 h2 h3 h4
  have hu27 := Try.underlying27
  have hu29 := Try.underlying29
  have hu50 := Try.underlying50
  unfold RVc
  obtain ⟨wa, hwa⟩ : ∃ wa, wa = ((w.alloc (.cells #[.int .i64 x.f0, .int .i64 x.f1] 27 (0, 0))).alloc (.cells #[.int .i64 o.kind, .string o.name, .int .i64 o.a, .int .i64 o.b] 29 (0, 0))).alloc (.cells #[.int .i64 r.call.f0, .int .i64 r.call.f1, .int .i64 r.err, .int .i64 r.value] 50 (0, 0)) := ⟨_, rfl⟩
  have HWA := Aside0.mk hwa
  have HX : Aside0 (QX w wa x o r) := ⟨by rw [hwa]; exact qx_new w x o r⟩
  clear hwa
  go_enter Try.func7, Try.ntmps7
  go_upto_region 1 with fail
  rw [← HWA.out]
  go_wp2_with (first
    | (go_at_call 12; refine (able_calls _).mono ?_; rintro e w1 ⟨rfl, hb⟩; have n0_ := Aside0.mk (QX.below HX.out hb); clear HX hb; have HX := n0_; clear n0_; have kc0 : w1.cell? ⟨w.heap.size, 0, none⟩ = some (.int .i64 x.f0) := (blk_cell HX.out.c 0).trans rfl; have kc1 : w1.cell? ⟨w.heap.size, 1, none⟩ = some (.int .i64 x.f1) := (blk_cell HX.out.c 1).trans rfl; have ko0 : w1.cell? ⟨w.heap.size + 1, 0, none⟩ = some (.int .i64 o.kind) := (blk_cell HX.out.o 0).trans rfl; have ko1 : w1.cell? ⟨w.heap.size + 1, 1, none⟩ = some (.string o.name) := (blk_cell HX.out.o 1).trans rfl; have ko2 : w1.cell? ⟨w.heap.size + 1, 2, none⟩ = some (.int .i64 o.a) := (blk_cell HX.out.o 2).trans rfl; have ko3 : w1.cell? ⟨w.heap.size + 1, 3, none⟩ = some (.int .i64 o.b) := (blk_cell HX.out.o 3).trans rfl)
    | (go_at_call 23; refine (requests_calls _ x o A c b HO.out.1 (In.below HI.out.1 HX.out.bel) HI.out.2).mono ?_; rintro e w2 ⟨rfl, hb⟩; have n0_ := Aside0.mk (QX.below HX.out hb); clear HX hb kc0 kc1 ko0 ko1 ko2 ko3; have HX := n0_; clear n0_; have kr0 : w2.cell? ⟨w.heap.size + 1 + 1, 0, none⟩ = some (.int .i64 r.call.f0) := (blk_cell HX.out.r 0).trans rfl; have kr1 : w2.cell? ⟨w.heap.size + 1 + 1, 1, none⟩ = some (.int .i64 r.call.f1) := (blk_cell HX.out.r 1).trans rfl; have kr2 : w2.cell? ⟨w.heap.size + 1 + 1, 2, none⟩ = some (.int .i64 r.err) := (blk_cell HX.out.r 2).trans rfl; have kr3 : w2.cell? ⟨w.heap.size + 1 + 1, 3, none⟩ = some (.int .i64 r.value) := (blk_cell HX.out.r 3).trans rfl)
    | (go_at_call 24; refine (replies_calls _ r A c b HO.out.2 (In.below HI.out.1 HX.out.bel) HI.out.2).mono ?_; rintro e w3 ⟨rfl, hb⟩; have HE := Aside0.mk (below_step HX.out.bel hb); clear hb))
  go_ret
  exact ⟨rfl, HE.out⟩
end Go.Proofs.Ytpgdmmjbhjbbhaa.Lw
end
