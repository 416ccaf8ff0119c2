/- texts that the proof needs, laid together by a program of this session. -/
import Derived.Test.YtpgdmmjbhjbbhaaKWireDecodes5
section
namespace Go.Proofs.Ytpgdmmjbhjbbhaa.Wr
open Go Go.RowKit Go.Proofs.Ytpgdmmjbhjbbhaa.P Go.Proofs.Ytpgdmmjbhjbbhaa.Sp Go.Proofs.YtpgdmmjbhjbbhaaW.PrintWords Go.Proofs.YtpgdmmjbhjbbhaaW.PrintLast Go.Proofs.YtpgdmmjbhjbbhaaW.PrintMore
set_option linter.unusedVariables false
set_option linter.unusedSimpArgs false
theorem viewsB_take (l : List S87) (i : Nat) (hi : i < l.length) : viewsB (l.take (i + 1)) = viewsB (l.take i) ++ viewB (rd_T87 l i) := by
  unfold viewsB
  rw [List.take_add_one, List.getElem?_eq_getElem hi, List.flatMap_append]
  simp [rd_T87, List.getD_eq_getElem?_getD, List.getElem?_eq_getElem hi]
theorem viewsB_le (l : List S87) (i : Nat) : (viewsB (l.take i)).length ≤ (viewsB l).length := by
  unfold viewsB
  conv => rhs; rw [← List.take_append_drop i l, List.flatMap_append, List.length_append]
  omega
set_option maxHeartbeats 4000000 in
set_option maxRecDepth 100000 in
theorem views_calls (w0 w : World) (g : Nat) (bs : List Int) (v : Value) (A : Option Addr) (c : Nat) (l : List S87) (hr : Kd.C k87 w0 A l.length l) (hl : l.length ≤ 1000) (hS : WS w0 w g bs v) (hb : bs.length + (listB l).length ≤ 1099511627776) :
    Calls Try.prog 56 #[.pointer (some ⟨g, 0, none⟩), .slice A l.length c] w fun e w' => e = .returned (.tuple #[]) ∧ ∃ v', WS w0 w' g (bs ++ listB l) v' ∧ Stay w w' := by
  have HS := Aside0.mk hS
  have HR := Aside0.mk hr
  have HB : Aside0 (bs.length + (intB l.length).length + (viewsB l).length ≤ 1099511627776) := ⟨by simp only [listB, List.length_append] at hb; omega⟩
  clear hS hb hr
  have hlI : (l.length : Int) ≤ 1000 := by omega
  have hu87 := Try.underlying87
  have hu25 := Try.underlying25
  have HL : Aside0 (IsL (w.alloc (.cells #[.int .i64 (l.length : Int)] 3 (0, 0))) w.heap.size [(l.length : Int)]) := ⟨heap_alloc_new w _⟩
  have HB1 : Aside0 (bs.length + (numsB [(l.length : Int)]).length ≤ 1099511627776) := ⟨by rw [numsB1]; have := HB.out; omega⟩
  go_enter Try.func56, Try.ntmps56
  go_upto_region 1 with (go_at_call 53; refine (nums_calls w0 _ g _ v _ [(l.length : Int)] _ _ rfl (HS.out.below (al_below w _)) HL.out HB1.out (by simp)).mono ?_; rintro e w1 ⟨rfl, v1, hS1, hst⟩; rw [numsB1] at hS1; have HS1 := Aside0.mk hS1; have HST1 : Aside0 (Stay w w1) := ⟨(Stay.below (al_below w _)).trans hst⟩; clear hS1 hst)
  go_wp2_with fail
  go_loopw [13] (fun v13 wr => ∃ (i : Nat) (v : Value), v13 = .int .i64 (i : Int) ∧ Aside0 (i ≤ l.length ∧ WS w0 wr g (bs ++ intB l.length ++ viewsB (l.take i)) v ∧ Stay w wr)) (fun v13 _ => l.length - (intOf v13).toNat)
  case atStart => exact ⟨0, v1, rfl, ⟨Nat.zero_le _, by simpa [viewsB] using HS1.out, HST1.out⟩⟩
  case round =>
    obtain ⟨i, v2, rfl, HQ⟩ := hrel
    by_cases hlt : i < l.length
    · have hi0 : (0 : Int) ≤ (i : Int) := by omega
      have hi1 : (i : Int) < (l.length : Int) := by omega
      have HLT := Aside0.mk hlt
      obtain ⟨ad, rfl, c0, c1, c2, c3, c4, c5, c6⟩ := at_T87 (Kd.C_below HR.out HQ.out.2.1.bel) (i : Int) hi0 hi1
      obtain ⟨x, hx⟩ : ∃ x, x = rd_T87 l (i : Int) := ⟨_, rfl⟩
      have HX := Aside0.mk hx
      rw [← hx] at c0 c1 c2 c3 c4 c5 c6
      simp only [Int.toNat_natCast] at c0 c1 c2 c3 c4 c5 c6
      clear hx
      obtain ⟨wa, hwa⟩ : ∃ wa, wa = wr.alloc (.cells #[.string x.f0, .int .i64 x.f1, .int .i64 x.f2, .int .i64 x.f3, .int .i64 x.f4.f0, .int .i64 x.f4.f1, .int .i64 x.f5] 87 (0, 0)) := ⟨_, rfl⟩
      have HWA := Aside0.mk hwa
      have HBX : Aside0 (wa.heap[wr.heap.size]? = some (.cells #[.string x.f0, .int .i64 x.f1, .int .i64 x.f2, .int .i64 x.f3, .int .i64 x.f4.f0, .int .i64 x.f4.f1, .int .i64 x.f5] 87 (0, 0))) := ⟨by rw [hwa]; exact heap_alloc_new wr _⟩
      have HSA : Aside0 (WS w0 wa g (bs ++ intB l.length ++ viewsB (l.take i)) v2 ∧ Stay w wa) := ⟨by rw [hwa]; exact HQ.out.2.1.below (al_below wr _), by rw [hwa]; exact HQ.out.2.2.trans (Stay.below (al_below wr _))⟩
      clear hwa
      have HT : Aside0 (bs ++ intB l.length ++ viewsB (l.take (i + 1)) = (bs ++ intB l.length ++ viewsB (l.take i)) ++ textB x.f0 ++ numsB [x.f1, x.f2, x.f3, x.f4.f0, x.f4.f1, x.f5]) := ⟨by rw [viewsB_take l i hlt, ← HX.out]; simp [viewB, numsB, pairB]⟩
      have HTL : Aside0 ((bs ++ intB l.length ++ viewsB (l.take i)).length + (textB x.f0).length + (numsB [x.f1, x.f2, x.f3, x.f4.f0, x.f4.f1, x.f5]).length ≤ 1099511627776) := ⟨by
        have h1 := congrArg List.length HT.out
        have h2 := viewsB_le l (i + 1)
        have h3 := HB.out
        simp only [List.length_append] at h1 ⊢
        omega⟩
      have HB2 : Aside0 ((bs ++ intB l.length ++ viewsB (l.take i)).length + (textB x.f0).length ≤ 1099511627776) := ⟨by have := HTL.out; omega⟩
      have HB3 : Aside0 ((bs ++ intB l.length ++ viewsB (l.take i) ++ textB x.f0).length + (numsB [x.f1, x.f2, x.f3, x.f4.f0, x.f4.f1, x.f5]).length ≤ 1099511627776) := ⟨by rw [List.length_append]; have := HTL.out; omega⟩
      go_upto_region 5 with (rw [← HWA.out]; go_at_call 57; refine (text_calls w0 _ g _ v2 x.f0 HSA.out.1 HB2.out).mono ?_; rintro e w3 ⟨rfl, v3, hS3, hst⟩; have HS3 := Aside0.mk hS3; have HST3 : Aside0 (Stay wa w3) := ⟨hst⟩; clear hS3 hst)
      clear c0 c1 c2 c3 c4 c5 c6
      have k1 := box_stay HBX.out (by decide) (by decide) HST3.out 1
      have k2 := box_stay HBX.out (by decide) (by decide) HST3.out 2
      have k3 := box_stay HBX.out (by decide) (by decide) HST3.out 3
      have k4 := box_stay HBX.out (by decide) (by decide) HST3.out 4
      have k5 := box_stay HBX.out (by decide) (by decide) HST3.out 5
      have k6 := box_stay HBX.out (by decide) (by decide) HST3.out 6
      have HL4 : Aside0 (IsL (w3.alloc (.cells #[.int .i64 x.f1, .int .i64 x.f2, .int .i64 x.f3, .int .i64 x.f4.f0, .int .i64 x.f4.f1, .int .i64 x.f5] 3 (0, 0))) w3.heap.size [x.f1, x.f2, x.f3, x.f4.f0, x.f4.f1, x.f5]) := ⟨heap_alloc_new w3 _⟩
      go_wp2_with (go_at_call 53; refine (nums_calls w0 _ g _ v3 _ [x.f1, x.f2, x.f3, x.f4.f0, x.f4.f1, x.f5] _ _ rfl (HS3.out.below (al_below w3 _)) HL4.out HB3.out (by simp)).mono ?_; rintro e w4 ⟨rfl, v4, hS4, hst⟩; rw [← HT.out] at hS4; have HS4 := Aside0.mk hS4; have HST4 : Aside0 (Stay wa w4) := ⟨HST3.out.trans ((Stay.below (al_below w3 _)).trans hst)⟩; clear hS4 hst k1 k2 k3 k4 k5 k6)
      go_roundw
      case rel => exact ⟨i + 1, v4, by go_num, ⟨by have := HLT.out; omega, HS4.out, HSA.out.2.trans HST4.out⟩⟩
      case measure => simp only [intOf]; have := HLT.out; first | omega | (go_num; omega) | (simp; omega)
    · have hi1 : ¬ ((i : Int) < (l.length : Int)) := by omega
      have HI : Aside0 (l.take i = l) := ⟨List.take_of_length_le (by omega)⟩
      go_wp2_with fail
      (first | go_end0 | ((try simp only [Exit.inBlock, Exit.then]); refine bodyPost_ret (results_none rfl _ _ _) rfl ?_))
      have h1 := HQ.out.2.1
      rw [HI.out, show bs ++ intB l.length ++ viewsB l = bs ++ listB l from by simp [listB]] at h1
      first | exact ⟨rfl, _, h1, HQ.out.2.2⟩ | exact ⟨⟨_, h1⟩, HQ.out.2.2⟩ | exact ⟨rfl, ⟨_, h1⟩, HQ.out.2.2⟩
end Go.Proofs.Ytpgdmmjbhjbbhaa.Wr
end
section
namespace Go.Proofs.Ytpgdmmjbhjbbhaa.Sp
open Go Go.RowKit Go.Proofs.Ytpgdmmjbhjbbhaa.P Go.Proofs.YtpgdmmjbhjbbhaaW.PrintWords Go.Proofs.YtpgdmmjbhjbbhaaW.PrintLast Go.Proofs.YtpgdmmjbhjbbhaaW.PrintMore
set_option linter.unusedVariables false
set_option linter.unusedSimpArgs false
theorem intB_len (d : Nat) {n : Int} (h0 : 0 ≤ n) (h1 : n < ((128 ^ (d + 1) : Nat) : Int)) (h2 : n < 18446744073709551616) : (intB n).length ≤ d + 1 := by
  rw [intB_of h0 h2]
  exact numB_len d _ (by omega)
theorem int1 {n : Int} (h0 : 0 ≤ n) (h1 : n ≤ 127) : (intB n).length ≤ 1 := intB_len 0 h0 (by omega) (by omega)
theorem int2 {n : Int} (h0 : 0 ≤ n) (h1 : n ≤ 16383) : (intB n).length ≤ 2 := intB_len 1 h0 (by omega) (by omega)
theorem int6 {n : Int} (h0 : 0 ≤ n) (h1 : n ≤ big) : (intB n).length ≤ 6 := intB_len 5 h0 (by unfold big at h1; omega) (by unfold big at h1; omega)
theorem sign10 {n : Int} (h : isI n) : (signB n).length ≤ 10 := numB_len10 (by unfold isI at h; unfold signN; split <;> omega)
theorem text17 {s : ByteArray} (h : nameOk (bytesOf s)) : (textB s).length ≤ 17 := by
  have h1 := h.1
  have h2 := h.2.1
  rw [bytesOf_length] at h1 h2
  unfold textB
  rw [List.length_append, bytesOf_length]
  have := int1 (n := (s.size : Int)) (by omega) (by omega)
  omega
theorem pair12 {x : S25} (h0 : 0 ≤ x.f0 ∧ x.f0 ≤ big) (h1 : 0 ≤ x.f1 ∧ x.f1 ≤ big) : (pairB x).length ≤ 12 := by
  unfold pairB
  rw [List.length_append]
  have := int6 h0.1 h0.2
  have := int6 h1.1 h1.2
  omega
theorem call12 {x : S25} (h : callV x) : (pairB x).length ≤ 12 := pair12 ⟨h.1.1, by have := h.1.2; unfold big; omega⟩ ⟨by have := h.2.1; omega, h.2.2⟩
theorem epoch12 {x : S25} (h : epochV x) : (pairB x).length ≤ 12 := pair12 ⟨by have := h.1.1; omega, h.1.2⟩ ⟨h.2.1, by have := h.2.2; unfold big; omega⟩
theorem rights12 {x : S25} (h : rightsV x) : (pairB x).length ≤ 12 := pair12 h.1 h.2
theorem cap12 {x : S25} (h : capV x) : (pairB x).length ≤ 12 := pair12 ⟨by have := h.1.1; omega, h.1.2⟩ h.2
theorem op_len {o : Op} (h : opV o) : (opB o).length ≤ 38 := by
  unfold opB
  simp only [List.length_append]
  have := int1 (n := o.kind) (by have := h.1.1; omega) (by have := h.1.2; omega)
  have := text17 h.2.1.1
  have := sign10 h.2.2.1
  have := sign10 h.2.2.2
  omega
theorem view_len {a : ByteArray} {v : S87} (h : viewV a v) : (viewB v).length ≤ 53 := by
  unfold viewB
  simp only [List.length_append]
  have := text17 h.1.1
  have := cap12 h.2.1
  have := int6 h.2.2.1.1 h.2.2.1.2
  have := rights12 h.2.2.2.1
  have := int6 h.2.2.2.2.1 h.2.2.2.2.2
  omega
theorem views_len : ∀ (l : List S87) (a : ByteArray), viewsV a l → (viewsB l).length ≤ 53 * l.length := by
  intro l
  induction l with
  | nil => intro a _; simp [viewsB]
  | cons v r ih =>
    intro a h
    have h1 := view_len h.1
    have h2 := ih _ h.2
    unfold viewsB at h2 ⊢
    rw [List.flatMap_cons, List.length_append, List.length_cons]
    omega
theorem list_len {l : List S87} (h : listV l) : (listB l).length ≤ 3393 := by
  unfold listB
  rw [List.length_append]
  have := int1 (n := (l.length : Int)) (by omega) (by have := h.1; omega)
  have := views_len l _ h.2
  have := h.1
  omega
theorem opt_len {α : Type} (c : Prop) [Decidable c] (z : α) {e : α → List Int} {v : α → Prop} {x : α} (k : Nat) (h : optV c z v x) (he : v x → (e x).length ≤ k) : (optB c e x).length ≤ k := by
  unfold optB
  unfold optV at h
  by_cases hc : c
  · rw [if_pos hc] at h ⊢; exact he h
  · rw [if_neg hc]; simp
theorem msg_len {m : Msg} (h : msgV m) : (msgB m).length ≤ 3394 := by
  unfold msgB restB
  have hk := int1 (n := m.kind) (by have := h.1.1; omega) (by have := h.1.2; omega)
  have hr := h.2
  unfold restV at hr
  rw [List.length_append]
  split
  · rename_i h1
    rw [if_pos h1] at hr
    rw [List.length_append]
    have := call12 hr.1
    have := op_len hr.2.1
    omega
  · rename_i h1
    rw [if_neg h1] at hr
    split
    · rename_i h2
      rw [if_pos h2] at hr
      simp only [List.length_append]
      have := call12 hr.1
      have := text17 hr.2.1.1
      have := int2 (n := m.err) hr.2.2.1.1 (by have := hr.2.2.1.2; omega)
      have := opt_len (capped m.err) z25 12 hr.2.2.2.1 (e := pairB) cap12
      omega
    · rename_i h2
      rw [if_neg h2] at hr
      split
      · rename_i h3
        rw [if_pos h3] at hr
        have := list_len hr.1
        omega
      · rename_i h3
        rw [if_neg h3] at hr
        simp only [List.length_append]
        have := text17 hr.1.1
        have := cap12 hr.2.1
        have := opt_len (hasEp m.kind) z25 12 hr.2.2.1 (e := pairB) epoch12
        have := opt_len (m.kind = 7) z25 12 hr.2.2.2.1 (e := pairB) epoch12
        have := opt_len (hasRt m.kind) z25 12 hr.2.2.2.2.1 (e := pairB) rights12
        have := opt_len (m.kind = 4) 0 6 hr.2.2.2.2.2.1 (e := intB) (fun hh => int6 hh.1 hh.2)
        omega
theorem seg_len {s : Seg} (h : segV s) : (segB s).length ≤ 4016 := by
  unfold segB
  simp only [List.length_append]
  have := int1 (n := s.src) h.1.1 (by have := h.1.2; omega)
  have := int1 (n := s.dst) h.2.1.1 (by have := h.2.1.2; omega)
  have := int6 h.2.2.1.1 h.2.2.1.2
  have := int6 h.2.2.2.1.1 h.2.2.2.1.2
  have hd : s.data.length ≤ 4000 := by have := h.2.2.2.2.1.2; split at this <;> omega
  have := int2 (n := (s.data.length : Int)) (by omega) (by omega)
  omega
end Go.Proofs.Ytpgdmmjbhjbbhaa.Sp
end
section
namespace Go.Proofs.Ytpgdmmjbhjbbhaa.En
open Go Go.RowKit Go.Proofs.Ytpgdmmjbhjbbhaa.P Go.Proofs.Ytpgdmmjbhjbbhaa.Sp Go.Proofs.Ytpgdmmjbhjbbhaa.Vd Go.Proofs.Ytpgdmmjbhjbbhaa.Wr Go.Proofs.YtpgdmmjbhjbbhaaW.PrintWords Go.Proofs.YtpgdmmjbhjbbhaaW.PrintLast Go.Proofs.YtpgdmmjbhjbbhaaW.PrintMore
set_option linter.unusedVariables false
set_option linter.unusedSimpArgs false
set_option maxHeartbeats 8000000 in
set_option maxRecDepth 100000 in
theorem enc1_calls (m : Msg) (h : isI m.op.a ∧ isI m.op.b) (A : Option Addr) (c : Nat) (w : World) (hr : Kd.C k87 w A m.views.length m.views) (hc : m.views.length ≤ c) (hk : m.kind = 1) (hv : msgV m) :
    Calls Try.prog 16 #[MV m A c] w fun e w' => ∃ v, e = .returned (.tuple #[v, .int .i64 0]) ∧ Kd.R (Kd.int .u8) 5 w' w.heap.size (fun _ => True) v (msgB m) ∧ Below w.heap.size w w' := by
  have HT : Aside0 (msgB m = numsB [1] ++ (pairB ⟨m.call.f0, m.call.f1⟩ ++ (opB ⟨m.op.kind, m.op.name, m.op.a, m.op.b⟩))) := ⟨by unfold msgB restB; simp [hk, numsB, pairB, capOf, optB, hasEp, hasRt]⟩
  have HLEN := Aside0.mk (msg_len hv)
  have HV := Aside0.mk hv
  have HR := Aside0.mk hr
  have HC := Aside0.mk hc
  have HI := Aside0.mk h
  clear hv hr hc h
  have HK0 : Aside0 ((MVc m A c)[0]? = some (.int .i64 1)) := ⟨by unfold MVc; rw [hk]; rfl⟩
  have hu33 := Try.underlying33
  have hu23 := Try.underlying23
  have hu25 := Try.underlying25
  have hu27 := Try.underlying27
  have hu29 := Try.underlying29
  obtain ⟨wa, hwa⟩ : ∃ wa, wa = w.alloc (.cells (MVc m A c) 33 (0, 0)) := ⟨_, rfl⟩
  have HWA := Aside0.mk hwa
  have HB : Aside0 (Below w.heap.size w wa) := ⟨by rw [hwa]; exact (Below.refl _ _).alloc (Nat.le_refl _) _⟩
  have BK : Aside0 (wa.heap[w.heap.size]? = some (.cells (MVc m A c) 33 (0, 0))) := ⟨by rw [hwa]; exact heap_alloc_new w _⟩
  clear hwa
  go_enter Try.func16, Try.ntmps16
  unfold MV
  go_upto_region 1 with fail
  rw [← HWA.out]
  go_upto_region 3 with (first | ((with_reducible refine gate_dst (N := 5) rfl ?_); refine wpList_load_row rfl 33 (.tmp 1) rfl w.heap.size (by rfl) 33 (MVc m A c) (0, 0) _ BK.out Try.underlying33 rfl inf33 ?_) | (go_at_call 21; refine (valid_calls m HI.out A c _ (Kd.C_below HR.out HB.out) HC.out).mono ?_; rintro e w0 ⟨rfl, hb⟩; rw [dcd_pos HV.out]; have n0_ := Aside0.mk (below_step HB.out hb); have n1_ := Aside0.mk (blk_keep hb BK.out); clear HB BK hb; have HB := n0_; have BK := n1_; clear n0_ n1_))
  obtain ⟨w1, hw1⟩ : ∃ w1, w1 = w0.alloc (.cells #[.slice none 0 0] 99 (0, 0)) := ⟨_, rfl⟩
  have HW1 := Aside0.mk hw1
  have HS0 : Aside0 (WS w w1 w0.heap.size [] (.slice none 0 0)) := ⟨by rw [hw1]; exact ⟨heap_alloc_new w0 _, HB.out.size, Kd.R_nil _ _ _ _ _, below_alloc HB.out _⟩⟩
  have HBX : Aside0 (w1.heap[w.heap.size]? = some (.cells (MVc m A c) 33 (0, 0))) := ⟨by rw [hw1]; exact blk_keep (al_below w0 _) BK.out⟩
  have HST0 : Aside0 (Stay w1 w1) := ⟨Stay.refl _⟩
  clear hw1
  go_upto_region 4 with fail
  rw [← HW1.out]
  have kz0 : w1.cell? ⟨w.heap.size, 0, none⟩ = some (.int .i64 m.kind) := (box_stay HBX.out (by decide) (by decide) HST0.out 0).trans rfl
  rw [hk] at kz0
  have HB0 : Aside0 ((([] : List Int)).length + (numsB [1]).length ≤ 1099511627776) := ⟨by have h1 := congrArg List.length HT.out; simp only [List.length_append, List.length_nil] at h1 ⊢; have := HLEN.out; omega⟩
  have HL0 : Aside0 (IsL (w1.alloc (.cells #[.int .i64 1] 3 (0, 0))) w1.heap.size [1]) := ⟨heap_alloc_new w1 _⟩
  go_upto_region 5 with (go_at_call 53; refine (nums_calls w _ _ (([] : List Int)) (.slice none 0 0) _ [1] _ _ rfl (HS0.out.below (al_below w1 _)) HL0.out HB0.out (by simp)).mono ?_; rintro e w2 ⟨rfl, v2, hS1, hst⟩; have HS1 := Aside0.mk hS1; have HST1 : Aside0 (Stay w1 w2) := ⟨HST0.out.trans ((Stay.below (al_below w1 _)).trans hst)⟩; clear kz0; clear hS1 hst)
  have kk1 : w2.cell? ⟨w.heap.size, 0, none⟩ = some (.int .i64 1) := (box_stay HBX.out (by decide) (by decide) HST1.out 0).trans HK0.out
  go_upto_region 7 with fail
  clear kk1
  have kz11 : w2.cell? ⟨w.heap.size, 11, none⟩ = some (.int .i64 m.call.f0) := (box_stay HBX.out (by decide) (by decide) HST1.out 11).trans rfl
  have kz12 : w2.cell? ⟨w.heap.size, 12, none⟩ = some (.int .i64 m.call.f1) := (box_stay HBX.out (by decide) (by decide) HST1.out 12).trans rfl
  have HB1 : Aside0 ((([] : List Int) ++ numsB [1]).length + (pairB ⟨m.call.f0, m.call.f1⟩).length ≤ 1099511627776) := ⟨by have h1 := congrArg List.length HT.out; simp only [List.length_append, List.length_nil] at h1 ⊢; have := HLEN.out; omega⟩
  go_upto_region 8 with (go_at_call 54; refine (call_calls w _ _ (([] : List Int) ++ numsB [1]) v2 ⟨m.call.f0, m.call.f1⟩ HS1.out HB1.out).mono ?_; rintro e w3 ⟨rfl, v3, hS1, hst⟩; have HS2 := Aside0.mk hS1; have HST2 : Aside0 (Stay w1 w3) := ⟨HST1.out.trans hst⟩; clear kz11 kz12; clear hS1 hst)
  have kk2 : w3.cell? ⟨w.heap.size, 0, none⟩ = some (.int .i64 1) := (box_stay HBX.out (by decide) (by decide) HST2.out 0).trans HK0.out
  go_upto_region 8 with fail
  clear kk2
  have kz13 : w3.cell? ⟨w.heap.size, 13, none⟩ = some (.int .i64 m.op.kind) := (box_stay HBX.out (by decide) (by decide) HST2.out 13).trans rfl
  have kz14 : w3.cell? ⟨w.heap.size, 14, none⟩ = some (.string m.op.name) := (box_stay HBX.out (by decide) (by decide) HST2.out 14).trans rfl
  have kz15 : w3.cell? ⟨w.heap.size, 15, none⟩ = some (.int .i64 m.op.a) := (box_stay HBX.out (by decide) (by decide) HST2.out 15).trans rfl
  have kz16 : w3.cell? ⟨w.heap.size, 16, none⟩ = some (.int .i64 m.op.b) := (box_stay HBX.out (by decide) (by decide) HST2.out 16).trans rfl
  have HB2 : Aside0 ((([] : List Int) ++ numsB [1] ++ pairB ⟨m.call.f0, m.call.f1⟩).length + (opB ⟨m.op.kind, m.op.name, m.op.a, m.op.b⟩).length ≤ 1099511627776) := ⟨by have h1 := congrArg List.length HT.out; simp only [List.length_append, List.length_nil] at h1 ⊢; have := HLEN.out; omega⟩
  go_upto_region 9 with (go_at_call 55; refine (op_calls w _ _ (([] : List Int) ++ numsB [1] ++ pairB ⟨m.call.f0, m.call.f1⟩) v3 ⟨m.op.kind, m.op.name, m.op.a, m.op.b⟩ HI.out HS2.out HB2.out).mono ?_; rintro e w4 ⟨rfl, v4, hS1, hst⟩; have HS3 := Aside0.mk hS1; have HST3 : Aside0 (Stay w1 w4) := ⟨HST2.out.trans hst⟩; clear kz13 kz14 kz15 kz16; clear hS1 hst)
  have kk3 : w4.cell? ⟨w.heap.size, 0, none⟩ = some (.int .i64 1) := (box_stay HBX.out (by decide) (by decide) HST3.out 0).trans HK0.out
  go_upto_region 9 with fail
  clear kk3
  obtain ⟨Az, nz, cz, rfl⟩ := R_sl HS3.out.row
  have kw : w4.cell? ⟨w0.heap.size, 0, none⟩ = some (.slice Az nz cz) := (blk_cell HS3.out.blk 0).trans rfl
  go_wp2_with fail
  go_ret2
  refine ⟨.slice Az nz cz, rfl, ?_, HS3.out.bel⟩
  have hrow := HS3.out.row
  rw [show ([] : List Int) ++ numsB [1] ++ pairB ⟨m.call.f0, m.call.f1⟩ ++ opB ⟨m.op.kind, m.op.name, m.op.a, m.op.b⟩ = msgB m from by rw [HT.out]; simp only [List.nil_append, List.append_assoc]] at hrow
  exact hrow
set_option maxHeartbeats 8000000 in
set_option maxRecDepth 100000 in
theorem enc10_calls (m : Msg) (h : isI m.op.a ∧ isI m.op.b) (A : Option Addr) (c : Nat) (w : World) (hr : Kd.C k87 w A m.views.length m.views) (hc : m.views.length ≤ c) (hk : m.kind = 10) (hv : msgV m) :
    Calls Try.prog 16 #[MV m A c] w fun e w' => ∃ v, e = .returned (.tuple #[v, .int .i64 0]) ∧ Kd.R (Kd.int .u8) 5 w' w.heap.size (fun _ => True) v (msgB m) ∧ Below w.heap.size w w' := by
  have HT : Aside0 (msgB m = numsB [10] ++ (listB m.views)) := ⟨by unfold msgB restB; simp [hk, numsB, pairB, capOf, optB, hasEp, hasRt]⟩
  have HLEN := Aside0.mk (msg_len hv)
  have HVL : Aside0 (m.views.length ≤ 1000) := ⟨by have h1 := hv.2; unfold restV at h1; simp [hk] at h1; have := h1.1.1; omega⟩
  have HV := Aside0.mk hv
  have HR := Aside0.mk hr
  have HC := Aside0.mk hc
  have HI := Aside0.mk h
  clear hv hr hc h
  have HK0 : Aside0 ((MVc m A c)[0]? = some (.int .i64 10)) := ⟨by unfold MVc; rw [hk]; rfl⟩
  have hu33 := Try.underlying33
  have hu23 := Try.underlying23
  have hu25 := Try.underlying25
  have hu27 := Try.underlying27
  have hu29 := Try.underlying29
  obtain ⟨wa, hwa⟩ : ∃ wa, wa = w.alloc (.cells (MVc m A c) 33 (0, 0)) := ⟨_, rfl⟩
  have HWA := Aside0.mk hwa
  have HB : Aside0 (Below w.heap.size w wa) := ⟨by rw [hwa]; exact (Below.refl _ _).alloc (Nat.le_refl _) _⟩
  have BK : Aside0 (wa.heap[w.heap.size]? = some (.cells (MVc m A c) 33 (0, 0))) := ⟨by rw [hwa]; exact heap_alloc_new w _⟩
  clear hwa
  go_enter Try.func16, Try.ntmps16
  unfold MV
  go_upto_region 1 with fail
  rw [← HWA.out]
  go_upto_region 3 with (first | ((with_reducible refine gate_dst (N := 5) rfl ?_); refine wpList_load_row rfl 33 (.tmp 1) rfl w.heap.size (by rfl) 33 (MVc m A c) (0, 0) _ BK.out Try.underlying33 rfl inf33 ?_) | (go_at_call 21; refine (valid_calls m HI.out A c _ (Kd.C_below HR.out HB.out) HC.out).mono ?_; rintro e w0 ⟨rfl, hb⟩; rw [dcd_pos HV.out]; have n0_ := Aside0.mk (below_step HB.out hb); have n1_ := Aside0.mk (blk_keep hb BK.out); clear HB BK hb; have HB := n0_; have BK := n1_; clear n0_ n1_))
  obtain ⟨w1, hw1⟩ : ∃ w1, w1 = w0.alloc (.cells #[.slice none 0 0] 99 (0, 0)) := ⟨_, rfl⟩
  have HW1 := Aside0.mk hw1
  have HS0 : Aside0 (WS w w1 w0.heap.size [] (.slice none 0 0)) := ⟨by rw [hw1]; exact ⟨heap_alloc_new w0 _, HB.out.size, Kd.R_nil _ _ _ _ _, below_alloc HB.out _⟩⟩
  have HBX : Aside0 (w1.heap[w.heap.size]? = some (.cells (MVc m A c) 33 (0, 0))) := ⟨by rw [hw1]; exact blk_keep (al_below w0 _) BK.out⟩
  have HST0 : Aside0 (Stay w1 w1) := ⟨Stay.refl _⟩
  clear hw1
  go_upto_region 4 with fail
  rw [← HW1.out]
  have kz0 : w1.cell? ⟨w.heap.size, 0, none⟩ = some (.int .i64 m.kind) := (box_stay HBX.out (by decide) (by decide) HST0.out 0).trans rfl
  rw [hk] at kz0
  have HB0 : Aside0 ((([] : List Int)).length + (numsB [10]).length ≤ 1099511627776) := ⟨by have h1 := congrArg List.length HT.out; simp only [List.length_append, List.length_nil] at h1 ⊢; have := HLEN.out; omega⟩
  have HL0 : Aside0 (IsL (w1.alloc (.cells #[.int .i64 10] 3 (0, 0))) w1.heap.size [10]) := ⟨heap_alloc_new w1 _⟩
  go_upto_region 5 with (go_at_call 53; refine (nums_calls w _ _ (([] : List Int)) (.slice none 0 0) _ [10] _ _ rfl (HS0.out.below (al_below w1 _)) HL0.out HB0.out (by simp)).mono ?_; rintro e w2 ⟨rfl, v2, hS1, hst⟩; have HS1 := Aside0.mk hS1; have HST1 : Aside0 (Stay w1 w2) := ⟨HST0.out.trans ((Stay.below (al_below w1 _)).trans hst)⟩; clear kz0; clear hS1 hst)
  have kk1 : w2.cell? ⟨w.heap.size, 0, none⟩ = some (.int .i64 10) := (box_stay HBX.out (by decide) (by decide) HST1.out 0).trans HK0.out
  go_upto_region 11 with fail
  clear kk1
  have kz19 : w2.cell? ⟨w.heap.size, 19, none⟩ = some (.slice A m.views.length c) := (box_stay HBX.out (by decide) (by decide) HST1.out 19).trans rfl
  have HB1 : Aside0 ((([] : List Int) ++ numsB [10]).length + (listB m.views).length ≤ 1099511627776) := ⟨by have h1 := congrArg List.length HT.out; simp only [List.length_append, List.length_nil] at h1 ⊢; have := HLEN.out; omega⟩
  go_upto_region 12 with (go_at_call 56; refine (views_calls w _ _ (([] : List Int) ++ numsB [10]) v2 A c m.views HR.out HVL.out HS1.out HB1.out).mono ?_; rintro e w3 ⟨rfl, v3, hS1, hst⟩; have HS2 := Aside0.mk hS1; have HST2 : Aside0 (Stay w1 w3) := ⟨HST1.out.trans hst⟩; clear kz19; clear hS1 hst)
  have kk2 : w3.cell? ⟨w.heap.size, 0, none⟩ = some (.int .i64 10) := (box_stay HBX.out (by decide) (by decide) HST2.out 0).trans HK0.out
  go_upto_region 12 with fail
  clear kk2
  obtain ⟨Az, nz, cz, rfl⟩ := R_sl HS2.out.row
  have kw : w3.cell? ⟨w0.heap.size, 0, none⟩ = some (.slice Az nz cz) := (blk_cell HS2.out.blk 0).trans rfl
  go_wp2_with fail
  go_ret2
  refine ⟨.slice Az nz cz, rfl, ?_, HS2.out.bel⟩
  have hrow := HS2.out.row
  rw [show ([] : List Int) ++ numsB [10] ++ listB m.views = msgB m from by rw [HT.out]; simp only [List.nil_append, List.append_assoc]] at hrow
  exact hrow
set_option maxHeartbeats 8000000 in
set_option maxRecDepth 100000 in
theorem enc3_calls (m : Msg) (h : isI m.op.a ∧ isI m.op.b) (A : Option Addr) (c : Nat) (w : World) (hr : Kd.C k87 w A m.views.length m.views) (hc : m.views.length ≤ c) (hk : m.kind = 3) (hv : msgV m) :
    Calls Try.prog 16 #[MV m A c] w fun e w' => ∃ v, e = .returned (.tuple #[v, .int .i64 0]) ∧ Kd.R (Kd.int .u8) 5 w' w.heap.size (fun _ => True) v (msgB m) ∧ Below w.heap.size w w' := by
  have HT : Aside0 (msgB m = numsB [3] ++ (textB m.name ++ (numsB [m.cap, m.recaps] ++ (numsB [m.epoch.f0, m.epoch.f1])))) := ⟨by unfold msgB restB; simp [hk, numsB, pairB, capOf, optB, hasEp, hasRt]⟩
  have HLEN := Aside0.mk (msg_len hv)
  have HV := Aside0.mk hv
  have HR := Aside0.mk hr
  have HC := Aside0.mk hc
  have HI := Aside0.mk h
  clear hv hr hc h
  have HK0 : Aside0 ((MVc m A c)[0]? = some (.int .i64 3)) := ⟨by unfold MVc; rw [hk]; rfl⟩
  have hu33 := Try.underlying33
  have hu23 := Try.underlying23
  have hu25 := Try.underlying25
  have hu27 := Try.underlying27
  have hu29 := Try.underlying29
  obtain ⟨wa, hwa⟩ : ∃ wa, wa = w.alloc (.cells (MVc m A c) 33 (0, 0)) := ⟨_, rfl⟩
  have HWA := Aside0.mk hwa
  have HB : Aside0 (Below w.heap.size w wa) := ⟨by rw [hwa]; exact (Below.refl _ _).alloc (Nat.le_refl _) _⟩
  have BK : Aside0 (wa.heap[w.heap.size]? = some (.cells (MVc m A c) 33 (0, 0))) := ⟨by rw [hwa]; exact heap_alloc_new w _⟩
  clear hwa
  go_enter Try.func16, Try.ntmps16
  unfold MV
  go_upto_region 1 with fail
  rw [← HWA.out]
  go_upto_region 3 with (first | ((with_reducible refine gate_dst (N := 5) rfl ?_); refine wpList_load_row rfl 33 (.tmp 1) rfl w.heap.size (by rfl) 33 (MVc m A c) (0, 0) _ BK.out Try.underlying33 rfl inf33 ?_) | (go_at_call 21; refine (valid_calls m HI.out A c _ (Kd.C_below HR.out HB.out) HC.out).mono ?_; rintro e w0 ⟨rfl, hb⟩; rw [dcd_pos HV.out]; have n0_ := Aside0.mk (below_step HB.out hb); have n1_ := Aside0.mk (blk_keep hb BK.out); clear HB BK hb; have HB := n0_; have BK := n1_; clear n0_ n1_))
  obtain ⟨w1, hw1⟩ : ∃ w1, w1 = w0.alloc (.cells #[.slice none 0 0] 99 (0, 0)) := ⟨_, rfl⟩
  have HW1 := Aside0.mk hw1
  have HS0 : Aside0 (WS w w1 w0.heap.size [] (.slice none 0 0)) := ⟨by rw [hw1]; exact ⟨heap_alloc_new w0 _, HB.out.size, Kd.R_nil _ _ _ _ _, below_alloc HB.out _⟩⟩
  have HBX : Aside0 (w1.heap[w.heap.size]? = some (.cells (MVc m A c) 33 (0, 0))) := ⟨by rw [hw1]; exact blk_keep (al_below w0 _) BK.out⟩
  have HST0 : Aside0 (Stay w1 w1) := ⟨Stay.refl _⟩
  clear hw1
  go_upto_region 4 with fail
  rw [← HW1.out]
  have kz0 : w1.cell? ⟨w.heap.size, 0, none⟩ = some (.int .i64 m.kind) := (box_stay HBX.out (by decide) (by decide) HST0.out 0).trans rfl
  rw [hk] at kz0
  have HB0 : Aside0 ((([] : List Int)).length + (numsB [3]).length ≤ 1099511627776) := ⟨by have h1 := congrArg List.length HT.out; simp only [List.length_append, List.length_nil] at h1 ⊢; have := HLEN.out; omega⟩
  have HL0 : Aside0 (IsL (w1.alloc (.cells #[.int .i64 3] 3 (0, 0))) w1.heap.size [3]) := ⟨heap_alloc_new w1 _⟩
  go_upto_region 5 with (go_at_call 53; refine (nums_calls w _ _ (([] : List Int)) (.slice none 0 0) _ [3] _ _ rfl (HS0.out.below (al_below w1 _)) HL0.out HB0.out (by simp)).mono ?_; rintro e w2 ⟨rfl, v2, hS1, hst⟩; have HS1 := Aside0.mk hS1; have HST1 : Aside0 (Stay w1 w2) := ⟨HST0.out.trans ((Stay.below (al_below w1 _)).trans hst)⟩; clear kz0; clear hS1 hst)
  have kk1 : w2.cell? ⟨w.heap.size, 0, none⟩ = some (.int .i64 3) := (box_stay HBX.out (by decide) (by decide) HST1.out 0).trans HK0.out
  go_upto_region 20 with fail
  clear kk1
  have kz1 : w2.cell? ⟨w.heap.size, 1, none⟩ = some (.string m.name) := (box_stay HBX.out (by decide) (by decide) HST1.out 1).trans rfl
  have HB1 : Aside0 ((([] : List Int) ++ numsB [3]).length + (textB m.name).length ≤ 1099511627776) := ⟨by have h1 := congrArg List.length HT.out; simp only [List.length_append, List.length_nil] at h1 ⊢; have := HLEN.out; omega⟩
  go_upto_region 21 with (go_at_call 57; refine (text_calls w _ _ (([] : List Int) ++ numsB [3]) v2 m.name HS1.out HB1.out).mono ?_; rintro e w3 ⟨rfl, v3, hS1, hst⟩; have HS2 := Aside0.mk hS1; have HST2 : Aside0 (Stay w1 w3) := ⟨HST1.out.trans hst⟩; clear kz1; clear hS1 hst)
  have kk2 : w3.cell? ⟨w.heap.size, 0, none⟩ = some (.int .i64 3) := (box_stay HBX.out (by decide) (by decide) HST2.out 0).trans HK0.out
  go_upto_region 21 with fail
  clear kk2
  have kz2 : w3.cell? ⟨w.heap.size, 2, none⟩ = some (.int .i64 m.cap) := (box_stay HBX.out (by decide) (by decide) HST2.out 2).trans rfl
  have kz3 : w3.cell? ⟨w.heap.size, 3, none⟩ = some (.int .i64 m.recaps) := (box_stay HBX.out (by decide) (by decide) HST2.out 3).trans rfl
  have HB2 : Aside0 ((([] : List Int) ++ numsB [3] ++ textB m.name).length + (numsB [m.cap, m.recaps]).length ≤ 1099511627776) := ⟨by have h1 := congrArg List.length HT.out; simp only [List.length_append, List.length_nil] at h1 ⊢; have := HLEN.out; omega⟩
  have HL2 : Aside0 (IsL (w3.alloc (.cells #[.int .i64 m.cap, .int .i64 m.recaps] 3 (0, 0))) w3.heap.size [m.cap, m.recaps]) := ⟨heap_alloc_new w3 _⟩
  go_upto_region 22 with (go_at_call 53; refine (nums_calls w _ _ (([] : List Int) ++ numsB [3] ++ textB m.name) v3 _ [m.cap, m.recaps] _ _ rfl (HS2.out.below (al_below w3 _)) HL2.out HB2.out (by simp)).mono ?_; rintro e w4 ⟨rfl, v4, hS1, hst⟩; have HS3 := Aside0.mk hS1; have HST3 : Aside0 (Stay w1 w4) := ⟨HST2.out.trans ((Stay.below (al_below w3 _)).trans hst)⟩; clear kz2 kz3; clear hS1 hst)
  have kk3 : w4.cell? ⟨w.heap.size, 0, none⟩ = some (.int .i64 3) := (box_stay HBX.out (by decide) (by decide) HST3.out 0).trans HK0.out
  go_upto_region 28 with fail
  clear kk3
  have kz4 : w4.cell? ⟨w.heap.size, 4, none⟩ = some (.int .i64 m.epoch.f0) := (box_stay HBX.out (by decide) (by decide) HST3.out 4).trans rfl
  have kz5 : w4.cell? ⟨w.heap.size, 5, none⟩ = some (.int .i64 m.epoch.f1) := (box_stay HBX.out (by decide) (by decide) HST3.out 5).trans rfl
  have HB3 : Aside0 ((([] : List Int) ++ numsB [3] ++ textB m.name ++ numsB [m.cap, m.recaps]).length + (numsB [m.epoch.f0, m.epoch.f1]).length ≤ 1099511627776) := ⟨by have h1 := congrArg List.length HT.out; simp only [List.length_append, List.length_nil] at h1 ⊢; have := HLEN.out; omega⟩
  have HL3 : Aside0 (IsL (w4.alloc (.cells #[.int .i64 m.epoch.f0, .int .i64 m.epoch.f1] 3 (0, 0))) w4.heap.size [m.epoch.f0, m.epoch.f1]) := ⟨heap_alloc_new w4 _⟩
  go_upto_region 29 with (go_at_call 53; refine (nums_calls w _ _ (([] : List Int) ++ numsB [3] ++ textB m.name ++ numsB [m.cap, m.recaps]) v4 _ [m.epoch.f0, m.epoch.f1] _ _ rfl (HS3.out.below (al_below w4 _)) HL3.out HB3.out (by simp)).mono ?_; rintro e w5 ⟨rfl, v5, hS1, hst⟩; have HS4 := Aside0.mk hS1; have HST4 : Aside0 (Stay w1 w5) := ⟨HST3.out.trans ((Stay.below (al_below w4 _)).trans hst)⟩; clear kz4 kz5; clear hS1 hst)
  have kk4 : w5.cell? ⟨w.heap.size, 0, none⟩ = some (.int .i64 3) := (box_stay HBX.out (by decide) (by decide) HST4.out 0).trans HK0.out
  go_upto_region 36 with fail
  clear kk4
  obtain ⟨Az, nz, cz, rfl⟩ := R_sl HS4.out.row
  have kw : w5.cell? ⟨w0.heap.size, 0, none⟩ = some (.slice Az nz cz) := (blk_cell HS4.out.blk 0).trans rfl
  go_wp2_with fail
  go_ret2
  refine ⟨.slice Az nz cz, rfl, ?_, HS4.out.bel⟩
  have hrow := HS4.out.row
  rw [show ([] : List Int) ++ numsB [3] ++ textB m.name ++ numsB [m.cap, m.recaps] ++ numsB [m.epoch.f0, m.epoch.f1] = msgB m from by rw [HT.out]; simp only [List.nil_append, List.append_assoc]] at hrow
  exact hrow
end Go.Proofs.Ytpgdmmjbhjbbhaa.En
end
section
namespace Go.Proofs.Ytpgdmmjbhjbbhaa.En
open Go Go.RowKit Go.Proofs.Ytpgdmmjbhjbbhaa.P Go.Proofs.Ytpgdmmjbhjbbhaa.Sp Go.Proofs.Ytpgdmmjbhjbbhaa.Vd Go.Proofs.Ytpgdmmjbhjbbhaa.Wr Go.Proofs.YtpgdmmjbhjbbhaaW.PrintWords Go.Proofs.YtpgdmmjbhjbbhaaW.PrintLast Go.Proofs.YtpgdmmjbhjbbhaaW.PrintMore
set_option linter.unusedVariables false
set_option linter.unusedSimpArgs false
set_option maxHeartbeats 8000000 in
set_option maxRecDepth 100000 in
theorem enc2t_calls (m : Msg) (h : isI m.op.a ∧ isI m.op.b) (A : Option Addr) (c : Nat) (w : World) (hr : Kd.C k87 w A m.views.length m.views) (hc : m.views.length ≤ c) (hk : m.kind = 2) (hv : msgV m) (hq : capped m.err) :
    Calls Try.prog 16 #[MV m A c] w fun e w' => ∃ v, e = .returned (.tuple #[v, .int .i64 0]) ∧ Kd.R (Kd.int .u8) 5 w' w.heap.size (fun _ => True) v (msgB m) ∧ Below w.heap.size w w' := by
  have HT : Aside0 (msgB m = numsB [2] ++ (pairB ⟨m.call.f0, m.call.f1⟩ ++ (textB m.name ++ (numsB [m.err] ++ (numsB [m.cap, m.recaps]))))) := ⟨by unfold msgB restB; simp [hk, numsB, pairB, capOf, optB, hasEp, hasRt, hq]⟩
  have HLEN := Aside0.mk (msg_len hv)
  have HV := Aside0.mk hv
  have HR := Aside0.mk hr
  have HC := Aside0.mk hc
  have HI := Aside0.mk h
  have hcq := dcd_pos hq
  clear hv hr hc h hq
  have HK0 : Aside0 ((MVc m A c)[0]? = some (.int .i64 2)) := ⟨by unfold MVc; rw [hk]; rfl⟩
  have hu33 := Try.underlying33
  have hu23 := Try.underlying23
  have hu25 := Try.underlying25
  have hu27 := Try.underlying27
  have hu29 := Try.underlying29
  obtain ⟨wa, hwa⟩ : ∃ wa, wa = w.alloc (.cells (MVc m A c) 33 (0, 0)) := ⟨_, rfl⟩
  have HWA := Aside0.mk hwa
  have HB : Aside0 (Below w.heap.size w wa) := ⟨by rw [hwa]; exact (Below.refl _ _).alloc (Nat.le_refl _) _⟩
  have BK : Aside0 (wa.heap[w.heap.size]? = some (.cells (MVc m A c) 33 (0, 0))) := ⟨by rw [hwa]; exact heap_alloc_new w _⟩
  clear hwa
  go_enter Try.func16, Try.ntmps16
  unfold MV
  go_upto_region 1 with fail
  rw [← HWA.out]
  go_upto_region 3 with (first | ((with_reducible refine gate_dst (N := 5) rfl ?_); refine wpList_load_row rfl 33 (.tmp 1) rfl w.heap.size (by rfl) 33 (MVc m A c) (0, 0) _ BK.out Try.underlying33 rfl inf33 ?_) | (go_at_call 21; refine (valid_calls m HI.out A c _ (Kd.C_below HR.out HB.out) HC.out).mono ?_; rintro e w0 ⟨rfl, hb⟩; rw [dcd_pos HV.out]; have n0_ := Aside0.mk (below_step HB.out hb); have n1_ := Aside0.mk (blk_keep hb BK.out); clear HB BK hb; have HB := n0_; have BK := n1_; clear n0_ n1_))
  obtain ⟨w1, hw1⟩ : ∃ w1, w1 = w0.alloc (.cells #[.slice none 0 0] 99 (0, 0)) := ⟨_, rfl⟩
  have HW1 := Aside0.mk hw1
  have HS0 : Aside0 (WS w w1 w0.heap.size [] (.slice none 0 0)) := ⟨by rw [hw1]; exact ⟨heap_alloc_new w0 _, HB.out.size, Kd.R_nil _ _ _ _ _, below_alloc HB.out _⟩⟩
  have HBX : Aside0 (w1.heap[w.heap.size]? = some (.cells (MVc m A c) 33 (0, 0))) := ⟨by rw [hw1]; exact blk_keep (al_below w0 _) BK.out⟩
  have HST0 : Aside0 (Stay w1 w1) := ⟨Stay.refl _⟩
  clear hw1
  go_upto_region 4 with fail
  rw [← HW1.out]
  have kz0 : w1.cell? ⟨w.heap.size, 0, none⟩ = some (.int .i64 m.kind) := (box_stay HBX.out (by decide) (by decide) HST0.out 0).trans rfl
  rw [hk] at kz0
  have HB0 : Aside0 ((([] : List Int)).length + (numsB [2]).length ≤ 1099511627776) := ⟨by have h1 := congrArg List.length HT.out; simp only [List.length_append, List.length_nil] at h1 ⊢; have := HLEN.out; omega⟩
  have HL0 : Aside0 (IsL (w1.alloc (.cells #[.int .i64 2] 3 (0, 0))) w1.heap.size [2]) := ⟨heap_alloc_new w1 _⟩
  go_upto_region 5 with (go_at_call 53; refine (nums_calls w _ _ (([] : List Int)) (.slice none 0 0) _ [2] _ _ rfl (HS0.out.below (al_below w1 _)) HL0.out HB0.out (by simp)).mono ?_; rintro e w2 ⟨rfl, v2, hS1, hst⟩; have HS1 := Aside0.mk hS1; have HST1 : Aside0 (Stay w1 w2) := ⟨HST0.out.trans ((Stay.below (al_below w1 _)).trans hst)⟩; clear kz0; clear hS1 hst)
  have kk1 : w2.cell? ⟨w.heap.size, 0, none⟩ = some (.int .i64 2) := (box_stay HBX.out (by decide) (by decide) HST1.out 0).trans HK0.out
  go_upto_region 14 with fail
  clear kk1
  have kz11 : w2.cell? ⟨w.heap.size, 11, none⟩ = some (.int .i64 m.call.f0) := (box_stay HBX.out (by decide) (by decide) HST1.out 11).trans rfl
  have kz12 : w2.cell? ⟨w.heap.size, 12, none⟩ = some (.int .i64 m.call.f1) := (box_stay HBX.out (by decide) (by decide) HST1.out 12).trans rfl
  have HB1 : Aside0 ((([] : List Int) ++ numsB [2]).length + (pairB ⟨m.call.f0, m.call.f1⟩).length ≤ 1099511627776) := ⟨by have h1 := congrArg List.length HT.out; simp only [List.length_append, List.length_nil] at h1 ⊢; have := HLEN.out; omega⟩
  go_upto_region 15 with (go_at_call 54; refine (call_calls w _ _ (([] : List Int) ++ numsB [2]) v2 ⟨m.call.f0, m.call.f1⟩ HS1.out HB1.out).mono ?_; rintro e w3 ⟨rfl, v3, hS1, hst⟩; have HS2 := Aside0.mk hS1; have HST2 : Aside0 (Stay w1 w3) := ⟨HST1.out.trans hst⟩; clear kz11 kz12; clear hS1 hst)
  have kk2 : w3.cell? ⟨w.heap.size, 0, none⟩ = some (.int .i64 2) := (box_stay HBX.out (by decide) (by decide) HST2.out 0).trans HK0.out
  go_upto_region 15 with fail
  clear kk2
  have kz1 : w3.cell? ⟨w.heap.size, 1, none⟩ = some (.string m.name) := (box_stay HBX.out (by decide) (by decide) HST2.out 1).trans rfl
  have HB2 : Aside0 ((([] : List Int) ++ numsB [2] ++ pairB ⟨m.call.f0, m.call.f1⟩).length + (textB m.name).length ≤ 1099511627776) := ⟨by have h1 := congrArg List.length HT.out; simp only [List.length_append, List.length_nil] at h1 ⊢; have := HLEN.out; omega⟩
  go_upto_region 16 with (go_at_call 57; refine (text_calls w _ _ (([] : List Int) ++ numsB [2] ++ pairB ⟨m.call.f0, m.call.f1⟩) v3 m.name HS2.out HB2.out).mono ?_; rintro e w4 ⟨rfl, v4, hS1, hst⟩; have HS3 := Aside0.mk hS1; have HST3 : Aside0 (Stay w1 w4) := ⟨HST2.out.trans hst⟩; clear kz1; clear hS1 hst)
  have kk3 : w4.cell? ⟨w.heap.size, 0, none⟩ = some (.int .i64 2) := (box_stay HBX.out (by decide) (by decide) HST3.out 0).trans HK0.out
  go_upto_region 16 with fail
  clear kk3
  have kz17 : w4.cell? ⟨w.heap.size, 17, none⟩ = some (.int .i64 m.err) := (box_stay HBX.out (by decide) (by decide) HST3.out 17).trans rfl
  have HB3 : Aside0 ((([] : List Int) ++ numsB [2] ++ pairB ⟨m.call.f0, m.call.f1⟩ ++ textB m.name).length + (numsB [m.err]).length ≤ 1099511627776) := ⟨by have h1 := congrArg List.length HT.out; simp only [List.length_append, List.length_nil] at h1 ⊢; have := HLEN.out; omega⟩
  have HL3 : Aside0 (IsL (w4.alloc (.cells #[.int .i64 m.err] 3 (0, 0))) w4.heap.size [m.err]) := ⟨heap_alloc_new w4 _⟩
  go_upto_region 17 with (go_at_call 53; refine (nums_calls w _ _ (([] : List Int) ++ numsB [2] ++ pairB ⟨m.call.f0, m.call.f1⟩ ++ textB m.name) v4 _ [m.err] _ _ rfl (HS3.out.below (al_below w4 _)) HL3.out HB3.out (by simp)).mono ?_; rintro e w5 ⟨rfl, v5, hS1, hst⟩; have HS4 := Aside0.mk hS1; have HST4 : Aside0 (Stay w1 w5) := ⟨HST3.out.trans ((Stay.below (al_below w4 _)).trans hst)⟩; clear kz17; clear hS1 hst)
  have kk4 : w5.cell? ⟨w.heap.size, 0, none⟩ = some (.int .i64 2) := (box_stay HBX.out (by decide) (by decide) HST4.out 0).trans HK0.out
  go_upto_region 17 with fail
  clear kk4
  have kz17 : w5.cell? ⟨w.heap.size, 17, none⟩ = some (.int .i64 m.err) := (box_stay HBX.out (by decide) (by decide) HST4.out 17).trans rfl
  go_upto_region 18 with (go_at_call 58; refine (capped_calls _ _).mono ?_; rintro e w6 ⟨rfl, hb⟩; rw [hcq]; have HST5 : Aside0 (Stay w1 w6) := ⟨HST4.out.trans (Stay.below hb)⟩; have HS5 : Aside0 (WS w w6 w0.heap.size (([] : List Int) ++ numsB [2] ++ pairB ⟨m.call.f0, m.call.f1⟩ ++ textB m.name ++ numsB [m.err]) v5) := ⟨HS4.out.below hb⟩; clear hb kz17)
  have kz2 : w6.cell? ⟨w.heap.size, 2, none⟩ = some (.int .i64 m.cap) := (box_stay HBX.out (by decide) (by decide) HST5.out 2).trans rfl
  have kz3 : w6.cell? ⟨w.heap.size, 3, none⟩ = some (.int .i64 m.recaps) := (box_stay HBX.out (by decide) (by decide) HST5.out 3).trans rfl
  have HB5 : Aside0 ((([] : List Int) ++ numsB [2] ++ pairB ⟨m.call.f0, m.call.f1⟩ ++ textB m.name ++ numsB [m.err]).length + (numsB [m.cap, m.recaps]).length ≤ 1099511627776) := ⟨by have h1 := congrArg List.length HT.out; simp only [List.length_append, List.length_nil] at h1 ⊢; have := HLEN.out; omega⟩
  have HL5 : Aside0 (IsL (w6.alloc (.cells #[.int .i64 m.cap, .int .i64 m.recaps] 3 (0, 0))) w6.heap.size [m.cap, m.recaps]) := ⟨heap_alloc_new w6 _⟩
  go_upto_region 19 with (go_at_call 53; refine (nums_calls w _ _ (([] : List Int) ++ numsB [2] ++ pairB ⟨m.call.f0, m.call.f1⟩ ++ textB m.name ++ numsB [m.err]) v5 _ [m.cap, m.recaps] _ _ rfl (HS5.out.below (al_below w6 _)) HL5.out HB5.out (by simp)).mono ?_; rintro e w7 ⟨rfl, v7, hS1, hst⟩; have HS6 := Aside0.mk hS1; have HST6 : Aside0 (Stay w1 w7) := ⟨HST5.out.trans ((Stay.below (al_below w6 _)).trans hst)⟩; clear kz2 kz3; clear hS1 hst)
  have kk6 : w7.cell? ⟨w.heap.size, 0, none⟩ = some (.int .i64 2) := (box_stay HBX.out (by decide) (by decide) HST6.out 0).trans HK0.out
  go_upto_region 19 with fail
  clear kk6
  obtain ⟨Az, nz, cz, rfl⟩ := R_sl HS6.out.row
  have kw : w7.cell? ⟨w0.heap.size, 0, none⟩ = some (.slice Az nz cz) := (blk_cell HS6.out.blk 0).trans rfl
  go_wp2_with fail
  go_ret2
  refine ⟨.slice Az nz cz, rfl, ?_, HS6.out.bel⟩
  have hrow := HS6.out.row
  rw [show ([] : List Int) ++ numsB [2] ++ pairB ⟨m.call.f0, m.call.f1⟩ ++ textB m.name ++ numsB [m.err] ++ numsB [m.cap, m.recaps] = msgB m from by rw [HT.out]; simp only [List.nil_append, List.append_assoc]] at hrow
  exact hrow
set_option maxHeartbeats 8000000 in
set_option maxRecDepth 100000 in
theorem enc2f_calls (m : Msg) (h : isI m.op.a ∧ isI m.op.b) (A : Option Addr) (c : Nat) (w : World) (hr : Kd.C k87 w A m.views.length m.views) (hc : m.views.length ≤ c) (hk : m.kind = 2) (hv : msgV m) (hq : ¬ capped m.err) :
    Calls Try.prog 16 #[MV m A c] w fun e w' => ∃ v, e = .returned (.tuple #[v, .int .i64 0]) ∧ Kd.R (Kd.int .u8) 5 w' w.heap.size (fun _ => True) v (msgB m) ∧ Below w.heap.size w w' := by
  have HT : Aside0 (msgB m = numsB [2] ++ (pairB ⟨m.call.f0, m.call.f1⟩ ++ (textB m.name ++ (numsB [m.err])))) := ⟨by unfold msgB restB; simp [hk, numsB, pairB, capOf, optB, hasEp, hasRt, hq]⟩
  have HLEN := Aside0.mk (msg_len hv)
  have HV := Aside0.mk hv
  have HR := Aside0.mk hr
  have HC := Aside0.mk hc
  have HI := Aside0.mk h
  have hcq := dcd_neg hq
  clear hv hr hc h hq
  have HK0 : Aside0 ((MVc m A c)[0]? = some (.int .i64 2)) := ⟨by unfold MVc; rw [hk]; rfl⟩
  have hu33 := Try.underlying33
  have hu23 := Try.underlying23
  have hu25 := Try.underlying25
  have hu27 := Try.underlying27
  have hu29 := Try.underlying29
  obtain ⟨wa, hwa⟩ : ∃ wa, wa = w.alloc (.cells (MVc m A c) 33 (0, 0)) := ⟨_, rfl⟩
  have HWA := Aside0.mk hwa
  have HB : Aside0 (Below w.heap.size w wa) := ⟨by rw [hwa]; exact (Below.refl _ _).alloc (Nat.le_refl _) _⟩
  have BK : Aside0 (wa.heap[w.heap.size]? = some (.cells (MVc m A c) 33 (0, 0))) := ⟨by rw [hwa]; exact heap_alloc_new w _⟩
  clear hwa
  go_enter Try.func16, Try.ntmps16
  unfold MV
  go_upto_region 1 with fail
  rw [← HWA.out]
  go_upto_region 3 with (first | ((with_reducible refine gate_dst (N := 5) rfl ?_); refine wpList_load_row rfl 33 (.tmp 1) rfl w.heap.size (by rfl) 33 (MVc m A c) (0, 0) _ BK.out Try.underlying33 rfl inf33 ?_) | (go_at_call 21; refine (valid_calls m HI.out A c _ (Kd.C_below HR.out HB.out) HC.out).mono ?_; rintro e w0 ⟨rfl, hb⟩; rw [dcd_pos HV.out]; have n0_ := Aside0.mk (below_step HB.out hb); have n1_ := Aside0.mk (blk_keep hb BK.out); clear HB BK hb; have HB := n0_; have BK := n1_; clear n0_ n1_))
  obtain ⟨w1, hw1⟩ : ∃ w1, w1 = w0.alloc (.cells #[.slice none 0 0] 99 (0, 0)) := ⟨_, rfl⟩
  have HW1 := Aside0.mk hw1
  have HS0 : Aside0 (WS w w1 w0.heap.size [] (.slice none 0 0)) := ⟨by rw [hw1]; exact ⟨heap_alloc_new w0 _, HB.out.size, Kd.R_nil _ _ _ _ _, below_alloc HB.out _⟩⟩
  have HBX : Aside0 (w1.heap[w.heap.size]? = some (.cells (MVc m A c) 33 (0, 0))) := ⟨by rw [hw1]; exact blk_keep (al_below w0 _) BK.out⟩
  have HST0 : Aside0 (Stay w1 w1) := ⟨Stay.refl _⟩
  clear hw1
  go_upto_region 4 with fail
  rw [← HW1.out]
  have kz0 : w1.cell? ⟨w.heap.size, 0, none⟩ = some (.int .i64 m.kind) := (box_stay HBX.out (by decide) (by decide) HST0.out 0).trans rfl
  rw [hk] at kz0
  have HB0 : Aside0 ((([] : List Int)).length + (numsB [2]).length ≤ 1099511627776) := ⟨by have h1 := congrArg List.length HT.out; simp only [List.length_append, List.length_nil] at h1 ⊢; have := HLEN.out; omega⟩
  have HL0 : Aside0 (IsL (w1.alloc (.cells #[.int .i64 2] 3 (0, 0))) w1.heap.size [2]) := ⟨heap_alloc_new w1 _⟩
  go_upto_region 5 with (go_at_call 53; refine (nums_calls w _ _ (([] : List Int)) (.slice none 0 0) _ [2] _ _ rfl (HS0.out.below (al_below w1 _)) HL0.out HB0.out (by simp)).mono ?_; rintro e w2 ⟨rfl, v2, hS1, hst⟩; have HS1 := Aside0.mk hS1; have HST1 : Aside0 (Stay w1 w2) := ⟨HST0.out.trans ((Stay.below (al_below w1 _)).trans hst)⟩; clear kz0; clear hS1 hst)
  have kk1 : w2.cell? ⟨w.heap.size, 0, none⟩ = some (.int .i64 2) := (box_stay HBX.out (by decide) (by decide) HST1.out 0).trans HK0.out
  go_upto_region 14 with fail
  clear kk1
  have kz11 : w2.cell? ⟨w.heap.size, 11, none⟩ = some (.int .i64 m.call.f0) := (box_stay HBX.out (by decide) (by decide) HST1.out 11).trans rfl
  have kz12 : w2.cell? ⟨w.heap.size, 12, none⟩ = some (.int .i64 m.call.f1) := (box_stay HBX.out (by decide) (by decide) HST1.out 12).trans rfl
  have HB1 : Aside0 ((([] : List Int) ++ numsB [2]).length + (pairB ⟨m.call.f0, m.call.f1⟩).length ≤ 1099511627776) := ⟨by have h1 := congrArg List.length HT.out; simp only [List.length_append, List.length_nil] at h1 ⊢; have := HLEN.out; omega⟩
  go_upto_region 15 with (go_at_call 54; refine (call_calls w _ _ (([] : List Int) ++ numsB [2]) v2 ⟨m.call.f0, m.call.f1⟩ HS1.out HB1.out).mono ?_; rintro e w3 ⟨rfl, v3, hS1, hst⟩; have HS2 := Aside0.mk hS1; have HST2 : Aside0 (Stay w1 w3) := ⟨HST1.out.trans hst⟩; clear kz11 kz12; clear hS1 hst)
  have kk2 : w3.cell? ⟨w.heap.size, 0, none⟩ = some (.int .i64 2) := (box_stay HBX.out (by decide) (by decide) HST2.out 0).trans HK0.out
  go_upto_region 15 with fail
  clear kk2
  have kz1 : w3.cell? ⟨w.heap.size, 1, none⟩ = some (.string m.name) := (box_stay HBX.out (by decide) (by decide) HST2.out 1).trans rfl
  have HB2 : Aside0 ((([] : List Int) ++ numsB [2] ++ pairB ⟨m.call.f0, m.call.f1⟩).length + (textB m.name).length ≤ 1099511627776) := ⟨by have h1 := congrArg List.length HT.out; simp only [List.length_append, List.length_nil] at h1 ⊢; have := HLEN.out; omega⟩
  go_upto_region 16 with (go_at_call 57; refine (text_calls w _ _ (([] : List Int) ++ numsB [2] ++ pairB ⟨m.call.f0, m.call.f1⟩) v3 m.name HS2.out HB2.out).mono ?_; rintro e w4 ⟨rfl, v4, hS1, hst⟩; have HS3 := Aside0.mk hS1; have HST3 : Aside0 (Stay w1 w4) := ⟨HST2.out.trans hst⟩; clear kz1; clear hS1 hst)
  have kk3 : w4.cell? ⟨w.heap.size, 0, none⟩ = some (.int .i64 2) := (box_stay HBX.out (by decide) (by decide) HST3.out 0).trans HK0.out
  go_upto_region 16 with fail
  clear kk3
  have kz17 : w4.cell? ⟨w.heap.size, 17, none⟩ = some (.int .i64 m.err) := (box_stay HBX.out (by decide) (by decide) HST3.out 17).trans rfl
  have HB3 : Aside0 ((([] : List Int) ++ numsB [2] ++ pairB ⟨m.call.f0, m.call.f1⟩ ++ textB m.name).length + (numsB [m.err]).length ≤ 1099511627776) := ⟨by have h1 := congrArg List.length HT.out; simp only [List.length_append, List.length_nil] at h1 ⊢; have := HLEN.out; omega⟩
  have HL3 : Aside0 (IsL (w4.alloc (.cells #[.int .i64 m.err] 3 (0, 0))) w4.heap.size [m.err]) := ⟨heap_alloc_new w4 _⟩
  go_upto_region 17 with (go_at_call 53; refine (nums_calls w _ _ (([] : List Int) ++ numsB [2] ++ pairB ⟨m.call.f0, m.call.f1⟩ ++ textB m.name) v4 _ [m.err] _ _ rfl (HS3.out.below (al_below w4 _)) HL3.out HB3.out (by simp)).mono ?_; rintro e w5 ⟨rfl, v5, hS1, hst⟩; have HS4 := Aside0.mk hS1; have HST4 : Aside0 (Stay w1 w5) := ⟨HST3.out.trans ((Stay.below (al_below w4 _)).trans hst)⟩; clear kz17; clear hS1 hst)
  have kk4 : w5.cell? ⟨w.heap.size, 0, none⟩ = some (.int .i64 2) := (box_stay HBX.out (by decide) (by decide) HST4.out 0).trans HK0.out
  go_upto_region 17 with fail
  clear kk4
  have kz17 : w5.cell? ⟨w.heap.size, 17, none⟩ = some (.int .i64 m.err) := (box_stay HBX.out (by decide) (by decide) HST4.out 17).trans rfl
  go_upto_region 19 with (go_at_call 58; refine (capped_calls _ _).mono ?_; rintro e w6 ⟨rfl, hb⟩; rw [hcq]; have HST5 : Aside0 (Stay w1 w6) := ⟨HST4.out.trans (Stay.below hb)⟩; have HS5 : Aside0 (WS w w6 w0.heap.size (([] : List Int) ++ numsB [2] ++ pairB ⟨m.call.f0, m.call.f1⟩ ++ textB m.name ++ numsB [m.err]) v5) := ⟨HS4.out.below hb⟩; clear hb kz17)
  obtain ⟨Az, nz, cz, rfl⟩ := R_sl HS5.out.row
  have kw : w6.cell? ⟨w0.heap.size, 0, none⟩ = some (.slice Az nz cz) := (blk_cell HS5.out.blk 0).trans rfl
  go_wp2_with fail
  go_ret2
  refine ⟨.slice Az nz cz, rfl, ?_, HS5.out.bel⟩
  have hrow := HS5.out.row
  rw [show ([] : List Int) ++ numsB [2] ++ pairB ⟨m.call.f0, m.call.f1⟩ ++ textB m.name ++ numsB [m.err] = msgB m from by rw [HT.out]; simp only [List.nil_append, List.append_assoc]] at hrow
  exact hrow
set_option maxHeartbeats 8000000 in
set_option maxRecDepth 100000 in
theorem enc7_calls (m : Msg) (h : isI m.op.a ∧ isI m.op.b) (A : Option Addr) (c : Nat) (w : World) (hr : Kd.C k87 w A m.views.length m.views) (hc : m.views.length ≤ c) (hk : m.kind = 7) (hv : msgV m) :
    Calls Try.prog 16 #[MV m A c] w fun e w' => ∃ v, e = .returned (.tuple #[v, .int .i64 0]) ∧ Kd.R (Kd.int .u8) 5 w' w.heap.size (fun _ => True) v (msgB m) ∧ Below w.heap.size w w' := by
  have HT : Aside0 (msgB m = numsB [7] ++ (textB m.name ++ (numsB [m.cap, m.recaps] ++ (numsB [m.epoch.f0, m.epoch.f1] ++ (numsB [m.over.f0, m.over.f1]))))) := ⟨by unfold msgB restB; simp [hk, numsB, pairB, capOf, optB, hasEp, hasRt]⟩
  have HLEN := Aside0.mk (msg_len hv)
  have HV := Aside0.mk hv
  have HR := Aside0.mk hr
  have HC := Aside0.mk hc
  have HI := Aside0.mk h
  clear hv hr hc h
  have HK0 : Aside0 ((MVc m A c)[0]? = some (.int .i64 7)) := ⟨by unfold MVc; rw [hk]; rfl⟩
  have hu33 := Try.underlying33
  have hu23 := Try.underlying23
  have hu25 := Try.underlying25
  have hu27 := Try.underlying27
  have hu29 := Try.underlying29
  obtain ⟨wa, hwa⟩ : ∃ wa, wa = w.alloc (.cells (MVc m A c) 33 (0, 0)) := ⟨_, rfl⟩
  have HWA := Aside0.mk hwa
  have HB : Aside0 (Below w.heap.size w wa) := ⟨by rw [hwa]; exact (Below.refl _ _).alloc (Nat.le_refl _) _⟩
  have BK : Aside0 (wa.heap[w.heap.size]? = some (.cells (MVc m A c) 33 (0, 0))) := ⟨by rw [hwa]; exact heap_alloc_new w _⟩
  clear hwa
  go_enter Try.func16, Try.ntmps16
  unfold MV
  go_upto_region 1 with fail
  rw [← HWA.out]
  go_upto_region 3 with (first | ((with_reducible refine gate_dst (N := 5) rfl ?_); refine wpList_load_row rfl 33 (.tmp 1) rfl w.heap.size (by rfl) 33 (MVc m A c) (0, 0) _ BK.out Try.underlying33 rfl inf33 ?_) | (go_at_call 21; refine (valid_calls m HI.out A c _ (Kd.C_below HR.out HB.out) HC.out).mono ?_; rintro e w0 ⟨rfl, hb⟩; rw [dcd_pos HV.out]; have n0_ := Aside0.mk (below_step HB.out hb); have n1_ := Aside0.mk (blk_keep hb BK.out); clear HB BK hb; have HB := n0_; have BK := n1_; clear n0_ n1_))
  obtain ⟨w1, hw1⟩ : ∃ w1, w1 = w0.alloc (.cells #[.slice none 0 0] 99 (0, 0)) := ⟨_, rfl⟩
  have HW1 := Aside0.mk hw1
  have HS0 : Aside0 (WS w w1 w0.heap.size [] (.slice none 0 0)) := ⟨by rw [hw1]; exact ⟨heap_alloc_new w0 _, HB.out.size, Kd.R_nil _ _ _ _ _, below_alloc HB.out _⟩⟩
  have HBX : Aside0 (w1.heap[w.heap.size]? = some (.cells (MVc m A c) 33 (0, 0))) := ⟨by rw [hw1]; exact blk_keep (al_below w0 _) BK.out⟩
  have HST0 : Aside0 (Stay w1 w1) := ⟨Stay.refl _⟩
  clear hw1
  go_upto_region 4 with fail
  rw [← HW1.out]
  have kz0 : w1.cell? ⟨w.heap.size, 0, none⟩ = some (.int .i64 m.kind) := (box_stay HBX.out (by decide) (by decide) HST0.out 0).trans rfl
  rw [hk] at kz0
  have HB0 : Aside0 ((([] : List Int)).length + (numsB [7]).length ≤ 1099511627776) := ⟨by have h1 := congrArg List.length HT.out; simp only [List.length_append, List.length_nil] at h1 ⊢; have := HLEN.out; omega⟩
  have HL0 : Aside0 (IsL (w1.alloc (.cells #[.int .i64 7] 3 (0, 0))) w1.heap.size [7]) := ⟨heap_alloc_new w1 _⟩
  go_upto_region 5 with (go_at_call 53; refine (nums_calls w _ _ (([] : List Int)) (.slice none 0 0) _ [7] _ _ rfl (HS0.out.below (al_below w1 _)) HL0.out HB0.out (by simp)).mono ?_; rintro e w2 ⟨rfl, v2, hS1, hst⟩; have HS1 := Aside0.mk hS1; have HST1 : Aside0 (Stay w1 w2) := ⟨HST0.out.trans ((Stay.below (al_below w1 _)).trans hst)⟩; clear kz0; clear hS1 hst)
  have kk1 : w2.cell? ⟨w.heap.size, 0, none⟩ = some (.int .i64 7) := (box_stay HBX.out (by decide) (by decide) HST1.out 0).trans HK0.out
  go_upto_region 20 with fail
  clear kk1
  have kz1 : w2.cell? ⟨w.heap.size, 1, none⟩ = some (.string m.name) := (box_stay HBX.out (by decide) (by decide) HST1.out 1).trans rfl
  have HB1 : Aside0 ((([] : List Int) ++ numsB [7]).length + (textB m.name).length ≤ 1099511627776) := ⟨by have h1 := congrArg List.length HT.out; simp only [List.length_append, List.length_nil] at h1 ⊢; have := HLEN.out; omega⟩
  go_upto_region 21 with (go_at_call 57; refine (text_calls w _ _ (([] : List Int) ++ numsB [7]) v2 m.name HS1.out HB1.out).mono ?_; rintro e w3 ⟨rfl, v3, hS1, hst⟩; have HS2 := Aside0.mk hS1; have HST2 : Aside0 (Stay w1 w3) := ⟨HST1.out.trans hst⟩; clear kz1; clear hS1 hst)
  have kk2 : w3.cell? ⟨w.heap.size, 0, none⟩ = some (.int .i64 7) := (box_stay HBX.out (by decide) (by decide) HST2.out 0).trans HK0.out
  go_upto_region 21 with fail
  clear kk2
  have kz2 : w3.cell? ⟨w.heap.size, 2, none⟩ = some (.int .i64 m.cap) := (box_stay HBX.out (by decide) (by decide) HST2.out 2).trans rfl
  have kz3 : w3.cell? ⟨w.heap.size, 3, none⟩ = some (.int .i64 m.recaps) := (box_stay HBX.out (by decide) (by decide) HST2.out 3).trans rfl
  have HB2 : Aside0 ((([] : List Int) ++ numsB [7] ++ textB m.name).length + (numsB [m.cap, m.recaps]).length ≤ 1099511627776) := ⟨by have h1 := congrArg List.length HT.out; simp only [List.length_append, List.length_nil] at h1 ⊢; have := HLEN.out; omega⟩
  have HL2 : Aside0 (IsL (w3.alloc (.cells #[.int .i64 m.cap, .int .i64 m.recaps] 3 (0, 0))) w3.heap.size [m.cap, m.recaps]) := ⟨heap_alloc_new w3 _⟩
  go_upto_region 22 with (go_at_call 53; refine (nums_calls w _ _ (([] : List Int) ++ numsB [7] ++ textB m.name) v3 _ [m.cap, m.recaps] _ _ rfl (HS2.out.below (al_below w3 _)) HL2.out HB2.out (by simp)).mono ?_; rintro e w4 ⟨rfl, v4, hS1, hst⟩; have HS3 := Aside0.mk hS1; have HST3 : Aside0 (Stay w1 w4) := ⟨HST2.out.trans ((Stay.below (al_below w3 _)).trans hst)⟩; clear kz2 kz3; clear hS1 hst)
  have kk3 : w4.cell? ⟨w.heap.size, 0, none⟩ = some (.int .i64 7) := (box_stay HBX.out (by decide) (by decide) HST3.out 0).trans HK0.out
  go_upto_region 28 with fail
  clear kk3
  have kz4 : w4.cell? ⟨w.heap.size, 4, none⟩ = some (.int .i64 m.epoch.f0) := (box_stay HBX.out (by decide) (by decide) HST3.out 4).trans rfl
  have kz5 : w4.cell? ⟨w.heap.size, 5, none⟩ = some (.int .i64 m.epoch.f1) := (box_stay HBX.out (by decide) (by decide) HST3.out 5).trans rfl
  have HB3 : Aside0 ((([] : List Int) ++ numsB [7] ++ textB m.name ++ numsB [m.cap, m.recaps]).length + (numsB [m.epoch.f0, m.epoch.f1]).length ≤ 1099511627776) := ⟨by have h1 := congrArg List.length HT.out; simp only [List.length_append, List.length_nil] at h1 ⊢; have := HLEN.out; omega⟩
  have HL3 : Aside0 (IsL (w4.alloc (.cells #[.int .i64 m.epoch.f0, .int .i64 m.epoch.f1] 3 (0, 0))) w4.heap.size [m.epoch.f0, m.epoch.f1]) := ⟨heap_alloc_new w4 _⟩
  go_upto_region 29 with (go_at_call 53; refine (nums_calls w _ _ (([] : List Int) ++ numsB [7] ++ textB m.name ++ numsB [m.cap, m.recaps]) v4 _ [m.epoch.f0, m.epoch.f1] _ _ rfl (HS3.out.below (al_below w4 _)) HL3.out HB3.out (by simp)).mono ?_; rintro e w5 ⟨rfl, v5, hS1, hst⟩; have HS4 := Aside0.mk hS1; have HST4 : Aside0 (Stay w1 w5) := ⟨HST3.out.trans ((Stay.below (al_below w4 _)).trans hst)⟩; clear kz4 kz5; clear hS1 hst)
  have kk4 : w5.cell? ⟨w.heap.size, 0, none⟩ = some (.int .i64 7) := (box_stay HBX.out (by decide) (by decide) HST4.out 0).trans HK0.out
  go_upto_region 35 with fail
  clear kk4
  have kz6 : w5.cell? ⟨w.heap.size, 6, none⟩ = some (.int .i64 m.over.f0) := (box_stay HBX.out (by decide) (by decide) HST4.out 6).trans rfl
  have kz7 : w5.cell? ⟨w.heap.size, 7, none⟩ = some (.int .i64 m.over.f1) := (box_stay HBX.out (by decide) (by decide) HST4.out 7).trans rfl
  have HB4 : Aside0 ((([] : List Int) ++ numsB [7] ++ textB m.name ++ numsB [m.cap, m.recaps] ++ numsB [m.epoch.f0, m.epoch.f1]).length + (numsB [m.over.f0, m.over.f1]).length ≤ 1099511627776) := ⟨by have h1 := congrArg List.length HT.out; simp only [List.length_append, List.length_nil] at h1 ⊢; have := HLEN.out; omega⟩
  have HL4 : Aside0 (IsL (w5.alloc (.cells #[.int .i64 m.over.f0, .int .i64 m.over.f1] 3 (0, 0))) w5.heap.size [m.over.f0, m.over.f1]) := ⟨heap_alloc_new w5 _⟩
  go_upto_region 36 with (go_at_call 53; refine (nums_calls w _ _ (([] : List Int) ++ numsB [7] ++ textB m.name ++ numsB [m.cap, m.recaps] ++ numsB [m.epoch.f0, m.epoch.f1]) v5 _ [m.over.f0, m.over.f1] _ _ rfl (HS4.out.below (al_below w5 _)) HL4.out HB4.out (by simp)).mono ?_; rintro e w6 ⟨rfl, v6, hS1, hst⟩; have HS5 := Aside0.mk hS1; have HST5 : Aside0 (Stay w1 w6) := ⟨HST4.out.trans ((Stay.below (al_below w5 _)).trans hst)⟩; clear kz6 kz7; clear hS1 hst)
  have kk5 : w6.cell? ⟨w.heap.size, 0, none⟩ = some (.int .i64 7) := (box_stay HBX.out (by decide) (by decide) HST5.out 0).trans HK0.out
  go_upto_region 36 with fail
  clear kk5
  obtain ⟨Az, nz, cz, rfl⟩ := R_sl HS5.out.row
  have kw : w6.cell? ⟨w0.heap.size, 0, none⟩ = some (.slice Az nz cz) := (blk_cell HS5.out.blk 0).trans rfl
  go_wp2_with fail
  go_ret2
  refine ⟨.slice Az nz cz, rfl, ?_, HS5.out.bel⟩
  have hrow := HS5.out.row
  rw [show ([] : List Int) ++ numsB [7] ++ textB m.name ++ numsB [m.cap, m.recaps] ++ numsB [m.epoch.f0, m.epoch.f1] ++ numsB [m.over.f0, m.over.f1] = msgB m from by rw [HT.out]; simp only [List.nil_append, List.append_assoc]] at hrow
  exact hrow
set_option maxHeartbeats 8000000 in
set_option maxRecDepth 100000 in
theorem enc8_calls (m : Msg) (h : isI m.op.a ∧ isI m.op.b) (A : Option Addr) (c : Nat) (w : World) (hr : Kd.C k87 w A m.views.length m.views) (hc : m.views.length ≤ c) (hk : m.kind = 8) (hv : msgV m) :
    Calls Try.prog 16 #[MV m A c] w fun e w' => ∃ v, e = .returned (.tuple #[v, .int .i64 0]) ∧ Kd.R (Kd.int .u8) 5 w' w.heap.size (fun _ => True) v (msgB m) ∧ Below w.heap.size w w' := by
  have HT : Aside0 (msgB m = numsB [8] ++ (textB m.name ++ (numsB [m.cap, m.recaps] ++ (numsB [m.rights.f0, m.rights.f1])))) := ⟨by unfold msgB restB; simp [hk, numsB, pairB, capOf, optB, hasEp, hasRt]⟩
  have HLEN := Aside0.mk (msg_len hv)
  have HV := Aside0.mk hv
  have HR := Aside0.mk hr
  have HC := Aside0.mk hc
  have HI := Aside0.mk h
  clear hv hr hc h
  have HK0 : Aside0 ((MVc m A c)[0]? = some (.int .i64 8)) := ⟨by unfold MVc; rw [hk]; rfl⟩
  have hu33 := Try.underlying33
  have hu23 := Try.underlying23
  have hu25 := Try.underlying25
  have hu27 := Try.underlying27
  have hu29 := Try.underlying29
  obtain ⟨wa, hwa⟩ : ∃ wa, wa = w.alloc (.cells (MVc m A c) 33 (0, 0)) := ⟨_, rfl⟩
  have HWA := Aside0.mk hwa
  have HB : Aside0 (Below w.heap.size w wa) := ⟨by rw [hwa]; exact (Below.refl _ _).alloc (Nat.le_refl _) _⟩
  have BK : Aside0 (wa.heap[w.heap.size]? = some (.cells (MVc m A c) 33 (0, 0))) := ⟨by rw [hwa]; exact heap_alloc_new w _⟩
  clear hwa
  go_enter Try.func16, Try.ntmps16
  unfold MV
  go_upto_region 1 with fail
  rw [← HWA.out]
  go_upto_region 3 with (first | ((with_reducible refine gate_dst (N := 5) rfl ?_); refine wpList_load_row rfl 33 (.tmp 1) rfl w.heap.size (by rfl) 33 (MVc m A c) (0, 0) _ BK.out Try.underlying33 rfl inf33 ?_) | (go_at_call 21; refine (valid_calls m HI.out A c _ (Kd.C_below HR.out HB.out) HC.out).mono ?_; rintro e w0 ⟨rfl, hb⟩; rw [dcd_pos HV.out]; have n0_ := Aside0.mk (below_step HB.out hb); have n1_ := Aside0.mk (blk_keep hb BK.out); clear HB BK hb; have HB := n0_; have BK := n1_; clear n0_ n1_))
  obtain ⟨w1, hw1⟩ : ∃ w1, w1 = w0.alloc (.cells #[.slice none 0 0] 99 (0, 0)) := ⟨_, rfl⟩
  have HW1 := Aside0.mk hw1
  have HS0 : Aside0 (WS w w1 w0.heap.size [] (.slice none 0 0)) := ⟨by rw [hw1]; exact ⟨heap_alloc_new w0 _, HB.out.size, Kd.R_nil _ _ _ _ _, below_alloc HB.out _⟩⟩
  have HBX : Aside0 (w1.heap[w.heap.size]? = some (.cells (MVc m A c) 33 (0, 0))) := ⟨by rw [hw1]; exact blk_keep (al_below w0 _) BK.out⟩
  have HST0 : Aside0 (Stay w1 w1) := ⟨Stay.refl _⟩
  clear hw1
  go_upto_region 4 with fail
  rw [← HW1.out]
  have kz0 : w1.cell? ⟨w.heap.size, 0, none⟩ = some (.int .i64 m.kind) := (box_stay HBX.out (by decide) (by decide) HST0.out 0).trans rfl
  rw [hk] at kz0
  have HB0 : Aside0 ((([] : List Int)).length + (numsB [8]).length ≤ 1099511627776) := ⟨by have h1 := congrArg List.length HT.out; simp only [List.length_append, List.length_nil] at h1 ⊢; have := HLEN.out; omega⟩
  have HL0 : Aside0 (IsL (w1.alloc (.cells #[.int .i64 8] 3 (0, 0))) w1.heap.size [8]) := ⟨heap_alloc_new w1 _⟩
  go_upto_region 5 with (go_at_call 53; refine (nums_calls w _ _ (([] : List Int)) (.slice none 0 0) _ [8] _ _ rfl (HS0.out.below (al_below w1 _)) HL0.out HB0.out (by simp)).mono ?_; rintro e w2 ⟨rfl, v2, hS1, hst⟩; have HS1 := Aside0.mk hS1; have HST1 : Aside0 (Stay w1 w2) := ⟨HST0.out.trans ((Stay.below (al_below w1 _)).trans hst)⟩; clear kz0; clear hS1 hst)
  have kk1 : w2.cell? ⟨w.heap.size, 0, none⟩ = some (.int .i64 8) := (box_stay HBX.out (by decide) (by decide) HST1.out 0).trans HK0.out
  go_upto_region 20 with fail
  clear kk1
  have kz1 : w2.cell? ⟨w.heap.size, 1, none⟩ = some (.string m.name) := (box_stay HBX.out (by decide) (by decide) HST1.out 1).trans rfl
  have HB1 : Aside0 ((([] : List Int) ++ numsB [8]).length + (textB m.name).length ≤ 1099511627776) := ⟨by have h1 := congrArg List.length HT.out; simp only [List.length_append, List.length_nil] at h1 ⊢; have := HLEN.out; omega⟩
  go_upto_region 21 with (go_at_call 57; refine (text_calls w _ _ (([] : List Int) ++ numsB [8]) v2 m.name HS1.out HB1.out).mono ?_; rintro e w3 ⟨rfl, v3, hS1, hst⟩; have HS2 := Aside0.mk hS1; have HST2 : Aside0 (Stay w1 w3) := ⟨HST1.out.trans hst⟩; clear kz1; clear hS1 hst)
  have kk2 : w3.cell? ⟨w.heap.size, 0, none⟩ = some (.int .i64 8) := (box_stay HBX.out (by decide) (by decide) HST2.out 0).trans HK0.out
  go_upto_region 21 with fail
  clear kk2
  have kz2 : w3.cell? ⟨w.heap.size, 2, none⟩ = some (.int .i64 m.cap) := (box_stay HBX.out (by decide) (by decide) HST2.out 2).trans rfl
  have kz3 : w3.cell? ⟨w.heap.size, 3, none⟩ = some (.int .i64 m.recaps) := (box_stay HBX.out (by decide) (by decide) HST2.out 3).trans rfl
  have HB2 : Aside0 ((([] : List Int) ++ numsB [8] ++ textB m.name).length + (numsB [m.cap, m.recaps]).length ≤ 1099511627776) := ⟨by have h1 := congrArg List.length HT.out; simp only [List.length_append, List.length_nil] at h1 ⊢; have := HLEN.out; omega⟩
  have HL2 : Aside0 (IsL (w3.alloc (.cells #[.int .i64 m.cap, .int .i64 m.recaps] 3 (0, 0))) w3.heap.size [m.cap, m.recaps]) := ⟨heap_alloc_new w3 _⟩
  go_upto_region 22 with (go_at_call 53; refine (nums_calls w _ _ (([] : List Int) ++ numsB [8] ++ textB m.name) v3 _ [m.cap, m.recaps] _ _ rfl (HS2.out.below (al_below w3 _)) HL2.out HB2.out (by simp)).mono ?_; rintro e w4 ⟨rfl, v4, hS1, hst⟩; have HS3 := Aside0.mk hS1; have HST3 : Aside0 (Stay w1 w4) := ⟨HST2.out.trans ((Stay.below (al_below w3 _)).trans hst)⟩; clear kz2 kz3; clear hS1 hst)
  have kk3 : w4.cell? ⟨w.heap.size, 0, none⟩ = some (.int .i64 8) := (box_stay HBX.out (by decide) (by decide) HST3.out 0).trans HK0.out
  go_upto_region 30 with fail
  clear kk3
  have kz8 : w4.cell? ⟨w.heap.size, 8, none⟩ = some (.int .i64 m.rights.f0) := (box_stay HBX.out (by decide) (by decide) HST3.out 8).trans rfl
  have kz9 : w4.cell? ⟨w.heap.size, 9, none⟩ = some (.int .i64 m.rights.f1) := (box_stay HBX.out (by decide) (by decide) HST3.out 9).trans rfl
  have HB3 : Aside0 ((([] : List Int) ++ numsB [8] ++ textB m.name ++ numsB [m.cap, m.recaps]).length + (numsB [m.rights.f0, m.rights.f1]).length ≤ 1099511627776) := ⟨by have h1 := congrArg List.length HT.out; simp only [List.length_append, List.length_nil] at h1 ⊢; have := HLEN.out; omega⟩
  have HL3 : Aside0 (IsL (w4.alloc (.cells #[.int .i64 m.rights.f0, .int .i64 m.rights.f1] 3 (0, 0))) w4.heap.size [m.rights.f0, m.rights.f1]) := ⟨heap_alloc_new w4 _⟩
  go_upto_region 31 with (go_at_call 53; refine (nums_calls w _ _ (([] : List Int) ++ numsB [8] ++ textB m.name ++ numsB [m.cap, m.recaps]) v4 _ [m.rights.f0, m.rights.f1] _ _ rfl (HS3.out.below (al_below w4 _)) HL3.out HB3.out (by simp)).mono ?_; rintro e w5 ⟨rfl, v5, hS1, hst⟩; have HS4 := Aside0.mk hS1; have HST4 : Aside0 (Stay w1 w5) := ⟨HST3.out.trans ((Stay.below (al_below w4 _)).trans hst)⟩; clear kz8 kz9; clear hS1 hst)
  have kk4 : w5.cell? ⟨w.heap.size, 0, none⟩ = some (.int .i64 8) := (box_stay HBX.out (by decide) (by decide) HST4.out 0).trans HK0.out
  go_upto_region 36 with fail
  clear kk4
  obtain ⟨Az, nz, cz, rfl⟩ := R_sl HS4.out.row
  have kw : w5.cell? ⟨w0.heap.size, 0, none⟩ = some (.slice Az nz cz) := (blk_cell HS4.out.blk 0).trans rfl
  go_wp2_with fail
  go_ret2
  refine ⟨.slice Az nz cz, rfl, ?_, HS4.out.bel⟩
  have hrow := HS4.out.row
  rw [show ([] : List Int) ++ numsB [8] ++ textB m.name ++ numsB [m.cap, m.recaps] ++ numsB [m.rights.f0, m.rights.f1] = msgB m from by rw [HT.out]; simp only [List.nil_append, List.append_assoc]] at hrow
  exact hrow
end Go.Proofs.Ytpgdmmjbhjbbhaa.En
end
section
namespace Go.Proofs.Ytpgdmmjbhjbbhaa.En
open Go Go.RowKit Go.Proofs.Ytpgdmmjbhjbbhaa.P Go.Proofs.Ytpgdmmjbhjbbhaa.Sp Go.Proofs.Ytpgdmmjbhjbbhaa.Vd Go.Proofs.Ytpgdmmjbhjbbhaa.Wr Go.Proofs.YtpgdmmjbhjbbhaaW.PrintWords Go.Proofs.YtpgdmmjbhjbbhaaW.PrintLast Go.Proofs.YtpgdmmjbhjbbhaaW.PrintMore
set_option linter.unusedVariables false
set_option linter.unusedSimpArgs false
set_option maxHeartbeats 8000000 in
set_option maxRecDepth 100000 in
theorem enc4_calls (m : Msg) (h : isI m.op.a ∧ isI m.op.b) (A : Option Addr) (c : Nat) (w : World) (hr : Kd.C k87 w A m.views.length m.views) (hc : m.views.length ≤ c) (hk : m.kind = 4) (hv : msgV m) :
    Calls Try.prog 16 #[MV m A c] w fun e w' => ∃ v, e = .returned (.tuple #[v, .int .i64 0]) ∧ Kd.R (Kd.int .u8) 5 w' w.heap.size (fun _ => True) v (msgB m) ∧ Below w.heap.size w w' := by
  have HT : Aside0 (msgB m = numsB [4] ++ (textB m.name ++ (numsB [m.cap, m.recaps] ++ (numsB [m.epoch.f0, m.epoch.f1] ++ (numsB [m.rights.f0, m.rights.f1] ++ (numsB [m.held])))))) := ⟨by unfold msgB restB; simp [hk, numsB, pairB, capOf, optB, hasEp, hasRt]⟩
  have HLEN := Aside0.mk (msg_len hv)
  have HV := Aside0.mk hv
  have HR := Aside0.mk hr
  have HC := Aside0.mk hc
  have HI := Aside0.mk h
  clear hv hr hc h
  have HK0 : Aside0 ((MVc m A c)[0]? = some (.int .i64 4)) := ⟨by unfold MVc; rw [hk]; rfl⟩
  have hu33 := Try.underlying33
  have hu23 := Try.underlying23
  have hu25 := Try.underlying25
  have hu27 := Try.underlying27
  have hu29 := Try.underlying29
  obtain ⟨wa, hwa⟩ : ∃ wa, wa = w.alloc (.cells (MVc m A c) 33 (0, 0)) := ⟨_, rfl⟩
  have HWA := Aside0.mk hwa
  have HB : Aside0 (Below w.heap.size w wa) := ⟨by rw [hwa]; exact (Below.refl _ _).alloc (Nat.le_refl _) _⟩
  have BK : Aside0 (wa.heap[w.heap.size]? = some (.cells (MVc m A c) 33 (0, 0))) := ⟨by rw [hwa]; exact heap_alloc_new w _⟩
  clear hwa
  go_enter Try.func16, Try.ntmps16
  unfold MV
  go_upto_region 1 with fail
  rw [← HWA.out]
  go_upto_region 3 with (first | ((with_reducible refine gate_dst (N := 5) rfl ?_); refine wpList_load_row rfl 33 (.tmp 1) rfl w.heap.size (by rfl) 33 (MVc m A c) (0, 0) _ BK.out Try.underlying33 rfl inf33 ?_) | (go_at_call 21; refine (valid_calls m HI.out A c _ (Kd.C_below HR.out HB.out) HC.out).mono ?_; rintro e w0 ⟨rfl, hb⟩; rw [dcd_pos HV.out]; have n0_ := Aside0.mk (below_step HB.out hb); have n1_ := Aside0.mk (blk_keep hb BK.out); clear HB BK hb; have HB := n0_; have BK := n1_; clear n0_ n1_))
  obtain ⟨w1, hw1⟩ : ∃ w1, w1 = w0.alloc (.cells #[.slice none 0 0] 99 (0, 0)) := ⟨_, rfl⟩
  have HW1 := Aside0.mk hw1
  have HS0 : Aside0 (WS w w1 w0.heap.size [] (.slice none 0 0)) := ⟨by rw [hw1]; exact ⟨heap_alloc_new w0 _, HB.out.size, Kd.R_nil _ _ _ _ _, below_alloc HB.out _⟩⟩
  have HBX : Aside0 (w1.heap[w.heap.size]? = some (.cells (MVc m A c) 33 (0, 0))) := ⟨by rw [hw1]; exact blk_keep (al_below w0 _) BK.out⟩
  have HST0 : Aside0 (Stay w1 w1) := ⟨Stay.refl _⟩
  clear hw1
  go_upto_region 4 with fail
  rw [← HW1.out]
  have kz0 : w1.cell? ⟨w.heap.size, 0, none⟩ = some (.int .i64 m.kind) := (box_stay HBX.out (by decide) (by decide) HST0.out 0).trans rfl
  rw [hk] at kz0
  have HB0 : Aside0 ((([] : List Int)).length + (numsB [4]).length ≤ 1099511627776) := ⟨by have h1 := congrArg List.length HT.out; simp only [List.length_append, List.length_nil] at h1 ⊢; have := HLEN.out; omega⟩
  have HL0 : Aside0 (IsL (w1.alloc (.cells #[.int .i64 4] 3 (0, 0))) w1.heap.size [4]) := ⟨heap_alloc_new w1 _⟩
  go_upto_region 5 with (go_at_call 53; refine (nums_calls w _ _ (([] : List Int)) (.slice none 0 0) _ [4] _ _ rfl (HS0.out.below (al_below w1 _)) HL0.out HB0.out (by simp)).mono ?_; rintro e w2 ⟨rfl, v2, hS1, hst⟩; have HS1 := Aside0.mk hS1; have HST1 : Aside0 (Stay w1 w2) := ⟨HST0.out.trans ((Stay.below (al_below w1 _)).trans hst)⟩; clear kz0; clear hS1 hst)
  have kk1 : w2.cell? ⟨w.heap.size, 0, none⟩ = some (.int .i64 4) := (box_stay HBX.out (by decide) (by decide) HST1.out 0).trans HK0.out
  go_upto_region 20 with fail
  clear kk1
  have kz1 : w2.cell? ⟨w.heap.size, 1, none⟩ = some (.string m.name) := (box_stay HBX.out (by decide) (by decide) HST1.out 1).trans rfl
  have HB1 : Aside0 ((([] : List Int) ++ numsB [4]).length + (textB m.name).length ≤ 1099511627776) := ⟨by have h1 := congrArg List.length HT.out; simp only [List.length_append, List.length_nil] at h1 ⊢; have := HLEN.out; omega⟩
  go_upto_region 21 with (go_at_call 57; refine (text_calls w _ _ (([] : List Int) ++ numsB [4]) v2 m.name HS1.out HB1.out).mono ?_; rintro e w3 ⟨rfl, v3, hS1, hst⟩; have HS2 := Aside0.mk hS1; have HST2 : Aside0 (Stay w1 w3) := ⟨HST1.out.trans hst⟩; clear kz1; clear hS1 hst)
  have kk2 : w3.cell? ⟨w.heap.size, 0, none⟩ = some (.int .i64 4) := (box_stay HBX.out (by decide) (by decide) HST2.out 0).trans HK0.out
  go_upto_region 21 with fail
  clear kk2
  have kz2 : w3.cell? ⟨w.heap.size, 2, none⟩ = some (.int .i64 m.cap) := (box_stay HBX.out (by decide) (by decide) HST2.out 2).trans rfl
  have kz3 : w3.cell? ⟨w.heap.size, 3, none⟩ = some (.int .i64 m.recaps) := (box_stay HBX.out (by decide) (by decide) HST2.out 3).trans rfl
  have HB2 : Aside0 ((([] : List Int) ++ numsB [4] ++ textB m.name).length + (numsB [m.cap, m.recaps]).length ≤ 1099511627776) := ⟨by have h1 := congrArg List.length HT.out; simp only [List.length_append, List.length_nil] at h1 ⊢; have := HLEN.out; omega⟩
  have HL2 : Aside0 (IsL (w3.alloc (.cells #[.int .i64 m.cap, .int .i64 m.recaps] 3 (0, 0))) w3.heap.size [m.cap, m.recaps]) := ⟨heap_alloc_new w3 _⟩
  go_upto_region 22 with (go_at_call 53; refine (nums_calls w _ _ (([] : List Int) ++ numsB [4] ++ textB m.name) v3 _ [m.cap, m.recaps] _ _ rfl (HS2.out.below (al_below w3 _)) HL2.out HB2.out (by simp)).mono ?_; rintro e w4 ⟨rfl, v4, hS1, hst⟩; have HS3 := Aside0.mk hS1; have HST3 : Aside0 (Stay w1 w4) := ⟨HST2.out.trans ((Stay.below (al_below w3 _)).trans hst)⟩; clear kz2 kz3; clear hS1 hst)
  have kk3 : w4.cell? ⟨w.heap.size, 0, none⟩ = some (.int .i64 4) := (box_stay HBX.out (by decide) (by decide) HST3.out 0).trans HK0.out
  go_upto_region 28 with fail
  clear kk3
  have kz4 : w4.cell? ⟨w.heap.size, 4, none⟩ = some (.int .i64 m.epoch.f0) := (box_stay HBX.out (by decide) (by decide) HST3.out 4).trans rfl
  have kz5 : w4.cell? ⟨w.heap.size, 5, none⟩ = some (.int .i64 m.epoch.f1) := (box_stay HBX.out (by decide) (by decide) HST3.out 5).trans rfl
  have HB3 : Aside0 ((([] : List Int) ++ numsB [4] ++ textB m.name ++ numsB [m.cap, m.recaps]).length + (numsB [m.epoch.f0, m.epoch.f1]).length ≤ 1099511627776) := ⟨by have h1 := congrArg List.length HT.out; simp only [List.length_append, List.length_nil] at h1 ⊢; have := HLEN.out; omega⟩
  have HL3 : Aside0 (IsL (w4.alloc (.cells #[.int .i64 m.epoch.f0, .int .i64 m.epoch.f1] 3 (0, 0))) w4.heap.size [m.epoch.f0, m.epoch.f1]) := ⟨heap_alloc_new w4 _⟩
  go_upto_region 29 with (go_at_call 53; refine (nums_calls w _ _ (([] : List Int) ++ numsB [4] ++ textB m.name ++ numsB [m.cap, m.recaps]) v4 _ [m.epoch.f0, m.epoch.f1] _ _ rfl (HS3.out.below (al_below w4 _)) HL3.out HB3.out (by simp)).mono ?_; rintro e w5 ⟨rfl, v5, hS1, hst⟩; have HS4 := Aside0.mk hS1; have HST4 : Aside0 (Stay w1 w5) := ⟨HST3.out.trans ((Stay.below (al_below w4 _)).trans hst)⟩; clear kz4 kz5; clear hS1 hst)
  have kk4 : w5.cell? ⟨w.heap.size, 0, none⟩ = some (.int .i64 4) := (box_stay HBX.out (by decide) (by decide) HST4.out 0).trans HK0.out
  go_upto_region 30 with fail
  clear kk4
  have kz8 : w5.cell? ⟨w.heap.size, 8, none⟩ = some (.int .i64 m.rights.f0) := (box_stay HBX.out (by decide) (by decide) HST4.out 8).trans rfl
  have kz9 : w5.cell? ⟨w.heap.size, 9, none⟩ = some (.int .i64 m.rights.f1) := (box_stay HBX.out (by decide) (by decide) HST4.out 9).trans rfl
  have HB4 : Aside0 ((([] : List Int) ++ numsB [4] ++ textB m.name ++ numsB [m.cap, m.recaps] ++ numsB [m.epoch.f0, m.epoch.f1]).length + (numsB [m.rights.f0, m.rights.f1]).length ≤ 1099511627776) := ⟨by have h1 := congrArg List.length HT.out; simp only [List.length_append, List.length_nil] at h1 ⊢; have := HLEN.out; omega⟩
  have HL4 : Aside0 (IsL (w5.alloc (.cells #[.int .i64 m.rights.f0, .int .i64 m.rights.f1] 3 (0, 0))) w5.heap.size [m.rights.f0, m.rights.f1]) := ⟨heap_alloc_new w5 _⟩
  go_upto_region 31 with (go_at_call 53; refine (nums_calls w _ _ (([] : List Int) ++ numsB [4] ++ textB m.name ++ numsB [m.cap, m.recaps] ++ numsB [m.epoch.f0, m.epoch.f1]) v5 _ [m.rights.f0, m.rights.f1] _ _ rfl (HS4.out.below (al_below w5 _)) HL4.out HB4.out (by simp)).mono ?_; rintro e w6 ⟨rfl, v6, hS1, hst⟩; have HS5 := Aside0.mk hS1; have HST5 : Aside0 (Stay w1 w6) := ⟨HST4.out.trans ((Stay.below (al_below w5 _)).trans hst)⟩; clear kz8 kz9; clear hS1 hst)
  have kk5 : w6.cell? ⟨w.heap.size, 0, none⟩ = some (.int .i64 4) := (box_stay HBX.out (by decide) (by decide) HST5.out 0).trans HK0.out
  go_upto_region 32 with fail
  clear kk5
  have kz10 : w6.cell? ⟨w.heap.size, 10, none⟩ = some (.int .i64 m.held) := (box_stay HBX.out (by decide) (by decide) HST5.out 10).trans rfl
  have HB5 : Aside0 ((([] : List Int) ++ numsB [4] ++ textB m.name ++ numsB [m.cap, m.recaps] ++ numsB [m.epoch.f0, m.epoch.f1] ++ numsB [m.rights.f0, m.rights.f1]).length + (numsB [m.held]).length ≤ 1099511627776) := ⟨by have h1 := congrArg List.length HT.out; simp only [List.length_append, List.length_nil] at h1 ⊢; have := HLEN.out; omega⟩
  have HL5 : Aside0 (IsL (w6.alloc (.cells #[.int .i64 m.held] 3 (0, 0))) w6.heap.size [m.held]) := ⟨heap_alloc_new w6 _⟩
  go_upto_region 36 with (go_at_call 53; refine (nums_calls w _ _ (([] : List Int) ++ numsB [4] ++ textB m.name ++ numsB [m.cap, m.recaps] ++ numsB [m.epoch.f0, m.epoch.f1] ++ numsB [m.rights.f0, m.rights.f1]) v6 _ [m.held] _ _ rfl (HS5.out.below (al_below w6 _)) HL5.out HB5.out (by simp)).mono ?_; rintro e w7 ⟨rfl, v7, hS1, hst⟩; have HS6 := Aside0.mk hS1; have HST6 : Aside0 (Stay w1 w7) := ⟨HST5.out.trans ((Stay.below (al_below w6 _)).trans hst)⟩; clear kz10; clear hS1 hst)
  have kk6 : w7.cell? ⟨w.heap.size, 0, none⟩ = some (.int .i64 4) := (box_stay HBX.out (by decide) (by decide) HST6.out 0).trans HK0.out
  go_upto_region 36 with fail
  clear kk6
  obtain ⟨Az, nz, cz, rfl⟩ := R_sl HS6.out.row
  have kw : w7.cell? ⟨w0.heap.size, 0, none⟩ = some (.slice Az nz cz) := (blk_cell HS6.out.blk 0).trans rfl
  go_wp2_with fail
  go_ret2
  refine ⟨.slice Az nz cz, rfl, ?_, HS6.out.bel⟩
  have hrow := HS6.out.row
  rw [show ([] : List Int) ++ numsB [4] ++ textB m.name ++ numsB [m.cap, m.recaps] ++ numsB [m.epoch.f0, m.epoch.f1] ++ numsB [m.rights.f0, m.rights.f1] ++ numsB [m.held] = msgB m from by rw [HT.out]; simp only [List.nil_append, List.append_assoc]] at hrow
  exact hrow
set_option maxHeartbeats 8000000 in
set_option maxRecDepth 100000 in
theorem enc5_calls (m : Msg) (h : isI m.op.a ∧ isI m.op.b) (A : Option Addr) (c : Nat) (w : World) (hr : Kd.C k87 w A m.views.length m.views) (hc : m.views.length ≤ c) (hk : m.kind = 5) (hv : msgV m) :
    Calls Try.prog 16 #[MV m A c] w fun e w' => ∃ v, e = .returned (.tuple #[v, .int .i64 0]) ∧ Kd.R (Kd.int .u8) 5 w' w.heap.size (fun _ => True) v (msgB m) ∧ Below w.heap.size w w' := by
  have HT : Aside0 (msgB m = numsB [5] ++ (textB m.name ++ (numsB [m.cap, m.recaps] ++ (numsB [m.epoch.f0, m.epoch.f1] ++ (numsB [m.rights.f0, m.rights.f1]))))) := ⟨by unfold msgB restB; simp [hk, numsB, pairB, capOf, optB, hasEp, hasRt]⟩
  have HLEN := Aside0.mk (msg_len hv)
  have HV := Aside0.mk hv
  have HR := Aside0.mk hr
  have HC := Aside0.mk hc
  have HI := Aside0.mk h
  clear hv hr hc h
  have HK0 : Aside0 ((MVc m A c)[0]? = some (.int .i64 5)) := ⟨by unfold MVc; rw [hk]; rfl⟩
  have hu33 := Try.underlying33
  have hu23 := Try.underlying23
  have hu25 := Try.underlying25
  have hu27 := Try.underlying27
  have hu29 := Try.underlying29
  obtain ⟨wa, hwa⟩ : ∃ wa, wa = w.alloc (.cells (MVc m A c) 33 (0, 0)) := ⟨_, rfl⟩
  have HWA := Aside0.mk hwa
  have HB : Aside0 (Below w.heap.size w wa) := ⟨by rw [hwa]; exact (Below.refl _ _).alloc (Nat.le_refl _) _⟩
  have BK : Aside0 (wa.heap[w.heap.size]? = some (.cells (MVc m A c) 33 (0, 0))) := ⟨by rw [hwa]; exact heap_alloc_new w _⟩
  clear hwa
  go_enter Try.func16, Try.ntmps16
  unfold MV
  go_upto_region 1 with fail
  rw [← HWA.out]
  go_upto_region 3 with (first | ((with_reducible refine gate_dst (N := 5) rfl ?_); refine wpList_load_row rfl 33 (.tmp 1) rfl w.heap.size (by rfl) 33 (MVc m A c) (0, 0) _ BK.out Try.underlying33 rfl inf33 ?_) | (go_at_call 21; refine (valid_calls m HI.out A c _ (Kd.C_below HR.out HB.out) HC.out).mono ?_; rintro e w0 ⟨rfl, hb⟩; rw [dcd_pos HV.out]; have n0_ := Aside0.mk (below_step HB.out hb); have n1_ := Aside0.mk (blk_keep hb BK.out); clear HB BK hb; have HB := n0_; have BK := n1_; clear n0_ n1_))
  obtain ⟨w1, hw1⟩ : ∃ w1, w1 = w0.alloc (.cells #[.slice none 0 0] 99 (0, 0)) := ⟨_, rfl⟩
  have HW1 := Aside0.mk hw1
  have HS0 : Aside0 (WS w w1 w0.heap.size [] (.slice none 0 0)) := ⟨by rw [hw1]; exact ⟨heap_alloc_new w0 _, HB.out.size, Kd.R_nil _ _ _ _ _, below_alloc HB.out _⟩⟩
  have HBX : Aside0 (w1.heap[w.heap.size]? = some (.cells (MVc m A c) 33 (0, 0))) := ⟨by rw [hw1]; exact blk_keep (al_below w0 _) BK.out⟩
  have HST0 : Aside0 (Stay w1 w1) := ⟨Stay.refl _⟩
  clear hw1
  go_upto_region 4 with fail
  rw [← HW1.out]
  have kz0 : w1.cell? ⟨w.heap.size, 0, none⟩ = some (.int .i64 m.kind) := (box_stay HBX.out (by decide) (by decide) HST0.out 0).trans rfl
  rw [hk] at kz0
  have HB0 : Aside0 ((([] : List Int)).length + (numsB [5]).length ≤ 1099511627776) := ⟨by have h1 := congrArg List.length HT.out; simp only [List.length_append, List.length_nil] at h1 ⊢; have := HLEN.out; omega⟩
  have HL0 : Aside0 (IsL (w1.alloc (.cells #[.int .i64 5] 3 (0, 0))) w1.heap.size [5]) := ⟨heap_alloc_new w1 _⟩
  go_upto_region 5 with (go_at_call 53; refine (nums_calls w _ _ (([] : List Int)) (.slice none 0 0) _ [5] _ _ rfl (HS0.out.below (al_below w1 _)) HL0.out HB0.out (by simp)).mono ?_; rintro e w2 ⟨rfl, v2, hS1, hst⟩; have HS1 := Aside0.mk hS1; have HST1 : Aside0 (Stay w1 w2) := ⟨HST0.out.trans ((Stay.below (al_below w1 _)).trans hst)⟩; clear kz0; clear hS1 hst)
  have kk1 : w2.cell? ⟨w.heap.size, 0, none⟩ = some (.int .i64 5) := (box_stay HBX.out (by decide) (by decide) HST1.out 0).trans HK0.out
  go_upto_region 20 with fail
  clear kk1
  have kz1 : w2.cell? ⟨w.heap.size, 1, none⟩ = some (.string m.name) := (box_stay HBX.out (by decide) (by decide) HST1.out 1).trans rfl
  have HB1 : Aside0 ((([] : List Int) ++ numsB [5]).length + (textB m.name).length ≤ 1099511627776) := ⟨by have h1 := congrArg List.length HT.out; simp only [List.length_append, List.length_nil] at h1 ⊢; have := HLEN.out; omega⟩
  go_upto_region 21 with (go_at_call 57; refine (text_calls w _ _ (([] : List Int) ++ numsB [5]) v2 m.name HS1.out HB1.out).mono ?_; rintro e w3 ⟨rfl, v3, hS1, hst⟩; have HS2 := Aside0.mk hS1; have HST2 : Aside0 (Stay w1 w3) := ⟨HST1.out.trans hst⟩; clear kz1; clear hS1 hst)
  have kk2 : w3.cell? ⟨w.heap.size, 0, none⟩ = some (.int .i64 5) := (box_stay HBX.out (by decide) (by decide) HST2.out 0).trans HK0.out
  go_upto_region 21 with fail
  clear kk2
  have kz2 : w3.cell? ⟨w.heap.size, 2, none⟩ = some (.int .i64 m.cap) := (box_stay HBX.out (by decide) (by decide) HST2.out 2).trans rfl
  have kz3 : w3.cell? ⟨w.heap.size, 3, none⟩ = some (.int .i64 m.recaps) := (box_stay HBX.out (by decide) (by decide) HST2.out 3).trans rfl
  have HB2 : Aside0 ((([] : List Int) ++ numsB [5] ++ textB m.name).length + (numsB [m.cap, m.recaps]).length ≤ 1099511627776) := ⟨by have h1 := congrArg List.length HT.out; simp only [List.length_append, List.length_nil] at h1 ⊢; have := HLEN.out; omega⟩
  have HL2 : Aside0 (IsL (w3.alloc (.cells #[.int .i64 m.cap, .int .i64 m.recaps] 3 (0, 0))) w3.heap.size [m.cap, m.recaps]) := ⟨heap_alloc_new w3 _⟩
  go_upto_region 22 with (go_at_call 53; refine (nums_calls w _ _ (([] : List Int) ++ numsB [5] ++ textB m.name) v3 _ [m.cap, m.recaps] _ _ rfl (HS2.out.below (al_below w3 _)) HL2.out HB2.out (by simp)).mono ?_; rintro e w4 ⟨rfl, v4, hS1, hst⟩; have HS3 := Aside0.mk hS1; have HST3 : Aside0 (Stay w1 w4) := ⟨HST2.out.trans ((Stay.below (al_below w3 _)).trans hst)⟩; clear kz2 kz3; clear hS1 hst)
  have kk3 : w4.cell? ⟨w.heap.size, 0, none⟩ = some (.int .i64 5) := (box_stay HBX.out (by decide) (by decide) HST3.out 0).trans HK0.out
  go_upto_region 28 with fail
  clear kk3
  have kz4 : w4.cell? ⟨w.heap.size, 4, none⟩ = some (.int .i64 m.epoch.f0) := (box_stay HBX.out (by decide) (by decide) HST3.out 4).trans rfl
  have kz5 : w4.cell? ⟨w.heap.size, 5, none⟩ = some (.int .i64 m.epoch.f1) := (box_stay HBX.out (by decide) (by decide) HST3.out 5).trans rfl
  have HB3 : Aside0 ((([] : List Int) ++ numsB [5] ++ textB m.name ++ numsB [m.cap, m.recaps]).length + (numsB [m.epoch.f0, m.epoch.f1]).length ≤ 1099511627776) := ⟨by have h1 := congrArg List.length HT.out; simp only [List.length_append, List.length_nil] at h1 ⊢; have := HLEN.out; omega⟩
  have HL3 : Aside0 (IsL (w4.alloc (.cells #[.int .i64 m.epoch.f0, .int .i64 m.epoch.f1] 3 (0, 0))) w4.heap.size [m.epoch.f0, m.epoch.f1]) := ⟨heap_alloc_new w4 _⟩
  go_upto_region 29 with (go_at_call 53; refine (nums_calls w _ _ (([] : List Int) ++ numsB [5] ++ textB m.name ++ numsB [m.cap, m.recaps]) v4 _ [m.epoch.f0, m.epoch.f1] _ _ rfl (HS3.out.below (al_below w4 _)) HL3.out HB3.out (by simp)).mono ?_; rintro e w5 ⟨rfl, v5, hS1, hst⟩; have HS4 := Aside0.mk hS1; have HST4 : Aside0 (Stay w1 w5) := ⟨HST3.out.trans ((Stay.below (al_below w4 _)).trans hst)⟩; clear kz4 kz5; clear hS1 hst)
  have kk4 : w5.cell? ⟨w.heap.size, 0, none⟩ = some (.int .i64 5) := (box_stay HBX.out (by decide) (by decide) HST4.out 0).trans HK0.out
  go_upto_region 30 with fail
  clear kk4
  have kz8 : w5.cell? ⟨w.heap.size, 8, none⟩ = some (.int .i64 m.rights.f0) := (box_stay HBX.out (by decide) (by decide) HST4.out 8).trans rfl
  have kz9 : w5.cell? ⟨w.heap.size, 9, none⟩ = some (.int .i64 m.rights.f1) := (box_stay HBX.out (by decide) (by decide) HST4.out 9).trans rfl
  have HB4 : Aside0 ((([] : List Int) ++ numsB [5] ++ textB m.name ++ numsB [m.cap, m.recaps] ++ numsB [m.epoch.f0, m.epoch.f1]).length + (numsB [m.rights.f0, m.rights.f1]).length ≤ 1099511627776) := ⟨by have h1 := congrArg List.length HT.out; simp only [List.length_append, List.length_nil] at h1 ⊢; have := HLEN.out; omega⟩
  have HL4 : Aside0 (IsL (w5.alloc (.cells #[.int .i64 m.rights.f0, .int .i64 m.rights.f1] 3 (0, 0))) w5.heap.size [m.rights.f0, m.rights.f1]) := ⟨heap_alloc_new w5 _⟩
  go_upto_region 31 with (go_at_call 53; refine (nums_calls w _ _ (([] : List Int) ++ numsB [5] ++ textB m.name ++ numsB [m.cap, m.recaps] ++ numsB [m.epoch.f0, m.epoch.f1]) v5 _ [m.rights.f0, m.rights.f1] _ _ rfl (HS4.out.below (al_below w5 _)) HL4.out HB4.out (by simp)).mono ?_; rintro e w6 ⟨rfl, v6, hS1, hst⟩; have HS5 := Aside0.mk hS1; have HST5 : Aside0 (Stay w1 w6) := ⟨HST4.out.trans ((Stay.below (al_below w5 _)).trans hst)⟩; clear kz8 kz9; clear hS1 hst)
  have kk5 : w6.cell? ⟨w.heap.size, 0, none⟩ = some (.int .i64 5) := (box_stay HBX.out (by decide) (by decide) HST5.out 0).trans HK0.out
  go_upto_region 36 with fail
  clear kk5
  obtain ⟨Az, nz, cz, rfl⟩ := R_sl HS5.out.row
  have kw : w6.cell? ⟨w0.heap.size, 0, none⟩ = some (.slice Az nz cz) := (blk_cell HS5.out.blk 0).trans rfl
  go_wp2_with fail
  go_ret2
  refine ⟨.slice Az nz cz, rfl, ?_, HS5.out.bel⟩
  have hrow := HS5.out.row
  rw [show ([] : List Int) ++ numsB [5] ++ textB m.name ++ numsB [m.cap, m.recaps] ++ numsB [m.epoch.f0, m.epoch.f1] ++ numsB [m.rights.f0, m.rights.f1] = msgB m from by rw [HT.out]; simp only [List.nil_append, List.append_assoc]] at hrow
  exact hrow
end Go.Proofs.Ytpgdmmjbhjbbhaa.En
end
section
namespace Go.Proofs.Ytpgdmmjbhjbbhaa.En
open Go Go.RowKit Go.Proofs.Ytpgdmmjbhjbbhaa.P Go.Proofs.Ytpgdmmjbhjbbhaa.Sp Go.Proofs.Ytpgdmmjbhjbbhaa.Vd Go.Proofs.Ytpgdmmjbhjbbhaa.Wr Go.Proofs.YtpgdmmjbhjbbhaaW.PrintWords Go.Proofs.YtpgdmmjbhjbbhaaW.PrintLast Go.Proofs.YtpgdmmjbhjbbhaaW.PrintMore
set_option linter.unusedVariables false
set_option linter.unusedSimpArgs false
set_option maxHeartbeats 8000000 in
set_option maxRecDepth 100000 in
theorem enc6_calls (m : Msg) (h : isI m.op.a ∧ isI m.op.b) (A : Option Addr) (c : Nat) (w : World) (hr : Kd.C k87 w A m.views.length m.views) (hc : m.views.length ≤ c) (hk : m.kind = 6) (hv : msgV m) :
    Calls Try.prog 16 #[MV m A c] w fun e w' => ∃ v, e = .returned (.tuple #[v, .int .i64 0]) ∧ Kd.R (Kd.int .u8) 5 w' w.heap.size (fun _ => True) v (msgB m) ∧ Below w.heap.size w w' := by
  have HT : Aside0 (msgB m = numsB [6] ++ (textB m.name ++ (numsB [m.cap, m.recaps] ++ (numsB [m.epoch.f0, m.epoch.f1] ++ (numsB [m.rights.f0, m.rights.f1]))))) := ⟨by unfold msgB restB; simp [hk, numsB, pairB, capOf, optB, hasEp, hasRt]⟩
  have HLEN := Aside0.mk (msg_len hv)
  have HV := Aside0.mk hv
  have HR := Aside0.mk hr
  have HC := Aside0.mk hc
  have HI := Aside0.mk h
  clear hv hr hc h
  have HK0 : Aside0 ((MVc m A c)[0]? = some (.int .i64 6)) := ⟨by unfold MVc; rw [hk]; rfl⟩
  have hu33 := Try.underlying33
  have hu23 := Try.underlying23
  have hu25 := Try.underlying25
  have hu27 := Try.underlying27
  have hu29 := Try.underlying29
  obtain ⟨wa, hwa⟩ : ∃ wa, wa = w.alloc (.cells (MVc m A c) 33 (0, 0)) := ⟨_, rfl⟩
  have HWA := Aside0.mk hwa
  have HB : Aside0 (Below w.heap.size w wa) := ⟨by rw [hwa]; exact (Below.refl _ _).alloc (Nat.le_refl _) _⟩
  have BK : Aside0 (wa.heap[w.heap.size]? = some (.cells (MVc m A c) 33 (0, 0))) := ⟨by rw [hwa]; exact heap_alloc_new w _⟩
  clear hwa
  go_enter Try.func16, Try.ntmps16
  unfold MV
  go_upto_region 1 with fail
  rw [← HWA.out]
  go_upto_region 3 with (first | ((with_reducible refine gate_dst (N := 5) rfl ?_); refine wpList_load_row rfl 33 (.tmp 1) rfl w.heap.size (by rfl) 33 (MVc m A c) (0, 0) _ BK.out Try.underlying33 rfl inf33 ?_) | (go_at_call 21; refine (valid_calls m HI.out A c _ (Kd.C_below HR.out HB.out) HC.out).mono ?_; rintro e w0 ⟨rfl, hb⟩; rw [dcd_pos HV.out]; have n0_ := Aside0.mk (below_step HB.out hb); have n1_ := Aside0.mk (blk_keep hb BK.out); clear HB BK hb; have HB := n0_; have BK := n1_; clear n0_ n1_))
  obtain ⟨w1, hw1⟩ : ∃ w1, w1 = w0.alloc (.cells #[.slice none 0 0] 99 (0, 0)) := ⟨_, rfl⟩
  have HW1 := Aside0.mk hw1
  have HS0 : Aside0 (WS w w1 w0.heap.size [] (.slice none 0 0)) := ⟨by rw [hw1]; exact ⟨heap_alloc_new w0 _, HB.out.size, Kd.R_nil _ _ _ _ _, below_alloc HB.out _⟩⟩
  have HBX : Aside0 (w1.heap[w.heap.size]? = some (.cells (MVc m A c) 33 (0, 0))) := ⟨by rw [hw1]; exact blk_keep (al_below w0 _) BK.out⟩
  have HST0 : Aside0 (Stay w1 w1) := ⟨Stay.refl _⟩
  clear hw1
  go_upto_region 4 with fail
  rw [← HW1.out]
  have kz0 : w1.cell? ⟨w.heap.size, 0, none⟩ = some (.int .i64 m.kind) := (box_stay HBX.out (by decide) (by decide) HST0.out 0).trans rfl
  rw [hk] at kz0
  have HB0 : Aside0 ((([] : List Int)).length + (numsB [6]).length ≤ 1099511627776) := ⟨by have h1 := congrArg List.length HT.out; simp only [List.length_append, List.length_nil] at h1 ⊢; have := HLEN.out; omega⟩
  have HL0 : Aside0 (IsL (w1.alloc (.cells #[.int .i64 6] 3 (0, 0))) w1.heap.size [6]) := ⟨heap_alloc_new w1 _⟩
  go_upto_region 5 with (go_at_call 53; refine (nums_calls w _ _ (([] : List Int)) (.slice none 0 0) _ [6] _ _ rfl (HS0.out.below (al_below w1 _)) HL0.out HB0.out (by simp)).mono ?_; rintro e w2 ⟨rfl, v2, hS1, hst⟩; have HS1 := Aside0.mk hS1; have HST1 : Aside0 (Stay w1 w2) := ⟨HST0.out.trans ((Stay.below (al_below w1 _)).trans hst)⟩; clear kz0; clear hS1 hst)
  have kk1 : w2.cell? ⟨w.heap.size, 0, none⟩ = some (.int .i64 6) := (box_stay HBX.out (by decide) (by decide) HST1.out 0).trans HK0.out
  go_upto_region 20 with fail
  clear kk1
  have kz1 : w2.cell? ⟨w.heap.size, 1, none⟩ = some (.string m.name) := (box_stay HBX.out (by decide) (by decide) HST1.out 1).trans rfl
  have HB1 : Aside0 ((([] : List Int) ++ numsB [6]).length + (textB m.name).length ≤ 1099511627776) := ⟨by have h1 := congrArg List.length HT.out; simp only [List.length_append, List.length_nil] at h1 ⊢; have := HLEN.out; omega⟩
  go_upto_region 21 with (go_at_call 57; refine (text_calls w _ _ (([] : List Int) ++ numsB [6]) v2 m.name HS1.out HB1.out).mono ?_; rintro e w3 ⟨rfl, v3, hS1, hst⟩; have HS2 := Aside0.mk hS1; have HST2 : Aside0 (Stay w1 w3) := ⟨HST1.out.trans hst⟩; clear kz1; clear hS1 hst)
  have kk2 : w3.cell? ⟨w.heap.size, 0, none⟩ = some (.int .i64 6) := (box_stay HBX.out (by decide) (by decide) HST2.out 0).trans HK0.out
  go_upto_region 21 with fail
  clear kk2
  have kz2 : w3.cell? ⟨w.heap.size, 2, none⟩ = some (.int .i64 m.cap) := (box_stay HBX.out (by decide) (by decide) HST2.out 2).trans rfl
  have kz3 : w3.cell? ⟨w.heap.size, 3, none⟩ = some (.int .i64 m.recaps) := (box_stay HBX.out (by decide) (by decide) HST2.out 3).trans rfl
  have HB2 : Aside0 ((([] : List Int) ++ numsB [6] ++ textB m.name).length + (numsB [m.cap, m.recaps]).length ≤ 1099511627776) := ⟨by have h1 := congrArg List.length HT.out; simp only [List.length_append, List.length_nil] at h1 ⊢; have := HLEN.out; omega⟩
  have HL2 : Aside0 (IsL (w3.alloc (.cells #[.int .i64 m.cap, .int .i64 m.recaps] 3 (0, 0))) w3.heap.size [m.cap, m.recaps]) := ⟨heap_alloc_new w3 _⟩
  go_upto_region 22 with (go_at_call 53; refine (nums_calls w _ _ (([] : List Int) ++ numsB [6] ++ textB m.name) v3 _ [m.cap, m.recaps] _ _ rfl (HS2.out.below (al_below w3 _)) HL2.out HB2.out (by simp)).mono ?_; rintro e w4 ⟨rfl, v4, hS1, hst⟩; have HS3 := Aside0.mk hS1; have HST3 : Aside0 (Stay w1 w4) := ⟨HST2.out.trans ((Stay.below (al_below w3 _)).trans hst)⟩; clear kz2 kz3; clear hS1 hst)
  have kk3 : w4.cell? ⟨w.heap.size, 0, none⟩ = some (.int .i64 6) := (box_stay HBX.out (by decide) (by decide) HST3.out 0).trans HK0.out
  go_upto_region 28 with fail
  clear kk3
  have kz4 : w4.cell? ⟨w.heap.size, 4, none⟩ = some (.int .i64 m.epoch.f0) := (box_stay HBX.out (by decide) (by decide) HST3.out 4).trans rfl
  have kz5 : w4.cell? ⟨w.heap.size, 5, none⟩ = some (.int .i64 m.epoch.f1) := (box_stay HBX.out (by decide) (by decide) HST3.out 5).trans rfl
  have HB3 : Aside0 ((([] : List Int) ++ numsB [6] ++ textB m.name ++ numsB [m.cap, m.recaps]).length + (numsB [m.epoch.f0, m.epoch.f1]).length ≤ 1099511627776) := ⟨by have h1 := congrArg List.length HT.out; simp only [List.length_append, List.length_nil] at h1 ⊢; have := HLEN.out; omega⟩
  have HL3 : Aside0 (IsL (w4.alloc (.cells #[.int .i64 m.epoch.f0, .int .i64 m.epoch.f1] 3 (0, 0))) w4.heap.size [m.epoch.f0, m.epoch.f1]) := ⟨heap_alloc_new w4 _⟩
  go_upto_region 29 with (go_at_call 53; refine (nums_calls w _ _ (([] : List Int) ++ numsB [6] ++ textB m.name ++ numsB [m.cap, m.recaps]) v4 _ [m.epoch.f0, m.epoch.f1] _ _ rfl (HS3.out.below (al_below w4 _)) HL3.out HB3.out (by simp)).mono ?_; rintro e w5 ⟨rfl, v5, hS1, hst⟩; have HS4 := Aside0.mk hS1; have HST4 : Aside0 (Stay w1 w5) := ⟨HST3.out.trans ((Stay.below (al_below w4 _)).trans hst)⟩; clear kz4 kz5; clear hS1 hst)
  have kk4 : w5.cell? ⟨w.heap.size, 0, none⟩ = some (.int .i64 6) := (box_stay HBX.out (by decide) (by decide) HST4.out 0).trans HK0.out
  go_upto_region 30 with fail
  clear kk4
  have kz8 : w5.cell? ⟨w.heap.size, 8, none⟩ = some (.int .i64 m.rights.f0) := (box_stay HBX.out (by decide) (by decide) HST4.out 8).trans rfl
  have kz9 : w5.cell? ⟨w.heap.size, 9, none⟩ = some (.int .i64 m.rights.f1) := (box_stay HBX.out (by decide) (by decide) HST4.out 9).trans rfl
  have HB4 : Aside0 ((([] : List Int) ++ numsB [6] ++ textB m.name ++ numsB [m.cap, m.recaps] ++ numsB [m.epoch.f0, m.epoch.f1]).length + (numsB [m.rights.f0, m.rights.f1]).length ≤ 1099511627776) := ⟨by have h1 := congrArg List.length HT.out; simp only [List.length_append, List.length_nil] at h1 ⊢; have := HLEN.out; omega⟩
  have HL4 : Aside0 (IsL (w5.alloc (.cells #[.int .i64 m.rights.f0, .int .i64 m.rights.f1] 3 (0, 0))) w5.heap.size [m.rights.f0, m.rights.f1]) := ⟨heap_alloc_new w5 _⟩
  go_upto_region 31 with (go_at_call 53; refine (nums_calls w _ _ (([] : List Int) ++ numsB [6] ++ textB m.name ++ numsB [m.cap, m.recaps] ++ numsB [m.epoch.f0, m.epoch.f1]) v5 _ [m.rights.f0, m.rights.f1] _ _ rfl (HS4.out.below (al_below w5 _)) HL4.out HB4.out (by simp)).mono ?_; rintro e w6 ⟨rfl, v6, hS1, hst⟩; have HS5 := Aside0.mk hS1; have HST5 : Aside0 (Stay w1 w6) := ⟨HST4.out.trans ((Stay.below (al_below w5 _)).trans hst)⟩; clear kz8 kz9; clear hS1 hst)
  have kk5 : w6.cell? ⟨w.heap.size, 0, none⟩ = some (.int .i64 6) := (box_stay HBX.out (by decide) (by decide) HST5.out 0).trans HK0.out
  go_upto_region 36 with fail
  clear kk5
  obtain ⟨Az, nz, cz, rfl⟩ := R_sl HS5.out.row
  have kw : w6.cell? ⟨w0.heap.size, 0, none⟩ = some (.slice Az nz cz) := (blk_cell HS5.out.blk 0).trans rfl
  go_wp2_with fail
  go_ret2
  refine ⟨.slice Az nz cz, rfl, ?_, HS5.out.bel⟩
  have hrow := HS5.out.row
  rw [show ([] : List Int) ++ numsB [6] ++ textB m.name ++ numsB [m.cap, m.recaps] ++ numsB [m.epoch.f0, m.epoch.f1] ++ numsB [m.rights.f0, m.rights.f1] = msgB m from by rw [HT.out]; simp only [List.nil_append, List.append_assoc]] at hrow
  exact hrow
set_option maxHeartbeats 8000000 in
set_option maxRecDepth 100000 in
theorem enc9_calls (m : Msg) (h : isI m.op.a ∧ isI m.op.b) (A : Option Addr) (c : Nat) (w : World) (hr : Kd.C k87 w A m.views.length m.views) (hc : m.views.length ≤ c) (hk : m.kind = 9) (hv : msgV m) :
    Calls Try.prog 16 #[MV m A c] w fun e w' => ∃ v, e = .returned (.tuple #[v, .int .i64 0]) ∧ Kd.R (Kd.int .u8) 5 w' w.heap.size (fun _ => True) v (msgB m) ∧ Below w.heap.size w w' := by
  have HT : Aside0 (msgB m = numsB [9] ++ (textB m.name ++ (numsB [m.cap, m.recaps] ++ (numsB [m.rights.f0, m.rights.f1])))) := ⟨by unfold msgB restB; simp [hk, numsB, pairB, capOf, optB, hasEp, hasRt]⟩
  have HLEN := Aside0.mk (msg_len hv)
  have HV := Aside0.mk hv
  have HR := Aside0.mk hr
  have HC := Aside0.mk hc
  have HI := Aside0.mk h
  clear hv hr hc h
  have HK0 : Aside0 ((MVc m A c)[0]? = some (.int .i64 9)) := ⟨by unfold MVc; rw [hk]; rfl⟩
  have hu33 := Try.underlying33
  have hu23 := Try.underlying23
  have hu25 := Try.underlying25
  have hu27 := Try.underlying27
  have hu29 := Try.underlying29
  obtain ⟨wa, hwa⟩ : ∃ wa, wa = w.alloc (.cells (MVc m A c) 33 (0, 0)) := ⟨_, rfl⟩
  have HWA := Aside0.mk hwa
  have HB : Aside0 (Below w.heap.size w wa) := ⟨by rw [hwa]; exact (Below.refl _ _).alloc (Nat.le_refl _) _⟩
  have BK : Aside0 (wa.heap[w.heap.size]? = some (.cells (MVc m A c) 33 (0, 0))) := ⟨by rw [hwa]; exact heap_alloc_new w _⟩
  clear hwa
  go_enter Try.func16, Try.ntmps16
  unfold MV
  go_upto_region 1 with fail
  rw [← HWA.out]
  go_upto_region 3 with (first | ((with_reducible refine gate_dst (N := 5) rfl ?_); refine wpList_load_row rfl 33 (.tmp 1) rfl w.heap.size (by rfl) 33 (MVc m A c) (0, 0) _ BK.out Try.underlying33 rfl inf33 ?_) | (go_at_call 21; refine (valid_calls m HI.out A c _ (Kd.C_below HR.out HB.out) HC.out).mono ?_; rintro e w0 ⟨rfl, hb⟩; rw [dcd_pos HV.out]; have n0_ := Aside0.mk (below_step HB.out hb); have n1_ := Aside0.mk (blk_keep hb BK.out); clear HB BK hb; have HB := n0_; have BK := n1_; clear n0_ n1_))
  obtain ⟨w1, hw1⟩ : ∃ w1, w1 = w0.alloc (.cells #[.slice none 0 0] 99 (0, 0)) := ⟨_, rfl⟩
  have HW1 := Aside0.mk hw1
  have HS0 : Aside0 (WS w w1 w0.heap.size [] (.slice none 0 0)) := ⟨by rw [hw1]; exact ⟨heap_alloc_new w0 _, HB.out.size, Kd.R_nil _ _ _ _ _, below_alloc HB.out _⟩⟩
  have HBX : Aside0 (w1.heap[w.heap.size]? = some (.cells (MVc m A c) 33 (0, 0))) := ⟨by rw [hw1]; exact blk_keep (al_below w0 _) BK.out⟩
  have HST0 : Aside0 (Stay w1 w1) := ⟨Stay.refl _⟩
  clear hw1
  go_upto_region 4 with fail
  rw [← HW1.out]
  have kz0 : w1.cell? ⟨w.heap.size, 0, none⟩ = some (.int .i64 m.kind) := (box_stay HBX.out (by decide) (by decide) HST0.out 0).trans rfl
  rw [hk] at kz0
  have HB0 : Aside0 ((([] : List Int)).length + (numsB [9]).length ≤ 1099511627776) := ⟨by have h1 := congrArg List.length HT.out; simp only [List.length_append, List.length_nil] at h1 ⊢; have := HLEN.out; omega⟩
  have HL0 : Aside0 (IsL (w1.alloc (.cells #[.int .i64 9] 3 (0, 0))) w1.heap.size [9]) := ⟨heap_alloc_new w1 _⟩
  go_upto_region 5 with (go_at_call 53; refine (nums_calls w _ _ (([] : List Int)) (.slice none 0 0) _ [9] _ _ rfl (HS0.out.below (al_below w1 _)) HL0.out HB0.out (by simp)).mono ?_; rintro e w2 ⟨rfl, v2, hS1, hst⟩; have HS1 := Aside0.mk hS1; have HST1 : Aside0 (Stay w1 w2) := ⟨HST0.out.trans ((Stay.below (al_below w1 _)).trans hst)⟩; clear kz0; clear hS1 hst)
  have kk1 : w2.cell? ⟨w.heap.size, 0, none⟩ = some (.int .i64 9) := (box_stay HBX.out (by decide) (by decide) HST1.out 0).trans HK0.out
  go_upto_region 20 with fail
  clear kk1
  have kz1 : w2.cell? ⟨w.heap.size, 1, none⟩ = some (.string m.name) := (box_stay HBX.out (by decide) (by decide) HST1.out 1).trans rfl
  have HB1 : Aside0 ((([] : List Int) ++ numsB [9]).length + (textB m.name).length ≤ 1099511627776) := ⟨by have h1 := congrArg List.length HT.out; simp only [List.length_append, List.length_nil] at h1 ⊢; have := HLEN.out; omega⟩
  go_upto_region 21 with (go_at_call 57; refine (text_calls w _ _ (([] : List Int) ++ numsB [9]) v2 m.name HS1.out HB1.out).mono ?_; rintro e w3 ⟨rfl, v3, hS1, hst⟩; have HS2 := Aside0.mk hS1; have HST2 : Aside0 (Stay w1 w3) := ⟨HST1.out.trans hst⟩; clear kz1; clear hS1 hst)
  have kk2 : w3.cell? ⟨w.heap.size, 0, none⟩ = some (.int .i64 9) := (box_stay HBX.out (by decide) (by decide) HST2.out 0).trans HK0.out
  go_upto_region 21 with fail
  clear kk2
  have kz2 : w3.cell? ⟨w.heap.size, 2, none⟩ = some (.int .i64 m.cap) := (box_stay HBX.out (by decide) (by decide) HST2.out 2).trans rfl
  have kz3 : w3.cell? ⟨w.heap.size, 3, none⟩ = some (.int .i64 m.recaps) := (box_stay HBX.out (by decide) (by decide) HST2.out 3).trans rfl
  have HB2 : Aside0 ((([] : List Int) ++ numsB [9] ++ textB m.name).length + (numsB [m.cap, m.recaps]).length ≤ 1099511627776) := ⟨by have h1 := congrArg List.length HT.out; simp only [List.length_append, List.length_nil] at h1 ⊢; have := HLEN.out; omega⟩
  have HL2 : Aside0 (IsL (w3.alloc (.cells #[.int .i64 m.cap, .int .i64 m.recaps] 3 (0, 0))) w3.heap.size [m.cap, m.recaps]) := ⟨heap_alloc_new w3 _⟩
  go_upto_region 22 with (go_at_call 53; refine (nums_calls w _ _ (([] : List Int) ++ numsB [9] ++ textB m.name) v3 _ [m.cap, m.recaps] _ _ rfl (HS2.out.below (al_below w3 _)) HL2.out HB2.out (by simp)).mono ?_; rintro e w4 ⟨rfl, v4, hS1, hst⟩; have HS3 := Aside0.mk hS1; have HST3 : Aside0 (Stay w1 w4) := ⟨HST2.out.trans ((Stay.below (al_below w3 _)).trans hst)⟩; clear kz2 kz3; clear hS1 hst)
  have kk3 : w4.cell? ⟨w.heap.size, 0, none⟩ = some (.int .i64 9) := (box_stay HBX.out (by decide) (by decide) HST3.out 0).trans HK0.out
  go_upto_region 30 with fail
  clear kk3
  have kz8 : w4.cell? ⟨w.heap.size, 8, none⟩ = some (.int .i64 m.rights.f0) := (box_stay HBX.out (by decide) (by decide) HST3.out 8).trans rfl
  have kz9 : w4.cell? ⟨w.heap.size, 9, none⟩ = some (.int .i64 m.rights.f1) := (box_stay HBX.out (by decide) (by decide) HST3.out 9).trans rfl
  have HB3 : Aside0 ((([] : List Int) ++ numsB [9] ++ textB m.name ++ numsB [m.cap, m.recaps]).length + (numsB [m.rights.f0, m.rights.f1]).length ≤ 1099511627776) := ⟨by have h1 := congrArg List.length HT.out; simp only [List.length_append, List.length_nil] at h1 ⊢; have := HLEN.out; omega⟩
  have HL3 : Aside0 (IsL (w4.alloc (.cells #[.int .i64 m.rights.f0, .int .i64 m.rights.f1] 3 (0, 0))) w4.heap.size [m.rights.f0, m.rights.f1]) := ⟨heap_alloc_new w4 _⟩
  go_upto_region 31 with (go_at_call 53; refine (nums_calls w _ _ (([] : List Int) ++ numsB [9] ++ textB m.name ++ numsB [m.cap, m.recaps]) v4 _ [m.rights.f0, m.rights.f1] _ _ rfl (HS3.out.below (al_below w4 _)) HL3.out HB3.out (by simp)).mono ?_; rintro e w5 ⟨rfl, v5, hS1, hst⟩; have HS4 := Aside0.mk hS1; have HST4 : Aside0 (Stay w1 w5) := ⟨HST3.out.trans ((Stay.below (al_below w4 _)).trans hst)⟩; clear kz8 kz9; clear hS1 hst)
  have kk4 : w5.cell? ⟨w.heap.size, 0, none⟩ = some (.int .i64 9) := (box_stay HBX.out (by decide) (by decide) HST4.out 0).trans HK0.out
  go_upto_region 36 with fail
  clear kk4
  obtain ⟨Az, nz, cz, rfl⟩ := R_sl HS4.out.row
  have kw : w5.cell? ⟨w0.heap.size, 0, none⟩ = some (.slice Az nz cz) := (blk_cell HS4.out.blk 0).trans rfl
  go_wp2_with fail
  go_ret2
  refine ⟨.slice Az nz cz, rfl, ?_, HS4.out.bel⟩
  have hrow := HS4.out.row
  rw [show ([] : List Int) ++ numsB [9] ++ textB m.name ++ numsB [m.cap, m.recaps] ++ numsB [m.rights.f0, m.rights.f1] = msgB m from by rw [HT.out]; simp only [List.nil_append, List.append_assoc]] at hrow
  exact hrow
end Go.Proofs.Ytpgdmmjbhjbbhaa.En
end
section
namespace Go.Proofs.Ytpgdmmjbhjbbhaa.En
open Go Go.RowKit Go.Proofs.Ytpgdmmjbhjbbhaa.P Go.Proofs.Ytpgdmmjbhjbbhaa.Sp Go.Proofs.Ytpgdmmjbhjbbhaa.Vd Go.Proofs.Ytpgdmmjbhjbbhaa.Wr Go.Proofs.YtpgdmmjbhjbbhaaW.PrintWords Go.Proofs.YtpgdmmjbhjbbhaaW.PrintLast Go.Proofs.YtpgdmmjbhjbbhaaW.PrintMore
set_option linter.unusedVariables false
set_option linter.unusedSimpArgs false
theorem lay_ok {α : Type} {e : α → List Int} {v : α → Prop} {x : α} (h : v x) : lay e v x = (e x, 0) := by unfold lay; rw [if_pos (dcd_pos h)]
theorem lay_no {α : Type} {e : α → List Int} {v : α → Prop} {x : α} (h : ¬ v x) : lay e v x = ([], 21) := by unfold lay; rw [if_neg (by rw [dcd_neg h]; decide)]
set_option maxHeartbeats 8000000 in
set_option maxRecDepth 100000 in
theorem enc0_calls (m : Msg) (h : isI m.op.a ∧ isI m.op.b) (A : Option Addr) (c : Nat) (w : World) (hr : Kd.C k87 w A m.views.length m.views) (hc : m.views.length ≤ c) (hv : ¬ msgV m) :
    Calls Try.prog 16 #[MV m A c] w fun e w' => e = .returned (.tuple #[.slice none 0 0, .int .i64 21]) ∧ Below w.heap.size w w' := by
  have HV := Aside0.mk hv
  have HR := Aside0.mk hr
  have HC := Aside0.mk hc
  have HI := Aside0.mk h
  clear hv hr hc h
  have hu33 := Try.underlying33
  obtain ⟨wa, hwa⟩ : ∃ wa, wa = w.alloc (.cells (MVc m A c) 33 (0, 0)) := ⟨_, rfl⟩
  have HWA := Aside0.mk hwa
  have HB : Aside0 (Below w.heap.size w wa) := ⟨by rw [hwa]; exact (Below.refl _ _).alloc (Nat.le_refl _) _⟩
  have BK : Aside0 (wa.heap[w.heap.size]? = some (.cells (MVc m A c) 33 (0, 0))) := ⟨by rw [hwa]; exact heap_alloc_new w _⟩
  clear hwa
  go_enter Try.func16, Try.ntmps16
  unfold MV
  go_upto_region 1 with fail
  rw [← HWA.out]
  go_wp2_with (first | ((with_reducible refine gate_dst (N := 5) rfl ?_); refine wpList_load_row rfl 33 (.tmp 1) rfl w.heap.size (by rfl) 33 (MVc m A c) (0, 0) _ BK.out Try.underlying33 rfl inf33 ?_) | (go_at_call 21; refine (valid_calls m HI.out A c _ (Kd.C_below HR.out HB.out) HC.out).mono ?_; rintro e w0 ⟨rfl, hb⟩; rw [dcd_neg HV.out]; have n0_ := Aside0.mk (below_step HB.out hb); clear HB BK hb; have HB := n0_; clear n0_))
  go_ret2
  exact ⟨rfl, HB.out⟩
theorem encode_calls (m : Msg) (h : isI m.op.a ∧ isI m.op.b) (A : Option Addr) (c : Nat) (w : World) (hr : Kd.C k87 w A m.views.length m.views) (hc : m.views.length ≤ c) :
    Calls Try.prog 16 #[MV m A c] w fun e w' => ∃ v, e = .returned (.tuple #[v, .int .i64 (lay msgB msgV m).2]) ∧ Kd.R (Kd.int .u8) 5 w' w.heap.size (fun _ => True) v (lay msgB msgV m).1 ∧ Below w.heap.size w w' := by
  by_cases hv : msgV m
  · rw [lay_ok hv]
    have hs : m.kind = 1 ∨ m.kind = 2 ∨ m.kind = 3 ∨ m.kind = 4 ∨ m.kind = 5 ∨ m.kind = 6 ∨ m.kind = 7 ∨ m.kind = 8 ∨ m.kind = 9 ∨ m.kind = 10 := by have := hv.1; omega
    rcases hs with h1 | h1 | h1 | h1 | h1 | h1 | h1 | h1 | h1 | h1
    · exact enc1_calls m h A c w hr hc h1 hv
    · by_cases hq : capped m.err
      · exact enc2t_calls m h A c w hr hc h1 hv hq
      · exact enc2f_calls m h A c w hr hc h1 hv hq
    · exact enc3_calls m h A c w hr hc h1 hv
    · exact enc4_calls m h A c w hr hc h1 hv
    · exact enc5_calls m h A c w hr hc h1 hv
    · exact enc6_calls m h A c w hr hc h1 hv
    · exact enc7_calls m h A c w hr hc h1 hv
    · exact enc8_calls m h A c w hr hc h1 hv
    · exact enc9_calls m h A c w hr hc h1 hv
    · exact enc10_calls m h A c w hr hc h1 hv
  · rw [lay_no hv]
    refine (enc0_calls m h A c w hr hc hv).mono ?_
    rintro e w' ⟨rfl, hb⟩
    exact ⟨_, rfl, Kd.R_nil _ _ _ _ _, hb⟩
end Go.Proofs.Ytpgdmmjbhjbbhaa.En
end
