/- texts that the proof needs, laid together by a program of this session. -/
import Derived.Deep.Cut
import Derived.Test.YtpgdmmjbhjbbhaaKWireBack17
section
namespace Go.Proofs.Ytpgdmmjbhjbbhaa.Lw
open Go Go.RowKit Go.Proofs.Ytpgdmmjbhjbbhaa.P Go.Proofs.Ytpgdmmjbhjbbhaa.Sp Go.Proofs.Ytpgdmmjbhjbbhaa.Vd Go.Proofs.Ytpgdmmjbhjbbhaa.En Go.Proofs.Ytpgdmmjbhjbbhaa.Wr Go.Proofs.Ytpgdmmjbhjbbhaa.Rd Go.Proofs.Ytpgdmmjbhjbbhaa.Rf Go.Proofs.YtpgdmmjbhjbbhaaW.PrintWords Go.Proofs.YtpgdmmjbhjbbhaaW.PrintLast Go.Proofs.YtpgdmmjbhjbbhaaW.PrintMore
set_option linter.unusedVariables false
set_option linter.unusedSimpArgs false
set_option maxHeartbeats 8000000 in
set_option maxRecDepth 100000 in
theorem back_walk (w : World) (m : Msg) (A : Option Addr) (c : Nat) (s : Seg) (A1 : Option Addr) (c1 : Nat) (x : S25) (o : Sp.Op) (r : Rep)
    (hmI : isI m.op.a ∧ isI m.op.b) (hmk : isI m.kind) (hme : isI m.err) (hmv : Ow.VIn w A c m.views) (hsI : In w A1 c1 s.data) (hsl : s.data.length ≤ 140737488351232) (hok : isI o.kind) (hoa : isI o.a) (hob : isI o.b) (hre : isI r.err) (hrv : isI r.value) :
    Calls Try.prog 10 #[.agg (MVc m A c), .agg (SVc s A1 c1), .agg #[.int .i64 x.f0, .int .i64 x.f1], .agg #[.int .i64 o.kind, .string o.name, .int .i64 o.a, .int .i64 o.b], .agg (RVc r)] w fun e w' => e = .returned (.bool true) ∧ Below w.heap.size w w' := by
  have HI := Aside0.mk hmI
  have HV0 := Aside0.mk (And.intro hmv.1 hmv.2.1)
  have HS0 := Aside0.mk hsI
  have HOI := Aside0.mk (And.intro hoa hob)
  have HRI := Aside0.mk hrv
  clear hmI hmk hme hmv hsI hsl hok hoa hob hre hrv
  unfold RVc
  have hu33 := Try.underlying33
  have hu23 := Try.underlying23
  have hu25 := Try.underlying25
  have hu27 := Try.underlying27
  have hu29 := Try.underlying29
  have hu47 := Try.underlying47
  have hu50 := Try.underlying50
  obtain ⟨wa, hwa⟩ : ∃ wa, wa = ((((w.alloc (.cells (MVc m A c) 33 (0, 0))).alloc (.cells (SVc s A1 c1) 47 (0, 0))).alloc (.cells #[.int .i64 x.f0, .int .i64 x.f1] 27 (0, 0))).alloc (.cells #[.int .i64 o.kind, .string o.name, .int .i64 o.a, .int .i64 o.b] 29 (0, 0))).alloc (.cells #[.int .i64 r.call.f0, .int .i64 r.call.f1, .int .i64 r.err, .int .i64 r.value] 50 (0, 0)) := ⟨_, rfl⟩
  have HWA := Aside0.mk hwa
  have HX : Aside0 (BX w wa m A c s A1 c1 x o r) := ⟨by rw [hwa]; exact bx_new w m A c s A1 c1 x o r⟩
  clear hwa
  go_enter Try.func10, Try.ntmps10
  go_upto_region 1 with fail
  rw [← HWA.out]
  obtain ⟨tk, htk⟩ : ∃ tk, dcd (msgV m) = tk := ⟨_, rfl⟩
  have HTK := Aside0.mk htk
  clear htk
  go_upto_if 35 with (first
    | (go_at_call 12; refine (able_calls _).mono ?_; rintro e w1 ⟨rfl, hb⟩; have n0_ := Aside0.mk (BX.below HX.out hb); clear HX hb; have HX := n0_; clear n0_)
    | ((with_reducible refine gate_dst (N := 34) rfl ?_); refine wpList_load_row rfl 33 (.tmp 5) rfl (w.heap.size) (by rfl) 33 (MVc m A c) (0, 0) _ HX.out.m Try.underlying33 rfl inf33 ?_)
    | (go_at_call 15; refine (rvalid_calls m HI.out A c _ (Kd.C_below HV0.out.1 HX.out.bel) HV0.out.2).mono ?_; rintro e w2 ⟨rfl, hb⟩; rw [HTK.out]; have n0_ := Aside0.mk (BX.below HX.out hb); clear HX hb; have HX := n0_; clear n0_))
  go_cut [35] from 185 (fun _ wx => Aside0 (BX w wx m A c s A1 c1 x o r))
  case first =>
    obtain rfl | rfl : tk = true ∨ tk = false := by cases tk <;> simp
    · have hv := dcd_iff.mp HTK.out
      have HV := Aside0.mk hv
      clear hv
      go_upto_region 6 with (first
        | ((with_reducible refine gate_dst (N := 37) rfl ?_); refine wpList_load_row rfl 33 (.tmp 5) rfl (w.heap.size) (by rfl) 33 (MVc m A c) (0, 0) _ HX.out.m Try.underlying33 rfl inf33 ?_)
        | (refine wpList_store_row rfl 33 (.tmp 13) (.tmp 44) rfl w4.heap.size (MVc m A3 c3) (by rfl) (by rfl) 33 _ H4.out inf33 rfl (mv_one _ _ _) ?_)
        | (go_at_call 16; refine (enc_right m HV.out A c _ ⟨Kd.C_below HV0.out.1 HX.out.bel, HV0.out.2⟩).mono ?_; rintro e w3 ⟨A2, c2, rfl, hin, hb⟩; have HN := Aside0.mk hin; clear hin; have n0_ := Aside0.mk (BX.below HX.out hb); clear HX hb; have HX := n0_; clear n0_)
        | (go_at_call 18; refine (dec_right m HV.out _ A2 c2 HN.out).mono ?_; rintro e w4 ⟨A3, c3, rfl, hC, hb⟩; have HC := Aside0.mk hC; have H4 := Aside0.mk (heap_alloc_new w4 (.cells (MVc zMsg none 0) 33 (0, 0))); clear hC; have n0_ := Aside0.mk (BX.below HX.out hb); clear HX hb; have HX := n0_; clear n0_))
      obtain ⟨w5, hw5⟩ : ∃ w5, w5 = (w4.alloc (.cells (MVc zMsg none 0) 33 (0, 0))).setRow w4.heap.size (MVc m A3 c3) := ⟨_, rfl⟩
      have HW5 := Aside0.mk hw5
      rw [mv_zero] at HW5
      have H5 : Aside0 (Below w4.heap.size w4 w5 ∧ w5.heap[w4.heap.size]? = some (.cells (MVc m A3 c3) 33 (0, 0))) := ⟨by
        exact ⟨by rw [hw5]; exact below_setRow (al_below _ _) (Nat.le_refl _) _, by rw [hw5]; exact setRow_blk H4.out _⟩⟩
      rw [← HW5.out]
      clear hw5 HW5 H4
      have n0_ := Aside0.mk (BX.below HX.out H5.out.1)
      have BK := Aside0.mk H5.out.2
      have HC5 : Aside0 (Kd.C k87 w5 A3 m.views.length m.views ∧ m.views.length ≤ c3) := ⟨Kd.C_below HC.out.1 H5.out.1, HC.out.2⟩
      clear HX H5 HC HN
      have HX := n0_
      clear n0_
      have hlen : ((msgB m).length : Int) ≤ 3400 := by have := msg_len HV.out; omega
      go_wp2_with (first
        | ((with_reducible refine gate_dst (N := 58) rfl ?_); refine gate_guard (by kernel_rfl) ?_; refine wpList_load_row rfl 33 (.tmp 13) rfl w4.heap.size (by rfl) 33 (MVc m A3 c3) (0, 0) _ BK.out Try.underlying33 rfl inf33 ?_)
        | ((with_reducible refine gate_dst (N := 59) rfl ?_); refine gate_guard (by kernel_rfl) ?_; refine wpList_load_row rfl 33 (.tmp 5) rfl (w.heap.size) (by rfl) 33 (MVc m A c) (0, 0) _ HX.out.m Try.underlying33 rfl inf33 ?_)
        | ((with_reducible refine gate_dst (N := 64) rfl ?_); refine gate_guard (by kernel_rfl) ?_; refine wpList_load_row rfl 33 (.tmp 13) rfl w4.heap.size (by rfl) 33 (MVc m A3 c3) (0, 0) _ BK.out Try.underlying33 rfl inf33 ?_)
        | (go_at_call 20; refine (same_self m A3 c3 A c _ HC5.out ⟨Kd.C_below HV0.out.1 HX.out.bel, HV0.out.2⟩).mono ?_; rintro e w6 ⟨rfl, hb⟩; have n1_ := Aside0.mk (blk_keep hb BK.out); have n2_ : Aside0 (Kd.C k87 w6 A3 m.views.length m.views ∧ m.views.length ≤ c3) := ⟨Kd.C_below HC5.out.1 hb, HC5.out.2⟩; clear BK HC5; have BK := n1_; have HC5 := n2_; clear n1_ n2_; have n0_ := Aside0.mk (BX.below HX.out hb); clear HX hb; have HX := n0_; clear n0_)
        | (go_at_call 21; refine (val_right m HV.out A3 c3 _ HC5.out).mono ?_; rintro e w7 ⟨rfl, hb⟩; have n0_ := Aside0.mk (BX.below HX.out hb); clear HX hb; have HX := n0_; clear n0_))
      go_meet
      exact ⟨HX.out⟩
    · go_wp2_with fail
      go_meet
      exact HX.out |> Aside0.mk
  case rest =>
    clear HX HTK
    have HX := hcut
    clear hcut
    obtain ⟨tk, htk⟩ : ∃ tk, dcd (segV s) = tk := ⟨_, rfl⟩
    have HTK := Aside0.mk htk
    clear htk
    go_upto_if 74 with (first
      | ((with_reducible refine gate_dst (N := 73) rfl ?_); refine wpList_load_row rfl 47 (.tmp 6) rfl (w.heap.size + 1) (by rfl) 47 (SVc s A1 c1) (0, 0) _ HX.out.s Try.underlying47 rfl inf47 ?_)
      | (go_at_call 26; refine (right_calls s A1 c1 _ (In.below HS0.out HX.out.bel)).mono ?_; rintro e w2 ⟨rfl, hb⟩; rw [HTK.out]; have n0_ := Aside0.mk (BX.below HX.out hb); clear HX hb; have HX := n0_; clear n0_))
    go_cut [74] from 185 (fun _ wx => Aside0 (BX w wx m A c s A1 c1 x o r))
    case first =>
      obtain rfl | rfl : tk = true ∨ tk = false := by cases tk <;> simp
      · have hv := dcd_iff.mp HTK.out
        have HV := Aside0.mk hv
        clear hv
        go_upto_region 11 with (first
          | ((with_reducible refine gate_dst (N := 76) rfl ?_); refine wpList_load_row rfl 47 (.tmp 6) rfl (w.heap.size + 1) (by rfl) 47 (SVc s A1 c1) (0, 0) _ HX.out.s Try.underlying47 rfl inf47 ?_)
          | (refine wpList_store_row rfl 47 (.tmp 18) (.tmp 83) rfl w4.heap.size (SVc s A3 c3) (by rfl) (by rfl) 47 _ H4.out inf47 rfl (sv_one _ _ _) ?_)
          | (go_at_call 27; refine (enc_seg_right s HV.out A1 c1 _ (In.below HS0.out HX.out.bel)).mono ?_; rintro e w3 ⟨A2, c2, rfl, hin, hb⟩; have HN := Aside0.mk hin; clear hin; have n0_ := Aside0.mk (BX.below HX.out hb); clear HX hb; have HX := n0_; clear n0_)
          | (go_at_call 28; refine (dec_seg_right s HV.out _ A2 c2 HN.out).mono ?_; rintro e w4 ⟨A3, c3, rfl, hC, hb⟩; have HC := Aside0.mk hC; have H4 := Aside0.mk (heap_alloc_new w4 (.cells (SVc zSeg none 0) 47 (0, 0))); clear hC; have n0_ := Aside0.mk (BX.below HX.out hb); clear HX hb; have HX := n0_; clear n0_))
        obtain ⟨w5, hw5⟩ : ∃ w5, w5 = (w4.alloc (.cells (SVc zSeg none 0) 47 (0, 0))).setRow w4.heap.size (SVc s A3 c3) := ⟨_, rfl⟩
        have HW5 := Aside0.mk hw5
        rw [show SVc zSeg none 0 = #[.int .i64 0, .int .i64 0, .int .i64 0, .int .i64 0, .slice none 0 0] from rfl] at HW5
        have H5 : Aside0 (Below w4.heap.size w4 w5 ∧ w5.heap[w4.heap.size]? = some (.cells (SVc s A3 c3) 47 (0, 0))) := ⟨by
          exact ⟨by rw [hw5]; exact below_setRow (al_below _ _) (Nat.le_refl _) _, by rw [hw5]; exact setRow_blk H4.out _⟩⟩
        rw [← HW5.out]
        clear hw5 HW5 H4
        have n0_ := Aside0.mk (BX.below HX.out H5.out.1)
        have BK := Aside0.mk H5.out.2
        have HC5 : Aside0 (In w5 A3 c3 s.data) := ⟨In.below HC.out H5.out.1⟩
        clear HX H5 HC HN
        have HX := n0_
        clear n0_
        have hlen : ((segB s).length : Int) ≤ 4020 := by have := seg_len HV.out; omega
        go_wp2_with (first
          | ((with_reducible refine gate_dst (N := 97) rfl ?_); refine gate_guard (by kernel_rfl) ?_; refine wpList_load_row rfl 47 (.tmp 18) rfl w4.heap.size (by rfl) 47 (SVc s A3 c3) (0, 0) _ BK.out Try.underlying47 rfl inf47 ?_)
          | ((with_reducible refine gate_dst (N := 98) rfl ?_); refine gate_guard (by kernel_rfl) ?_; refine wpList_load_row rfl 47 (.tmp 6) rfl (w.heap.size + 1) (by rfl) 47 (SVc s A1 c1) (0, 0) _ HX.out.s Try.underlying47 rfl inf47 ?_)
          | (go_at_call 29; refine (same_seg_self s A3 c3 A1 c1 _ HC5.out (In.below HS0.out HX.out.bel)).mono ?_; rintro e w6 ⟨rfl, hb⟩; have n0_ := Aside0.mk (BX.below HX.out hb); clear HX hb; have HX := n0_; clear n0_))
        go_meet
        exact ⟨HX.out⟩
      · go_wp2_with fail
        go_meet
        exact HX.out |> Aside0.mk
    case rest =>
      clear HX HTK
      have HX := hcut
      clear hcut
      obtain ⟨pb, hpb⟩ : ∃ pb, dcd (callV x) = pb := ⟨_, rfl⟩
      obtain ⟨qb, hqb⟩ : ∃ qb, dcd (opV o) = qb := ⟨_, rfl⟩
      have HP := Aside0.mk hpb
      have HQ := Aside0.mk hqb
      have HTK : Aside0 (dcd (reqV (x, o)) = (pb && qb)) := ⟨by rw [← hpb, ← hqb, ← dcd_and]; rfl⟩
      clear hpb hqb
      go_upto_region 13 with fail
      go_cut [112] from 185 (fun s112 wx => s112 = .bool (pb && qb) ∧ Aside0 (BX w wx m A c s A1 c1 x o r))
      case first =>
        clear HTK
        have kc0 : wc.cell? ⟨w.heap.size + 1 + 1, 0, none⟩ = some (.int .i64 x.f0) := (blk_cell HX.out.c 0).trans rfl
        have kc1 : wc.cell? ⟨w.heap.size + 1 + 1, 1, none⟩ = some (.int .i64 x.f1) := (blk_cell HX.out.c 1).trans rfl
        obtain rfl | rfl : pb = true ∨ pb = false := by cases pb <;> simp
        · obtain rfl | rfl : qb = true ∨ qb = false := by cases qb <;> simp
          all_goals
            go_wp2_with (first
              | (go_at_call 30; refine (isCall_calls x _).mono ?_; rintro e w2 ⟨rfl, hb⟩; rw [HP.out]; have n0_ := Aside0.mk (BX.below HX.out hb); clear HX hb; have HX := n0_; clear n0_; clear kc0 kc1; have ko0 : w2.cell? ⟨w.heap.size + 1 + 1 + 1, 0, none⟩ = some (.int .i64 o.kind) := (blk_cell HX.out.o 0).trans rfl; have ko1 : w2.cell? ⟨w.heap.size + 1 + 1 + 1, 1, none⟩ = some (.string o.name) := (blk_cell HX.out.o 1).trans rfl; have ko2 : w2.cell? ⟨w.heap.size + 1 + 1 + 1, 2, none⟩ = some (.int .i64 o.a) := (blk_cell HX.out.o 2).trans rfl; have ko3 : w2.cell? ⟨w.heap.size + 1 + 1 + 1, 3, none⟩ = some (.int .i64 o.b) := (blk_cell HX.out.o 3).trans rfl)
              | (go_at_call 31; refine (isOp_calls o _ HOI.out).mono ?_; rintro e w3 ⟨rfl, hb⟩; rw [HQ.out]; have n0_ := Aside0.mk (BX.below HX.out hb); clear HX hb; have HX := n0_; clear n0_))
            go_meet
            exact ⟨rfl, ⟨HX.out⟩⟩
        · go_wp2_with (go_at_call 30; refine (isCall_calls x _).mono ?_; rintro e w2 ⟨rfl, hb⟩; rw [HP.out]; have n0_ := Aside0.mk (BX.below HX.out hb); clear HX hb; have HX := n0_; clear n0_)
          go_meet
          exact ⟨by rw [Bool.false_and], ⟨HX.out⟩⟩
      case rest =>
        obtain ⟨rfl, HH⟩ := hcut
        clear HX
        have HX := HH
        clear HH
        obtain ⟨tk, htk⟩ : ∃ tk, (pb && qb) = tk := ⟨_, rfl⟩
        rw [htk]
        rw [htk] at HTK
        clear htk HP HQ
        go_upto_if 112 with fail
        go_cut [112] from 185 (fun _ wx => Aside0 (BX w wx m A c s A1 c1 x o r))
        case first =>
          obtain rfl | rfl : tk = true ∨ tk = false := by cases tk <;> simp
          · have hv := dcd_iff.mp HTK.out
            have HV := Aside0.mk hv
            clear hv
            have kc0 : wc.cell? ⟨w.heap.size + 1 + 1, 0, none⟩ = some (.int .i64 x.f0) := (blk_cell HX.out.c 0).trans rfl
            have kc1 : wc.cell? ⟨w.heap.size + 1 + 1, 1, none⟩ = some (.int .i64 x.f1) := (blk_cell HX.out.c 1).trans rfl
            have ko0 : wc.cell? ⟨w.heap.size + 1 + 1 + 1, 0, none⟩ = some (.int .i64 o.kind) := (blk_cell HX.out.o 0).trans rfl
            have ko1 : wc.cell? ⟨w.heap.size + 1 + 1 + 1, 1, none⟩ = some (.string o.name) := (blk_cell HX.out.o 1).trans rfl
            have ko2 : wc.cell? ⟨w.heap.size + 1 + 1 + 1, 2, none⟩ = some (.int .i64 o.a) := (blk_cell HX.out.o 2).trans rfl
            have ko3 : wc.cell? ⟨w.heap.size + 1 + 1 + 1, 3, none⟩ = some (.int .i64 o.b) := (blk_cell HX.out.o 3).trans rfl
            go_upto_region 16 with (first
              | (go_at_call 32; refine (enc_req_right x o HV.out _).mono ?_; rintro e w3 ⟨A2, c2, rfl, hin, hb⟩; have HN := Aside0.mk hin; clear hin kc0 kc1 ko0 ko1 ko2 ko3; have n0_ := Aside0.mk (BX.below HX.out hb); clear HX hb; have HX := n0_; clear n0_)
              | (go_at_call 33; refine (dec_req_right x o HV.out _ A2 c2 HN.out).mono ?_; rintro e w4 ⟨rfl, hb⟩; have n0_ := Aside0.mk (BX.below HX.out hb); clear HX hb; have HX := n0_; clear n0_))
            obtain ⟨w5, hw5⟩ : ∃ w5, w5 = (w4.alloc (.cells #[.int .i64 x.f0, .int .i64 x.f1] 27 (0, 0))).alloc (.cells #[.int .i64 o.kind, .string o.name, .int .i64 o.a, .int .i64 o.b] 29 (0, 0)) := ⟨_, rfl⟩
            have HW5 := Aside0.mk hw5
            have H5 : Aside0 (Below w4.heap.size w4 w5 ∧ w5.heap[w4.heap.size]? = some (.cells #[.int .i64 x.f0, .int .i64 x.f1] 27 (0, 0)) ∧ w5.heap[w4.heap.size + 1]? = some (.cells #[.int .i64 o.kind, .string o.name, .int .i64 o.a, .int .i64 o.b] 29 (0, 0))) := ⟨by
              rw [hw5]
              exact ⟨below_al2 w4 _ _, two_blocks w4 _ _⟩⟩
            rw [← HW5.out]
            clear hw5 HW5
            have n0_ := Aside0.mk (BX.below HX.out H5.out.1)
            have BK := Aside0.mk H5.out.2
            clear HX H5 HN
            have HX := n0_
            clear n0_
            have kc0 : w5.cell? ⟨w.heap.size + 1 + 1, 0, none⟩ = some (.int .i64 x.f0) := (blk_cell HX.out.c 0).trans rfl
            have kc1 : w5.cell? ⟨w.heap.size + 1 + 1, 1, none⟩ = some (.int .i64 x.f1) := (blk_cell HX.out.c 1).trans rfl
            have ko0 : w5.cell? ⟨w.heap.size + 1 + 1 + 1, 0, none⟩ = some (.int .i64 o.kind) := (blk_cell HX.out.o 0).trans rfl
            have ko1 : w5.cell? ⟨w.heap.size + 1 + 1 + 1, 1, none⟩ = some (.string o.name) := (blk_cell HX.out.o 1).trans rfl
            have ko2 : w5.cell? ⟨w.heap.size + 1 + 1 + 1, 2, none⟩ = some (.int .i64 o.a) := (blk_cell HX.out.o 2).trans rfl
            have ko3 : w5.cell? ⟨w.heap.size + 1 + 1 + 1, 3, none⟩ = some (.int .i64 o.b) := (blk_cell HX.out.o 3).trans rfl
            have kd0 : w5.cell? ⟨w4.heap.size, 0, none⟩ = some (.int .i64 x.f0) := (blk_cell BK.out.1 0).trans rfl
            have kd1 : w5.cell? ⟨w4.heap.size, 1, none⟩ = some (.int .i64 x.f1) := (blk_cell BK.out.1 1).trans rfl
            have kp0 : w5.cell? ⟨w4.heap.size + 1, 0, none⟩ = some (.int .i64 o.kind) := (blk_cell BK.out.2 0).trans rfl
            have kp1 : w5.cell? ⟨w4.heap.size + 1, 1, none⟩ = some (.string o.name) := (blk_cell BK.out.2 1).trans rfl
            have kp2 : w5.cell? ⟨w4.heap.size + 1, 2, none⟩ = some (.int .i64 o.a) := (blk_cell BK.out.2 2).trans rfl
            have kp3 : w5.cell? ⟨w4.heap.size + 1, 3, none⟩ = some (.int .i64 o.b) := (blk_cell BK.out.2 3).trans rfl
            go_wp2_with fail
            all_goals go_meet
            all_goals exact ⟨HX.out⟩
          · go_wp2_with fail
            go_meet
            exact HX.out |> Aside0.mk
        case rest =>
          clear HX HTK
          have HX := hcut
          clear hcut
          obtain ⟨pb, hpb⟩ : ∃ pb, dcd (callV r.call) = pb := ⟨_, rfl⟩
          obtain ⟨tk, htk⟩ : ∃ tk, dcd (repV r) = tk := ⟨_, rfl⟩
          have HP := Aside0.mk hpb
          have HTK := Aside0.mk htk
          have HR4 : Aside0 (tk = (pb && (decide (0 ≤ r.err) && decide (r.err ≤ 255)))) := ⟨by
            rw [← htk, ← hpb]
            refine (bool_dcd ?_).symm
            simp only [Bool.and_eq_true, dcd_iff, decide_eq_true_iff]
            exact ⟨fun h => ⟨h.1, h.2, HRI.out⟩, fun h => ⟨h.1, h.2.1⟩⟩⟩
          clear hpb htk
          go_upto_region 18 with fail
          go_cut [158] from 185 (fun s158 wx => s158 = .bool tk ∧ Aside0 (BX w wx m A c s A1 c1 x o r))
          case first =>
            have kr0 : wc.cell? ⟨w.heap.size + 1 + 1 + 1 + 1, 0, none⟩ = some (.int .i64 r.call.f0) := (blk_cell HX.out.r 0).trans rfl
            have kr1 : wc.cell? ⟨w.heap.size + 1 + 1 + 1 + 1, 1, none⟩ = some (.int .i64 r.call.f1) := (blk_cell HX.out.r 1).trans rfl
            have kr2 : wc.cell? ⟨w.heap.size + 1 + 1 + 1 + 1, 2, none⟩ = some (.int .i64 r.err) := (blk_cell HX.out.r 2).trans rfl
            have kr3 : wc.cell? ⟨w.heap.size + 1 + 1 + 1 + 1, 3, none⟩ = some (.int .i64 r.value) := (blk_cell HX.out.r 3).trans rfl
            obtain rfl | rfl : pb = true ∨ pb = false := by cases pb <;> simp
            all_goals
              go_wp2_with (go_at_call 30; refine (isCall_calls r.call _).mono ?_; rintro e w2 ⟨rfl, hb⟩; rw [HP.out]; have n0_ := Aside0.mk (BX.below HX.out hb); clear HX hb; have HX := n0_; clear n0_; clear kr0 kr1 kr2 kr3; have kr2 : w2.cell? ⟨w.heap.size + 1 + 1 + 1 + 1, 2, none⟩ = some (.int .i64 r.err) := (blk_cell HX.out.r 2).trans rfl)
              all_goals go_meet
              all_goals exact ⟨by rw [HR4.out]; first | (simp [*]; done) | (simp [*]; omega), ⟨HX.out⟩⟩
          case rest =>
            obtain ⟨rfl, HH⟩ := hcut
            clear HX HP HR4
            have HX := HH
            clear HH
            go_upto_if 158 with fail
            go_cut [158] from 185 (fun _ wx => Aside0 (BX w wx m A c s A1 c1 x o r))
            case first =>
              obtain rfl | rfl : tk = true ∨ tk = false := by cases tk <;> simp
              · have hv := dcd_iff.mp HTK.out
                have HV := Aside0.mk hv
                clear hv
                have kr0 : wc.cell? ⟨w.heap.size + 1 + 1 + 1 + 1, 0, none⟩ = some (.int .i64 r.call.f0) := (blk_cell HX.out.r 0).trans rfl
                have kr1 : wc.cell? ⟨w.heap.size + 1 + 1 + 1 + 1, 1, none⟩ = some (.int .i64 r.call.f1) := (blk_cell HX.out.r 1).trans rfl
                have kr2 : wc.cell? ⟨w.heap.size + 1 + 1 + 1 + 1, 2, none⟩ = some (.int .i64 r.err) := (blk_cell HX.out.r 2).trans rfl
                have kr3 : wc.cell? ⟨w.heap.size + 1 + 1 + 1 + 1, 3, none⟩ = some (.int .i64 r.value) := (blk_cell HX.out.r 3).trans rfl
                go_upto_region 21 with (first
                  | (go_at_call 34; refine (enc_rep_right r HV.out _).mono ?_; rintro e w3 ⟨A2, c2, rfl, hin, hb⟩; have HN := Aside0.mk hin; clear hin kr0 kr1 kr2 kr3; have n0_ := Aside0.mk (BX.below HX.out hb); clear HX hb; have HX := n0_; clear n0_)
                  | (go_at_call 35; refine (dec_rep_right r HV.out _ A2 c2 HN.out).mono ?_; rintro e w4 ⟨rfl, hb⟩; have n0_ := Aside0.mk (BX.below HX.out hb); clear HX hb; have HX := n0_; clear n0_))
                obtain ⟨w5, hw5⟩ : ∃ w5, w5 = w4.alloc (.cells #[.int .i64 r.call.f0, .int .i64 r.call.f1, .int .i64 r.err, .int .i64 r.value] 50 (0, 0)) := ⟨_, rfl⟩
                have HW5 := Aside0.mk hw5
                have H5 : Aside0 (Below w4.heap.size w4 w5 ∧ w5.heap[w4.heap.size]? = some (.cells #[.int .i64 r.call.f0, .int .i64 r.call.f1, .int .i64 r.err, .int .i64 r.value] 50 (0, 0))) := ⟨by
                  rw [hw5]
                  exact ⟨al_below w4 _, heap_alloc_new w4 _⟩⟩
                rw [← HW5.out]
                clear hw5 HW5
                have n0_ := Aside0.mk (BX.below HX.out H5.out.1)
                have BK := Aside0.mk H5.out.2
                clear HX H5 HN
                have HX := n0_
                clear n0_
                have kr0 : w5.cell? ⟨w.heap.size + 1 + 1 + 1 + 1, 0, none⟩ = some (.int .i64 r.call.f0) := (blk_cell HX.out.r 0).trans rfl
                have kr1 : w5.cell? ⟨w.heap.size + 1 + 1 + 1 + 1, 1, none⟩ = some (.int .i64 r.call.f1) := (blk_cell HX.out.r 1).trans rfl
                have kr2 : w5.cell? ⟨w.heap.size + 1 + 1 + 1 + 1, 2, none⟩ = some (.int .i64 r.err) := (blk_cell HX.out.r 2).trans rfl
                have kr3 : w5.cell? ⟨w.heap.size + 1 + 1 + 1 + 1, 3, none⟩ = some (.int .i64 r.value) := (blk_cell HX.out.r 3).trans rfl
                have kq0 : w5.cell? ⟨w4.heap.size, 0, none⟩ = some (.int .i64 r.call.f0) := (blk_cell BK.out 0).trans rfl
                have kq1 : w5.cell? ⟨w4.heap.size, 1, none⟩ = some (.int .i64 r.call.f1) := (blk_cell BK.out 1).trans rfl
                have kq2 : w5.cell? ⟨w4.heap.size, 2, none⟩ = some (.int .i64 r.err) := (blk_cell BK.out 2).trans rfl
                have kq3 : w5.cell? ⟨w4.heap.size, 3, none⟩ = some (.int .i64 r.value) := (blk_cell BK.out 3).trans rfl
                go_wp2_with fail
                all_goals go_meet
                all_goals exact ⟨HX.out⟩
              · go_wp2_with fail
                go_meet
                exact HX.out |> Aside0.mk
            case rest =>
              clear HX HTK
              have HX := hcut
              clear hcut
              go_wp2_with fail
              go_ret
              exact ⟨rfl, HX.out.bel⟩
end Go.Proofs.Ytpgdmmjbhjbbhaa.Lw
end
