/- texts that the proof needs, laid together by a program of this session. -/
import Derived.Test.YtpgdmmjbhjbbhaaKWireCut14
section
namespace Go.Proofs.Ytpgdmmjbhjbbhaa.Lw
open Go Go.RowKit Go.Proofs.Ytpgdmmjbhjbbhaa.P Go.Proofs.Ytpgdmmjbhjbbhaa.Sp Go.Proofs.Ytpgdmmjbhjbbhaa.Vd Go.Proofs.Ytpgdmmjbhjbbhaa.En Go.Proofs.Ytpgdmmjbhjbbhaa.Wr Go.Proofs.Ytpgdmmjbhjbbhaa.Rd Go.Proofs.Ytpgdmmjbhjbbhaa.Rf Go.Proofs.YtpgdmmjbhjbbhaaW.PrintWords Go.Proofs.YtpgdmmjbhjbbhaaW.PrintLast Go.Proofs.YtpgdmmjbhjbbhaaW.PrintMore
set_option linter.unusedVariables false
set_option linter.unusedSimpArgs false
/-- b's bytes, more's bytes, the message's box, and what was there. -/
structure CX (w W : World) (m : Msg) (A : Option Addr) (c : Nat) (A3 : Option Addr) (c3 : Nat) (B : List Int) (A2 : Option Addr) (c2 : Nat) (more : List Int) : Prop where
  bel : Below w.heap.size w W
  m : W.heap[w.heap.size]? = some (.cells (MVc m A c) 33 (0, 0))
  b : In W A3 c3 B
  more : In W A2 c2 more
theorem CX.below {w W W1 : World} {m : Msg} {A : Option Addr} {c : Nat} {A3 : Option Addr} {c3 : Nat} {B : List Int} {A2 : Option Addr} {c2 : Nat} {more : List Int} (h : CX w W m A c A3 c3 B A2 c2 more) (k : Below W.heap.size W W1) : CX w W1 m A c A3 c3 B A2 c2 more :=
  ⟨below_step h.bel k, blk_keep k h.m, In.below h.b k, In.below h.more k⟩
set_option maxHeartbeats 8000000 in
set_option maxRecDepth 100000 in
theorem cut_walk (w : World) (m : Msg) (A : Option Addr) (c : Nat) (n1 : Int) (A2 : Option Addr) (c2 : Nat) (more : List Int) (n3 tb : Int)
    (hmI : isI m.op.a ∧ isI m.op.b) (hmk : isI m.kind) (hme : isI m.err) (hmv : Ow.VIn w A c m.views) (h1 : isI n1) (hi2 : In w A2 c2 more) (hl2 : more.length ≤ 140737488351232) (h3 : isI n3) (h4 : 0 ≤ tb ∧ tb ≤ 255) :
    Calls Try.prog 5 #[.agg (MVc m A c), .int .i64 n1, .slice A2 more.length c2, .int .i64 n3, .int .u8 tb] w fun e w' => e = .returned (.bool true) ∧ Below w.heap.size w w' := by
  have HI := Aside0.mk hmI
  have HV0 := Aside0.mk (And.intro hmv.1 hmv.2.1)
  have H1 := Aside0.mk h1
  have H3 := Aside0.mk h3
  have HM := Aside0.mk hi2
  have HT := Aside0.mk h4
  have hml : (more.length : Int) ≤ 9223372036854775807 := by have := hi2.len; omega
  have hm0 : (0 : Int) ≤ (more.length : Int) := by omega
  clear hmI hmk hme hmv h1 hi2 hl2 h3 h4
  have hu33 := Try.underlying33
  have hu23 := Try.underlying23
  have hu25 := Try.underlying25
  have hu27 := Try.underlying27
  have hu29 := Try.underlying29
  obtain ⟨wa, hwa⟩ : ∃ wa, wa = w.alloc (.cells (MVc m A c) 33 (0, 0)) := ⟨_, rfl⟩
  have HWA := Aside0.mk hwa
  have HX : Aside0 (Below w.heap.size w wa ∧ wa.heap[w.heap.size]? = some (.cells (MVc m A c) 33 (0, 0))) := ⟨by rw [hwa]; exact ⟨al_below w _, heap_alloc_new w _⟩⟩
  clear hwa
  obtain ⟨tk, htk⟩ : ∃ tk, dcd (msgV m) = tk := ⟨_, rfl⟩
  have HTK := Aside0.mk htk
  clear htk
  obtain rfl | rfl : tk = false ∨ tk = true := by cases tk <;> simp
  · go_enter Try.func5, Try.ntmps5
    go_upto_region 1 with fail
    rw [← HWA.out]
    go_wp2_with (first
      | (go_at_call 12; refine (able_calls _).mono ?_; rintro e w1 ⟨rfl, hb⟩; have n0_ := Aside0.mk (And.intro (below_step HX.out.1 hb) (blk_keep hb HX.out.2)); clear HX hb; have HX := n0_; clear n0_)
      | ((with_reducible refine gate_dst (N := 24) rfl ?_); refine wpList_load_row rfl 33 (.tmp 5) rfl (w.heap.size) (by rfl) 33 (MVc m A c) (0, 0) _ HX.out.2 Try.underlying33 rfl inf33 ?_)
      | (go_at_call 15; refine (rvalid_calls m HI.out A c _ (Kd.C_below HV0.out.1 HX.out.1) HV0.out.2).mono ?_; rintro e w2 ⟨rfl, hb⟩; rw [HTK.out]; have n0_ := Aside0.mk (And.intro (below_step HX.out.1 hb) (blk_keep hb HX.out.2)); clear HX hb; have HX := n0_; clear n0_))
    go_ret
    exact ⟨rfl, HX.out.1⟩
  have hv := dcd_iff.mp HTK.out
  have HV := Aside0.mk hv
  obtain ⟨B, hB⟩ : ∃ B, msgB m = B := ⟨_, rfl⟩
  have hpos := msg_pos m
  have hle := msg_len hv
  have HIB : Aside0 (IsB B) := ⟨hB ▸ b_msg m⟩
  rw [hB] at hpos hle
  have HBE := Aside0.mk hB
  have HPOS := Aside0.mk (And.intro hpos (show B.length ≤ 1000000 by omega))
  have hN0 : ((B.length : Int) == 0) = false := by simp; intro h; rw [h] at hpos; simp at hpos
  have hNl : (B.length : Int) ≤ 1000000 := by omega
  have hNn : (0 : Int) ≤ (B.length : Int) := by omega
  clear hv hB hpos hle
  go_enter Try.func5, Try.ntmps5
  go_upto_region 1 with fail
  rw [← HWA.out]
  go_upto_region 8 with (first
    | (go_at_call 12; refine (able_calls _).mono ?_; rintro e w1 ⟨rfl, hb⟩; have n0_ := Aside0.mk (And.intro (below_step HX.out.1 hb) (blk_keep hb HX.out.2)); clear HX hb; have HX := n0_; clear n0_)
    | ((with_reducible refine gate_dst (N := 24) rfl ?_); refine wpList_load_row rfl 33 (.tmp 5) rfl (w.heap.size) (by rfl) 33 (MVc m A c) (0, 0) _ HX.out.2 Try.underlying33 rfl inf33 ?_)
    | (go_at_call 15; refine (rvalid_calls m HI.out A c _ (Kd.C_below HV0.out.1 HX.out.1) HV0.out.2).mono ?_; rintro e w2 ⟨rfl, hb⟩; rw [HTK.out]; have n0_ := Aside0.mk (And.intro (below_step HX.out.1 hb) (blk_keep hb HX.out.2)); clear HX hb; have HX := n0_; clear n0_)
    | ((with_reducible refine gate_dst (N := 28) rfl ?_); refine wpList_load_row rfl 33 (.tmp 5) rfl (w.heap.size) (by rfl) 33 (MVc m A c) (0, 0) _ HX.out.2 Try.underlying33 rfl inf33 ?_)
    | (go_at_call 16; refine (enc_took m B HV.out HBE.out HIB.out A c _ ⟨Kd.C_below HV0.out.1 HX.out.1, HV0.out.2⟩).mono ?_; rintro e w3 ⟨A3, c3, rfl, hin, hb⟩; have hc3 : (B.length : Int) ≤ (c3 : Int) := (by have := hin.cap; omega); have n0_ : Aside0 (CX w w3 m A c A3 c3 B A2 c2 more) := ⟨⟨below_step HX.out.1 hb, blk_keep hb HX.out.2, hin, In.below (In.below HM.out HX.out.1) hb⟩⟩; clear HX hb hin; have HX := n0_; clear n0_))
  go_upto_region 10 with (first
    | (refine wpList_store_row rfl 33 (.tmp 13) (.tmp 48) rfl w5.heap.size (MVc zMsg A4 c4) (by rfl) (by rfl) 33 _ HR5.out inf33 rfl (mv_one _ _ _) ?_)
    | (go_at_call 17; refine (within_nat n1 B.length H1.out HPOS.out.1 HPOS.out.2 _).mono ?_; rintro e w4 ⟨k, hk, rfl, hb⟩; have hk0 : (0 : Int) ≤ (k : Int) := (by omega); have hkc : (k : Int) ≤ (c3 : Int) := (by omega); have HK := Aside0.mk hk; clear hk; have n0_ := Aside0.mk (CX.below HX.out hb); clear HX hb; have HX := n0_; clear n0_)
    | (go_at_call 18; refine (dec_val _ _ _ k (B.take k) (in_take HX.out.b (Nat.le_of_lt HK.out)) (by rw [List.length_take]; have := HK.out; omega) zMsg k 20 (by rw [← HBE.out]; exact whole_cut HV.out (by rw [HBE.out]; exact HK.out))).mono ?_; rintro e w5 ⟨A4, c4, rfl, hb⟩; have HR5 := Aside0.mk (heap_alloc_new w5 (.cells (MVc zMsg none 0) 33 (0, 0))); have n0_ := Aside0.mk (CX.below HX.out hb); clear HX hb; have HX := n0_; clear n0_))
  obtain ⟨w6, hw6⟩ : ∃ w6, w6 = (w5.alloc (.cells (MVc zMsg none 0) 33 (0, 0))).setRow w5.heap.size (MVc zMsg A4 c4) := ⟨_, rfl⟩
  have HW6 := Aside0.mk hw6
  rw [mv_zero] at HW6
  have n0_ : Aside0 (CX w w6 m A c A3 c3 B A2 c2 more) := ⟨CX.below HX.out (by rw [hw6]; exact below_setRow (al_below _ _) (Nat.le_refl _) _)⟩
  rw [← HW6.out]
  clear hw6 HW6 HR5 HX
  have HX := n0_
  clear n0_
  go_upto_region 14 with (go_at_call 19; refine (lent_calls A3 c3 B _ HX.out.b.row (by have := HPOS.out.2; omega)).mono ?_; rintro e w7 ⟨v, rfl, hR, hb⟩; obtain ⟨g7, cap7, rfl, hg7, hc7, hR7⟩ := lent_own hR; have hc7i : (B.length : Int) ≤ (cap7 : Int) := (by omega); have HR7 := Aside0.mk (And.intro hR7 hb); clear hR hg7 hc7 hR7 hb)
  go_loopw [16, 17] (fun v16 v17 wr => ∃ (i : Nat) (A8 : Option Addr) (c8 : Nat), v17 = .int .i64 (i : Int) ∧ v16 = .slice A8 (B.length + i) c8 ∧ Aside0 (i ≤ more.length ∧ i ≤ 40 ∧ Kd.R (Kd.int .u8) 5 wr w6.heap.size (fun _ => True) (.slice A8 (B.length + i) c8) (B ++ more.take i) ∧ Below w6.heap.size w6 wr)) (fun _ v17 _ => more.length - (intOf v17).toNat)
  case atStart => exact ⟨0, _, _, rfl, rfl, ⟨Nat.zero_le _, Nat.zero_le _, by rw [List.take_zero, List.append_nil]; exact HR7.out.1, HR7.out.2⟩⟩
  case round =>
    clear HR7 hc7i
    obtain ⟨i, A8, c8, rfl, rfl, HQ⟩ := hrel
    by_cases hlt : i < more.length ∧ i < 40
    · have hi0 : (0 : Int) ≤ (i : Int) := by omega
      have hi1 : (i : Int) < (more.length : Int) := by omega
      have hi2 : (i : Int) < 40 := by omega
      have HLT := Aside0.mk hlt
      obtain ⟨ad, had, q0⟩ := Kd.at_int (Kd.C_below HX.out.more.row HQ.out.2.2.2) (i : Int) hi0 hi1
      subst had
      simp only [Int.toNat_natCast] at q0
      obtain ⟨y, hy⟩ : ∃ y, rd more (i : Int) = y := ⟨_, rfl⟩
      rw [hy] at q0
      have HY := Aside0.mk hy
      clear hlt hy
      have HC : Aside0 (Kd.C (Kd.int .u8) (wr.alloc (.cells #[.int .u8 y] 5)) (some ⟨wr.heap.size, 0, none⟩) 1 [y]) := ⟨lit_row (l := [y]) (heap_alloc_new wr _) rfl (by simp)⟩
      have HS : Aside0 (w6.heap.size ≤ (wr.alloc (.cells #[.int .u8 y] 5)).heap.size) := ⟨by have := HQ.out.2.2.2.size; simp; omega⟩
      have HZ : Aside0 ((B ++ more.take i).length + 1 ≤ 140737488355328) := ⟨by rw [List.length_append, List.length_take]; have := HPOS.out.2; have := HLT.out; omega⟩
      have HRA : Aside0 (Kd.R (Kd.int .u8) 5 (wr.alloc (.cells #[.int .u8 y] 5)) w6.heap.size (fun _ => True) (.slice A8 (B.length + i) c8) (B ++ more.take i)) := ⟨Kd.R_below HQ.out.2.2.1 (al_below _ _)⟩
      have HBA : Aside0 (Below w6.heap.size w6 (wr.alloc (.cells #[.int .u8 y] 5))) := ⟨below_alloc HQ.out.2.2.2 _⟩
      go_wp2_with (refine Kd.R_append_row (Value.int .u8) (0 : Int) (h1 := fun _ => rfl) (w0 := w6) w6.heap.size rfl (.tmp 73) (.tmp 78) 36 5 (.int .u8 0) 1 rfl Try.underlying36 inf8 rfl (by omega) (.slice A8 (B.length + i) c8) (B ++ more.take i) [y] (some ⟨wr.heap.size, 0, none⟩) 1 1 (fun _ => True) rfl rfl (fun _ _ => trivial) HRA.out HC.out HBA.out HS.out (by have := HZ.out; omega) ?_; intro v2 w2 hR2 hB2 hg2 hat2; have HR2 := Aside0.mk (And.intro hR2 hB2); clear hR2 hB2 hg2 hat2)
      go_roundw
      case rel =>
        obtain ⟨A9, c9, e9, _⟩ := Kd.R_reads HR2.out.1
        have hl9 : (B ++ more.take i ++ [y]).length = B.length + (i + 1) := by simp only [List.length_append, List.length_take, List.length_singleton]; have := HLT.out; omega
        rw [hl9] at e9
        subst e9
        refine ⟨i + 1, A9, c9, by go_num, rfl, ⟨by have := HLT.out; omega, by have := HLT.out; omega, ?_, HR2.out.2⟩⟩
        have ht : more.take (i + 1) = more.take i ++ [y] := by
          have hlm : i < more.length := HLT.out.1
          rw [List.take_succ_eq_append_getElem hlm, ← HY.out]
          simp [rd, List.getD_eq_getElem?_getD, List.getElem?_eq_getElem hlm]
        rw [ht, ← List.append_assoc]
        exact HR2.out.1
      case measure => simp only [intOf]; have := HLT.out; first | omega | (go_num; omega) | (simp; omega)
    · have hlt2 : ¬ ((i : Int) < (more.length : Int) ∧ (i : Int) < 40) := by omega
      have HLT := Aside0.mk hlt
      have hli0 : (0 : Int) ≤ (i : Int) := by omega
      obtain ⟨A9, c9, e9, hin9⟩ := in_of_R HQ.out.2.2.1 (b_app HIB.out (fun x hx => HM.out.isB x (List.mem_of_mem_take hx)))
      have hl9 : (B ++ more.take i).length = B.length + i := by rw [List.length_append, List.length_take]; have := HQ.out.1; omega
      rw [hl9] at e9
      obtain ⟨rfl, _, rfl⟩ := Value.slice.inj e9
      have HIN := Aside0.mk hin9
      have HL9 := Aside0.mk hl9
      clear hl9 e9 hin9 hlt
      have n0_ : Aside0 (CX w wr m A c A3 c3 B A2 c2 more) := ⟨CX.below HX.out HQ.out.2.2.2⟩
      have HIL : Aside0 (i ≤ 40) := ⟨HQ.out.2.1⟩
      clear HX HQ
      have HX := n0_
      clear n0_
      have HD : Aside0 (∃ x p er, whole zMsg msgP (B ++ more.take i) = (x, p, er) ∧ ((i = 0 ∧ er = 0) ∨ (0 < i ∧ p = (B.length : Int) ∧ er = 20))) := ⟨by
        by_cases h0 : i = 0
        · subst h0
          rw [List.take_zero, List.append_nil, ← HBE.out]
          exact ⟨m, 0, 0, whole_back msgP_codec zMsg HV.out, .inl ⟨rfl, rfl⟩⟩
        · refine ⟨zMsg, B.length, 20, ?_, .inr ⟨by omega, rfl, rfl⟩⟩
          rw [← HBE.out]
          refine whole_more HV.out _ (fun h => ?_)
          have := congrArg List.length h
          have h5 := HL9.out
          rw [List.length_append] at h5
          rw [List.length_nil] at this
          omega⟩
      obtain ⟨x9, p9, er9, hw9, hcase⟩ := HD.out
      have HW9 := Aside0.mk hw9
      clear hw9 HD

      rcases (show ¬ ((i : Int) < (more.length : Int)) ∨ ((i : Int) < (more.length : Int) ∧ ¬ ((i : Int) < 40)) by omega) with hA | ⟨hA, hA2⟩
      all_goals clear hlt2
      all_goals rcases hcase with ⟨hz, rfl⟩ | ⟨hz, rfl, rfl⟩
      all_goals (try (exfalso; omega))
      all_goals first | (have hzi : (i : Int) ≤ 0 := (by omega); clear hz) | (have hzi : (0 : Int) < (i : Int) := (by omega); clear hz)
      all_goals
        go_upto_region 20 with (go_at_call 18; refine (dec_val _ A8 c8 (B.length + i) (B ++ more.take i) HIN.out HL9.out x9 _ _ HW9.out).mono ?_; rintro e w8 ⟨A10, c10, rfl, hb⟩; have n0_ := Aside0.mk (CX.below HX.out hb); clear HX hb; have HX := n0_; clear n0_)
        clear HIN HL9 HW9 HLT
        go_upto_region 21 with (go_at_call 17; refine (within_nat n3 B.length H3.out HPOS.out.1 HPOS.out.2 _).mono ?_; rintro e w9 ⟨k2, hk2, rfl, hb⟩; have hk20 : (0 : Int) ≤ (k2 : Int) := (by omega); have hk21 : (k2 : Int) < (B.length : Int) := (by omega); have HK2 := Aside0.mk hk2; clear hk2; have n0_ := Aside0.mk (CX.below HX.out hb); clear HX hb; have HX := n0_; clear n0_)
        obtain ⟨ad3, had3, q3⟩ := Kd.at_int HX.out.b.row (k2 : Int) hk20 hk21
        subst had3
        simp only [Int.toNat_natCast] at q3
        obtain ⟨y3, hy3⟩ : ∃ y3, rd B (k2 : Int) = y3 := ⟨_, rfl⟩
        rw [hy3] at q3
        have HY3 := Aside0.mk hy3
        clear hy3
        by_cases hto : y3 = tb
        · have htob : (y3 == tb) = true := by simp [hto]
          clear hto
          go_wp2_with fail
          go_ret
          exact ⟨rfl, HX.out.bel⟩
        · have HTO := Aside0.mk hto
          have htob : (y3 == tb) = false := by simp [hto]
          clear hto
          go_upto_region 24 with (go_at_call 19; refine (lent_calls (some ad3) c3 B _ HX.out.b.row (by have := HPOS.out.2; omega)).mono ?_; rintro e w11 ⟨v, rfl, hR, hb⟩; obtain ⟨g11, cap11, rfl, hg11, hc11, hR11⟩ := lent_own hR; have hc11i : (B.length : Int) ≤ (cap11 : Int) := (by omega); have HR11 := Aside0.mk (And.intro hR11 (And.intro hb hg11)); clear hR hg11 hc11 hR11 hb)
          obtain ⟨kc, kf⟩ := Kd.R_celln (h1 := fun _ => rfl) (0 : Int) HR11.out.1 (k2 : Int) hk20 hk21
          simp only [Int.toNat_natCast] at kc kf
          go_upto_region 25 with fail
          clear kc kf q3 htob
          obtain ⟨w12, hw12⟩ : ∃ w12, w12 = w11.setCell ⟨g11, k2, none⟩ (.int .u8 tb) := ⟨_, rfl⟩
          have HW12 := Aside0.mk hw12
          have H12 : Aside0 (Kd.R (Kd.int .u8) 5 w12 w9.heap.size (fun _ => True) (.slice (some ⟨g11, 0, none⟩) B.length cap11) (B.set k2 tb) ∧ Below w9.heap.size w9 w12) := ⟨by
            rw [hw12]
            have h8 := Kd.R_putn (h1 := fun _ => rfl) HR11.out.1 (k2 : Int) tb
            simp only [Int.toNat_natCast] at h8
            exact ⟨h8, Below.setCell HR11.out.2.1 HR11.out.2.2 _⟩⟩
          rw [← HW12.out]
          clear hw12 HW12 HR11
          have n0_ : Aside0 (CX w w12 m A c (some ad3) c3 B A2 c2 more) := ⟨CX.below HX.out H12.out.2⟩
          clear HX
          have HX := n0_
          clear n0_
          have HIT : Aside0 (In w12 (some ⟨g11, 0, none⟩) cap11 (B.set k2 tb) ∧ (B.set k2 tb).length = B.length) := ⟨by
            obtain ⟨A9, c9, e9, hin9⟩ := in_of_R H12.out.1 (isB_set HIB.out k2 HT.out)
            rw [List.length_set] at e9
            obtain ⟨rfl, _, rfl⟩ := Value.slice.inj e9
            exact ⟨hin9, List.length_set⟩⟩
          go_upto_region 26 with (first
            | (refine wpList_store_row rfl 33 (.tmp 19) (.tmp 134) rfl w13.heap.size (MVc x A1 c1) (by rfl) (by rfl) 33 _ HR13.out inf33 rfl (mv_one _ _ _) ?_)
            | (go_at_call 18; refine (dec_onen _ _ _ B.length (B.set k2 tb) HIT.out.1 HIT.out.2).mono ?_; rintro e w13 ⟨x, p, er, A1, c1, rfl, ht, hC, hb⟩; have HTK2 := Aside0.mk ht; have HC := Aside0.mk hC; have HR13 := Aside0.mk (heap_alloc_new w13 (.cells (MVc zMsg none 0) 33 (0, 0))); clear ht hC; have n0_ := Aside0.mk (CX.below HX.out hb); clear HX hb; have HX := n0_; clear n0_))
          obtain ⟨w14, hw14⟩ : ∃ w14, w14 = (w13.alloc (.cells (MVc zMsg none 0) 33 (0, 0))).setRow w13.heap.size (MVc x A1 c1) := ⟨_, rfl⟩
          have HW14 := Aside0.mk hw14
          rw [mv_zero] at HW14
          have H14 : Aside0 (Below w13.heap.size w13 w14 ∧ w14.heap[w13.heap.size]? = some (.cells (MVc x A1 c1) 33 (0, 0))) := ⟨by
            exact ⟨by rw [hw14]; exact below_setRow (al_below _ _) (Nat.le_refl _) _, by rw [hw14]; exact setRow_blk HR13.out _⟩⟩
          rw [← HW14.out]
          clear hw14 HW14 HR13
          have n0_ : Aside0 (CX w w14 m A c (some ad3) c3 B A2 c2 more) := ⟨CX.below HX.out H14.out.1⟩
          have BK := Aside0.mk H14.out.2
          have HC5 : Aside0 (Kd.C k87 w14 A1 x.views.length x.views ∧ x.views.length ≤ c1) := ⟨Kd.C_below HC.out.1 H14.out.1, HC.out.2⟩
          clear HX H14 HC
          have HX := n0_
          clear n0_
          obtain ⟨rfl, hp0, hx1, hx2⟩ | ⟨rfl, _, _, _⟩ := HTK2.out
          · have HVX := Aside0.mk hx1
            have HNE : Aside0 (dcd (x = m) = false) := ⟨dcd_neg (fun h => by
              subst h
              rw [HBE.out] at hx2
              exact set_ne HK2.out (by rw [HY3.out]; exact HTO.out) hx2.symm)⟩
            clear hp0 hx1 hx2
            go_wp2_with (first
              | ((with_reducible refine gate_dst (N := 143) rfl ?_); refine gate_guard (by kernel_rfl) ?_; refine wpList_load_row rfl 33 (.tmp 19) rfl w13.heap.size (by rfl) 33 (MVc x A1 c1) (0, 0) _ BK.out Try.underlying33 rfl inf33 ?_)
              | ((with_reducible refine gate_dst (N := 144) rfl ?_); refine gate_guard (by kernel_rfl) ?_; refine wpList_load_row rfl 33 (.tmp 5) rfl (w.heap.size) (by rfl) 33 (MVc m A c) (0, 0) _ HX.out.m Try.underlying33 rfl inf33 ?_)
              | ((with_reducible refine gate_dst (N := 149) rfl ?_); refine gate_guard (by kernel_rfl) ?_; refine wpList_load_row rfl 33 (.tmp 19) rfl w13.heap.size (by rfl) 33 (MVc x A1 c1) (0, 0) _ BK.out Try.underlying33 rfl inf33 ?_)
              | (go_at_call 20; refine (same_calls x m A1 c1 A c _ HC5.out.1 HC5.out.2 (Kd.C_below HV0.out.1 HX.out.bel) HV0.out.2).mono ?_; rintro e w15 ⟨rfl, hb⟩; rw [HNE.out]; have n1_ := Aside0.mk (blk_keep hb BK.out); have n2_ : Aside0 (Kd.C k87 w15 A1 x.views.length x.views ∧ x.views.length ≤ c1) := ⟨Kd.C_below HC5.out.1 hb, HC5.out.2⟩; clear BK HC5; have BK := n1_; have HC5 := n2_; clear n1_ n2_; have n0_ := Aside0.mk (CX.below HX.out hb); clear HX hb; have HX := n0_; clear n0_)
              | (go_at_call 21; refine (val_right x HVX.out A1 c1 _ HC5.out).mono ?_; rintro e w16 ⟨rfl, hb⟩; have n0_ := Aside0.mk (CX.below HX.out hb); clear HX hb; have HX := n0_; clear n0_))
            go_ret
            exact ⟨rfl, HX.out.bel⟩
          · go_wp2_with fail
            go_ret
            exact ⟨rfl, HX.out.bel⟩
end Go.Proofs.Ytpgdmmjbhjbbhaa.Lw
end
