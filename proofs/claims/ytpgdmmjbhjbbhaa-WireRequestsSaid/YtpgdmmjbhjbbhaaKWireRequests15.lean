/- texts that the proof needs, laid together by a program of this session. -/
import Derived.Test.YtpgdmmjbhjbbhaaKWireRequests14
section
namespace Go.Proofs.Ytpgdmmjbhjbbhaa.P
open Go.RowKit Go.Proofs.YtpgdmmjbhjbbhaaW.PrintWords Go.Proofs.YtpgdmmjbhjbbhaaW.PrintLast Go.Proofs.YtpgdmmjbhjbbhaaW.PrintMore
attribute [local go_sem] Go.Proofs.Ytpgdmmjbhjbbhaa.StrLe.leq_str Go.Proofs.Ytpgdmmjbhjbbhaa.StrLe.gtr_str
attribute [local go_sem] max2_int min2_int max_two min_two max_three min_three max_four min_four   -- for this text's walks alone
set_option linter.unusedVariables false
set_option linter.unusedSimpArgs false

def sluiceref2_reader_done.f (s0_0 : List Int) (s0_1 : Int) (s0_2 : Bool) : Option (Int × Int × Int × Bool) := if s0_2 = true then (some (s0_1, 20, s0_1, s0_2)) else (if s0_1 < (s0_0.length : Int) then (some (s0_1, 20, s0_1, s0_2)) else (some (0, 0, s0_1, s0_2)))
set_option maxHeartbeats 8000000 in
set_option maxRecDepth 100000 in
theorem sluiceref2_reader_done.calls (g : Nat) (s0_0 : List Int) (s0_1 : Int) (s0_2 : Bool) (r1 : Int) (r2 : Int) (r3 : Int) (r4 : Bool) (w0 w : World) (hI : IsS132 w0 w g s0_0 s0_1 s0_2) (hB : Below w0.heap.size w0 w) (h : sluiceref2_reader_done.f s0_0 s0_1 s0_2 = some (r1, r2, r3, r4)) :
    Calls Try.prog 93 #[.pointer (some ⟨g, 0, none⟩)] w fun e w' => e = .returned (.tuple #[.int .i64 r1, .int .i64 r2]) ∧ IsS132 w0 w' g s0_0 r3 r4 ∧ Below w0.heap.size w0 w' ∧ KeepBut w w' g none := by
  have HI0 := Aside0.mk hI
  have HK := Aside0.mk (KeepBut.refl w g none)
  have HL := Aside0.mk hB.size
  clear hI
  have HW0 := Aside0.mk hB.size
  have HB := Aside0.mk hB
  clear hB
  have H : (if s0_2 = true then (some (s0_1, 20, s0_1, s0_2)) else (if s0_1 < (s0_0.length : Int) then (some (s0_1, 20, s0_1, s0_2)) else (some (0, 0, s0_1, s0_2)))) = some (r1, r2, r3, r4) := h
  clear h
  by_cases c2 : s0_2 = true
  · subst c2
    have H1 : (some (s0_1, 20, s0_1, true)) = some (r1, r2, r3, r4) := by rw [if_pos rfl] at H; exact H
    clear H
    have H := H1
    clear H1
    simp only [Option.some.injEq, Prod.mk.injEq] at H
    obtain ⟨rfl, rfl, rfl, rfl⟩ := H
    obtain ⟨ASz3_0, cSz3_0, HGz3, hgz3, HSz3_0⟩ := HI0.out
    have hcz3_0 := cellS132_0 HGz3
    have hcz3_1 := cellS132_1 HGz3
    have hcz3_2 := cellS132_2 HGz3
    have hfz3_1 := blk_frozen HGz3 1
    have hfz3_2 := blk_frozen HGz3 2
    clear HGz3 hgz3
    go_enter Try.func93, Try.ntmps93
    go_wp2
    repeat (go_quiet (fail); try go_wp2)
    go_ret2
    exact ⟨by first | rfl | (simp [errW_none, errW_some] <;> rfl) | (simp [*, errW_none, errW_some] <;> rfl), by repeat (first | (with_reducible first | exact HI0.out | apply IsS132.alloc | apply IsS132.drewN | apply IsS132.drew | apply IsS132.set_1 | apply IsS132.set_2) | exact HI0.out), by repeat (first | (with_reducible first | exact HB.out | apply below_alloc | apply pw_below_drewN | apply below_drew1 | refine below_set ?_ (IsS132.ge HI0.out)) | exact HB.out), by repeat (first | (with_reducible first | exact HK.out | apply KeepBut.set_ | apply keep_drewN | apply keep_drew | apply keep_alloc) | exact HK.out)⟩
  · replace c2 := Bool.eq_false_iff.mpr c2
    subst c2
    have H1 : (if s0_1 < (s0_0.length : Int) then (some (s0_1, 20, s0_1, false)) else (some (0, 0, s0_1, false))) = some (r1, r2, r3, r4) := by rw [if_neg (show ¬ (false = true) by decide)] at H; exact H
    clear H
    have H := H1
    clear H1
    by_cases c4 : s0_1 < (s0_0.length : Int)
    · rw [if_pos c4] at H
      have c4b0 : decide (s0_1 < (s0_0.length : Int)) = true := decide_eq_true c4
      clear c4
      simp only [Option.some.injEq, Prod.mk.injEq] at H
      obtain ⟨rfl, rfl, rfl, rfl⟩ := H
      obtain ⟨ASz5_0, cSz5_0, HGz5, hgz5, HSz5_0⟩ := HI0.out
      have hcz5_0 := cellS132_0 HGz5
      have hcz5_1 := cellS132_1 HGz5
      have hcz5_2 := cellS132_2 HGz5
      have hfz5_1 := blk_frozen HGz5 1
      have hfz5_2 := blk_frozen HGz5 2
      clear HGz5 hgz5
      go_enter Try.func93, Try.ntmps93
      go_wp2
      repeat (go_quiet (fail); try go_wp2)
      go_ret2
      exact ⟨by first | rfl | (simp [errW_none, errW_some] <;> rfl) | (simp [*, errW_none, errW_some] <;> rfl), by repeat (first | (with_reducible first | exact HI0.out | apply IsS132.alloc | apply IsS132.drewN | apply IsS132.drew | apply IsS132.set_1 | apply IsS132.set_2) | exact HI0.out), by repeat (first | (with_reducible first | exact HB.out | apply below_alloc | apply pw_below_drewN | apply below_drew1 | refine below_set ?_ (IsS132.ge HI0.out)) | exact HB.out), by repeat (first | (with_reducible first | exact HK.out | apply KeepBut.set_ | apply keep_drewN | apply keep_drew | apply keep_alloc) | exact HK.out)⟩
    · rw [if_neg c4] at H
      have c4b0 : decide (s0_1 < (s0_0.length : Int)) = false := decide_eq_false c4
      clear c4
      simp only [Option.some.injEq, Prod.mk.injEq] at H
      obtain ⟨rfl, rfl, rfl, rfl⟩ := H
      obtain ⟨ASz6_0, cSz6_0, HGz6, hgz6, HSz6_0⟩ := HI0.out
      have hcz6_0 := cellS132_0 HGz6
      have hcz6_1 := cellS132_1 HGz6
      have hcz6_2 := cellS132_2 HGz6
      have hfz6_1 := blk_frozen HGz6 1
      have hfz6_2 := blk_frozen HGz6 2
      clear HGz6 hgz6
      go_enter Try.func93, Try.ntmps93
      go_wp2
      repeat (go_quiet (fail); try go_wp2)
      go_ret2
      exact ⟨by first | rfl | (simp [errW_none, errW_some] <;> rfl) | (simp [*, errW_none, errW_some] <;> rfl), by repeat (first | (with_reducible first | exact HI0.out | apply IsS132.alloc | apply IsS132.drewN | apply IsS132.drew | apply IsS132.set_1 | apply IsS132.set_2) | exact HI0.out), by repeat (first | (with_reducible first | exact HB.out | apply below_alloc | apply pw_below_drewN | apply below_drew1 | refine below_set ?_ (IsS132.ge HI0.out)) | exact HB.out), by repeat (first | (with_reducible first | exact HK.out | apply KeepBut.set_ | apply keep_drewN | apply keep_drew | apply keep_alloc) | exact HK.out)⟩

mutual
def sluicelaw2_back.j0 : Nat → List Int → Bool → Option (Bool × List Int)
  | 0, _, _ => none
  | k + 1, x0, x6 => sluicelaw2_back.l0 k x0 x6 0
def sluicelaw2_back.l0 : Nat → List Int → Bool → Int → Option (Bool × List Int)
  | 0, _, _, _ => none
  | k + 1, x0, x6, x7 => if x7 < (x0.length : Int) then (if 0 ≤ x7 then (sluicelaw2_back.l0 k (x0.set (x7 : Int).toNat 85) x6 (wrap64 (x7 + 1))) else (none)) else (some (x6, x0))
end
def sluicelaw2_back.f (k : Nat) (l0 : List Int) (l1 : List Int) : Option (Bool × List Int) := if (l0.length : Int) = (wrap64 ((l1.length : Int) + 2)) then (if 0 ≤ (l1.length : Int) then (if (l1.length : Int) ≤ (l0.length : Int) then ((sluicelaw2_alike.f (l0.take ((l1.length : Int) : Int).toNat) l1).bind fun t323 => (if t323 = true then (if (l1.length : Int) < (l0.length : Int) then (if (rd l0 (l1.length : Int)) = 165 then (if 0 ≤ (wrap64 ((l1.length : Int) + 1)) then (if (wrap64 ((l1.length : Int) + 1)) < (l0.length : Int) then (sluicelaw2_back.j0 k l0 ((rd l0 (wrap64 ((l1.length : Int) + 1))) == 90)) else (none)) else (none)) else (sluicelaw2_back.j0 k l0 false)) else (none)) else (sluicelaw2_back.j0 k l0 false))) else (none)) else (none)) else (sluicelaw2_back.j0 k l0 false)
set_option maxHeartbeats 8000000 in
set_option maxRecDepth 100000 in
theorem sluicelaw2_back.calls (k : Nat) (P0_ : Nat → Prop) (u9000_ : Value) (l0 : List Int) (A1 : Option Addr) (c1 : Nat) (l1 : List Int) (r1 : Bool) (r2 : List Int) (w0 w : World) (hB : Below w0.heap.size w0 w) (ho0 : Kd.R (Kd.int .u8) 5 w w0.heap.size P0_ u9000_ l0) (hr1 : ∀ W_, Kept w W_ (fun k_ => P0_ k_) → Kd.C (Kd.int .u8) W_ A1 l1.length l1) (hc1 : l1.length ≤ c1) (h : sluicelaw2_back.f k l0 l1 = some (r1, r2)) :
    Calls Try.prog 42 #[u9000_, .slice A1 l1.length c1] w fun e w' => e = .returned (.bool r1) ∧ Kd.R (Kd.int .u8) 5 w' w0.heap.size (fun k_ => (P0_ k_ ∨ w.heap.size ≤ k_)) u9000_ r2 ∧ Below w0.heap.size w0 w' ∧ Kept w w' (fun k_ => P0_ k_) := by
  have HO0 := Aside0.mk (show Kd.R (Kd.int .u8) 5 w w0.heap.size (fun k_ => (P0_ k_ ∨ w.heap.size ≤ k_)) u9000_ l0 from Kd.R_mono ho0 (fun k_ hk => (.inl hk)))
  have HR1 := Aside0.mk hr1
  have HC1 := Aside0.mk hc1
  clear hr1 hc1
  have HK := Aside0.mk (Kept.refl w (fun k_ => P0_ k_))
  have HW0 := Aside0.mk hB.size
  have HB := Aside0.mk hB
  clear hB
  have H : (if (l0.length : Int) = (wrap64 ((l1.length : Int) + 2)) then (if 0 ≤ (l1.length : Int) then (if (l1.length : Int) ≤ (l0.length : Int) then ((sluicelaw2_alike.f (l0.take ((l1.length : Int) : Int).toNat) l1).bind fun t323 => (if t323 = true then (if (l1.length : Int) < (l0.length : Int) then (if (rd l0 (l1.length : Int)) = 165 then (if 0 ≤ (wrap64 ((l1.length : Int) + 1)) then (if (wrap64 ((l1.length : Int) + 1)) < (l0.length : Int) then (sluicelaw2_back.j0 k l0 ((rd l0 (wrap64 ((l1.length : Int) + 1))) == 90)) else (none)) else (none)) else (sluicelaw2_back.j0 k l0 false)) else (none)) else (sluicelaw2_back.j0 k l0 false))) else (none)) else (none)) else (sluicelaw2_back.j0 k l0 false)) = some (r1, r2) := h
  clear h
  have HC3 := Aside0.mk H
  clear H
  go_enter Try.func42, Try.ntmps42
  go_upto_region 2 with (fail)
  go_cut [6] (fun v6 wc => ∃ (kq : Nat) (x6_2 : Bool), v6 = .bool x6_2 ∧ Aside0 (sluicelaw2_back.j0 kq l0 x6_2 = some (r1, r2)) ∧ Aside0 (kq ≤ k) ∧ Aside0 (Kd.R (Kd.int .u8) 5 wc w0.heap.size (fun k_ => (P0_ k_ ∨ w.heap.size ≤ k_)) u9000_ l0) ∧ Aside0 (Kept w wc (fun k_ => P0_ k_)) ∧ Aside0 (Below w0.heap.size w0 wc))
  case first =>
    have H := HC3.out
    clear HC3
    by_cases c4 : (l0.length : Int) = (wrap64 ((l1.length : Int) + 2))
    · rw [if_pos c4] at H
      have c4b0 : ((l0.length : Int) == (wrap64 ((l1.length : Int) + 2))) = true := beq_iff_eq.mpr c4
      have c4b1 : ((l0.length : Int) != (wrap64 ((l1.length : Int) + 2))) = false := bne_eq_false_iff_eq.mpr c4
      clear c4
      (first | rw [c4b0] | (simp only [i64_w, i32_w]; rw [c4b0]) | skip)
      by_cases c5 : 0 ≤ (l1.length : Int)
      · rw [if_pos c5] at H
        have c5b0 := eq_true c5
        have c5b1 : decide (0 ≤ (l1.length : Int)) = true := decide_eq_true c5
        clear c5
        by_cases c6 : (l1.length : Int) ≤ (l0.length : Int)
        · rw [if_pos c6] at H
          have c6b0 := eq_true c6
          have c6b1 : decide ((l1.length : Int) ≤ (l0.length : Int)) = true := decide_eq_true c6
          clear c6
          obtain ⟨y319, hy319⟩ : ∃ y_ : List Int, y_ = (l0.take ((l1.length : Int) : Int).toNat) := ⟨_, rfl⟩
          replace H : ((sluicelaw2_alike.f y319 l1).bind fun t323 => (if t323 = true then (if (l1.length : Int) < (l0.length : Int) then (if (rd l0 (l1.length : Int)) = 165 then (if 0 ≤ (wrap64 ((l1.length : Int) + 1)) then (if (wrap64 ((l1.length : Int) + 1)) < (l0.length : Int) then (sluicelaw2_back.j0 k l0 ((rd l0 (wrap64 ((l1.length : Int) + 1))) == 90)) else (none)) else (none)) else (sluicelaw2_back.j0 k l0 false)) else (none)) else (sluicelaw2_back.j0 k l0 false))) = some (r1, r2) := by first | (rw [hy319]; with_reducible exact H) | (have H2_ := (Option.bind_some _ _).symm.trans H; rw [hy319]; with_reducible exact H2_) | (have H2_ := (Option.bind_some _ _).symm.trans H; with_reducible exact H2_) | with_reducible exact H | (rw [hy319]; exact H) | exact H
          have Ny319 := Aside0.mk hy319
          clear hy319
          replace H := Option.bind_eq_some_iff.mp H
          obtain ⟨t323, A70, H⟩ := H
          replace H : (if t323 = true then (if (l1.length : Int) < (l0.length : Int) then (if (rd l0 (l1.length : Int)) = 165 then (if 0 ≤ (wrap64 ((l1.length : Int) + 1)) then (if (wrap64 ((l1.length : Int) + 1)) < (l0.length : Int) then (sluicelaw2_back.j0 k l0 ((rd l0 (wrap64 ((l1.length : Int) + 1))) == 90)) else (none)) else (none)) else (sluicelaw2_back.j0 k l0 false)) else (none)) else (sluicelaw2_back.j0 k l0 false)) = some (r1, r2) := H
          have A7 := Aside0.mk A70
          clear A70
          by_cases c8 : t323 = true
          · subst c8
            have H1 : (if (l1.length : Int) < (l0.length : Int) then (if (rd l0 (l1.length : Int)) = 165 then (if 0 ≤ (wrap64 ((l1.length : Int) + 1)) then (if (wrap64 ((l1.length : Int) + 1)) < (l0.length : Int) then (sluicelaw2_back.j0 k l0 ((rd l0 (wrap64 ((l1.length : Int) + 1))) == 90)) else (none)) else (none)) else (sluicelaw2_back.j0 k l0 false)) else (none)) = some (r1, r2) := by rw [if_pos rfl] at H; exact H
            clear H
            have H := H1
            clear H1
            by_cases c9 : (l1.length : Int) < (l0.length : Int)
            · rw [if_pos c9] at H
              have c9b0 : decide ((l1.length : Int) < (l0.length : Int)) = true := decide_eq_true c9
              have c9b1 : decide (l1.length < l0.length) = true := decide_eq_true (Int.ofNat_lt.mp c9)
              clear c9
              by_cases c10 : (rd l0 (l1.length : Int)) = 165
              · rw [if_pos c10] at H
                have c10b0 : ((rd l0 (l1.length : Int)) == 165) = true := beq_iff_eq.mpr c10
                have c10b1 : ((rd l0 (l1.length : Int)) != 165) = false := bne_eq_false_iff_eq.mpr c10
                clear c10
                obtain ⟨ji11, hji11⟩ : ∃ j_ : Int, (wrap64 ((l1.length : Int) + 1)) = j_ := ⟨_, rfl⟩
                replace H : (if 0 ≤ (ji11) then (if (ji11) < (l0.length : Int) then (sluicelaw2_back.j0 k l0 ((rd l0 (ji11)) == 90)) else (none)) else (none)) = some (r1, r2) := by first | (rw [hji11] at H; exact H) | (simp only [hji11] at H ⊢; exact H)
                (try rw [hji11] at A7)
                have hji11w : (IntKind.i64.wrap ((l1.length : Int) + 1)) = ji11 := (i64_w _).trans hji11
                by_cases c12 : 0 ≤ (ji11)
                · rw [if_pos c12] at H
                  have c12b0 : decide (0 ≤ (ji11)) = true := decide_eq_true c12
                  clear c12
                  by_cases c13 : (ji11) < (l0.length : Int)
                  · rw [if_pos c13] at H
                    have c13b0 : decide ((ji11) < (l0.length : Int)) = true := decide_eq_true c13
                    clear c13
                    have H' := Aside0.mk H
                    clear H
                    obtain ⟨Ao14, co14, eo14⟩ := Kd.R_slice HO0.out
                    subst eo14
                    have q15 : ((l1.length : Int) : Int) ≤ ((l0.length : Int) : Int) := of_decide_eq_true (by first | (with_reducible assumption) | assumption)
                    obtain ⟨i015, hi015, _, hsz15, _⟩ := info_parts info5
                    have hroom15 : l0.length ≤ co14 := (Kd.R_reads' HO0.out).2.1
                    have hC15 : Kd.C (Kd.int .u8) _ Ao14 l0.length l0 := (Kd.R_reads' HO0.out).2.2
                    have hcut15 := cut_to (P := Try.prog) 36 5 .i64 Try.underlying36 hi015 Ao14 l0.length co14 (l1.length : Int) (of_decide_eq_true (by first | (with_reducible assumption) | assumption)) q15 hroom15
                    have hr15 := Kd.C_take (m := ((l1.length : Int) : Int).toNat) hC15 (by omega)
                    have hy15 : y319.length = ((l1.length : Int) : Int).toNat := (by rw [Ny319.out, List.length_take]; omega)
                    rw [← Ny319.out] at hr15
                    rw [← hy15] at hcut15
                    have HR322 := Aside0.mk hr15
                    have HC322 := Aside0.mk (show y319.length ≤ co14 from by omega)
                    clear hr15 hC15 hroom15 hi015 hsz15
                    have KY15 := Aside0.mk hy15
                    clear hy15
                    have KL15 := Aside0.mk (show ((l1.length : Int) : Int).toNat ≤ l0.length from by omega)
                    replace q15 := eq_true q15
                    go_wp2_with (first | (go_at_call 37; (with_reducible refine (sluicelaw2_alike.calls _ _ y319 _ _ l1 true _ ?side1 ?side2 ?side3 ?side4 A7.out).mono ?_); (case side1 => repeat (first | exact (by repeat (first | (with_reducible exact HR322.out) | (with_reducible refine Kd.C_alloc ?_ _) | (with_reducible refine Kd.C_drewN ?_ _) | (with_reducible refine Kd.C_drew ?_) | exact HR322.out)) | (with_reducible refine Kd.C_alloc ?_ _) | (with_reducible refine Kd.C_drewN ?_ _) | (with_reducible refine Kd.C_drew ?_))); (case side2 => exact HC322.out); (case side3 => exact Kd.C_kept_now HR1.out (by repeat (first | (with_reducible first | exact HK.out | apply Kept.alloc | apply Kept.drewN | apply Kept.drew) | exact HK.out))); (case side4 => exact HC1.out); rintro e w' ⟨rfl, ⟨nd, rfl⟩⟩; have p324 : 0 ≤ ((l1.length : Int) : Int) := of_decide_eq_true (by first | (with_reducible assumption) | assumption); have q324 : (l1.length : Int) < (l0.length : Int) := of_decide_eq_true (by first | (with_reducible assumption) | assumption); obtain ⟨ad324, e324, hx324_0⟩ := Kd.at_int (Kd.R_reads' HO0.out).2.2 (l1.length : Int) p324 q324; cases e324; (try simp only [Go.IntWalk.toNatUp] at hx324_0); replace p324 := eq_true p324; replace q324 := eq_true q324; have p325 : 0 ≤ ((ji11) : Int) := of_decide_eq_true (by first | (with_reducible assumption) | assumption); have q325 : (ji11) < (l0.length : Int) := of_decide_eq_true (by first | (with_reducible assumption) | assumption); obtain ⟨ad325, e325, hx325_0⟩ := Kd.at_int (Kd.R_reads' HO0.out).2.2 (ji11) p325 q325; obtain rfl : ad324 = ad325 := (by injection e325); replace p325 := eq_true p325; replace q325 := eq_true q325))
                    go_meet
                    case rel => exact ⟨_, (((rd l0 (ji11)) == 90)), (by first | rfl | (simp; done) | (simp only [← hji11] <;> (first | rfl | simp)) | (simp [*]; done)), H', ⟨by first | omega | exact Nat.le_refl _⟩, ⟨by (with_reducible repeat (first | apply Kd.R_alloc | apply Kd.R_drewN | apply Kd.R_drew)); exact HO0.out⟩, ⟨by repeat (first | (with_reducible first | exact HK.out | apply Kept.alloc | apply Kept.drewN | apply Kept.drew) | exact HK.out)⟩, ⟨by repeat (first | (with_reducible first | exact HB.out | apply below_alloc | apply pw_below_drewN | apply below_drew1) | exact HB.out)⟩⟩
                  · rw [if_neg c13] at H
                    exact absurd H (by simp)
                · rw [if_neg c12] at H
                  exact absurd H (by simp)
              · rw [if_neg c10] at H
                have c10b0 : ((rd l0 (l1.length : Int)) == 165) = false := beq_eq_false_iff_ne.mpr c10
                have c10b1 : ((rd l0 (l1.length : Int)) != 165) = true := bne_iff_ne.mpr c10
                have H' := Aside0.mk H
                clear H
                obtain ⟨Ao16, co16, eo16⟩ := Kd.R_slice HO0.out
                subst eo16
                have q17 : ((l1.length : Int) : Int) ≤ ((l0.length : Int) : Int) := of_decide_eq_true (by first | (with_reducible assumption) | assumption)
                obtain ⟨i017, hi017, _, hsz17, _⟩ := info_parts info5
                have hroom17 : l0.length ≤ co16 := (Kd.R_reads' HO0.out).2.1
                have hC17 : Kd.C (Kd.int .u8) _ Ao16 l0.length l0 := (Kd.R_reads' HO0.out).2.2
                have hcut17 := cut_to (P := Try.prog) 36 5 .i64 Try.underlying36 hi017 Ao16 l0.length co16 (l1.length : Int) (of_decide_eq_true (by first | (with_reducible assumption) | assumption)) q17 hroom17
                have hr17 := Kd.C_take (m := ((l1.length : Int) : Int).toNat) hC17 (by omega)
                have hy17 : y319.length = ((l1.length : Int) : Int).toNat := (by rw [Ny319.out, List.length_take]; omega)
                rw [← Ny319.out] at hr17
                rw [← hy17] at hcut17
                have HR322 := Aside0.mk hr17
                have HC322 := Aside0.mk (show y319.length ≤ co16 from by omega)
                clear hr17 hC17 hroom17 hi017 hsz17
                have KY17 := Aside0.mk hy17
                clear hy17
                have KL17 := Aside0.mk (show ((l1.length : Int) : Int).toNat ≤ l0.length from by omega)
                replace q17 := eq_true q17
                go_wp2_with (first | (go_at_call 37; (with_reducible refine (sluicelaw2_alike.calls _ _ y319 _ _ l1 true _ ?side1 ?side2 ?side3 ?side4 A7.out).mono ?_); (case side1 => repeat (first | exact (by repeat (first | (with_reducible exact HR322.out) | (with_reducible refine Kd.C_alloc ?_ _) | (with_reducible refine Kd.C_drewN ?_ _) | (with_reducible refine Kd.C_drew ?_) | exact HR322.out)) | (with_reducible refine Kd.C_alloc ?_ _) | (with_reducible refine Kd.C_drewN ?_ _) | (with_reducible refine Kd.C_drew ?_))); (case side2 => exact HC322.out); (case side3 => exact Kd.C_kept_now HR1.out (by repeat (first | (with_reducible first | exact HK.out | apply Kept.alloc | apply Kept.drewN | apply Kept.drew) | exact HK.out))); (case side4 => exact HC1.out); rintro e w' ⟨rfl, ⟨nd, rfl⟩⟩; have p324 : 0 ≤ ((l1.length : Int) : Int) := of_decide_eq_true (by first | (with_reducible assumption) | assumption); have q324 : (l1.length : Int) < (l0.length : Int) := of_decide_eq_true (by first | (with_reducible assumption) | assumption); obtain ⟨ad324, e324, hx324_0⟩ := Kd.at_int (Kd.R_reads' HO0.out).2.2 (l1.length : Int) p324 q324; cases e324; (try simp only [Go.IntWalk.toNatUp] at hx324_0); replace p324 := eq_true p324; replace q324 := eq_true q324))
                go_meet
                case rel => exact ⟨_, (false), (by first | rfl | (simp; done) | (simp [*]; done)), H', ⟨by first | omega | exact Nat.le_refl _⟩, ⟨by (with_reducible repeat (first | apply Kd.R_alloc | apply Kd.R_drewN | apply Kd.R_drew)); exact HO0.out⟩, ⟨by repeat (first | (with_reducible first | exact HK.out | apply Kept.alloc | apply Kept.drewN | apply Kept.drew) | exact HK.out)⟩, ⟨by repeat (first | (with_reducible first | exact HB.out | apply below_alloc | apply pw_below_drewN | apply below_drew1) | exact HB.out)⟩⟩
            · rw [if_neg c9] at H
              exact absurd H (by simp)
          · replace c8 := Bool.eq_false_iff.mpr c8
            subst c8
            have H1 : (sluicelaw2_back.j0 k l0 false) = some (r1, r2) := by rw [if_neg (show ¬ (false = true) by decide)] at H; exact H
            clear H
            have H := H1
            clear H1
            have H' := Aside0.mk H
            clear H
            obtain ⟨Ao18, co18, eo18⟩ := Kd.R_slice HO0.out
            subst eo18
            have q19 : ((l1.length : Int) : Int) ≤ ((l0.length : Int) : Int) := of_decide_eq_true (by first | (with_reducible assumption) | assumption)
            obtain ⟨i019, hi019, _, hsz19, _⟩ := info_parts info5
            have hroom19 : l0.length ≤ co18 := (Kd.R_reads' HO0.out).2.1
            have hC19 : Kd.C (Kd.int .u8) _ Ao18 l0.length l0 := (Kd.R_reads' HO0.out).2.2
            have hcut19 := cut_to (P := Try.prog) 36 5 .i64 Try.underlying36 hi019 Ao18 l0.length co18 (l1.length : Int) (of_decide_eq_true (by first | (with_reducible assumption) | assumption)) q19 hroom19
            have hr19 := Kd.C_take (m := ((l1.length : Int) : Int).toNat) hC19 (by omega)
            have hy19 : y319.length = ((l1.length : Int) : Int).toNat := (by rw [Ny319.out, List.length_take]; omega)
            rw [← Ny319.out] at hr19
            rw [← hy19] at hcut19
            have HR322 := Aside0.mk hr19
            have HC322 := Aside0.mk (show y319.length ≤ co18 from by omega)
            clear hr19 hC19 hroom19 hi019 hsz19
            have KY19 := Aside0.mk hy19
            clear hy19
            have KL19 := Aside0.mk (show ((l1.length : Int) : Int).toNat ≤ l0.length from by omega)
            replace q19 := eq_true q19
            go_wp2_with (first | (go_at_call 37; (with_reducible refine (sluicelaw2_alike.calls _ _ y319 _ _ l1 false _ ?side1 ?side2 ?side3 ?side4 A7.out).mono ?_); (case side1 => repeat (first | exact (by repeat (first | (with_reducible exact HR322.out) | (with_reducible refine Kd.C_alloc ?_ _) | (with_reducible refine Kd.C_drewN ?_ _) | (with_reducible refine Kd.C_drew ?_) | exact HR322.out)) | (with_reducible refine Kd.C_alloc ?_ _) | (with_reducible refine Kd.C_drewN ?_ _) | (with_reducible refine Kd.C_drew ?_))); (case side2 => exact HC322.out); (case side3 => exact Kd.C_kept_now HR1.out (by repeat (first | (with_reducible first | exact HK.out | apply Kept.alloc | apply Kept.drewN | apply Kept.drew) | exact HK.out))); (case side4 => exact HC1.out); rintro e w' ⟨rfl, ⟨nd, rfl⟩⟩))
            go_meet
            case rel => exact ⟨_, (false), (by first | rfl | (simp; done) | (simp [*]; done)), H', ⟨by first | omega | exact Nat.le_refl _⟩, ⟨by (with_reducible repeat (first | apply Kd.R_alloc | apply Kd.R_drewN | apply Kd.R_drew)); exact HO0.out⟩, ⟨by repeat (first | (with_reducible first | exact HK.out | apply Kept.alloc | apply Kept.drewN | apply Kept.drew) | exact HK.out)⟩, ⟨by repeat (first | (with_reducible first | exact HB.out | apply below_alloc | apply pw_below_drewN | apply below_drew1) | exact HB.out)⟩⟩
        · rw [if_neg c6] at H
          exact absurd H (by simp)
      · rw [if_neg c5] at H
        exact absurd H (by simp)
    · rw [if_neg c4] at H
      have c4b0 : ((l0.length : Int) == (wrap64 ((l1.length : Int) + 2))) = false := beq_eq_false_iff_ne.mpr c4
      have c4b1 : ((l0.length : Int) != (wrap64 ((l1.length : Int) + 2))) = true := bne_iff_ne.mpr c4
      (first | rw [c4b0] | (simp only [i64_w, i32_w]; rw [c4b0]) | skip)
      have H' := Aside0.mk H
      clear H
      obtain ⟨Ao20, co20, eo20⟩ := Kd.R_slice HO0.out
      subst eo20
      go_wp2
      go_meet
      case rel => exact ⟨_, (false), (by first | rfl | (simp; done) | (simp [*]; done)), H', ⟨by first | omega | exact Nat.le_refl _⟩, ⟨by (with_reducible repeat (first | apply Kd.R_alloc | apply Kd.R_drewN | apply Kd.R_drew)); exact HO0.out⟩, ⟨by repeat (first | (with_reducible first | exact HK.out | apply Kept.alloc | apply Kept.drewN | apply Kept.drew) | exact HK.out)⟩, ⟨by repeat (first | (with_reducible first | exact HB.out | apply below_alloc | apply pw_below_drewN | apply below_drew1) | exact HB.out)⟩⟩
  case rest =>
    clear HC3
    try clear c1
    try clear q1
    try clear p2
    try clear p3
    try clear q3
    try clear hx3
    try clear c4
    try clear c4b0
    try clear c4b1
    try clear c5
    try clear c5b0
    try clear c5b1
    try clear c6
    try clear c6b0
    try clear c6b1
    try clear p6
    try clear c8
    try clear c9
    try clear c9b0
    try clear c9b1
    try clear c10
    try clear c10b0
    try clear c10b1
    try clear c12
    try clear c12b0
    try clear c13
    try clear c13b0
    try clear q15
    try clear q17
    try clear q19
    try clear hx324_0
    try clear hx325_0
    try clear p324
    try clear p325
    try clear q15
    try clear q17
    try clear q19
    try clear q324
    try clear q325
    obtain ⟨kq, x6_2, rfl, HA, HJ2, HO_0, HK, HB⟩ := hcut
    cases kq with
    | zero => exact absurd HA.out (by simp [sluicelaw2_back.j0])
    | succ kj2 =>
      have H := HA.out
      clear HA
      simp only [sluicelaw2_back.j0] at H
      have H' := Aside0.mk H
      clear H
      go_wp2
      go_loopg [7] kj2 (fun kq v7 w' => ∃ (x0_2 : List Int) (x7_2 : Int), v7 = .int .i64 x7_2 ∧ Aside0 (sluicelaw2_back.l0 kq x0_2 x6_2 x7_2 = some (r1, r2)) ∧ Aside0 (kq ≤ kj2) ∧ Aside0 (Kd.R (Kd.int .u8) 5 w' w0.heap.size (fun k_ => (P0_ k_ ∨ w.heap.size ≤ k_)) u9000_ x0_2) ∧ Aside0 (Kept w w' (fun k_ => P0_ k_)) ∧ Aside0 (Below w0.heap.size w0 w'))
      case atStart => exact ⟨(l0), (0), (by first | rfl | (simp; done) | (simp [*]; done)), H', ⟨Nat.le_refl _⟩, ⟨by (with_reducible repeat (first | apply Kd.R_alloc | apply Kd.R_drewN | apply Kd.R_drew)); exact HO_0.out⟩, ⟨by repeat (first | (with_reducible first | exact HK.out | apply Kept.alloc | apply Kept.drewN | apply Kept.drew) | exact HK.out)⟩, ⟨by repeat (first | (with_reducible first | exact HB.out | apply below_alloc | apply pw_below_drewN | apply below_drew1) | exact HB.out)⟩⟩
      case round =>
        clear H'
        try clear c1
        try clear q1
        try clear p2
        try clear p3
        try clear q3
        try clear hx3
        try clear c4
        try clear c4b0
        try clear c4b1
        try clear c5
        try clear c5b0
        try clear c5b1
        try clear c6
        try clear c6b0
        try clear c6b1
        try clear p6
        try clear c8
        try clear c9
        try clear c9b0
        try clear c9b1
        try clear c10
        try clear c10b0
        try clear c10b1
        try clear c12
        try clear c12b0
        try clear c13
        try clear c13b0
        try clear q15
        try clear q17
        try clear q19
        try clear hx324_0
        try clear hx325_0
        try clear p2
        try clear p3
        try clear p324
        try clear p325
        try clear p6
        try clear q1
        try clear q15
        try clear q17
        try clear q19
        try clear q3
        try clear q324
        try clear q325
        obtain ⟨x0_2, x7_2, rfl, HA, HK2, HO_0, HK, HB⟩ := hrel
        cases gk with
        | zero => exact absurd HA.out (by simp [sluicelaw2_back.l0])
        | succ k2 =>
          have H := HA.out
          clear HA
          simp only [sluicelaw2_back.l0] at H
          by_cases c21 : x7_2 < (x0_2.length : Int)
          · rw [if_pos c21] at H
            have c21b0 : decide (x7_2 < (x0_2.length : Int)) = true := decide_eq_true c21
            clear c21
            by_cases c22 : 0 ≤ x7_2
            · rw [if_pos c22] at H
              have c22b0 : decide (0 ≤ x7_2) = true := decide_eq_true c22
              clear c22
              obtain ⟨y326, hy326⟩ : ∃ y_ : List Int, y_ = (x0_2.set (x7_2 : Int).toNat 85) := ⟨_, rfl⟩
              replace H : (sluicelaw2_back.l0 k2 y326 x6_2 (wrap64 (x7_2 + 1))) = some (r1, r2) := by first | (rw [hy326]; with_reducible exact H) | (have H2_ := (Option.bind_some _ _).symm.trans H; rw [hy326]; with_reducible exact H2_) | (have H2_ := (Option.bind_some _ _).symm.trans H; with_reducible exact H2_) | with_reducible exact H | (rw [hy326]; exact H) | exact H
              have Ny326 := Aside0.mk hy326
              clear hy326
              have H' := Aside0.mk H
              clear H
              obtain ⟨Ao24, co24, eo24⟩ := Kd.R_slice HO_0.out
              subst eo24
              have p23 : 0 ≤ (x7_2 : Int) := of_decide_eq_true (by first | (with_reducible assumption) | assumption)
              have q23 : (x7_2 : Int) < ((x0_2.length : Int) : Int) := of_decide_eq_true (by first | (with_reducible assumption) | assumption)
              obtain ⟨go23, co23, eo23, gb23, gl23, cl23, HG23⟩ := Kd.R_form HO_0.out (by omega)
              (first | cases eo23 | (injection eo23 with ea_ en_ ec_; (first | subst ea_ | (injection ea_ with ea_; subst ea_)); subst ec_; clear en_))
              have GB23 := Aside0.mk gb23
              have GG23 := Aside0.mk HG23
              clear gb23 gl23 HG23
              have HMgo23 := Aside0.mk (show (P0_ go23 ∨ w.heap.size ≤ go23) from (HO_0.out.1 _ rfl))
              obtain ⟨hx23_0, hf23_0⟩ := Kd.R_celln 0 HO_0.out (x7_2 : Int) p23 q23
              replace p23 := eq_true p23
              replace q23 := eq_true q23
              have HP25 := Kd.R_putg HO_0.out (x7_2 : Int) 85
              go_wp2_with (first | ((with_reducible refine gate_store (t := 5) (p := 45) rfl ?_); refine store_event (t := 5) (p := 45) (v := ?vo_w26) (w1 := (wr.setCell ⟨go23, (x7_2 : Int).toNat, none⟩ (.int .u8 85))) ?hg ?ho ?hn ?hr ?_; (case ho => rfl); (case hg => rfl); (case hn => rfl); (case hr => first | (go_simp; done) | (go_simp; rfl)); intro w26 hw; have hg : wr.grownBy w26 (some go23) := (by rw [hw]; exact HP25.2); have hp_ : Kd.R (Kd.int .u8) 5 w26 w0.heap.size (fun k_ => (P0_ k_ ∨ w.heap.size ≤ k_)) (.slice (some ⟨go23, 0, none⟩) x0_2.length co24) y326 := (by rw [hw, Ny326.out]; exact HP25.1); clear HP25; have n0_ := Aside0.mk (hp_); have n1_ := Aside0.mk ((by rw [hw]; exact below_set (HB.out) GB23.out : Below w0.heap.size w0 w26)); have n2_ := Aside0.mk (Kept.of_grown (S := (fun k_ => P0_ k_)) hg (by repeat (first | (with_reducible first | exact HK.out | apply Kept.alloc | apply Kept.drewN | apply Kept.drew) | exact HK.out)) (fun k_ e_ => (HO_0.out.1 k_ e_))); clear HO_0; clear HB; clear HK; have HO_0 := n0_; have HB := n1_; have HK := n2_; clear n0_ n1_ n2_; clear hg hw hp_))
              go_roundg k2
              case measure => have := HJ2.out; have := HK2.out; omega
              case rel => exact ⟨(y326), (wrap64 (x7_2 + 1)), (by first | rfl | (simp; done) | (simp [*]; done)), H', ⟨by have := HJ2.out; have := HK2.out; omega⟩, ⟨by (with_reducible repeat (first | apply Kd.R_alloc | apply Kd.R_drewN | apply Kd.R_drew)); exact HO_0.out⟩, ⟨by repeat (first | (with_reducible first | exact HK.out | apply Kept.alloc | apply Kept.drewN | apply Kept.drew) | exact HK.out)⟩, ⟨by repeat (first | (with_reducible first | exact HB.out | apply below_alloc | apply pw_below_drewN | apply below_drew1) | exact HB.out)⟩⟩
            · rw [if_neg c22] at H
              exact absurd H (by simp)
          · rw [if_neg c21] at H
            have c21b0 : decide (x7_2 < (x0_2.length : Int)) = false := decide_eq_false c21
            clear c21
            simp only [Option.some.injEq, Prod.mk.injEq] at H
            obtain ⟨rfl, rfl⟩ := H
            obtain ⟨Ao27, co27, eo27⟩ := Kd.R_slice HO_0.out
            subst eo27
            go_wp2
            go_ret
            exact ⟨by first | rfl | (simp [errW_none, errW_some] <;> rfl) | (simp [*, errW_none, errW_some] <;> rfl), by (with_reducible repeat (first | apply Kd.R_alloc | apply Kd.R_drewN | apply Kd.R_drew)); exact HO_0.out, by repeat (first | (with_reducible first | exact HB.out | apply below_alloc | apply pw_below_drewN | apply below_drew1) | exact HB.out), by repeat (first | (with_reducible first | exact HK.out | apply Kept.alloc | apply Kept.drewN | apply Kept.drew) | exact HK.out)⟩

end Go.Proofs.Ytpgdmmjbhjbbhaa.P
end
section
namespace Go.Proofs.Ytpgdmmjbhjbbhaa.P
open Go.RowKit Go.Proofs.YtpgdmmjbhjbbhaaW.PrintWords Go.Proofs.YtpgdmmjbhjbbhaaW.PrintLast Go.Proofs.YtpgdmmjbhjbbhaaW.PrintMore
attribute [local go_sem] Go.Proofs.Ytpgdmmjbhjbbhaa.StrLe.leq_str Go.Proofs.Ytpgdmmjbhjbbhaa.StrLe.gtr_str
attribute [local go_sem] max2_int min2_int max_two min_two max_three min_three max_four min_four   -- for this text's walks alone
set_option linter.unusedVariables false
set_option linter.unusedSimpArgs false

def sluiceref2_EncodeRequest.j0 : Nat → Bool → Int → Int → Int → ByteArray → Int → Int → Option (List Int × Int)
  | 0, _, _, _, _, _, _, _ => none
  | k + 1, x13, x378000, x378001, x379000, x379001, x379002, x379003 => if x13 = true then (some (([] : List Int), 21)) else ((sluiceref2_putCall.f k ([] : List Int) x378000 x378001).bind fun t381 => ((sluiceref2_putOp.f k t381 x379000 x379001 x379002 x379003).bind fun t384 => (some (t384, 0))))
def sluiceref2_EncodeRequest.f (k : Nat) (a0_0 : Int) (a0_1 : Int) (a1_0 : Int) (a1_1 : ByteArray) (a1_2 : Int) (a1_3 : Int) : Option (List Int × Int) := (sluiceref2_call.f a0_0 a0_1).bind fun t379 => (if t379 = true then ((sluiceref2_op.f k a1_0 a1_1 a1_2 a1_3).bind fun t380 => (sluiceref2_EncodeRequest.j0 k (!t380) a0_0 a0_1 a1_0 a1_1 a1_2 a1_3)) else (sluiceref2_EncodeRequest.j0 k true a0_0 a0_1 a1_0 a1_1 a1_2 a1_3))
set_option maxHeartbeats 8000000 in
set_option maxRecDepth 100000 in
theorem sluiceref2_EncodeRequest.calls (k : Nat) (a0_0 : Int) (a0_1 : Int) (a1_0 : Int) (a1_1 : ByteArray) (a1_2 : Int) (a1_3 : Int) (r1 : List Int) (r2 : Int) (w : World) (h : sluiceref2_EncodeRequest.f k a0_0 a0_1 a1_0 a1_1 a1_2 a1_3 = some (r1, r2)) :
    Calls Try.prog 72 #[.agg #[.int .i64 a0_0, .int .i64 a0_1], .agg #[.int .i64 a1_0, .string a1_1, .int .i64 a1_2, .int .i64 a1_3]] w fun e w' => ∃ v0_ : Value, e = .returned (.tuple #[v0_, .int .i64 r2]) ∧ Kd.R (Kd.int .u8) 5 w' w.heap.size (fun _ => True) v0_ r1 ∧ Below w.heap.size w w' := by
  have hu27 := Try.underlying27
  have hu29 := Try.underlying29
  have HB := Aside0.mk (Below.refl w.heap.size w)
  have H : ((sluiceref2_call.f a0_0 a0_1).bind fun t379 => (if t379 = true then ((sluiceref2_op.f k a1_0 a1_1 a1_2 a1_3).bind fun t380 => (sluiceref2_EncodeRequest.j0 k (!t380) a0_0 a0_1 a1_0 a1_1 a1_2 a1_3)) else (sluiceref2_EncodeRequest.j0 k true a0_0 a0_1 a1_0 a1_1 a1_2 a1_3))) = some (r1, r2) := h
  clear h
  have HC3 := Aside0.mk H
  clear H
  go_enter Try.func72, Try.ntmps72
  go_upto_region 1 with (first | ((with_reducible refine gate_dst (N := 2) rfl ?_); refine box_event ?hg (N := 2) ?hd (cs := #[.int .i64 a0_0, .int .i64 a0_1]) (t := 27) ?hr ?_; (case hd => rfl); (case hg => rfl); (case hr => first | (go_simp; done) | (go_simp; rfl)); intro gb377 hg w4 hbox hb; have n0_ := Aside0.mk (below_step (by repeat (first | (with_reducible first | exact HB.out | apply below_alloc | apply pw_below_drewN | apply below_drew1) | exact HB.out)) hb); have n1_ := Aside0.mk (hbox); have n2_ := Aside0.mk ((by rw [hg]; exact (below_size (by repeat (first | (with_reducible first | exact HB.out | apply below_alloc | apply pw_below_drewN | apply below_drew1) | exact HB.out))) : w.heap.size ≤ gb377)); have n3_ := Aside0.mk ((by rw [hg]; exact (below_size (by repeat (first | (with_reducible first | exact HB.out | apply below_alloc | apply pw_below_drewN | apply below_drew1) | exact HB.out))) : w.heap.size ≤ gb377)); clear HB; have HB := n0_; have BK377 := n1_; have GW377 := n2_; have GE377 := n3_; clear n0_ n1_ n2_ n3_; clear hb hbox hg) | ((with_reducible refine gate_dst (N := 3) rfl ?_); refine box_event ?hg (N := 3) ?hd (cs := #[.int .i64 a1_0, .string a1_1, .int .i64 a1_2, .int .i64 a1_3]) (t := 29) ?hr ?_; (case hd => rfl); (case hg => rfl); (case hr => first | (go_simp; done) | (go_simp; rfl)); intro gb378 hg w5 hbox hb; have n0_ := Aside0.mk (blk_below (g := gb377) (o := .cells #[.int .i64 a0_0, .int .i64 a0_1] 27 (0, 0)) (by (with_reducible repeat (first | refine blk_drewN ?_ _ | refine blk_drew ?_ | refine blk_alloc ?_ _)); exact BK377.out) hb); have n1_ := Aside0.mk (below_step (by repeat (first | (with_reducible first | exact HB.out | apply below_alloc | apply pw_below_drewN | apply below_drew1 | refine below_set ?_ GE377.out) | exact HB.out)) hb); have n2_ := Aside0.mk (hbox); have n3_ := Aside0.mk ((by rw [hg]; exact (below_size (by repeat (first | (with_reducible first | exact HB.out | apply below_alloc | apply pw_below_drewN | apply below_drew1 | refine below_set ?_ GE377.out) | exact HB.out))) : w.heap.size ≤ gb378)); have n4_ := Aside0.mk ((by rw [hg]; exact (below_size (by repeat (first | (with_reducible first | exact HB.out | apply below_alloc | apply pw_below_drewN | apply below_drew1 | refine below_set ?_ GE377.out) | exact HB.out))) : w.heap.size ≤ gb378)); have n5_ := Aside0.mk ((by rw [hg]; exact Nat.ne_of_lt (blk_lt (g := gb377) (o := .cells #[.int .i64 a0_0, .int .i64 a0_1] 27 (0, 0)) (by (with_reducible repeat (first | refine blk_drewN ?_ _ | refine blk_drew ?_ | refine blk_alloc ?_ _)); exact BK377.out)) : gb377 ≠ gb378)); have n6_ := Aside0.mk ((by rw [hg]; exact Nat.ne_of_gt (blk_lt (g := gb377) (o := .cells #[.int .i64 a0_0, .int .i64 a0_1] 27 (0, 0)) (by (with_reducible repeat (first | refine blk_drewN ?_ _ | refine blk_drew ?_ | refine blk_alloc ?_ _)); exact BK377.out)) : gb378 ≠ gb377)); clear BK377; clear HB; have BK377 := n0_; have HB := n1_; have BK378 := n2_; have GW378 := n3_; have GE378 := n4_; have NB377_378 := n5_; have NB378_377 := n6_; clear n0_ n1_ n2_ n3_ n4_ n5_ n6_; clear hb hbox hg))
  (try simp only [Act.put, List.setIfInBounds_toArray, List.set_cons_zero, List.set_cons_succ])
  go_cut [13] (fun v13 wc => ∃ (kq : Nat) (x13_2 : Bool), v13 = .bool x13_2 ∧ Aside0 (sluiceref2_EncodeRequest.j0 kq x13_2 a0_0 a0_1 a1_0 a1_1 a1_2 a1_3 = some (r1, r2)) ∧ Aside0 (kq ≤ k) ∧ Aside0 (wc.heap[gb377]? = some (.cells #[.int .i64 a0_0, .int .i64 a0_1] 27 (0, 0))) ∧ Aside0 (wc.heap[gb378]? = some (.cells #[.int .i64 a1_0, .string a1_1, .int .i64 a1_2, .int .i64 a1_3] 29 (0, 0))) ∧ Aside0 (Below w.heap.size w wc))
  case first =>
    have H := HC3.out
    clear HC3
    replace H := Option.bind_eq_some_iff.mp H
    obtain ⟨t379, A60, H⟩ := H
    replace H : (if t379 = true then ((sluiceref2_op.f k a1_0 a1_1 a1_2 a1_3).bind fun t380 => (sluiceref2_EncodeRequest.j0 k (!t380) a0_0 a0_1 a1_0 a1_1 a1_2 a1_3)) else (sluiceref2_EncodeRequest.j0 k true a0_0 a0_1 a1_0 a1_1 a1_2 a1_3)) = some (r1, r2) := H
    have A6 := Aside0.mk A60
    clear A60
    by_cases c7 : t379 = true
    · subst c7
      have H1 : ((sluiceref2_op.f k a1_0 a1_1 a1_2 a1_3).bind fun t380 => (sluiceref2_EncodeRequest.j0 k (!t380) a0_0 a0_1 a1_0 a1_1 a1_2 a1_3)) = some (r1, r2) := by rw [if_pos rfl] at H; exact H
      clear H
      have H := H1
      clear H1
      replace H := Option.bind_eq_some_iff.mp H
      obtain ⟨t380, A80, H⟩ := H
      replace H : (sluiceref2_EncodeRequest.j0 k (!t380) a0_0 a0_1 a1_0 a1_1 a1_2 a1_3) = some (r1, r2) := H
      have A8 := Aside0.mk A80
      clear A80
      have H' := Aside0.mk H
      clear H
      have hnb9 := NB377_378.out
      have hnc9 := NB378_377.out
      have hcz10_0 : w5.cell? ⟨gb377, 0, none⟩ = some (.int .i64 a0_0) := (blk_cell BK377.out 0).trans rfl
      have hcz10_1 : w5.cell? ⟨gb377, 1, none⟩ = some (.int .i64 a0_1) := (blk_cell BK377.out 1).trans rfl
      have hfz10_0 := blk_frozen BK377.out 0
      have hfz10_1 := blk_frozen BK377.out 1
      go_wp2_with (first | ((with_reducible refine gate_callee (f := 46) rfl ?_); refine goesL_ (some 7) rfl rfl Try.func46 (by kernel_rfl) rfl #[.agg #[.int .i64 a0_0, .int .i64 a0_1]] rfl (by (try simp only [List.map_toArray, List.map_cons, List.map_nil]); first | done | rfl | (simp only [List.length_drop, List.length_take]; rfl)) ?_; (with_reducible refine (sluiceref2_call.calls a0_0 a0_1 true _ A6.out).mono ?_); rintro e w11 ⟨rfl, hb⟩; refine ⟨_, rfl, ?_⟩; have n0_ := Aside0.mk (blk_below (g := gb377) (o := .cells #[.int .i64 a0_0, .int .i64 a0_1] 27 (0, 0)) (by (with_reducible repeat (first | refine blk_drewN ?_ _ | refine blk_drew ?_ | refine blk_alloc ?_ _)); exact BK377.out) hb); have n1_ := Aside0.mk (blk_below (g := gb378) (o := .cells #[.int .i64 a1_0, .string a1_1, .int .i64 a1_2, .int .i64 a1_3] 29 (0, 0)) (by (with_reducible repeat (first | refine blk_drewN ?_ _ | refine blk_drew ?_ | refine blk_alloc ?_ _)); exact BK378.out) hb); have n2_ := Aside0.mk (below_step (by repeat (first | (with_reducible first | exact HB.out | apply below_alloc | apply pw_below_drewN | apply below_drew1 | refine below_set ?_ GE377.out | refine below_set ?_ GE378.out) | exact HB.out)) hb); clear BK377; clear BK378; clear HB; have BK377 := n0_; have BK378 := n1_; have HB := n2_; clear n0_ n1_ n2_; (try clear hb); (try clear hb2); (try clear hk); (try clear hi); have hcz12_0 : w11.cell? ⟨gb378, 0, none⟩ = some (.int .i64 a1_0) := (blk_cell BK378.out 0).trans rfl; have hcz12_1 : w11.cell? ⟨gb378, 1, none⟩ = some (.string a1_1) := (blk_cell BK378.out 1).trans rfl; have hcz12_2 : w11.cell? ⟨gb378, 2, none⟩ = some (.int .i64 a1_2) := (blk_cell BK378.out 2).trans rfl; have hcz12_3 : w11.cell? ⟨gb378, 3, none⟩ = some (.int .i64 a1_3) := (blk_cell BK378.out 3).trans rfl; have hfz12_0 := blk_frozen BK378.out 0; have hfz12_1 := blk_frozen BK378.out 1; have hfz12_2 := blk_frozen BK378.out 2; have hfz12_3 := blk_frozen BK378.out 3) | (go_at_call 47; (with_reducible refine (sluiceref2_op.calls k a1_0 a1_1 a1_2 a1_3 t380 _ A8.out).mono ?_); rintro e w13 ⟨rfl, hb⟩; have n0_ := Aside0.mk (blk_below (g := gb377) (o := .cells #[.int .i64 a0_0, .int .i64 a0_1] 27 (0, 0)) (by (with_reducible repeat (first | refine blk_drewN ?_ _ | refine blk_drew ?_ | refine blk_alloc ?_ _)); exact BK377.out) hb); have n1_ := Aside0.mk (blk_below (g := gb378) (o := .cells #[.int .i64 a1_0, .string a1_1, .int .i64 a1_2, .int .i64 a1_3] 29 (0, 0)) (by (with_reducible repeat (first | refine blk_drewN ?_ _ | refine blk_drew ?_ | refine blk_alloc ?_ _)); exact BK378.out) hb); have n2_ := Aside0.mk (below_step (by repeat (first | (with_reducible first | exact HB.out | apply below_alloc | apply pw_below_drewN | apply below_drew1 | refine below_set ?_ GE377.out | refine below_set ?_ GE378.out) | exact HB.out)) hb); clear BK377; clear BK378; clear HB; have BK377 := n0_; have BK378 := n1_; have HB := n2_; clear n0_ n1_ n2_; (try clear hb); (try clear hb2); (try clear hk); (try clear hi)))
      go_meet
      case rel => exact ⟨_, (!t380), (by first | rfl | (simp; done) | (simp [*]; done)), H', ⟨by first | omega | exact Nat.le_refl _⟩, ⟨by (with_reducible repeat (first | refine blk_drewN ?_ _ | refine blk_drew ?_ | refine blk_alloc ?_ _)); exact BK377.out⟩, ⟨by (with_reducible repeat (first | refine blk_drewN ?_ _ | refine blk_drew ?_ | refine blk_alloc ?_ _)); exact BK378.out⟩, ⟨by repeat (first | (with_reducible first | exact HB.out | apply below_alloc | apply pw_below_drewN | apply below_drew1 | refine below_set ?_ GE377.out | refine below_set ?_ GE378.out) | exact HB.out)⟩⟩
    · replace c7 := Bool.eq_false_iff.mpr c7
      subst c7
      have H1 : (sluiceref2_EncodeRequest.j0 k true a0_0 a0_1 a1_0 a1_1 a1_2 a1_3) = some (r1, r2) := by rw [if_neg (show ¬ (false = true) by decide)] at H; exact H
      clear H
      have H := H1
      clear H1
      have H' := Aside0.mk H
      clear H
      have hnb14 := NB377_378.out
      have hnc14 := NB378_377.out
      have hcz15_0 : w5.cell? ⟨gb377, 0, none⟩ = some (.int .i64 a0_0) := (blk_cell BK377.out 0).trans rfl
      have hcz15_1 : w5.cell? ⟨gb377, 1, none⟩ = some (.int .i64 a0_1) := (blk_cell BK377.out 1).trans rfl
      have hfz15_0 := blk_frozen BK377.out 0
      have hfz15_1 := blk_frozen BK377.out 1
      go_wp2_with (first | ((with_reducible refine gate_callee (f := 46) rfl ?_); refine goesL_ (some 7) rfl rfl Try.func46 (by kernel_rfl) rfl #[.agg #[.int .i64 a0_0, .int .i64 a0_1]] rfl (by (try simp only [List.map_toArray, List.map_cons, List.map_nil]); first | done | rfl | (simp only [List.length_drop, List.length_take]; rfl)) ?_; (with_reducible refine (sluiceref2_call.calls a0_0 a0_1 false _ A6.out).mono ?_); rintro e w16 ⟨rfl, hb⟩; refine ⟨_, rfl, ?_⟩; have n0_ := Aside0.mk (blk_below (g := gb377) (o := .cells #[.int .i64 a0_0, .int .i64 a0_1] 27 (0, 0)) (by (with_reducible repeat (first | refine blk_drewN ?_ _ | refine blk_drew ?_ | refine blk_alloc ?_ _)); exact BK377.out) hb); have n1_ := Aside0.mk (blk_below (g := gb378) (o := .cells #[.int .i64 a1_0, .string a1_1, .int .i64 a1_2, .int .i64 a1_3] 29 (0, 0)) (by (with_reducible repeat (first | refine blk_drewN ?_ _ | refine blk_drew ?_ | refine blk_alloc ?_ _)); exact BK378.out) hb); have n2_ := Aside0.mk (below_step (by repeat (first | (with_reducible first | exact HB.out | apply below_alloc | apply pw_below_drewN | apply below_drew1 | refine below_set ?_ GE377.out | refine below_set ?_ GE378.out) | exact HB.out)) hb); clear BK377; clear BK378; clear HB; have BK377 := n0_; have BK378 := n1_; have HB := n2_; clear n0_ n1_ n2_; (try clear hb); (try clear hb2); (try clear hk); (try clear hi)))
      go_meet
      case rel => exact ⟨_, (true), (by first | rfl | (simp; done) | (simp [*]; done)), H', ⟨by first | omega | exact Nat.le_refl _⟩, ⟨by (with_reducible repeat (first | refine blk_drewN ?_ _ | refine blk_drew ?_ | refine blk_alloc ?_ _)); exact BK377.out⟩, ⟨by (with_reducible repeat (first | refine blk_drewN ?_ _ | refine blk_drew ?_ | refine blk_alloc ?_ _)); exact BK378.out⟩, ⟨by repeat (first | (with_reducible first | exact HB.out | apply below_alloc | apply pw_below_drewN | apply below_drew1 | refine below_set ?_ GE377.out | refine below_set ?_ GE378.out) | exact HB.out)⟩⟩
  case rest =>
    clear HC3
    try clear c1
    try clear p2
    try clear c4
    try clear c7
    try clear c9
    try clear c14
    try clear hcz10_0
    try clear hcz10_1
    try clear hcz12_0
    try clear hcz12_1
    try clear hcz12_2
    try clear hcz12_3
    try clear hcz15_0
    try clear hcz15_1
    try clear hfz10_0
    try clear hfz10_1
    try clear hfz12_0
    try clear hfz12_1
    try clear hfz12_2
    try clear hfz12_3
    try clear hfz15_0
    try clear hfz15_1
    obtain ⟨kq, x13_2, rfl, HA, HJ2, BK377, BK378, HB⟩ := hcut
    cases kq with
    | zero => exact absurd HA.out (by simp [sluiceref2_EncodeRequest.j0])
    | succ kj2 =>
      have H := HA.out
      clear HA
      simp only [sluiceref2_EncodeRequest.j0] at H
      by_cases c17 : x13_2 = true
      · subst c17
        have H1 : (some (([] : List Int), 21)) = some (r1, r2) := by rw [if_pos rfl] at H; exact H
        clear H
        have H := H1
        clear H1
        simp only [Option.some.injEq, Prod.mk.injEq] at H
        obtain ⟨rfl, rfl⟩ := H
        go_wp2
        go_ret2
        exact ⟨_, by first | rfl | (simp [errW_none, errW_some] <;> rfl) | (simp [*, errW_none, errW_some] <;> rfl), by first | exact Kd.R_nil _ _ _ _ _ | exact Kd.N_nil _ _ _ _ _ | exact Kd.V_nil _ _ _ _ _ | exact Kd.Q_nil _ _ _ _ _ | exact Kd.S_nil _ _ _ _ _, by repeat (first | (with_reducible first | exact HB.out | apply below_alloc | apply pw_below_drewN | apply below_drew1 | refine below_set ?_ GE377.out | refine below_set ?_ GE378.out) | exact HB.out)⟩
      · replace c17 := Bool.eq_false_iff.mpr c17
        subst c17
        have H1 : ((sluiceref2_putCall.f kj2 ([] : List Int) a0_0 a0_1).bind fun t381 => ((sluiceref2_putOp.f kj2 t381 a1_0 a1_1 a1_2 a1_3).bind fun t384 => (some (t384, 0)))) = some (r1, r2) := by rw [if_neg (show ¬ (false = true) by decide)] at H; exact H
        clear H
        have H := H1
        clear H1
        replace H := Option.bind_eq_some_iff.mp H
        obtain ⟨t381, A180, H⟩ := H
        replace H : ((sluiceref2_putOp.f kj2 t381 a1_0 a1_1 a1_2 a1_3).bind fun t384 => (some (t384, 0))) = some (r1, r2) := H
        have A18 := Aside0.mk A180
        clear A180
        replace H := Option.bind_eq_some_iff.mp H
        obtain ⟨t384, A190, H⟩ := H
        replace H : (some (t384, 0)) = some (r1, r2) := H
        have A19 := Aside0.mk A190
        clear A190
        simp only [Option.some.injEq, Prod.mk.injEq] at H
        obtain ⟨rfl, rfl⟩ := H
        try go_wp2
        have n0_ := Aside0.mk (blk_drew BK377.out)
        have n1_ := Aside0.mk (blk_drew BK378.out)
        have n2_ := Aside0.mk (below_drew1 HB.out)
        clear BK377
        clear BK378
        clear HB
        have BK377 := n0_
        have BK378 := n1_
        have HB := n2_
        clear n0_ n1_ n2_
        refine start_ (n := 6) (S := fun w' => w'.cell? ⟨gb377, 0, none⟩ = some (.int .i64 a0_0) ∧ w'.cell? ⟨gb377, 1, none⟩ = some (.int .i64 a0_1) ∧ w'.cell? ⟨gb378, 0, none⟩ = some (.int .i64 a1_0) ∧ w'.cell? ⟨gb378, 1, none⟩ = some (.string a1_1) ∧ w'.cell? ⟨gb378, 2, none⟩ = some (.int .i64 a1_2) ∧ w'.cell? ⟨gb378, 3, none⟩ = some (.int .i64 a1_3)) (ds := []) #[false, false, false, false, false, false] (by kernel_rfl) rfl rfl ⟨(blk_cell BK377.out 0).trans rfl, (blk_cell BK377.out 1).trans rfl, (blk_cell BK378.out 0).trans rfl, (blk_cell BK378.out 1).trans rfl, (blk_cell BK378.out 2).trans rfl, (blk_cell BK378.out 3).trans rfl⟩ (fun hHeld => ?_)
        generalize wc.drew = w20 at BK377 BK378 HB hHeld ⊢
        refine take_ (i := 0) (N := some 14) (v := ?_) (a' := ?_) #[true, false, false, false, false, false] rfl rfl (by kernel_rfl) (fun _ _ _ h => h) (Or.inl ⟨by rfl, ?_⟩) hHeld ?_ ?_
        rotate_left
        · rintro w' ⟨s0, s1, s2, s3, s4, s5⟩
          go_simp
          with_reducible rfl
        rotate_left
        · simp only [Act.put, List.setIfInBounds_toArray, List.set_cons_zero, List.set_cons_succ, i64_w, i32_w]
          rfl
        refine take_ (i := 2) (N := some 16) (v := ?_) (a' := ?_) #[true, false, true, false, false, false] rfl rfl (by kernel_rfl) (fun _ _ _ h => h) (Or.inl ⟨by rfl, ?_⟩) hHeld ?_ ?_
        rotate_left
        · rintro w' ⟨s0, s1, s2, s3, s4, s5⟩
          go_simp
          with_reducible rfl
        rotate_left
        · simp only [Act.put, List.setIfInBounds_toArray, List.set_cons_zero, List.set_cons_succ, i64_w, i32_w]
          rfl
        refine one_ (i := 1) (N := some 15) #[true, true, true, false, false, false] rfl rfl (by kernel_rfl) (by decide) (fun K hK => ?_)
        refine goes_ Try.func90 (by kernel_rfl) rfl #[.slice none 0 0, .agg #[.int .i64 a0_0, .int .i64 a0_1]] (by rfl) rfl rfl (by (try simp only [List.map_toArray, List.map_cons, List.map_nil]); first | done | rfl | (simp only [List.length_drop, List.length_take]; rfl)) ?_
        refine (sluiceref2_putCall.calls kj2 (fun k_ => some k_ = (.slice none 0 0 : Value).ownBlock) (.slice none 0 0) ([] : List Int) a0_0 a0_1 t381 w _ ?side1 ?side2 A18.out).mono ?_
        (case side1 => repeat (first | (with_reducible first | exact HB.out | apply below_alloc | apply pw_below_drewN | apply below_drew1 | refine below_set ?_ GE377.out | refine below_set ?_ GE378.out) | exact HB.out))
        (case side2 => exact Kd.R_nil _ _ _ _ _)
        rintro e w21 ⟨v382, rfl, ho0, hb, hkp⟩
        refine ⟨_, rfl, ?_⟩
        have n0_ := Aside0.mk (blk_kept (by (with_reducible repeat (first | refine blk_drewN ?_ _ | refine blk_drew ?_ | refine blk_alloc ?_ _)); exact BK377.out) hkp (fun hs_ => (fun e_ => by simp [Value.ownBlock] at e_) hs_))
        have n1_ := Aside0.mk (blk_kept (by (with_reducible repeat (first | refine blk_drewN ?_ _ | refine blk_drew ?_ | refine blk_alloc ?_ _)); exact BK378.out) hkp (fun hs_ => (fun e_ => by simp [Value.ownBlock] at e_) hs_))
        have n2_ := Aside0.mk (Kd.R_mono (ok' := fun k_ => True) ho0 (fun k_ hk_ => trivial))
        have n3_ := Aside0.mk (hb)
        clear BK377
        clear BK378
        clear HB
        have BK377 := n0_
        have BK378 := n1_
        have HO383 := n2_
        have HB := n3_
        clear n0_ n1_ n2_ n3_
        (try clear hb)
        (try clear hkp)
        (try clear ho0)
        obtain ⟨Ao22, co22, eo22⟩ := Kd.R_slice HO383.out
        (first | subst eo22 | (injection eo22 with f1_ f2_ f3_; have f4_ := f1_.symm; have f5_ := f3_.symm; clear f1_ f2_ f3_; subst f4_; subst f5_))
        refine hK.out _ _ ⟨(blk_cell BK377.out 0).trans rfl, (blk_cell BK377.out 1).trans rfl, (blk_cell BK378.out 0).trans rfl, (blk_cell BK378.out 1).trans rfl, (blk_cell BK378.out 2).trans rfl, (blk_cell BK378.out 3).trans rfl⟩ (fun hHeld => ?_)
        clear hK K
        refine norm_ (a' := ?_) ?_ ?_
        rotate_left
        · show Act.put _ (some 15) _ = _
          simp only [Act.put, List.setIfInBounds_toArray, List.set_cons_zero, List.set_cons_succ, i64_w, i32_w]
          rfl
        refine one_ (i := 3) (N := some 17) #[true, true, true, true, false, false] rfl rfl (by kernel_rfl) (by decide) (fun K hK => ?_)
        refine goes_ Try.func89 (by kernel_rfl) rfl #[.slice Ao22 t381.length co22, .agg #[.int .i64 a1_0, .string a1_1, .int .i64 a1_2, .int .i64 a1_3]] (by rfl) rfl rfl (by (try simp only [List.map_toArray, List.map_cons, List.map_nil]); first | done | rfl | (simp only [List.length_drop, List.length_take]; rfl)) ?_
        with_reducible refine (sluiceref2_putOp.calls kj2 (fun k_ => some k_ = (.slice Ao22 t381.length co22 : Value).ownBlock) (.slice Ao22 t381.length co22) t381 a1_0 a1_1 a1_2 a1_3 t384 w _ ?side1 ?side2 A19.out).mono ?_
        (case side1 => repeat (first | (with_reducible first | exact HB.out | apply below_alloc | apply pw_below_drewN | apply below_drew1 | refine below_set ?_ GE377.out | refine below_set ?_ GE378.out) | exact HB.out))
        (case side2 => exact Kd.R_tight rfl HO383.out)
        rintro e w23 ⟨v385, rfl, ho0, hb, hkp⟩
        refine ⟨_, rfl, ?_⟩
        have n0_ := Aside0.mk (blk_kept (by (with_reducible repeat (first | refine blk_drewN ?_ _ | refine blk_drew ?_ | refine blk_alloc ?_ _)); exact BK377.out) hkp (fun hs_ => (fun e_ => (Kd.R_ne HO383.out BK377.out (by decide)) e_) hs_))
        have n1_ := Aside0.mk (blk_kept (by (with_reducible repeat (first | refine blk_drewN ?_ _ | refine blk_drew ?_ | refine blk_alloc ?_ _)); exact BK378.out) hkp (fun hs_ => (fun e_ => (Kd.R_ne HO383.out BK378.out (by decide)) e_) hs_))
        have n2_ := Aside0.mk (Kd.R_mono (ok' := fun k_ => True) ho0 (fun k_ hk_ => trivial))
        have n3_ := Aside0.mk (hb)
        clear BK377
        clear BK378
        clear HB
        clear HO383
        have BK377 := n0_
        have BK378 := n1_
        have HO386 := n2_
        have HB := n3_
        clear n0_ n1_ n2_ n3_
        (try clear hb)
        (try clear hkp)
        (try clear ho0)
        refine hK.out _ _ ⟨(blk_cell BK377.out 0).trans rfl, (blk_cell BK377.out 1).trans rfl, (blk_cell BK378.out 0).trans rfl, (blk_cell BK378.out 1).trans rfl, (blk_cell BK378.out 2).trans rfl, (blk_cell BK378.out 3).trans rfl⟩ (fun hHeld => ?_)
        clear hK K
        refine norm_ (a' := ?_) ?_ ?_
        rotate_left
        · show Act.put _ (some 17) _ = _
          simp only [Act.put, List.setIfInBounds_toArray, List.set_cons_zero, List.set_cons_succ, i64_w, i32_w]
          rfl
        refine pure_ (i := 4) (N := some 4) (v := ?_) (a' := ?_) #[true, true, true, true, true, false] rfl rfl (by kernel_rfl) (fun _ _ _ h => h) (Or.inl ⟨by rfl, ?_⟩) ?_ ?_
        rotate_left
        · intro w'
          go_simp
          with_reducible rfl
        rotate_left
        · simp only [Act.put, List.setIfInBounds_toArray, List.set_cons_zero, List.set_cons_succ, i64_w, i32_w]
          rfl
        refine pure_ (i := 5) (N := some 5) (v := ?_) (a' := ?_) #[true, true, true, true, true, true] rfl rfl (by kernel_rfl) (fun _ _ _ h => h) (Or.inl ⟨by rfl, ?_⟩) ?_ ?_
        rotate_left
        · intro w'
          go_simp
          with_reducible rfl
        rotate_left
        · simp only [Act.put, List.setIfInBounds_toArray, List.set_cons_zero, List.set_cons_succ, i64_w, i32_w]
          rfl
        refine done_ (by kernel_rfl) ?_
        try go_wp2
        go_ret2
        exact ⟨_, by first | rfl | (simp [errW_none, errW_some] <;> rfl) | (simp [*, errW_none, errW_some] <;> rfl), by (with_reducible repeat (first | apply Kd.R_alloc | apply Kd.R_drewN | apply Kd.R_drew)); exact HO386.out, by repeat (first | (with_reducible first | exact HB.out | apply below_alloc | apply pw_below_drewN | apply below_drew1 | refine below_set ?_ GE377.out | refine below_set ?_ GE378.out) | exact HB.out)⟩

end Go.Proofs.Ytpgdmmjbhjbbhaa.P
end
section
namespace Go.Proofs.Ytpgdmmjbhjbbhaa.P
open Go.RowKit Go.Proofs.YtpgdmmjbhjbbhaaW.PrintWords Go.Proofs.YtpgdmmjbhjbbhaaW.PrintLast Go.Proofs.YtpgdmmjbhjbbhaaW.PrintMore
attribute [local go_sem] Go.Proofs.Ytpgdmmjbhjbbhaa.StrLe.leq_str Go.Proofs.Ytpgdmmjbhjbbhaa.StrLe.gtr_str
attribute [local go_sem] max2_int min2_int max_two min_two max_three min_three max_four min_four   -- for this text's walks alone
set_option linter.unusedVariables false
set_option linter.unusedSimpArgs false

def sluiceref2_EncodeReply.j0 : Nat → Bool → Int → Int → Int → Int → Option (List Int × Int)
  | 0, _, _, _, _, _ => none
  | k + 1, x13, x399000, x399001, x399002, x399003 => if x13 = true then (some (([] : List Int), 21)) else ((sluiceref2_putCall.f k ([] : List Int) x399000 x399001).bind fun t401 => ((sluiceref2_plain.f k t401 (([x399002] : List Int))).bind fun t407 => ((sluiceref2_signed.f k t407 x399003).bind fun t410 => (some (t410, 0)))))
def sluiceref2_EncodeReply.f (k : Nat) (a0_0 : Int) (a0_1 : Int) (a0_2 : Int) (a0_3 : Int) : Option (List Int × Int) := (sluiceref2_call.f a0_0 a0_1).bind fun t399 => (if t399 = true then ((sluiceref2_within.f a0_2 0 255).bind fun t400 => (sluiceref2_EncodeReply.j0 k (!t400) a0_0 a0_1 a0_2 a0_3)) else (sluiceref2_EncodeReply.j0 k true a0_0 a0_1 a0_2 a0_3))
def sluiceref2_EncodeReply.T3 : Bool × List (List Nat × List Nat) := (true, [([], []), ([0], [0]), ([1], [1]), ([], []), ([3], [3]), ([4], [4]), ([2, 5, 2], [2, 5]), ([], []), ([7], [7]), ([6, 8, 6], [6, 8]), ([9, 9, 0, 1, 2, 3, 4, 5, 6, 7, 8, 9], [9]), ([10, 0, 1, 2, 3, 4, 5, 6, 7, 8, 9, 10], [])])
def sluiceref2_EncodeReply.B3 : List Nat := [0, 1, 3, 0, 8, 24, 63, 0, 128, 511, 1023, 2047]
theorem sluiceref2_EncodeReply.tab3 : rtab .any (opsOf Try.f74 3) = sluiceref2_EncodeReply.T3 := by kernel_rfl
theorem sluiceref2_EncodeReply.bits3 : waitsOk sluiceref2_EncodeReply.T3.2 sluiceref2_EncodeReply.B3 = true := by kernel_rfl
set_option maxHeartbeats 8000000 in
set_option maxRecDepth 100000 in
theorem sluiceref2_EncodeReply.calls (k : Nat) (a0_0 : Int) (a0_1 : Int) (a0_2 : Int) (a0_3 : Int) (r1 : List Int) (r2 : Int) (w : World) (h : sluiceref2_EncodeReply.f k a0_0 a0_1 a0_2 a0_3 = some (r1, r2)) :
    Calls Try.prog 74 #[.agg #[.int .i64 a0_0, .int .i64 a0_1, .int .i64 a0_2, .int .i64 a0_3]] w fun e w' => ∃ v0_ : Value, e = .returned (.tuple #[v0_, .int .i64 r2]) ∧ Kd.R (Kd.int .u8) 5 w' w.heap.size (fun _ => True) v0_ r1 ∧ Below w.heap.size w w' := by
  have hu50 := Try.underlying50
  have hu27 := Try.underlying27
  have HB := Aside0.mk (Below.refl w.heap.size w)
  have H : ((sluiceref2_call.f a0_0 a0_1).bind fun t399 => (if t399 = true then ((sluiceref2_within.f a0_2 0 255).bind fun t400 => (sluiceref2_EncodeReply.j0 k (!t400) a0_0 a0_1 a0_2 a0_3)) else (sluiceref2_EncodeReply.j0 k true a0_0 a0_1 a0_2 a0_3))) = some (r1, r2) := h
  clear h
  have HC2 := Aside0.mk H
  clear H
  go_enter Try.func74, Try.ntmps74
  go_upto_region 1 with (first | ((with_reducible refine gate_dst (N := 1) rfl ?_); refine box_event ?hg (N := 1) ?hd (cs := #[.int .i64 a0_0, .int .i64 a0_1, .int .i64 a0_2, .int .i64 a0_3]) (t := 50) ?hr ?_; (case hd => rfl); (case hg => rfl); (case hr => first | (go_simp; done) | (go_simp; rfl)); intro gb398 hg w3 hbox hb; have n0_ := Aside0.mk (below_step (by repeat (first | (with_reducible first | exact HB.out | apply below_alloc | apply pw_below_drewN | apply below_drew1) | exact HB.out)) hb); have n1_ := Aside0.mk (hbox); have n2_ := Aside0.mk ((by rw [hg]; exact (below_size (by repeat (first | (with_reducible first | exact HB.out | apply below_alloc | apply pw_below_drewN | apply below_drew1) | exact HB.out))) : w.heap.size ≤ gb398)); have n3_ := Aside0.mk ((by rw [hg]; exact (below_size (by repeat (first | (with_reducible first | exact HB.out | apply below_alloc | apply pw_below_drewN | apply below_drew1) | exact HB.out))) : w.heap.size ≤ gb398)); clear HB; have HB := n0_; have BK398 := n1_; have GW398 := n2_; have GE398 := n3_; clear n0_ n1_ n2_ n3_; clear hb hbox hg))
  (try simp only [Act.put, List.setIfInBounds_toArray, List.set_cons_zero, List.set_cons_succ])
  go_cut [13] (fun v13 wc => ∃ (kq : Nat) (x13_1 : Bool), v13 = .bool x13_1 ∧ Aside0 (sluiceref2_EncodeReply.j0 kq x13_1 a0_0 a0_1 a0_2 a0_3 = some (r1, r2)) ∧ Aside0 (kq ≤ k) ∧ Aside0 (wc.heap[gb398]? = some (.cells #[.int .i64 a0_0, .int .i64 a0_1, .int .i64 a0_2, .int .i64 a0_3] 50 (0, 0))) ∧ Aside0 (Below w.heap.size w wc))
  case first =>
    have H := HC2.out
    clear HC2
    replace H := Option.bind_eq_some_iff.mp H
    obtain ⟨t399, A40, H⟩ := H
    replace H : (if t399 = true then ((sluiceref2_within.f a0_2 0 255).bind fun t400 => (sluiceref2_EncodeReply.j0 k (!t400) a0_0 a0_1 a0_2 a0_3)) else (sluiceref2_EncodeReply.j0 k true a0_0 a0_1 a0_2 a0_3)) = some (r1, r2) := H
    have A4 := Aside0.mk A40
    clear A40
    by_cases c5 : t399 = true
    · subst c5
      have H1 : ((sluiceref2_within.f a0_2 0 255).bind fun t400 => (sluiceref2_EncodeReply.j0 k (!t400) a0_0 a0_1 a0_2 a0_3)) = some (r1, r2) := by rw [if_pos rfl] at H; exact H
      clear H
      have H := H1
      clear H1
      replace H := Option.bind_eq_some_iff.mp H
      obtain ⟨t400, A60, H⟩ := H
      replace H : (sluiceref2_EncodeReply.j0 k (!t400) a0_0 a0_1 a0_2 a0_3) = some (r1, r2) := H
      have A6 := Aside0.mk A60
      clear A60
      have H' := Aside0.mk H
      clear H
      have hcz7_0 : w3.cell? ⟨gb398, 0, none⟩ = some (.int .i64 a0_0) := (blk_cell BK398.out 0).trans rfl
      have hcz7_1 : w3.cell? ⟨gb398, 1, none⟩ = some (.int .i64 a0_1) := (blk_cell BK398.out 1).trans rfl
      have hcz7_2 : w3.cell? ⟨gb398, 2, none⟩ = some (.int .i64 a0_2) := (blk_cell BK398.out 2).trans rfl
      have hcz7_3 : w3.cell? ⟨gb398, 3, none⟩ = some (.int .i64 a0_3) := (blk_cell BK398.out 3).trans rfl
      have hfz7_0 := blk_frozen BK398.out 0
      have hfz7_1 := blk_frozen BK398.out 1
      have hfz7_2 := blk_frozen BK398.out 2
      have hfz7_3 := blk_frozen BK398.out 3
      go_wp2_with (first | ((with_reducible refine gate_callee (f := 46) rfl ?_); refine goesL_ (some 6) rfl rfl Try.func46 (by kernel_rfl) rfl #[.agg #[.int .i64 a0_0, .int .i64 a0_1]] rfl (by (try simp only [List.map_toArray, List.map_cons, List.map_nil]); first | done | rfl | (simp only [List.length_drop, List.length_take]; rfl)) ?_; (with_reducible refine (sluiceref2_call.calls a0_0 a0_1 true _ A4.out).mono ?_); rintro e w8 ⟨rfl, hb⟩; refine ⟨_, rfl, ?_⟩; have n0_ := Aside0.mk (blk_below (g := gb398) (o := .cells #[.int .i64 a0_0, .int .i64 a0_1, .int .i64 a0_2, .int .i64 a0_3] 50 (0, 0)) (by (with_reducible repeat (first | refine blk_drewN ?_ _ | refine blk_drew ?_ | refine blk_alloc ?_ _)); exact BK398.out) hb); have n1_ := Aside0.mk (below_step (by repeat (first | (with_reducible first | exact HB.out | apply below_alloc | apply pw_below_drewN | apply below_drew1 | refine below_set ?_ GE398.out) | exact HB.out)) hb); clear BK398; clear HB; have BK398 := n0_; have HB := n1_; clear n0_ n1_; (try clear hb); (try clear hb2); (try clear hk); (try clear hi); have hcz9_0 : w8.cell? ⟨gb398, 0, none⟩ = some (.int .i64 a0_0) := (blk_cell BK398.out 0).trans rfl; have hcz9_1 : w8.cell? ⟨gb398, 1, none⟩ = some (.int .i64 a0_1) := (blk_cell BK398.out 1).trans rfl; have hcz9_2 : w8.cell? ⟨gb398, 2, none⟩ = some (.int .i64 a0_2) := (blk_cell BK398.out 2).trans rfl; have hcz9_3 : w8.cell? ⟨gb398, 3, none⟩ = some (.int .i64 a0_3) := (blk_cell BK398.out 3).trans rfl; have hfz9_0 := blk_frozen BK398.out 0; have hfz9_1 := blk_frozen BK398.out 1; have hfz9_2 := blk_frozen BK398.out 2; have hfz9_3 := blk_frozen BK398.out 3) | (go_at_call 43; (with_reducible refine (sluiceref2_within.calls a0_2 0 255 t400 _ A6.out).mono ?_); rintro e w' ⟨rfl, ⟨nd, rfl⟩⟩))
      go_meet
      case rel => exact ⟨_, (!t400), (by first | rfl | (simp; done) | (simp [*]; done)), H', ⟨by first | omega | exact Nat.le_refl _⟩, ⟨by (with_reducible repeat (first | refine blk_drewN ?_ _ | refine blk_drew ?_ | refine blk_alloc ?_ _)); exact BK398.out⟩, ⟨by repeat (first | (with_reducible first | exact HB.out | apply below_alloc | apply pw_below_drewN | apply below_drew1 | refine below_set ?_ GE398.out) | exact HB.out)⟩⟩
    · replace c5 := Bool.eq_false_iff.mpr c5
      subst c5
      have H1 : (sluiceref2_EncodeReply.j0 k true a0_0 a0_1 a0_2 a0_3) = some (r1, r2) := by rw [if_neg (show ¬ (false = true) by decide)] at H; exact H
      clear H
      have H := H1
      clear H1
      have H' := Aside0.mk H
      clear H
      have hcz10_0 : w3.cell? ⟨gb398, 0, none⟩ = some (.int .i64 a0_0) := (blk_cell BK398.out 0).trans rfl
      have hcz10_1 : w3.cell? ⟨gb398, 1, none⟩ = some (.int .i64 a0_1) := (blk_cell BK398.out 1).trans rfl
      have hcz10_2 : w3.cell? ⟨gb398, 2, none⟩ = some (.int .i64 a0_2) := (blk_cell BK398.out 2).trans rfl
      have hcz10_3 : w3.cell? ⟨gb398, 3, none⟩ = some (.int .i64 a0_3) := (blk_cell BK398.out 3).trans rfl
      have hfz10_0 := blk_frozen BK398.out 0
      have hfz10_1 := blk_frozen BK398.out 1
      have hfz10_2 := blk_frozen BK398.out 2
      have hfz10_3 := blk_frozen BK398.out 3
      go_wp2_with (first | ((with_reducible refine gate_callee (f := 46) rfl ?_); refine goesL_ (some 6) rfl rfl Try.func46 (by kernel_rfl) rfl #[.agg #[.int .i64 a0_0, .int .i64 a0_1]] rfl (by (try simp only [List.map_toArray, List.map_cons, List.map_nil]); first | done | rfl | (simp only [List.length_drop, List.length_take]; rfl)) ?_; (with_reducible refine (sluiceref2_call.calls a0_0 a0_1 false _ A4.out).mono ?_); rintro e w11 ⟨rfl, hb⟩; refine ⟨_, rfl, ?_⟩; have n0_ := Aside0.mk (blk_below (g := gb398) (o := .cells #[.int .i64 a0_0, .int .i64 a0_1, .int .i64 a0_2, .int .i64 a0_3] 50 (0, 0)) (by (with_reducible repeat (first | refine blk_drewN ?_ _ | refine blk_drew ?_ | refine blk_alloc ?_ _)); exact BK398.out) hb); have n1_ := Aside0.mk (below_step (by repeat (first | (with_reducible first | exact HB.out | apply below_alloc | apply pw_below_drewN | apply below_drew1 | refine below_set ?_ GE398.out) | exact HB.out)) hb); clear BK398; clear HB; have BK398 := n0_; have HB := n1_; clear n0_ n1_; (try clear hb); (try clear hb2); (try clear hk); (try clear hi)))
      go_meet
      case rel => exact ⟨_, (true), (by first | rfl | (simp; done) | (simp [*]; done)), H', ⟨by first | omega | exact Nat.le_refl _⟩, ⟨by (with_reducible repeat (first | refine blk_drewN ?_ _ | refine blk_drew ?_ | refine blk_alloc ?_ _)); exact BK398.out⟩, ⟨by repeat (first | (with_reducible first | exact HB.out | apply below_alloc | apply pw_below_drewN | apply below_drew1 | refine below_set ?_ GE398.out) | exact HB.out)⟩⟩
  case rest =>
    clear HC2
    try clear p2
    try clear c4
    try clear c5
    try clear c7
    try clear hcz10_0
    try clear hcz10_1
    try clear hcz10_2
    try clear hcz10_3
    try clear hcz7_0
    try clear hcz7_1
    try clear hcz7_2
    try clear hcz7_3
    try clear hcz9_0
    try clear hcz9_1
    try clear hcz9_2
    try clear hcz9_3
    try clear hfz10_0
    try clear hfz10_1
    try clear hfz10_2
    try clear hfz10_3
    try clear hfz7_0
    try clear hfz7_1
    try clear hfz7_2
    try clear hfz7_3
    try clear hfz9_0
    try clear hfz9_1
    try clear hfz9_2
    try clear hfz9_3
    obtain ⟨kq, x13_1, rfl, HA, HJ1, BK398, HB⟩ := hcut
    cases kq with
    | zero => exact absurd HA.out (by simp [sluiceref2_EncodeReply.j0])
    | succ kj1 =>
      have H := HA.out
      clear HA
      simp only [sluiceref2_EncodeReply.j0] at H
      by_cases c12 : x13_1 = true
      · subst c12
        have H1 : (some (([] : List Int), 21)) = some (r1, r2) := by rw [if_pos rfl] at H; exact H
        clear H
        have H := H1
        clear H1
        simp only [Option.some.injEq, Prod.mk.injEq] at H
        obtain ⟨rfl, rfl⟩ := H
        go_wp2
        go_ret2
        exact ⟨_, by first | rfl | (simp [errW_none, errW_some] <;> rfl) | (simp [*, errW_none, errW_some] <;> rfl), by first | exact Kd.R_nil _ _ _ _ _ | exact Kd.N_nil _ _ _ _ _ | exact Kd.V_nil _ _ _ _ _ | exact Kd.Q_nil _ _ _ _ _ | exact Kd.S_nil _ _ _ _ _, by repeat (first | (with_reducible first | exact HB.out | apply below_alloc | apply pw_below_drewN | apply below_drew1 | refine below_set ?_ GE398.out) | exact HB.out)⟩
      · replace c12 := Bool.eq_false_iff.mpr c12
        subst c12
        have H1 : ((sluiceref2_putCall.f kj1 ([] : List Int) a0_0 a0_1).bind fun t401 => ((sluiceref2_plain.f kj1 t401 (([a0_2] : List Int))).bind fun t407 => ((sluiceref2_signed.f kj1 t407 a0_3).bind fun t410 => (some (t410, 0))))) = some (r1, r2) := by rw [if_neg (show ¬ (false = true) by decide)] at H; exact H
        clear H
        have H := H1
        clear H1
        replace H := Option.bind_eq_some_iff.mp H
        obtain ⟨t401, A130, H⟩ := H
        replace H : ((sluiceref2_plain.f kj1 t401 (([a0_2] : List Int))).bind fun t407 => ((sluiceref2_signed.f kj1 t407 a0_3).bind fun t410 => (some (t410, 0)))) = some (r1, r2) := H
        have A13 := Aside0.mk A130
        clear A130
        obtain ⟨y404, hy404⟩ : ∃ y_ : List Int, y_ = (([a0_2] : List Int)) := ⟨_, rfl⟩
        replace H : ((sluiceref2_plain.f kj1 t401 y404).bind fun t407 => ((sluiceref2_signed.f kj1 t407 a0_3).bind fun t410 => (some (t410, 0)))) = some (r1, r2) := by first | (rw [hy404]; with_reducible exact H) | (have H2_ := (Option.bind_some _ _).symm.trans H; rw [hy404]; with_reducible exact H2_) | (have H2_ := (Option.bind_some _ _).symm.trans H; with_reducible exact H2_) | with_reducible exact H | (rw [hy404]; exact H) | exact H
        have Ny404 := Aside0.mk hy404
        clear hy404
        replace H := Option.bind_eq_some_iff.mp H
        obtain ⟨t407, A140, H⟩ := H
        replace H : ((sluiceref2_signed.f kj1 t407 a0_3).bind fun t410 => (some (t410, 0))) = some (r1, r2) := H
        have A14 := Aside0.mk A140
        clear A140
        replace H := Option.bind_eq_some_iff.mp H
        obtain ⟨t410, A150, H⟩ := H
        replace H : (some (t410, 0)) = some (r1, r2) := H
        have A15 := Aside0.mk A150
        clear A150
        simp only [Option.some.injEq, Prod.mk.injEq] at H
        obtain ⟨rfl, rfl⟩ := H
        try go_wp2
        have n0_ := Aside0.mk (blk_drew BK398.out)
        have n1_ := Aside0.mk (below_drew1 HB.out)
        clear BK398
        clear HB
        have BK398 := n0_
        have HB := n1_
        clear n0_ n1_
        refine start_ (n := 12) (S := fun w' => w'.cell? ⟨gb398, 0, none⟩ = some (.int .i64 a0_0) ∧ w'.cell? ⟨gb398, 1, none⟩ = some (.int .i64 a0_1) ∧ w'.cell? ⟨gb398, 2, none⟩ = some (.int .i64 a0_2) ∧ w'.cell? ⟨gb398, 3, none⟩ = some (.int .i64 a0_3)) (ds := []) #[false, false, false, false, false, false, false, false, false, false, false, false] (by kernel_rfl) rfl rfl ⟨(blk_cell BK398.out 0).trans rfl, (blk_cell BK398.out 1).trans rfl, (blk_cell BK398.out 2).trans rfl, (blk_cell BK398.out 3).trans rfl⟩ (fun hHeld => ?_); refine with_tabW sluiceref2_EncodeReply.tab3 sluiceref2_EncodeReply.bits3 (fun HT_ HW_ => ?_)
        generalize wc.drew = w16 at BK398 HB hHeld ⊢
        refine pure_ (i := 0) (N := some 14) (v := ?_) (a' := ?_) #[true, false, false, false, false, false, false, false, false, false, false, false] rfl rfl (any_of HT_.out (by kernel_rfl)) (fun _ _ _ h => h) (Or.inl ⟨by rfl, ?_⟩) ?_ ?_
        rotate_left
        · intro w'
          go_simp
          with_reducible rfl
        rotate_left
        · simp only [Act.put, List.setIfInBounds_toArray, List.set_cons_zero, List.set_cons_succ, i64_w, i32_w]
          rfl
        refine pure_ (i := 3) (N := some 17) (v := ?_) (a' := ?_) #[true, false, false, true, false, false, false, false, false, false, false, false] rfl rfl (any_of HT_.out (by kernel_rfl)) (fun _ _ _ h => h) (Or.inl ⟨by rfl, ?_⟩) ?_ ?_
        rotate_left
        · intro w'
          go_simp
          with_reducible rfl
        rotate_left
        · simp only [Act.put, List.setIfInBounds_toArray, List.set_cons_zero, List.set_cons_succ, i64_w, i32_w]
          rfl
        refine pure_ (i := 7) (N := some 21) (v := ?_) (a' := ?_) #[true, false, false, true, false, false, false, true, false, false, false, false] rfl rfl (any_of HT_.out (by kernel_rfl)) (fun _ _ _ h => h) (Or.inl ⟨by rfl, ?_⟩) ?_ ?_
        rotate_left
        · intro w'
          go_simp
          with_reducible rfl
        rotate_left
        · simp only [Act.put, List.setIfInBounds_toArray, List.set_cons_zero, List.set_cons_succ, i64_w, i32_w]
          rfl
        refine take_ (i := 1) (N := some 15) (v := ?_) (a' := ?_) #[true, true, false, true, false, false, false, true, false, false, false, false] rfl rfl (take_ofW HT_.out HW_.out (by kernel_rfl)) (fun _ _ _ h => h) (Or.inl ⟨by rfl, ?_⟩) hHeld ?_ ?_
        rotate_left
        · rintro w' ⟨s0, s1, s2, s3⟩
          go_simp
          with_reducible rfl
        rotate_left
        · simp only [Act.put, List.setIfInBounds_toArray, List.set_cons_zero, List.set_cons_succ, i64_w, i32_w]
          rfl
        refine take_ (i := 4) (N := some 18) (v := ?_) (a' := ?_) #[true, true, false, true, true, false, false, true, false, false, false, false] rfl rfl (take_ofW HT_.out HW_.out (by kernel_rfl)) (fun _ _ _ h => h) (Or.inl ⟨by rfl, ?_⟩) hHeld ?_ ?_
        rotate_left
        · rintro w' ⟨s0, s1, s2, s3⟩
          go_simp
          with_reducible rfl
        rotate_left
        · simp only [Act.put, List.setIfInBounds_toArray, List.set_cons_zero, List.set_cons_succ, i64_w, i32_w]
          rfl
        refine take_ (i := 8) (N := some 22) (v := ?_) (a' := ?_) #[true, true, false, true, true, false, false, true, true, false, false, false] rfl rfl (take_ofW HT_.out HW_.out (by kernel_rfl)) (fun _ _ _ h => h) (Or.inl ⟨by rfl, ?_⟩) hHeld ?_ ?_
        rotate_left
        · rintro w' ⟨s0, s1, s2, s3⟩
          go_simp
          with_reducible rfl
        rotate_left
        · simp only [Act.put, List.setIfInBounds_toArray, List.set_cons_zero, List.set_cons_succ, i64_w, i32_w]
          rfl
        refine join_ (σ := Value × Value) 4 #[true, true, true, true, true, true, false, true, true, false, false, false] (fun s_ => [(16, s_.1), (19, s_.2)]) (fun s_ w' => (w'.cell? ⟨gb398, 0, none⟩ = some (.int .i64 a0_0) ∧ w'.cell? ⟨gb398, 1, none⟩ = some (.int .i64 a0_1) ∧ w'.cell? ⟨gb398, 2, none⟩ = some (.int .i64 a0_2) ∧ w'.cell? ⟨gb398, 3, none⟩ = some (.int .i64 a0_3)) ∧ (Kd.R (Kd.int .u8) 5 w' w.heap.size (fun _ => True) s_.1 t401) ∧ (Kd.R (Kd.int .i64) 3 w' w.heap.size (fun _ => True) s_.2 y404) ∧ (w'.heap[gb398]? = some (.cells #[.int .i64 a0_0, .int .i64 a0_1, .int .i64 a0_2, .int .i64 a0_3] 50 (0, 0))) ∧ (Below w.heap.size w w')) ?_ ?_
        rotate_left
        · intro hCont
          refine two_ (i := 2) (j := 5) (Ni := some 16) (Nj := some 19) #[true, true, true, true, true, false, false, true, true, false, false, false] #[true, true, false, true, true, true, false, true, true, false, false, false] rfl rfl rfl rfl (two_of HT_.out (by kernel_rfl)) (by decide) (by decide) (fun K hK => ?_) (fun K hK => ?_)
          · skip
            refine goes_ Try.func90 (by kernel_rfl) rfl #[.slice none 0 0, .agg #[.int .i64 a0_0, .int .i64 a0_1]] (by rfl) rfl rfl (by (try simp only [List.map_toArray, List.map_cons, List.map_nil]); first | done | rfl | (simp only [List.length_drop, List.length_take]; rfl)) ?_
            refine (sluiceref2_putCall.calls kj1 (fun k_ => some k_ = (.slice none 0 0 : Value).ownBlock) (.slice none 0 0) ([] : List Int) a0_0 a0_1 t401 w _ ?side1 ?side2 A13.out).mono ?_
            (case side1 => repeat (first | (with_reducible first | exact HB.out | apply below_alloc | apply pw_below_drewN | apply below_drew1 | refine below_set ?_ GE398.out) | exact HB.out))
            (case side2 => exact Kd.R_nil _ _ _ _ _)
            rintro e w17 ⟨v402, rfl, ho0, hb, hkp⟩
            refine ⟨_, rfl, ?_⟩
            have n0_ := Aside0.mk (blk_kept (by (with_reducible repeat (first | refine blk_drewN ?_ _ | refine blk_drew ?_ | refine blk_alloc ?_ _)); exact BK398.out) hkp (fun hs_ => (fun e_ => by simp [Value.ownBlock] at e_) hs_))
            have n1_ := Aside0.mk (Kd.R_mono (ok' := fun k_ => True) ho0 (fun k_ hk_ => trivial))
            have n2_ := Aside0.mk (hb)
            clear BK398
            clear HB
            have BK398 := n0_
            have HO403 := n1_
            have HB := n2_
            clear n0_ n1_ n2_
            (try clear hb)
            (try clear hkp)
            (try clear ho0)
            refine hK.out _ _ ⟨(blk_cell BK398.out 0).trans rfl, (blk_cell BK398.out 1).trans rfl, (blk_cell BK398.out 2).trans rfl, (blk_cell BK398.out 3).trans rfl⟩ (fun hHeld => ?_)
            clear hK K
            refine norm_ (a' := ?_) ?_ ?_
            rotate_left
            · show Act.put _ (some 16) _ = _
              simp only [Act.put, List.setIfInBounds_toArray, List.set_cons_zero, List.set_cons_succ, i64_w, i32_w]
              rfl
            refine one_ (i := 5) (N := some 19) #[true, true, true, true, true, true, false, true, true, false, false, false] rfl rfl (one_of HT_.out (by kernel_rfl)) (by decide) (fun K hK => ?_)
            refine Kd.R_lit_step (Kd.int .i64) _ 3 ?hg (N := 19) ?hd (xs := ([a0_2] : List Int)) (inner := [.int .i64 a0_2]) (ok := fun _ => True) (okp := fun _ => True) ?hr ?hp (fun _ hk => hk) trivial (Below.refl _ _) (Nat.le_refl _) (by simp) ?_; (case hd => rfl); (case hg => rfl); (case hr => first | (go_simp; done) | (go_simp; rfl)); (case hp => exact (Reps.one (show Kd.M (Kd.int .i64) _ _ _ a0_2 [.int .i64 a0_2] from rfl) (Reps.none _ _)))
            intro v405 w18 ho19 hb hg_ hnew_
            clear hg_ hnew_
            (first | rw [← Ny404.out] at ho19 | (simp only [Int.reduceToNat] at ho19; rw [← Ny404.out] at ho19))
            have n0_ := Aside0.mk (Kd.R_below (by (with_reducible repeat (first | apply Kd.R_alloc | apply Kd.R_drewN | apply Kd.R_drew)); exact HO403.out) hb)
            have n1_ := Aside0.mk (Kd.R_lower ho19 (below_size (by repeat (first | (with_reducible first | exact HB.out | apply below_alloc | apply pw_below_drewN | apply below_drew1 | refine below_set ?_ GE398.out) | exact HB.out))))
            have n2_ := Aside0.mk (blk_below (g := gb398) (o := .cells #[.int .i64 a0_0, .int .i64 a0_1, .int .i64 a0_2, .int .i64 a0_3] 50 (0, 0)) (by (with_reducible repeat (first | refine blk_drewN ?_ _ | refine blk_drew ?_ | refine blk_alloc ?_ _)); exact BK398.out) hb)
            have n3_ := Aside0.mk (below_step (by repeat (first | (with_reducible first | exact HB.out | apply below_alloc | apply pw_below_drewN | apply below_drew1 | refine below_set ?_ GE398.out) | exact HB.out)) hb)
            clear HO403
            clear BK398
            clear HB
            have HO403 := n0_
            have HO406 := n1_
            have BK398 := n2_
            have HB := n3_
            clear n0_ n1_ n2_ n3_
            clear hb ho19
            refine hK.out _ _ ⟨(blk_cell BK398.out 0).trans rfl, (blk_cell BK398.out 1).trans rfl, (blk_cell BK398.out 2).trans rfl, (blk_cell BK398.out 3).trans rfl⟩ (fun hHeld => ?_)
            clear hK K
            refine norm_ (a' := ?_) ?_ ?_
            rotate_left
            · show Act.put _ (some 19) _ = _
              simp only [Act.put, List.setIfInBounds_toArray, List.set_cons_zero, List.set_cons_succ, i64_w, i32_w]
              rfl
            exact norm_ (by simp only [putAll, Act.put, List.setIfInBounds_toArray, List.set_cons_zero, List.set_cons_succ]) (hCont (v402, v405) _ ⟨hHeld, (by (with_reducible repeat (first | apply Kd.R_alloc | apply Kd.R_drewN | apply Kd.R_drew)); exact HO403.out), (by (with_reducible repeat (first | apply Kd.R_alloc | apply Kd.R_drewN | apply Kd.R_drew)); exact HO406.out), (by (with_reducible repeat (first | refine blk_drewN ?_ _ | refine blk_drew ?_ | refine blk_alloc ?_ _)); exact BK398.out), (by repeat (first | (with_reducible first | exact HB.out | apply below_alloc | apply pw_below_drewN | apply below_drew1 | refine below_set ?_ GE398.out) | exact HB.out))⟩)
          · skip
            refine Kd.R_lit_step (Kd.int .i64) _ 3 ?hg (N := 19) ?hd (xs := ([a0_2] : List Int)) (inner := [.int .i64 a0_2]) (ok := fun _ => True) (okp := fun _ => True) ?hr ?hp (fun _ hk => hk) trivial (Below.refl _ _) (Nat.le_refl _) (by simp) ?_; (case hd => rfl); (case hg => rfl); (case hr => first | (go_simp; done) | (go_simp; rfl)); (case hp => exact (Reps.one (show Kd.M (Kd.int .i64) _ _ _ a0_2 [.int .i64 a0_2] from rfl) (Reps.none _ _)))
            intro v405 w17 ho18 hb hg_ hnew_
            clear hg_ hnew_
            (first | rw [← Ny404.out] at ho18 | (simp only [Int.reduceToNat] at ho18; rw [← Ny404.out] at ho18))
            have n0_ := Aside0.mk (Kd.R_lower ho18 (below_size (by repeat (first | (with_reducible first | exact HB.out | apply below_alloc | apply pw_below_drewN | apply below_drew1 | refine below_set ?_ GE398.out) | exact HB.out))))
            have n1_ := Aside0.mk (blk_below (g := gb398) (o := .cells #[.int .i64 a0_0, .int .i64 a0_1, .int .i64 a0_2, .int .i64 a0_3] 50 (0, 0)) (by (with_reducible repeat (first | refine blk_drewN ?_ _ | refine blk_drew ?_ | refine blk_alloc ?_ _)); exact BK398.out) hb)
            have n2_ := Aside0.mk (below_step (by repeat (first | (with_reducible first | exact HB.out | apply below_alloc | apply pw_below_drewN | apply below_drew1 | refine below_set ?_ GE398.out) | exact HB.out)) hb)
            clear BK398
            clear HB
            have HO406 := n0_
            have BK398 := n1_
            have HB := n2_
            clear n0_ n1_ n2_
            clear hb ho18
            refine hK.out _ _ ⟨(blk_cell BK398.out 0).trans rfl, (blk_cell BK398.out 1).trans rfl, (blk_cell BK398.out 2).trans rfl, (blk_cell BK398.out 3).trans rfl⟩ (fun hHeld => ?_)
            clear hK K
            refine norm_ (a' := ?_) ?_ ?_
            rotate_left
            · show Act.put _ (some 19) _ = _
              simp only [Act.put, List.setIfInBounds_toArray, List.set_cons_zero, List.set_cons_succ, i64_w, i32_w]
              rfl
            refine one_ (i := 2) (N := some 16) #[true, true, true, true, true, true, false, true, true, false, false, false] rfl rfl (one_of HT_.out (by kernel_rfl)) (by decide) (fun K hK => ?_)
            refine goes_ Try.func90 (by kernel_rfl) rfl #[.slice none 0 0, .agg #[.int .i64 a0_0, .int .i64 a0_1]] (by rfl) rfl rfl (by (try simp only [List.map_toArray, List.map_cons, List.map_nil]); first | done | rfl | (simp only [List.length_drop, List.length_take]; rfl)) ?_
            refine (sluiceref2_putCall.calls kj1 (fun k_ => some k_ = (.slice none 0 0 : Value).ownBlock) (.slice none 0 0) ([] : List Int) a0_0 a0_1 t401 w _ ?side1 ?side2 A13.out).mono ?_
            (case side1 => repeat (first | (with_reducible first | exact HB.out | apply below_alloc | apply pw_below_drewN | apply below_drew1 | refine below_set ?_ GE398.out) | exact HB.out))
            (case side2 => exact Kd.R_nil _ _ _ _ _)
            rintro e w19 ⟨v402, rfl, ho0, hb, hkp⟩
            refine ⟨_, rfl, ?_⟩
            have n0_ := Aside0.mk (blk_kept (by (with_reducible repeat (first | refine blk_drewN ?_ _ | refine blk_drew ?_ | refine blk_alloc ?_ _)); exact BK398.out) hkp (fun hs_ => (fun e_ => by simp [Value.ownBlock] at e_) hs_))
            have n1_ := Aside0.mk (Kd.R_mono (ok' := fun k_ => True) (Kd.R_keptB (HO406.out) hkp (fun k_ hk_ hs_ => (fun e_ => by simp [Value.ownBlock] at e_) hs_)) (fun k_ hk_ => trivial))
            have n2_ := Aside0.mk (Kd.R_mono (ok' := fun k_ => True) ho0 (fun k_ hk_ => trivial))
            have n3_ := Aside0.mk (hb)
            clear BK398
            clear HO406
            clear HB
            have BK398 := n0_
            have HO406 := n1_
            have HO403 := n2_
            have HB := n3_
            clear n0_ n1_ n2_ n3_
            (try clear hb)
            (try clear hkp)
            (try clear ho0)
            refine hK.out _ _ ⟨(blk_cell BK398.out 0).trans rfl, (blk_cell BK398.out 1).trans rfl, (blk_cell BK398.out 2).trans rfl, (blk_cell BK398.out 3).trans rfl⟩ (fun hHeld => ?_)
            clear hK K
            refine norm_ (a' := ?_) ?_ ?_
            rotate_left
            · show Act.put _ (some 16) _ = _
              simp only [Act.put, List.setIfInBounds_toArray, List.set_cons_zero, List.set_cons_succ, i64_w, i32_w]
              rfl
            exact norm_ (by simp only [putAll, Act.put, List.setIfInBounds_toArray, List.set_cons_zero, List.set_cons_succ]) (hCont (v402, v405) _ ⟨hHeld, (by (with_reducible repeat (first | apply Kd.R_alloc | apply Kd.R_drewN | apply Kd.R_drew)); exact HO403.out), (by (with_reducible repeat (first | apply Kd.R_alloc | apply Kd.R_drewN | apply Kd.R_drew)); exact HO406.out), (by (with_reducible repeat (first | refine blk_drewN ?_ _ | refine blk_drew ?_ | refine blk_alloc ?_ _)); exact BK398.out), (by repeat (first | (with_reducible first | exact HB.out | apply below_alloc | apply pw_below_drewN | apply below_drew1 | refine below_set ?_ GE398.out) | exact HB.out))⟩)
        rintro ⟨v402, v405⟩ w20 ⟨hS_, h0_, h1_, h2_, h3_⟩
        have n0_ : Aside0 (Kd.R (Kd.int .u8) 5 w20 w.heap.size (fun _ => True) v402 t401) := ⟨h0_⟩
        have n1_ : Aside0 (Kd.R (Kd.int .i64) 3 w20 w.heap.size (fun _ => True) v405 y404) := ⟨h1_⟩
        have n2_ : Aside0 (w20.heap[gb398]? = some (.cells #[.int .i64 a0_0, .int .i64 a0_1, .int .i64 a0_2, .int .i64 a0_3] 50 (0, 0))) := ⟨h2_⟩
        have n3_ : Aside0 (Below w.heap.size w w20) := ⟨h3_⟩
        clear BK398
        clear HB
        clear h0_ h1_ h2_ h3_
        have HO403 := n0_
        have HO406 := n1_
        have BK398 := n2_
        have HB := n3_
        clear n0_ n1_ n2_ n3_
        have hHeld : w20.cell? ⟨gb398, 0, none⟩ = some (.int .i64 a0_0) ∧ w20.cell? ⟨gb398, 1, none⟩ = some (.int .i64 a0_1) ∧ w20.cell? ⟨gb398, 2, none⟩ = some (.int .i64 a0_2) ∧ w20.cell? ⟨gb398, 3, none⟩ = some (.int .i64 a0_3) := hS_
        obtain ⟨Ao21, co21, eo21⟩ := Kd.R_slice HO403.out
        (first | subst eo21 | (injection eo21 with f1_ f2_ f3_; have f4_ := f1_.symm; have f5_ := f3_.symm; clear f1_ f2_ f3_; subst f4_; subst f5_))
        obtain ⟨Ao22, co22, eo22⟩ := Kd.R_slice HO406.out
        (first | subst eo22 | (injection eo22 with f1_ f2_ f3_; have f4_ := f1_.symm; have f5_ := f3_.symm; clear f1_ f2_ f3_; subst f4_; subst f5_))
        refine norm_ (a' := ?_) ?_ ?_
        rotate_left
        · simp only [putAll, Act.put, List.setIfInBounds_toArray, List.set_cons_zero, List.set_cons_succ]
          rfl
        refine one_ (i := 6) (N := some 20) #[true, true, true, true, true, true, true, true, true, false, false, false] rfl rfl (one_of HT_.out (by kernel_rfl)) (by decide) (fun K hK => ?_)
        refine goes_ Try.func88 (by kernel_rfl) rfl #[.slice Ao21 t401.length co21, .slice Ao22 y404.length co22] (by rfl) rfl rfl (by (try simp only [List.map_toArray, List.map_cons, List.map_nil]); first | done | rfl | (simp only [List.length_drop, List.length_take]; rfl)) ?_
        with_reducible refine (sluiceref2_plain.calls kj1 (fun k_ => some k_ = (.slice Ao21 t401.length co21 : Value).ownBlock) (.slice Ao21 t401.length co21) t401 _ _ y404 t407 w _ ?side1 ?side2 ?side3 ?side4 A14.out).mono ?_
        (case side1 => repeat (first | (with_reducible first | exact HB.out | apply below_alloc | apply pw_below_drewN | apply below_drew1 | refine below_set ?_ GE398.out) | exact HB.out))
        (case side2 => exact Kd.R_tight rfl HO403.out)
        (case side3 => exact Kd.C_kept_own ((Kd.R_apart' HO406.out (Kd.R_typed HO403.out) (by decide))) (fun k_ hk_ hs_ => (hk_.2) hs_))
        (case side4 => exact (Kd.R_reads' HO406.out).2.1)
        rintro e w23 ⟨v408, rfl, ho0, hb, hkp⟩
        refine ⟨_, rfl, ?_⟩
        have n0_ := Aside0.mk (blk_kept (by (with_reducible repeat (first | refine blk_drewN ?_ _ | refine blk_drew ?_ | refine blk_alloc ?_ _)); exact BK398.out) hkp (fun hs_ => (fun e_ => (Kd.R_ne HO403.out BK398.out (by decide)) e_) hs_))
        have n1_ := Aside0.mk (Kd.R_mono (ok' := fun k_ => True) (Kd.R_keptB ((Kd.R_apart' HO406.out (Kd.R_typed HO403.out) (by decide))) hkp (fun k_ hk_ hs_ => (hk_.2) hs_)) (fun k_ hk_ => trivial))
        have n2_ := Aside0.mk (Kd.R_mono (ok' := fun k_ => True) ho0 (fun k_ hk_ => trivial))
        have n3_ := Aside0.mk (hb)
        clear BK398
        clear HO406
        clear HB
        clear HO403
        have BK398 := n0_
        have HO406 := n1_
        have HO409 := n2_
        have HB := n3_
        clear n0_ n1_ n2_ n3_
        (try clear hb)
        (try clear hkp)
        (try clear ho0)
        obtain ⟨Ao24, co24, eo24⟩ := Kd.R_slice HO409.out
        (first | subst eo24 | (injection eo24 with f1_ f2_ f3_; have f4_ := f1_.symm; have f5_ := f3_.symm; clear f1_ f2_ f3_; subst f4_; subst f5_))
        refine hK.out _ _ ⟨(blk_cell BK398.out 0).trans rfl, (blk_cell BK398.out 1).trans rfl, (blk_cell BK398.out 2).trans rfl, (blk_cell BK398.out 3).trans rfl⟩ (fun hHeld => ?_)
        clear hK K
        refine norm_ (a' := ?_) ?_ ?_
        rotate_left
        · show Act.put _ (some 20) _ = _
          simp only [Act.put, List.setIfInBounds_toArray, List.set_cons_zero, List.set_cons_succ, i64_w, i32_w]
          rfl
        refine one_ (i := 9) (N := some 23) #[true, true, true, true, true, true, true, true, true, true, false, false] rfl rfl (one_of HT_.out (by kernel_rfl)) (by decide) (fun K hK => ?_)
        refine goes_ Try.func106 (by kernel_rfl) rfl #[.slice Ao24 t407.length co24, .int .i64 a0_3] (by rfl) rfl rfl (by (try simp only [List.map_toArray, List.map_cons, List.map_nil]); first | done | rfl | (simp only [List.length_drop, List.length_take]; rfl)) ?_
        with_reducible refine (sluiceref2_signed.calls kj1 (fun k_ => some k_ = (.slice Ao24 t407.length co24 : Value).ownBlock) (.slice Ao24 t407.length co24) t407 a0_3 t410 w _ ?side1 ?side2 A15.out).mono ?_
        (case side1 => repeat (first | (with_reducible first | exact HB.out | apply below_alloc | apply pw_below_drewN | apply below_drew1 | refine below_set ?_ GE398.out) | exact HB.out))
        (case side2 => exact Kd.R_tight rfl HO409.out)
        rintro e w25 ⟨v411, rfl, ho0, hb, hkp⟩
        refine ⟨_, rfl, ?_⟩
        have n0_ := Aside0.mk (blk_kept (by (with_reducible repeat (first | refine blk_drewN ?_ _ | refine blk_drew ?_ | refine blk_alloc ?_ _)); exact BK398.out) hkp (fun hs_ => (fun e_ => (Kd.R_ne HO409.out BK398.out (by decide)) e_) hs_))
        have n1_ := Aside0.mk (Kd.R_mono (ok' := fun k_ => True) (Kd.R_keptB ((Kd.R_apart' HO406.out (Kd.R_typed HO409.out) (by decide))) hkp (fun k_ hk_ hs_ => (hk_.2) hs_)) (fun k_ hk_ => trivial))
        have n2_ := Aside0.mk (Kd.R_mono (ok' := fun k_ => True) ho0 (fun k_ hk_ => trivial))
        have n3_ := Aside0.mk (hb)
        clear BK398
        clear HO406
        clear HB
        clear HO409
        have BK398 := n0_
        have HO406 := n1_
        have HO412 := n2_
        have HB := n3_
        clear n0_ n1_ n2_ n3_
        (try clear hb)
        (try clear hkp)
        (try clear ho0)
        refine hK.out _ _ ⟨(blk_cell BK398.out 0).trans rfl, (blk_cell BK398.out 1).trans rfl, (blk_cell BK398.out 2).trans rfl, (blk_cell BK398.out 3).trans rfl⟩ (fun hHeld => ?_)
        clear hK K
        refine norm_ (a' := ?_) ?_ ?_
        rotate_left
        · show Act.put _ (some 23) _ = _
          simp only [Act.put, List.setIfInBounds_toArray, List.set_cons_zero, List.set_cons_succ, i64_w, i32_w]
          rfl
        refine pure_ (i := 10) (N := some 2) (v := ?_) (a' := ?_) #[true, true, true, true, true, true, true, true, true, true, true, false] rfl rfl (any_of HT_.out (by kernel_rfl)) (fun _ _ _ h => h) (Or.inl ⟨by rfl, ?_⟩) ?_ ?_
        rotate_left
        · intro w'
          go_simp
          with_reducible rfl
        rotate_left
        · simp only [Act.put, List.setIfInBounds_toArray, List.set_cons_zero, List.set_cons_succ, i64_w, i32_w]
          rfl
        refine pure_ (i := 11) (N := some 3) (v := ?_) (a' := ?_) #[true, true, true, true, true, true, true, true, true, true, true, true] rfl rfl (any_of HT_.out (by kernel_rfl)) (fun _ _ _ h => h) (Or.inl ⟨by rfl, ?_⟩) ?_ ?_
        rotate_left
        · intro w'
          go_simp
          with_reducible rfl
        rotate_left
        · simp only [Act.put, List.setIfInBounds_toArray, List.set_cons_zero, List.set_cons_succ, i64_w, i32_w]
          rfl
        refine done_ (done_of HT_.out (by kernel_rfl)) ?_
        try go_wp2
        go_ret2
        exact ⟨_, by first | rfl | (simp [errW_none, errW_some] <;> rfl) | (simp [*, errW_none, errW_some] <;> rfl), by (with_reducible repeat (first | apply Kd.R_alloc | apply Kd.R_drewN | apply Kd.R_drew)); exact HO412.out, by repeat (first | (with_reducible first | exact HB.out | apply below_alloc | apply pw_below_drewN | apply below_drew1 | refine below_set ?_ GE398.out) | exact HB.out)⟩

end Go.Proofs.Ytpgdmmjbhjbbhaa.P
end
section
namespace Go.Proofs.Ytpgdmmjbhjbbhaa.Lw
open Go Go.RowKit Go.Proofs.Ytpgdmmjbhjbbhaa.P Go.Proofs.Ytpgdmmjbhjbbhaa.Sp Go.Proofs.Ytpgdmmjbhjbbhaa.Vd Go.Proofs.Ytpgdmmjbhjbbhaa.En Go.Proofs.Ytpgdmmjbhjbbhaa.Wr Go.Proofs.Ytpgdmmjbhjbbhaa.Rd Go.Proofs.YtpgdmmjbhjbbhaaW.PrintWords Go.Proofs.YtpgdmmjbhjbbhaaW.PrintLast Go.Proofs.YtpgdmmjbhjbbhaaW.PrintMore
set_option linter.unusedVariables false
set_option linter.unusedSimpArgs false
theorem lit_row {l : List Int} {w : World} {b : Nat} {t : TypeId} {cs : Array Value} (h : w.heap[b]? = some (.cells cs t (0, 0))) (hc : cs.toList = l.map (Value.int .u8)) (hl : l.length ≤ 1000) : Kd.C (Kd.int .u8) w (some ⟨b, 0, none⟩) l.length l := by
  obtain rfl : cs = (l.map (Value.int .u8)).toArray := by rw [← hc]
  refine Kd.C_of_reads (d := (0 : Int)) (h1 := fun _ => rfl) ⟨rfl, by omega, fun _ => ⟨_, rfl, fun j hj => ?_⟩⟩
  rw [add_plain, cell_of_row _ b j _ t (0, 0) h]
  simp only [List.getElem?_toArray, List.getElem?_map, List.getElem?_eq_getElem hj, Option.map_some, List.getD_eq_getElem?_getD, Option.getD_some]
set_option maxHeartbeats 1000000 in
set_option maxRecDepth 100000 in
theorem lent_calls (A : Option Addr) (c : Nat) (b : List Int) (w : World) (hr : Kd.C (Kd.int .u8) w A b.length b) (hl : b.length ≤ 140737488351232) :
    Calls Try.prog 19 #[.slice A b.length c] w fun e w' => ∃ v : Value, e = .returned v ∧ Kd.R (Kd.int .u8) 5 w' w.heap.size (fun _ => True) v (b ++ [165, 90]) ∧ Below w.heap.size w w' := by
  have HR := Aside0.mk hr
  have HL := Aside0.mk hl
  have HZ0 : Aside0 ((0 + b.length) * 1 ≤ 140737488355328) := ⟨by omega⟩
  clear hr hl
  go_enter Try.func19, Try.ntmps19
  go_wp2_with (refine Kd.R_append_row (Value.int .u8) (0 : Int) (h1 := fun _ => rfl) (w0 := w) w.heap.size rfl (.const (.slice none 0 0)) (.tmp 4) 36 5 (.int .u8 0) 1 rfl Try.underlying36 inf8 rfl (by omega) (.slice none 0 0) [] b A b.length c (fun _ => True) rfl rfl (fun _ _ => trivial) (Kd.R_nil _ _ _ _ _) HR.out (Below.refl _ _) (Nat.le_refl _) HZ0.out ?_)
  intro v1 w1 hR1 hB1 hg1 hat1
  have HR1 := Aside0.mk hR1
  have HB1 := Aside0.mk hB1
  clear hR1 hB1 hg1 hat1
  have HC2 : Aside0 (Kd.C (Kd.int .u8) (w1.alloc (.cells #[.int .u8 165, .int .u8 90] 5)) (some ⟨w1.heap.size, 0, none⟩) 2 [165, 90]) := ⟨lit_row (l := [165, 90]) (heap_alloc_new w1 _) rfl (by decide)⟩
  have HR2 : Aside0 (Kd.R (Kd.int .u8) 5 (w1.alloc (.cells #[.int .u8 165, .int .u8 90] 5)) w.heap.size (fun _ => True) v1 b) := ⟨Kd.R_below HR1.out ((Below.refl _ _).alloc (Nat.le_refl _) _)⟩
  have HB2 : Aside0 (Below w.heap.size w (w1.alloc (.cells #[.int .u8 165, .int .u8 90] 5))) := ⟨HB1.out.alloc HB1.out.size _⟩
  have HZ2 : Aside0 ((b.length + 2) * 1 ≤ 140737488355328) := ⟨by have := HL.out; omega⟩
  have HS2 : Aside0 (w.heap.size ≤ (w1.alloc (.cells #[.int .u8 165, .int .u8 90] 5)).heap.size) := ⟨HB2.out.size⟩
  go_wp2_with (refine Kd.R_append_row (Value.int .u8) (0 : Int) (h1 := fun _ => rfl) (w0 := w) w.heap.size rfl (.tmp 6) (.tmp 7) 36 5 (.int .u8 0) 1 rfl Try.underlying36 inf8 rfl (by omega) v1 b [165, 90] (some ⟨w1.heap.size, 0, none⟩) 2 2 (fun _ => True) rfl rfl (fun _ _ => trivial) HR2.out HC2.out HB2.out HS2.out HZ2.out ?_)
  intro v2 w2 hR2 hB2 hg2 hat2
  have HR3 := Aside0.mk hR2
  have HB3 := Aside0.mk hB2
  clear hR2 hB2 hg2 hat2
  go_wp2
  go_ret
  exact ⟨v2, rfl, HR3.out, HB3.out⟩
theorem toList_inj {a b : ByteArray} : a.toList = b.toList ↔ a = b := by
  rw [ByteArray.toList_eq, ByteArray.toList_eq]
  constructor
  · intro h
    cases a with
    | mk x =>
      cases b with
      | mk y =>
        have : x = y := Array.toList_inj.mp h
        rw [this]
  · rintro rfl; rfl
theorem strOf_inj {a b : List Int} (ha : IsB a) (hb : IsB b) : (strOfNums a).toList = (strOfNums b).toList ↔ a = b := by
  rw [toList_inj]
  constructor
  · intro h
    rw [← bytesOf_strOf ha, ← bytesOf_strOf hb, h]
  · rintro rfl; rfl
theorem alike_law {a b : List Int} (ha : IsB a) (hb : IsB b) : sluicelaw2_alike.f a b = some (dcd (a = b)) := by
  unfold sluicelaw2_alike.f
  congr 1
  exact bool_dcd (by rw [beq_iff_eq, strOf_inj ha hb])
theorem alike_calls (A0 : Option Addr) (c0 : Nat) (a : List Int) (A1 : Option Addr) (c1 : Nat) (b : List Int) (w : World) (ha : In w A0 c0 a) (hb : In w A1 c1 b) :
    Calls Try.prog 37 #[.slice A0 a.length c0, .slice A1 b.length c1] w fun e w' => e = .returned (.bool (dcd (a = b))) ∧ Below w.heap.size w w' :=
  (sluicelaw2_alike.calls A0 c0 a A1 c1 b _ w ha.row ha.cap hb.row hb.cap (alike_law ha.isB hb.isB)).mono fun e w' h => ⟨h.1, h.2.below⟩
end Go.Proofs.Ytpgdmmjbhjbbhaa.Lw
end
section
namespace Go.Proofs.Ytpgdmmjbhjbbhaa.Lw
open Go Go.RowKit Go.Proofs.Ytpgdmmjbhjbbhaa.P Go.Proofs.Ytpgdmmjbhjbbhaa.Sp Go.Proofs.Ytpgdmmjbhjbbhaa.Vd Go.Proofs.Ytpgdmmjbhjbbhaa.En Go.Proofs.Ytpgdmmjbhjbbhaa.Wr Go.Proofs.Ytpgdmmjbhjbbhaa.Rd Go.Proofs.YtpgdmmjbhjbbhaaW.PrintWords Go.Proofs.YtpgdmmjbhjbbhaaW.PrintLast Go.Proofs.YtpgdmmjbhjbbhaaW.PrintMore
set_option linter.unusedVariables false
set_option linter.unusedSimpArgs false
end Go.Proofs.Ytpgdmmjbhjbbhaa.Lw
end
section
namespace Go.Proofs.Ytpgdmmjbhjbbhaa.Lw
open Go Go.RowKit Go.Proofs.Ytpgdmmjbhjbbhaa.P Go.Proofs.Ytpgdmmjbhjbbhaa.Sp Go.Proofs.Ytpgdmmjbhjbbhaa.Vd Go.Proofs.Ytpgdmmjbhjbbhaa.En Go.Proofs.Ytpgdmmjbhjbbhaa.Wr Go.Proofs.Ytpgdmmjbhjbbhaa.Rd Go.Proofs.YtpgdmmjbhjbbhaaW.PrintWords Go.Proofs.YtpgdmmjbhjbbhaaW.PrintLast Go.Proofs.YtpgdmmjbhjbbhaaW.PrintMore
set_option linter.unusedVariables false
set_option linter.unusedSimpArgs false
theorem In.below {w w1 : World} {A : Option Addr} {c : Nat} {l : List Int} (h : In w A c l) (hb : Below w.heap.size w w1) : In w1 A c l := ⟨Kd.C_below h.row hb, h.isB, h.cap⟩
theorem in_of_R {w : World} {base : Nat} {ok : Nat → Prop} {v : Value} {l : List Int} (h : Kd.R (Kd.int .u8) 5 w base ok v l) (hb : IsB l) : ∃ A c, v = .slice A l.length c ∧ In w A c l := by
  obtain ⟨A, c, hv, hc, hC⟩ := Kd.R_reads h
  exact ⟨A, c, hv, hC, hb, hc⟩
theorem in_lit {l : List Int} {w : World} {b : Nat} {t : TypeId} {cs : Array Value} {n : Nat} (h : w.heap[b]? = some (.cells cs t (0, 0))) (hc : cs.toList = l.map (Value.int .u8)) (hl : l.length ≤ 1000) (hb : IsB l) (hn : n = l.length) : In w (some ⟨b, 0, none⟩) n l := ⟨lit_row h hc hl, hb, by omega⟩
theorem views_nil (w : World) (A : Option Addr) : Kd.C k87 w A ([] : List S87).length [] := ⟨rfl, by simp, fun h => by simp at h⟩
theorem isB_of {l : List Int} (h : ∀ x ∈ l, decide (0 ≤ x ∧ x ≤ 255) = true) : IsB l := fun x hx => of_decide_eq_true (h x hx)
theorem mEx_isI : isI mEx.op.a ∧ isI mEx.op.b := ⟨by unfold isI; decide, by unfold isI; decide⟩
def bM : List Int := [3, 1, 107, 10, 0, 2, 1]
def bS : List Int := [0, 1, 0, 7, 0]
def bQ : List Int := [3, 1, 2, 1, 107, 10, 0]
def bR : List Int := [0, 9, 0, 5]
theorem bM_B : IsB bM := isB_of (by decide)
theorem bS_B : IsB bS := isB_of (by decide)
theorem bQ_B : IsB bQ := isB_of (by decide)
theorem bR_B : IsB bR := isB_of (by decide)
theorem enc_ex (w : World) : Calls Try.prog 16 #[.agg #[.int .i64 3, .string ⟨#[107]⟩, .int .i64 10, .int .i64 0, .int .i64 2, .int .i64 1, .int .i64 0, .int .i64 0, .int .i64 0, .int .i64 0, .int .i64 0, .int .i64 0, .int .i64 0, .int .i64 0, .string ⟨#[]⟩, .int .i64 0, .int .i64 0, .int .i64 0, .int .i64 0, .slice none 0 0]] w fun e w' => ∃ A c, e = .returned (.tuple #[.slice A 7 c, .int .i64 0]) ∧ In w' A c bM ∧ Below w.heap.size w w' := by
  refine (encode_calls mEx mEx_isI none 0 w (views_nil _ _) (Nat.le_refl _)).mono ?_
  rintro e w' ⟨v, he, hR, hb⟩
  rw [lay_right mEx_right] at he hR
  simp only [mEx_bytes] at hR
  obtain ⟨A, c, rfl, hi⟩ := in_of_R hR bM_B
  exact ⟨A, c, he, hi, hb⟩
theorem dec_ex (w : World) (A : Option Addr) (c : Nat) (h : In w A c bM) : Calls Try.prog 18 #[.slice A 7 c] w fun e w' => ∃ A1 c1, e = .returned (.tuple #[.agg (MVc mEx A1 c1), .int .i64 0, .int .i64 0]) ∧ Below w.heap.size w w' := by
  refine (decode_calls w A c bM h).mono ?_
  rintro e w' ⟨hb, A1, c1, he, _⟩
  have hw : whole zMsg msgP bM = (mEx, 0, 0) := by rw [show bM = msgB mEx from mEx_bytes.symm]; exact whole_back msgP_codec _ mEx_right
  rw [hw] at he
  exact ⟨A1, c1, he, hb⟩
theorem seg_ex (w : World) : Calls Try.prog 27 #[.agg #[.int .i64 0, .int .i64 1, .int .i64 0, .int .i64 7, .slice none 0 0]] w fun e w' => ∃ A c, e = .returned (.tuple #[.slice A 5 c, .int .i64 0]) ∧ In w' A c bS ∧ Below w.heap.size w w' := by
  refine (encseg_calls sEx none 0 w ⟨rfl, by decide, fun h => absurd h (by decide)⟩ (Nat.le_refl _) (fun x h => by cases h)).mono ?_
  rintro e w' ⟨v, he, hR, hb⟩
  rw [lay_right sEx_right] at he hR
  simp only [sEx_bytes] at hR
  obtain ⟨A, c, rfl, hi⟩ := in_of_R hR bS_B
  exact ⟨A, c, he, hi, hb⟩
theorem req_ex (w : World) (A : Option Addr) (c : Nat) (h : In w A c bQ) : Calls Try.prog 33 #[.slice A 7 c] w fun e w' => e = .returned (.tuple #[.agg #[.int .i64 3, .int .i64 1], .agg #[.int .i64 2, .string ⟨#[107]⟩, .int .i64 5, .int .i64 0], .int .i64 0, .int .i64 0]) ∧ Below w.heap.size w w' := by
  refine (decreq_calls w A c bQ h).mono ?_
  rintro e w' ⟨hb, he⟩
  have hw : whole (z25, zOp) reqP bQ = (qEx, 0, 0) := by rw [show bQ = reqB qEx from qEx_bytes.symm]; exact whole_back reqP_codec _ qEx_right
  rw [hw] at he
  exact ⟨he, hb⟩
theorem rep_ex (w : World) : Calls Try.prog 34 #[.agg #[.int .i64 0, .int .i64 9, .int .i64 0, .int .i64 (-3)]] w fun e w' => ∃ A c, e = .returned (.tuple #[.slice A 4 c, .int .i64 0]) ∧ In w' A c bR ∧ Below w.heap.size w w' := by
  refine (encrep_calls rEx w (by unfold isI; decide)).mono ?_
  rintro e w' ⟨v, he, hR, hb⟩
  rw [lay_right rEx_right] at he hR
  simp only [rEx_bytes] at hR
  obtain ⟨A, c, rfl, hi⟩ := in_of_R hR bR_B
  exact ⟨A, c, he, hi, hb⟩
theorem val_ex (w : World) (A1 : Option Addr) (c1 : Nat) : Calls Try.prog 21 #[.agg (MVc mEx A1 c1)] w fun e w' => e = .returned (.bool true) ∧ Below w.heap.size w w' := by
  refine (valid_calls mEx mEx_isI A1 c1 w (views_nil _ _) (Nat.zero_le _)).mono ?_
  rintro e w' ⟨he, hb⟩
  rw [dcd_pos mEx_right] at he
  exact ⟨he, hb⟩
theorem alike_ex (A0 : Option Addr) (c0 : Nat) (A1 : Option Addr) (c1 : Nat) (b : List Int) (n : Nat) (hn : b.length = n) (w : World) (ha : In w A0 c0 b) (hb : In w A1 c1 b) :
    Calls Try.prog 37 #[.slice A0 n c0, .slice A1 n c1] w fun e w' => e = .returned (.bool true) ∧ Below w.heap.size w w' := by
  subst hn
  refine (alike_calls A0 c0 b A1 c1 b w ha hb).mono ?_
  rintro e w' ⟨he, hb⟩
  rw [dcd_pos rfl] at he
  exact ⟨he, hb⟩
end Go.Proofs.Ytpgdmmjbhjbbhaa.Lw
end
