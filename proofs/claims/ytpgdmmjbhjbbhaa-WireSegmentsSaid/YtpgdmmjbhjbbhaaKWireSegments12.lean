/- texts that the proof needs, laid together by a program of this session. -/
import Derived.Test.YtpgdmmjbhjbbhaaKWireSegments11
section
namespace Go.Proofs.Ytpgdmmjbhjbbhaa.P
open Go.RowKit Go.Proofs.YtpgdmmjbhjbbhaaW.PrintWords Go.Proofs.YtpgdmmjbhjbbhaaW.PrintLast Go.Proofs.YtpgdmmjbhjbbhaaW.PrintMore
attribute [local go_sem] Go.Proofs.Ytpgdmmjbhjbbhaa.StrLe.leq_str Go.Proofs.Ytpgdmmjbhjbbhaa.StrLe.gtr_str
attribute [local go_sem] max2_int min2_int max_two min_two max_three min_three max_four min_four   -- for this text's walks alone
set_option linter.unusedVariables false
set_option linter.unusedSimpArgs false

def sluiceref2_reader_done.f (s0_0 : List Int) (s0_1 : Int) (s0_2 : Bool) : Option (Int × Int × Int × Bool) := if s0_2 = true then (some (s0_1, 20, s0_1, s0_2)) else (if s0_1 < (s0_0.length : Int) then (some (s0_1, 20, s0_1, s0_2)) else (some (0, 0, s0_1, s0_2)))
set_option maxHeartbeats 8000000 in
set_option maxRecDepth 100000 in
theorem sluiceref2_reader_done.calls (g : Nat) (s0_0 : List Int) (s0_1 : Int) (s0_2 : Bool) (r1 : Int) (r2 : Int) (r3 : Int) (r4 : Bool) (w0 w : World) (hI : IsS132 w0 w g s0_0 s0_1 s0_2) (hB : Below w0.heap.size w0 w) (h : sluiceref2_reader_done.f s0_0 s0_1 s0_2 = some (r1, r2, r3, r4)) :
    Calls Try.prog 93 #[.pointer (some ⟨g, 0, none⟩)] w fun e w' => e = .returned (.tuple #[.int .i64 r1, .int .i64 r2]) ∧ IsS132 w0 w' g s0_0 r3 r4 ∧ Below w0.heap.size w0 w' ∧ KeepBut w w' g none := by
  have HI0 := Aside0.mk hI
  have HK := Aside0.mk (KeepBut.refl w g none)
  have HL := Aside0.mk hB.size
  clear hI
  have HW0 := Aside0.mk hB.size
  have HB := Aside0.mk hB
  clear hB
  have H : (if s0_2 = true then (some (s0_1, 20, s0_1, s0_2)) else (if s0_1 < (s0_0.length : Int) then (some (s0_1, 20, s0_1, s0_2)) else (some (0, 0, s0_1, s0_2)))) = some (r1, r2, r3, r4) := h
  clear h
  by_cases c2 : s0_2 = true
  · subst c2
    have H1 : (some (s0_1, 20, s0_1, true)) = some (r1, r2, r3, r4) := by rw [if_pos rfl] at H; exact H
    clear H
    have H := H1
    clear H1
    simp only [Option.some.injEq, Prod.mk.injEq] at H
    obtain ⟨rfl, rfl, rfl, rfl⟩ := H
    obtain ⟨ASz3_0, cSz3_0, HGz3, hgz3, HSz3_0⟩ := HI0.out
    have hcz3_0 := cellS132_0 HGz3
    have hcz3_1 := cellS132_1 HGz3
    have hcz3_2 := cellS132_2 HGz3
    have hfz3_1 := blk_frozen HGz3 1
    have hfz3_2 := blk_frozen HGz3 2
    clear HGz3 hgz3
    go_enter Try.func93, Try.ntmps93
    go_wp2
    repeat (go_quiet (fail); try go_wp2)
    go_ret2
    exact ⟨by first | rfl | (simp [errW_none, errW_some] <;> rfl) | (simp [*, errW_none, errW_some] <;> rfl), by repeat (first | (with_reducible first | exact HI0.out | apply IsS132.alloc | apply IsS132.drewN | apply IsS132.drew | apply IsS132.set_1 | apply IsS132.set_2) | exact HI0.out), by repeat (first | (with_reducible first | exact HB.out | apply below_alloc | apply pw_below_drewN | apply below_drew1 | refine below_set ?_ (IsS132.ge HI0.out)) | exact HB.out), by repeat (first | (with_reducible first | exact HK.out | apply KeepBut.set_ | apply keep_drewN | apply keep_drew | apply keep_alloc) | exact HK.out)⟩
  · replace c2 := Bool.eq_false_iff.mpr c2
    subst c2
    have H1 : (if s0_1 < (s0_0.length : Int) then (some (s0_1, 20, s0_1, false)) else (some (0, 0, s0_1, false))) = some (r1, r2, r3, r4) := by rw [if_neg (show ¬ (false = true) by decide)] at H; exact H
    clear H
    have H := H1
    clear H1
    by_cases c4 : s0_1 < (s0_0.length : Int)
    · rw [if_pos c4] at H
      have c4b0 : decide (s0_1 < (s0_0.length : Int)) = true := decide_eq_true c4
      clear c4
      simp only [Option.some.injEq, Prod.mk.injEq] at H
      obtain ⟨rfl, rfl, rfl, rfl⟩ := H
      obtain ⟨ASz5_0, cSz5_0, HGz5, hgz5, HSz5_0⟩ := HI0.out
      have hcz5_0 := cellS132_0 HGz5
      have hcz5_1 := cellS132_1 HGz5
      have hcz5_2 := cellS132_2 HGz5
      have hfz5_1 := blk_frozen HGz5 1
      have hfz5_2 := blk_frozen HGz5 2
      clear HGz5 hgz5
      go_enter Try.func93, Try.ntmps93
      go_wp2
      repeat (go_quiet (fail); try go_wp2)
      go_ret2
      exact ⟨by first | rfl | (simp [errW_none, errW_some] <;> rfl) | (simp [*, errW_none, errW_some] <;> rfl), by repeat (first | (with_reducible first | exact HI0.out | apply IsS132.alloc | apply IsS132.drewN | apply IsS132.drew | apply IsS132.set_1 | apply IsS132.set_2) | exact HI0.out), by repeat (first | (with_reducible first | exact HB.out | apply below_alloc | apply pw_below_drewN | apply below_drew1 | refine below_set ?_ (IsS132.ge HI0.out)) | exact HB.out), by repeat (first | (with_reducible first | exact HK.out | apply KeepBut.set_ | apply keep_drewN | apply keep_drew | apply keep_alloc) | exact HK.out)⟩
    · rw [if_neg c4] at H
      have c4b0 : decide (s0_1 < (s0_0.length : Int)) = false := decide_eq_false c4
      clear c4
      simp only [Option.some.injEq, Prod.mk.injEq] at H
      obtain ⟨rfl, rfl, rfl, rfl⟩ := H
      obtain ⟨ASz6_0, cSz6_0, HGz6, hgz6, HSz6_0⟩ := HI0.out
      have hcz6_0 := cellS132_0 HGz6
      have hcz6_1 := cellS132_1 HGz6
      have hcz6_2 := cellS132_2 HGz6
      have hfz6_1 := blk_frozen HGz6 1
      have hfz6_2 := blk_frozen HGz6 2
      clear HGz6 hgz6
      go_enter Try.func93, Try.ntmps93
      go_wp2
      repeat (go_quiet (fail); try go_wp2)
      go_ret2
      exact ⟨by first | rfl | (simp [errW_none, errW_some] <;> rfl) | (simp [*, errW_none, errW_some] <;> rfl), by repeat (first | (with_reducible first | exact HI0.out | apply IsS132.alloc | apply IsS132.drewN | apply IsS132.drew | apply IsS132.set_1 | apply IsS132.set_2) | exact HI0.out), by repeat (first | (with_reducible first | exact HB.out | apply below_alloc | apply pw_below_drewN | apply below_drew1 | refine below_set ?_ (IsS132.ge HI0.out)) | exact HB.out), by repeat (first | (with_reducible first | exact HK.out | apply KeepBut.set_ | apply keep_drewN | apply keep_drew | apply keep_alloc) | exact HK.out)⟩

mutual
def sluicelaw2_back.j0 : Nat → List Int → Bool → Option (Bool × List Int)
  | 0, _, _ => none
  | k + 1, x0, x6 => sluicelaw2_back.l0 k x0 x6 0
def sluicelaw2_back.l0 : Nat → List Int → Bool → Int → Option (Bool × List Int)
  | 0, _, _, _ => none
  | k + 1, x0, x6, x7 => if x7 < (x0.length : Int) then (if 0 ≤ x7 then (sluicelaw2_back.l0 k (x0.set (x7 : Int).toNat 85) x6 (wrap64 (x7 + 1))) else (none)) else (some (x6, x0))
end
def sluicelaw2_back.f (k : Nat) (l0 : List Int) (l1 : List Int) : Option (Bool × List Int) := if (l0.length : Int) = (wrap64 ((l1.length : Int) + 2)) then (if 0 ≤ (l1.length : Int) then (if (l1.length : Int) ≤ (l0.length : Int) then ((sluicelaw2_alike.f (l0.take ((l1.length : Int) : Int).toNat) l1).bind fun t323 => (if t323 = true then (if (l1.length : Int) < (l0.length : Int) then (if (rd l0 (l1.length : Int)) = 165 then (if 0 ≤ (wrap64 ((l1.length : Int) + 1)) then (if (wrap64 ((l1.length : Int) + 1)) < (l0.length : Int) then (sluicelaw2_back.j0 k l0 ((rd l0 (wrap64 ((l1.length : Int) + 1))) == 90)) else (none)) else (none)) else (sluicelaw2_back.j0 k l0 false)) else (none)) else (sluicelaw2_back.j0 k l0 false))) else (none)) else (none)) else (sluicelaw2_back.j0 k l0 false)
set_option maxHeartbeats 8000000 in
set_option maxRecDepth 100000 in
theorem sluicelaw2_back.calls (k : Nat) (P0_ : Nat → Prop) (u9000_ : Value) (l0 : List Int) (A1 : Option Addr) (c1 : Nat) (l1 : List Int) (r1 : Bool) (r2 : List Int) (w0 w : World) (hB : Below w0.heap.size w0 w) (ho0 : Kd.R (Kd.int .u8) 5 w w0.heap.size P0_ u9000_ l0) (hr1 : ∀ W_, Kept w W_ (fun k_ => P0_ k_) → Kd.C (Kd.int .u8) W_ A1 l1.length l1) (hc1 : l1.length ≤ c1) (h : sluicelaw2_back.f k l0 l1 = some (r1, r2)) :
    Calls Try.prog 42 #[u9000_, .slice A1 l1.length c1] w fun e w' => e = .returned (.bool r1) ∧ Kd.R (Kd.int .u8) 5 w' w0.heap.size (fun k_ => (P0_ k_ ∨ w.heap.size ≤ k_)) u9000_ r2 ∧ Below w0.heap.size w0 w' ∧ Kept w w' (fun k_ => P0_ k_) := by
  have HO0 := Aside0.mk (show Kd.R (Kd.int .u8) 5 w w0.heap.size (fun k_ => (P0_ k_ ∨ w.heap.size ≤ k_)) u9000_ l0 from Kd.R_mono ho0 (fun k_ hk => (.inl hk)))
  have HR1 := Aside0.mk hr1
  have HC1 := Aside0.mk hc1
  clear hr1 hc1
  have HK := Aside0.mk (Kept.refl w (fun k_ => P0_ k_))
  have HW0 := Aside0.mk hB.size
  have HB := Aside0.mk hB
  clear hB
  have H : (if (l0.length : Int) = (wrap64 ((l1.length : Int) + 2)) then (if 0 ≤ (l1.length : Int) then (if (l1.length : Int) ≤ (l0.length : Int) then ((sluicelaw2_alike.f (l0.take ((l1.length : Int) : Int).toNat) l1).bind fun t323 => (if t323 = true then (if (l1.length : Int) < (l0.length : Int) then (if (rd l0 (l1.length : Int)) = 165 then (if 0 ≤ (wrap64 ((l1.length : Int) + 1)) then (if (wrap64 ((l1.length : Int) + 1)) < (l0.length : Int) then (sluicelaw2_back.j0 k l0 ((rd l0 (wrap64 ((l1.length : Int) + 1))) == 90)) else (none)) else (none)) else (sluicelaw2_back.j0 k l0 false)) else (none)) else (sluicelaw2_back.j0 k l0 false))) else (none)) else (none)) else (sluicelaw2_back.j0 k l0 false)) = some (r1, r2) := h
  clear h
  have HC3 := Aside0.mk H
  clear H
  go_enter Try.func42, Try.ntmps42
  go_upto_region 2 with (fail)
  go_cut [6] (fun v6 wc => ∃ (kq : Nat) (x6_2 : Bool), v6 = .bool x6_2 ∧ Aside0 (sluicelaw2_back.j0 kq l0 x6_2 = some (r1, r2)) ∧ Aside0 (kq ≤ k) ∧ Aside0 (Kd.R (Kd.int .u8) 5 wc w0.heap.size (fun k_ => (P0_ k_ ∨ w.heap.size ≤ k_)) u9000_ l0) ∧ Aside0 (Kept w wc (fun k_ => P0_ k_)) ∧ Aside0 (Below w0.heap.size w0 wc))
  case first =>
    have H := HC3.out
    clear HC3
    by_cases c4 : (l0.length : Int) = (wrap64 ((l1.length : Int) + 2))
    · rw [if_pos c4] at H
      have c4b0 : ((l0.length : Int) == (wrap64 ((l1.length : Int) + 2))) = true := beq_iff_eq.mpr c4
      have c4b1 : ((l0.length : Int) != (wrap64 ((l1.length : Int) + 2))) = false := bne_eq_false_iff_eq.mpr c4
      clear c4
      (first | rw [c4b0] | (simp only [i64_w, i32_w]; rw [c4b0]) | skip)
      by_cases c5 : 0 ≤ (l1.length : Int)
      · rw [if_pos c5] at H
        have c5b0 := eq_true c5
        have c5b1 : decide (0 ≤ (l1.length : Int)) = true := decide_eq_true c5
        clear c5
        by_cases c6 : (l1.length : Int) ≤ (l0.length : Int)
        · rw [if_pos c6] at H
          have c6b0 := eq_true c6
          have c6b1 : decide ((l1.length : Int) ≤ (l0.length : Int)) = true := decide_eq_true c6
          clear c6
          obtain ⟨y319, hy319⟩ : ∃ y_ : List Int, y_ = (l0.take ((l1.length : Int) : Int).toNat) := ⟨_, rfl⟩
          replace H : ((sluicelaw2_alike.f y319 l1).bind fun t323 => (if t323 = true then (if (l1.length : Int) < (l0.length : Int) then (if (rd l0 (l1.length : Int)) = 165 then (if 0 ≤ (wrap64 ((l1.length : Int) + 1)) then (if (wrap64 ((l1.length : Int) + 1)) < (l0.length : Int) then (sluicelaw2_back.j0 k l0 ((rd l0 (wrap64 ((l1.length : Int) + 1))) == 90)) else (none)) else (none)) else (sluicelaw2_back.j0 k l0 false)) else (none)) else (sluicelaw2_back.j0 k l0 false))) = some (r1, r2) := by first | (rw [hy319]; with_reducible exact H) | (have H2_ := (Option.bind_some _ _).symm.trans H; rw [hy319]; with_reducible exact H2_) | (have H2_ := (Option.bind_some _ _).symm.trans H; with_reducible exact H2_) | with_reducible exact H | (rw [hy319]; exact H) | exact H
          have Ny319 := Aside0.mk hy319
          clear hy319
          replace H := Option.bind_eq_some_iff.mp H
          obtain ⟨t323, A70, H⟩ := H
          replace H : (if t323 = true then (if (l1.length : Int) < (l0.length : Int) then (if (rd l0 (l1.length : Int)) = 165 then (if 0 ≤ (wrap64 ((l1.length : Int) + 1)) then (if (wrap64 ((l1.length : Int) + 1)) < (l0.length : Int) then (sluicelaw2_back.j0 k l0 ((rd l0 (wrap64 ((l1.length : Int) + 1))) == 90)) else (none)) else (none)) else (sluicelaw2_back.j0 k l0 false)) else (none)) else (sluicelaw2_back.j0 k l0 false)) = some (r1, r2) := H
          have A7 := Aside0.mk A70
          clear A70
          by_cases c8 : t323 = true
          · subst c8
            have H1 : (if (l1.length : Int) < (l0.length : Int) then (if (rd l0 (l1.length : Int)) = 165 then (if 0 ≤ (wrap64 ((l1.length : Int) + 1)) then (if (wrap64 ((l1.length : Int) + 1)) < (l0.length : Int) then (sluicelaw2_back.j0 k l0 ((rd l0 (wrap64 ((l1.length : Int) + 1))) == 90)) else (none)) else (none)) else (sluicelaw2_back.j0 k l0 false)) else (none)) = some (r1, r2) := by rw [if_pos rfl] at H; exact H
            clear H
            have H := H1
            clear H1
            by_cases c9 : (l1.length : Int) < (l0.length : Int)
            · rw [if_pos c9] at H
              have c9b0 : decide ((l1.length : Int) < (l0.length : Int)) = true := decide_eq_true c9
              have c9b1 : decide (l1.length < l0.length) = true := decide_eq_true (Int.ofNat_lt.mp c9)
              clear c9
              by_cases c10 : (rd l0 (l1.length : Int)) = 165
              · rw [if_pos c10] at H
                have c10b0 : ((rd l0 (l1.length : Int)) == 165) = true := beq_iff_eq.mpr c10
                have c10b1 : ((rd l0 (l1.length : Int)) != 165) = false := bne_eq_false_iff_eq.mpr c10
                clear c10
                obtain ⟨ji11, hji11⟩ : ∃ j_ : Int, (wrap64 ((l1.length : Int) + 1)) = j_ := ⟨_, rfl⟩
                replace H : (if 0 ≤ (ji11) then (if (ji11) < (l0.length : Int) then (sluicelaw2_back.j0 k l0 ((rd l0 (ji11)) == 90)) else (none)) else (none)) = some (r1, r2) := by first | (rw [hji11] at H; exact H) | (simp only [hji11] at H ⊢; exact H)
                (try rw [hji11] at A7)
                have hji11w : (IntKind.i64.wrap ((l1.length : Int) + 1)) = ji11 := (i64_w _).trans hji11
                by_cases c12 : 0 ≤ (ji11)
                · rw [if_pos c12] at H
                  have c12b0 : decide (0 ≤ (ji11)) = true := decide_eq_true c12
                  clear c12
                  by_cases c13 : (ji11) < (l0.length : Int)
                  · rw [if_pos c13] at H
                    have c13b0 : decide ((ji11) < (l0.length : Int)) = true := decide_eq_true c13
                    clear c13
                    have H' := Aside0.mk H
                    clear H
                    obtain ⟨Ao14, co14, eo14⟩ := Kd.R_slice HO0.out
                    subst eo14
                    have q15 : ((l1.length : Int) : Int) ≤ ((l0.length : Int) : Int) := of_decide_eq_true (by first | (with_reducible assumption) | assumption)
                    obtain ⟨i015, hi015, _, hsz15, _⟩ := info_parts info5
                    have hroom15 : l0.length ≤ co14 := (Kd.R_reads' HO0.out).2.1
                    have hC15 : Kd.C (Kd.int .u8) _ Ao14 l0.length l0 := (Kd.R_reads' HO0.out).2.2
                    have hcut15 := cut_to (P := Try.prog) 36 5 .i64 Try.underlying36 hi015 Ao14 l0.length co14 (l1.length : Int) (of_decide_eq_true (by first | (with_reducible assumption) | assumption)) q15 hroom15
                    have hr15 := Kd.C_take (m := ((l1.length : Int) : Int).toNat) hC15 (by omega)
                    have hy15 : y319.length = ((l1.length : Int) : Int).toNat := (by rw [Ny319.out, List.length_take]; omega)
                    rw [← Ny319.out] at hr15
                    rw [← hy15] at hcut15
                    have HR322 := Aside0.mk hr15
                    have HC322 := Aside0.mk (show y319.length ≤ co14 from by omega)
                    clear hr15 hC15 hroom15 hi015 hsz15
                    have KY15 := Aside0.mk hy15
                    clear hy15
                    have KL15 := Aside0.mk (show ((l1.length : Int) : Int).toNat ≤ l0.length from by omega)
                    replace q15 := eq_true q15
                    go_wp2_with (first | (go_at_call 37; (with_reducible refine (sluicelaw2_alike.calls _ _ y319 _ _ l1 true _ ?side1 ?side2 ?side3 ?side4 A7.out).mono ?_); (case side1 => repeat (first | exact (by repeat (first | (with_reducible exact HR322.out) | (with_reducible refine Kd.C_alloc ?_ _) | (with_reducible refine Kd.C_drewN ?_ _) | (with_reducible refine Kd.C_drew ?_) | exact HR322.out)) | (with_reducible refine Kd.C_alloc ?_ _) | (with_reducible refine Kd.C_drewN ?_ _) | (with_reducible refine Kd.C_drew ?_))); (case side2 => exact HC322.out); (case side3 => exact Kd.C_kept_now HR1.out (by repeat (first | (with_reducible first | exact HK.out | apply Kept.alloc | apply Kept.drewN | apply Kept.drew) | exact HK.out))); (case side4 => exact HC1.out); rintro e w' ⟨rfl, ⟨nd, rfl⟩⟩; have p324 : 0 ≤ ((l1.length : Int) : Int) := of_decide_eq_true (by first | (with_reducible assumption) | assumption); have q324 : (l1.length : Int) < (l0.length : Int) := of_decide_eq_true (by first | (with_reducible assumption) | assumption); obtain ⟨ad324, e324, hx324_0⟩ := Kd.at_int (Kd.R_reads' HO0.out).2.2 (l1.length : Int) p324 q324; cases e324; (try simp only [Go.IntWalk.toNatUp] at hx324_0); replace p324 := eq_true p324; replace q324 := eq_true q324; have p325 : 0 ≤ ((ji11) : Int) := of_decide_eq_true (by first | (with_reducible assumption) | assumption); have q325 : (ji11) < (l0.length : Int) := of_decide_eq_true (by first | (with_reducible assumption) | assumption); obtain ⟨ad325, e325, hx325_0⟩ := Kd.at_int (Kd.R_reads' HO0.out).2.2 (ji11) p325 q325; obtain rfl : ad324 = ad325 := (by injection e325); replace p325 := eq_true p325; replace q325 := eq_true q325))
                    go_meet
                    case rel => exact ⟨_, (((rd l0 (ji11)) == 90)), (by first | rfl | (simp; done) | (simp only [← hji11] <;> (first | rfl | simp)) | (simp [*]; done)), H', ⟨by first | omega | exact Nat.le_refl _⟩, ⟨by (with_reducible repeat (first | apply Kd.R_alloc | apply Kd.R_drewN | apply Kd.R_drew)); exact HO0.out⟩, ⟨by repeat (first | (with_reducible first | exact HK.out | apply Kept.alloc | apply Kept.drewN | apply Kept.drew) | exact HK.out)⟩, ⟨by repeat (first | (with_reducible first | exact HB.out | apply below_alloc | apply pw_below_drewN | apply below_drew1) | exact HB.out)⟩⟩
                  · rw [if_neg c13] at H
                    exact absurd H (by simp)
                · rw [if_neg c12] at H
                  exact absurd H (by simp)
              · rw [if_neg c10] at H
                have c10b0 : ((rd l0 (l1.length : Int)) == 165) = false := beq_eq_false_iff_ne.mpr c10
                have c10b1 : ((rd l0 (l1.length : Int)) != 165) = true := bne_iff_ne.mpr c10
                have H' := Aside0.mk H
                clear H
                obtain ⟨Ao16, co16, eo16⟩ := Kd.R_slice HO0.out
                subst eo16
                have q17 : ((l1.length : Int) : Int) ≤ ((l0.length : Int) : Int) := of_decide_eq_true (by first | (with_reducible assumption) | assumption)
                obtain ⟨i017, hi017, _, hsz17, _⟩ := info_parts info5
                have hroom17 : l0.length ≤ co16 := (Kd.R_reads' HO0.out).2.1
                have hC17 : Kd.C (Kd.int .u8) _ Ao16 l0.length l0 := (Kd.R_reads' HO0.out).2.2
                have hcut17 := cut_to (P := Try.prog) 36 5 .i64 Try.underlying36 hi017 Ao16 l0.length co16 (l1.length : Int) (of_decide_eq_true (by first | (with_reducible assumption) | assumption)) q17 hroom17
                have hr17 := Kd.C_take (m := ((l1.length : Int) : Int).toNat) hC17 (by omega)
                have hy17 : y319.length = ((l1.length : Int) : Int).toNat := (by rw [Ny319.out, List.length_take]; omega)
                rw [← Ny319.out] at hr17
                rw [← hy17] at hcut17
                have HR322 := Aside0.mk hr17
                have HC322 := Aside0.mk (show y319.length ≤ co16 from by omega)
                clear hr17 hC17 hroom17 hi017 hsz17
                have KY17 := Aside0.mk hy17
                clear hy17
                have KL17 := Aside0.mk (show ((l1.length : Int) : Int).toNat ≤ l0.length from by omega)
                replace q17 := eq_true q17
                go_wp2_with (first | (go_at_call 37; (with_reducible refine (sluicelaw2_alike.calls _ _ y319 _ _ l1 true _ ?side1 ?side2 ?side3 ?side4 A7.out).mono ?_); (case side1 => repeat (first | exact (by repeat (first | (with_reducible exact HR322.out) | (with_reducible refine Kd.C_alloc ?_ _) | (with_reducible refine Kd.C_drewN ?_ _) | (with_reducible refine Kd.C_drew ?_) | exact HR322.out)) | (with_reducible refine Kd.C_alloc ?_ _) | (with_reducible refine Kd.C_drewN ?_ _) | (with_reducible refine Kd.C_drew ?_))); (case side2 => exact HC322.out); (case side3 => exact Kd.C_kept_now HR1.out (by repeat (first | (with_reducible first | exact HK.out | apply Kept.alloc | apply Kept.drewN | apply Kept.drew) | exact HK.out))); (case side4 => exact HC1.out); rintro e w' ⟨rfl, ⟨nd, rfl⟩⟩; have p324 : 0 ≤ ((l1.length : Int) : Int) := of_decide_eq_true (by first | (with_reducible assumption) | assumption); have q324 : (l1.length : Int) < (l0.length : Int) := of_decide_eq_true (by first | (with_reducible assumption) | assumption); obtain ⟨ad324, e324, hx324_0⟩ := Kd.at_int (Kd.R_reads' HO0.out).2.2 (l1.length : Int) p324 q324; cases e324; (try simp only [Go.IntWalk.toNatUp] at hx324_0); replace p324 := eq_true p324; replace q324 := eq_true q324))
                go_meet
                case rel => exact ⟨_, (false), (by first | rfl | (simp; done) | (simp [*]; done)), H', ⟨by first | omega | exact Nat.le_refl _⟩, ⟨by (with_reducible repeat (first | apply Kd.R_alloc | apply Kd.R_drewN | apply Kd.R_drew)); exact HO0.out⟩, ⟨by repeat (first | (with_reducible first | exact HK.out | apply Kept.alloc | apply Kept.drewN | apply Kept.drew) | exact HK.out)⟩, ⟨by repeat (first | (with_reducible first | exact HB.out | apply below_alloc | apply pw_below_drewN | apply below_drew1) | exact HB.out)⟩⟩
            · rw [if_neg c9] at H
              exact absurd H (by simp)
          · replace c8 := Bool.eq_false_iff.mpr c8
            subst c8
            have H1 : (sluicelaw2_back.j0 k l0 false) = some (r1, r2) := by rw [if_neg (show ¬ (false = true) by decide)] at H; exact H
            clear H
            have H := H1
            clear H1
            have H' := Aside0.mk H
            clear H
            obtain ⟨Ao18, co18, eo18⟩ := Kd.R_slice HO0.out
            subst eo18
            have q19 : ((l1.length : Int) : Int) ≤ ((l0.length : Int) : Int) := of_decide_eq_true (by first | (with_reducible assumption) | assumption)
            obtain ⟨i019, hi019, _, hsz19, _⟩ := info_parts info5
            have hroom19 : l0.length ≤ co18 := (Kd.R_reads' HO0.out).2.1
            have hC19 : Kd.C (Kd.int .u8) _ Ao18 l0.length l0 := (Kd.R_reads' HO0.out).2.2
            have hcut19 := cut_to (P := Try.prog) 36 5 .i64 Try.underlying36 hi019 Ao18 l0.length co18 (l1.length : Int) (of_decide_eq_true (by first | (with_reducible assumption) | assumption)) q19 hroom19
            have hr19 := Kd.C_take (m := ((l1.length : Int) : Int).toNat) hC19 (by omega)
            have hy19 : y319.length = ((l1.length : Int) : Int).toNat := (by rw [Ny319.out, List.length_take]; omega)
            rw [← Ny319.out] at hr19
            rw [← hy19] at hcut19
            have HR322 := Aside0.mk hr19
            have HC322 := Aside0.mk (show y319.length ≤ co18 from by omega)
            clear hr19 hC19 hroom19 hi019 hsz19
            have KY19 := Aside0.mk hy19
            clear hy19
            have KL19 := Aside0.mk (show ((l1.length : Int) : Int).toNat ≤ l0.length from by omega)
            replace q19 := eq_true q19
            go_wp2_with (first | (go_at_call 37; (with_reducible refine (sluicelaw2_alike.calls _ _ y319 _ _ l1 false _ ?side1 ?side2 ?side3 ?side4 A7.out).mono ?_); (case side1 => repeat (first | exact (by repeat (first | (with_reducible exact HR322.out) | (with_reducible refine Kd.C_alloc ?_ _) | (with_reducible refine Kd.C_drewN ?_ _) | (with_reducible refine Kd.C_drew ?_) | exact HR322.out)) | (with_reducible refine Kd.C_alloc ?_ _) | (with_reducible refine Kd.C_drewN ?_ _) | (with_reducible refine Kd.C_drew ?_))); (case side2 => exact HC322.out); (case side3 => exact Kd.C_kept_now HR1.out (by repeat (first | (with_reducible first | exact HK.out | apply Kept.alloc | apply Kept.drewN | apply Kept.drew) | exact HK.out))); (case side4 => exact HC1.out); rintro e w' ⟨rfl, ⟨nd, rfl⟩⟩))
            go_meet
            case rel => exact ⟨_, (false), (by first | rfl | (simp; done) | (simp [*]; done)), H', ⟨by first | omega | exact Nat.le_refl _⟩, ⟨by (with_reducible repeat (first | apply Kd.R_alloc | apply Kd.R_drewN | apply Kd.R_drew)); exact HO0.out⟩, ⟨by repeat (first | (with_reducible first | exact HK.out | apply Kept.alloc | apply Kept.drewN | apply Kept.drew) | exact HK.out)⟩, ⟨by repeat (first | (with_reducible first | exact HB.out | apply below_alloc | apply pw_below_drewN | apply below_drew1) | exact HB.out)⟩⟩
        · rw [if_neg c6] at H
          exact absurd H (by simp)
      · rw [if_neg c5] at H
        exact absurd H (by simp)
    · rw [if_neg c4] at H
      have c4b0 : ((l0.length : Int) == (wrap64 ((l1.length : Int) + 2))) = false := beq_eq_false_iff_ne.mpr c4
      have c4b1 : ((l0.length : Int) != (wrap64 ((l1.length : Int) + 2))) = true := bne_iff_ne.mpr c4
      (first | rw [c4b0] | (simp only [i64_w, i32_w]; rw [c4b0]) | skip)
      have H' := Aside0.mk H
      clear H
      obtain ⟨Ao20, co20, eo20⟩ := Kd.R_slice HO0.out
      subst eo20
      go_wp2
      go_meet
      case rel => exact ⟨_, (false), (by first | rfl | (simp; done) | (simp [*]; done)), H', ⟨by first | omega | exact Nat.le_refl _⟩, ⟨by (with_reducible repeat (first | apply Kd.R_alloc | apply Kd.R_drewN | apply Kd.R_drew)); exact HO0.out⟩, ⟨by repeat (first | (with_reducible first | exact HK.out | apply Kept.alloc | apply Kept.drewN | apply Kept.drew) | exact HK.out)⟩, ⟨by repeat (first | (with_reducible first | exact HB.out | apply below_alloc | apply pw_below_drewN | apply below_drew1) | exact HB.out)⟩⟩
  case rest =>
    clear HC3
    try clear c1
    try clear q1
    try clear p2
    try clear p3
    try clear q3
    try clear hx3
    try clear c4
    try clear c4b0
    try clear c4b1
    try clear c5
    try clear c5b0
    try clear c5b1
    try clear c6
    try clear c6b0
    try clear c6b1
    try clear p6
    try clear c8
    try clear c9
    try clear c9b0
    try clear c9b1
    try clear c10
    try clear c10b0
    try clear c10b1
    try clear c12
    try clear c12b0
    try clear c13
    try clear c13b0
    try clear q15
    try clear q17
    try clear q19
    try clear hx324_0
    try clear hx325_0
    try clear p324
    try clear p325
    try clear q15
    try clear q17
    try clear q19
    try clear q324
    try clear q325
    obtain ⟨kq, x6_2, rfl, HA, HJ2, HO_0, HK, HB⟩ := hcut
    cases kq with
    | zero => exact absurd HA.out (by simp [sluicelaw2_back.j0])
    | succ kj2 =>
      have H := HA.out
      clear HA
      simp only [sluicelaw2_back.j0] at H
      have H' := Aside0.mk H
      clear H
      go_wp2
      go_loopg [7] kj2 (fun kq v7 w' => ∃ (x0_2 : List Int) (x7_2 : Int), v7 = .int .i64 x7_2 ∧ Aside0 (sluicelaw2_back.l0 kq x0_2 x6_2 x7_2 = some (r1, r2)) ∧ Aside0 (kq ≤ kj2) ∧ Aside0 (Kd.R (Kd.int .u8) 5 w' w0.heap.size (fun k_ => (P0_ k_ ∨ w.heap.size ≤ k_)) u9000_ x0_2) ∧ Aside0 (Kept w w' (fun k_ => P0_ k_)) ∧ Aside0 (Below w0.heap.size w0 w'))
      case atStart => exact ⟨(l0), (0), (by first | rfl | (simp; done) | (simp [*]; done)), H', ⟨Nat.le_refl _⟩, ⟨by (with_reducible repeat (first | apply Kd.R_alloc | apply Kd.R_drewN | apply Kd.R_drew)); exact HO_0.out⟩, ⟨by repeat (first | (with_reducible first | exact HK.out | apply Kept.alloc | apply Kept.drewN | apply Kept.drew) | exact HK.out)⟩, ⟨by repeat (first | (with_reducible first | exact HB.out | apply below_alloc | apply pw_below_drewN | apply below_drew1) | exact HB.out)⟩⟩
      case round =>
        clear H'
        try clear c1
        try clear q1
        try clear p2
        try clear p3
        try clear q3
        try clear hx3
        try clear c4
        try clear c4b0
        try clear c4b1
        try clear c5
        try clear c5b0
        try clear c5b1
        try clear c6
        try clear c6b0
        try clear c6b1
        try clear p6
        try clear c8
        try clear c9
        try clear c9b0
        try clear c9b1
        try clear c10
        try clear c10b0
        try clear c10b1
        try clear c12
        try clear c12b0
        try clear c13
        try clear c13b0
        try clear q15
        try clear q17
        try clear q19
        try clear hx324_0
        try clear hx325_0
        try clear p2
        try clear p3
        try clear p324
        try clear p325
        try clear p6
        try clear q1
        try clear q15
        try clear q17
        try clear q19
        try clear q3
        try clear q324
        try clear q325
        obtain ⟨x0_2, x7_2, rfl, HA, HK2, HO_0, HK, HB⟩ := hrel
        cases gk with
        | zero => exact absurd HA.out (by simp [sluicelaw2_back.l0])
        | succ k2 =>
          have H := HA.out
          clear HA
          simp only [sluicelaw2_back.l0] at H
          by_cases c21 : x7_2 < (x0_2.length : Int)
          · rw [if_pos c21] at H
            have c21b0 : decide (x7_2 < (x0_2.length : Int)) = true := decide_eq_true c21
            clear c21
            by_cases c22 : 0 ≤ x7_2
            · rw [if_pos c22] at H
              have c22b0 : decide (0 ≤ x7_2) = true := decide_eq_true c22
              clear c22
              obtain ⟨y326, hy326⟩ : ∃ y_ : List Int, y_ = (x0_2.set (x7_2 : Int).toNat 85) := ⟨_, rfl⟩
              replace H : (sluicelaw2_back.l0 k2 y326 x6_2 (wrap64 (x7_2 + 1))) = some (r1, r2) := by first | (rw [hy326]; with_reducible exact H) | (have H2_ := (Option.bind_some _ _).symm.trans H; rw [hy326]; with_reducible exact H2_) | (have H2_ := (Option.bind_some _ _).symm.trans H; with_reducible exact H2_) | with_reducible exact H | (rw [hy326]; exact H) | exact H
              have Ny326 := Aside0.mk hy326
              clear hy326
              have H' := Aside0.mk H
              clear H
              obtain ⟨Ao24, co24, eo24⟩ := Kd.R_slice HO_0.out
              subst eo24
              have p23 : 0 ≤ (x7_2 : Int) := of_decide_eq_true (by first | (with_reducible assumption) | assumption)
              have q23 : (x7_2 : Int) < ((x0_2.length : Int) : Int) := of_decide_eq_true (by first | (with_reducible assumption) | assumption)
              obtain ⟨go23, co23, eo23, gb23, gl23, cl23, HG23⟩ := Kd.R_form HO_0.out (by omega)
              (first | cases eo23 | (injection eo23 with ea_ en_ ec_; (first | subst ea_ | (injection ea_ with ea_; subst ea_)); subst ec_; clear en_))
              have GB23 := Aside0.mk gb23
              have GG23 := Aside0.mk HG23
              clear gb23 gl23 HG23
              have HMgo23 := Aside0.mk (show (P0_ go23 ∨ w.heap.size ≤ go23) from (HO_0.out.1 _ rfl))
              obtain ⟨hx23_0, hf23_0⟩ := Kd.R_celln 0 HO_0.out (x7_2 : Int) p23 q23
              replace p23 := eq_true p23
              replace q23 := eq_true q23
              have HP25 := Kd.R_putg HO_0.out (x7_2 : Int) 85
              go_wp2_with (first | ((with_reducible refine gate_store (t := 5) (p := 45) rfl ?_); refine store_event (t := 5) (p := 45) (v := ?vo_w26) (w1 := (wr.setCell ⟨go23, (x7_2 : Int).toNat, none⟩ (.int .u8 85))) ?hg ?ho ?hn ?hr ?_; (case ho => rfl); (case hg => rfl); (case hn => rfl); (case hr => first | (go_simp; done) | (go_simp; rfl)); intro w26 hw; have hg : wr.grownBy w26 (some go23) := (by rw [hw]; exact HP25.2); have hp_ : Kd.R (Kd.int .u8) 5 w26 w0.heap.size (fun k_ => (P0_ k_ ∨ w.heap.size ≤ k_)) (.slice (some ⟨go23, 0, none⟩) x0_2.length co24) y326 := (by rw [hw, Ny326.out]; exact HP25.1); clear HP25; have n0_ := Aside0.mk (hp_); have n1_ := Aside0.mk ((by rw [hw]; exact below_set (HB.out) GB23.out : Below w0.heap.size w0 w26)); have n2_ := Aside0.mk (Kept.of_grown (S := (fun k_ => P0_ k_)) hg (by repeat (first | (with_reducible first | exact HK.out | apply Kept.alloc | apply Kept.drewN | apply Kept.drew) | exact HK.out)) (fun k_ e_ => (HO_0.out.1 k_ e_))); clear HO_0; clear HB; clear HK; have HO_0 := n0_; have HB := n1_; have HK := n2_; clear n0_ n1_ n2_; clear hg hw hp_))
              go_roundg k2
              case measure => have := HJ2.out; have := HK2.out; omega
              case rel => exact ⟨(y326), (wrap64 (x7_2 + 1)), (by first | rfl | (simp; done) | (simp [*]; done)), H', ⟨by have := HJ2.out; have := HK2.out; omega⟩, ⟨by (with_reducible repeat (first | apply Kd.R_alloc | apply Kd.R_drewN | apply Kd.R_drew)); exact HO_0.out⟩, ⟨by repeat (first | (with_reducible first | exact HK.out | apply Kept.alloc | apply Kept.drewN | apply Kept.drew) | exact HK.out)⟩, ⟨by repeat (first | (with_reducible first | exact HB.out | apply below_alloc | apply pw_below_drewN | apply below_drew1) | exact HB.out)⟩⟩
            · rw [if_neg c22] at H
              exact absurd H (by simp)
          · rw [if_neg c21] at H
            have c21b0 : decide (x7_2 < (x0_2.length : Int)) = false := decide_eq_false c21
            clear c21
            simp only [Option.some.injEq, Prod.mk.injEq] at H
            obtain ⟨rfl, rfl⟩ := H
            obtain ⟨Ao27, co27, eo27⟩ := Kd.R_slice HO_0.out
            subst eo27
            go_wp2
            go_ret
            exact ⟨by first | rfl | (simp [errW_none, errW_some] <;> rfl) | (simp [*, errW_none, errW_some] <;> rfl), by (with_reducible repeat (first | apply Kd.R_alloc | apply Kd.R_drewN | apply Kd.R_drew)); exact HO_0.out, by repeat (first | (with_reducible first | exact HB.out | apply below_alloc | apply pw_below_drewN | apply below_drew1) | exact HB.out), by repeat (first | (with_reducible first | exact HK.out | apply Kept.alloc | apply Kept.drewN | apply Kept.drew) | exact HK.out)⟩

def sluiceref2_RightSegment.f (a0_0 : Int) (a0_1 : Int) (a0_2 : Int) (a0_3 : Int) (l0_4 : List Int) : Option (Bool) := (sluiceref2_within.f a0_0 0 15).bind fun t333 => (if t333 = true then ((sluiceref2_within.f a0_1 0 15).bind fun t334 => (if t334 = true then ((sluiceref2_within.f a0_2 0 1099511627776).bind fun t335 => (if t335 = true then ((sluiceref2_within.f a0_3 0 1099511627776).bind fun t336 => (if t336 = true then (if (l0_4.length : Int) ≤ 4000 then (some ((a0_2 == 0) == ((l0_4.length : Int) == 0))) else (some false)) else (some false))) else (some false))) else (some false))) else (some false))
set_option maxHeartbeats 8000000 in
set_option maxRecDepth 100000 in
theorem sluiceref2_RightSegment.calls (a0_0 : Int) (a0_1 : Int) (a0_2 : Int) (a0_3 : Int) (A0_4 : Option Addr) (c0_4 : Nat) (l0_4 : List Int) (r : Bool) (w : World) (hr0_4 : Kd.C (Kd.int .u8) w A0_4 l0_4.length l0_4) (hc0_4 : l0_4.length ≤ c0_4) (h : sluiceref2_RightSegment.f a0_0 a0_1 a0_2 a0_3 l0_4 = some r) :
    Calls Try.prog 26 #[.agg #[.int .i64 a0_0, .int .i64 a0_1, .int .i64 a0_2, .int .i64 a0_3, .slice A0_4 l0_4.length c0_4]] w fun e w' => e = .returned (.bool r) ∧ Below w.heap.size w w' := by
  have hu47 := Try.underlying47
  have HR0_4 := Aside0.mk hr0_4
  have HC0_4 := Aside0.mk hc0_4
  clear hr0_4 hc0_4
  have HB := Aside0.mk (Below.refl w.heap.size w)
  have H : ((sluiceref2_within.f a0_0 0 15).bind fun t333 => (if t333 = true then ((sluiceref2_within.f a0_1 0 15).bind fun t334 => (if t334 = true then ((sluiceref2_within.f a0_2 0 1099511627776).bind fun t335 => (if t335 = true then ((sluiceref2_within.f a0_3 0 1099511627776).bind fun t336 => (if t336 = true then (if (l0_4.length : Int) ≤ 4000 then (some ((a0_2 == 0) == ((l0_4.length : Int) == 0))) else (some false)) else (some false))) else (some false))) else (some false))) else (some false))) = some r := h
  clear h
  replace H := Option.bind_eq_some_iff.mp H
  obtain ⟨t333, A20, H⟩ := H
  replace H : (if t333 = true then ((sluiceref2_within.f a0_1 0 15).bind fun t334 => (if t334 = true then ((sluiceref2_within.f a0_2 0 1099511627776).bind fun t335 => (if t335 = true then ((sluiceref2_within.f a0_3 0 1099511627776).bind fun t336 => (if t336 = true then (if (l0_4.length : Int) ≤ 4000 then (some ((a0_2 == 0) == ((l0_4.length : Int) == 0))) else (some false)) else (some false))) else (some false))) else (some false))) else (some false)) = some r := H
  have A2 := Aside0.mk A20
  clear A20
  by_cases c3 : t333 = true
  · subst c3
    have H1 : ((sluiceref2_within.f a0_1 0 15).bind fun t334 => (if t334 = true then ((sluiceref2_within.f a0_2 0 1099511627776).bind fun t335 => (if t335 = true then ((sluiceref2_within.f a0_3 0 1099511627776).bind fun t336 => (if t336 = true then (if (l0_4.length : Int) ≤ 4000 then (some ((a0_2 == 0) == ((l0_4.length : Int) == 0))) else (some false)) else (some false))) else (some false))) else (some false))) = some r := by rw [if_pos rfl] at H; exact H
    clear H
    have H := H1
    clear H1
    replace H := Option.bind_eq_some_iff.mp H
    obtain ⟨t334, A40, H⟩ := H
    replace H : (if t334 = true then ((sluiceref2_within.f a0_2 0 1099511627776).bind fun t335 => (if t335 = true then ((sluiceref2_within.f a0_3 0 1099511627776).bind fun t336 => (if t336 = true then (if (l0_4.length : Int) ≤ 4000 then (some ((a0_2 == 0) == ((l0_4.length : Int) == 0))) else (some false)) else (some false))) else (some false))) else (some false)) = some r := H
    have A4 := Aside0.mk A40
    clear A40
    by_cases c5 : t334 = true
    · subst c5
      have H1 : ((sluiceref2_within.f a0_2 0 1099511627776).bind fun t335 => (if t335 = true then ((sluiceref2_within.f a0_3 0 1099511627776).bind fun t336 => (if t336 = true then (if (l0_4.length : Int) ≤ 4000 then (some ((a0_2 == 0) == ((l0_4.length : Int) == 0))) else (some false)) else (some false))) else (some false))) = some r := by rw [if_pos rfl] at H; exact H
      clear H
      have H := H1
      clear H1
      replace H := Option.bind_eq_some_iff.mp H
      obtain ⟨t335, A60, H⟩ := H
      replace H : (if t335 = true then ((sluiceref2_within.f a0_3 0 1099511627776).bind fun t336 => (if t336 = true then (if (l0_4.length : Int) ≤ 4000 then (some ((a0_2 == 0) == ((l0_4.length : Int) == 0))) else (some false)) else (some false))) else (some false)) = some r := H
      have A6 := Aside0.mk A60
      clear A60
      by_cases c7 : t335 = true
      · subst c7
        have H1 : ((sluiceref2_within.f a0_3 0 1099511627776).bind fun t336 => (if t336 = true then (if (l0_4.length : Int) ≤ 4000 then (some ((a0_2 == 0) == ((l0_4.length : Int) == 0))) else (some false)) else (some false))) = some r := by rw [if_pos rfl] at H; exact H
        clear H
        have H := H1
        clear H1
        replace H := Option.bind_eq_some_iff.mp H
        obtain ⟨t336, A80, H⟩ := H
        replace H : (if t336 = true then (if (l0_4.length : Int) ≤ 4000 then (some ((a0_2 == 0) == ((l0_4.length : Int) == 0))) else (some false)) else (some false)) = some r := H
        have A8 := Aside0.mk A80
        clear A80
        by_cases c9 : t336 = true
        · subst c9
          have H1 : (if (l0_4.length : Int) ≤ 4000 then (some ((a0_2 == 0) == ((l0_4.length : Int) == 0))) else (some false)) = some r := by rw [if_pos rfl] at H; exact H
          clear H
          have H := H1
          clear H1
          by_cases c10 : (l0_4.length : Int) ≤ 4000
          · rw [if_pos c10] at H
            have c10b0 : decide ((l0_4.length : Int) ≤ 4000) = true := decide_eq_true c10
            have c10b1 : decide (l0_4.length ≤ 4000) = true := decide_eq_true (by omega)
            clear c10
            obtain rfl := Option.some.inj H
            go_enter Try.func26, Try.ntmps26
            go_wp2_with (first | ((with_reducible refine gate_dst (N := 1) rfl ?_); (try (refine gate_guard (by rfl) ?_; dsimp only)); refine box_event ?hg (N := 1) ?hd (cs := #[.int .i64 a0_0, .int .i64 a0_1, .int .i64 a0_2, .int .i64 a0_3, .slice A0_4 l0_4.length c0_4]) (t := 47) ?hr ?_; (case hd => rfl); (case hg => rfl); (case hr => first | (go_simp; done) | (go_simp; rfl)); intro gb332 hg w11 hbox hb; have n0_ := Aside0.mk (below_step (by repeat (first | (with_reducible first | exact HB.out | apply below_alloc | apply pw_below_drewN | apply below_drew1) | exact HB.out)) hb); have n1_ := Aside0.mk (hbox); have n2_ := Aside0.mk ((by rw [hg]; exact (below_size (by repeat (first | (with_reducible first | exact HB.out | apply below_alloc | apply pw_below_drewN | apply below_drew1) | exact HB.out))) : w.heap.size ≤ gb332)); have n3_ := Aside0.mk ((by rw [hg]; exact (below_size (by repeat (first | (with_reducible first | exact HB.out | apply below_alloc | apply pw_below_drewN | apply below_drew1) | exact HB.out))) : w.heap.size ≤ gb332)); clear HB; have HB := n0_; have BK332 := n1_; have GW332 := n2_; have GE332 := n3_; clear n0_ n1_ n2_ n3_; clear hb hbox hg; have hcz12_0 : w11.cell? ⟨gb332, 0, none⟩ = some (.int .i64 a0_0) := (blk_cell BK332.out 0).trans rfl; have hcz12_1 : w11.cell? ⟨gb332, 1, none⟩ = some (.int .i64 a0_1) := (blk_cell BK332.out 1).trans rfl; have hcz12_2 : w11.cell? ⟨gb332, 2, none⟩ = some (.int .i64 a0_2) := (blk_cell BK332.out 2).trans rfl; have hcz12_3 : w11.cell? ⟨gb332, 3, none⟩ = some (.int .i64 a0_3) := (blk_cell BK332.out 3).trans rfl; have hcz12_4 : w11.cell? ⟨gb332, 4, none⟩ = some (.slice A0_4 l0_4.length c0_4) := (blk_cell BK332.out 4).trans rfl; have hfz12_0 := blk_frozen BK332.out 0; have hfz12_1 := blk_frozen BK332.out 1; have hfz12_2 := blk_frozen BK332.out 2; have hfz12_3 := blk_frozen BK332.out 3; have hfz12_4 := blk_frozen BK332.out 4) | ((with_reducible refine gate_callee (f := 43) rfl ?_); refine goesL_ (some 5) rfl rfl Try.func43 (by kernel_rfl) rfl #[.int .i64 a0_0, .int .i64 0, .int .i64 15] rfl (by (try simp only [List.map_toArray, List.map_cons, List.map_nil]); first | done | rfl | (simp only [List.length_drop, List.length_take]; rfl)) ?_; (with_reducible refine (sluiceref2_within.calls a0_0 0 15 true _ A2.out).mono ?_); rintro e w' ⟨rfl, ⟨nd, rfl⟩⟩; refine ⟨_, rfl, ?_⟩) | (go_at_call 43; (with_reducible refine (sluiceref2_within.calls a0_1 0 15 true _ A4.out).mono ?_); rintro e w' ⟨rfl, ⟨nd, rfl⟩⟩) | (go_at_call 43; (with_reducible refine (sluiceref2_within.calls a0_2 0 1099511627776 true _ A6.out).mono ?_); rintro e w' ⟨rfl, ⟨nd, rfl⟩⟩) | (go_at_call 43; (with_reducible refine (sluiceref2_within.calls a0_3 0 1099511627776 true _ A8.out).mono ?_); rintro e w' ⟨rfl, ⟨nd, rfl⟩⟩))
            go_ret
            exact ⟨by first | rfl | (simp [errW_none, errW_some] <;> rfl) | (simp [*, errW_none, errW_some] <;> rfl), by repeat (first | (with_reducible first | exact HB.out | apply below_alloc | apply pw_below_drewN | apply below_drew1 | refine below_set ?_ GE332.out) | exact HB.out)⟩
          · rw [if_neg c10] at H
            have c10b0 : decide ((l0_4.length : Int) ≤ 4000) = false := decide_eq_false c10
            have c10b1 : decide (l0_4.length ≤ 4000) = false := decide_eq_false (by omega)
            clear c10
            obtain rfl := Option.some.inj H
            go_enter Try.func26, Try.ntmps26
            go_wp2_with (first | ((with_reducible refine gate_dst (N := 1) rfl ?_); (try (refine gate_guard (by rfl) ?_; dsimp only)); refine box_event ?hg (N := 1) ?hd (cs := #[.int .i64 a0_0, .int .i64 a0_1, .int .i64 a0_2, .int .i64 a0_3, .slice A0_4 l0_4.length c0_4]) (t := 47) ?hr ?_; (case hd => rfl); (case hg => rfl); (case hr => first | (go_simp; done) | (go_simp; rfl)); intro gb332 hg w13 hbox hb; have n0_ := Aside0.mk (below_step (by repeat (first | (with_reducible first | exact HB.out | apply below_alloc | apply pw_below_drewN | apply below_drew1) | exact HB.out)) hb); have n1_ := Aside0.mk (hbox); have n2_ := Aside0.mk ((by rw [hg]; exact (below_size (by repeat (first | (with_reducible first | exact HB.out | apply below_alloc | apply pw_below_drewN | apply below_drew1) | exact HB.out))) : w.heap.size ≤ gb332)); have n3_ := Aside0.mk ((by rw [hg]; exact (below_size (by repeat (first | (with_reducible first | exact HB.out | apply below_alloc | apply pw_below_drewN | apply below_drew1) | exact HB.out))) : w.heap.size ≤ gb332)); clear HB; have HB := n0_; have BK332 := n1_; have GW332 := n2_; have GE332 := n3_; clear n0_ n1_ n2_ n3_; clear hb hbox hg; have hcz14_0 : w13.cell? ⟨gb332, 0, none⟩ = some (.int .i64 a0_0) := (blk_cell BK332.out 0).trans rfl; have hcz14_1 : w13.cell? ⟨gb332, 1, none⟩ = some (.int .i64 a0_1) := (blk_cell BK332.out 1).trans rfl; have hcz14_2 : w13.cell? ⟨gb332, 2, none⟩ = some (.int .i64 a0_2) := (blk_cell BK332.out 2).trans rfl; have hcz14_3 : w13.cell? ⟨gb332, 3, none⟩ = some (.int .i64 a0_3) := (blk_cell BK332.out 3).trans rfl; have hcz14_4 : w13.cell? ⟨gb332, 4, none⟩ = some (.slice A0_4 l0_4.length c0_4) := (blk_cell BK332.out 4).trans rfl; have hfz14_0 := blk_frozen BK332.out 0; have hfz14_1 := blk_frozen BK332.out 1; have hfz14_2 := blk_frozen BK332.out 2; have hfz14_3 := blk_frozen BK332.out 3; have hfz14_4 := blk_frozen BK332.out 4) | ((with_reducible refine gate_callee (f := 43) rfl ?_); refine goesL_ (some 5) rfl rfl Try.func43 (by kernel_rfl) rfl #[.int .i64 a0_0, .int .i64 0, .int .i64 15] rfl (by (try simp only [List.map_toArray, List.map_cons, List.map_nil]); first | done | rfl | (simp only [List.length_drop, List.length_take]; rfl)) ?_; (with_reducible refine (sluiceref2_within.calls a0_0 0 15 true _ A2.out).mono ?_); rintro e w' ⟨rfl, ⟨nd, rfl⟩⟩; refine ⟨_, rfl, ?_⟩) | (go_at_call 43; (with_reducible refine (sluiceref2_within.calls a0_1 0 15 true _ A4.out).mono ?_); rintro e w' ⟨rfl, ⟨nd, rfl⟩⟩) | (go_at_call 43; (with_reducible refine (sluiceref2_within.calls a0_2 0 1099511627776 true _ A6.out).mono ?_); rintro e w' ⟨rfl, ⟨nd, rfl⟩⟩) | (go_at_call 43; (with_reducible refine (sluiceref2_within.calls a0_3 0 1099511627776 true _ A8.out).mono ?_); rintro e w' ⟨rfl, ⟨nd, rfl⟩⟩))
            go_ret
            exact ⟨by first | rfl | (simp [errW_none, errW_some] <;> rfl) | (simp [*, errW_none, errW_some] <;> rfl), by repeat (first | (with_reducible first | exact HB.out | apply below_alloc | apply pw_below_drewN | apply below_drew1 | refine below_set ?_ GE332.out) | exact HB.out)⟩
        · replace c9 := Bool.eq_false_iff.mpr c9
          subst c9
          have H1 : (some false) = some r := by rw [if_neg (show ¬ (false = true) by decide)] at H; exact H
          clear H
          have H := H1
          clear H1
          obtain rfl := Option.some.inj H
          go_enter Try.func26, Try.ntmps26
          go_wp2_with (first | ((with_reducible refine gate_dst (N := 1) rfl ?_); (try (refine gate_guard (by rfl) ?_; dsimp only)); refine box_event ?hg (N := 1) ?hd (cs := #[.int .i64 a0_0, .int .i64 a0_1, .int .i64 a0_2, .int .i64 a0_3, .slice A0_4 l0_4.length c0_4]) (t := 47) ?hr ?_; (case hd => rfl); (case hg => rfl); (case hr => first | (go_simp; done) | (go_simp; rfl)); intro gb332 hg w15 hbox hb; have n0_ := Aside0.mk (below_step (by repeat (first | (with_reducible first | exact HB.out | apply below_alloc | apply pw_below_drewN | apply below_drew1) | exact HB.out)) hb); have n1_ := Aside0.mk (hbox); have n2_ := Aside0.mk ((by rw [hg]; exact (below_size (by repeat (first | (with_reducible first | exact HB.out | apply below_alloc | apply pw_below_drewN | apply below_drew1) | exact HB.out))) : w.heap.size ≤ gb332)); have n3_ := Aside0.mk ((by rw [hg]; exact (below_size (by repeat (first | (with_reducible first | exact HB.out | apply below_alloc | apply pw_below_drewN | apply below_drew1) | exact HB.out))) : w.heap.size ≤ gb332)); clear HB; have HB := n0_; have BK332 := n1_; have GW332 := n2_; have GE332 := n3_; clear n0_ n1_ n2_ n3_; clear hb hbox hg; have hcz16_0 : w15.cell? ⟨gb332, 0, none⟩ = some (.int .i64 a0_0) := (blk_cell BK332.out 0).trans rfl; have hcz16_1 : w15.cell? ⟨gb332, 1, none⟩ = some (.int .i64 a0_1) := (blk_cell BK332.out 1).trans rfl; have hcz16_2 : w15.cell? ⟨gb332, 2, none⟩ = some (.int .i64 a0_2) := (blk_cell BK332.out 2).trans rfl; have hcz16_3 : w15.cell? ⟨gb332, 3, none⟩ = some (.int .i64 a0_3) := (blk_cell BK332.out 3).trans rfl; have hcz16_4 : w15.cell? ⟨gb332, 4, none⟩ = some (.slice A0_4 l0_4.length c0_4) := (blk_cell BK332.out 4).trans rfl; have hfz16_0 := blk_frozen BK332.out 0; have hfz16_1 := blk_frozen BK332.out 1; have hfz16_2 := blk_frozen BK332.out 2; have hfz16_3 := blk_frozen BK332.out 3; have hfz16_4 := blk_frozen BK332.out 4) | ((with_reducible refine gate_callee (f := 43) rfl ?_); refine goesL_ (some 5) rfl rfl Try.func43 (by kernel_rfl) rfl #[.int .i64 a0_0, .int .i64 0, .int .i64 15] rfl (by (try simp only [List.map_toArray, List.map_cons, List.map_nil]); first | done | rfl | (simp only [List.length_drop, List.length_take]; rfl)) ?_; (with_reducible refine (sluiceref2_within.calls a0_0 0 15 true _ A2.out).mono ?_); rintro e w' ⟨rfl, ⟨nd, rfl⟩⟩; refine ⟨_, rfl, ?_⟩) | (go_at_call 43; (with_reducible refine (sluiceref2_within.calls a0_1 0 15 true _ A4.out).mono ?_); rintro e w' ⟨rfl, ⟨nd, rfl⟩⟩) | (go_at_call 43; (with_reducible refine (sluiceref2_within.calls a0_2 0 1099511627776 true _ A6.out).mono ?_); rintro e w' ⟨rfl, ⟨nd, rfl⟩⟩) | (go_at_call 43; (with_reducible refine (sluiceref2_within.calls a0_3 0 1099511627776 false _ A8.out).mono ?_); rintro e w' ⟨rfl, ⟨nd, rfl⟩⟩))
          go_ret
          exact ⟨by first | rfl | (simp [errW_none, errW_some] <;> rfl) | (simp [*, errW_none, errW_some] <;> rfl), by repeat (first | (with_reducible first | exact HB.out | apply below_alloc | apply pw_below_drewN | apply below_drew1 | refine below_set ?_ GE332.out) | exact HB.out)⟩
      · replace c7 := Bool.eq_false_iff.mpr c7
        subst c7
        have H1 : (some false) = some r := by rw [if_neg (show ¬ (false = true) by decide)] at H; exact H
        clear H
        have H := H1
        clear H1
        obtain rfl := Option.some.inj H
        go_enter Try.func26, Try.ntmps26
        go_wp2_with (first | ((with_reducible refine gate_dst (N := 1) rfl ?_); (try (refine gate_guard (by rfl) ?_; dsimp only)); refine box_event ?hg (N := 1) ?hd (cs := #[.int .i64 a0_0, .int .i64 a0_1, .int .i64 a0_2, .int .i64 a0_3, .slice A0_4 l0_4.length c0_4]) (t := 47) ?hr ?_; (case hd => rfl); (case hg => rfl); (case hr => first | (go_simp; done) | (go_simp; rfl)); intro gb332 hg w17 hbox hb; have n0_ := Aside0.mk (below_step (by repeat (first | (with_reducible first | exact HB.out | apply below_alloc | apply pw_below_drewN | apply below_drew1) | exact HB.out)) hb); have n1_ := Aside0.mk (hbox); have n2_ := Aside0.mk ((by rw [hg]; exact (below_size (by repeat (first | (with_reducible first | exact HB.out | apply below_alloc | apply pw_below_drewN | apply below_drew1) | exact HB.out))) : w.heap.size ≤ gb332)); have n3_ := Aside0.mk ((by rw [hg]; exact (below_size (by repeat (first | (with_reducible first | exact HB.out | apply below_alloc | apply pw_below_drewN | apply below_drew1) | exact HB.out))) : w.heap.size ≤ gb332)); clear HB; have HB := n0_; have BK332 := n1_; have GW332 := n2_; have GE332 := n3_; clear n0_ n1_ n2_ n3_; clear hb hbox hg; have hcz18_0 : w17.cell? ⟨gb332, 0, none⟩ = some (.int .i64 a0_0) := (blk_cell BK332.out 0).trans rfl; have hcz18_1 : w17.cell? ⟨gb332, 1, none⟩ = some (.int .i64 a0_1) := (blk_cell BK332.out 1).trans rfl; have hcz18_2 : w17.cell? ⟨gb332, 2, none⟩ = some (.int .i64 a0_2) := (blk_cell BK332.out 2).trans rfl; have hcz18_3 : w17.cell? ⟨gb332, 3, none⟩ = some (.int .i64 a0_3) := (blk_cell BK332.out 3).trans rfl; have hcz18_4 : w17.cell? ⟨gb332, 4, none⟩ = some (.slice A0_4 l0_4.length c0_4) := (blk_cell BK332.out 4).trans rfl; have hfz18_0 := blk_frozen BK332.out 0; have hfz18_1 := blk_frozen BK332.out 1; have hfz18_2 := blk_frozen BK332.out 2; have hfz18_3 := blk_frozen BK332.out 3; have hfz18_4 := blk_frozen BK332.out 4) | ((with_reducible refine gate_callee (f := 43) rfl ?_); refine goesL_ (some 5) rfl rfl Try.func43 (by kernel_rfl) rfl #[.int .i64 a0_0, .int .i64 0, .int .i64 15] rfl (by (try simp only [List.map_toArray, List.map_cons, List.map_nil]); first | done | rfl | (simp only [List.length_drop, List.length_take]; rfl)) ?_; (with_reducible refine (sluiceref2_within.calls a0_0 0 15 true _ A2.out).mono ?_); rintro e w' ⟨rfl, ⟨nd, rfl⟩⟩; refine ⟨_, rfl, ?_⟩) | (go_at_call 43; (with_reducible refine (sluiceref2_within.calls a0_1 0 15 true _ A4.out).mono ?_); rintro e w' ⟨rfl, ⟨nd, rfl⟩⟩) | (go_at_call 43; (with_reducible refine (sluiceref2_within.calls a0_2 0 1099511627776 false _ A6.out).mono ?_); rintro e w' ⟨rfl, ⟨nd, rfl⟩⟩))
        go_ret
        exact ⟨by first | rfl | (simp [errW_none, errW_some] <;> rfl) | (simp [*, errW_none, errW_some] <;> rfl), by repeat (first | (with_reducible first | exact HB.out | apply below_alloc | apply pw_below_drewN | apply below_drew1 | refine below_set ?_ GE332.out) | exact HB.out)⟩
    · replace c5 := Bool.eq_false_iff.mpr c5
      subst c5
      have H1 : (some false) = some r := by rw [if_neg (show ¬ (false = true) by decide)] at H; exact H
      clear H
      have H := H1
      clear H1
      obtain rfl := Option.some.inj H
      go_enter Try.func26, Try.ntmps26
      go_wp2_with (first | ((with_reducible refine gate_dst (N := 1) rfl ?_); (try (refine gate_guard (by rfl) ?_; dsimp only)); refine box_event ?hg (N := 1) ?hd (cs := #[.int .i64 a0_0, .int .i64 a0_1, .int .i64 a0_2, .int .i64 a0_3, .slice A0_4 l0_4.length c0_4]) (t := 47) ?hr ?_; (case hd => rfl); (case hg => rfl); (case hr => first | (go_simp; done) | (go_simp; rfl)); intro gb332 hg w19 hbox hb; have n0_ := Aside0.mk (below_step (by repeat (first | (with_reducible first | exact HB.out | apply below_alloc | apply pw_below_drewN | apply below_drew1) | exact HB.out)) hb); have n1_ := Aside0.mk (hbox); have n2_ := Aside0.mk ((by rw [hg]; exact (below_size (by repeat (first | (with_reducible first | exact HB.out | apply below_alloc | apply pw_below_drewN | apply below_drew1) | exact HB.out))) : w.heap.size ≤ gb332)); have n3_ := Aside0.mk ((by rw [hg]; exact (below_size (by repeat (first | (with_reducible first | exact HB.out | apply below_alloc | apply pw_below_drewN | apply below_drew1) | exact HB.out))) : w.heap.size ≤ gb332)); clear HB; have HB := n0_; have BK332 := n1_; have GW332 := n2_; have GE332 := n3_; clear n0_ n1_ n2_ n3_; clear hb hbox hg; have hcz20_0 : w19.cell? ⟨gb332, 0, none⟩ = some (.int .i64 a0_0) := (blk_cell BK332.out 0).trans rfl; have hcz20_1 : w19.cell? ⟨gb332, 1, none⟩ = some (.int .i64 a0_1) := (blk_cell BK332.out 1).trans rfl; have hcz20_2 : w19.cell? ⟨gb332, 2, none⟩ = some (.int .i64 a0_2) := (blk_cell BK332.out 2).trans rfl; have hcz20_3 : w19.cell? ⟨gb332, 3, none⟩ = some (.int .i64 a0_3) := (blk_cell BK332.out 3).trans rfl; have hcz20_4 : w19.cell? ⟨gb332, 4, none⟩ = some (.slice A0_4 l0_4.length c0_4) := (blk_cell BK332.out 4).trans rfl; have hfz20_0 := blk_frozen BK332.out 0; have hfz20_1 := blk_frozen BK332.out 1; have hfz20_2 := blk_frozen BK332.out 2; have hfz20_3 := blk_frozen BK332.out 3; have hfz20_4 := blk_frozen BK332.out 4) | ((with_reducible refine gate_callee (f := 43) rfl ?_); refine goesL_ (some 5) rfl rfl Try.func43 (by kernel_rfl) rfl #[.int .i64 a0_0, .int .i64 0, .int .i64 15] rfl (by (try simp only [List.map_toArray, List.map_cons, List.map_nil]); first | done | rfl | (simp only [List.length_drop, List.length_take]; rfl)) ?_; (with_reducible refine (sluiceref2_within.calls a0_0 0 15 true _ A2.out).mono ?_); rintro e w' ⟨rfl, ⟨nd, rfl⟩⟩; refine ⟨_, rfl, ?_⟩) | (go_at_call 43; (with_reducible refine (sluiceref2_within.calls a0_1 0 15 false _ A4.out).mono ?_); rintro e w' ⟨rfl, ⟨nd, rfl⟩⟩))
      go_ret
      exact ⟨by first | rfl | (simp [errW_none, errW_some] <;> rfl) | (simp [*, errW_none, errW_some] <;> rfl), by repeat (first | (with_reducible first | exact HB.out | apply below_alloc | apply pw_below_drewN | apply below_drew1 | refine below_set ?_ GE332.out) | exact HB.out)⟩
  · replace c3 := Bool.eq_false_iff.mpr c3
    subst c3
    have H1 : (some false) = some r := by rw [if_neg (show ¬ (false = true) by decide)] at H; exact H
    clear H
    have H := H1
    clear H1
    obtain rfl := Option.some.inj H
    go_enter Try.func26, Try.ntmps26
    go_wp2_with (first | ((with_reducible refine gate_dst (N := 1) rfl ?_); (try (refine gate_guard (by rfl) ?_; dsimp only)); refine box_event ?hg (N := 1) ?hd (cs := #[.int .i64 a0_0, .int .i64 a0_1, .int .i64 a0_2, .int .i64 a0_3, .slice A0_4 l0_4.length c0_4]) (t := 47) ?hr ?_; (case hd => rfl); (case hg => rfl); (case hr => first | (go_simp; done) | (go_simp; rfl)); intro gb332 hg w21 hbox hb; have n0_ := Aside0.mk (below_step (by repeat (first | (with_reducible first | exact HB.out | apply below_alloc | apply pw_below_drewN | apply below_drew1) | exact HB.out)) hb); have n1_ := Aside0.mk (hbox); have n2_ := Aside0.mk ((by rw [hg]; exact (below_size (by repeat (first | (with_reducible first | exact HB.out | apply below_alloc | apply pw_below_drewN | apply below_drew1) | exact HB.out))) : w.heap.size ≤ gb332)); have n3_ := Aside0.mk ((by rw [hg]; exact (below_size (by repeat (first | (with_reducible first | exact HB.out | apply below_alloc | apply pw_below_drewN | apply below_drew1) | exact HB.out))) : w.heap.size ≤ gb332)); clear HB; have HB := n0_; have BK332 := n1_; have GW332 := n2_; have GE332 := n3_; clear n0_ n1_ n2_ n3_; clear hb hbox hg; have hcz22_0 : w21.cell? ⟨gb332, 0, none⟩ = some (.int .i64 a0_0) := (blk_cell BK332.out 0).trans rfl; have hcz22_1 : w21.cell? ⟨gb332, 1, none⟩ = some (.int .i64 a0_1) := (blk_cell BK332.out 1).trans rfl; have hcz22_2 : w21.cell? ⟨gb332, 2, none⟩ = some (.int .i64 a0_2) := (blk_cell BK332.out 2).trans rfl; have hcz22_3 : w21.cell? ⟨gb332, 3, none⟩ = some (.int .i64 a0_3) := (blk_cell BK332.out 3).trans rfl; have hcz22_4 : w21.cell? ⟨gb332, 4, none⟩ = some (.slice A0_4 l0_4.length c0_4) := (blk_cell BK332.out 4).trans rfl; have hfz22_0 := blk_frozen BK332.out 0; have hfz22_1 := blk_frozen BK332.out 1; have hfz22_2 := blk_frozen BK332.out 2; have hfz22_3 := blk_frozen BK332.out 3; have hfz22_4 := blk_frozen BK332.out 4) | ((with_reducible refine gate_callee (f := 43) rfl ?_); refine goesL_ (some 5) rfl rfl Try.func43 (by kernel_rfl) rfl #[.int .i64 a0_0, .int .i64 0, .int .i64 15] rfl (by (try simp only [List.map_toArray, List.map_cons, List.map_nil]); first | done | rfl | (simp only [List.length_drop, List.length_take]; rfl)) ?_; (with_reducible refine (sluiceref2_within.calls a0_0 0 15 false _ A2.out).mono ?_); rintro e w' ⟨rfl, ⟨nd, rfl⟩⟩; refine ⟨_, rfl, ?_⟩))
    go_ret
    exact ⟨by first | rfl | (simp [errW_none, errW_some] <;> rfl) | (simp [*, errW_none, errW_some] <;> rfl), by repeat (first | (with_reducible first | exact HB.out | apply below_alloc | apply pw_below_drewN | apply below_drew1 | refine below_set ?_ GE332.out) | exact HB.out)⟩

end Go.Proofs.Ytpgdmmjbhjbbhaa.P
end
section
namespace Go.Proofs.Ytpgdmmjbhjbbhaa.P
open Go.RowKit Go.Proofs.YtpgdmmjbhjbbhaaW.PrintWords Go.Proofs.YtpgdmmjbhjbbhaaW.PrintLast Go.Proofs.YtpgdmmjbhjbbhaaW.PrintMore
attribute [local go_sem] Go.Proofs.Ytpgdmmjbhjbbhaa.StrLe.leq_str Go.Proofs.Ytpgdmmjbhjbbhaa.StrLe.gtr_str
attribute [local go_sem] max2_int min2_int max_two min_two max_three min_three max_four min_four   -- for this text's walks alone
set_option linter.unusedVariables false
set_option linter.unusedSimpArgs false

def sluiceref2_EncodeSegment.f (k : Nat) (a0_0 : Int) (a0_1 : Int) (a0_2 : Int) (a0_3 : Int) (l0_4 : List Int) : Option (List Int × Int) := (sluiceref2_RightSegment.f a0_0 a0_1 a0_2 a0_3 l0_4).bind fun t338 => (if t338 = true then ((sluiceref2_plain.f k ([] : List Int) (([a0_0, a0_1, a0_2, a0_3, (l0_4.length : Int)] : List Int))).bind fun t342 => (if t342.length + l0_4.length < 140737488355328 then (some ((t342 ++ l0_4), 0)) else (none))) else (some (([] : List Int), 21)))
def sluiceref2_EncodeSegment.T3 : Bool × List (List Nat × List Nat) := (true, [([], []), ([0], [0]), ([], []), ([2], [2]), ([], []), ([4], [4]), ([], []), ([6], [6]), ([], []), ([8], [8]), ([9], [9]), ([1, 3, 5, 7, 10], [1, 3, 5, 7, 10]), ([11], [11]), ([], []), ([13], [13]), ([12, 14, 12], [12, 14]), ([15, 15, 0, 1, 2, 3, 4, 5, 6, 7, 8, 9, 10, 11, 12, 13, 14, 15], [15]), ([16, 0, 1, 2, 3, 4, 5, 6, 7, 8, 9, 10, 11, 12, 13, 14, 15, 16], [])])
def sluiceref2_EncodeSegment.B3 : List Nat := [0, 1, 0, 4, 0, 16, 0, 64, 0, 256, 768, 2047, 4095, 0, 8192, 32767, 65535, 131071]
theorem sluiceref2_EncodeSegment.tab3 : rtab .any (opsOf Try.f70 3) = sluiceref2_EncodeSegment.T3 := by kernel_rfl
theorem sluiceref2_EncodeSegment.bits3 : waitsOk sluiceref2_EncodeSegment.T3.2 sluiceref2_EncodeSegment.B3 = true := by kernel_rfl
set_option maxHeartbeats 8000000 in
set_option maxRecDepth 100000 in
theorem sluiceref2_EncodeSegment.calls (k : Nat) (a0_0 : Int) (a0_1 : Int) (a0_2 : Int) (a0_3 : Int) (A0_4 : Option Addr) (c0_4 : Nat) (l0_4 : List Int) (r1 : List Int) (r2 : Int) (w : World) (hr0_4 : Kd.C (Kd.int .u8) w A0_4 l0_4.length l0_4) (hc0_4 : l0_4.length ≤ c0_4) (h : sluiceref2_EncodeSegment.f k a0_0 a0_1 a0_2 a0_3 l0_4 = some (r1, r2)) :
    Calls Try.prog 70 #[.agg #[.int .i64 a0_0, .int .i64 a0_1, .int .i64 a0_2, .int .i64 a0_3, .slice A0_4 l0_4.length c0_4]] w fun e w' => ∃ v0_ : Value, e = .returned (.tuple #[v0_, .int .i64 r2]) ∧ Kd.R (Kd.int .u8) 5 w' w.heap.size (fun _ => True) v0_ r1 ∧ Below w.heap.size w w' := by
  have hu47 := Try.underlying47
  have HR0_4 := Aside0.mk hr0_4
  have HC0_4 := Aside0.mk hc0_4
  clear hr0_4 hc0_4
  have HB := Aside0.mk (Below.refl w.heap.size w)
  have H : ((sluiceref2_RightSegment.f a0_0 a0_1 a0_2 a0_3 l0_4).bind fun t338 => (if t338 = true then ((sluiceref2_plain.f k ([] : List Int) (([a0_0, a0_1, a0_2, a0_3, (l0_4.length : Int)] : List Int))).bind fun t342 => (if t342.length + l0_4.length < 140737488355328 then (some ((t342 ++ l0_4), 0)) else (none))) else (some (([] : List Int), 21)))) = some (r1, r2) := h
  clear h
  replace H := Option.bind_eq_some_iff.mp H
  obtain ⟨t338, A20, H⟩ := H
  replace H : (if t338 = true then ((sluiceref2_plain.f k ([] : List Int) (([a0_0, a0_1, a0_2, a0_3, (l0_4.length : Int)] : List Int))).bind fun t342 => (if t342.length + l0_4.length < 140737488355328 then (some ((t342 ++ l0_4), 0)) else (none))) else (some (([] : List Int), 21))) = some (r1, r2) := H
  have A2 := Aside0.mk A20
  clear A20
  by_cases c3 : t338 = true
  · subst c3
    have H1 : ((sluiceref2_plain.f k ([] : List Int) (([a0_0, a0_1, a0_2, a0_3, (l0_4.length : Int)] : List Int))).bind fun t342 => (if t342.length + l0_4.length < 140737488355328 then (some ((t342 ++ l0_4), 0)) else (none))) = some (r1, r2) := by rw [if_pos rfl] at H; exact H
    clear H
    have H := H1
    clear H1
    obtain ⟨y339, hy339⟩ : ∃ y_ : List Int, y_ = (([a0_0, a0_1, a0_2, a0_3, (l0_4.length : Int)] : List Int)) := ⟨_, rfl⟩
    replace H : ((sluiceref2_plain.f k ([] : List Int) y339).bind fun t342 => (if t342.length + l0_4.length < 140737488355328 then (some ((t342 ++ l0_4), 0)) else (none))) = some (r1, r2) := by first | (rw [hy339]; with_reducible exact H) | (have H2_ := (Option.bind_some _ _).symm.trans H; rw [hy339]; with_reducible exact H2_) | (have H2_ := (Option.bind_some _ _).symm.trans H; with_reducible exact H2_) | with_reducible exact H | (rw [hy339]; exact H) | exact H
    have Ny339 := Aside0.mk hy339
    clear hy339
    replace H := Option.bind_eq_some_iff.mp H
    obtain ⟨t342, A40, H⟩ := H
    replace H : (if t342.length + l0_4.length < 140737488355328 then (some ((t342 ++ l0_4), 0)) else (none)) = some (r1, r2) := H
    have A4 := Aside0.mk A40
    clear A40
    by_cases c5 : t342.length + l0_4.length < 140737488355328
    · rw [if_pos c5] at H
      have LMc5 := Aside0.mk c5
      clear c5
      obtain ⟨y345, hy345⟩ : ∃ y_ : List Int, y_ = (t342 ++ l0_4) := ⟨_, rfl⟩
      replace H : (some (y345, 0)) = some (r1, r2) := by first | (rw [hy345]; with_reducible exact H) | (have H2_ := (Option.bind_some _ _).symm.trans H; rw [hy345]; with_reducible exact H2_) | (have H2_ := (Option.bind_some _ _).symm.trans H; with_reducible exact H2_) | with_reducible exact H | (rw [hy345]; exact H) | exact H
      have Ny345 := Aside0.mk hy345
      clear hy345
      simp only [Option.some.injEq, Prod.mk.injEq] at H
      obtain ⟨rfl, rfl⟩ := H
      go_enter Try.func70, Try.ntmps70
      try go_wp2_with (first | ((with_reducible refine gate_dst (N := 1) rfl ?_); refine box_event ?hg (N := 1) ?hd (cs := #[.int .i64 a0_0, .int .i64 a0_1, .int .i64 a0_2, .int .i64 a0_3, .slice A0_4 l0_4.length c0_4]) (t := 47) ?hr ?_; (case hd => rfl); (case hg => rfl); (case hr => first | (go_simp; done) | (go_simp; rfl)); intro gb337 hg w6 hbox hb; have n0_ := Aside0.mk (below_step (by repeat (first | (with_reducible first | exact HB.out | apply below_alloc | apply pw_below_drewN | apply below_drew1) | exact HB.out)) hb); have n1_ := Aside0.mk (hbox); have n2_ := Aside0.mk ((by rw [hg]; exact (below_size (by repeat (first | (with_reducible first | exact HB.out | apply below_alloc | apply pw_below_drewN | apply below_drew1) | exact HB.out))) : w.heap.size ≤ gb337)); have n3_ := Aside0.mk ((by rw [hg]; exact (below_size (by repeat (first | (with_reducible first | exact HB.out | apply below_alloc | apply pw_below_drewN | apply below_drew1) | exact HB.out))) : w.heap.size ≤ gb337)); clear HB; have HB := n0_; have BK337 := n1_; have GW337 := n2_; have GE337 := n3_; clear n0_ n1_ n2_ n3_; clear hb hbox hg; have hcz7_0 : w6.cell? ⟨gb337, 0, none⟩ = some (.int .i64 a0_0) := (blk_cell BK337.out 0).trans rfl; have hcz7_1 : w6.cell? ⟨gb337, 1, none⟩ = some (.int .i64 a0_1) := (blk_cell BK337.out 1).trans rfl; have hcz7_2 : w6.cell? ⟨gb337, 2, none⟩ = some (.int .i64 a0_2) := (blk_cell BK337.out 2).trans rfl; have hcz7_3 : w6.cell? ⟨gb337, 3, none⟩ = some (.int .i64 a0_3) := (blk_cell BK337.out 3).trans rfl; have hcz7_4 : w6.cell? ⟨gb337, 4, none⟩ = some (.slice A0_4 l0_4.length c0_4) := (blk_cell BK337.out 4).trans rfl; have hfz7_0 := blk_frozen BK337.out 0; have hfz7_1 := blk_frozen BK337.out 1; have hfz7_2 := blk_frozen BK337.out 2; have hfz7_3 := blk_frozen BK337.out 3; have hfz7_4 := blk_frozen BK337.out 4) | ((with_reducible refine gate_callee (f := 26) rfl ?_); refine goesL_ (some 5) rfl rfl Try.func26 (by kernel_rfl) rfl #[.agg #[.int .i64 a0_0, .int .i64 a0_1, .int .i64 a0_2, .int .i64 a0_3, .slice A0_4 l0_4.length c0_4]] rfl (by (try simp only [List.map_toArray, List.map_cons, List.map_nil]); first | done | rfl | (simp only [List.length_drop, List.length_take]; rfl)) ?_; (with_reducible refine (sluiceref2_RightSegment.calls a0_0 a0_1 a0_2 a0_3 _ _ l0_4 true _ ?side1 ?side2 A2.out).mono ?_); (case side1 => repeat (first | exact (Kd.C_below HR0_4.out HB.out) | (with_reducible refine Kd.C_alloc ?_ _) | (with_reducible refine Kd.C_drewN ?_ _) | (with_reducible refine Kd.C_drew ?_))); (case side2 => exact HC0_4.out); rintro e w8 ⟨rfl, hb⟩; refine ⟨_, rfl, ?_⟩; have n0_ := Aside0.mk (blk_below (g := gb337) (o := .cells #[.int .i64 a0_0, .int .i64 a0_1, .int .i64 a0_2, .int .i64 a0_3, .slice A0_4 l0_4.length c0_4] 47 (0, 0)) (by (with_reducible repeat (first | refine blk_drewN ?_ _ | refine blk_drew ?_ | refine blk_alloc ?_ _)); exact BK337.out) hb); have n1_ := Aside0.mk (below_step (by repeat (first | (with_reducible first | exact HB.out | apply below_alloc | apply pw_below_drewN | apply below_drew1 | refine below_set ?_ GE337.out) | exact HB.out)) hb); clear BK337; clear HB; have BK337 := n0_; have HB := n1_; clear n0_ n1_; (try clear hb); (try clear hb2); (try clear hk); (try clear hi)))
      have n0_ := Aside0.mk (blk_drew BK337.out)
      have n1_ := Aside0.mk (below_drew1 HB.out)
      clear BK337
      clear HB
      have BK337 := n0_
      have HB := n1_
      clear n0_ n1_
      refine start_ (n := 18) (S := fun w' => w'.cell? ⟨gb337, 0, none⟩ = some (.int .i64 a0_0) ∧ w'.cell? ⟨gb337, 1, none⟩ = some (.int .i64 a0_1) ∧ w'.cell? ⟨gb337, 2, none⟩ = some (.int .i64 a0_2) ∧ w'.cell? ⟨gb337, 3, none⟩ = some (.int .i64 a0_3) ∧ w'.cell? ⟨gb337, 4, none⟩ = some (.slice A0_4 l0_4.length c0_4)) (ds := []) #[false, false, false, false, false, false, false, false, false, false, false, false, false, false, false, false, false, false] (by kernel_rfl) rfl rfl ⟨(blk_cell BK337.out 0).trans rfl, (blk_cell BK337.out 1).trans rfl, (blk_cell BK337.out 2).trans rfl, (blk_cell BK337.out 3).trans rfl, (blk_cell BK337.out 4).trans rfl⟩ (fun hHeld => ?_); refine with_tabW sluiceref2_EncodeSegment.tab3 sluiceref2_EncodeSegment.bits3 (fun HT_ HW_ => ?_)
      generalize w8.drew = w9 at BK337 HB hHeld ⊢
      refine pure_ (i := 0) (N := some 7) (v := ?_) (a' := ?_) #[true, false, false, false, false, false, false, false, false, false, false, false, false, false, false, false, false, false] rfl rfl (any_of HT_.out (by kernel_rfl)) (fun _ _ _ h => h) (Or.inl ⟨by rfl, ?_⟩) ?_ ?_
      rotate_left
      · intro w'
        go_simp
        with_reducible rfl
      rotate_left
      · simp only [Act.put, List.setIfInBounds_toArray, List.set_cons_zero, List.set_cons_succ, i64_w, i32_w]
        rfl
      refine pure_ (i := 2) (N := some 9) (v := ?_) (a' := ?_) #[true, false, true, false, false, false, false, false, false, false, false, false, false, false, false, false, false, false] rfl rfl (any_of HT_.out (by kernel_rfl)) (fun _ _ _ h => h) (Or.inl ⟨by rfl, ?_⟩) ?_ ?_
      rotate_left
      · intro w'
        go_simp
        with_reducible rfl
      rotate_left
      · simp only [Act.put, List.setIfInBounds_toArray, List.set_cons_zero, List.set_cons_succ, i64_w, i32_w]
        rfl
      refine pure_ (i := 4) (N := some 11) (v := ?_) (a' := ?_) #[true, false, true, false, true, false, false, false, false, false, false, false, false, false, false, false, false, false] rfl rfl (any_of HT_.out (by kernel_rfl)) (fun _ _ _ h => h) (Or.inl ⟨by rfl, ?_⟩) ?_ ?_
      rotate_left
      · intro w'
        go_simp
        with_reducible rfl
      rotate_left
      · simp only [Act.put, List.setIfInBounds_toArray, List.set_cons_zero, List.set_cons_succ, i64_w, i32_w]
        rfl
      refine pure_ (i := 6) (N := some 13) (v := ?_) (a' := ?_) #[true, false, true, false, true, false, true, false, false, false, false, false, false, false, false, false, false, false] rfl rfl (any_of HT_.out (by kernel_rfl)) (fun _ _ _ h => h) (Or.inl ⟨by rfl, ?_⟩) ?_ ?_
      rotate_left
      · intro w'
        go_simp
        with_reducible rfl
      rotate_left
      · simp only [Act.put, List.setIfInBounds_toArray, List.set_cons_zero, List.set_cons_succ, i64_w, i32_w]
        rfl
      refine pure_ (i := 8) (N := some 15) (v := ?_) (a' := ?_) #[true, false, true, false, true, false, true, false, true, false, false, false, false, false, false, false, false, false] rfl rfl (any_of HT_.out (by kernel_rfl)) (fun _ _ _ h => h) (Or.inl ⟨by rfl, ?_⟩) ?_ ?_
      rotate_left
      · intro w'
        go_simp
        with_reducible rfl
      rotate_left
      · simp only [Act.put, List.setIfInBounds_toArray, List.set_cons_zero, List.set_cons_succ, i64_w, i32_w]
        rfl
      refine pure_ (i := 13) (N := some 20) (v := ?_) (a' := ?_) #[true, false, true, false, true, false, true, false, true, false, false, false, false, true, false, false, false, false] rfl rfl (any_of HT_.out (by kernel_rfl)) (fun _ _ _ h => h) (Or.inl ⟨by rfl, ?_⟩) ?_ ?_
      rotate_left
      · intro w'
        go_simp
        with_reducible rfl
      rotate_left
      · simp only [Act.put, List.setIfInBounds_toArray, List.set_cons_zero, List.set_cons_succ, i64_w, i32_w]
        rfl
      refine take_ (i := 1) (N := some 8) (v := ?_) (a' := ?_) #[true, true, true, false, true, false, true, false, true, false, false, false, false, true, false, false, false, false] rfl rfl (take_ofW HT_.out HW_.out (by kernel_rfl)) (fun _ _ _ h => h) (Or.inl ⟨by rfl, ?_⟩) hHeld ?_ ?_
      rotate_left
      · rintro w' ⟨s0, s1, s2, s3, s4⟩
        go_simp
        with_reducible rfl
      rotate_left
      · simp only [Act.put, List.setIfInBounds_toArray, List.set_cons_zero, List.set_cons_succ, i64_w, i32_w]
        rfl
      refine take_ (i := 3) (N := some 10) (v := ?_) (a' := ?_) #[true, true, true, true, true, false, true, false, true, false, false, false, false, true, false, false, false, false] rfl rfl (take_ofW HT_.out HW_.out (by kernel_rfl)) (fun _ _ _ h => h) (Or.inl ⟨by rfl, ?_⟩) hHeld ?_ ?_
      rotate_left
      · rintro w' ⟨s0, s1, s2, s3, s4⟩
        go_simp
        with_reducible rfl
      rotate_left
      · simp only [Act.put, List.setIfInBounds_toArray, List.set_cons_zero, List.set_cons_succ, i64_w, i32_w]
        rfl
      refine take_ (i := 5) (N := some 12) (v := ?_) (a' := ?_) #[true, true, true, true, true, true, true, false, true, false, false, false, false, true, false, false, false, false] rfl rfl (take_ofW HT_.out HW_.out (by kernel_rfl)) (fun _ _ _ h => h) (Or.inl ⟨by rfl, ?_⟩) hHeld ?_ ?_
      rotate_left
      · rintro w' ⟨s0, s1, s2, s3, s4⟩
        go_simp
        with_reducible rfl
      rotate_left
      · simp only [Act.put, List.setIfInBounds_toArray, List.set_cons_zero, List.set_cons_succ, i64_w, i32_w]
        rfl
      refine take_ (i := 7) (N := some 14) (v := ?_) (a' := ?_) #[true, true, true, true, true, true, true, true, true, false, false, false, false, true, false, false, false, false] rfl rfl (take_ofW HT_.out HW_.out (by kernel_rfl)) (fun _ _ _ h => h) (Or.inl ⟨by rfl, ?_⟩) hHeld ?_ ?_
      rotate_left
      · rintro w' ⟨s0, s1, s2, s3, s4⟩
        go_simp
        with_reducible rfl
      rotate_left
      · simp only [Act.put, List.setIfInBounds_toArray, List.set_cons_zero, List.set_cons_succ, i64_w, i32_w]
        rfl
      refine take_ (i := 9) (N := some 16) (v := ?_) (a' := ?_) #[true, true, true, true, true, true, true, true, true, true, false, false, false, true, false, false, false, false] rfl rfl (take_ofW HT_.out HW_.out (by kernel_rfl)) (fun _ _ _ h => h) (Or.inl ⟨by rfl, ?_⟩) hHeld ?_ ?_
      rotate_left
      · rintro w' ⟨s0, s1, s2, s3, s4⟩
        go_simp
        with_reducible rfl
      rotate_left
      · simp only [Act.put, List.setIfInBounds_toArray, List.set_cons_zero, List.set_cons_succ, i64_w, i32_w]
        rfl
      refine pure_ (i := 10) (N := some 17) (v := ?_) (a' := ?_) #[true, true, true, true, true, true, true, true, true, true, true, false, false, true, false, false, false, false] rfl rfl (any_of HT_.out (by kernel_rfl)) (fun _ _ _ h => h) (Or.inl ⟨by rfl, ?_⟩) ?_ ?_
      rotate_left
      · intro w'
        go_simp
        with_reducible rfl
      rotate_left
      · simp only [Act.put, List.setIfInBounds_toArray, List.set_cons_zero, List.set_cons_succ, i64_w, i32_w]
        rfl
      refine take_ (i := 14) (N := some 21) (v := ?_) (a' := ?_) #[true, true, true, true, true, true, true, true, true, true, true, false, false, true, true, false, false, false] rfl rfl (take_ofW HT_.out HW_.out (by kernel_rfl)) (fun _ _ _ h => h) (Or.inl ⟨by rfl, ?_⟩) hHeld ?_ ?_
      rotate_left
      · rintro w' ⟨s0, s1, s2, s3, s4⟩
        go_simp
        with_reducible rfl
      rotate_left
      · simp only [Act.put, List.setIfInBounds_toArray, List.set_cons_zero, List.set_cons_succ, i64_w, i32_w]
        rfl
      refine one_ (i := 11) (N := some 18) #[true, true, true, true, true, true, true, true, true, true, true, true, false, true, true, false, false, false] rfl rfl (one_of HT_.out (by kernel_rfl)) (by decide) (fun K hK => ?_)
      refine Kd.R_lit_step (Kd.int .i64) _ 3 ?hg (N := 18) ?hd (xs := ([a0_0, a0_1, a0_2, a0_3, (l0_4.length : Int)] : List Int)) (inner := [.int .i64 a0_0, .int .i64 a0_1, .int .i64 a0_2, .int .i64 a0_3, .int .i64 (l0_4.length : Int)]) (ok := fun _ => True) (okp := fun _ => True) ?hr ?hp (fun _ hk => hk) trivial (Below.refl _ _) (Nat.le_refl _) (by simp) ?_; (case hd => rfl); (case hg => rfl); (case hr => first | (go_simp; done) | (go_simp; rfl)); (case hp => exact (Reps.one (show Kd.M (Kd.int .i64) _ _ _ a0_0 [.int .i64 a0_0] from rfl) (Reps.one (show Kd.M (Kd.int .i64) _ _ _ a0_1 [.int .i64 a0_1] from rfl) (Reps.one (show Kd.M (Kd.int .i64) _ _ _ a0_2 [.int .i64 a0_2] from rfl) (Reps.one (show Kd.M (Kd.int .i64) _ _ _ a0_3 [.int .i64 a0_3] from rfl) (Reps.one (show Kd.M (Kd.int .i64) _ _ _ (l0_4.length : Int) [.int .i64 (l0_4.length : Int)] from rfl) (Reps.none _ _)))))))
      intro v340 w10 ho11 hb hg_ hnew_
      clear hg_ hnew_
      (first | rw [← Ny339.out] at ho11 | (simp only [Int.reduceToNat] at ho11; rw [← Ny339.out] at ho11))
      have n0_ := Aside0.mk (Kd.R_lower ho11 (below_size (by repeat (first | (with_reducible first | exact HB.out | apply below_alloc | apply pw_below_drewN | apply below_drew1 | refine below_set ?_ GE337.out) | exact HB.out))))
      have n1_ := Aside0.mk (blk_below (g := gb337) (o := .cells #[.int .i64 a0_0, .int .i64 a0_1, .int .i64 a0_2, .int .i64 a0_3, .slice A0_4 l0_4.length c0_4] 47 (0, 0)) (by (with_reducible repeat (first | refine blk_drewN ?_ _ | refine blk_drew ?_ | refine blk_alloc ?_ _)); exact BK337.out) hb)
      have n2_ := Aside0.mk (below_step (by repeat (first | (with_reducible first | exact HB.out | apply below_alloc | apply pw_below_drewN | apply below_drew1 | refine below_set ?_ GE337.out) | exact HB.out)) hb)
      clear BK337
      clear HB
      have HO341 := n0_
      have BK337 := n1_
      have HB := n2_
      clear n0_ n1_ n2_
      clear hb ho11
      obtain ⟨Ao12, co12, eo12⟩ := Kd.R_slice HO341.out
      (first | subst eo12 | (injection eo12 with f1_ f2_ f3_; have f4_ := f1_.symm; have f5_ := f3_.symm; clear f1_ f2_ f3_; subst f4_; subst f5_))
      refine hK.out _ _ ⟨(blk_cell BK337.out 0).trans rfl, (blk_cell BK337.out 1).trans rfl, (blk_cell BK337.out 2).trans rfl, (blk_cell BK337.out 3).trans rfl, (blk_cell BK337.out 4).trans rfl⟩ (fun hHeld => ?_)
      clear hK K
      refine norm_ (a' := ?_) ?_ ?_
      rotate_left
      · show Act.put _ (some 18) _ = _
        simp only [Act.put, List.setIfInBounds_toArray, List.set_cons_zero, List.set_cons_succ, i64_w, i32_w]
        rfl
      refine one_ (i := 12) (N := some 19) #[true, true, true, true, true, true, true, true, true, true, true, true, true, true, true, false, false, false] rfl rfl (one_of HT_.out (by kernel_rfl)) (by decide) (fun K hK => ?_)
      refine goes_ Try.func88 (by kernel_rfl) rfl #[.slice none 0 0, .slice Ao12 y339.length co12] (by rfl) rfl rfl (by (try simp only [List.map_toArray, List.map_cons, List.map_nil]); first | done | rfl | (simp only [List.length_drop, List.length_take]; rfl)) ?_
      refine (sluiceref2_plain.calls k (fun k_ => some k_ = (.slice none 0 0 : Value).ownBlock) (.slice none 0 0) ([] : List Int) _ _ y339 t342 w _ ?side1 ?side2 ?side3 ?side4 A4.out).mono ?_
      (case side1 => repeat (first | (with_reducible first | exact HB.out | apply below_alloc | apply pw_below_drewN | apply below_drew1 | refine below_set ?_ GE337.out) | exact HB.out))
      (case side2 => exact Kd.R_nil _ _ _ _ _)
      (case side3 => exact Kd.C_kept_own (HO341.out) (fun k_ hk_ hs_ => (fun e_ => by simp [Value.ownBlock] at e_) hs_))
      (case side4 => exact (Kd.R_reads' HO341.out).2.1)
      rintro e w13 ⟨v343, rfl, ho0, hb, hkp⟩
      refine ⟨_, rfl, ?_⟩
      have n0_ := Aside0.mk (blk_kept (by (with_reducible repeat (first | refine blk_drewN ?_ _ | refine blk_drew ?_ | refine blk_alloc ?_ _)); exact BK337.out) hkp (fun hs_ => (fun e_ => by simp [Value.ownBlock] at e_) hs_))
      have n1_ := Aside0.mk (Kd.R_mono (ok' := fun k_ => True) (Kd.R_keptB (HO341.out) hkp (fun k_ hk_ hs_ => (fun e_ => by simp [Value.ownBlock] at e_) hs_)) (fun k_ hk_ => trivial))
      have n2_ := Aside0.mk (Kd.R_mono (ok' := fun k_ => True) ho0 (fun k_ hk_ => trivial))
      have n3_ := Aside0.mk (hb)
      clear BK337
      clear HO341
      clear HB
      have BK337 := n0_
      have HO341 := n1_
      have HO344 := n2_
      have HB := n3_
      clear n0_ n1_ n2_ n3_
      (try clear hb)
      (try clear hkp)
      (try clear ho0)
      refine hK.out _ _ ⟨(blk_cell BK337.out 0).trans rfl, (blk_cell BK337.out 1).trans rfl, (blk_cell BK337.out 2).trans rfl, (blk_cell BK337.out 3).trans rfl, (blk_cell BK337.out 4).trans rfl⟩ (fun hHeld => ?_)
      clear hK K
      refine norm_ (a' := ?_) ?_ ?_
      rotate_left
      · show Act.put _ (some 19) _ = _
        simp only [Act.put, List.setIfInBounds_toArray, List.set_cons_zero, List.set_cons_succ, i64_w, i32_w]
        rfl
      refine one_ (i := 15) (N := some 22) #[true, true, true, true, true, true, true, true, true, true, true, true, true, true, true, true, false, false] rfl rfl (one_of HT_.out (by kernel_rfl)) (by decide) (fun K hK => ?_)
      refine Kd.R_append_rows_step (Kd.int .u8) (w0 := w) w.heap.size (by rfl) (.tmp 19) (.tmp 21) 36 5 (.int .u8 0) 1 rfl Try.underlying36 info5 rfl (by decide) (by omega) v343 t342 l0_4 _ _ _ (fun _ => True) (fun _ => False) rfl rfl ?aO ?aR (fun _ _ h => h) (fun _ h => h.elim) ?aF ?aB ?aS ?aL ?_
      (case aR => repeat (first | exact (Kd.C_below HR0_4.out HB.out) | (with_reducible refine Kd.C_alloc ?_ _) | (with_reducible refine Kd.C_drewN ?_ _) | (with_reducible refine Kd.C_drew ?_)))
      (case aB => exact (by repeat (first | (with_reducible first | exact HB.out | apply below_alloc | apply pw_below_drewN | apply below_drew1 | refine below_set ?_ GE337.out) | exact HB.out)))
      (case aF => exact (fun _ _ => trivial))
      (case aO => exact (by (with_reducible repeat (first | apply Kd.R_alloc | apply Kd.R_drewN | apply Kd.R_drew)); exact HO344.out))
      (case aS => exact (below_size (by repeat (first | (with_reducible first | exact HB.out | apply below_alloc | apply pw_below_drewN | apply below_drew1 | refine below_set ?_ GE337.out) | exact HB.out))))
      (case aL => have := LMc5.out; omega)
      intro v346 w14 ho hb hg hat
      rw [← Ny345.out] at ho
      have n0_ := Aside0.mk (blk_grown (g := gb337) (o := .cells #[.int .i64 a0_0, .int .i64 a0_1, .int .i64 a0_2, .int .i64 a0_3, .slice A0_4 l0_4.length c0_4] 47 (0, 0)) (by (with_reducible repeat (first | refine blk_drewN ?_ _ | refine blk_drew ?_ | refine blk_alloc ?_ _)); exact BK337.out) hg (Kd.R_ne HO344.out BK337.out (by decide)))
      have n1_ := Aside0.mk (Kd.R_over' (by (with_reducible repeat (first | apply Kd.R_alloc | apply Kd.R_drewN | apply Kd.R_drew)); exact HO341.out) (Kd.R_typed (by (with_reducible repeat (first | apply Kd.R_alloc | apply Kd.R_drewN | apply Kd.R_drew)); exact HO344.out)) (by decide) hg)
      have n2_ := Aside0.mk (hb)
      have n3_ := Aside0.mk (ho)
      clear BK337
      clear HO341
      clear HB
      clear HO344
      have BK337 := n0_
      have HO341 := n1_
      have HB := n2_
      have HO347 := n3_
      clear n0_ n1_ n2_ n3_
      clear ho hb hg hat
      refine hK.out _ _ ⟨(blk_cell BK337.out 0).trans rfl, (blk_cell BK337.out 1).trans rfl, (blk_cell BK337.out 2).trans rfl, (blk_cell BK337.out 3).trans rfl, (blk_cell BK337.out 4).trans rfl⟩ (fun hHeld => ?_)
      clear hK K
      refine norm_ (a' := ?_) ?_ ?_
      rotate_left
      · show Act.put _ (some 22) _ = _
        simp only [Act.put, List.setIfInBounds_toArray, List.set_cons_zero, List.set_cons_succ, i64_w, i32_w]
        rfl
      refine pure_ (i := 16) (N := some 2) (v := ?_) (a' := ?_) #[true, true, true, true, true, true, true, true, true, true, true, true, true, true, true, true, true, false] rfl rfl (any_of HT_.out (by kernel_rfl)) (fun _ _ _ h => h) (Or.inl ⟨by rfl, ?_⟩) ?_ ?_
      rotate_left
      · intro w'
        go_simp
        with_reducible rfl
      rotate_left
      · simp only [Act.put, List.setIfInBounds_toArray, List.set_cons_zero, List.set_cons_succ, i64_w, i32_w]
        rfl
      refine pure_ (i := 17) (N := some 3) (v := ?_) (a' := ?_) #[true, true, true, true, true, true, true, true, true, true, true, true, true, true, true, true, true, true] rfl rfl (any_of HT_.out (by kernel_rfl)) (fun _ _ _ h => h) (Or.inl ⟨by rfl, ?_⟩) ?_ ?_
      rotate_left
      · intro w'
        go_simp
        with_reducible rfl
      rotate_left
      · simp only [Act.put, List.setIfInBounds_toArray, List.set_cons_zero, List.set_cons_succ, i64_w, i32_w]
        rfl
      refine done_ (done_of HT_.out (by kernel_rfl)) ?_
      try go_wp2
      go_ret2
      exact ⟨_, by first | rfl | (simp [errW_none, errW_some] <;> rfl) | (simp [*, errW_none, errW_some] <;> rfl), by (with_reducible repeat (first | apply Kd.R_alloc | apply Kd.R_drewN | apply Kd.R_drew)); exact HO347.out, by repeat (first | (with_reducible first | exact HB.out | apply below_alloc | apply pw_below_drewN | apply below_drew1 | refine below_set ?_ GE337.out) | exact HB.out)⟩
    · rw [if_neg c5] at H
      exact absurd H (by simp)
  · replace c3 := Bool.eq_false_iff.mpr c3
    subst c3
    have H1 : (some (([] : List Int), 21)) = some (r1, r2) := by rw [if_neg (show ¬ (false = true) by decide)] at H; exact H
    clear H
    have H := H1
    clear H1
    simp only [Option.some.injEq, Prod.mk.injEq] at H
    obtain ⟨rfl, rfl⟩ := H
    go_enter Try.func70, Try.ntmps70
    go_wp2_with (first | ((with_reducible refine gate_dst (N := 1) rfl ?_); refine box_event ?hg (N := 1) ?hd (cs := #[.int .i64 a0_0, .int .i64 a0_1, .int .i64 a0_2, .int .i64 a0_3, .slice A0_4 l0_4.length c0_4]) (t := 47) ?hr ?_; (case hd => rfl); (case hg => rfl); (case hr => first | (go_simp; done) | (go_simp; rfl)); intro gb337 hg w15 hbox hb; have n0_ := Aside0.mk (below_step (by repeat (first | (with_reducible first | exact HB.out | apply below_alloc | apply pw_below_drewN | apply below_drew1) | exact HB.out)) hb); have n1_ := Aside0.mk (hbox); have n2_ := Aside0.mk ((by rw [hg]; exact (below_size (by repeat (first | (with_reducible first | exact HB.out | apply below_alloc | apply pw_below_drewN | apply below_drew1) | exact HB.out))) : w.heap.size ≤ gb337)); have n3_ := Aside0.mk ((by rw [hg]; exact (below_size (by repeat (first | (with_reducible first | exact HB.out | apply below_alloc | apply pw_below_drewN | apply below_drew1) | exact HB.out))) : w.heap.size ≤ gb337)); clear HB; have HB := n0_; have BK337 := n1_; have GW337 := n2_; have GE337 := n3_; clear n0_ n1_ n2_ n3_; clear hb hbox hg; have hcz16_0 : w15.cell? ⟨gb337, 0, none⟩ = some (.int .i64 a0_0) := (blk_cell BK337.out 0).trans rfl; have hcz16_1 : w15.cell? ⟨gb337, 1, none⟩ = some (.int .i64 a0_1) := (blk_cell BK337.out 1).trans rfl; have hcz16_2 : w15.cell? ⟨gb337, 2, none⟩ = some (.int .i64 a0_2) := (blk_cell BK337.out 2).trans rfl; have hcz16_3 : w15.cell? ⟨gb337, 3, none⟩ = some (.int .i64 a0_3) := (blk_cell BK337.out 3).trans rfl; have hcz16_4 : w15.cell? ⟨gb337, 4, none⟩ = some (.slice A0_4 l0_4.length c0_4) := (blk_cell BK337.out 4).trans rfl; have hfz16_0 := blk_frozen BK337.out 0; have hfz16_1 := blk_frozen BK337.out 1; have hfz16_2 := blk_frozen BK337.out 2; have hfz16_3 := blk_frozen BK337.out 3; have hfz16_4 := blk_frozen BK337.out 4) | ((with_reducible refine gate_callee (f := 26) rfl ?_); refine goesL_ (some 5) rfl rfl Try.func26 (by kernel_rfl) rfl #[.agg #[.int .i64 a0_0, .int .i64 a0_1, .int .i64 a0_2, .int .i64 a0_3, .slice A0_4 l0_4.length c0_4]] rfl (by (try simp only [List.map_toArray, List.map_cons, List.map_nil]); first | done | rfl | (simp only [List.length_drop, List.length_take]; rfl)) ?_; (with_reducible refine (sluiceref2_RightSegment.calls a0_0 a0_1 a0_2 a0_3 _ _ l0_4 false _ ?side1 ?side2 A2.out).mono ?_); (case side1 => repeat (first | exact (Kd.C_below HR0_4.out HB.out) | (with_reducible refine Kd.C_alloc ?_ _) | (with_reducible refine Kd.C_drewN ?_ _) | (with_reducible refine Kd.C_drew ?_))); (case side2 => exact HC0_4.out); rintro e w17 ⟨rfl, hb⟩; refine ⟨_, rfl, ?_⟩; have n0_ := Aside0.mk (blk_below (g := gb337) (o := .cells #[.int .i64 a0_0, .int .i64 a0_1, .int .i64 a0_2, .int .i64 a0_3, .slice A0_4 l0_4.length c0_4] 47 (0, 0)) (by (with_reducible repeat (first | refine blk_drewN ?_ _ | refine blk_drew ?_ | refine blk_alloc ?_ _)); exact BK337.out) hb); have n1_ := Aside0.mk (below_step (by repeat (first | (with_reducible first | exact HB.out | apply below_alloc | apply pw_below_drewN | apply below_drew1 | refine below_set ?_ GE337.out) | exact HB.out)) hb); clear BK337; clear HB; have BK337 := n0_; have HB := n1_; clear n0_ n1_; (try clear hb); (try clear hb2); (try clear hk); (try clear hi)))
    go_ret2
    exact ⟨_, by first | rfl | (simp [errW_none, errW_some] <;> rfl) | (simp [*, errW_none, errW_some] <;> rfl), by first | exact Kd.R_nil _ _ _ _ _ | exact Kd.N_nil _ _ _ _ _ | exact Kd.V_nil _ _ _ _ _ | exact Kd.Q_nil _ _ _ _ _ | exact Kd.S_nil _ _ _ _ _, by repeat (first | (with_reducible first | exact HB.out | apply below_alloc | apply pw_below_drewN | apply below_drew1 | refine below_set ?_ GE337.out) | exact HB.out)⟩

end Go.Proofs.Ytpgdmmjbhjbbhaa.P
end
section
namespace Go.Proofs.Ytpgdmmjbhjbbhaa.P
open Go.RowKit Go.Proofs.YtpgdmmjbhjbbhaaW.PrintWords Go.Proofs.YtpgdmmjbhjbbhaaW.PrintLast Go.Proofs.YtpgdmmjbhjbbhaaW.PrintMore
attribute [local go_sem] Go.Proofs.Ytpgdmmjbhjbbhaa.StrLe.leq_str Go.Proofs.Ytpgdmmjbhjbbhaa.StrLe.gtr_str
attribute [local go_sem] max2_int min2_int max_two min_two max_three min_three max_four min_four   -- for this text's walks alone
set_option linter.unusedVariables false
set_option linter.unusedSimpArgs false

end Go.Proofs.Ytpgdmmjbhjbbhaa.P
end
section
namespace Go.Proofs.Ytpgdmmjbhjbbhaa.Lw
open Go Go.RowKit Go.Proofs.Ytpgdmmjbhjbbhaa.P Go.Proofs.Ytpgdmmjbhjbbhaa.Sp Go.Proofs.Ytpgdmmjbhjbbhaa.Vd Go.Proofs.Ytpgdmmjbhjbbhaa.En Go.Proofs.Ytpgdmmjbhjbbhaa.Wr Go.Proofs.Ytpgdmmjbhjbbhaa.Rd Go.Proofs.YtpgdmmjbhjbbhaaW.PrintWords Go.Proofs.YtpgdmmjbhjbbhaaW.PrintLast Go.Proofs.YtpgdmmjbhjbbhaaW.PrintMore
set_option linter.unusedVariables false
set_option linter.unusedSimpArgs false
theorem lit_row {l : List Int} {w : World} {b : Nat} {t : TypeId} {cs : Array Value} (h : w.heap[b]? = some (.cells cs t (0, 0))) (hc : cs.toList = l.map (Value.int .u8)) (hl : l.length ≤ 1000) : Kd.C (Kd.int .u8) w (some ⟨b, 0, none⟩) l.length l := by
  obtain rfl : cs = (l.map (Value.int .u8)).toArray := by rw [← hc]
  refine Kd.C_of_reads (d := (0 : Int)) (h1 := fun _ => rfl) ⟨rfl, by omega, fun _ => ⟨_, rfl, fun j hj => ?_⟩⟩
  rw [add_plain, cell_of_row _ b j _ t (0, 0) h]
  simp only [List.getElem?_toArray, List.getElem?_map, List.getElem?_eq_getElem hj, Option.map_some, List.getD_eq_getElem?_getD, Option.getD_some]
set_option maxHeartbeats 1000000 in
set_option maxRecDepth 100000 in
theorem lent_calls (A : Option Addr) (c : Nat) (b : List Int) (w : World) (hr : Kd.C (Kd.int .u8) w A b.length b) (hl : b.length ≤ 140737488351232) :
    Calls Try.prog 19 #[.slice A b.length c] w fun e w' => ∃ v : Value, e = .returned v ∧ Kd.R (Kd.int .u8) 5 w' w.heap.size (fun _ => True) v (b ++ [165, 90]) ∧ Below w.heap.size w w' := by
  have HR := Aside0.mk hr
  have HL := Aside0.mk hl
  have HZ0 : Aside0 ((0 + b.length) * 1 ≤ 140737488355328) := ⟨by omega⟩
  clear hr hl
  go_enter Try.func19, Try.ntmps19
  go_wp2_with (refine Kd.R_append_row (Value.int .u8) (0 : Int) (h1 := fun _ => rfl) (w0 := w) w.heap.size rfl (.const (.slice none 0 0)) (.tmp 4) 36 5 (.int .u8 0) 1 rfl Try.underlying36 inf8 rfl (by omega) (.slice none 0 0) [] b A b.length c (fun _ => True) rfl rfl (fun _ _ => trivial) (Kd.R_nil _ _ _ _ _) HR.out (Below.refl _ _) (Nat.le_refl _) HZ0.out ?_)
  intro v1 w1 hR1 hB1 hg1 hat1
  have HR1 := Aside0.mk hR1
  have HB1 := Aside0.mk hB1
  clear hR1 hB1 hg1 hat1
  have HC2 : Aside0 (Kd.C (Kd.int .u8) (w1.alloc (.cells #[.int .u8 165, .int .u8 90] 5)) (some ⟨w1.heap.size, 0, none⟩) 2 [165, 90]) := ⟨lit_row (l := [165, 90]) (heap_alloc_new w1 _) rfl (by decide)⟩
  have HR2 : Aside0 (Kd.R (Kd.int .u8) 5 (w1.alloc (.cells #[.int .u8 165, .int .u8 90] 5)) w.heap.size (fun _ => True) v1 b) := ⟨Kd.R_below HR1.out ((Below.refl _ _).alloc (Nat.le_refl _) _)⟩
  have HB2 : Aside0 (Below w.heap.size w (w1.alloc (.cells #[.int .u8 165, .int .u8 90] 5))) := ⟨HB1.out.alloc HB1.out.size _⟩
  have HZ2 : Aside0 ((b.length + 2) * 1 ≤ 140737488355328) := ⟨by have := HL.out; omega⟩
  have HS2 : Aside0 (w.heap.size ≤ (w1.alloc (.cells #[.int .u8 165, .int .u8 90] 5)).heap.size) := ⟨HB2.out.size⟩
  go_wp2_with (refine Kd.R_append_row (Value.int .u8) (0 : Int) (h1 := fun _ => rfl) (w0 := w) w.heap.size rfl (.tmp 6) (.tmp 7) 36 5 (.int .u8 0) 1 rfl Try.underlying36 inf8 rfl (by omega) v1 b [165, 90] (some ⟨w1.heap.size, 0, none⟩) 2 2 (fun _ => True) rfl rfl (fun _ _ => trivial) HR2.out HC2.out HB2.out HS2.out HZ2.out ?_)
  intro v2 w2 hR2 hB2 hg2 hat2
  have HR3 := Aside0.mk hR2
  have HB3 := Aside0.mk hB2
  clear hR2 hB2 hg2 hat2
  go_wp2
  go_ret
  exact ⟨v2, rfl, HR3.out, HB3.out⟩
theorem toList_inj {a b : ByteArray} : a.toList = b.toList ↔ a = b := by
  rw [ByteArray.toList_eq, ByteArray.toList_eq]
  constructor
  · intro h
    cases a with
    | mk x =>
      cases b with
      | mk y =>
        have : x = y := Array.toList_inj.mp h
        rw [this]
  · rintro rfl; rfl
theorem strOf_inj {a b : List Int} (ha : IsB a) (hb : IsB b) : (strOfNums a).toList = (strOfNums b).toList ↔ a = b := by
  rw [toList_inj]
  constructor
  · intro h
    rw [← bytesOf_strOf ha, ← bytesOf_strOf hb, h]
  · rintro rfl; rfl
theorem alike_law {a b : List Int} (ha : IsB a) (hb : IsB b) : sluicelaw2_alike.f a b = some (dcd (a = b)) := by
  unfold sluicelaw2_alike.f
  congr 1
  exact bool_dcd (by rw [beq_iff_eq, strOf_inj ha hb])
theorem alike_calls (A0 : Option Addr) (c0 : Nat) (a : List Int) (A1 : Option Addr) (c1 : Nat) (b : List Int) (w : World) (ha : In w A0 c0 a) (hb : In w A1 c1 b) :
    Calls Try.prog 37 #[.slice A0 a.length c0, .slice A1 b.length c1] w fun e w' => e = .returned (.bool (dcd (a = b))) ∧ Below w.heap.size w w' :=
  (sluicelaw2_alike.calls A0 c0 a A1 c1 b _ w ha.row ha.cap hb.row hb.cap (alike_law ha.isB hb.isB)).mono fun e w' h => ⟨h.1, h.2.below⟩
set_option maxHeartbeats 4000000 in
set_option maxRecDepth 100000 in
theorem sameSegment_calls (s t : Seg) (A0 : Option Addr) (c0 : Nat) (A1 : Option Addr) (c1 : Nat) (w : World) (ha : In w A0 c0 s.data) (hb : In w A1 c1 t.data) :
    Calls Try.prog 29 #[SV s A0 c0, SV t A1 c1] w fun e w' => e = .returned (.bool (dcd (s = t))) ∧ Below w.heap.size w w' := by
  have HX := Aside0.mk (And.intro ha hb)
  clear ha hb
  have hu47 := Try.underlying47
  unfold SV
  obtain ⟨wa, hwa⟩ : ∃ wa, wa = (w.alloc (.cells (SVc s A0 c0) 47 (0, 0))).alloc (.cells (SVc t A1 c1) 47 (0, 0)) := ⟨_, rfl⟩
  have HWA := Aside0.mk hwa
  have HB : Aside0 (Below w.heap.size w wa) := ⟨by rw [hwa]; exact below_al2 w _ _⟩
  have BK : Aside0 (wa.heap[w.heap.size]? = some (.cells (SVc s A0 c0) 47 (0, 0)) ∧ wa.heap[w.heap.size + 1]? = some (.cells (SVc t A1 c1) 47 (0, 0))) := ⟨by
    rw [hwa]
    refine ⟨(Below.heap_alloc _ _ _ (by simp)).trans (heap_alloc_new w _), ?_⟩
    have := heap_alloc_new (w.alloc (.cells (SVc s A0 c0) 47 (0, 0))) (.cells (SVc t A1 c1) 47 (0, 0))
    rwa [show (w.alloc (.cells (SVc s A0 c0) 47 (0, 0))).heap.size = w.heap.size + 1 by simp] at this⟩
  clear hwa
  obtain ⟨vv, hvv⟩ : ∃ vv, dcd (s.data = t.data) = vv := ⟨_, rfl⟩
  have HVI : Aside0 (s.data = t.data ↔ vv = true) := ⟨by rw [← hvv, dcd_iff]⟩
  have HVV := Aside0.mk hvv
  clear hvv
  have ka0 : wa.cell? ⟨w.heap.size, 0, none⟩ = some (.int .i64 s.src) := (blk_cell BK.out.1 0).trans rfl
  have ka1 : wa.cell? ⟨w.heap.size, 1, none⟩ = some (.int .i64 s.dst) := (blk_cell BK.out.1 1).trans rfl
  have ka2 : wa.cell? ⟨w.heap.size, 2, none⟩ = some (.int .i64 s.seq) := (blk_cell BK.out.1 2).trans rfl
  have ka3 : wa.cell? ⟨w.heap.size, 3, none⟩ = some (.int .i64 s.ack) := (blk_cell BK.out.1 3).trans rfl
  have ka4 : wa.cell? ⟨w.heap.size, 4, none⟩ = some (.slice A0 s.data.length c0) := (blk_cell BK.out.1 4).trans rfl
  have kb0 : wa.cell? ⟨w.heap.size + 1, 0, none⟩ = some (.int .i64 t.src) := (blk_cell BK.out.2 0).trans rfl
  have kb1 : wa.cell? ⟨w.heap.size + 1, 1, none⟩ = some (.int .i64 t.dst) := (blk_cell BK.out.2 1).trans rfl
  have kb2 : wa.cell? ⟨w.heap.size + 1, 2, none⟩ = some (.int .i64 t.seq) := (blk_cell BK.out.2 2).trans rfl
  have kb3 : wa.cell? ⟨w.heap.size + 1, 3, none⟩ = some (.int .i64 t.ack) := (blk_cell BK.out.2 3).trans rfl
  have kb4 : wa.cell? ⟨w.heap.size + 1, 4, none⟩ = some (.slice A1 t.data.length c1) := (blk_cell BK.out.2 4).trans rfl
  go_enter Try.func29, Try.ntmps29
  go_upto_region 1 with fail
  rw [← HWA.out]
  go_wp2_with (go_at_call 37; refine (alike_calls A0 c0 s.data A1 c1 t.data _ ⟨Kd.C_below HX.out.1.row HB.out, HX.out.1.isB, HX.out.1.cap⟩ ⟨Kd.C_below HX.out.2.row HB.out, HX.out.2.isB, HX.out.2.cap⟩).mono ?_; rintro e w1 ⟨rfl, hb⟩; rw [HVV.out]; have n0_ := Aside0.mk (below_step HB.out hb); clear HB hb; have HB := n0_; clear n0_)
  all_goals go_ret
  all_goals refine ⟨congrArg (fun b => Ending.returned (Value.bool b)) (bool_dcd ?_), HB.out⟩
  all_goals clear HX HWA hu47 BK HVV HB
  all_goals rw [show s = t ↔ s.src = t.src ∧ s.dst = t.dst ∧ s.seq = t.seq ∧ s.ack = t.ack ∧ s.data = t.data from ⟨fun h => by subst h; simp, fun h => by cases s; cases t; simp_all⟩, HVI.out]
  all_goals clear HVI
  all_goals first | (simp [*]; done) | (cases vv <;> first | (simp [*]; done) | contradiction | (simp_all; done))
end Go.Proofs.Ytpgdmmjbhjbbhaa.Lw
end
section
namespace Go.Proofs.Ytpgdmmjbhjbbhaa.Lw
open Go Go.RowKit Go.Proofs.Ytpgdmmjbhjbbhaa.P Go.Proofs.Ytpgdmmjbhjbbhaa.Sp Go.Proofs.Ytpgdmmjbhjbbhaa.Vd Go.Proofs.Ytpgdmmjbhjbbhaa.En Go.Proofs.Ytpgdmmjbhjbbhaa.Wr Go.Proofs.Ytpgdmmjbhjbbhaa.Rd Go.Proofs.YtpgdmmjbhjbbhaaW.PrintWords Go.Proofs.YtpgdmmjbhjbbhaaW.PrintLast Go.Proofs.YtpgdmmjbhjbbhaaW.PrintMore
set_option linter.unusedVariables false
set_option linter.unusedSimpArgs false
end Go.Proofs.Ytpgdmmjbhjbbhaa.Lw
end
section
namespace Go.Proofs.Ytpgdmmjbhjbbhaa.Lw
open Go Go.RowKit Go.Proofs.Ytpgdmmjbhjbbhaa.P Go.Proofs.Ytpgdmmjbhjbbhaa.Sp Go.Proofs.Ytpgdmmjbhjbbhaa.Vd Go.Proofs.Ytpgdmmjbhjbbhaa.En Go.Proofs.Ytpgdmmjbhjbbhaa.Wr Go.Proofs.Ytpgdmmjbhjbbhaa.Rd Go.Proofs.YtpgdmmjbhjbbhaaW.PrintWords Go.Proofs.YtpgdmmjbhjbbhaaW.PrintLast Go.Proofs.YtpgdmmjbhjbbhaaW.PrintMore
set_option linter.unusedVariables false
set_option linter.unusedSimpArgs false
theorem In.below {w w1 : World} {A : Option Addr} {c : Nat} {l : List Int} (h : In w A c l) (hb : Below w.heap.size w w1) : In w1 A c l := ⟨Kd.C_below h.row hb, h.isB, h.cap⟩
theorem in_of_R {w : World} {base : Nat} {ok : Nat → Prop} {v : Value} {l : List Int} (h : Kd.R (Kd.int .u8) 5 w base ok v l) (hb : IsB l) : ∃ A c, v = .slice A l.length c ∧ In w A c l := by
  obtain ⟨A, c, hv, hc, hC⟩ := Kd.R_reads h
  exact ⟨A, c, hv, hC, hb, hc⟩
theorem in_lit {l : List Int} {w : World} {b : Nat} {t : TypeId} {cs : Array Value} {n : Nat} (h : w.heap[b]? = some (.cells cs t (0, 0))) (hc : cs.toList = l.map (Value.int .u8)) (hl : l.length ≤ 1000) (hb : IsB l) (hn : n = l.length) : In w (some ⟨b, 0, none⟩) n l := ⟨lit_row h hc hl, hb, by omega⟩
theorem views_nil (w : World) (A : Option Addr) : Kd.C k87 w A ([] : List S87).length [] := ⟨rfl, by simp, fun h => by simp at h⟩
theorem isB_of {l : List Int} (h : ∀ x ∈ l, decide (0 ≤ x ∧ x ≤ 255) = true) : IsB l := fun x hx => of_decide_eq_true (h x hx)
theorem mEx_isI : isI mEx.op.a ∧ isI mEx.op.b := ⟨by unfold isI; decide, by unfold isI; decide⟩
def bM : List Int := [3, 1, 107, 10, 0, 2, 1]
def bS : List Int := [0, 1, 0, 7, 0]
def bQ : List Int := [3, 1, 2, 1, 107, 10, 0]
def bR : List Int := [0, 9, 0, 5]
theorem bM_B : IsB bM := isB_of (by decide)
theorem bS_B : IsB bS := isB_of (by decide)
theorem bQ_B : IsB bQ := isB_of (by decide)
theorem bR_B : IsB bR := isB_of (by decide)
theorem enc_ex (w : World) : Calls Try.prog 16 #[.agg #[.int .i64 3, .string ⟨#[107]⟩, .int .i64 10, .int .i64 0, .int .i64 2, .int .i64 1, .int .i64 0, .int .i64 0, .int .i64 0, .int .i64 0, .int .i64 0, .int .i64 0, .int .i64 0, .int .i64 0, .string ⟨#[]⟩, .int .i64 0, .int .i64 0, .int .i64 0, .int .i64 0, .slice none 0 0]] w fun e w' => ∃ A c, e = .returned (.tuple #[.slice A 7 c, .int .i64 0]) ∧ In w' A c bM ∧ Below w.heap.size w w' := by
  refine (encode_calls mEx mEx_isI none 0 w (views_nil _ _) (Nat.le_refl _)).mono ?_
  rintro e w' ⟨v, he, hR, hb⟩
  rw [lay_right mEx_right] at he hR
  simp only [mEx_bytes] at hR
  obtain ⟨A, c, rfl, hi⟩ := in_of_R hR bM_B
  exact ⟨A, c, he, hi, hb⟩
theorem dec_ex (w : World) (A : Option Addr) (c : Nat) (h : In w A c bM) : Calls Try.prog 18 #[.slice A 7 c] w fun e w' => ∃ A1 c1, e = .returned (.tuple #[.agg (MVc mEx A1 c1), .int .i64 0, .int .i64 0]) ∧ Below w.heap.size w w' := by
  refine (decode_calls w A c bM h).mono ?_
  rintro e w' ⟨hb, A1, c1, he, _⟩
  have hw : whole zMsg msgP bM = (mEx, 0, 0) := by rw [show bM = msgB mEx from mEx_bytes.symm]; exact whole_back msgP_codec _ mEx_right
  rw [hw] at he
  exact ⟨A1, c1, he, hb⟩
theorem seg_ex (w : World) : Calls Try.prog 27 #[.agg #[.int .i64 0, .int .i64 1, .int .i64 0, .int .i64 7, .slice none 0 0]] w fun e w' => ∃ A c, e = .returned (.tuple #[.slice A 5 c, .int .i64 0]) ∧ In w' A c bS ∧ Below w.heap.size w w' := by
  refine (encseg_calls sEx none 0 w ⟨rfl, by decide, fun h => absurd h (by decide)⟩ (Nat.le_refl _) (fun x h => by cases h)).mono ?_
  rintro e w' ⟨v, he, hR, hb⟩
  rw [lay_right sEx_right] at he hR
  simp only [sEx_bytes] at hR
  obtain ⟨A, c, rfl, hi⟩ := in_of_R hR bS_B
  exact ⟨A, c, he, hi, hb⟩
theorem req_ex (w : World) (A : Option Addr) (c : Nat) (h : In w A c bQ) : Calls Try.prog 33 #[.slice A 7 c] w fun e w' => e = .returned (.tuple #[.agg #[.int .i64 3, .int .i64 1], .agg #[.int .i64 2, .string ⟨#[107]⟩, .int .i64 5, .int .i64 0], .int .i64 0, .int .i64 0]) ∧ Below w.heap.size w w' := by
  refine (decreq_calls w A c bQ h).mono ?_
  rintro e w' ⟨hb, he⟩
  have hw : whole (z25, zOp) reqP bQ = (qEx, 0, 0) := by rw [show bQ = reqB qEx from qEx_bytes.symm]; exact whole_back reqP_codec _ qEx_right
  rw [hw] at he
  exact ⟨he, hb⟩
theorem rep_ex (w : World) : Calls Try.prog 34 #[.agg #[.int .i64 0, .int .i64 9, .int .i64 0, .int .i64 (-3)]] w fun e w' => ∃ A c, e = .returned (.tuple #[.slice A 4 c, .int .i64 0]) ∧ In w' A c bR ∧ Below w.heap.size w w' := by
  refine (encrep_calls rEx w (by unfold isI; decide)).mono ?_
  rintro e w' ⟨v, he, hR, hb⟩
  rw [lay_right rEx_right] at he hR
  simp only [rEx_bytes] at hR
  obtain ⟨A, c, rfl, hi⟩ := in_of_R hR bR_B
  exact ⟨A, c, he, hi, hb⟩
theorem val_ex (w : World) (A1 : Option Addr) (c1 : Nat) : Calls Try.prog 21 #[.agg (MVc mEx A1 c1)] w fun e w' => e = .returned (.bool true) ∧ Below w.heap.size w w' := by
  refine (valid_calls mEx mEx_isI A1 c1 w (views_nil _ _) (Nat.zero_le _)).mono ?_
  rintro e w' ⟨he, hb⟩
  rw [dcd_pos mEx_right] at he
  exact ⟨he, hb⟩
theorem alike_ex (A0 : Option Addr) (c0 : Nat) (A1 : Option Addr) (c1 : Nat) (b : List Int) (n : Nat) (hn : b.length = n) (w : World) (ha : In w A0 c0 b) (hb : In w A1 c1 b) :
    Calls Try.prog 37 #[.slice A0 n c0, .slice A1 n c1] w fun e w' => e = .returned (.bool true) ∧ Below w.heap.size w w' := by
  subst hn
  refine (alike_calls A0 c0 b A1 c1 b w ha hb).mono ?_
  rintro e w' ⟨he, hb⟩
  rw [dcd_pos rfl] at he
  exact ⟨he, hb⟩
end Go.Proofs.Ytpgdmmjbhjbbhaa.Lw
end
