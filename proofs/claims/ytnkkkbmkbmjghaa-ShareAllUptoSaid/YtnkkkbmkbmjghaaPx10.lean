/- Contracts of Go functions, each for every input: laid by a program of this session over the kit's print, beside contracts that this session proved by hand. -/
import Derived.Test.YtnkkkbmkbmjghaaPx0
import Derived.Test.YtnkkkbmkbmjghaaPx1
import Derived.Test.YtnkkkbmkbmjghaaPx4
import Derived.Test.YtnkkkbmkbmjghaaPx6
namespace Go.Proofs.Ytnkkkbmkbmjghaa.P
open Go.RowKit Go.Proofs.YtnkkkbmkbmjghaaW.PrintWords Go.Proofs.YtnkkkbmkbmjghaaW.PrintLast Go.Proofs.YtnkkkbmkbmjghaaW.PrintMore
attribute [local go_sem] max2_int min2_int max_two min_two max_three min_three max_four min_four   -- for this text's walks alone
set_option linter.unusedVariables false
set_option linter.unusedSimpArgs false

attribute [local go_sem high] eqA50
/-! ### sluicelaw8_back: function 32 -/
mutual
def sluicelaw8_back.j0 : Nat → List Int → Bool → Option (Bool × List Int)
  | 0, _, _ => none
  | k + 1, x0, x6 => sluicelaw8_back.l0 k x0 x6 0
def sluicelaw8_back.l0 : Nat → List Int → Bool → Int → Option (Bool × List Int)
  | 0, _, _, _ => none
  | k + 1, x0, x6, x7 => if x7 < (x0.length : Int) then (if 0 ≤ x7 then (sluicelaw8_back.l0 k (x0.set (x7 : Int).toNat 5) x6 (wrap64 (x7 + 1))) else (none)) else (some (x6, x0))
end
def sluicelaw8_back.f (k : Nat) (l0 : List Int) (l1 : List Int) : Option (Bool × List Int) := if 0 ≤ (l1.length : Int) then (if (l1.length : Int) ≤ (l0.length : Int) then ((sluicelaw8_same.f k (l0.take ((l1.length : Int) : Int).toNat) l1).bind fun t215 => (if t215 = true then (if (l1.length : Int) < (l0.length : Int) then (if (rd l0 (l1.length : Int)) = 77 then (if 0 ≤ (wrap64 ((l1.length : Int) + 1)) then (if (wrap64 ((l1.length : Int) + 1)) < (l0.length : Int) then (sluicelaw8_back.j0 k l0 ((rd l0 (wrap64 ((l1.length : Int) + 1))) == 78)) else (none)) else (none)) else (sluicelaw8_back.j0 k l0 false)) else (none)) else (sluicelaw8_back.j0 k l0 false))) else (none)) else (none)
theorem sluicelaw8_back.mono_l : ∀ k, (∀ y0 y1, LeO (sluicelaw8_back.j0 k y0 y1) (sluicelaw8_back.j0 (k + 1) y0 y1)) ∧ (∀ y0 y1 y2, LeO (sluicelaw8_back.l0 k y0 y1 y2) (sluicelaw8_back.l0 (k + 1) y0 y1 y2))
  | 0 => ⟨fun _ _ r h => by simp [sluicelaw8_back.j0] at h, fun _ _ _ r h => by simp [sluicelaw8_back.l0] at h⟩
  | k + 1 => by
    obtain ⟨ih0, ih1⟩ := sluicelaw8_back.mono_l k
    refine ⟨?_, ?_⟩
    · intro y0 y1
      unfold sluicelaw8_back.j0
      repeat' first
      | (with_reducible exact ih0 _ _)
      | (with_reducible exact ih1 _ _ _)
      | (with_reducible exact sluicelaw8_same.mono _ _ _)
      | (with_reducible exact LeO.refl _)
      | (with_reducible exact LeO.none _)
      | (with_reducible refine LeO.ite ?_ ?_)
      | (with_reducible refine LeO.bind ?_ (fun _ => ?_))
      | exact ih0 _ _
      | exact ih1 _ _ _
      | exact sluicelaw8_same.mono _ _ _
      | exact LeO.none _
      | refine LeO.ite ?_ ?_
      | refine LeO.bind ?_ (fun _ => ?_)
    · intro y0 y1 y2
      unfold sluicelaw8_back.l0
      repeat' first
      | (with_reducible exact ih0 _ _)
      | (with_reducible exact ih1 _ _ _)
      | (with_reducible exact sluicelaw8_same.mono _ _ _)
      | (with_reducible exact LeO.refl _)
      | (with_reducible exact LeO.none _)
      | (with_reducible refine LeO.ite ?_ ?_)
      | (with_reducible refine LeO.bind ?_ (fun _ => ?_))
      | exact ih0 _ _
      | exact ih1 _ _ _
      | exact sluicelaw8_same.mono _ _ _
      | exact LeO.none _
      | refine LeO.ite ?_ ?_
      | refine LeO.bind ?_ (fun _ => ?_)
theorem sluicelaw8_back.mono : ∀ a0 a1 k, LeO (sluicelaw8_back.f k a0 a1) (sluicelaw8_back.f (k + 1) a0 a1) := by
  intro a0 a1 k
  obtain ⟨ih0, ih1⟩ := sluicelaw8_back.mono_l k
  unfold sluicelaw8_back.f
  repeat' first
      | (with_reducible exact ih0 _ _)
      | (with_reducible exact ih1 _ _ _)
      | (with_reducible exact sluicelaw8_same.mono _ _ _)
      | (with_reducible exact LeO.refl _)
      | (with_reducible exact LeO.none _)
      | (with_reducible refine LeO.ite ?_ ?_)
      | (with_reducible refine LeO.bind ?_ (fun _ => ?_))
      | exact ih0 _ _
      | exact ih1 _ _ _
      | exact sluicelaw8_same.mono _ _ _
      | exact LeO.none _
      | refine LeO.ite ?_ ?_
      | refine LeO.bind ?_ (fun _ => ?_)
set_option maxHeartbeats 8000000 in
set_option maxRecDepth 100000 in
theorem sluicelaw8_back.calls (k : Nat) (P0_ : Nat → Prop) (u9000_ : Value) (l0 : List Int) (A1 : Option Addr) (c1 : Nat) (l1 : List Int) (r1 : Bool) (r2 : List Int) (w0 w : World) (hB : Below w0.heap.size w0 w) (ho0 : Kd.R (Kd.int .i64) 3 w w0.heap.size P0_ u9000_ l0) (hr1 : ∀ W_, Kept w W_ (fun k_ => P0_ k_) → Kd.C (Kd.int .i64) W_ A1 l1.length l1) (hc1 : l1.length ≤ c1) (h : sluicelaw8_back.f k l0 l1 = some (r1, r2)) :
    Calls Try.prog 32 #[u9000_, .slice A1 l1.length c1] w fun e w' => e = .returned (.bool r1) ∧ Kd.R (Kd.int .i64) 3 w' w0.heap.size (fun k_ => (P0_ k_ ∨ w.heap.size ≤ k_)) u9000_ r2 ∧ Below w0.heap.size w0 w' ∧ Kept w w' (fun k_ => P0_ k_) := by
  have HO0 := Aside0.mk (show Kd.R (Kd.int .i64) 3 w w0.heap.size (fun k_ => (P0_ k_ ∨ w.heap.size ≤ k_)) u9000_ l0 from Kd.R_mono ho0 (fun k_ hk => (.inl hk)))
  have HR1 := Aside0.mk hr1
  have HC1 := Aside0.mk hc1
  clear hr1 hc1
  have HK := Aside0.mk (Kept.refl w (fun k_ => P0_ k_))
  have HW0 := Aside0.mk hB.size
  have HB := Aside0.mk hB
  clear hB
  have H : (if 0 ≤ (l1.length : Int) then (if (l1.length : Int) ≤ (l0.length : Int) then ((sluicelaw8_same.f k (l0.take ((l1.length : Int) : Int).toNat) l1).bind fun t215 => (if t215 = true then (if (l1.length : Int) < (l0.length : Int) then (if (rd l0 (l1.length : Int)) = 77 then (if 0 ≤ (wrap64 ((l1.length : Int) + 1)) then (if (wrap64 ((l1.length : Int) + 1)) < (l0.length : Int) then (sluicelaw8_back.j0 k l0 ((rd l0 (wrap64 ((l1.length : Int) + 1))) == 78)) else (none)) else (none)) else (sluicelaw8_back.j0 k l0 false)) else (none)) else (sluicelaw8_back.j0 k l0 false))) else (none)) else (none)) = some (r1, r2) := h
  clear h
  have HC3 := Aside0.mk H
  clear H
  go_enter Try.func32, Try.ntmps32
  go_upto_region 2 with (fail)
  go_cut [6] (fun v6 wc => ∃ (kq : Nat) (x6_2 : Bool), v6 = .bool x6_2 ∧ Aside0 (sluicelaw8_back.j0 kq l0 x6_2 = some (r1, r2)) ∧ Aside0 (kq ≤ k) ∧ Aside0 (Kd.R (Kd.int .i64) 3 wc w0.heap.size (fun k_ => (P0_ k_ ∨ w.heap.size ≤ k_)) u9000_ l0) ∧ Aside0 (Kept w wc (fun k_ => P0_ k_)) ∧ Aside0 (Below w0.heap.size w0 wc))
  case first =>
    have H := HC3.out
    clear HC3
    by_cases c4 : 0 ≤ (l1.length : Int)
    · rw [if_pos c4] at H
      have c4b0 := eq_true c4
      have c4b1 : decide (0 ≤ (l1.length : Int)) = true := decide_eq_true c4
      clear c4
      by_cases c5 : (l1.length : Int) ≤ (l0.length : Int)
      · rw [if_pos c5] at H
        have c5b0 := eq_true c5
        have c5b1 : decide ((l1.length : Int) ≤ (l0.length : Int)) = true := decide_eq_true c5
        clear c5
        obtain ⟨y211, hy211⟩ : ∃ y_ : List Int, y_ = (l0.take ((l1.length : Int) : Int).toNat) := ⟨_, rfl⟩
        replace H : ((sluicelaw8_same.f k y211 l1).bind fun t215 => (if t215 = true then (if (l1.length : Int) < (l0.length : Int) then (if (rd l0 (l1.length : Int)) = 77 then (if 0 ≤ (wrap64 ((l1.length : Int) + 1)) then (if (wrap64 ((l1.length : Int) + 1)) < (l0.length : Int) then (sluicelaw8_back.j0 k l0 ((rd l0 (wrap64 ((l1.length : Int) + 1))) == 78)) else (none)) else (none)) else (sluicelaw8_back.j0 k l0 false)) else (none)) else (sluicelaw8_back.j0 k l0 false))) = some (r1, r2) := by first | (rw [hy211]; with_reducible exact H) | (have H2_ := (Option.bind_some _ _).symm.trans H; rw [hy211]; with_reducible exact H2_) | (have H2_ := (Option.bind_some _ _).symm.trans H; with_reducible exact H2_) | with_reducible exact H | (rw [hy211]; exact H) | exact H
        have Ny211 := Aside0.mk hy211
        clear hy211
        replace H := Option.bind_eq_some_iff.mp H
        obtain ⟨t215, A60, H⟩ := H
        replace H : (if t215 = true then (if (l1.length : Int) < (l0.length : Int) then (if (rd l0 (l1.length : Int)) = 77 then (if 0 ≤ (wrap64 ((l1.length : Int) + 1)) then (if (wrap64 ((l1.length : Int) + 1)) < (l0.length : Int) then (sluicelaw8_back.j0 k l0 ((rd l0 (wrap64 ((l1.length : Int) + 1))) == 78)) else (none)) else (none)) else (sluicelaw8_back.j0 k l0 false)) else (none)) else (sluicelaw8_back.j0 k l0 false)) = some (r1, r2) := H
        have A6 := Aside0.mk A60
        clear A60
        by_cases c7 : t215 = true
        · subst c7
          have H1 : (if (l1.length : Int) < (l0.length : Int) then (if (rd l0 (l1.length : Int)) = 77 then (if 0 ≤ (wrap64 ((l1.length : Int) + 1)) then (if (wrap64 ((l1.length : Int) + 1)) < (l0.length : Int) then (sluicelaw8_back.j0 k l0 ((rd l0 (wrap64 ((l1.length : Int) + 1))) == 78)) else (none)) else (none)) else (sluicelaw8_back.j0 k l0 false)) else (none)) = some (r1, r2) := by rw [if_pos rfl] at H; exact H
          clear H
          have H := H1
          clear H1
          by_cases c8 : (l1.length : Int) < (l0.length : Int)
          · rw [if_pos c8] at H
            have c8b0 : decide ((l1.length : Int) < (l0.length : Int)) = true := decide_eq_true c8
            have c8b1 : decide (l1.length < l0.length) = true := decide_eq_true (Int.ofNat_lt.mp c8)
            clear c8
            (first | rw [c8b0] | (simp only [i64_w, i32_w]; rw [c8b0]) | skip)
            by_cases c9 : (rd l0 (l1.length : Int)) = 77
            · rw [if_pos c9] at H
              have c9b0 : ((rd l0 (l1.length : Int)) == 77) = true := beq_iff_eq.mpr c9
              have c9b1 : ((rd l0 (l1.length : Int)) != 77) = false := bne_eq_false_iff_eq.mpr c9
              clear c9
              obtain ⟨ji10, hji10⟩ : ∃ j_ : Int, (wrap64 ((l1.length : Int) + 1)) = j_ := ⟨_, rfl⟩
              replace H : (if 0 ≤ (ji10) then (if (ji10) < (l0.length : Int) then (sluicelaw8_back.j0 k l0 ((rd l0 (ji10)) == 78)) else (none)) else (none)) = some (r1, r2) := by first | (rw [hji10] at H; exact H) | (simp only [hji10] at H ⊢; exact H)
              (try rw [hji10] at A6)
              have hji10w : (IntKind.i64.wrap ((l1.length : Int) + 1)) = ji10 := (i64_w _).trans hji10
              by_cases c11 : 0 ≤ (ji10)
              · rw [if_pos c11] at H
                have c11b0 : decide (0 ≤ (ji10)) = true := decide_eq_true c11
                clear c11
                by_cases c12 : (ji10) < (l0.length : Int)
                · rw [if_pos c12] at H
                  have c12b0 : decide ((ji10) < (l0.length : Int)) = true := decide_eq_true c12
                  clear c12
                  have H' := Aside0.mk H
                  clear H
                  obtain ⟨Ao14, co14, eo14⟩ := Kd.R_slice HO0.out
                  subst eo14
                  have q13 : ((l1.length : Int) : Int) ≤ ((l0.length : Int) : Int) := of_decide_eq_true (by first | (with_reducible assumption) | assumption)
                  obtain ⟨i013, hi013, _, hsz13, _⟩ := info_parts info3
                  have hroom13 : l0.length ≤ co14 := (Kd.R_reads' HO0.out).2.1
                  have hC13 : Kd.C (Kd.int .i64) _ Ao14 l0.length l0 := (Kd.R_reads' HO0.out).2.2
                  have hcut13 := cut_to (P := Try.prog) 22 3 .i64 Try.underlying22 hi013 Ao14 l0.length co14 (l1.length : Int) (of_decide_eq_true (by first | (with_reducible assumption) | assumption)) q13 hroom13
                  have hr13 := Kd.C_take (m := ((l1.length : Int) : Int).toNat) hC13 (by omega)
                  have hy13 : y211.length = ((l1.length : Int) : Int).toNat := (by rw [Ny211.out, List.length_take]; omega)
                  rw [← Ny211.out] at hr13
                  rw [← hy13] at hcut13
                  have HR214 := Aside0.mk hr13
                  have HC214 := Aside0.mk (show y211.length ≤ co14 from by omega)
                  clear hr13 hC13 hroom13 hi013 hsz13
                  have KY13 := Aside0.mk hy13
                  clear hy13
                  have KL13 := Aside0.mk (show ((l1.length : Int) : Int).toNat ≤ l0.length from by omega)
                  replace q13 := eq_true q13
                  go_wp2_with (first | ((with_reducible refine gate_callee (f := 18) rfl ?_); refine goesL_ (some 14) rfl rfl Try.func18 (by kernel_rfl) rfl #[.slice Ao14 y211.length co14, .slice A1 l1.length c1] rfl (by (try simp only [List.map_toArray, List.map_cons, List.map_nil]); first | done | rfl | (simp only [List.length_drop, List.length_take]; rfl)) ?_; (with_reducible refine (sluicelaw8_same.calls k _ _ y211 _ _ l1 true _ ?side1 ?side2 ?side3 ?side4 A6.out).mono ?_); (case side1 => repeat (first | exact (by repeat (first | (with_reducible exact HR214.out) | (with_reducible refine Kd.C_alloc ?_ _) | (with_reducible refine Kd.C_drewN ?_ _) | (with_reducible refine Kd.C_drew ?_) | exact HR214.out)) | (with_reducible refine Kd.C_alloc ?_ _) | (with_reducible refine Kd.C_drewN ?_ _) | (with_reducible refine Kd.C_drew ?_))); (case side2 => exact HC214.out); (case side3 => exact Kd.C_kept_now HR1.out (by repeat (first | (with_reducible first | exact HK.out | apply Kept.alloc | apply Kept.drewN | apply Kept.drew) | exact HK.out))); (case side4 => exact HC1.out); rintro e w' ⟨rfl, ⟨nd, rfl⟩⟩; refine ⟨_, rfl, ?_⟩; have p216 : 0 ≤ ((l1.length : Int) : Int) := of_decide_eq_true (by first | (with_reducible assumption) | assumption); have q216 : (l1.length : Int) < (l0.length : Int) := of_decide_eq_true (by first | (with_reducible assumption) | assumption); obtain ⟨ad216, e216, hx216_0⟩ := Kd.at_int (Kd.R_reads' HO0.out).2.2 (l1.length : Int) p216 q216; cases e216; (try simp only [Go.IntWalk.toNatUp] at hx216_0); replace p216 := eq_true p216; replace q216 := eq_true q216; have p217 : 0 ≤ ((ji10) : Int) := of_decide_eq_true (by first | (with_reducible assumption) | assumption); have q217 : (ji10) < (l0.length : Int) := of_decide_eq_true (by first | (with_reducible assumption) | assumption); obtain ⟨ad217, e217, hx217_0⟩ := Kd.at_int (Kd.R_reads' HO0.out).2.2 (ji10) p217 q217; obtain rfl : ad216 = ad217 := (by injection e217); replace p217 := eq_true p217; replace q217 := eq_true q217))
                  go_meet
                  case rel => exact ⟨_, (((rd l0 (ji10)) == 78)), (by first | rfl | (simp; done) | (simp only [← hji10] <;> (first | rfl | simp)) | (simp [*]; done)), H', ⟨by first | omega | exact Nat.le_refl _⟩, ⟨by (with_reducible repeat (first | apply Kd.R_alloc | apply Kd.R_drewN | apply Kd.R_drew)); exact HO0.out⟩, ⟨by repeat (first | (with_reducible first | exact HK.out | apply Kept.alloc | apply Kept.drewN | apply Kept.drew) | exact HK.out)⟩, ⟨by repeat (first | (with_reducible first | exact HB.out | apply below_alloc | apply pw_below_drewN | apply below_drew1) | exact HB.out)⟩⟩
                · rw [if_neg c12] at H
                  exact absurd H (by simp)
              · rw [if_neg c11] at H
                exact absurd H (by simp)
            · rw [if_neg c9] at H
              have c9b0 : ((rd l0 (l1.length : Int)) == 77) = false := beq_eq_false_iff_ne.mpr c9
              have c9b1 : ((rd l0 (l1.length : Int)) != 77) = true := bne_iff_ne.mpr c9
              have H' := Aside0.mk H
              clear H
              obtain ⟨Ao16, co16, eo16⟩ := Kd.R_slice HO0.out
              subst eo16
              have q15 : ((l1.length : Int) : Int) ≤ ((l0.length : Int) : Int) := of_decide_eq_true (by first | (with_reducible assumption) | assumption)
              obtain ⟨i015, hi015, _, hsz15, _⟩ := info_parts info3
              have hroom15 : l0.length ≤ co16 := (Kd.R_reads' HO0.out).2.1
              have hC15 : Kd.C (Kd.int .i64) _ Ao16 l0.length l0 := (Kd.R_reads' HO0.out).2.2
              have hcut15 := cut_to (P := Try.prog) 22 3 .i64 Try.underlying22 hi015 Ao16 l0.length co16 (l1.length : Int) (of_decide_eq_true (by first | (with_reducible assumption) | assumption)) q15 hroom15
              have hr15 := Kd.C_take (m := ((l1.length : Int) : Int).toNat) hC15 (by omega)
              have hy15 : y211.length = ((l1.length : Int) : Int).toNat := (by rw [Ny211.out, List.length_take]; omega)
              rw [← Ny211.out] at hr15
              rw [← hy15] at hcut15
              have HR214 := Aside0.mk hr15
              have HC214 := Aside0.mk (show y211.length ≤ co16 from by omega)
              clear hr15 hC15 hroom15 hi015 hsz15
              have KY15 := Aside0.mk hy15
              clear hy15
              have KL15 := Aside0.mk (show ((l1.length : Int) : Int).toNat ≤ l0.length from by omega)
              replace q15 := eq_true q15
              go_wp2_with (first | ((with_reducible refine gate_callee (f := 18) rfl ?_); refine goesL_ (some 14) rfl rfl Try.func18 (by kernel_rfl) rfl #[.slice Ao16 y211.length co16, .slice A1 l1.length c1] rfl (by (try simp only [List.map_toArray, List.map_cons, List.map_nil]); first | done | rfl | (simp only [List.length_drop, List.length_take]; rfl)) ?_; (with_reducible refine (sluicelaw8_same.calls k _ _ y211 _ _ l1 true _ ?side1 ?side2 ?side3 ?side4 A6.out).mono ?_); (case side1 => repeat (first | exact (by repeat (first | (with_reducible exact HR214.out) | (with_reducible refine Kd.C_alloc ?_ _) | (with_reducible refine Kd.C_drewN ?_ _) | (with_reducible refine Kd.C_drew ?_) | exact HR214.out)) | (with_reducible refine Kd.C_alloc ?_ _) | (with_reducible refine Kd.C_drewN ?_ _) | (with_reducible refine Kd.C_drew ?_))); (case side2 => exact HC214.out); (case side3 => exact Kd.C_kept_now HR1.out (by repeat (first | (with_reducible first | exact HK.out | apply Kept.alloc | apply Kept.drewN | apply Kept.drew) | exact HK.out))); (case side4 => exact HC1.out); rintro e w' ⟨rfl, ⟨nd, rfl⟩⟩; refine ⟨_, rfl, ?_⟩; have p216 : 0 ≤ ((l1.length : Int) : Int) := of_decide_eq_true (by first | (with_reducible assumption) | assumption); have q216 : (l1.length : Int) < (l0.length : Int) := of_decide_eq_true (by first | (with_reducible assumption) | assumption); obtain ⟨ad216, e216, hx216_0⟩ := Kd.at_int (Kd.R_reads' HO0.out).2.2 (l1.length : Int) p216 q216; cases e216; (try simp only [Go.IntWalk.toNatUp] at hx216_0); replace p216 := eq_true p216; replace q216 := eq_true q216))
              go_meet
              case rel => exact ⟨_, (false), (by first | rfl | (simp; done) | (simp [*]; done)), H', ⟨by first | omega | exact Nat.le_refl _⟩, ⟨by (with_reducible repeat (first | apply Kd.R_alloc | apply Kd.R_drewN | apply Kd.R_drew)); exact HO0.out⟩, ⟨by repeat (first | (with_reducible first | exact HK.out | apply Kept.alloc | apply Kept.drewN | apply Kept.drew) | exact HK.out)⟩, ⟨by repeat (first | (with_reducible first | exact HB.out | apply below_alloc | apply pw_below_drewN | apply below_drew1) | exact HB.out)⟩⟩
          · rw [if_neg c8] at H
            exact absurd H (by simp)
        · replace c7 := Bool.eq_false_iff.mpr c7
          subst c7
          have H1 : (sluicelaw8_back.j0 k l0 false) = some (r1, r2) := by rw [if_neg (show ¬ (false = true) by decide)] at H; exact H
          clear H
          have H := H1
          clear H1
          have H' := Aside0.mk H
          clear H
          obtain ⟨Ao18, co18, eo18⟩ := Kd.R_slice HO0.out
          subst eo18
          have q17 : ((l1.length : Int) : Int) ≤ ((l0.length : Int) : Int) := of_decide_eq_true (by first | (with_reducible assumption) | assumption)
          obtain ⟨i017, hi017, _, hsz17, _⟩ := info_parts info3
          have hroom17 : l0.length ≤ co18 := (Kd.R_reads' HO0.out).2.1
          have hC17 : Kd.C (Kd.int .i64) _ Ao18 l0.length l0 := (Kd.R_reads' HO0.out).2.2
          have hcut17 := cut_to (P := Try.prog) 22 3 .i64 Try.underlying22 hi017 Ao18 l0.length co18 (l1.length : Int) (of_decide_eq_true (by first | (with_reducible assumption) | assumption)) q17 hroom17
          have hr17 := Kd.C_take (m := ((l1.length : Int) : Int).toNat) hC17 (by omega)
          have hy17 : y211.length = ((l1.length : Int) : Int).toNat := (by rw [Ny211.out, List.length_take]; omega)
          rw [← Ny211.out] at hr17
          rw [← hy17] at hcut17
          have HR214 := Aside0.mk hr17
          have HC214 := Aside0.mk (show y211.length ≤ co18 from by omega)
          clear hr17 hC17 hroom17 hi017 hsz17
          have KY17 := Aside0.mk hy17
          clear hy17
          have KL17 := Aside0.mk (show ((l1.length : Int) : Int).toNat ≤ l0.length from by omega)
          replace q17 := eq_true q17
          go_wp2_with (first | ((with_reducible refine gate_callee (f := 18) rfl ?_); refine goesL_ (some 14) rfl rfl Try.func18 (by kernel_rfl) rfl #[.slice Ao18 y211.length co18, .slice A1 l1.length c1] rfl (by (try simp only [List.map_toArray, List.map_cons, List.map_nil]); first | done | rfl | (simp only [List.length_drop, List.length_take]; rfl)) ?_; (with_reducible refine (sluicelaw8_same.calls k _ _ y211 _ _ l1 false _ ?side1 ?side2 ?side3 ?side4 A6.out).mono ?_); (case side1 => repeat (first | exact (by repeat (first | (with_reducible exact HR214.out) | (with_reducible refine Kd.C_alloc ?_ _) | (with_reducible refine Kd.C_drewN ?_ _) | (with_reducible refine Kd.C_drew ?_) | exact HR214.out)) | (with_reducible refine Kd.C_alloc ?_ _) | (with_reducible refine Kd.C_drewN ?_ _) | (with_reducible refine Kd.C_drew ?_))); (case side2 => exact HC214.out); (case side3 => exact Kd.C_kept_now HR1.out (by repeat (first | (with_reducible first | exact HK.out | apply Kept.alloc | apply Kept.drewN | apply Kept.drew) | exact HK.out))); (case side4 => exact HC1.out); rintro e w' ⟨rfl, ⟨nd, rfl⟩⟩; refine ⟨_, rfl, ?_⟩))
          go_meet
          case rel => exact ⟨_, (false), (by first | rfl | (simp; done) | (simp [*]; done)), H', ⟨by first | omega | exact Nat.le_refl _⟩, ⟨by (with_reducible repeat (first | apply Kd.R_alloc | apply Kd.R_drewN | apply Kd.R_drew)); exact HO0.out⟩, ⟨by repeat (first | (with_reducible first | exact HK.out | apply Kept.alloc | apply Kept.drewN | apply Kept.drew) | exact HK.out)⟩, ⟨by repeat (first | (with_reducible first | exact HB.out | apply below_alloc | apply pw_below_drewN | apply below_drew1) | exact HB.out)⟩⟩
      · rw [if_neg c5] at H
        exact absurd H (by simp)
    · rw [if_neg c4] at H
      exact absurd H (by simp)
  case rest =>
    clear HC3
    try clear c1
    try clear q1
    try clear p2
    try clear q2
    try clear hx2
    try clear c3
    try clear c4
    try clear c4b0
    try clear c4b1
    try clear c5
    try clear c5b0
    try clear c5b1
    try clear p6
    try clear c7
    try clear c8
    try clear c8b0
    try clear c8b1
    try clear c9
    try clear c9b0
    try clear c9b1
    try clear c11
    try clear c11b0
    try clear c12
    try clear c12b0
    try clear q13
    try clear q15
    try clear q17
    try clear c18
    try clear hx216_0
    try clear hx217_0
    try clear p216
    try clear p217
    try clear q13
    try clear q15
    try clear q17
    try clear q216
    try clear q217
    obtain ⟨kq, x6_2, rfl, HA, HJ2, HO_0, HK, HB⟩ := hcut
    cases kq with
    | zero => exact absurd HA.out (by simp [sluicelaw8_back.j0])
    | succ kj2 =>
      have H := HA.out
      clear HA
      simp only [sluicelaw8_back.j0] at H
      have H' := Aside0.mk H
      clear H
      go_wp2
      go_loopg [7] kj2 (fun kq v7 w' => ∃ (x0_2 : List Int) (x7_2 : Int), v7 = .int .i64 x7_2 ∧ Aside0 (sluicelaw8_back.l0 kq x0_2 x6_2 x7_2 = some (r1, r2)) ∧ Aside0 (kq ≤ kj2) ∧ Aside0 (Kd.R (Kd.int .i64) 3 w' w0.heap.size (fun k_ => (P0_ k_ ∨ w.heap.size ≤ k_)) u9000_ x0_2) ∧ Aside0 (Kept w w' (fun k_ => P0_ k_)) ∧ Aside0 (Below w0.heap.size w0 w'))
      case atStart => exact ⟨(l0), (0), (by first | rfl | (simp; done) | (simp [*]; done)), H', ⟨Nat.le_refl _⟩, ⟨by (with_reducible repeat (first | apply Kd.R_alloc | apply Kd.R_drewN | apply Kd.R_drew)); exact HO_0.out⟩, ⟨by repeat (first | (with_reducible first | exact HK.out | apply Kept.alloc | apply Kept.drewN | apply Kept.drew) | exact HK.out)⟩, ⟨by repeat (first | (with_reducible first | exact HB.out | apply below_alloc | apply pw_below_drewN | apply below_drew1) | exact HB.out)⟩⟩
      case round =>
        clear H'
        try clear c1
        try clear q1
        try clear p2
        try clear q2
        try clear hx2
        try clear c3
        try clear c4
        try clear c4b0
        try clear c4b1
        try clear c5
        try clear c5b0
        try clear c5b1
        try clear p6
        try clear c7
        try clear c8
        try clear c8b0
        try clear c8b1
        try clear c9
        try clear c9b0
        try clear c9b1
        try clear c11
        try clear c11b0
        try clear c12
        try clear c12b0
        try clear q13
        try clear q15
        try clear q17
        try clear c18
        try clear hx216_0
        try clear hx217_0
        try clear p2
        try clear p216
        try clear p217
        try clear p6
        try clear q1
        try clear q13
        try clear q15
        try clear q17
        try clear q2
        try clear q216
        try clear q217
        obtain ⟨x0_2, x7_2, rfl, HA, HK2, HO_0, HK, HB⟩ := hrel
        cases gk with
        | zero => exact absurd HA.out (by simp [sluicelaw8_back.l0])
        | succ k2 =>
          have H := HA.out
          clear HA
          simp only [sluicelaw8_back.l0] at H
          by_cases c19 : x7_2 < (x0_2.length : Int)
          · rw [if_pos c19] at H
            have c19b0 : decide (x7_2 < (x0_2.length : Int)) = true := decide_eq_true c19
            clear c19
            by_cases c20 : 0 ≤ x7_2
            · rw [if_pos c20] at H
              have c20b0 : decide (0 ≤ x7_2) = true := decide_eq_true c20
              clear c20
              obtain ⟨y218, hy218⟩ : ∃ y_ : List Int, y_ = (x0_2.set (x7_2 : Int).toNat 5) := ⟨_, rfl⟩
              replace H : (sluicelaw8_back.l0 k2 y218 x6_2 (wrap64 (x7_2 + 1))) = some (r1, r2) := by first | (rw [hy218]; with_reducible exact H) | (have H2_ := (Option.bind_some _ _).symm.trans H; rw [hy218]; with_reducible exact H2_) | (have H2_ := (Option.bind_some _ _).symm.trans H; with_reducible exact H2_) | with_reducible exact H | (rw [hy218]; exact H) | exact H
              have Ny218 := Aside0.mk hy218
              clear hy218
              have H' := Aside0.mk H
              clear H
              obtain ⟨Ao22, co22, eo22⟩ := Kd.R_slice HO_0.out
              subst eo22
              have p21 : 0 ≤ (x7_2 : Int) := of_decide_eq_true (by first | (with_reducible assumption) | assumption)
              have q21 : (x7_2 : Int) < ((x0_2.length : Int) : Int) := of_decide_eq_true (by first | (with_reducible assumption) | assumption)
              obtain ⟨go21, co21, eo21, gb21, gl21, cl21, HG21⟩ := Kd.R_form HO_0.out (by omega)
              (first | cases eo21 | (injection eo21 with ea_ en_ ec_; (first | subst ea_ | (injection ea_ with ea_; subst ea_)); subst ec_; clear en_))
              have GB21 := Aside0.mk gb21
              have GG21 := Aside0.mk HG21
              clear gb21 gl21 HG21
              have HMgo21 := Aside0.mk (show (P0_ go21 ∨ w.heap.size ≤ go21) from (HO_0.out.1 _ rfl))
              obtain ⟨hx21_0, hf21_0⟩ := Kd.R_celln 0 HO_0.out (x7_2 : Int) p21 q21
              replace p21 := eq_true p21
              replace q21 := eq_true q21
              have HP23 := Kd.R_putg HO_0.out (x7_2 : Int) 5
              go_wp2_with (first | ((with_reducible refine gate_store (t := 3) (p := 38) rfl ?_); refine store_event (t := 3) (p := 38) (v := ?vo_w24) (w1 := (wr.setCell ⟨go21, (x7_2 : Int).toNat, none⟩ (.int .i64 5))) ?hg ?ho ?hn ?hr ?_; (case ho => rfl); (case hg => rfl); (case hn => rfl); (case hr => first | (go_simp; done) | (go_simp; rfl)); intro w24 hw; have hg : wr.grownBy w24 (some go21) := (by rw [hw]; exact HP23.2); have hp_ : Kd.R (Kd.int .i64) 3 w24 w0.heap.size (fun k_ => (P0_ k_ ∨ w.heap.size ≤ k_)) (.slice (some ⟨go21, 0, none⟩) x0_2.length co22) y218 := (by rw [hw, Ny218.out]; exact HP23.1); clear HP23; have n0_ := Aside0.mk (hp_); have n1_ := Aside0.mk ((by rw [hw]; exact below_set (HB.out) GB21.out : Below w0.heap.size w0 w24)); have n2_ := Aside0.mk (Kept.of_grown (S := (fun k_ => P0_ k_)) hg (by repeat (first | (with_reducible first | exact HK.out | apply Kept.alloc | apply Kept.drewN | apply Kept.drew) | exact HK.out)) (fun k_ e_ => (HO_0.out.1 k_ e_))); clear HO_0; clear HB; clear HK; have HO_0 := n0_; have HB := n1_; have HK := n2_; clear n0_ n1_ n2_; clear hg hw hp_))
              go_roundg k2
              case measure => have := HJ2.out; have := HK2.out; omega
              case rel => exact ⟨(y218), (wrap64 (x7_2 + 1)), (by first | rfl | (simp; done) | (simp [*]; done)), H', ⟨by have := HJ2.out; have := HK2.out; omega⟩, ⟨by (with_reducible repeat (first | apply Kd.R_alloc | apply Kd.R_drewN | apply Kd.R_drew)); exact HO_0.out⟩, ⟨by repeat (first | (with_reducible first | exact HK.out | apply Kept.alloc | apply Kept.drewN | apply Kept.drew) | exact HK.out)⟩, ⟨by repeat (first | (with_reducible first | exact HB.out | apply below_alloc | apply pw_below_drewN | apply below_drew1) | exact HB.out)⟩⟩
            · rw [if_neg c20] at H
              exact absurd H (by simp)
          · rw [if_neg c19] at H
            have c19b0 : decide (x7_2 < (x0_2.length : Int)) = false := decide_eq_false c19
            clear c19
            simp only [Option.some.injEq, Prod.mk.injEq] at H
            obtain ⟨rfl, rfl⟩ := H
            obtain ⟨Ao25, co25, eo25⟩ := Kd.R_slice HO_0.out
            subst eo25
            go_wp2
            go_ret
            exact ⟨by first | rfl | (simp [errW_none, errW_some] <;> rfl) | (simp [*, errW_none, errW_some] <;> rfl), by (with_reducible repeat (first | apply Kd.R_alloc | apply Kd.R_drewN | apply Kd.R_drew)); exact HO_0.out, by repeat (first | (with_reducible first | exact HB.out | apply below_alloc | apply pw_below_drewN | apply below_drew1) | exact HB.out), by repeat (first | (with_reducible first | exact HK.out | apply Kept.alloc | apply Kept.drewN | apply Kept.drew) | exact HK.out)⟩

-- NOT PRINTED: function 15 (sluicelaw8_keep_played)

-- NOT PRINTED: function 5 (sluicelaw8_ShareDeals)

-- NOT PRINTED: function 6 (sluicelaw8_ShareSplits)

-- NOT PRINTED: function 7 (sluicelaw8_ShareAsks)

-- NOT PRINTED: function 41 (sluicelaw8_keep_lately)

-- NOT PRINTED: function 33 (sluicelaw8_keep_whole)

-- NOT PRINTED: function 16 (sluicelaw8_playedAll)

-- NOT PRINTED: function 8 (sluicelaw8_ShareAll)

/-! ### sluicelaw8_ShareParts: function 9 -/
mutual
def sluicelaw8_ShareParts.j0 : Nat → Int → Int → List Int → Option (Bool)
  | 0, _, _, _ => none
  | k + 1, x0, x1, x2 => (share_Split.f k x0 x1 x2).bind fun bt262 => ((share_Split.f k x0 x1 (([7] : List Int))).bind fun bt269 => (if bt262.2 = 0 then (if bt269.2 = 0 then (if (bt262.1.length : Int) = (x2.length : Int) then (sluicelaw8_ShareParts.j1 k x0 x1 bt262.1 bt269.1 ((bt269.1.length : Int) != 1)) else (sluicelaw8_ShareParts.j1 k x0 x1 bt262.1 bt269.1 true)) else (sluicelaw8_ShareParts.j1 k x0 x1 bt262.1 bt269.1 true)) else (sluicelaw8_ShareParts.j1 k x0 x1 bt262.1 bt269.1 true)))
def sluicelaw8_ShareParts.j1 : Nat → Int → Int → List (S50) → List (S50) → Bool → Option (Bool)
  | 0, _, _, _, _, _ => none
  | k + 1, x0, x1, x7, x9, x66 => if x66 = true then (some false) else (sluicelaw8_ShareParts.l0 k x0 x1 x7 x9 0 0 0)
def sluicelaw8_ShareParts.l0 : Nat → Int → Int → List (S50) → List (S50) → Int → Int → Int → Option (Bool)
  | 0, _, _, _, _, _, _, _ => none
  | k + 1, x0, x1, x7, x9, x11, x12, x13 => if x13 < (x7.length : Int) then (if 0 ≤ x13 then (if ((rd_T50 x7 x13).f0) < 0 then (some false) else (if ((rd_T50 x7 x13).f1) < 0 then (some false) else (sluicelaw8_ShareParts.l0 k x0 x1 x7 x9 (wrap64 (x11 + ((rd_T50 x7 x13).f0))) (wrap64 (x12 + ((rd_T50 x7 x13).f1))) (wrap64 (x13 + 1))))) else (none)) else (if x11 = x0 then (if x12 = x1 then (if 0 < (x9.length : Int) then (some (((rd_T50 x9 0).f0) == x0 && (((rd_T50 x9 0).f1) == x1))) else (none)) else (some false)) else (some false))
end
def sluicelaw8_ShareParts.f (k : Nat) (a0 : Int) (a1 : Int) (l2 : List Int) : Option (Bool) := (sluicelaw8_able.f k).bind fun t253 => (if t253 = true then ((sluicelaw8_fair.f k a0 l2).bind fun bt254 => ((sluicelaw8_fair.f k a1 ([] : List Int)).bind fun bt258 => (if (wrap64 (bt254.1 + bt258.1)) > 1099511627776 then (sluicelaw8_ShareParts.j0 k bt254.1 (wrap64 (1099511627776 - bt254.1)) bt254.2) else (sluicelaw8_ShareParts.j0 k bt254.1 bt258.1 bt254.2)))) else (some false))
theorem sluicelaw8_ShareParts.mono_l : ∀ k, (∀ y0 y1 y2, LeO (sluicelaw8_ShareParts.j0 k y0 y1 y2) (sluicelaw8_ShareParts.j0 (k + 1) y0 y1 y2)) ∧ (∀ y0 y1 y2 y3 y4, LeO (sluicelaw8_ShareParts.j1 k y0 y1 y2 y3 y4) (sluicelaw8_ShareParts.j1 (k + 1) y0 y1 y2 y3 y4)) ∧ (∀ y0 y1 y2 y3 y4 y5 y6, LeO (sluicelaw8_ShareParts.l0 k y0 y1 y2 y3 y4 y5 y6) (sluicelaw8_ShareParts.l0 (k + 1) y0 y1 y2 y3 y4 y5 y6))
  | 0 => ⟨fun _ _ _ r h => by simp [sluicelaw8_ShareParts.j0] at h, fun _ _ _ _ _ r h => by simp [sluicelaw8_ShareParts.j1] at h, fun _ _ _ _ _ _ _ r h => by simp [sluicelaw8_ShareParts.l0] at h⟩
  | k + 1 => by
    obtain ⟨ih0, ih1, ih2⟩ := sluicelaw8_ShareParts.mono_l k
    refine ⟨?_, ?_, ?_⟩
    · intro y0 y1 y2
      unfold sluicelaw8_ShareParts.j0
      repeat' first
      | (with_reducible exact ih0 _ _ _)
      | (with_reducible exact ih1 _ _ _ _ _)
      | (with_reducible exact ih2 _ _ _ _ _ _ _)
      | (with_reducible exact share_Split.mono _ _ _ _)
      | (with_reducible exact sluicelaw8_able.mono _)
      | (with_reducible exact sluicelaw8_fair.mono _ _ _)
      | (with_reducible exact LeO.refl _)
      | (with_reducible exact LeO.none _)
      | (with_reducible refine LeO.ite ?_ ?_)
      | (with_reducible refine LeO.bind ?_ (fun _ => ?_))
      | exact ih0 _ _ _
      | exact ih1 _ _ _ _ _
      | exact ih2 _ _ _ _ _ _ _
      | exact share_Split.mono _ _ _ _
      | exact sluicelaw8_able.mono _
      | exact sluicelaw8_fair.mono _ _ _
      | exact LeO.none _
      | refine LeO.ite ?_ ?_
      | refine LeO.bind ?_ (fun _ => ?_)
    · intro y0 y1 y2 y3 y4
      unfold sluicelaw8_ShareParts.j1
      repeat' first
      | (with_reducible exact ih0 _ _ _)
      | (with_reducible exact ih1 _ _ _ _ _)
      | (with_reducible exact ih2 _ _ _ _ _ _ _)
      | (with_reducible exact share_Split.mono _ _ _ _)
      | (with_reducible exact sluicelaw8_able.mono _)
      | (with_reducible exact sluicelaw8_fair.mono _ _ _)
      | (with_reducible exact LeO.refl _)
      | (with_reducible exact LeO.none _)
      | (with_reducible refine LeO.ite ?_ ?_)
      | (with_reducible refine LeO.bind ?_ (fun _ => ?_))
      | exact ih0 _ _ _
      | exact ih1 _ _ _ _ _
      | exact ih2 _ _ _ _ _ _ _
      | exact share_Split.mono _ _ _ _
      | exact sluicelaw8_able.mono _
      | exact sluicelaw8_fair.mono _ _ _
      | exact LeO.none _
      | refine LeO.ite ?_ ?_
      | refine LeO.bind ?_ (fun _ => ?_)
    · intro y0 y1 y2 y3 y4 y5 y6
      unfold sluicelaw8_ShareParts.l0
      repeat' first
      | (with_reducible exact ih0 _ _ _)
      | (with_reducible exact ih1 _ _ _ _ _)
      | (with_reducible exact ih2 _ _ _ _ _ _ _)
      | (with_reducible exact share_Split.mono _ _ _ _)
      | (with_reducible exact sluicelaw8_able.mono _)
      | (with_reducible exact sluicelaw8_fair.mono _ _ _)
      | (with_reducible exact LeO.refl _)
      | (with_reducible exact LeO.none _)
      | (with_reducible refine LeO.ite ?_ ?_)
      | (with_reducible refine LeO.bind ?_ (fun _ => ?_))
      | exact ih0 _ _ _
      | exact ih1 _ _ _ _ _
      | exact ih2 _ _ _ _ _ _ _
      | exact share_Split.mono _ _ _ _
      | exact sluicelaw8_able.mono _
      | exact sluicelaw8_fair.mono _ _ _
      | exact LeO.none _
      | refine LeO.ite ?_ ?_
      | refine LeO.bind ?_ (fun _ => ?_)
theorem sluicelaw8_ShareParts.mono : ∀ a0 a1 a2 k, LeO (sluicelaw8_ShareParts.f k a0 a1 a2) (sluicelaw8_ShareParts.f (k + 1) a0 a1 a2) := by
  intro a0 a1 a2 k
  obtain ⟨ih0, ih1, ih2⟩ := sluicelaw8_ShareParts.mono_l k
  unfold sluicelaw8_ShareParts.f
  repeat' first
      | (with_reducible exact ih0 _ _ _)
      | (with_reducible exact ih1 _ _ _ _ _)
      | (with_reducible exact ih2 _ _ _ _ _ _ _)
      | (with_reducible exact share_Split.mono _ _ _ _)
      | (with_reducible exact sluicelaw8_able.mono _)
      | (with_reducible exact sluicelaw8_fair.mono _ _ _)
      | (with_reducible exact LeO.refl _)
      | (with_reducible exact LeO.none _)
      | (with_reducible refine LeO.ite ?_ ?_)
      | (with_reducible refine LeO.bind ?_ (fun _ => ?_))
      | exact ih0 _ _ _
      | exact ih1 _ _ _ _ _
      | exact ih2 _ _ _ _ _ _ _
      | exact share_Split.mono _ _ _ _
      | exact sluicelaw8_able.mono _
      | exact sluicelaw8_fair.mono _ _ _
      | exact LeO.none _
      | refine LeO.ite ?_ ?_
      | refine LeO.bind ?_ (fun _ => ?_)
set_option maxHeartbeats 8000000 in
set_option maxRecDepth 100000 in
theorem sluicelaw8_ShareParts.calls (k : Nat) (a0 : Int) (a1 : Int) (A2 : Option Addr) (c2 : Nat) (l2 : List Int) (r : Bool) (w : World) (hr2 : Kd.C (Kd.int .i64) w A2 l2.length l2) (hc2 : l2.length ≤ c2) (h : sluicelaw8_ShareParts.f k a0 a1 l2 = some r) :
    Calls Try.prog 9 #[.int .i64 a0, .int .i64 a1, .slice A2 l2.length c2] w fun e w' => e = .returned (.bool r) ∧ Below w.heap.size w w' := by
  have hu50 := Try.underlying50
  have HR2 := Aside0.mk hr2
  have HC2 := Aside0.mk hc2
  clear hr2 hc2
  have HB := Aside0.mk (Below.refl w.heap.size w)
  have H : ((sluicelaw8_able.f k).bind fun t253 => (if t253 = true then ((sluicelaw8_fair.f k a0 l2).bind fun bt254 => ((sluicelaw8_fair.f k a1 ([] : List Int)).bind fun bt258 => (if (wrap64 (bt254.1 + bt258.1)) > 1099511627776 then (sluicelaw8_ShareParts.j0 k bt254.1 (wrap64 (1099511627776 - bt254.1)) bt254.2) else (sluicelaw8_ShareParts.j0 k bt254.1 bt258.1 bt254.2)))) else (some false))) = some r := h
  clear h
  replace H := Option.bind_eq_some_iff.mp H
  obtain ⟨t253, A40, H⟩ := H
  replace H : (if t253 = true then ((sluicelaw8_fair.f k a0 l2).bind fun bt254 => ((sluicelaw8_fair.f k a1 ([] : List Int)).bind fun bt258 => (if (wrap64 (bt254.1 + bt258.1)) > 1099511627776 then (sluicelaw8_ShareParts.j0 k bt254.1 (wrap64 (1099511627776 - bt254.1)) bt254.2) else (sluicelaw8_ShareParts.j0 k bt254.1 bt258.1 bt254.2)))) else (some false)) = some r := H
  have A4 := Aside0.mk A40
  clear A40
  by_cases c5 : t253 = true
  · subst c5
    have H1 : ((sluicelaw8_fair.f k a0 l2).bind fun bt254 => ((sluicelaw8_fair.f k a1 ([] : List Int)).bind fun bt258 => (if (wrap64 (bt254.1 + bt258.1)) > 1099511627776 then (sluicelaw8_ShareParts.j0 k bt254.1 (wrap64 (1099511627776 - bt254.1)) bt254.2) else (sluicelaw8_ShareParts.j0 k bt254.1 bt258.1 bt254.2)))) = some r := by rw [if_pos rfl] at H; exact H
    clear H
    have H := H1
    clear H1
    replace H := Option.bind_eq_some_iff.mp H
    obtain ⟨⟨t254, t255⟩, A60, H⟩ := H
    replace H : ((sluicelaw8_fair.f k a1 ([] : List Int)).bind fun bt258 => (if (wrap64 (t254 + bt258.1)) > 1099511627776 then (sluicelaw8_ShareParts.j0 k t254 (wrap64 (1099511627776 - t254)) t255) else (sluicelaw8_ShareParts.j0 k t254 bt258.1 t255))) = some r := H
    have A6 := Aside0.mk A60
    clear A60
    replace H := Option.bind_eq_some_iff.mp H
    obtain ⟨⟨t258, t259⟩, A70, H⟩ := H
    replace H : (if (wrap64 (t254 + t258)) > 1099511627776 then (sluicelaw8_ShareParts.j0 k t254 (wrap64 (1099511627776 - t254)) t255) else (sluicelaw8_ShareParts.j0 k t254 t258 t255)) = some r := H
    have A7 := Aside0.mk A70
    clear A70
    have HC8 := Aside0.mk H
    clear H
    go_enter Try.func9, Try.ntmps9
    go_upto_if 30 with (first | ((with_reducible refine gate_callee (f := 10) rfl ?_); refine goesL_ (some 14) rfl rfl Try.func10 (by kernel_rfl) rfl #[] rfl (by (try simp only [List.map_toArray, List.map_cons, List.map_nil]); first | done | rfl | (simp only [List.length_drop, List.length_take]; rfl)) ?_; (with_reducible refine (sluicelaw8_able.calls k  true _ A4.out).mono ?_); rintro e w9 ⟨rfl, hb⟩; refine ⟨_, rfl, ?_⟩; have n0_ := Aside0.mk (below_step (by repeat (first | (with_reducible first | exact HB.out | apply below_alloc | apply pw_below_drewN | apply below_drew1) | exact HB.out)) hb); clear HB; have HB := n0_; clear n0_; (try clear hb); (try clear hb2); (try clear hk); (try clear hi)) | ((with_reducible refine gate_callee (f := 11) rfl ?_); refine goesL_ (some 19) rfl rfl Try.func11 (by kernel_rfl) rfl #[.int .i64 a0, .slice A2 l2.length c2] rfl (by (try simp only [List.map_toArray, List.map_cons, List.map_nil]); first | done | rfl | (simp only [List.length_drop, List.length_take]; rfl)) ?_; (with_reducible refine (sluicelaw8_fair.calls k a0 _ _ l2 t254 t255 _ ?side1 ?side2 A6.out).mono ?_); (case side1 => repeat (first | exact (Kd.C_below HR2.out HB.out) | (with_reducible refine Kd.C_alloc ?_ _) | (with_reducible refine Kd.C_drewN ?_ _) | (with_reducible refine Kd.C_drew ?_))); (case side2 => exact HC2.out); rintro e w10 ⟨v256, rfl, ho0, hb⟩; refine ⟨_, rfl, ?_⟩; have n0_ := Aside0.mk (Kd.R_lower ho0 (below_size (by repeat (first | (with_reducible first | exact HB.out | apply below_alloc | apply pw_below_drewN | apply below_drew1) | exact HB.out)))); have n1_ := Aside0.mk (below_step (by repeat (first | (with_reducible first | exact HB.out | apply below_alloc | apply pw_below_drewN | apply below_drew1) | exact HB.out)) hb); clear HB; have HO257 := n0_; have HB := n1_; clear n0_ n1_; (try clear hb); (try clear hb2); (try clear hk); (try clear hi); (try clear ho0)) | ((with_reducible refine gate_callee (f := 11) rfl ?_); refine goesL_ (some 24) rfl rfl Try.func11 (by kernel_rfl) rfl #[.int .i64 a1, .slice none 0 0] rfl (by (try simp only [List.map_toArray, List.map_cons, List.map_nil]); first | done | rfl | (simp only [List.length_drop, List.length_take]; rfl)) ?_; (refine (sluicelaw8_fair.calls k a1 _ _ ([] : List Int) t258 t259 _ ?side1 ?side2 A7.out).mono ?_); (case side1 => exact Kd.C_nil _ _); (case side2 => exact Nat.le_refl _); rintro e w11 ⟨v260, rfl, ho0, hb⟩; refine ⟨_, rfl, ?_⟩; have n0_ := Aside0.mk (Kd.R_elder' (by (with_reducible repeat (first | apply Kd.R_alloc | apply Kd.R_drewN | apply Kd.R_drew)); exact HO257.out) (Kd.R_base ho0) hb); have n1_ := Aside0.mk (Kd.R_lower (Kd.R_new' ho0 (Kd.R_lt (by (with_reducible repeat (first | apply Kd.R_alloc | apply Kd.R_drewN | apply Kd.R_drew)); exact HO257.out))) (below_size (by repeat (first | (with_reducible first | exact HB.out | apply below_alloc | apply pw_below_drewN | apply below_drew1) | exact HB.out)))); have n2_ := Aside0.mk (below_step (by repeat (first | (with_reducible first | exact HB.out | apply below_alloc | apply pw_below_drewN | apply below_drew1) | exact HB.out)) hb); clear HO257; clear HB; have HO257 := n0_; have HO261 := n1_; have HB := n2_; clear n0_ n1_ n2_; (try clear hb); (try clear hb2); (try clear hk); (try clear hi); (try clear ho0)))
    (try simp only [Act.put, List.setIfInBounds_toArray, List.set_cons_zero, List.set_cons_succ])
    go_cut [1] (fun v1 wc => ∃ (kq : Nat) (x1_7 : Int), v1 = .int .i64 x1_7 ∧ Aside0 (sluicelaw8_ShareParts.j0 kq t254 x1_7 t255 = some r) ∧ Aside0 (kq ≤ k) ∧ Aside0 (Kd.R (Kd.int .i64) 3 wc w.heap.size (fun _ => True) v256 t255) ∧ Aside0 (Below w.heap.size w wc))
    case first =>
      have H := HC8.out
      clear HC8
      by_cases c12 : (wrap64 (t254 + t258)) > 1099511627776
      · rw [if_pos c12] at H
        have c12b0 : decide (1099511627776 < (wrap64 (t254 + t258))) = true := decide_eq_true c12
        clear c12
        (first | rw [c12b0] | (simp only [i64_w, i32_w]; rw [c12b0]) | skip)
        have H' := Aside0.mk H
        clear H
        go_wp2
        go_meet
        case rel => exact ⟨_, (wrap64 (1099511627776 - t254)), (by first | rfl | (simp; done) | (simp [*]; done)), H', ⟨by first | omega | exact Nat.le_refl _⟩, ⟨by (with_reducible repeat (first | apply Kd.R_alloc | apply Kd.R_drewN | apply Kd.R_drew)); exact Kd.R_mono HO257.out (fun _ hk => trivial)⟩, ⟨by repeat (first | (with_reducible first | exact HB.out | apply below_alloc | apply pw_below_drewN | apply below_drew1) | exact HB.out)⟩⟩
      · rw [if_neg c12] at H
        have c12b0 : decide (1099511627776 < (wrap64 (t254 + t258))) = false := decide_eq_false c12
        clear c12
        (first | rw [c12b0] | (simp only [i64_w, i32_w]; rw [c12b0]) | skip)
        have H' := Aside0.mk H
        clear H
        go_wp2
        go_meet
        case rel => exact ⟨_, (t258), (by first | rfl | (simp; done) | (simp [*]; done)), H', ⟨by first | omega | exact Nat.le_refl _⟩, ⟨by (with_reducible repeat (first | apply Kd.R_alloc | apply Kd.R_drewN | apply Kd.R_drew)); exact Kd.R_mono HO257.out (fun _ hk => trivial)⟩, ⟨by repeat (first | (with_reducible first | exact HB.out | apply below_alloc | apply pw_below_drewN | apply below_drew1) | exact HB.out)⟩⟩
    case rest =>
      clear HC8
      try clear c1
      try clear c2
      try clear p2
      try clear c5
      try clear p6
      try clear c9
      try clear c10
      try clear c11
      try clear c12
      try clear c12b0
      obtain ⟨kq, x1_7, rfl, HA, HJ7, HO_2, HB⟩ := hcut
      cases kq with
      | zero => exact absurd HA.out (by simp [sluicelaw8_ShareParts.j0])
      | succ kj7 =>
        have H := HA.out
        clear HA
        simp only [sluicelaw8_ShareParts.j0] at H
        replace H := Option.bind_eq_some_iff.mp H
        obtain ⟨⟨t262, t265⟩, A130, H⟩ := H
        replace H : ((share_Split.f kj7 t254 x1_7 (([7] : List Int))).bind fun bt269 => (if t265 = 0 then (if bt269.2 = 0 then (if (t262.length : Int) = (t255.length : Int) then (sluicelaw8_ShareParts.j1 kj7 t254 x1_7 t262 bt269.1 ((bt269.1.length : Int) != 1)) else (sluicelaw8_ShareParts.j1 kj7 t254 x1_7 t262 bt269.1 true)) else (sluicelaw8_ShareParts.j1 kj7 t254 x1_7 t262 bt269.1 true)) else (sluicelaw8_ShareParts.j1 kj7 t254 x1_7 t262 bt269.1 true))) = some r := H
        have A13 := Aside0.mk A130
        clear A130
        obtain ⟨y266, hy266⟩ : ∃ y_ : List Int, y_ = (([7] : List Int)) := ⟨_, rfl⟩
        replace H : ((share_Split.f kj7 t254 x1_7 y266).bind fun bt269 => (if t265 = 0 then (if bt269.2 = 0 then (if (t262.length : Int) = (t255.length : Int) then (sluicelaw8_ShareParts.j1 kj7 t254 x1_7 t262 bt269.1 ((bt269.1.length : Int) != 1)) else (sluicelaw8_ShareParts.j1 kj7 t254 x1_7 t262 bt269.1 true)) else (sluicelaw8_ShareParts.j1 kj7 t254 x1_7 t262 bt269.1 true)) else (sluicelaw8_ShareParts.j1 kj7 t254 x1_7 t262 bt269.1 true))) = some r := by first | (rw [hy266]; with_reducible exact H) | (have H2_ := (Option.bind_some _ _).symm.trans H; rw [hy266]; with_reducible exact H2_) | (have H2_ := (Option.bind_some _ _).symm.trans H; with_reducible exact H2_) | with_reducible exact H | (rw [hy266]; exact H) | exact H
        have Ny266 := Aside0.mk hy266
        clear hy266
        replace H := Option.bind_eq_some_iff.mp H
        obtain ⟨⟨t269, t272⟩, A140, H⟩ := H
        replace H : (if t265 = 0 then (if t272 = 0 then (if (t262.length : Int) = (t255.length : Int) then (sluicelaw8_ShareParts.j1 kj7 t254 x1_7 t262 t269 ((t269.length : Int) != 1)) else (sluicelaw8_ShareParts.j1 kj7 t254 x1_7 t262 t269 true)) else (sluicelaw8_ShareParts.j1 kj7 t254 x1_7 t262 t269 true)) else (sluicelaw8_ShareParts.j1 kj7 t254 x1_7 t262 t269 true)) = some r := H
        have A14 := Aside0.mk A140
        clear A140
        have HC15 := Aside0.mk H
        clear H
        obtain ⟨Ao16, co16, eo16⟩ := Kd.R_slice HO_2.out
        subst eo16
        go_upto_region 9 with (first | ((with_reducible refine gate_callee (f := 17) rfl ?_); refine goesL_ (some 38) rfl rfl Try.func17 (by kernel_rfl) rfl #[.agg #[.int .i64 t254, .int .i64 x1_7], .slice Ao16 t255.length co16] rfl (by (try simp only [List.map_toArray, List.map_cons, List.map_nil]); first | done | rfl | (simp only [List.length_drop, List.length_take]; rfl)) ?_; (with_reducible refine (share_Split.calls kj7 t254 x1_7 _ _ t255 t262 t265 _ ?side1 ?side2 A13.out).mono ?_); (case side1 => repeat (first | exact (Kd.R_reads' HO_2.out).2.2 | (with_reducible refine Kd.C_alloc ?_ _) | (with_reducible refine Kd.C_drewN ?_ _) | (with_reducible refine Kd.C_drew ?_))); (case side2 => exact (Kd.R_reads' HO_2.out).2.1); rintro e w17 ⟨v263, rfl, ho0, hb⟩; refine ⟨_, rfl, ?_⟩; have n0_ := Aside0.mk (Kd.R_below (by (with_reducible repeat (first | apply Kd.R_alloc | apply Kd.R_drewN | apply Kd.R_drew)); exact HO_2.out) hb); have n1_ := Aside0.mk (Kd.R_lower ho0 (below_size (by repeat (first | (with_reducible first | exact HB.out | apply below_alloc | apply pw_below_drewN | apply below_drew1) | exact HB.out)))); have n2_ := Aside0.mk (below_step (by repeat (first | (with_reducible first | exact HB.out | apply below_alloc | apply pw_below_drewN | apply below_drew1) | exact HB.out)) hb); clear HO_2; clear HB; have HO_2 := n0_; have HO264 := n1_; have HB := n2_; clear n0_ n1_ n2_; (try clear hb); (try clear hb2); (try clear hk); (try clear hi); (try clear ho0)) | ((with_reducible refine gate_dst (N := 45) rfl ?_); (try (refine gate_guard (by rfl) ?_; dsimp only)); refine Kd.R_lit (Kd.int .i64) _ 3 ?hg (N := 45) ?hd (xs := ([7] : List Int)) (inner := [.int .i64 7]) (ok := fun _ => True) (okp := fun _ => True) ?hr ?hp (fun _ hk => hk) trivial (Below.refl _ _) (Nat.le_refl _) (by simp) ?_; (case hd => rfl); (case hg => rfl); (case hr => first | (go_simp; done) | (go_simp; rfl)); (case hp => exact (Reps.one (show Kd.M (Kd.int .i64) _ _ _ 7 [.int .i64 7] from rfl) (Reps.none _ _))); intro v267 w18 ho19 hb hg_ hnew_; clear hg_ hnew_; (first | rw [← Ny266.out] at ho19 | (simp only [Int.reduceToNat] at ho19; rw [← Ny266.out] at ho19)); have n0_ := Aside0.mk (Kd.R_elder' (by (with_reducible repeat (first | apply Kd.R_alloc | apply Kd.R_drewN | apply Kd.R_drew)); exact HO_2.out) (Kd.R_base ho19) hb); have n1_ := Aside0.mk (Kd.R_below (by (with_reducible repeat (first | apply Kd.R_alloc | apply Kd.R_drewN | apply Kd.R_drew)); exact HO264.out) hb); have n2_ := Aside0.mk (Kd.R_lower (Kd.R_new' ho19 (Kd.R_lt (by (with_reducible repeat (first | apply Kd.R_alloc | apply Kd.R_drewN | apply Kd.R_drew)); exact HO_2.out))) (below_size (by repeat (first | (with_reducible first | exact HB.out | apply below_alloc | apply pw_below_drewN | apply below_drew1) | exact HB.out)))); have n3_ := Aside0.mk (below_step (by repeat (first | (with_reducible first | exact HB.out | apply below_alloc | apply pw_below_drewN | apply below_drew1) | exact HB.out)) hb); clear HO_2; clear HO264; clear HB; have HO_2 := n0_; have HO264 := n1_; have HO268 := n2_; have HB := n3_; clear n0_ n1_ n2_ n3_; clear hb ho19; obtain ⟨Ao20, co20, eo20⟩ := Kd.R_slice HO268.out; subst eo20) | ((with_reducible refine gate_callee (f := 17) rfl ?_); refine goesL_ (some 46) rfl rfl Try.func17 (by kernel_rfl) rfl #[.agg #[.int .i64 t254, .int .i64 x1_7], .slice Ao20 y266.length co20] rfl (by (try simp only [List.map_toArray, List.map_cons, List.map_nil]); first | done | rfl | (simp only [List.length_drop, List.length_take]; rfl)) ?_; (with_reducible refine (share_Split.calls kj7 t254 x1_7 _ _ y266 t269 t272 _ ?side1 ?side2 A14.out).mono ?_); (case side1 => repeat (first | exact (Kd.R_reads' HO268.out).2.2 | (with_reducible refine Kd.C_alloc ?_ _) | (with_reducible refine Kd.C_drewN ?_ _) | (with_reducible refine Kd.C_drew ?_))); (case side2 => exact (Kd.R_reads' HO268.out).2.1); rintro e w21 ⟨v270, rfl, ho0, hb⟩; refine ⟨_, rfl, ?_⟩; have n0_ := Aside0.mk (Kd.R_below (by (with_reducible repeat (first | apply Kd.R_alloc | apply Kd.R_drewN | apply Kd.R_drew)); exact HO_2.out) hb); have n1_ := Aside0.mk (Kd.R_elder' (by (with_reducible repeat (first | apply Kd.R_alloc | apply Kd.R_drewN | apply Kd.R_drew)); exact HO264.out) (Kd.R_base ho0) hb); have n2_ := Aside0.mk (Kd.R_below (by (with_reducible repeat (first | apply Kd.R_alloc | apply Kd.R_drewN | apply Kd.R_drew)); exact HO268.out) hb); have n3_ := Aside0.mk (Kd.R_lower (Kd.R_new' ho0 (Kd.R_lt (by (with_reducible repeat (first | apply Kd.R_alloc | apply Kd.R_drewN | apply Kd.R_drew)); exact HO264.out))) (below_size (by repeat (first | (with_reducible first | exact HB.out | apply below_alloc | apply pw_below_drewN | apply below_drew1) | exact HB.out)))); have n4_ := Aside0.mk (below_step (by repeat (first | (with_reducible first | exact HB.out | apply below_alloc | apply pw_below_drewN | apply below_drew1) | exact HB.out)) hb); clear HO_2; clear HO264; clear HO268; clear HB; have HO_2 := n0_; have HO264 := n1_; have HO268 := n2_; have HO271 := n3_; have HB := n4_; clear n0_ n1_ n2_ n3_ n4_; (try clear hb); (try clear hb2); (try clear hk); (try clear hi); (try clear ho0)))
        (try simp only [Act.put, List.setIfInBounds_toArray, List.set_cons_zero, List.set_cons_succ])
        go_cut [66] (fun v66 wc => ∃ (kq : Nat) (x66_14 : Bool), v66 = .bool x66_14 ∧ Aside0 (sluicelaw8_ShareParts.j1 kq t254 x1_7 t262 t269 x66_14 = some r) ∧ Aside0 (kq ≤ kj7) ∧ Aside0 (Kd.R k50 50 wc w.heap.size (fun k_ => some k_ ≠ (v270 : Value).ownBlock) v263 t262) ∧ Aside0 (Kd.R k50 50 wc w.heap.size (fun k_ => some k_ ≠ (v263 : Value).ownBlock) v270 t269) ∧ Aside0 (Below w.heap.size w wc))
        case first =>
          have H := HC15.out
          clear HC15
          by_cases c22 : t265 = 0
          · rw [if_pos c22] at H
            have c22b0 : (t265 == 0) = true := beq_iff_eq.mpr c22
            have c22b1 : (t265 != 0) = false := bne_eq_false_iff_eq.mpr c22
            clear c22
            (first | rw [c22b0] | (simp only [i64_w, i32_w]; rw [c22b0]) | skip)
            by_cases c23 : t272 = 0
            · rw [if_pos c23] at H
              have c23b0 : (t272 == 0) = true := beq_iff_eq.mpr c23
              have c23b1 : (t272 != 0) = false := bne_eq_false_iff_eq.mpr c23
              clear c23
              by_cases c24 : (t262.length : Int) = (t255.length : Int)
              · rw [if_pos c24] at H
                have c24b0 : ((t262.length : Int) == (t255.length : Int)) = true := beq_iff_eq.mpr c24
                have c24b1 : ((t262.length : Int) != (t255.length : Int)) = false := bne_eq_false_iff_eq.mpr c24
                have c24b2 : (t262.length == t255.length) = true := by first | simpa using c24 | (simp at c24 ⊢; omega)
                clear c24
                have H' := Aside0.mk H
                clear H
                obtain ⟨Ao25, co25, eo25⟩ := Kd.R_slice HO264.out
                subst eo25
                obtain ⟨Ao26, co26, eo26⟩ := Kd.R_slice HO271.out
                subst eo26
                go_wp2
                go_meet
                case rel => exact ⟨_, (((t269.length : Int) != 1)), (by first | rfl | (simp; done) | (simp [*]; done)), H', ⟨by have := HJ7.out; first | omega | exact Nat.le_refl _⟩, ⟨by (with_reducible repeat (first | apply Kd.R_alloc | apply Kd.R_drewN | apply Kd.R_drew)); exact Kd.R_mono HO264.out (fun _ hk => hk.2)⟩, ⟨by (with_reducible repeat (first | apply Kd.R_alloc | apply Kd.R_drewN | apply Kd.R_drew)); exact Kd.R_mono HO271.out (fun _ hk => hk.2)⟩, ⟨by repeat (first | (with_reducible first | exact HB.out | apply below_alloc | apply pw_below_drewN | apply below_drew1) | exact HB.out)⟩⟩
              · rw [if_neg c24] at H
                have c24b0 : ((t262.length : Int) == (t255.length : Int)) = false := beq_eq_false_iff_ne.mpr c24
                have c24b1 : ((t262.length : Int) != (t255.length : Int)) = true := bne_iff_ne.mpr c24
                have c24b2 : (t262.length == t255.length) = false := by first | simpa using c24 | (simp at c24 ⊢; omega)
                have H' := Aside0.mk H
                clear H
                obtain ⟨Ao27, co27, eo27⟩ := Kd.R_slice HO264.out
                subst eo27
                go_wp2
                go_meet
                case rel => exact ⟨_, (true), (by first | rfl | (simp; done) | (simp [*]; done)), H', ⟨by have := HJ7.out; first | omega | exact Nat.le_refl _⟩, ⟨by (with_reducible repeat (first | apply Kd.R_alloc | apply Kd.R_drewN | apply Kd.R_drew)); exact Kd.R_mono HO264.out (fun _ hk => hk.2)⟩, ⟨by (with_reducible repeat (first | apply Kd.R_alloc | apply Kd.R_drewN | apply Kd.R_drew)); exact Kd.R_mono HO271.out (fun _ hk => hk.2)⟩, ⟨by repeat (first | (with_reducible first | exact HB.out | apply below_alloc | apply pw_below_drewN | apply below_drew1) | exact HB.out)⟩⟩
            · rw [if_neg c23] at H
              have c23b0 : (t272 == 0) = false := beq_eq_false_iff_ne.mpr c23
              have c23b1 : (t272 != 0) = true := bne_iff_ne.mpr c23
              have H' := Aside0.mk H
              clear H
              go_wp2
              go_meet
              case rel => exact ⟨_, (true), (by first | rfl | (simp; done) | (simp [*]; done)), H', ⟨by have := HJ7.out; first | omega | exact Nat.le_refl _⟩, ⟨by (with_reducible repeat (first | apply Kd.R_alloc | apply Kd.R_drewN | apply Kd.R_drew)); exact Kd.R_mono HO264.out (fun _ hk => hk.2)⟩, ⟨by (with_reducible repeat (first | apply Kd.R_alloc | apply Kd.R_drewN | apply Kd.R_drew)); exact Kd.R_mono HO271.out (fun _ hk => hk.2)⟩, ⟨by repeat (first | (with_reducible first | exact HB.out | apply below_alloc | apply pw_below_drewN | apply below_drew1) | exact HB.out)⟩⟩
          · rw [if_neg c22] at H
            have c22b0 : (t265 == 0) = false := beq_eq_false_iff_ne.mpr c22
            have c22b1 : (t265 != 0) = true := bne_iff_ne.mpr c22
            (first | rw [c22b0] | (simp only [i64_w, i32_w]; rw [c22b0]) | skip)
            have H' := Aside0.mk H
            clear H
            go_wp2
            go_meet
            case rel => exact ⟨_, (true), (by first | rfl | (simp; done) | (simp [*]; done)), H', ⟨by have := HJ7.out; first | omega | exact Nat.le_refl _⟩, ⟨by (with_reducible repeat (first | apply Kd.R_alloc | apply Kd.R_drewN | apply Kd.R_drew)); exact Kd.R_mono HO264.out (fun _ hk => hk.2)⟩, ⟨by (with_reducible repeat (first | apply Kd.R_alloc | apply Kd.R_drewN | apply Kd.R_drew)); exact Kd.R_mono HO271.out (fun _ hk => hk.2)⟩, ⟨by repeat (first | (with_reducible first | exact HB.out | apply below_alloc | apply pw_below_drewN | apply below_drew1) | exact HB.out)⟩⟩
        case rest =>
          clear HC15
          try clear c1
          try clear c2
          try clear p2
          try clear c5
          try clear p6
          try clear c9
          try clear c10
          try clear c11
          try clear c12
          try clear c12b0
          try clear c17
          try clear c22
          try clear c22b0
          try clear c22b1
          try clear c23
          try clear c23b0
          try clear c23b1
          try clear c24
          try clear c24b0
          try clear c24b1
          try clear c24b2
          try clear p2
          try clear p6
          obtain ⟨kq, x66_14, rfl, HA, HJ14, HO_7, HO_9, HB⟩ := hcut
          cases kq with
          | zero => exact absurd HA.out (by simp [sluicelaw8_ShareParts.j1])
          | succ kj14 =>
            have H := HA.out
            clear HA
            simp only [sluicelaw8_ShareParts.j1] at H
            by_cases c28 : x66_14 = true
            · subst c28
              have H1 : (some false) = some r := by rw [if_pos rfl] at H; exact H
              clear H
              have H := H1
              clear H1
              obtain rfl := Option.some.inj H
              go_wp2
              go_ret
              exact ⟨by first | rfl | (simp [errW_none, errW_some] <;> rfl) | (simp [*, errW_none, errW_some] <;> rfl), by repeat (first | (with_reducible first | exact HB.out | apply below_alloc | apply pw_below_drewN | apply below_drew1) | exact HB.out)⟩
            · replace c28 := Bool.eq_false_iff.mpr c28
              subst c28
              have H1 : (sluicelaw8_ShareParts.l0 kj14 t254 x1_7 t262 t269 0 0 0) = some r := by rw [if_neg (show ¬ (false = true) by decide)] at H; exact H
              clear H
              have H := H1
              clear H1
              have H' := Aside0.mk H
              clear H
              go_wp2
              go_loopg [11, 12, 13] kj14 (fun kq v11 v12 v13 w' => ∃ (x11_3 : Int) (x12_3 : Int) (x13_3 : Int), v11 = .int .i64 x11_3 ∧ v12 = .int .i64 x12_3 ∧ v13 = .int .i64 x13_3 ∧ Aside0 (sluicelaw8_ShareParts.l0 kq t254 x1_7 t262 t269 x11_3 x12_3 x13_3 = some r) ∧ Aside0 (kq ≤ kj14) ∧ Aside0 (Kd.R k50 50 w' w.heap.size (fun k_ => some k_ ≠ (v270 : Value).ownBlock) v263 t262) ∧ Aside0 (Kd.R k50 50 w' w.heap.size (fun k_ => some k_ ≠ (v263 : Value).ownBlock) v270 t269) ∧ Aside0 (Below w.heap.size w w'))
              case atStart => exact ⟨(0), (0), (0), (by first | rfl | (simp; done) | (simp [*]; done)), (by first | rfl | (simp; done) | (simp [*]; done)), (by first | rfl | (simp; done) | (simp [*]; done)), H', ⟨Nat.le_refl _⟩, ⟨by (with_reducible repeat (first | apply Kd.R_alloc | apply Kd.R_drewN | apply Kd.R_drew)); exact HO_7.out⟩, ⟨by (with_reducible repeat (first | apply Kd.R_alloc | apply Kd.R_drewN | apply Kd.R_drew)); exact HO_9.out⟩, ⟨by repeat (first | (with_reducible first | exact HB.out | apply below_alloc | apply pw_below_drewN | apply below_drew1) | exact HB.out)⟩⟩
              case round =>
                clear H'
                try clear c1
                try clear c2
                try clear p2
                try clear c5
                try clear p6
                try clear c9
                try clear c10
                try clear c11
                try clear c12
                try clear c12b0
                try clear c17
                try clear c22
                try clear c22b0
                try clear c22b1
                try clear c23
                try clear c23b0
                try clear c23b1
                try clear c24
                try clear c24b0
                try clear c24b1
                try clear c24b2
                try clear c28
                try clear p2
                try clear p6
                obtain ⟨x11_3, x12_3, x13_3, rfl, rfl, rfl, HA, HK3, HO_7, HO_9, HB⟩ := hrel
                cases gk with
                | zero => exact absurd HA.out (by simp [sluicelaw8_ShareParts.l0])
                | succ k3 =>
                  have H := HA.out
                  clear HA
                  simp only [sluicelaw8_ShareParts.l0] at H
                  by_cases c29 : x13_3 < (t262.length : Int)
                  · rw [if_pos c29] at H
                    have c29b0 : decide (x13_3 < (t262.length : Int)) = true := decide_eq_true c29
                    clear c29
                    by_cases c30 : 0 ≤ x13_3
                    · rw [if_pos c30] at H
                      have c30b0 : decide (0 ≤ x13_3) = true := decide_eq_true c30
                      clear c30
                      by_cases c31 : ((rd_T50 t262 x13_3).f0) < 0
                      · rw [if_pos c31] at H
                        have c31b0 : decide (((rd_T50 t262 x13_3).f0) < 0) = true := decide_eq_true c31
                        clear c31
                        obtain rfl := Option.some.inj H
                        obtain ⟨Ao32, co32, eo32⟩ := Kd.R_slice HO_7.out
                        subst eo32
                        have p273 : 0 ≤ (x13_3 : Int) := of_decide_eq_true (by first | (with_reducible assumption) | assumption)
                        have q273 : x13_3 < (t262.length : Int) := of_decide_eq_true (by first | (with_reducible assumption) | assumption)
                        obtain ⟨ad273, e273, hx273_0, hx273_1⟩ := at_T50 (Kd.R_reads' HO_7.out).2.2 x13_3 p273 q273
                        cases e273
                        replace p273 := eq_true p273
                        replace q273 := eq_true q273
                        go_wp2
                        go_ret
                        exact ⟨by first | rfl | (simp [errW_none, errW_some] <;> rfl) | (simp [*, errW_none, errW_some] <;> rfl), by repeat (first | (with_reducible first | exact HB.out | apply below_alloc | apply pw_below_drewN | apply below_drew1) | exact HB.out)⟩
                      · rw [if_neg c31] at H
                        have c31b0 : decide (((rd_T50 t262 x13_3).f0) < 0) = false := decide_eq_false c31
                        clear c31
                        by_cases c33 : ((rd_T50 t262 x13_3).f1) < 0
                        · rw [if_pos c33] at H
                          have c33b0 : decide (((rd_T50 t262 x13_3).f1) < 0) = true := decide_eq_true c33
                          clear c33
                          obtain rfl := Option.some.inj H
                          obtain ⟨Ao34, co34, eo34⟩ := Kd.R_slice HO_7.out
                          subst eo34
                          have p273 : 0 ≤ (x13_3 : Int) := of_decide_eq_true (by first | (with_reducible assumption) | assumption)
                          have q273 : x13_3 < (t262.length : Int) := of_decide_eq_true (by first | (with_reducible assumption) | assumption)
                          obtain ⟨ad273, e273, hx273_0, hx273_1⟩ := at_T50 (Kd.R_reads' HO_7.out).2.2 x13_3 p273 q273
                          cases e273
                          replace p273 := eq_true p273
                          replace q273 := eq_true q273
                          have p274 : 0 ≤ (x13_3 : Int) := of_decide_eq_true (by first | (with_reducible assumption) | assumption)
                          have q274 : x13_3 < (t262.length : Int) := of_decide_eq_true (by first | (with_reducible assumption) | assumption)
                          obtain ⟨ad274, e274, hx274_0, hx274_1⟩ := at_T50 (Kd.R_reads' HO_7.out).2.2 x13_3 p274 q274
                          obtain rfl : ad273 = ad274 := (by injection e274)
                          replace p274 := eq_true p274
                          replace q274 := eq_true q274
                          go_wp2
                          go_ret
                          exact ⟨by first | rfl | (simp [errW_none, errW_some] <;> rfl) | (simp [*, errW_none, errW_some] <;> rfl), by repeat (first | (with_reducible first | exact HB.out | apply below_alloc | apply pw_below_drewN | apply below_drew1) | exact HB.out)⟩
                        · rw [if_neg c33] at H
                          have c33b0 : decide (((rd_T50 t262 x13_3).f1) < 0) = false := decide_eq_false c33
                          clear c33
                          have H' := Aside0.mk H
                          clear H
                          obtain ⟨Ao35, co35, eo35⟩ := Kd.R_slice HO_7.out
                          subst eo35
                          have p273 : 0 ≤ (x13_3 : Int) := of_decide_eq_true (by first | (with_reducible assumption) | assumption)
                          have q273 : x13_3 < (t262.length : Int) := of_decide_eq_true (by first | (with_reducible assumption) | assumption)
                          obtain ⟨ad273, e273, hx273_0, hx273_1⟩ := at_T50 (Kd.R_reads' HO_7.out).2.2 x13_3 p273 q273
                          cases e273
                          replace p273 := eq_true p273
                          replace q273 := eq_true q273
                          have p274 : 0 ≤ (x13_3 : Int) := of_decide_eq_true (by first | (with_reducible assumption) | assumption)
                          have q274 : x13_3 < (t262.length : Int) := of_decide_eq_true (by first | (with_reducible assumption) | assumption)
                          obtain ⟨ad274, e274, hx274_0, hx274_1⟩ := at_T50 (Kd.R_reads' HO_7.out).2.2 x13_3 p274 q274
                          obtain rfl : ad273 = ad274 := (by injection e274)
                          replace p274 := eq_true p274
                          replace q274 := eq_true q274
                          have p275 : 0 ≤ (x13_3 : Int) := of_decide_eq_true (by first | (with_reducible assumption) | assumption)
                          have q275 : x13_3 < (t262.length : Int) := of_decide_eq_true (by first | (with_reducible assumption) | assumption)
                          obtain ⟨ad275, e275, hx275_0, hx275_1⟩ := at_T50 (Kd.R_reads' HO_7.out).2.2 x13_3 p275 q275
                          obtain rfl : ad273 = ad275 := (by injection e275)
                          replace p275 := eq_true p275
                          replace q275 := eq_true q275
                          have p276 : 0 ≤ (x13_3 : Int) := of_decide_eq_true (by first | (with_reducible assumption) | assumption)
                          have q276 : x13_3 < (t262.length : Int) := of_decide_eq_true (by first | (with_reducible assumption) | assumption)
                          obtain ⟨ad276, e276, hx276_0, hx276_1⟩ := at_T50 (Kd.R_reads' HO_7.out).2.2 x13_3 p276 q276
                          obtain rfl : ad273 = ad276 := (by injection e276)
                          replace p276 := eq_true p276
                          replace q276 := eq_true q276
                          go_wp2
                          go_roundg k3
                          case measure => have := HJ7.out; have := HJ14.out; have := HK3.out; omega
                          case rel => exact ⟨(wrap64 (x11_3 + ((rd_T50 t262 x13_3).f0))), (wrap64 (x12_3 + ((rd_T50 t262 x13_3).f1))), (wrap64 (x13_3 + 1)), (by first | rfl | (simp; done) | (simp [*]; done)), (by first | rfl | (simp; done) | (simp [*]; done)), (by first | rfl | (simp; done) | (simp [*]; done)), H', ⟨by have := HJ7.out; have := HJ14.out; have := HK3.out; omega⟩, ⟨by (with_reducible repeat (first | apply Kd.R_alloc | apply Kd.R_drewN | apply Kd.R_drew)); exact HO_7.out⟩, ⟨by (with_reducible repeat (first | apply Kd.R_alloc | apply Kd.R_drewN | apply Kd.R_drew)); exact HO_9.out⟩, ⟨by repeat (first | (with_reducible first | exact HB.out | apply below_alloc | apply pw_below_drewN | apply below_drew1) | exact HB.out)⟩⟩
                    · rw [if_neg c30] at H
                      exact absurd H (by simp)
                  · rw [if_neg c29] at H
                    have c29b0 : decide (x13_3 < (t262.length : Int)) = false := decide_eq_false c29
                    clear c29
                    by_cases c36 : x11_3 = t254
                    · rw [if_pos c36] at H
                      have c36b0 : (x11_3 == t254) = true := beq_iff_eq.mpr c36
                      have c36b1 : (x11_3 != t254) = false := bne_eq_false_iff_eq.mpr c36
                      clear c36
                      by_cases c37 : x12_3 = x1_7
                      · rw [if_pos c37] at H
                        have c37b0 : (x12_3 == x1_7) = true := beq_iff_eq.mpr c37
                        have c37b1 : (x12_3 != x1_7) = false := bne_eq_false_iff_eq.mpr c37
                        clear c37
                        by_cases c38 : 0 < (t269.length : Int)
                        · rw [if_pos c38] at H
                          have c38b0 : decide (0 < (t269.length : Int)) = true := decide_eq_true c38
                          have c38b1 : decide (0 < t269.length) = true := decide_eq_true (by omega)
                          clear c38
                          obtain rfl := Option.some.inj H
                          obtain ⟨Ao39, co39, eo39⟩ := Kd.R_slice HO_7.out
                          subst eo39
                          obtain ⟨Ao40, co40, eo40⟩ := Kd.R_slice HO_9.out
                          subst eo40
                          have p277 : 0 ≤ (0 : Int) := (by omega)
                          have q277 : 0 < (t269.length : Int) := of_decide_eq_true (by first | (with_reducible assumption) | assumption)
                          obtain ⟨ad277, e277, hx277_0, hx277_1⟩ := at_T50 (Kd.R_reads' HO_9.out).2.2 0 p277 q277
                          cases e277
                          have qi277 : (0 < t269.length) = True := eq_true (by omega)
                          (try rw [show ((0 : Int)).toNat = 0 from rfl] at hx277_0)
                          (try rw [show 0 * 2 = 0 from rfl] at hx277_0)
                          (try rw [Addr.add_zero'] at hx277_0)
                          (try rw [show ((0 : Int)).toNat = 0 from rfl] at hx277_1)
                          (try rw [show 0 * 2 = 0 from rfl] at hx277_1)
                          (try rw [Addr.add_zero'] at hx277_1)
                          replace p277 := eq_true p277
                          replace q277 := eq_true q277
                          go_wp2
                          go_ret
                          exact ⟨by first | rfl | (simp [errW_none, errW_some] <;> rfl) | (simp [*, errW_none, errW_some] <;> rfl), by repeat (first | (with_reducible first | exact HB.out | apply below_alloc | apply pw_below_drewN | apply below_drew1) | exact HB.out)⟩
                        · rw [if_neg c38] at H
                          exact absurd H (by simp)
                      · rw [if_neg c37] at H
                        have c37b0 : (x12_3 == x1_7) = false := beq_eq_false_iff_ne.mpr c37
                        have c37b1 : (x12_3 != x1_7) = true := bne_iff_ne.mpr c37
                        obtain rfl := Option.some.inj H
                        obtain ⟨Ao41, co41, eo41⟩ := Kd.R_slice HO_7.out
                        subst eo41
                        go_wp2
                        go_ret
                        exact ⟨by first | rfl | (simp [errW_none, errW_some] <;> rfl) | (simp [*, errW_none, errW_some] <;> rfl), by repeat (first | (with_reducible first | exact HB.out | apply below_alloc | apply pw_below_drewN | apply below_drew1) | exact HB.out)⟩
                    · rw [if_neg c36] at H
                      have c36b0 : (x11_3 == t254) = false := beq_eq_false_iff_ne.mpr c36
                      have c36b1 : (x11_3 != t254) = true := bne_iff_ne.mpr c36
                      obtain rfl := Option.some.inj H
                      obtain ⟨Ao42, co42, eo42⟩ := Kd.R_slice HO_7.out
                      subst eo42
                      go_wp2
                      go_ret
                      exact ⟨by first | rfl | (simp [errW_none, errW_some] <;> rfl) | (simp [*, errW_none, errW_some] <;> rfl), by repeat (first | (with_reducible first | exact HB.out | apply below_alloc | apply pw_below_drewN | apply below_drew1) | exact HB.out)⟩
  · replace c5 := Bool.eq_false_iff.mpr c5
    subst c5
    have H1 : (some false) = some r := by rw [if_neg (show ¬ (false = true) by decide)] at H; exact H
    clear H
    have H := H1
    clear H1
    obtain rfl := Option.some.inj H
    go_enter Try.func9, Try.ntmps9
    go_wp2_with (first | ((with_reducible refine gate_callee (f := 10) rfl ?_); refine goesL_ (some 14) rfl rfl Try.func10 (by kernel_rfl) rfl #[] rfl (by (try simp only [List.map_toArray, List.map_cons, List.map_nil]); first | done | rfl | (simp only [List.length_drop, List.length_take]; rfl)) ?_; (with_reducible refine (sluicelaw8_able.calls k  false _ A4.out).mono ?_); rintro e w43 ⟨rfl, hb⟩; refine ⟨_, rfl, ?_⟩; have n0_ := Aside0.mk (below_step (by repeat (first | (with_reducible first | exact HB.out | apply below_alloc | apply pw_below_drewN | apply below_drew1) | exact HB.out)) hb); clear HB; have HB := n0_; clear n0_; (try clear hb); (try clear hb2); (try clear hk); (try clear hi)))
    go_ret
    exact ⟨by first | rfl | (simp [errW_none, errW_some] <;> rfl) | (simp [*, errW_none, errW_some] <;> rfl), by repeat (first | (with_reducible first | exact HB.out | apply below_alloc | apply pw_below_drewN | apply below_drew1) | exact HB.out)⟩

/-- THE ONE PURE STATEMENT of sluicelaw8_ShareParts: yours. -/
def sluicelaw8_ShareParts.Pure : Prop := ∀ (a0 : Int) (a1 : Int) (l2 : List Int), (Lit.int .i64 a0).wf = true → (Lit.int .i64 a1).wf = true → l2.length ≤ maxLen → l2.length * 8 ≤ 140737488351232 → (∀ x ∈ l2, (Lit.int .i64 x).wf = true) → ∃ k, sluicelaw8_ShareParts.f k a0 a1 l2 = some true
theorem sluicelaw8_ShareParts.walk (P : sluicelaw8_ShareParts.Pure) (a0 : Int) (a1 : Int) (a2 : Option Addr) (len2 cap2 : Nat) (z2 : List Int) (w : World) (w0 : (Lit.int .i64 a0).wf = true) (w1 : (Lit.int .i64 a1).wf = true) (w2 : (a2 = none ∧ len2 = 0 ∧ cap2 = 0 ∧ z2 = []) ∨ ∃ x, a2 = some x ∧ len2 ≤ cap2 ∧ cap2 ≤ maxLen ∧ z2.length = cap2 ∧ (∀ i, i < z2.length → w.cell? (x.add i) = some (.int .i64 (z2.getD i 0))) ∧ ∀ n ∈ z2, (Lit.int .i64 n).wf = true) (y2 : len2 * 8 ≤ 140737488351232) :
    Calls Try.prog 9 #[.int .i64 a0, .int .i64 a1, .slice a2 len2 cap2] w fun e w' => e = .returned (.bool true) ∧ Below w.heap.size w w' := by
  obtain ⟨l2, rfl, hr2, hm2, hw2, hc2⟩ := ReadsInt.ofRowC w2
  obtain ⟨k, h⟩ := P a0 a1 l2 w0 w1 hm2 y2 hw2
  refine (sluicelaw8_ShareParts.calls k a0 a1 _ _ l2 true w (Kd.C_of_reads (d := (0 : Int)) (h1 := fun _ => rfl) hr2) hc2 h).mono ?_
  rintro e w' ⟨rfl, hd⟩
  exact ⟨rfl, hd⟩

end Go.Proofs.Ytnkkkbmkbmjghaa.P
