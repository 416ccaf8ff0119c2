/- texts that the proof needs, laid together by a program of this session. -/
import Derived.Test.YtnbfebjcfhbhiaaDoorKScriptOneForm5
section
namespace Go.Proofs.YtnbfebjcfhbhiaaDoor.P
open Go.RowKit Go.Proofs.YtnbfebjcfhbhiaaDoorW.PrintWords Go.Proofs.YtnbfebjcfhbhiaaDoorW.PrintLast Go.Proofs.YtnbfebjcfhbhiaaDoorW.PrintMore
attribute [local go_sem] max2_int min2_int max_two min_two max_three min_three max_four min_four   -- for this text's walks alone
set_option linter.unusedVariables false
set_option linter.unusedSimpArgs false

attribute [local go_sem high] eqA43 eqA45
def script_sign.l0 : Nat → ByteArray → Int → Int → Option (Int × Int × Bool)
  | 0, _, _, _ => none
  | k + 1, x0, x2, x3 => if x3 < 3 then (if x3 ≥ (x0.size : Int) then (some (0, x3, false)) else (if 0 ≤ x3 then (if x3 < (x0.size : Int) then ((strings_IndexByte.f (⟨#[48, 49, 50, 51, 52, 53, 54, 55, 56, 57, 65, 66, 67, 68, 69, 70]⟩ : ByteArray) (bt x0 x3)).bind fun t176 => (if t176 < 0 then (some (0, x3, false)) else (script_sign.l0 k x0 (Go.bits .or .u8 ((x2 * 16) % 256) ((t176) % 256)) (wrap64 (x3 + 1))))) else (none)) else (none))) else ((script_plain.f x2).bind fun t175 => (if t175 = true then (some (0, 2, false)) else (some (x2, 3, true))))
def script_sign.f (k : Nat) (a0 : ByteArray) : Option (Int × Int × Bool) := if a0.toList = ([] : List UInt8) then (some (0, 0, false)) else (if 0 < (a0.size : Int) then ((script_plain.f (bt a0 0)).bind fun t174 => (if t174 = true then (some (bt a0 0, 1, true)) else (if (bt a0 0) = 37 then (script_sign.l0 k a0 0 1) else (some (0, 0, false))))) else (none))
theorem script_sign.mono_l : ∀ k, (∀ y0 y1 y2, LeO (script_sign.l0 k y0 y1 y2) (script_sign.l0 (k + 1) y0 y1 y2))
  | 0 => fun _ _ _ r h => by simp [script_sign.l0] at h
  | k + 1 => by
    have ih0 := script_sign.mono_l k
    · intro y0 y1 y2
      unfold script_sign.l0
      repeat' first
      | (with_reducible exact ih0 _ _ _)
      | (with_reducible exact LeO.refl _)
      | (with_reducible exact LeO.none _)
      | (with_reducible refine LeO.ite ?_ ?_)
      | (with_reducible refine LeO.bind ?_ (fun _ => ?_))
      | exact ih0 _ _ _
      | exact LeO.none _
      | refine LeO.ite ?_ ?_
      | refine LeO.bind ?_ (fun _ => ?_)
theorem script_sign.mono : ∀ a0 k, LeO (script_sign.f k a0) (script_sign.f (k + 1) a0) := by
  intro a0 k
  have ih0 := script_sign.mono_l k
  unfold script_sign.f
  repeat' first
      | (with_reducible exact ih0 _ _ _)
      | (with_reducible exact LeO.refl _)
      | (with_reducible exact LeO.none _)
      | (with_reducible refine LeO.ite ?_ ?_)
      | (with_reducible refine LeO.bind ?_ (fun _ => ?_))
      | exact ih0 _ _ _
      | exact LeO.none _
      | refine LeO.ite ?_ ?_
      | refine LeO.bind ?_ (fun _ => ?_)
set_option maxHeartbeats 8000000 in
set_option maxRecDepth 100000 in
theorem script_sign.calls (k : Nat) (a0 : ByteArray) (r1 : Int) (r2 : Int) (r3 : Bool) (w : World) (h : script_sign.f k a0 = some (r1, r2, r3)) :
    Calls Tryd.prog 97 #[.string a0] w fun e w' => e = .returned (.tuple #[.int .u8 r1, .int .i64 r2, .bool r3]) ∧ Drawn0 w w' := by
  have H : (if a0.toList = ([] : List UInt8) then (some (0, 0, false)) else (if 0 < (a0.size : Int) then ((script_plain.f (bt a0 0)).bind fun t174 => (if t174 = true then (some (bt a0 0, 1, true)) else (if (bt a0 0) = 37 then (script_sign.l0 k a0 0 1) else (some (0, 0, false))))) else (none))) = some (r1, r2, r3) := h
  clear h
  by_cases c2 : a0.toList = ([] : List UInt8)
  · rw [if_pos c2] at H
    have c2b0 : (a0.toList == ([] : List UInt8)) = true := beq_iff_eq.mpr c2
    have c2b1 : (a0.toList != ([] : List UInt8)) = false := bne_eq_false_iff_eq.mpr c2
    clear c2
    simp only [Option.some.injEq, Prod.mk.injEq] at H
    obtain ⟨rfl, rfl, rfl⟩ := H
    go_enter Tryd.func97, Tryd.ntmps97
    go_wp2
    go_ret3
    exact ⟨by first | rfl | (simp; done) | (simp [*]; done), by repeat (first | exact Drawn0.refl _ | apply Drawn0.step)⟩
  · rw [if_neg c2] at H
    have c2b0 : (a0.toList == ([] : List UInt8)) = false := beq_eq_false_iff_ne.mpr c2
    have c2b1 : (a0.toList != ([] : List UInt8)) = true := bne_iff_ne.mpr c2
    by_cases c3 : 0 < (a0.size : Int)
    · rw [if_pos c3] at H
      have c3b0 : decide (0 < (a0.size : Int)) = true := decide_eq_true c3
      have c3b1 : decide (0 < a0.size) = true := decide_eq_true (by omega)
      clear c3
      replace H := Option.bind_eq_some_iff.mp H
      obtain ⟨t174, A50, H⟩ := H
      replace H : (if t174 = true then (some (bt a0 0, 1, true)) else (if (bt a0 0) = 37 then (script_sign.l0 k a0 0 1) else (some (0, 0, false)))) = some (r1, r2, r3) := H
      have A5 := Aside0.mk A50
      clear A50
      by_cases c6 : t174 = true
      · subst c6
        have H1 : (some (bt a0 0, 1, true)) = some (r1, r2, r3) := by rw [if_pos rfl] at H; exact H
        clear H
        have H := H1
        clear H1
        simp only [Option.some.injEq, Prod.mk.injEq] at H
        obtain ⟨rfl, rfl, rfl⟩ := H
        have p4 : 0 ≤ (0 : Int) := (by omega)
        have q4 : 0 < a0.size := (by have : (0 : Int) < (a0.size : Int) := of_decide_eq_true (by first | (with_reducible assumption) | assumption); omega)
        have hx4 : ∀ h : 0 < a0.size, ((a0[0]'h).toNat : Int) = bt a0 0 := bt_at a0 0
        clear p4
        have qi4 : (0 < (a0.size : Int)) = True := eq_true (of_decide_eq_true (by first | (with_reducible assumption) | assumption))
        replace q4 := eq_true q4
        go_enter Tryd.func97, Tryd.ntmps97
        go_wp2_with (first | ((with_reducible refine gate_callee (f := 82) rfl ?_); refine goesL_ (some 10) rfl rfl Tryd.func82 (by kernel_rfl) rfl #[.int .u8 (bt a0 0)] rfl (by (try simp only [List.map_toArray, List.map_cons, List.map_nil]); first | done | rfl | (simp only [List.length_drop, List.length_take]; rfl)) ?_; (with_reducible refine (script_plain.calls (bt a0 0) true _ A5.out).mono ?_); rintro e w' ⟨rfl, ⟨nd, rfl⟩⟩; refine ⟨_, rfl, ?_⟩; have p7 : 0 ≤ (0 : Int) := (by omega); have q7 : 0 < a0.size := (by have : (0 : Int) < (a0.size : Int) := of_decide_eq_true (by first | (with_reducible assumption) | assumption); omega); have hx7 : ∀ h : 0 < a0.size, ((a0[0]'h).toNat : Int) = bt a0 0 := bt_at a0 0; clear p7; have qi7 : (0 < (a0.size : Int)) = True := eq_true (of_decide_eq_true (by first | (with_reducible assumption) | assumption)); replace q7 := eq_true q7))
        go_ret3
        exact ⟨by first | rfl | (simp; done) | (simp [*]; done), by repeat (first | exact Drawn0.refl _ | apply Drawn0.step)⟩
      · replace c6 := Bool.eq_false_iff.mpr c6
        subst c6
        have H1 : (if (bt a0 0) = 37 then (script_sign.l0 k a0 0 1) else (some (0, 0, false))) = some (r1, r2, r3) := by rw [if_neg (show ¬ (false = true) by decide)] at H; exact H
        clear H
        have H := H1
        clear H1
        by_cases c9 : (bt a0 0) = 37
        · rw [if_pos c9] at H
          have c9b0 : ((bt a0 0) == 37) = true := beq_iff_eq.mpr c9
          have c9b1 : ((bt a0 0) != 37) = false := bne_eq_false_iff_eq.mpr c9
          clear c9
          have H' := Aside0.mk H
          clear H
          have p4 : 0 ≤ (0 : Int) := (by omega)
          have q4 : 0 < a0.size := (by have : (0 : Int) < (a0.size : Int) := of_decide_eq_true (by first | (with_reducible assumption) | assumption); omega)
          have hx4 : ∀ h : 0 < a0.size, ((a0[0]'h).toNat : Int) = bt a0 0 := bt_at a0 0
          clear p4
          have qi4 : (0 < (a0.size : Int)) = True := eq_true (of_decide_eq_true (by first | (with_reducible assumption) | assumption))
          replace q4 := eq_true q4
          go_enter Tryd.func97, Tryd.ntmps97
          go_wp2_with (first | ((with_reducible refine gate_callee (f := 82) rfl ?_); refine goesL_ (some 10) rfl rfl Tryd.func82 (by kernel_rfl) rfl #[.int .u8 (bt a0 0)] rfl (by (try simp only [List.map_toArray, List.map_cons, List.map_nil]); first | done | rfl | (simp only [List.length_drop, List.length_take]; rfl)) ?_; (with_reducible refine (script_plain.calls (bt a0 0) false _ A5.out).mono ?_); rintro e w' ⟨rfl, ⟨nd, rfl⟩⟩; refine ⟨_, rfl, ?_⟩; have p8 : 0 ≤ (0 : Int) := (by omega); have q8 : 0 < a0.size := (by have : (0 : Int) < (a0.size : Int) := of_decide_eq_true (by first | (with_reducible assumption) | assumption); omega); have hx8 : ∀ h : 0 < a0.size, ((a0[0]'h).toNat : Int) = bt a0 0 := bt_at a0 0; clear p8; have qi8 : (0 < (a0.size : Int)) = True := eq_true (of_decide_eq_true (by first | (with_reducible assumption) | assumption)); replace q8 := eq_true q8))
          go_loopg [2, 3] k (fun kq v2 v3 w' => ∃ (x2_1 : Int) (x3_1 : Int), v2 = .int .u8 x2_1 ∧ v3 = .int .i64 x3_1 ∧ Aside0 (script_sign.l0 kq a0 x2_1 x3_1 = some (r1, r2, r3)) ∧ Aside0 (kq ≤ k) ∧ Drawn0 w w')
          case atStart => exact ⟨(0), (1), (by first | rfl | (simp; done) | (simp [*]; done)), (by first | rfl | (simp; done) | (simp [*]; done)), H', ⟨Nat.le_refl _⟩, by repeat (first | exact Drawn0.refl _ | apply Drawn0.step)⟩
          case round =>
            clear H'
            try clear c2
            try clear c2b0
            try clear c2b1
            try clear p2
            try clear c3
            try clear c3b0
            try clear c3b1
            try clear p4
            try clear q4
            try clear hx4
            try clear qi4
            try clear c6
            try clear p7
            try clear q7
            try clear hx7
            try clear qi7
            try clear c8
            try clear p8
            try clear q8
            try clear hx8
            try clear qi8
            try clear c9
            try clear c9b0
            try clear c9b1
            try clear p4
            try clear p7
            try clear p8
            try clear q4
            try clear q7
            try clear q8
            obtain ⟨x2_1, x3_1, rfl, rfl, HA, HK1, ⟨m1, rfl⟩⟩ := hrel
            cases gk with
            | zero => exact absurd HA.out (by simp [script_sign.l0])
            | succ k1 =>
              have H := HA.out
              clear HA
              simp only [script_sign.l0] at H
              by_cases c10 : x3_1 < 3
              · rw [if_pos c10] at H
                have c10b0 : decide (x3_1 < 3) = true := decide_eq_true c10
                clear c10
                by_cases c11 : x3_1 ≥ (a0.size : Int)
                · rw [if_pos c11] at H
                  have c11b0 : decide ((a0.size : Int) ≤ x3_1) = true := decide_eq_true c11
                  clear c11
                  simp only [Option.some.injEq, Prod.mk.injEq] at H
                  obtain ⟨rfl, rfl, rfl⟩ := H
                  go_wp2
                  go_ret3
                  exact ⟨by first | rfl | (simp; done) | (simp [*]; done), by repeat (first | exact Drawn0.refl _ | apply Drawn0.step)⟩
                · rw [if_neg c11] at H
                  have c11b0 : decide ((a0.size : Int) ≤ x3_1) = false := decide_eq_false c11
                  clear c11
                  by_cases c12 : 0 ≤ x3_1
                  · rw [if_pos c12] at H
                    have c12b0 : decide (0 ≤ x3_1) = true := decide_eq_true c12
                    clear c12
                    by_cases c13 : x3_1 < (a0.size : Int)
                    · rw [if_pos c13] at H
                      have c13b0 : decide (x3_1 < (a0.size : Int)) = true := decide_eq_true c13
                      clear c13
                      replace H := Option.bind_eq_some_iff.mp H
                      obtain ⟨t176, A150, H⟩ := H
                      replace H : (if t176 < 0 then (some (0, x3_1, false)) else (script_sign.l0 k1 a0 (Go.bits .or .u8 ((x2_1 * 16) % 256) ((t176) % 256)) (wrap64 (x3_1 + 1)))) = some (r1, r2, r3) := H
                      have A15 := Aside0.mk A150
                      clear A150
                      by_cases c16 : t176 < 0
                      · rw [if_pos c16] at H
                        have c16b0 : decide (t176 < 0) = true := decide_eq_true c16
                        clear c16
                        simp only [Option.some.injEq, Prod.mk.injEq] at H
                        obtain ⟨rfl, rfl, rfl⟩ := H
                        have p14 : 0 ≤ (x3_1 : Int) := of_decide_eq_true (by first | (with_reducible assumption) | assumption)
                        have q14 : x3_1 < (a0.size : Int) := of_decide_eq_true (by first | (with_reducible assumption) | assumption)
                        have hx14 := bt_at a0 x3_1
                        replace p14 := eq_true p14
                        replace q14 := eq_true q14
                        go_wp2_with (first | ((with_reducible refine gate_callee (f := 107) rfl ?_); refine goesL_ (some 28) rfl rfl Tryd.func107 (by kernel_rfl) rfl #[.string (⟨#[48, 49, 50, 51, 52, 53, 54, 55, 56, 57, 65, 66, 67, 68, 69, 70]⟩ : ByteArray), .int .u8 (bt a0 x3_1)] rfl (by (try simp only [List.map_toArray, List.map_cons, List.map_nil]); first | done | rfl | (simp only [List.length_drop, List.length_take]; rfl)) ?_; (with_reducible refine (strings_IndexByte.calls (⟨#[48, 49, 50, 51, 52, 53, 54, 55, 56, 57, 65, 66, 67, 68, 69, 70]⟩ : ByteArray) (bt a0 x3_1) t176 _ A15.out).mono ?_); rintro e w' ⟨rfl, ⟨nd, rfl⟩⟩; refine ⟨_, rfl, ?_⟩))
                        go_ret3
                        exact ⟨by first | rfl | (simp; done) | (simp [*]; done), by repeat (first | exact Drawn0.refl _ | apply Drawn0.step)⟩
                      · rw [if_neg c16] at H
                        have c16b0 : decide (t176 < 0) = false := decide_eq_false c16
                        clear c16
                        have H' := Aside0.mk H
                        clear H
                        have p14 : 0 ≤ (x3_1 : Int) := of_decide_eq_true (by first | (with_reducible assumption) | assumption)
                        have q14 : x3_1 < (a0.size : Int) := of_decide_eq_true (by first | (with_reducible assumption) | assumption)
                        have hx14 := bt_at a0 x3_1
                        replace p14 := eq_true p14
                        replace q14 := eq_true q14
                        go_wp2_with (first | ((with_reducible refine gate_callee (f := 107) rfl ?_); refine goesL_ (some 28) rfl rfl Tryd.func107 (by kernel_rfl) rfl #[.string (⟨#[48, 49, 50, 51, 52, 53, 54, 55, 56, 57, 65, 66, 67, 68, 69, 70]⟩ : ByteArray), .int .u8 (bt a0 x3_1)] rfl (by (try simp only [List.map_toArray, List.map_cons, List.map_nil]); first | done | rfl | (simp only [List.length_drop, List.length_take]; rfl)) ?_; (with_reducible refine (strings_IndexByte.calls (⟨#[48, 49, 50, 51, 52, 53, 54, 55, 56, 57, 65, 66, 67, 68, 69, 70]⟩ : ByteArray) (bt a0 x3_1) t176 _ A15.out).mono ?_); rintro e w' ⟨rfl, ⟨nd, rfl⟩⟩; refine ⟨_, rfl, ?_⟩))
                        go_roundg k1
                        case measure => have := HK1.out; omega
                        case rel => exact ⟨(Go.bits .or .u8 ((x2_1 * 16) % 256) ((t176) % 256)), (wrap64 (x3_1 + 1)), (by first | rfl | (simp; done) | (simp [*]; done)), (by first | rfl | (simp; done) | (simp [*]; done)), H', ⟨by have := HK1.out; omega⟩, by repeat (first | exact Drawn0.refl _ | apply Drawn0.step)⟩
                    · rw [if_neg c13] at H
                      exact absurd H (by simp)
                  · rw [if_neg c12] at H
                    exact absurd H (by simp)
              · rw [if_neg c10] at H
                have c10b0 : decide (x3_1 < 3) = false := decide_eq_false c10
                clear c10
                replace H := Option.bind_eq_some_iff.mp H
                obtain ⟨t175, A170, H⟩ := H
                replace H : (if t175 = true then (some (0, 2, false)) else (some (x2_1, 3, true))) = some (r1, r2, r3) := H
                have A17 := Aside0.mk A170
                clear A170
                by_cases c18 : t175 = true
                · subst c18
                  have H1 : (some (0, 2, false)) = some (r1, r2, r3) := by rw [if_pos rfl] at H; exact H
                  clear H
                  have H := H1
                  clear H1
                  simp only [Option.some.injEq, Prod.mk.injEq] at H
                  obtain ⟨rfl, rfl, rfl⟩ := H
                  go_wp2_with (first | ((with_reducible refine gate_callee (f := 82) rfl ?_); refine goesL_ (some 38) rfl rfl Tryd.func82 (by kernel_rfl) rfl #[.int .u8 x2_1] rfl (by (try simp only [List.map_toArray, List.map_cons, List.map_nil]); first | done | rfl | (simp only [List.length_drop, List.length_take]; rfl)) ?_; (with_reducible refine (script_plain.calls x2_1 true _ A17.out).mono ?_); rintro e w' ⟨rfl, ⟨nd, rfl⟩⟩; refine ⟨_, rfl, ?_⟩))
                  go_ret3
                  exact ⟨by first | rfl | (simp; done) | (simp [*]; done), by repeat (first | exact Drawn0.refl _ | apply Drawn0.step)⟩
                · replace c18 := Bool.eq_false_iff.mpr c18
                  subst c18
                  have H1 : (some (x2_1, 3, true)) = some (r1, r2, r3) := by rw [if_neg (show ¬ (false = true) by decide)] at H; exact H
                  clear H
                  have H := H1
                  clear H1
                  simp only [Option.some.injEq, Prod.mk.injEq] at H
                  obtain ⟨rfl, rfl, rfl⟩ := H
                  go_wp2_with (first | ((with_reducible refine gate_callee (f := 82) rfl ?_); refine goesL_ (some 38) rfl rfl Tryd.func82 (by kernel_rfl) rfl #[.int .u8 x2_1] rfl (by (try simp only [List.map_toArray, List.map_cons, List.map_nil]); first | done | rfl | (simp only [List.length_drop, List.length_take]; rfl)) ?_; (with_reducible refine (script_plain.calls x2_1 false _ A17.out).mono ?_); rintro e w' ⟨rfl, ⟨nd, rfl⟩⟩; refine ⟨_, rfl, ?_⟩))
                  go_ret3
                  exact ⟨by first | rfl | (simp; done) | (simp [*]; done), by repeat (first | exact Drawn0.refl _ | apply Drawn0.step)⟩
        · rw [if_neg c9] at H
          have c9b0 : ((bt a0 0) == 37) = false := beq_eq_false_iff_ne.mpr c9
          have c9b1 : ((bt a0 0) != 37) = true := bne_iff_ne.mpr c9
          simp only [Option.some.injEq, Prod.mk.injEq] at H
          obtain ⟨rfl, rfl, rfl⟩ := H
          have p4 : 0 ≤ (0 : Int) := (by omega)
          have q4 : 0 < a0.size := (by have : (0 : Int) < (a0.size : Int) := of_decide_eq_true (by first | (with_reducible assumption) | assumption); omega)
          have hx4 : ∀ h : 0 < a0.size, ((a0[0]'h).toNat : Int) = bt a0 0 := bt_at a0 0
          clear p4
          have qi4 : (0 < (a0.size : Int)) = True := eq_true (of_decide_eq_true (by first | (with_reducible assumption) | assumption))
          replace q4 := eq_true q4
          go_enter Tryd.func97, Tryd.ntmps97
          go_wp2_with (first | ((with_reducible refine gate_callee (f := 82) rfl ?_); refine goesL_ (some 10) rfl rfl Tryd.func82 (by kernel_rfl) rfl #[.int .u8 (bt a0 0)] rfl (by (try simp only [List.map_toArray, List.map_cons, List.map_nil]); first | done | rfl | (simp only [List.length_drop, List.length_take]; rfl)) ?_; (with_reducible refine (script_plain.calls (bt a0 0) false _ A5.out).mono ?_); rintro e w' ⟨rfl, ⟨nd, rfl⟩⟩; refine ⟨_, rfl, ?_⟩; have p8 : 0 ≤ (0 : Int) := (by omega); have q8 : 0 < a0.size := (by have : (0 : Int) < (a0.size : Int) := of_decide_eq_true (by first | (with_reducible assumption) | assumption); omega); have hx8 : ∀ h : 0 < a0.size, ((a0[0]'h).toNat : Int) = bt a0 0 := bt_at a0 0; clear p8; have qi8 : (0 < (a0.size : Int)) = True := eq_true (of_decide_eq_true (by first | (with_reducible assumption) | assumption)); replace q8 := eq_true q8))
          go_ret3
          exact ⟨by first | rfl | (simp; done) | (simp [*]; done), by repeat (first | exact Drawn0.refl _ | apply Drawn0.step)⟩
    · rw [if_neg c3] at H
      exact absurd H (by simp)

def script_line_bytes.l0 : Nat → List Int → ByteArray → Int → Bool → Bool → Option (List Int × ByteArray × Int × Bool × Bool)
  | 0, _, _, _, _, _ => none
  | k + 1, x3, x1000, x1001, x1002, x1003 => (script_line_rest.f x1000 x1001 x1002 x1003).bind fun bt183 => ((script_sign.f k bt183.1).bind fun bt188 => (if bt188.2.2 = true then (if x3.length < 140737488355328 then (script_line_bytes.l0 k (x3 ++ [bt188.1]) bt183.2.1 (wrap64 (bt183.2.2.1 + bt188.2.1)) bt183.2.2.2.1 bt183.2.2.2.2) else (none)) else (if bt188.2.1 > 0 then ((script_line_fail.f bt183.2.1 bt183.2.2.1 bt183.2.2.2.1 bt183.2.2.2.2 bt188.2.1).bind fun bt194 => (some (([] : List Int), bt194.1, bt194.2.1, bt194.2.2.1, bt194.2.2.2))) else (if (x3.length : Int) = 0 then ((script_line_fail.f bt183.2.1 bt183.2.2.1 bt183.2.2.2.1 bt183.2.2.2.2 bt188.2.1).bind fun bt198 => (some (([] : List Int), bt198.1, bt198.2.1, bt198.2.2.1, bt198.2.2.2))) else (some (x3, bt183.2.1, bt183.2.2.1, bt183.2.2.2.1, bt183.2.2.2.2))))))
def script_line_bytes.f (k : Nat) (s0_0 : ByteArray) (s0_1 : Int) (s0_2 : Bool) (s0_3 : Bool) : Option (List Int × ByteArray × Int × Bool × Bool) := if s0_3 = true then (some (([] : List Int), s0_0, s0_1, s0_2, s0_3)) else ((script_line_rest.f s0_0 s0_1 s0_2 s0_3).bind fun bt177 => ((strings_HasPrefix.f bt177.1 (⟨#[45]⟩ : ByteArray)).bind fun t182 => (if t182 = true then (some (([] : List Int), bt177.2.1, wrap64 (bt177.2.2.1 + 1), bt177.2.2.2.1, bt177.2.2.2.2)) else (script_line_bytes.l0 k ([] : List Int) bt177.2.1 bt177.2.2.1 bt177.2.2.2.1 bt177.2.2.2.2))))
theorem script_line_bytes.mono_l : ∀ k, (∀ y0 y1 y2 y3 y4, LeO (script_line_bytes.l0 k y0 y1 y2 y3 y4) (script_line_bytes.l0 (k + 1) y0 y1 y2 y3 y4))
  | 0 => fun _ _ _ _ _ r h => by simp [script_line_bytes.l0] at h
  | k + 1 => by
    have ih0 := script_line_bytes.mono_l k
    · intro y0 y1 y2 y3 y4
      unfold script_line_bytes.l0
      repeat' first
      | (with_reducible exact ih0 _ _ _ _ _)
      | (with_reducible exact script_sign.mono _ _)
      | (with_reducible exact LeO.refl _)
      | (with_reducible exact LeO.none _)
      | (with_reducible refine LeO.ite ?_ ?_)
      | (with_reducible refine LeO.bind ?_ (fun _ => ?_))
      | exact ih0 _ _ _ _ _
      | exact script_sign.mono _ _
      | exact LeO.none _
      | refine LeO.ite ?_ ?_
      | refine LeO.bind ?_ (fun _ => ?_)
theorem script_line_bytes.mono : ∀ a0 a1 a2 a3 k, LeO (script_line_bytes.f k a0 a1 a2 a3) (script_line_bytes.f (k + 1) a0 a1 a2 a3) := by
  intro a0 a1 a2 a3 k
  have ih0 := script_line_bytes.mono_l k
  unfold script_line_bytes.f
  repeat' first
      | (with_reducible exact ih0 _ _ _ _ _)
      | (with_reducible exact script_sign.mono _ _)
      | (with_reducible exact LeO.refl _)
      | (with_reducible exact LeO.none _)
      | (with_reducible refine LeO.ite ?_ ?_)
      | (with_reducible refine LeO.bind ?_ (fun _ => ?_))
      | exact ih0 _ _ _ _ _
      | exact script_sign.mono _ _
      | exact LeO.none _
      | refine LeO.ite ?_ ?_
      | refine LeO.bind ?_ (fun _ => ?_)
set_option maxHeartbeats 8000000 in
set_option maxRecDepth 100000 in
theorem script_line_bytes.calls (k : Nat) (g : Nat) (s0_0 : ByteArray) (s0_1 : Int) (s0_2 : Bool) (s0_3 : Bool) (r1 : List Int) (r2 : ByteArray) (r3 : Int) (r4 : Bool) (r5 : Bool) (w0 w : World) (hI : IsS109 w0 w g s0_0 s0_1 s0_2 s0_3) (hB : Below w0.heap.size w0 w) (h : script_line_bytes.f k s0_0 s0_1 s0_2 s0_3 = some (r1, r2, r3, r4, r5)) :
    Calls Tryd.prog 86 #[.pointer (some ⟨g, 0, none⟩)] w fun e w' => ∃ v0_ : Value, e = .returned (v0_) ∧ Kd.R (Kd.int .u8) 5 w' w.heap.size (fun _ => True) v0_ r1 ∧ IsS109 w0 w' g r2 r3 r4 r5 ∧ Below w0.heap.size w0 w' ∧ KeepBut w w' g none := by
  have HI0 := Aside0.mk hI
  have HK := Aside0.mk (KeepBut.refl w g none)
  have HL := Aside0.mk hB.size
  clear hI
  have HW0 := Aside0.mk hB.size
  have HB := Aside0.mk hB
  clear hB
  have H : (if s0_3 = true then (some (([] : List Int), s0_0, s0_1, s0_2, s0_3)) else ((script_line_rest.f s0_0 s0_1 s0_2 s0_3).bind fun bt177 => ((strings_HasPrefix.f bt177.1 (⟨#[45]⟩ : ByteArray)).bind fun t182 => (if t182 = true then (some (([] : List Int), bt177.2.1, wrap64 (bt177.2.2.1 + 1), bt177.2.2.2.1, bt177.2.2.2.2)) else (script_line_bytes.l0 k ([] : List Int) bt177.2.1 bt177.2.2.1 bt177.2.2.2.1 bt177.2.2.2.2))))) = some (r1, r2, r3, r4, r5) := h
  clear h
  by_cases c2 : s0_3 = true
  · subst c2
    have H1 : (some (([] : List Int), s0_0, s0_1, s0_2, true)) = some (r1, r2, r3, r4, r5) := by rw [if_pos rfl] at H; exact H
    clear H
    have H := H1
    clear H1
    simp only [Option.some.injEq, Prod.mk.injEq] at H
    obtain ⟨rfl, rfl, rfl, rfl, rfl⟩ := H
    obtain ⟨HGz3, hgz3⟩ := HI0.out
    have hcz3_0 := cellS109_0 HGz3
    have hcz3_1 := cellS109_1 HGz3
    have hcz3_2 := cellS109_2 HGz3
    have hcz3_3 := cellS109_3 HGz3
    have hfz3_0 := blk_frozen HGz3 0
    have hfz3_1 := blk_frozen HGz3 1
    have hfz3_2 := blk_frozen HGz3 2
    have hfz3_3 := blk_frozen HGz3 3
    clear HGz3 hgz3
    go_enter Tryd.func86, Tryd.ntmps86
    go_wp2
    go_ret
    exact ⟨_, by first | rfl | (simp [errW_none, errW_some] <;> rfl) | (simp [*, errW_none, errW_some] <;> rfl), by first | exact Kd.R_nil _ _ _ _ _ | exact Kd.N_nil _ _ _ _ _ | exact Kd.V_nil _ _ _ _ _ | exact Kd.Q_nil _ _ _ _ _ | exact Kd.S_nil _ _ _ _ _, by repeat (first | (with_reducible first | exact HI0.out | apply IsS109.alloc | apply IsS109.drewN | apply IsS109.drew | apply IsS109.set_0 | apply IsS109.set_1 | apply IsS109.set_2 | apply IsS109.set_3) | exact HI0.out), by repeat (first | (with_reducible first | exact HB.out | apply below_alloc | apply pw_below_drewN | apply below_drew1 | refine below_set ?_ (IsS109.ge HI0.out)) | exact HB.out), by repeat (first | (with_reducible first | exact HK.out | apply KeepBut.set_ | apply keep_drewN | apply keep_drew | apply keep_alloc) | exact HK.out)⟩
  · replace c2 := Bool.eq_false_iff.mpr c2
    subst c2
    have H1 : ((script_line_rest.f s0_0 s0_1 s0_2 false).bind fun bt177 => ((strings_HasPrefix.f bt177.1 (⟨#[45]⟩ : ByteArray)).bind fun t182 => (if t182 = true then (some (([] : List Int), bt177.2.1, wrap64 (bt177.2.2.1 + 1), bt177.2.2.2.1, bt177.2.2.2.2)) else (script_line_bytes.l0 k ([] : List Int) bt177.2.1 bt177.2.2.1 bt177.2.2.2.1 bt177.2.2.2.2)))) = some (r1, r2, r3, r4, r5) := by rw [if_neg (show ¬ (false = true) by decide)] at H; exact H
    clear H
    have H := H1
    clear H1
    replace H := Option.bind_eq_some_iff.mp H
    obtain ⟨⟨t177, t178, t179, t180, t181⟩, A40, H⟩ := H
    replace H : ((strings_HasPrefix.f t177 (⟨#[45]⟩ : ByteArray)).bind fun t182 => (if t182 = true then (some (([] : List Int), t178, wrap64 (t179 + 1), t180, t181)) else (script_line_bytes.l0 k ([] : List Int) t178 t179 t180 t181))) = some (r1, r2, r3, r4, r5) := H
    have A4 := Aside0.mk A40
    clear A40
    replace H := Option.bind_eq_some_iff.mp H
    obtain ⟨t182, A50, H⟩ := H
    replace H : (if t182 = true then (some (([] : List Int), t178, wrap64 (t179 + 1), t180, t181)) else (script_line_bytes.l0 k ([] : List Int) t178 t179 t180 t181)) = some (r1, r2, r3, r4, r5) := H
    have A5 := Aside0.mk A50
    clear A50
    by_cases c6 : t182 = true
    · subst c6
      have H1 : (some (([] : List Int), t178, wrap64 (t179 + 1), t180, t181)) = some (r1, r2, r3, r4, r5) := by rw [if_pos rfl] at H; exact H
      clear H
      have H := H1
      clear H1
      simp only [Option.some.injEq, Prod.mk.injEq] at H
      obtain ⟨rfl, rfl, rfl, rfl, rfl⟩ := H
      obtain ⟨HGz7, hgz7⟩ := HI0.out
      have hcz7_0 := cellS109_0 HGz7
      have hcz7_1 := cellS109_1 HGz7
      have hcz7_2 := cellS109_2 HGz7
      have hcz7_3 := cellS109_3 HGz7
      have hfz7_0 := blk_frozen HGz7 0
      have hfz7_1 := blk_frozen HGz7 1
      have hfz7_2 := blk_frozen HGz7 2
      have hfz7_3 := blk_frozen HGz7 3
      clear HGz7 hgz7
      go_enter Tryd.func86, Tryd.ntmps86
      go_wp2_with (first | ((with_reducible refine gate_callee (f := 85) rfl ?_); refine goesL_ (some 12) rfl rfl Tryd.func85 (by kernel_rfl) rfl #[.pointer (some ⟨g, 0, none⟩)] rfl (by (try simp only [List.map_toArray, List.map_cons, List.map_nil]); first | done | rfl | (simp only [List.length_drop, List.length_take]; rfl)) ?_; (with_reducible refine (script_line_rest.calls g s0_0 s0_1 s0_2 false t177 t178 t179 t180 t181 w0 _ ?side1 ?side2 A4.out).mono ?_); (case side1 => repeat (first | (with_reducible first | exact HI0.out | apply IsS109.alloc | apply IsS109.drewN | apply IsS109.drew | apply IsS109.set_0 | apply IsS109.set_1 | apply IsS109.set_2 | apply IsS109.set_3) | exact HI0.out)); (case side2 => repeat (first | (with_reducible first | exact HB.out | apply below_alloc | apply pw_below_drewN | apply below_drew1 | refine below_set ?_ (IsS109.ge HI0.out)) | exact HB.out)); rintro e w8 ⟨rfl, hi, hb, hk⟩; refine ⟨_, rfl, ?_⟩; have n0_ := Aside0.mk (KeepBut.trans (by repeat (first | (with_reducible first | exact HK.out | apply KeepBut.set_ | apply keep_drewN | apply keep_drew | apply keep_alloc) | exact HK.out)) hk (.inl rfl)); have n1_ := Aside0.mk (hb); have n2_ := Aside0.mk (hi); clear HK; clear HB; clear HI0; have HK := n0_; have HB := n1_; have HI0 := n2_; clear n0_ n1_ n2_; (try clear hb); (try clear hb2); (try clear hk); (try clear hi)) | ((with_reducible refine gate_callee (f := 36) rfl ?_); refine goesL_ (some 13) rfl rfl Tryd.func36 (by kernel_rfl) rfl #[.string t177, .string (⟨#[45]⟩ : ByteArray)] rfl (by (try simp only [List.map_toArray, List.map_cons, List.map_nil]); first | done | rfl | (simp only [List.length_drop, List.length_take]; rfl)) ?_; (with_reducible refine (strings_HasPrefix.calls t177 (⟨#[45]⟩ : ByteArray) true _ A5.out).mono ?_); rintro e w' ⟨rfl, ⟨nd, rfl⟩⟩; refine ⟨_, rfl, ?_⟩; (try (rw [drewN_self w8]; generalize hq_ : World.drewN w8 _ = w8; have n0_ : Aside0 (IsS109 w0 w8 g t178 t179 t180 t181) := ⟨by rw [← hq_]; exact (by repeat (first | (with_reducible first | exact HI0.out | apply IsS109.alloc | apply IsS109.drewN | apply IsS109.drew | apply IsS109.set_0 | apply IsS109.set_1 | apply IsS109.set_2 | apply IsS109.set_3) | exact HI0.out))⟩; have n1_ : Aside0 (KeepBut w w8 g none) := ⟨by rw [← hq_]; exact (by repeat (first | (with_reducible first | exact HK.out | apply KeepBut.set_ | apply keep_drewN | apply keep_drew | apply keep_alloc) | exact HK.out))⟩; have n2_ : Aside0 (Below w0.heap.size w0 w8) := ⟨by rw [← hq_]; exact (by repeat (first | (with_reducible first | exact HB.out | apply below_alloc | apply pw_below_drewN | apply below_drew1 | refine below_set ?_ (IsS109.ge HI0.out)) | exact HB.out))⟩; clear HI0 HK HB hq_; have HI0 := n0_; have HK := n1_; have HB := n2_; clear n0_ n1_ n2_)); obtain ⟨HGz9, hgz9⟩ := HI0.out; have hcz9_0 := cellS109_0 HGz9; have hcz9_1 := cellS109_1 HGz9; have hcz9_2 := cellS109_2 HGz9; have hcz9_3 := cellS109_3 HGz9; have hfz9_0 := blk_frozen HGz9 0; have hfz9_1 := blk_frozen HGz9 1; have hfz9_2 := blk_frozen HGz9 2; have hfz9_3 := blk_frozen HGz9 3; clear HGz9 hgz9))
      go_ret
      exact ⟨_, by first | rfl | (simp [errW_none, errW_some] <;> rfl) | (simp [*, errW_none, errW_some] <;> rfl), by first | exact Kd.R_nil _ _ _ _ _ | exact Kd.N_nil _ _ _ _ _ | exact Kd.V_nil _ _ _ _ _ | exact Kd.Q_nil _ _ _ _ _ | exact Kd.S_nil _ _ _ _ _, by repeat (first | (with_reducible first | exact HI0.out | apply IsS109.alloc | apply IsS109.drewN | apply IsS109.drew | apply IsS109.set_0 | apply IsS109.set_1 | apply IsS109.set_2 | apply IsS109.set_3) | exact HI0.out), by repeat (first | (with_reducible first | exact HB.out | apply below_alloc | apply pw_below_drewN | apply below_drew1 | refine below_set ?_ (IsS109.ge HI0.out)) | exact HB.out), by repeat (first | (with_reducible first | exact HK.out | apply KeepBut.set_ | apply keep_drewN | apply keep_drew | apply keep_alloc) | exact HK.out)⟩
    · replace c6 := Bool.eq_false_iff.mpr c6
      subst c6
      have H1 : (script_line_bytes.l0 k ([] : List Int) t178 t179 t180 t181) = some (r1, r2, r3, r4, r5) := by rw [if_neg (show ¬ (false = true) by decide)] at H; exact H
      clear H
      have H := H1
      clear H1
      have H' := Aside0.mk H
      clear H
      obtain ⟨HGz10, hgz10⟩ := HI0.out
      have hcz10_0 := cellS109_0 HGz10
      have hcz10_1 := cellS109_1 HGz10
      have hcz10_2 := cellS109_2 HGz10
      have hcz10_3 := cellS109_3 HGz10
      have hfz10_0 := blk_frozen HGz10 0
      have hfz10_1 := blk_frozen HGz10 1
      have hfz10_2 := blk_frozen HGz10 2
      have hfz10_3 := blk_frozen HGz10 3
      clear HGz10 hgz10
      go_enter Tryd.func86, Tryd.ntmps86
      go_wp2_with (first | ((with_reducible refine gate_callee (f := 85) rfl ?_); refine goesL_ (some 12) rfl rfl Tryd.func85 (by kernel_rfl) rfl #[.pointer (some ⟨g, 0, none⟩)] rfl (by (try simp only [List.map_toArray, List.map_cons, List.map_nil]); first | done | rfl | (simp only [List.length_drop, List.length_take]; rfl)) ?_; (with_reducible refine (script_line_rest.calls g s0_0 s0_1 s0_2 false t177 t178 t179 t180 t181 w0 _ ?side1 ?side2 A4.out).mono ?_); (case side1 => repeat (first | (with_reducible first | exact HI0.out | apply IsS109.alloc | apply IsS109.drewN | apply IsS109.drew | apply IsS109.set_0 | apply IsS109.set_1 | apply IsS109.set_2 | apply IsS109.set_3) | exact HI0.out)); (case side2 => repeat (first | (with_reducible first | exact HB.out | apply below_alloc | apply pw_below_drewN | apply below_drew1 | refine below_set ?_ (IsS109.ge HI0.out)) | exact HB.out)); rintro e w11 ⟨rfl, hi, hb, hk⟩; refine ⟨_, rfl, ?_⟩; have n0_ := Aside0.mk (KeepBut.trans (by repeat (first | (with_reducible first | exact HK.out | apply KeepBut.set_ | apply keep_drewN | apply keep_drew | apply keep_alloc) | exact HK.out)) hk (.inl rfl)); have n1_ := Aside0.mk (hb); have n2_ := Aside0.mk (hi); clear HK; clear HB; clear HI0; have HK := n0_; have HB := n1_; have HI0 := n2_; clear n0_ n1_ n2_; (try clear hb); (try clear hb2); (try clear hk); (try clear hi)) | ((with_reducible refine gate_callee (f := 36) rfl ?_); refine goesL_ (some 13) rfl rfl Tryd.func36 (by kernel_rfl) rfl #[.string t177, .string (⟨#[45]⟩ : ByteArray)] rfl (by (try simp only [List.map_toArray, List.map_cons, List.map_nil]); first | done | rfl | (simp only [List.length_drop, List.length_take]; rfl)) ?_; (with_reducible refine (strings_HasPrefix.calls t177 (⟨#[45]⟩ : ByteArray) false _ A5.out).mono ?_); rintro e w' ⟨rfl, ⟨nd, rfl⟩⟩; refine ⟨_, rfl, ?_⟩))
      go_loopg [3] k (fun kq v3 w' => ∃ (x3_1 : List Int) (x1000_1 : ByteArray) (x1001_1 : Int) (x1002_1 : Bool) (x1003_1 : Bool), Aside0 (script_line_bytes.l0 kq x3_1 x1000_1 x1001_1 x1002_1 x1003_1 = some (r1, r2, r3, r4, r5)) ∧ Aside0 (kq ≤ k) ∧ Aside0 (Kd.R (Kd.int .u8) 5 w' w.heap.size (fun _ => True) v3 x3_1) ∧ Aside0 (IsS109 w0 w' g x1000_1 x1001_1 x1002_1 x1003_1) ∧ Aside0 (KeepBut w w' g none) ∧ Aside0 (Below w0.heap.size w0 w'))
      case atStart => exact ⟨(([] : List Int)), (t178), (t179), (t180), (t181), H', ⟨Nat.le_refl _⟩, ⟨by first | exact Kd.R_nil _ _ _ _ _ | exact Kd.N_nil _ _ _ _ _ | exact Kd.V_nil _ _ _ _ _ | exact Kd.Q_nil _ _ _ _ _ | exact Kd.S_nil _ _ _ _ _⟩, ⟨by repeat (first | (with_reducible first | exact HI0.out | apply IsS109.alloc | apply IsS109.drewN | apply IsS109.drew | apply IsS109.set_0 | apply IsS109.set_1 | apply IsS109.set_2 | apply IsS109.set_3) | exact HI0.out)⟩, ⟨by repeat (first | (with_reducible first | exact HK.out | apply KeepBut.set_ | apply keep_drewN | apply keep_drew | apply keep_alloc) | exact HK.out)⟩, ⟨by repeat (first | (with_reducible first | exact HB.out | apply below_alloc | apply pw_below_drewN | apply below_drew1 | refine below_set ?_ (IsS109.ge HI0.out)) | exact HB.out)⟩⟩
      case round =>
        clear H'
        try clear c2
        try clear p2
        try clear c3
        try clear c6
        try clear p6
        try clear c8
        try clear hcz10_0
        try clear hcz10_1
        try clear hcz10_2
        try clear hcz10_3
        try clear hcz3_0
        try clear hcz3_1
        try clear hcz3_2
        try clear hcz3_3
        try clear hcz7_0
        try clear hcz7_1
        try clear hcz7_2
        try clear hcz7_3
        try clear hcz9_0
        try clear hcz9_1
        try clear hcz9_2
        try clear hcz9_3
        try clear hfz10_0
        try clear hfz10_1
        try clear hfz10_2
        try clear hfz10_3
        try clear hfz3_0
        try clear hfz3_1
        try clear hfz3_2
        try clear hfz3_3
        try clear hfz7_0
        try clear hfz7_1
        try clear hfz7_2
        try clear hfz7_3
        try clear hfz9_0
        try clear hfz9_1
        try clear hfz9_2
        try clear hfz9_3
        obtain ⟨x3_1, x1000_1, x1001_1, x1002_1, x1003_1, HA, HK1, HO_3, HI0, HK, HB⟩ := hrel
        cases gk with
        | zero => exact absurd HA.out (by simp [script_line_bytes.l0])
        | succ k1 =>
          have H := HA.out
          clear HA
          simp only [script_line_bytes.l0] at H
          replace H := Option.bind_eq_some_iff.mp H
          obtain ⟨⟨t183, t184, t185, t186, t187⟩, A120, H⟩ := H
          replace H : ((script_sign.f k1 t183).bind fun bt188 => (if bt188.2.2 = true then (if x3_1.length < 140737488355328 then (script_line_bytes.l0 k1 (x3_1 ++ [bt188.1]) t184 (wrap64 (t185 + bt188.2.1)) t186 t187) else (none)) else (if bt188.2.1 > 0 then ((script_line_fail.f t184 t185 t186 t187 bt188.2.1).bind fun bt194 => (some (([] : List Int), bt194.1, bt194.2.1, bt194.2.2.1, bt194.2.2.2))) else (if (x3_1.length : Int) = 0 then ((script_line_fail.f t184 t185 t186 t187 bt188.2.1).bind fun bt198 => (some (([] : List Int), bt198.1, bt198.2.1, bt198.2.2.1, bt198.2.2.2))) else (some (x3_1, t184, t185, t186, t187)))))) = some (r1, r2, r3, r4, r5) := H
          have A12 := Aside0.mk A120
          clear A120
          replace H := Option.bind_eq_some_iff.mp H
          obtain ⟨⟨t188, t189, t190⟩, A130, H⟩ := H
          replace H : (if t190 = true then (if x3_1.length < 140737488355328 then (script_line_bytes.l0 k1 (x3_1 ++ [t188]) t184 (wrap64 (t185 + t189)) t186 t187) else (none)) else (if t189 > 0 then ((script_line_fail.f t184 t185 t186 t187 t189).bind fun bt194 => (some (([] : List Int), bt194.1, bt194.2.1, bt194.2.2.1, bt194.2.2.2))) else (if (x3_1.length : Int) = 0 then ((script_line_fail.f t184 t185 t186 t187 t189).bind fun bt198 => (some (([] : List Int), bt198.1, bt198.2.1, bt198.2.2.1, bt198.2.2.2))) else (some (x3_1, t184, t185, t186, t187))))) = some (r1, r2, r3, r4, r5) := H
          have A13 := Aside0.mk A130
          clear A130
          by_cases c14 : t190 = true
          · subst c14
            have H1 : (if x3_1.length < 140737488355328 then (script_line_bytes.l0 k1 (x3_1 ++ [t188]) t184 (wrap64 (t185 + t189)) t186 t187) else (none)) = some (r1, r2, r3, r4, r5) := by rw [if_pos rfl] at H; exact H
            clear H
            have H := H1
            clear H1
            by_cases c15 : x3_1.length < 140737488355328
            · rw [if_pos c15] at H
              have LMc15 := Aside0.mk c15
              clear c15
              obtain ⟨y191, hy191⟩ : ∃ y_ : List Int, y_ = (x3_1 ++ [t188]) := ⟨_, rfl⟩
              replace H : (script_line_bytes.l0 k1 y191 t184 (wrap64 (t185 + t189)) t186 t187) = some (r1, r2, r3, r4, r5) := by first | (rw [hy191]; with_reducible exact H) | (have H2_ := (Option.bind_some _ _).symm.trans H; rw [hy191]; with_reducible exact H2_) | (have H2_ := (Option.bind_some _ _).symm.trans H; with_reducible exact H2_) | with_reducible exact H | (rw [hy191]; exact H) | exact H
              have Ny191 := Aside0.mk hy191
              clear hy191
              have H' := Aside0.mk H
              clear H
              go_wp2_with (first | ((with_reducible refine gate_callee (f := 85) rfl ?_); refine goesL_ (some 23) rfl rfl Tryd.func85 (by kernel_rfl) rfl #[.pointer (some ⟨g, 0, none⟩)] rfl (by (try simp only [List.map_toArray, List.map_cons, List.map_nil]); first | done | rfl | (simp only [List.length_drop, List.length_take]; rfl)) ?_; (with_reducible refine (script_line_rest.calls g x1000_1 x1001_1 x1002_1 x1003_1 t183 t184 t185 t186 t187 w0 _ ?side1 ?side2 A12.out).mono ?_); (case side1 => repeat (first | (with_reducible first | exact HI0.out | apply IsS109.alloc | apply IsS109.drewN | apply IsS109.drew | apply IsS109.set_0 | apply IsS109.set_1 | apply IsS109.set_2 | apply IsS109.set_3) | exact HI0.out)); (case side2 => repeat (first | (with_reducible first | exact HB.out | apply below_alloc | apply pw_below_drewN | apply below_drew1 | refine below_set ?_ (IsS109.ge HI0.out)) | exact HB.out)); rintro e w16 ⟨rfl, hi, hb, hk⟩; refine ⟨_, rfl, ?_⟩; have n0_ := Aside0.mk (Kd.R_mono (Kd.R_keep (IsS109.apart (show IsS109 w0 _ g x1000_1 x1001_1 x1002_1 x1003_1 from by repeat (first | (with_reducible first | exact HI0.out | apply IsS109.alloc | apply IsS109.drewN | apply IsS109.drew | apply IsS109.set_0 | apply IsS109.set_1 | apply IsS109.set_2 | apply IsS109.set_3) | exact HI0.out)) (by (with_reducible repeat (first | apply Kd.R_alloc | apply Kd.R_drewN | apply Kd.R_drew)); exact HO_3.out) (by decide)) hk (fun _ h => h.2)) (fun _ h => h.1)); have n1_ := Aside0.mk (KeepBut.trans (by repeat (first | (with_reducible first | exact HK.out | apply KeepBut.set_ | apply keep_drewN | apply keep_drew | apply keep_alloc) | exact HK.out)) hk (.inl rfl)); have n2_ := Aside0.mk (hb); have n3_ := Aside0.mk (hi); clear HO_3; clear HK; clear HB; clear HI0; have HO_3 := n0_; have HK := n1_; have HB := n2_; have HI0 := n3_; clear n0_ n1_ n2_ n3_; (try clear hb); (try clear hb2); (try clear hk); (try clear hi)) | ((with_reducible refine gate_callee (f := 97) rfl ?_); refine goesL_ (some 24) rfl rfl Tryd.func97 (by kernel_rfl) rfl #[.string t183] rfl (by (try simp only [List.map_toArray, List.map_cons, List.map_nil]); first | done | rfl | (simp only [List.length_drop, List.length_take]; rfl)) ?_; (with_reducible refine (script_sign.calls k1 t183 t188 t189 true _ A13.out).mono ?_); rintro e w' ⟨rfl, ⟨nd, rfl⟩⟩; refine ⟨_, rfl, ?_⟩; (try (rw [drewN_self w16]; generalize hq_ : World.drewN w16 _ = w16; have n0_ : Aside0 (Kd.R (Kd.int .u8) 5 w16 w.heap.size (fun _ => True) u3 x3_1) := ⟨by rw [← hq_]; exact (by (with_reducible repeat (first | apply Kd.R_alloc | apply Kd.R_drewN | apply Kd.R_drew)); exact HO_3.out)⟩; have n1_ : Aside0 (IsS109 w0 w16 g t184 t185 t186 t187) := ⟨by rw [← hq_]; exact (by repeat (first | (with_reducible first | exact HI0.out | apply IsS109.alloc | apply IsS109.drewN | apply IsS109.drew | apply IsS109.set_0 | apply IsS109.set_1 | apply IsS109.set_2 | apply IsS109.set_3) | exact HI0.out))⟩; have n2_ : Aside0 (KeepBut w w16 g none) := ⟨by rw [← hq_]; exact (by repeat (first | (with_reducible first | exact HK.out | apply KeepBut.set_ | apply keep_drewN | apply keep_drew | apply keep_alloc) | exact HK.out))⟩; have n3_ : Aside0 (Below w0.heap.size w0 w16) := ⟨by rw [← hq_]; exact (by repeat (first | (with_reducible first | exact HB.out | apply below_alloc | apply pw_below_drewN | apply below_drew1 | refine below_set ?_ (IsS109.ge HI0.out)) | exact HB.out))⟩; clear HO_3 HI0 HK HB hq_; have HO_3 := n0_; have HI0 := n1_; have HK := n2_; have HB := n3_; clear n0_ n1_ n2_ n3_)); obtain ⟨HGz17, hgz17⟩ := HI0.out; have hcz17_0 := cellS109_0 HGz17; have hcz17_1 := cellS109_1 HGz17; have hcz17_2 := cellS109_2 HGz17; have hcz17_3 := cellS109_3 HGz17; have hfz17_0 := blk_frozen HGz17 0; have hfz17_1 := blk_frozen HGz17 1; have hfz17_2 := blk_frozen HGz17 2; have hfz17_3 := blk_frozen HGz17 3; clear HGz17 hgz17) | ((with_reducible refine gate_builtin (b := .append) (xs := #[.tmp 39, .tmp 41]) rfl ?_); (try (refine gate_guard (by rfl) ?_; dsimp only)); at_builtin; refine Kd.R_append (Kd.int .u8) w.heap.size rfl (.tmp 39) (.tmp 41) 46 5 (.int .u8 0) 1 rfl Tryd.underlying46 info5 rfl (by decide) (by omega) u3 x3_1 t188 [.int .u8 t188] (fun _ => True) (fun _ => False) rfl (by first | (go_simp; done) | (go_simp; rfl)) ?aP (fun _ hk => hk.elim) ?aF ?aO (Below.refl _ _) ?aS ?aL ?_; (case aP => exact rfl); (case aF => exact (fun _ _ => trivial)); (case aO => exact (by (with_reducible repeat (first | apply Kd.R_alloc | apply Kd.R_drewN | apply Kd.R_drew)); exact Kd.R_mono (Kd.R_far (p := ⟨g, 1, none⟩) (IsS109.apart HI0.out HO_3.out (by decide)) (fun _ hk => hk.2) (.int .i64 (wrap64 (t185 + t189)))) (fun _ hk => trivial))); (case aS => exact (keep_size (w := w) (g := g) (row := none) (by repeat (first | (with_reducible first | exact HK.out | apply KeepBut.set_ | apply keep_drewN | apply keep_drew | apply keep_alloc) | exact HK.out)))); (case aL => have := LMc15.out; omega); intro v192 w18 ho hb hg hat; rw [← Ny191.out] at ho; have n0_ := Aside0.mk (IsS109.grown (by repeat (first | (with_reducible first | exact HI0.out | apply IsS109.alloc | apply IsS109.drewN | apply IsS109.drew | apply IsS109.set_0 | apply IsS109.set_1 | apply IsS109.set_2 | apply IsS109.set_3) | exact HI0.out)) hg (IsS109.own_ne HI0.out HO_3.out (by decide))); have n1_ := Aside0.mk (below_weaken (by repeat (first | (with_reducible first | exact HB.out | apply below_alloc | apply pw_below_drewN | apply below_drew1 | refine below_set ?_ (IsS109.ge HI0.out)) | exact HB.out)) HL.out hb); have n2_ := Aside0.mk (KeepBut.trans (by repeat (first | (with_reducible first | exact HK.out | apply KeepBut.set_ | apply keep_drewN | apply keep_drew | apply keep_alloc) | exact HK.out)) (KeepBut.of_grown hg g) (Kd.R_base2 HO_3.out)); have n3_ := Aside0.mk (ho); clear HI0; clear HB; clear HK; clear HO_3; have HI0 := n0_; have HB := n1_; have HK := n2_; have HO193 := n3_; clear n0_ n1_ n2_ n3_; clear ho hb hg hat))
              go_roundg k1
              case measure => have := HK1.out; omega
              case rel => exact ⟨(y191), (t184), (wrap64 (t185 + t189)), (t186), (t187), H', ⟨by have := HK1.out; omega⟩, ⟨by (with_reducible repeat (first | apply Kd.R_alloc | apply Kd.R_drewN | apply Kd.R_drew)); exact HO193.out⟩, ⟨by repeat (first | (with_reducible first | exact HI0.out | apply IsS109.alloc | apply IsS109.drewN | apply IsS109.drew | apply IsS109.set_0 | apply IsS109.set_1 | apply IsS109.set_2 | apply IsS109.set_3) | exact HI0.out)⟩, ⟨by repeat (first | (with_reducible first | exact HK.out | apply KeepBut.set_ | apply keep_drewN | apply keep_drew | apply keep_alloc) | exact HK.out)⟩, ⟨by repeat (first | (with_reducible first | exact HB.out | apply below_alloc | apply pw_below_drewN | apply below_drew1 | refine below_set ?_ (IsS109.ge HI0.out)) | exact HB.out)⟩⟩
            · rw [if_neg c15] at H
              exact absurd H (by simp)
          · replace c14 := Bool.eq_false_iff.mpr c14
            subst c14
            have H1 : (if t189 > 0 then ((script_line_fail.f t184 t185 t186 t187 t189).bind fun bt194 => (some (([] : List Int), bt194.1, bt194.2.1, bt194.2.2.1, bt194.2.2.2))) else (if (x3_1.length : Int) = 0 then ((script_line_fail.f t184 t185 t186 t187 t189).bind fun bt198 => (some (([] : List Int), bt198.1, bt198.2.1, bt198.2.2.1, bt198.2.2.2))) else (some (x3_1, t184, t185, t186, t187)))) = some (r1, r2, r3, r4, r5) := by rw [if_neg (show ¬ (false = true) by decide)] at H; exact H
            clear H
            have H := H1
            clear H1
            by_cases c19 : t189 > 0
            · rw [if_pos c19] at H
              have c19b0 : decide (0 < t189) = true := decide_eq_true c19
              clear c19
              replace H := Option.bind_eq_some_iff.mp H
              obtain ⟨⟨t194, t195, t196, t197⟩, A200, H⟩ := H
              replace H : (some (([] : List Int), t194, t195, t196, t197)) = some (r1, r2, r3, r4, r5) := H
              have A20 := Aside0.mk A200
              clear A200
              simp only [Option.some.injEq, Prod.mk.injEq] at H
              obtain ⟨rfl, rfl, rfl, rfl, rfl⟩ := H
              go_wp2_with (first | ((with_reducible refine gate_callee (f := 85) rfl ?_); refine goesL_ (some 23) rfl rfl Tryd.func85 (by kernel_rfl) rfl #[.pointer (some ⟨g, 0, none⟩)] rfl (by (try simp only [List.map_toArray, List.map_cons, List.map_nil]); first | done | rfl | (simp only [List.length_drop, List.length_take]; rfl)) ?_; (with_reducible refine (script_line_rest.calls g x1000_1 x1001_1 x1002_1 x1003_1 t183 t184 t185 t186 t187 w0 _ ?side1 ?side2 A12.out).mono ?_); (case side1 => repeat (first | (with_reducible first | exact HI0.out | apply IsS109.alloc | apply IsS109.drewN | apply IsS109.drew | apply IsS109.set_0 | apply IsS109.set_1 | apply IsS109.set_2 | apply IsS109.set_3) | exact HI0.out)); (case side2 => repeat (first | (with_reducible first | exact HB.out | apply below_alloc | apply pw_below_drewN | apply below_drew1 | refine below_set ?_ (IsS109.ge HI0.out)) | exact HB.out)); rintro e w21 ⟨rfl, hi, hb, hk⟩; refine ⟨_, rfl, ?_⟩; have n0_ := Aside0.mk (Kd.R_mono (Kd.R_keep (IsS109.apart (show IsS109 w0 _ g x1000_1 x1001_1 x1002_1 x1003_1 from by repeat (first | (with_reducible first | exact HI0.out | apply IsS109.alloc | apply IsS109.drewN | apply IsS109.drew | apply IsS109.set_0 | apply IsS109.set_1 | apply IsS109.set_2 | apply IsS109.set_3) | exact HI0.out)) (by (with_reducible repeat (first | apply Kd.R_alloc | apply Kd.R_drewN | apply Kd.R_drew)); exact HO_3.out) (by decide)) hk (fun _ h => h.2)) (fun _ h => h.1)); have n1_ := Aside0.mk (KeepBut.trans (by repeat (first | (with_reducible first | exact HK.out | apply KeepBut.set_ | apply keep_drewN | apply keep_drew | apply keep_alloc) | exact HK.out)) hk (.inl rfl)); have n2_ := Aside0.mk (hb); have n3_ := Aside0.mk (hi); clear HO_3; clear HK; clear HB; clear HI0; have HO_3 := n0_; have HK := n1_; have HB := n2_; have HI0 := n3_; clear n0_ n1_ n2_ n3_; (try clear hb); (try clear hb2); (try clear hk); (try clear hi)) | ((with_reducible refine gate_callee (f := 97) rfl ?_); refine goesL_ (some 24) rfl rfl Tryd.func97 (by kernel_rfl) rfl #[.string t183] rfl (by (try simp only [List.map_toArray, List.map_cons, List.map_nil]); first | done | rfl | (simp only [List.length_drop, List.length_take]; rfl)) ?_; (with_reducible refine (script_sign.calls k1 t183 t188 t189 false _ A13.out).mono ?_); rintro e w' ⟨rfl, ⟨nd, rfl⟩⟩; refine ⟨_, rfl, ?_⟩) | ((with_reducible refine gate_callee (f := 59) rfl ?_); refine goesL_ (some 53) rfl rfl Tryd.func59 (by kernel_rfl) rfl #[.pointer (some ⟨g, 0, none⟩), .int .i64 t189] rfl (by (try simp only [List.map_toArray, List.map_cons, List.map_nil]); first | done | rfl | (simp only [List.length_drop, List.length_take]; rfl)) ?_; (with_reducible refine (script_line_fail.calls g t184 t185 t186 t187 t189 t194 t195 t196 t197 w0 _ ?side1 ?side2 A20.out).mono ?_); (case side1 => repeat (first | (with_reducible first | exact HI0.out | apply IsS109.alloc | apply IsS109.drewN | apply IsS109.drew | apply IsS109.set_0 | apply IsS109.set_1 | apply IsS109.set_2 | apply IsS109.set_3) | exact HI0.out)); (case side2 => repeat (first | (with_reducible first | exact HB.out | apply below_alloc | apply pw_below_drewN | apply below_drew1 | refine below_set ?_ (IsS109.ge HI0.out)) | exact HB.out)); rintro e w22 ⟨rfl, hi, hb, hk⟩; refine ⟨_, rfl, ?_⟩; have n0_ := Aside0.mk (Kd.R_mono (Kd.R_keep (IsS109.apart (show IsS109 w0 _ g t184 t185 t186 t187 from by repeat (first | (with_reducible first | exact HI0.out | apply IsS109.alloc | apply IsS109.drewN | apply IsS109.drew | apply IsS109.set_0 | apply IsS109.set_1 | apply IsS109.set_2 | apply IsS109.set_3) | exact HI0.out)) (by (with_reducible repeat (first | apply Kd.R_alloc | apply Kd.R_drewN | apply Kd.R_drew)); exact HO_3.out) (by decide)) hk (fun _ h => h.2)) (fun _ h => h.1)); have n1_ := Aside0.mk (KeepBut.trans (by repeat (first | (with_reducible first | exact HK.out | apply KeepBut.set_ | apply keep_drewN | apply keep_drew | apply keep_alloc) | exact HK.out)) hk (.inl rfl)); have n2_ := Aside0.mk (hb); have n3_ := Aside0.mk (hi); clear HO_3; clear HK; clear HB; clear HI0; have HO_3 := n0_; have HK := n1_; have HB := n2_; have HI0 := n3_; clear n0_ n1_ n2_ n3_; (try clear hb); (try clear hb2); (try clear hk); (try clear hi)))
              go_ret
              exact ⟨_, by first | rfl | (simp [errW_none, errW_some] <;> rfl) | (simp [*, errW_none, errW_some] <;> rfl), by first | exact Kd.R_nil _ _ _ _ _ | exact Kd.N_nil _ _ _ _ _ | exact Kd.V_nil _ _ _ _ _ | exact Kd.Q_nil _ _ _ _ _ | exact Kd.S_nil _ _ _ _ _, by repeat (first | (with_reducible first | exact HI0.out | apply IsS109.alloc | apply IsS109.drewN | apply IsS109.drew | apply IsS109.set_0 | apply IsS109.set_1 | apply IsS109.set_2 | apply IsS109.set_3) | exact HI0.out), by repeat (first | (with_reducible first | exact HB.out | apply below_alloc | apply pw_below_drewN | apply below_drew1 | refine below_set ?_ (IsS109.ge HI0.out)) | exact HB.out), by repeat (first | (with_reducible first | exact HK.out | apply KeepBut.set_ | apply keep_drewN | apply keep_drew | apply keep_alloc) | exact HK.out)⟩
            · rw [if_neg c19] at H
              have c19b0 : decide (0 < t189) = false := decide_eq_false c19
              clear c19
              by_cases c23 : (x3_1.length : Int) = 0
              · rw [if_pos c23] at H
                have c23b0 : ((x3_1.length : Int) == 0) = true := beq_iff_eq.mpr c23
                have c23b1 : ((x3_1.length : Int) != 0) = false := bne_eq_false_iff_eq.mpr c23
                clear c23
                replace H := Option.bind_eq_some_iff.mp H
                obtain ⟨⟨t198, t199, t200, t201⟩, A240, H⟩ := H
                replace H : (some (([] : List Int), t198, t199, t200, t201)) = some (r1, r2, r3, r4, r5) := H
                have A24 := Aside0.mk A240
                clear A240
                simp only [Option.some.injEq, Prod.mk.injEq] at H
                obtain ⟨rfl, rfl, rfl, rfl, rfl⟩ := H
                go_wp2_with (first | ((with_reducible refine gate_callee (f := 85) rfl ?_); refine goesL_ (some 23) rfl rfl Tryd.func85 (by kernel_rfl) rfl #[.pointer (some ⟨g, 0, none⟩)] rfl (by (try simp only [List.map_toArray, List.map_cons, List.map_nil]); first | done | rfl | (simp only [List.length_drop, List.length_take]; rfl)) ?_; (with_reducible refine (script_line_rest.calls g x1000_1 x1001_1 x1002_1 x1003_1 t183 t184 t185 t186 t187 w0 _ ?side1 ?side2 A12.out).mono ?_); (case side1 => repeat (first | (with_reducible first | exact HI0.out | apply IsS109.alloc | apply IsS109.drewN | apply IsS109.drew | apply IsS109.set_0 | apply IsS109.set_1 | apply IsS109.set_2 | apply IsS109.set_3) | exact HI0.out)); (case side2 => repeat (first | (with_reducible first | exact HB.out | apply below_alloc | apply pw_below_drewN | apply below_drew1 | refine below_set ?_ (IsS109.ge HI0.out)) | exact HB.out)); rintro e w25 ⟨rfl, hi, hb, hk⟩; refine ⟨_, rfl, ?_⟩; have n0_ := Aside0.mk (Kd.R_mono (Kd.R_keep (IsS109.apart (show IsS109 w0 _ g x1000_1 x1001_1 x1002_1 x1003_1 from by repeat (first | (with_reducible first | exact HI0.out | apply IsS109.alloc | apply IsS109.drewN | apply IsS109.drew | apply IsS109.set_0 | apply IsS109.set_1 | apply IsS109.set_2 | apply IsS109.set_3) | exact HI0.out)) (by (with_reducible repeat (first | apply Kd.R_alloc | apply Kd.R_drewN | apply Kd.R_drew)); exact HO_3.out) (by decide)) hk (fun _ h => h.2)) (fun _ h => h.1)); have n1_ := Aside0.mk (KeepBut.trans (by repeat (first | (with_reducible first | exact HK.out | apply KeepBut.set_ | apply keep_drewN | apply keep_drew | apply keep_alloc) | exact HK.out)) hk (.inl rfl)); have n2_ := Aside0.mk (hb); have n3_ := Aside0.mk (hi); clear HO_3; clear HK; clear HB; clear HI0; have HO_3 := n0_; have HK := n1_; have HB := n2_; have HI0 := n3_; clear n0_ n1_ n2_ n3_; (try clear hb); (try clear hb2); (try clear hk); (try clear hi)) | ((with_reducible refine gate_callee (f := 97) rfl ?_); refine goesL_ (some 24) rfl rfl Tryd.func97 (by kernel_rfl) rfl #[.string t183] rfl (by (try simp only [List.map_toArray, List.map_cons, List.map_nil]); first | done | rfl | (simp only [List.length_drop, List.length_take]; rfl)) ?_; (with_reducible refine (script_sign.calls k1 t183 t188 t189 false _ A13.out).mono ?_); rintro e w' ⟨rfl, ⟨nd, rfl⟩⟩; refine ⟨_, rfl, ?_⟩; obtain ⟨Ao26, co26, eo26⟩ := Kd.R_slice HO_3.out; subst eo26) | ((with_reducible refine gate_callee (f := 59) rfl ?_); refine goesL_ (some 53) rfl rfl Tryd.func59 (by kernel_rfl) rfl #[.pointer (some ⟨g, 0, none⟩), .int .i64 t189] rfl (by (try simp only [List.map_toArray, List.map_cons, List.map_nil]); first | done | rfl | (simp only [List.length_drop, List.length_take]; rfl)) ?_; (with_reducible refine (script_line_fail.calls g t184 t185 t186 t187 t189 t198 t199 t200 t201 w0 _ ?side1 ?side2 A24.out).mono ?_); (case side1 => repeat (first | (with_reducible first | exact HI0.out | apply IsS109.alloc | apply IsS109.drewN | apply IsS109.drew | apply IsS109.set_0 | apply IsS109.set_1 | apply IsS109.set_2 | apply IsS109.set_3) | exact HI0.out)); (case side2 => repeat (first | (with_reducible first | exact HB.out | apply below_alloc | apply pw_below_drewN | apply below_drew1 | refine below_set ?_ (IsS109.ge HI0.out)) | exact HB.out)); rintro e w27 ⟨rfl, hi, hb, hk⟩; refine ⟨_, rfl, ?_⟩; have n0_ := Aside0.mk (Kd.R_mono (Kd.R_keep (IsS109.apart (show IsS109 w0 _ g t184 t185 t186 t187 from by repeat (first | (with_reducible first | exact HI0.out | apply IsS109.alloc | apply IsS109.drewN | apply IsS109.drew | apply IsS109.set_0 | apply IsS109.set_1 | apply IsS109.set_2 | apply IsS109.set_3) | exact HI0.out)) (by (with_reducible repeat (first | apply Kd.R_alloc | apply Kd.R_drewN | apply Kd.R_drew)); exact HO_3.out) (by decide)) hk (fun _ h => h.2)) (fun _ h => h.1)); have n1_ := Aside0.mk (KeepBut.trans (by repeat (first | (with_reducible first | exact HK.out | apply KeepBut.set_ | apply keep_drewN | apply keep_drew | apply keep_alloc) | exact HK.out)) hk (.inl rfl)); have n2_ := Aside0.mk (hb); have n3_ := Aside0.mk (hi); clear HO_3; clear HK; clear HB; clear HI0; have HO_3 := n0_; have HK := n1_; have HB := n2_; have HI0 := n3_; clear n0_ n1_ n2_ n3_; (try clear hb); (try clear hb2); (try clear hk); (try clear hi)))
                go_ret
                exact ⟨_, by first | rfl | (simp [errW_none, errW_some] <;> rfl) | (simp [*, errW_none, errW_some] <;> rfl), by first | exact Kd.R_nil _ _ _ _ _ | exact Kd.N_nil _ _ _ _ _ | exact Kd.V_nil _ _ _ _ _ | exact Kd.Q_nil _ _ _ _ _ | exact Kd.S_nil _ _ _ _ _, by repeat (first | (with_reducible first | exact HI0.out | apply IsS109.alloc | apply IsS109.drewN | apply IsS109.drew | apply IsS109.set_0 | apply IsS109.set_1 | apply IsS109.set_2 | apply IsS109.set_3) | exact HI0.out), by repeat (first | (with_reducible first | exact HB.out | apply below_alloc | apply pw_below_drewN | apply below_drew1 | refine below_set ?_ (IsS109.ge HI0.out)) | exact HB.out), by repeat (first | (with_reducible first | exact HK.out | apply KeepBut.set_ | apply keep_drewN | apply keep_drew | apply keep_alloc) | exact HK.out)⟩
              · rw [if_neg c23] at H
                have c23b0 : ((x3_1.length : Int) == 0) = false := beq_eq_false_iff_ne.mpr c23
                have c23b1 : ((x3_1.length : Int) != 0) = true := bne_iff_ne.mpr c23
                have c23b2 : ¬ (x3_1 = []) := fun h_ => c23 (by rw [h_]; rfl)
                simp only [Option.some.injEq, Prod.mk.injEq] at H
                obtain ⟨rfl, rfl, rfl, rfl, rfl⟩ := H
                go_wp2_with (first | ((with_reducible refine gate_callee (f := 85) rfl ?_); refine goesL_ (some 23) rfl rfl Tryd.func85 (by kernel_rfl) rfl #[.pointer (some ⟨g, 0, none⟩)] rfl (by (try simp only [List.map_toArray, List.map_cons, List.map_nil]); first | done | rfl | (simp only [List.length_drop, List.length_take]; rfl)) ?_; (with_reducible refine (script_line_rest.calls g x1000_1 x1001_1 x1002_1 x1003_1 t183 t184 t185 t186 t187 w0 _ ?side1 ?side2 A12.out).mono ?_); (case side1 => repeat (first | (with_reducible first | exact HI0.out | apply IsS109.alloc | apply IsS109.drewN | apply IsS109.drew | apply IsS109.set_0 | apply IsS109.set_1 | apply IsS109.set_2 | apply IsS109.set_3) | exact HI0.out)); (case side2 => repeat (first | (with_reducible first | exact HB.out | apply below_alloc | apply pw_below_drewN | apply below_drew1 | refine below_set ?_ (IsS109.ge HI0.out)) | exact HB.out)); rintro e w28 ⟨rfl, hi, hb, hk⟩; refine ⟨_, rfl, ?_⟩; have n0_ := Aside0.mk (Kd.R_mono (Kd.R_keep (IsS109.apart (show IsS109 w0 _ g x1000_1 x1001_1 x1002_1 x1003_1 from by repeat (first | (with_reducible first | exact HI0.out | apply IsS109.alloc | apply IsS109.drewN | apply IsS109.drew | apply IsS109.set_0 | apply IsS109.set_1 | apply IsS109.set_2 | apply IsS109.set_3) | exact HI0.out)) (by (with_reducible repeat (first | apply Kd.R_alloc | apply Kd.R_drewN | apply Kd.R_drew)); exact HO_3.out) (by decide)) hk (fun _ h => h.2)) (fun _ h => h.1)); have n1_ := Aside0.mk (KeepBut.trans (by repeat (first | (with_reducible first | exact HK.out | apply KeepBut.set_ | apply keep_drewN | apply keep_drew | apply keep_alloc) | exact HK.out)) hk (.inl rfl)); have n2_ := Aside0.mk (hb); have n3_ := Aside0.mk (hi); clear HO_3; clear HK; clear HB; clear HI0; have HO_3 := n0_; have HK := n1_; have HB := n2_; have HI0 := n3_; clear n0_ n1_ n2_ n3_; (try clear hb); (try clear hb2); (try clear hk); (try clear hi)) | ((with_reducible refine gate_callee (f := 97) rfl ?_); refine goesL_ (some 24) rfl rfl Tryd.func97 (by kernel_rfl) rfl #[.string t183] rfl (by (try simp only [List.map_toArray, List.map_cons, List.map_nil]); first | done | rfl | (simp only [List.length_drop, List.length_take]; rfl)) ?_; (with_reducible refine (script_sign.calls k1 t183 t188 t189 false _ A13.out).mono ?_); rintro e w' ⟨rfl, ⟨nd, rfl⟩⟩; refine ⟨_, rfl, ?_⟩; obtain ⟨Ao29, co29, eo29⟩ := Kd.R_slice HO_3.out; subst eo29))
                go_ret
                exact ⟨_, by first | rfl | (simp [errW_none, errW_some] <;> rfl) | (simp [*, errW_none, errW_some] <;> rfl), by (with_reducible repeat (first | apply Kd.R_alloc | apply Kd.R_drewN | apply Kd.R_drew)); exact HO_3.out, by repeat (first | (with_reducible first | exact HI0.out | apply IsS109.alloc | apply IsS109.drewN | apply IsS109.drew | apply IsS109.set_0 | apply IsS109.set_1 | apply IsS109.set_2 | apply IsS109.set_3) | exact HI0.out), by repeat (first | (with_reducible first | exact HB.out | apply below_alloc | apply pw_below_drewN | apply below_drew1 | refine below_set ?_ (IsS109.ge HI0.out)) | exact HB.out), by repeat (first | (with_reducible first | exact HK.out | apply KeepBut.set_ | apply keep_drewN | apply keep_drew | apply keep_alloc) | exact HK.out)⟩

def names_Hash.l0 : Nat → Int → List Int → Int → Int → Option (Int)
  | 0, _, _, _, _ => none
  | k + 1, x3, x6, x7, x8 => if x8 < x7 then (if 0 ≤ x8 then (if x8 < (x6.length : Int) then (names_Hash.l0 k (((Go.bits .xor .u32 x3 ((rd x6 x8) % 4294967296)) * 16777619) % 4294967296) x6 x7 (wrap64 (x8 + 1))) else (none)) else (none)) else (some (Go.bits .xor .u32 x3 (x3 / 65536)))
def names_Hash.f (k : Nat) (l0 : List Int) : Option (Int) := names_Hash.l0 k 2166136261 l0 (l0.length : Int) 0
theorem names_Hash.mono_l : ∀ k, (∀ y0 y1 y2 y3, LeO (names_Hash.l0 k y0 y1 y2 y3) (names_Hash.l0 (k + 1) y0 y1 y2 y3))
  | 0 => fun _ _ _ _ r h => by simp [names_Hash.l0] at h
  | k + 1 => by
    have ih0 := names_Hash.mono_l k
    · intro y0 y1 y2 y3
      unfold names_Hash.l0
      repeat' first
      | (with_reducible exact ih0 _ _ _ _)
      | (with_reducible exact LeO.refl _)
      | (with_reducible exact LeO.none _)
      | (with_reducible refine LeO.ite ?_ ?_)
      | (with_reducible refine LeO.bind ?_ (fun _ => ?_))
      | exact ih0 _ _ _ _
      | exact LeO.none _
      | refine LeO.ite ?_ ?_
      | refine LeO.bind ?_ (fun _ => ?_)
theorem names_Hash.mono : ∀ a0 k, LeO (names_Hash.f k a0) (names_Hash.f (k + 1) a0) := by
  intro a0 k
  have ih0 := names_Hash.mono_l k
  unfold names_Hash.f
  repeat' first
      | (with_reducible exact ih0 _ _ _ _)
      | (with_reducible exact LeO.refl _)
      | (with_reducible exact LeO.none _)
      | (with_reducible refine LeO.ite ?_ ?_)
      | (with_reducible refine LeO.bind ?_ (fun _ => ?_))
      | exact ih0 _ _ _ _
      | exact LeO.none _
      | refine LeO.ite ?_ ?_
      | refine LeO.bind ?_ (fun _ => ?_)
set_option maxHeartbeats 8000000 in
set_option maxRecDepth 100000 in
theorem names_Hash.calls (k : Nat) (A0 : Option Addr) (c0 : Nat) (l0 : List Int) (r : Int) (w : World) (hr0 : Kd.C (Kd.int .u8) w A0 l0.length l0) (hc0 : l0.length ≤ c0) (h : names_Hash.f k l0 = some r) :
    Calls Tryd.prog 43 #[.slice A0 l0.length c0] w fun e w' => e = .returned (.int .u32 r) ∧ Drawn0 w w' := by
  have HR0 := Aside0.mk hr0
  have HC0 := Aside0.mk hc0
  clear hr0 hc0
  have H : (names_Hash.l0 k 2166136261 l0 (l0.length : Int) 0) = some r := h
  clear h
  have H' := Aside0.mk H
  clear H
  go_enter Tryd.func43, Tryd.ntmps43
  go_wp2
  go_loopg [3, 8] k (fun kq v3 v8 w' => ∃ (x3_1 : Int) (x8_1 : Int), v3 = .int .u32 x3_1 ∧ v8 = .int .i64 x8_1 ∧ Aside0 (names_Hash.l0 kq x3_1 l0 (l0.length : Int) x8_1 = some r) ∧ Aside0 (kq ≤ k) ∧ Drawn0 w w')
  case atStart => exact ⟨(2166136261), (0), (by first | rfl | (simp; done) | (simp [*]; done)), (by first | rfl | (simp; done) | (simp [*]; done)), H', ⟨Nat.le_refl _⟩, by repeat (first | exact Drawn0.refl _ | apply Drawn0.step)⟩
  case round =>
    clear H'
    obtain ⟨x3_1, x8_1, rfl, rfl, HA, HK1, ⟨m1, rfl⟩⟩ := hrel
    cases gk with
    | zero => exact absurd HA.out (by simp [names_Hash.l0])
    | succ k1 =>
      have H := HA.out
      clear HA
      simp only [names_Hash.l0] at H
      by_cases c2 : x8_1 < (l0.length : Int)
      · rw [if_pos c2] at H
        have c2b0 : decide (x8_1 < (l0.length : Int)) = true := decide_eq_true c2
        clear c2
        by_cases c3 : 0 ≤ x8_1
        · rw [if_pos c3] at H
          have c3b0 : decide (0 ≤ x8_1) = true := decide_eq_true c3
          clear c3
          by_cases c4 : x8_1 < (l0.length : Int)
          · rw [if_pos c4] at H
            have c4b0 : decide (x8_1 < (l0.length : Int)) = true := decide_eq_true c4
            clear c4
            have H' := Aside0.mk H
            clear H
            have p207 : 0 ≤ (x8_1 : Int) := of_decide_eq_true (by first | (with_reducible assumption) | assumption)
            have q207 : x8_1 < (l0.length : Int) := of_decide_eq_true (by first | (with_reducible assumption) | assumption)
            obtain ⟨ad207, e207, hx207_0⟩ := Kd.at_int HR0.out x8_1 p207 q207
            cases e207
            replace p207 := eq_true p207
            replace q207 := eq_true q207
            go_wp2
            go_roundg k1
            case measure => have := HK1.out; omega
            case rel => exact ⟨(((Go.bits .xor .u32 x3_1 ((rd l0 x8_1) % 4294967296)) * 16777619) % 4294967296), (wrap64 (x8_1 + 1)), (by first | rfl | (simp; done) | (simp [*]; done)), (by first | rfl | (simp; done) | (simp [*]; done)), H', ⟨by have := HK1.out; omega⟩, by repeat (first | exact Drawn0.refl _ | apply Drawn0.step)⟩
          · rw [if_neg c4] at H
            exact absurd H (by simp)
        · rw [if_neg c3] at H
          exact absurd H (by simp)
      · rw [if_neg c2] at H
        have c2b0 : decide (x8_1 < (l0.length : Int)) = false := decide_eq_false c2
        clear c2
        obtain rfl := Option.some.inj H
        go_wp2
        go_ret
        exact ⟨by first | rfl | (simp; done) | (simp [*]; done), by repeat (first | exact Drawn0.refl _ | apply Drawn0.step)⟩

def sluicelaw18_same.f (a0_0 : Int) (a0_1 : Int) (a0_2 : Int) (a0_3 : Int) (a0_4 : Int) (a0_5 : ByteArray) (a0_6 : Int) (a0_7 : Int) (a0_8 : Int) (a0_9 : Int) (l0_10 : List Int) (a1_0 : Int) (a1_1 : Int) (a1_2 : Int) (a1_3 : Int) (a1_4 : Int) (a1_5 : ByteArray) (a1_6 : Int) (a1_7 : Int) (a1_8 : Int) (a1_9 : Int) (l1_10 : List Int) : Option (Bool) := if a0_0 = a1_0 then (if a0_1 = a1_1 then (if (a0_2 == a1_2 && (a0_3 == a1_3)) = true then (if (a0_4 == a1_4 && (a0_5.toList == a1_5.toList && (a0_6 == a1_6 && (a0_7 == a1_7)))) = true then (if a0_8 = a1_8 then (if a0_9 = a1_9 then (some ((strOfNums l0_10).toList == (strOfNums l1_10).toList)) else (some false)) else (some false)) else (some false)) else (some false)) else (some false)) else (some false)
set_option maxHeartbeats 8000000 in
set_option maxRecDepth 100000 in
theorem sluicelaw18_same.calls (a0_0 : Int) (a0_1 : Int) (a0_2 : Int) (a0_3 : Int) (a0_4 : Int) (a0_5 : ByteArray) (a0_6 : Int) (a0_7 : Int) (a0_8 : Int) (a0_9 : Int) (A0_10 : Option Addr) (c0_10 : Nat) (l0_10 : List Int) (a1_0 : Int) (a1_1 : Int) (a1_2 : Int) (a1_3 : Int) (a1_4 : Int) (a1_5 : ByteArray) (a1_6 : Int) (a1_7 : Int) (a1_8 : Int) (a1_9 : Int) (A1_10 : Option Addr) (c1_10 : Nat) (l1_10 : List Int) (r : Bool) (w : World) (hr0_10 : Kd.C (Kd.int .u8) w A0_10 l0_10.length l0_10) (hc0_10 : l0_10.length ≤ c0_10) (hr1_10 : Kd.C (Kd.int .u8) w A1_10 l1_10.length l1_10) (hc1_10 : l1_10.length ≤ c1_10) (h : sluicelaw18_same.f a0_0 a0_1 a0_2 a0_3 a0_4 a0_5 a0_6 a0_7 a0_8 a0_9 l0_10 a1_0 a1_1 a1_2 a1_3 a1_4 a1_5 a1_6 a1_7 a1_8 a1_9 l1_10 = some r) :
    Calls Tryd.prog 40 #[.agg #[.int .i64 a0_0, .int .i64 a0_1, .int .i64 a0_2, .int .i64 a0_3, .int .i64 a0_4, .string a0_5, .int .i64 a0_6, .int .i64 a0_7, .int .i64 a0_8, .int .i64 a0_9, .slice A0_10 l0_10.length c0_10], .agg #[.int .i64 a1_0, .int .i64 a1_1, .int .i64 a1_2, .int .i64 a1_3, .int .i64 a1_4, .string a1_5, .int .i64 a1_6, .int .i64 a1_7, .int .i64 a1_8, .int .i64 a1_9, .slice A1_10 l1_10.length c1_10]] w fun e w' => e = .returned (.bool r) ∧ Below w.heap.size w w' := by
  have hu48 := Tryd.underlying48
  have hu43 := Tryd.underlying43
  have hu45 := Tryd.underlying45
  have HR0_10 := Aside0.mk hr0_10
  have HC0_10 := Aside0.mk hc0_10
  clear hr0_10 hc0_10
  have HR1_10 := Aside0.mk hr1_10
  have HC1_10 := Aside0.mk hc1_10
  clear hr1_10 hc1_10
  have HB := Aside0.mk (Below.refl w.heap.size w)
  have H : (if a0_0 = a1_0 then (if a0_1 = a1_1 then (if (a0_2 == a1_2 && (a0_3 == a1_3)) = true then (if (a0_4 == a1_4 && (a0_5.toList == a1_5.toList && (a0_6 == a1_6 && (a0_7 == a1_7)))) = true then (if a0_8 = a1_8 then (if a0_9 = a1_9 then (some ((strOfNums l0_10).toList == (strOfNums l1_10).toList)) else (some false)) else (some false)) else (some false)) else (some false)) else (some false)) else (some false)) = some r := h
  clear h
  by_cases c3 : a0_0 = a1_0
  · rw [if_pos c3] at H
    have c3b0 : (a0_0 == a1_0) = true := beq_iff_eq.mpr c3
    have c3b1 : (a0_0 != a1_0) = false := bne_eq_false_iff_eq.mpr c3
    clear c3
    by_cases c4 : a0_1 = a1_1
    · rw [if_pos c4] at H
      have c4b0 : (a0_1 == a1_1) = true := beq_iff_eq.mpr c4
      have c4b1 : (a0_1 != a1_1) = false := bne_eq_false_iff_eq.mpr c4
      clear c4
      by_cases c5 : (a0_2 == a1_2 && (a0_3 == a1_3)) = true
      · rw [if_pos c5] at H
        have c5b0 : (a0_2 == a1_2 && (a0_3 == a1_3)) = true := c5
        (try (have c5b1 : decide (a0_2 = a1_2 && (a0_3 == a1_3)) = true := by simpa using c5))
        (try (have c5b2 : (a0_2 == a1_2 && (a0_3 == a1_3)) = true := by simpa using c5))
        clear c5
        by_cases c6 : (a0_4 == a1_4 && (a0_5.toList == a1_5.toList && (a0_6 == a1_6 && (a0_7 == a1_7)))) = true
        · rw [if_pos c6] at H
          have c6b0 : (a0_4 == a1_4 && (a0_5.toList == a1_5.toList && (a0_6 == a1_6 && (a0_7 == a1_7)))) = true := c6
          (try (have c6b1 : decide (a0_4 = a1_4 && (a0_5.toList == a1_5.toList && (a0_6 == a1_6 && (a0_7 == a1_7)))) = true := by simpa using c6))
          (try (have c6b2 : (a0_4 == a1_4 && (a0_5.toList == a1_5.toList && (a0_6 == a1_6 && (a0_7 == a1_7)))) = true := by simpa using c6))
          clear c6
          by_cases c7 : a0_8 = a1_8
          · rw [if_pos c7] at H
            have c7b0 : (a0_8 == a1_8) = true := beq_iff_eq.mpr c7
            have c7b1 : (a0_8 != a1_8) = false := bne_eq_false_iff_eq.mpr c7
            clear c7
            by_cases c8 : a0_9 = a1_9
            · rw [if_pos c8] at H
              have c8b0 : (a0_9 == a1_9) = true := beq_iff_eq.mpr c8
              have c8b1 : (a0_9 != a1_9) = false := bne_eq_false_iff_eq.mpr c8
              clear c8
              obtain rfl := Option.some.inj H
              go_enter Tryd.func40, Tryd.ntmps40
              go_wp2_with (first | ((with_reducible refine gate_dst (N := 2) rfl ?_); refine box_event ?hg (N := 2) ?hd (cs := #[.int .i64 a0_0, .int .i64 a0_1, .int .i64 a0_2, .int .i64 a0_3, .int .i64 a0_4, .string a0_5, .int .i64 a0_6, .int .i64 a0_7, .int .i64 a0_8, .int .i64 a0_9, .slice A0_10 l0_10.length c0_10]) (t := 48) ?hr ?_; (case hd => rfl); (case hg => rfl); (case hr => first | (go_simp; done) | (go_simp; rfl)); intro gb208 hg w9 hbox hb; have n0_ := Aside0.mk (below_step (by repeat (first | (with_reducible first | exact HB.out | apply below_alloc | apply pw_below_drewN | apply below_drew1) | exact HB.out)) hb); have n1_ := Aside0.mk (hbox); have n2_ := Aside0.mk ((by rw [hg]; exact (below_size (by repeat (first | (with_reducible first | exact HB.out | apply below_alloc | apply pw_below_drewN | apply below_drew1) | exact HB.out))) : w.heap.size ≤ gb208)); have n3_ := Aside0.mk ((by rw [hg]; exact (below_size (by repeat (first | (with_reducible first | exact HB.out | apply below_alloc | apply pw_below_drewN | apply below_drew1) | exact HB.out))) : w.heap.size ≤ gb208)); clear HB; have HB := n0_; have BK208 := n1_; have GW208 := n2_; have GE208 := n3_; clear n0_ n1_ n2_ n3_; clear hb hbox hg) | ((with_reducible refine gate_dst (N := 3) rfl ?_); refine box_event ?hg (N := 3) ?hd (cs := #[.int .i64 a1_0, .int .i64 a1_1, .int .i64 a1_2, .int .i64 a1_3, .int .i64 a1_4, .string a1_5, .int .i64 a1_6, .int .i64 a1_7, .int .i64 a1_8, .int .i64 a1_9, .slice A1_10 l1_10.length c1_10]) (t := 48) ?hr ?_; (case hd => rfl); (case hg => rfl); (case hr => first | (go_simp; done) | (go_simp; rfl)); intro gb209 hg w10 hbox hb; have n0_ := Aside0.mk (blk_below (g := gb208) (o := .cells #[.int .i64 a0_0, .int .i64 a0_1, .int .i64 a0_2, .int .i64 a0_3, .int .i64 a0_4, .string a0_5, .int .i64 a0_6, .int .i64 a0_7, .int .i64 a0_8, .int .i64 a0_9, .slice A0_10 l0_10.length c0_10] 48 (0, 0)) (by (with_reducible repeat (first | refine blk_drewN ?_ _ | refine blk_drew ?_ | refine blk_alloc ?_ _)); exact BK208.out) hb); have n1_ := Aside0.mk (below_step (by repeat (first | (with_reducible first | exact HB.out | apply below_alloc | apply pw_below_drewN | apply below_drew1 | refine below_set ?_ GE208.out) | exact HB.out)) hb); have n2_ := Aside0.mk (hbox); have n3_ := Aside0.mk ((by rw [hg]; exact (below_size (by repeat (first | (with_reducible first | exact HB.out | apply below_alloc | apply pw_below_drewN | apply below_drew1 | refine below_set ?_ GE208.out) | exact HB.out))) : w.heap.size ≤ gb209)); have n4_ := Aside0.mk ((by rw [hg]; exact (below_size (by repeat (first | (with_reducible first | exact HB.out | apply below_alloc | apply pw_below_drewN | apply below_drew1 | refine below_set ?_ GE208.out) | exact HB.out))) : w.heap.size ≤ gb209)); have n5_ := Aside0.mk ((by rw [hg]; exact Nat.ne_of_lt (blk_lt (g := gb208) (o := .cells #[.int .i64 a0_0, .int .i64 a0_1, .int .i64 a0_2, .int .i64 a0_3, .int .i64 a0_4, .string a0_5, .int .i64 a0_6, .int .i64 a0_7, .int .i64 a0_8, .int .i64 a0_9, .slice A0_10 l0_10.length c0_10] 48 (0, 0)) (by (with_reducible repeat (first | refine blk_drewN ?_ _ | refine blk_drew ?_ | refine blk_alloc ?_ _)); exact BK208.out)) : gb208 ≠ gb209)); have n6_ := Aside0.mk ((by rw [hg]; exact Nat.ne_of_gt (blk_lt (g := gb208) (o := .cells #[.int .i64 a0_0, .int .i64 a0_1, .int .i64 a0_2, .int .i64 a0_3, .int .i64 a0_4, .string a0_5, .int .i64 a0_6, .int .i64 a0_7, .int .i64 a0_8, .int .i64 a0_9, .slice A0_10 l0_10.length c0_10] 48 (0, 0)) (by (with_reducible repeat (first | refine blk_drewN ?_ _ | refine blk_drew ?_ | refine blk_alloc ?_ _)); exact BK208.out)) : gb209 ≠ gb208)); clear BK208; clear HB; have BK208 := n0_; have HB := n1_; have BK209 := n2_; have GW209 := n3_; have GE209 := n4_; have NB208_209 := n5_; have NB209_208 := n6_; clear n0_ n1_ n2_ n3_ n4_ n5_ n6_; clear hb hbox hg; have hnb11 := NB208_209.out; have hnc11 := NB209_208.out; have hcz12_0 : w10.cell? ⟨gb208, 0, none⟩ = some (.int .i64 a0_0) := (blk_cell BK208.out 0).trans rfl; have hcz12_1 : w10.cell? ⟨gb208, 1, none⟩ = some (.int .i64 a0_1) := (blk_cell BK208.out 1).trans rfl; have hcz12_2 : w10.cell? ⟨gb208, 2, none⟩ = some (.int .i64 a0_2) := (blk_cell BK208.out 2).trans rfl; have hcz12_3 : w10.cell? ⟨gb208, 3, none⟩ = some (.int .i64 a0_3) := (blk_cell BK208.out 3).trans rfl; have hcz12_4 : w10.cell? ⟨gb208, 4, none⟩ = some (.int .i64 a0_4) := (blk_cell BK208.out 4).trans rfl; have hcz12_5 : w10.cell? ⟨gb208, 5, none⟩ = some (.string a0_5) := (blk_cell BK208.out 5).trans rfl; have hcz12_6 : w10.cell? ⟨gb208, 6, none⟩ = some (.int .i64 a0_6) := (blk_cell BK208.out 6).trans rfl; have hcz12_7 : w10.cell? ⟨gb208, 7, none⟩ = some (.int .i64 a0_7) := (blk_cell BK208.out 7).trans rfl; have hcz12_8 : w10.cell? ⟨gb208, 8, none⟩ = some (.int .i64 a0_8) := (blk_cell BK208.out 8).trans rfl; have hcz12_9 : w10.cell? ⟨gb208, 9, none⟩ = some (.int .i64 a0_9) := (blk_cell BK208.out 9).trans rfl; have hcz12_10 : w10.cell? ⟨gb208, 10, none⟩ = some (.slice A0_10 l0_10.length c0_10) := (blk_cell BK208.out 10).trans rfl; have hfz12_0 := blk_frozen BK208.out 0; have hfz12_1 := blk_frozen BK208.out 1; have hfz12_2 := blk_frozen BK208.out 2; have hfz12_3 := blk_frozen BK208.out 3; have hfz12_4 := blk_frozen BK208.out 4; have hfz12_5 := blk_frozen BK208.out 5; have hfz12_6 := blk_frozen BK208.out 6; have hfz12_7 := blk_frozen BK208.out 7; have hfz12_8 := blk_frozen BK208.out 8; have hfz12_9 := blk_frozen BK208.out 9; have hfz12_10 := blk_frozen BK208.out 10; have hcz13_0 : w10.cell? ⟨gb209, 0, none⟩ = some (.int .i64 a1_0) := (blk_cell BK209.out 0).trans rfl; have hcz13_1 : w10.cell? ⟨gb209, 1, none⟩ = some (.int .i64 a1_1) := (blk_cell BK209.out 1).trans rfl; have hcz13_2 : w10.cell? ⟨gb209, 2, none⟩ = some (.int .i64 a1_2) := (blk_cell BK209.out 2).trans rfl; have hcz13_3 : w10.cell? ⟨gb209, 3, none⟩ = some (.int .i64 a1_3) := (blk_cell BK209.out 3).trans rfl; have hcz13_4 : w10.cell? ⟨gb209, 4, none⟩ = some (.int .i64 a1_4) := (blk_cell BK209.out 4).trans rfl; have hcz13_5 : w10.cell? ⟨gb209, 5, none⟩ = some (.string a1_5) := (blk_cell BK209.out 5).trans rfl; have hcz13_6 : w10.cell? ⟨gb209, 6, none⟩ = some (.int .i64 a1_6) := (blk_cell BK209.out 6).trans rfl; have hcz13_7 : w10.cell? ⟨gb209, 7, none⟩ = some (.int .i64 a1_7) := (blk_cell BK209.out 7).trans rfl; have hcz13_8 : w10.cell? ⟨gb209, 8, none⟩ = some (.int .i64 a1_8) := (blk_cell BK209.out 8).trans rfl; have hcz13_9 : w10.cell? ⟨gb209, 9, none⟩ = some (.int .i64 a1_9) := (blk_cell BK209.out 9).trans rfl; have hcz13_10 : w10.cell? ⟨gb209, 10, none⟩ = some (.slice A1_10 l1_10.length c1_10) := (blk_cell BK209.out 10).trans rfl; have hfz13_0 := blk_frozen BK209.out 0; have hfz13_1 := blk_frozen BK209.out 1; have hfz13_2 := blk_frozen BK209.out 2; have hfz13_3 := blk_frozen BK209.out 3; have hfz13_4 := blk_frozen BK209.out 4; have hfz13_5 := blk_frozen BK209.out 5; have hfz13_6 := blk_frozen BK209.out 6; have hfz13_7 := blk_frozen BK209.out 7; have hfz13_8 := blk_frozen BK209.out 8; have hfz13_9 := blk_frozen BK209.out 9; have hfz13_10 := blk_frozen BK209.out 10; have hcv14 := Kd.C_string (P := Tryd.prog) (A := A0_10) (c := c0_10) Tryd.underlying46 Tryd.underlying5 Tryd.underlying9 (Kd.C_below HR0_10.out HB.out); have hcv15 := Kd.C_string (P := Tryd.prog) (A := A1_10) (c := c1_10) Tryd.underlying46 Tryd.underlying5 Tryd.underlying9 (Kd.C_below HR1_10.out HB.out)))
              go_ret
              exact ⟨by first | rfl | (simp [errW_none, errW_some] <;> rfl) | (simp [*, errW_none, errW_some] <;> rfl), by repeat (first | (with_reducible first | exact HB.out | apply below_alloc | apply pw_below_drewN | apply below_drew1 | refine below_set ?_ GE208.out | refine below_set ?_ GE209.out) | exact HB.out)⟩
            · rw [if_neg c8] at H
              have c8b0 : (a0_9 == a1_9) = false := beq_eq_false_iff_ne.mpr c8
              have c8b1 : (a0_9 != a1_9) = true := bne_iff_ne.mpr c8
              obtain rfl := Option.some.inj H
              go_enter Tryd.func40, Tryd.ntmps40
              go_wp2_with (first | ((with_reducible refine gate_dst (N := 2) rfl ?_); refine box_event ?hg (N := 2) ?hd (cs := #[.int .i64 a0_0, .int .i64 a0_1, .int .i64 a0_2, .int .i64 a0_3, .int .i64 a0_4, .string a0_5, .int .i64 a0_6, .int .i64 a0_7, .int .i64 a0_8, .int .i64 a0_9, .slice A0_10 l0_10.length c0_10]) (t := 48) ?hr ?_; (case hd => rfl); (case hg => rfl); (case hr => first | (go_simp; done) | (go_simp; rfl)); intro gb208 hg w16 hbox hb; have n0_ := Aside0.mk (below_step (by repeat (first | (with_reducible first | exact HB.out | apply below_alloc | apply pw_below_drewN | apply below_drew1) | exact HB.out)) hb); have n1_ := Aside0.mk (hbox); have n2_ := Aside0.mk ((by rw [hg]; exact (below_size (by repeat (first | (with_reducible first | exact HB.out | apply below_alloc | apply pw_below_drewN | apply below_drew1) | exact HB.out))) : w.heap.size ≤ gb208)); have n3_ := Aside0.mk ((by rw [hg]; exact (below_size (by repeat (first | (with_reducible first | exact HB.out | apply below_alloc | apply pw_below_drewN | apply below_drew1) | exact HB.out))) : w.heap.size ≤ gb208)); clear HB; have HB := n0_; have BK208 := n1_; have GW208 := n2_; have GE208 := n3_; clear n0_ n1_ n2_ n3_; clear hb hbox hg) | ((with_reducible refine gate_dst (N := 3) rfl ?_); refine box_event ?hg (N := 3) ?hd (cs := #[.int .i64 a1_0, .int .i64 a1_1, .int .i64 a1_2, .int .i64 a1_3, .int .i64 a1_4, .string a1_5, .int .i64 a1_6, .int .i64 a1_7, .int .i64 a1_8, .int .i64 a1_9, .slice A1_10 l1_10.length c1_10]) (t := 48) ?hr ?_; (case hd => rfl); (case hg => rfl); (case hr => first | (go_simp; done) | (go_simp; rfl)); intro gb209 hg w17 hbox hb; have n0_ := Aside0.mk (blk_below (g := gb208) (o := .cells #[.int .i64 a0_0, .int .i64 a0_1, .int .i64 a0_2, .int .i64 a0_3, .int .i64 a0_4, .string a0_5, .int .i64 a0_6, .int .i64 a0_7, .int .i64 a0_8, .int .i64 a0_9, .slice A0_10 l0_10.length c0_10] 48 (0, 0)) (by (with_reducible repeat (first | refine blk_drewN ?_ _ | refine blk_drew ?_ | refine blk_alloc ?_ _)); exact BK208.out) hb); have n1_ := Aside0.mk (below_step (by repeat (first | (with_reducible first | exact HB.out | apply below_alloc | apply pw_below_drewN | apply below_drew1 | refine below_set ?_ GE208.out) | exact HB.out)) hb); have n2_ := Aside0.mk (hbox); have n3_ := Aside0.mk ((by rw [hg]; exact (below_size (by repeat (first | (with_reducible first | exact HB.out | apply below_alloc | apply pw_below_drewN | apply below_drew1 | refine below_set ?_ GE208.out) | exact HB.out))) : w.heap.size ≤ gb209)); have n4_ := Aside0.mk ((by rw [hg]; exact (below_size (by repeat (first | (with_reducible first | exact HB.out | apply below_alloc | apply pw_below_drewN | apply below_drew1 | refine below_set ?_ GE208.out) | exact HB.out))) : w.heap.size ≤ gb209)); have n5_ := Aside0.mk ((by rw [hg]; exact Nat.ne_of_lt (blk_lt (g := gb208) (o := .cells #[.int .i64 a0_0, .int .i64 a0_1, .int .i64 a0_2, .int .i64 a0_3, .int .i64 a0_4, .string a0_5, .int .i64 a0_6, .int .i64 a0_7, .int .i64 a0_8, .int .i64 a0_9, .slice A0_10 l0_10.length c0_10] 48 (0, 0)) (by (with_reducible repeat (first | refine blk_drewN ?_ _ | refine blk_drew ?_ | refine blk_alloc ?_ _)); exact BK208.out)) : gb208 ≠ gb209)); have n6_ := Aside0.mk ((by rw [hg]; exact Nat.ne_of_gt (blk_lt (g := gb208) (o := .cells #[.int .i64 a0_0, .int .i64 a0_1, .int .i64 a0_2, .int .i64 a0_3, .int .i64 a0_4, .string a0_5, .int .i64 a0_6, .int .i64 a0_7, .int .i64 a0_8, .int .i64 a0_9, .slice A0_10 l0_10.length c0_10] 48 (0, 0)) (by (with_reducible repeat (first | refine blk_drewN ?_ _ | refine blk_drew ?_ | refine blk_alloc ?_ _)); exact BK208.out)) : gb209 ≠ gb208)); clear BK208; clear HB; have BK208 := n0_; have HB := n1_; have BK209 := n2_; have GW209 := n3_; have GE209 := n4_; have NB208_209 := n5_; have NB209_208 := n6_; clear n0_ n1_ n2_ n3_ n4_ n5_ n6_; clear hb hbox hg; have hnb18 := NB208_209.out; have hnc18 := NB209_208.out; have hcz19_0 : w17.cell? ⟨gb208, 0, none⟩ = some (.int .i64 a0_0) := (blk_cell BK208.out 0).trans rfl; have hcz19_1 : w17.cell? ⟨gb208, 1, none⟩ = some (.int .i64 a0_1) := (blk_cell BK208.out 1).trans rfl; have hcz19_2 : w17.cell? ⟨gb208, 2, none⟩ = some (.int .i64 a0_2) := (blk_cell BK208.out 2).trans rfl; have hcz19_3 : w17.cell? ⟨gb208, 3, none⟩ = some (.int .i64 a0_3) := (blk_cell BK208.out 3).trans rfl; have hcz19_4 : w17.cell? ⟨gb208, 4, none⟩ = some (.int .i64 a0_4) := (blk_cell BK208.out 4).trans rfl; have hcz19_5 : w17.cell? ⟨gb208, 5, none⟩ = some (.string a0_5) := (blk_cell BK208.out 5).trans rfl; have hcz19_6 : w17.cell? ⟨gb208, 6, none⟩ = some (.int .i64 a0_6) := (blk_cell BK208.out 6).trans rfl; have hcz19_7 : w17.cell? ⟨gb208, 7, none⟩ = some (.int .i64 a0_7) := (blk_cell BK208.out 7).trans rfl; have hcz19_8 : w17.cell? ⟨gb208, 8, none⟩ = some (.int .i64 a0_8) := (blk_cell BK208.out 8).trans rfl; have hcz19_9 : w17.cell? ⟨gb208, 9, none⟩ = some (.int .i64 a0_9) := (blk_cell BK208.out 9).trans rfl; have hcz19_10 : w17.cell? ⟨gb208, 10, none⟩ = some (.slice A0_10 l0_10.length c0_10) := (blk_cell BK208.out 10).trans rfl; have hfz19_0 := blk_frozen BK208.out 0; have hfz19_1 := blk_frozen BK208.out 1; have hfz19_2 := blk_frozen BK208.out 2; have hfz19_3 := blk_frozen BK208.out 3; have hfz19_4 := blk_frozen BK208.out 4; have hfz19_5 := blk_frozen BK208.out 5; have hfz19_6 := blk_frozen BK208.out 6; have hfz19_7 := blk_frozen BK208.out 7; have hfz19_8 := blk_frozen BK208.out 8; have hfz19_9 := blk_frozen BK208.out 9; have hfz19_10 := blk_frozen BK208.out 10; have hcz20_0 : w17.cell? ⟨gb209, 0, none⟩ = some (.int .i64 a1_0) := (blk_cell BK209.out 0).trans rfl; have hcz20_1 : w17.cell? ⟨gb209, 1, none⟩ = some (.int .i64 a1_1) := (blk_cell BK209.out 1).trans rfl; have hcz20_2 : w17.cell? ⟨gb209, 2, none⟩ = some (.int .i64 a1_2) := (blk_cell BK209.out 2).trans rfl; have hcz20_3 : w17.cell? ⟨gb209, 3, none⟩ = some (.int .i64 a1_3) := (blk_cell BK209.out 3).trans rfl; have hcz20_4 : w17.cell? ⟨gb209, 4, none⟩ = some (.int .i64 a1_4) := (blk_cell BK209.out 4).trans rfl; have hcz20_5 : w17.cell? ⟨gb209, 5, none⟩ = some (.string a1_5) := (blk_cell BK209.out 5).trans rfl; have hcz20_6 : w17.cell? ⟨gb209, 6, none⟩ = some (.int .i64 a1_6) := (blk_cell BK209.out 6).trans rfl; have hcz20_7 : w17.cell? ⟨gb209, 7, none⟩ = some (.int .i64 a1_7) := (blk_cell BK209.out 7).trans rfl; have hcz20_8 : w17.cell? ⟨gb209, 8, none⟩ = some (.int .i64 a1_8) := (blk_cell BK209.out 8).trans rfl; have hcz20_9 : w17.cell? ⟨gb209, 9, none⟩ = some (.int .i64 a1_9) := (blk_cell BK209.out 9).trans rfl; have hcz20_10 : w17.cell? ⟨gb209, 10, none⟩ = some (.slice A1_10 l1_10.length c1_10) := (blk_cell BK209.out 10).trans rfl; have hfz20_0 := blk_frozen BK209.out 0; have hfz20_1 := blk_frozen BK209.out 1; have hfz20_2 := blk_frozen BK209.out 2; have hfz20_3 := blk_frozen BK209.out 3; have hfz20_4 := blk_frozen BK209.out 4; have hfz20_5 := blk_frozen BK209.out 5; have hfz20_6 := blk_frozen BK209.out 6; have hfz20_7 := blk_frozen BK209.out 7; have hfz20_8 := blk_frozen BK209.out 8; have hfz20_9 := blk_frozen BK209.out 9; have hfz20_10 := blk_frozen BK209.out 10))
              go_ret
              exact ⟨by first | rfl | (simp [errW_none, errW_some] <;> rfl) | (simp [*, errW_none, errW_some] <;> rfl), by repeat (first | (with_reducible first | exact HB.out | apply below_alloc | apply pw_below_drewN | apply below_drew1 | refine below_set ?_ GE208.out | refine below_set ?_ GE209.out) | exact HB.out)⟩
          · rw [if_neg c7] at H
            have c7b0 : (a0_8 == a1_8) = false := beq_eq_false_iff_ne.mpr c7
            have c7b1 : (a0_8 != a1_8) = true := bne_iff_ne.mpr c7
            obtain rfl := Option.some.inj H
            go_enter Tryd.func40, Tryd.ntmps40
            go_wp2_with (first | ((with_reducible refine gate_dst (N := 2) rfl ?_); refine box_event ?hg (N := 2) ?hd (cs := #[.int .i64 a0_0, .int .i64 a0_1, .int .i64 a0_2, .int .i64 a0_3, .int .i64 a0_4, .string a0_5, .int .i64 a0_6, .int .i64 a0_7, .int .i64 a0_8, .int .i64 a0_9, .slice A0_10 l0_10.length c0_10]) (t := 48) ?hr ?_; (case hd => rfl); (case hg => rfl); (case hr => first | (go_simp; done) | (go_simp; rfl)); intro gb208 hg w21 hbox hb; have n0_ := Aside0.mk (below_step (by repeat (first | (with_reducible first | exact HB.out | apply below_alloc | apply pw_below_drewN | apply below_drew1) | exact HB.out)) hb); have n1_ := Aside0.mk (hbox); have n2_ := Aside0.mk ((by rw [hg]; exact (below_size (by repeat (first | (with_reducible first | exact HB.out | apply below_alloc | apply pw_below_drewN | apply below_drew1) | exact HB.out))) : w.heap.size ≤ gb208)); have n3_ := Aside0.mk ((by rw [hg]; exact (below_size (by repeat (first | (with_reducible first | exact HB.out | apply below_alloc | apply pw_below_drewN | apply below_drew1) | exact HB.out))) : w.heap.size ≤ gb208)); clear HB; have HB := n0_; have BK208 := n1_; have GW208 := n2_; have GE208 := n3_; clear n0_ n1_ n2_ n3_; clear hb hbox hg) | ((with_reducible refine gate_dst (N := 3) rfl ?_); refine box_event ?hg (N := 3) ?hd (cs := #[.int .i64 a1_0, .int .i64 a1_1, .int .i64 a1_2, .int .i64 a1_3, .int .i64 a1_4, .string a1_5, .int .i64 a1_6, .int .i64 a1_7, .int .i64 a1_8, .int .i64 a1_9, .slice A1_10 l1_10.length c1_10]) (t := 48) ?hr ?_; (case hd => rfl); (case hg => rfl); (case hr => first | (go_simp; done) | (go_simp; rfl)); intro gb209 hg w22 hbox hb; have n0_ := Aside0.mk (blk_below (g := gb208) (o := .cells #[.int .i64 a0_0, .int .i64 a0_1, .int .i64 a0_2, .int .i64 a0_3, .int .i64 a0_4, .string a0_5, .int .i64 a0_6, .int .i64 a0_7, .int .i64 a0_8, .int .i64 a0_9, .slice A0_10 l0_10.length c0_10] 48 (0, 0)) (by (with_reducible repeat (first | refine blk_drewN ?_ _ | refine blk_drew ?_ | refine blk_alloc ?_ _)); exact BK208.out) hb); have n1_ := Aside0.mk (below_step (by repeat (first | (with_reducible first | exact HB.out | apply below_alloc | apply pw_below_drewN | apply below_drew1 | refine below_set ?_ GE208.out) | exact HB.out)) hb); have n2_ := Aside0.mk (hbox); have n3_ := Aside0.mk ((by rw [hg]; exact (below_size (by repeat (first | (with_reducible first | exact HB.out | apply below_alloc | apply pw_below_drewN | apply below_drew1 | refine below_set ?_ GE208.out) | exact HB.out))) : w.heap.size ≤ gb209)); have n4_ := Aside0.mk ((by rw [hg]; exact (below_size (by repeat (first | (with_reducible first | exact HB.out | apply below_alloc | apply pw_below_drewN | apply below_drew1 | refine below_set ?_ GE208.out) | exact HB.out))) : w.heap.size ≤ gb209)); have n5_ := Aside0.mk ((by rw [hg]; exact Nat.ne_of_lt (blk_lt (g := gb208) (o := .cells #[.int .i64 a0_0, .int .i64 a0_1, .int .i64 a0_2, .int .i64 a0_3, .int .i64 a0_4, .string a0_5, .int .i64 a0_6, .int .i64 a0_7, .int .i64 a0_8, .int .i64 a0_9, .slice A0_10 l0_10.length c0_10] 48 (0, 0)) (by (with_reducible repeat (first | refine blk_drewN ?_ _ | refine blk_drew ?_ | refine blk_alloc ?_ _)); exact BK208.out)) : gb208 ≠ gb209)); have n6_ := Aside0.mk ((by rw [hg]; exact Nat.ne_of_gt (blk_lt (g := gb208) (o := .cells #[.int .i64 a0_0, .int .i64 a0_1, .int .i64 a0_2, .int .i64 a0_3, .int .i64 a0_4, .string a0_5, .int .i64 a0_6, .int .i64 a0_7, .int .i64 a0_8, .int .i64 a0_9, .slice A0_10 l0_10.length c0_10] 48 (0, 0)) (by (with_reducible repeat (first | refine blk_drewN ?_ _ | refine blk_drew ?_ | refine blk_alloc ?_ _)); exact BK208.out)) : gb209 ≠ gb208)); clear BK208; clear HB; have BK208 := n0_; have HB := n1_; have BK209 := n2_; have GW209 := n3_; have GE209 := n4_; have NB208_209 := n5_; have NB209_208 := n6_; clear n0_ n1_ n2_ n3_ n4_ n5_ n6_; clear hb hbox hg; have hnb23 := NB208_209.out; have hnc23 := NB209_208.out; have hcz24_0 : w22.cell? ⟨gb208, 0, none⟩ = some (.int .i64 a0_0) := (blk_cell BK208.out 0).trans rfl; have hcz24_1 : w22.cell? ⟨gb208, 1, none⟩ = some (.int .i64 a0_1) := (blk_cell BK208.out 1).trans rfl; have hcz24_2 : w22.cell? ⟨gb208, 2, none⟩ = some (.int .i64 a0_2) := (blk_cell BK208.out 2).trans rfl; have hcz24_3 : w22.cell? ⟨gb208, 3, none⟩ = some (.int .i64 a0_3) := (blk_cell BK208.out 3).trans rfl; have hcz24_4 : w22.cell? ⟨gb208, 4, none⟩ = some (.int .i64 a0_4) := (blk_cell BK208.out 4).trans rfl; have hcz24_5 : w22.cell? ⟨gb208, 5, none⟩ = some (.string a0_5) := (blk_cell BK208.out 5).trans rfl; have hcz24_6 : w22.cell? ⟨gb208, 6, none⟩ = some (.int .i64 a0_6) := (blk_cell BK208.out 6).trans rfl; have hcz24_7 : w22.cell? ⟨gb208, 7, none⟩ = some (.int .i64 a0_7) := (blk_cell BK208.out 7).trans rfl; have hcz24_8 : w22.cell? ⟨gb208, 8, none⟩ = some (.int .i64 a0_8) := (blk_cell BK208.out 8).trans rfl; have hcz24_9 : w22.cell? ⟨gb208, 9, none⟩ = some (.int .i64 a0_9) := (blk_cell BK208.out 9).trans rfl; have hcz24_10 : w22.cell? ⟨gb208, 10, none⟩ = some (.slice A0_10 l0_10.length c0_10) := (blk_cell BK208.out 10).trans rfl; have hfz24_0 := blk_frozen BK208.out 0; have hfz24_1 := blk_frozen BK208.out 1; have hfz24_2 := blk_frozen BK208.out 2; have hfz24_3 := blk_frozen BK208.out 3; have hfz24_4 := blk_frozen BK208.out 4; have hfz24_5 := blk_frozen BK208.out 5; have hfz24_6 := blk_frozen BK208.out 6; have hfz24_7 := blk_frozen BK208.out 7; have hfz24_8 := blk_frozen BK208.out 8; have hfz24_9 := blk_frozen BK208.out 9; have hfz24_10 := blk_frozen BK208.out 10; have hcz25_0 : w22.cell? ⟨gb209, 0, none⟩ = some (.int .i64 a1_0) := (blk_cell BK209.out 0).trans rfl; have hcz25_1 : w22.cell? ⟨gb209, 1, none⟩ = some (.int .i64 a1_1) := (blk_cell BK209.out 1).trans rfl; have hcz25_2 : w22.cell? ⟨gb209, 2, none⟩ = some (.int .i64 a1_2) := (blk_cell BK209.out 2).trans rfl; have hcz25_3 : w22.cell? ⟨gb209, 3, none⟩ = some (.int .i64 a1_3) := (blk_cell BK209.out 3).trans rfl; have hcz25_4 : w22.cell? ⟨gb209, 4, none⟩ = some (.int .i64 a1_4) := (blk_cell BK209.out 4).trans rfl; have hcz25_5 : w22.cell? ⟨gb209, 5, none⟩ = some (.string a1_5) := (blk_cell BK209.out 5).trans rfl; have hcz25_6 : w22.cell? ⟨gb209, 6, none⟩ = some (.int .i64 a1_6) := (blk_cell BK209.out 6).trans rfl; have hcz25_7 : w22.cell? ⟨gb209, 7, none⟩ = some (.int .i64 a1_7) := (blk_cell BK209.out 7).trans rfl; have hcz25_8 : w22.cell? ⟨gb209, 8, none⟩ = some (.int .i64 a1_8) := (blk_cell BK209.out 8).trans rfl; have hcz25_9 : w22.cell? ⟨gb209, 9, none⟩ = some (.int .i64 a1_9) := (blk_cell BK209.out 9).trans rfl; have hcz25_10 : w22.cell? ⟨gb209, 10, none⟩ = some (.slice A1_10 l1_10.length c1_10) := (blk_cell BK209.out 10).trans rfl; have hfz25_0 := blk_frozen BK209.out 0; have hfz25_1 := blk_frozen BK209.out 1; have hfz25_2 := blk_frozen BK209.out 2; have hfz25_3 := blk_frozen BK209.out 3; have hfz25_4 := blk_frozen BK209.out 4; have hfz25_5 := blk_frozen BK209.out 5; have hfz25_6 := blk_frozen BK209.out 6; have hfz25_7 := blk_frozen BK209.out 7; have hfz25_8 := blk_frozen BK209.out 8; have hfz25_9 := blk_frozen BK209.out 9; have hfz25_10 := blk_frozen BK209.out 10))
            go_ret
            exact ⟨by first | rfl | (simp [errW_none, errW_some] <;> rfl) | (simp [*, errW_none, errW_some] <;> rfl), by repeat (first | (with_reducible first | exact HB.out | apply below_alloc | apply pw_below_drewN | apply below_drew1 | refine below_set ?_ GE208.out | refine below_set ?_ GE209.out) | exact HB.out)⟩
        · rw [if_neg c6] at H
          have c6b0 : (a0_4 == a1_4 && (a0_5.toList == a1_5.toList && (a0_6 == a1_6 && (a0_7 == a1_7)))) = false := by simpa using c6
          (try (have c6b1 : decide (a0_4 = a1_4 && (a0_5.toList == a1_5.toList && (a0_6 == a1_6 && (a0_7 == a1_7)))) = false := by simpa using c6))
          (try (have c6b2 : (a0_4 == a1_4 && (a0_5.toList == a1_5.toList && (a0_6 == a1_6 && (a0_7 == a1_7)))) = false := by simpa using c6))
          (try (have c6b3 : ¬ (a0_4 = a1_4 && (a0_5.toList == a1_5.toList && (a0_6 == a1_6 && (a0_7 == a1_7)))) := by simpa using c6))
          clear c6
          obtain rfl := Option.some.inj H
          go_enter Tryd.func40, Tryd.ntmps40
          go_wp2_with (first | ((with_reducible refine gate_dst (N := 2) rfl ?_); refine box_event ?hg (N := 2) ?hd (cs := #[.int .i64 a0_0, .int .i64 a0_1, .int .i64 a0_2, .int .i64 a0_3, .int .i64 a0_4, .string a0_5, .int .i64 a0_6, .int .i64 a0_7, .int .i64 a0_8, .int .i64 a0_9, .slice A0_10 l0_10.length c0_10]) (t := 48) ?hr ?_; (case hd => rfl); (case hg => rfl); (case hr => first | (go_simp; done) | (go_simp; rfl)); intro gb208 hg w26 hbox hb; have n0_ := Aside0.mk (below_step (by repeat (first | (with_reducible first | exact HB.out | apply below_alloc | apply pw_below_drewN | apply below_drew1) | exact HB.out)) hb); have n1_ := Aside0.mk (hbox); have n2_ := Aside0.mk ((by rw [hg]; exact (below_size (by repeat (first | (with_reducible first | exact HB.out | apply below_alloc | apply pw_below_drewN | apply below_drew1) | exact HB.out))) : w.heap.size ≤ gb208)); have n3_ := Aside0.mk ((by rw [hg]; exact (below_size (by repeat (first | (with_reducible first | exact HB.out | apply below_alloc | apply pw_below_drewN | apply below_drew1) | exact HB.out))) : w.heap.size ≤ gb208)); clear HB; have HB := n0_; have BK208 := n1_; have GW208 := n2_; have GE208 := n3_; clear n0_ n1_ n2_ n3_; clear hb hbox hg) | ((with_reducible refine gate_dst (N := 3) rfl ?_); refine box_event ?hg (N := 3) ?hd (cs := #[.int .i64 a1_0, .int .i64 a1_1, .int .i64 a1_2, .int .i64 a1_3, .int .i64 a1_4, .string a1_5, .int .i64 a1_6, .int .i64 a1_7, .int .i64 a1_8, .int .i64 a1_9, .slice A1_10 l1_10.length c1_10]) (t := 48) ?hr ?_; (case hd => rfl); (case hg => rfl); (case hr => first | (go_simp; done) | (go_simp; rfl)); intro gb209 hg w27 hbox hb; have n0_ := Aside0.mk (blk_below (g := gb208) (o := .cells #[.int .i64 a0_0, .int .i64 a0_1, .int .i64 a0_2, .int .i64 a0_3, .int .i64 a0_4, .string a0_5, .int .i64 a0_6, .int .i64 a0_7, .int .i64 a0_8, .int .i64 a0_9, .slice A0_10 l0_10.length c0_10] 48 (0, 0)) (by (with_reducible repeat (first | refine blk_drewN ?_ _ | refine blk_drew ?_ | refine blk_alloc ?_ _)); exact BK208.out) hb); have n1_ := Aside0.mk (below_step (by repeat (first | (with_reducible first | exact HB.out | apply below_alloc | apply pw_below_drewN | apply below_drew1 | refine below_set ?_ GE208.out) | exact HB.out)) hb); have n2_ := Aside0.mk (hbox); have n3_ := Aside0.mk ((by rw [hg]; exact (below_size (by repeat (first | (with_reducible first | exact HB.out | apply below_alloc | apply pw_below_drewN | apply below_drew1 | refine below_set ?_ GE208.out) | exact HB.out))) : w.heap.size ≤ gb209)); have n4_ := Aside0.mk ((by rw [hg]; exact (below_size (by repeat (first | (with_reducible first | exact HB.out | apply below_alloc | apply pw_below_drewN | apply below_drew1 | refine below_set ?_ GE208.out) | exact HB.out))) : w.heap.size ≤ gb209)); have n5_ := Aside0.mk ((by rw [hg]; exact Nat.ne_of_lt (blk_lt (g := gb208) (o := .cells #[.int .i64 a0_0, .int .i64 a0_1, .int .i64 a0_2, .int .i64 a0_3, .int .i64 a0_4, .string a0_5, .int .i64 a0_6, .int .i64 a0_7, .int .i64 a0_8, .int .i64 a0_9, .slice A0_10 l0_10.length c0_10] 48 (0, 0)) (by (with_reducible repeat (first | refine blk_drewN ?_ _ | refine blk_drew ?_ | refine blk_alloc ?_ _)); exact BK208.out)) : gb208 ≠ gb209)); have n6_ := Aside0.mk ((by rw [hg]; exact Nat.ne_of_gt (blk_lt (g := gb208) (o := .cells #[.int .i64 a0_0, .int .i64 a0_1, .int .i64 a0_2, .int .i64 a0_3, .int .i64 a0_4, .string a0_5, .int .i64 a0_6, .int .i64 a0_7, .int .i64 a0_8, .int .i64 a0_9, .slice A0_10 l0_10.length c0_10] 48 (0, 0)) (by (with_reducible repeat (first | refine blk_drewN ?_ _ | refine blk_drew ?_ | refine blk_alloc ?_ _)); exact BK208.out)) : gb209 ≠ gb208)); clear BK208; clear HB; have BK208 := n0_; have HB := n1_; have BK209 := n2_; have GW209 := n3_; have GE209 := n4_; have NB208_209 := n5_; have NB209_208 := n6_; clear n0_ n1_ n2_ n3_ n4_ n5_ n6_; clear hb hbox hg; have hnb28 := NB208_209.out; have hnc28 := NB209_208.out; have hcz29_0 : w27.cell? ⟨gb208, 0, none⟩ = some (.int .i64 a0_0) := (blk_cell BK208.out 0).trans rfl; have hcz29_1 : w27.cell? ⟨gb208, 1, none⟩ = some (.int .i64 a0_1) := (blk_cell BK208.out 1).trans rfl; have hcz29_2 : w27.cell? ⟨gb208, 2, none⟩ = some (.int .i64 a0_2) := (blk_cell BK208.out 2).trans rfl; have hcz29_3 : w27.cell? ⟨gb208, 3, none⟩ = some (.int .i64 a0_3) := (blk_cell BK208.out 3).trans rfl; have hcz29_4 : w27.cell? ⟨gb208, 4, none⟩ = some (.int .i64 a0_4) := (blk_cell BK208.out 4).trans rfl; have hcz29_5 : w27.cell? ⟨gb208, 5, none⟩ = some (.string a0_5) := (blk_cell BK208.out 5).trans rfl; have hcz29_6 : w27.cell? ⟨gb208, 6, none⟩ = some (.int .i64 a0_6) := (blk_cell BK208.out 6).trans rfl; have hcz29_7 : w27.cell? ⟨gb208, 7, none⟩ = some (.int .i64 a0_7) := (blk_cell BK208.out 7).trans rfl; have hcz29_8 : w27.cell? ⟨gb208, 8, none⟩ = some (.int .i64 a0_8) := (blk_cell BK208.out 8).trans rfl; have hcz29_9 : w27.cell? ⟨gb208, 9, none⟩ = some (.int .i64 a0_9) := (blk_cell BK208.out 9).trans rfl; have hcz29_10 : w27.cell? ⟨gb208, 10, none⟩ = some (.slice A0_10 l0_10.length c0_10) := (blk_cell BK208.out 10).trans rfl; have hfz29_0 := blk_frozen BK208.out 0; have hfz29_1 := blk_frozen BK208.out 1; have hfz29_2 := blk_frozen BK208.out 2; have hfz29_3 := blk_frozen BK208.out 3; have hfz29_4 := blk_frozen BK208.out 4; have hfz29_5 := blk_frozen BK208.out 5; have hfz29_6 := blk_frozen BK208.out 6; have hfz29_7 := blk_frozen BK208.out 7; have hfz29_8 := blk_frozen BK208.out 8; have hfz29_9 := blk_frozen BK208.out 9; have hfz29_10 := blk_frozen BK208.out 10; have hcz30_0 : w27.cell? ⟨gb209, 0, none⟩ = some (.int .i64 a1_0) := (blk_cell BK209.out 0).trans rfl; have hcz30_1 : w27.cell? ⟨gb209, 1, none⟩ = some (.int .i64 a1_1) := (blk_cell BK209.out 1).trans rfl; have hcz30_2 : w27.cell? ⟨gb209, 2, none⟩ = some (.int .i64 a1_2) := (blk_cell BK209.out 2).trans rfl; have hcz30_3 : w27.cell? ⟨gb209, 3, none⟩ = some (.int .i64 a1_3) := (blk_cell BK209.out 3).trans rfl; have hcz30_4 : w27.cell? ⟨gb209, 4, none⟩ = some (.int .i64 a1_4) := (blk_cell BK209.out 4).trans rfl; have hcz30_5 : w27.cell? ⟨gb209, 5, none⟩ = some (.string a1_5) := (blk_cell BK209.out 5).trans rfl; have hcz30_6 : w27.cell? ⟨gb209, 6, none⟩ = some (.int .i64 a1_6) := (blk_cell BK209.out 6).trans rfl; have hcz30_7 : w27.cell? ⟨gb209, 7, none⟩ = some (.int .i64 a1_7) := (blk_cell BK209.out 7).trans rfl; have hcz30_8 : w27.cell? ⟨gb209, 8, none⟩ = some (.int .i64 a1_8) := (blk_cell BK209.out 8).trans rfl; have hcz30_9 : w27.cell? ⟨gb209, 9, none⟩ = some (.int .i64 a1_9) := (blk_cell BK209.out 9).trans rfl; have hcz30_10 : w27.cell? ⟨gb209, 10, none⟩ = some (.slice A1_10 l1_10.length c1_10) := (blk_cell BK209.out 10).trans rfl; have hfz30_0 := blk_frozen BK209.out 0; have hfz30_1 := blk_frozen BK209.out 1; have hfz30_2 := blk_frozen BK209.out 2; have hfz30_3 := blk_frozen BK209.out 3; have hfz30_4 := blk_frozen BK209.out 4; have hfz30_5 := blk_frozen BK209.out 5; have hfz30_6 := blk_frozen BK209.out 6; have hfz30_7 := blk_frozen BK209.out 7; have hfz30_8 := blk_frozen BK209.out 8; have hfz30_9 := blk_frozen BK209.out 9; have hfz30_10 := blk_frozen BK209.out 10))
          go_ret
          exact ⟨by first | rfl | (simp [errW_none, errW_some] <;> rfl) | (simp [*, errW_none, errW_some] <;> rfl), by repeat (first | (with_reducible first | exact HB.out | apply below_alloc | apply pw_below_drewN | apply below_drew1 | refine below_set ?_ GE208.out | refine below_set ?_ GE209.out) | exact HB.out)⟩
      · rw [if_neg c5] at H
        have c5b0 : (a0_2 == a1_2 && (a0_3 == a1_3)) = false := by simpa using c5
        (try (have c5b1 : decide (a0_2 = a1_2 && (a0_3 == a1_3)) = false := by simpa using c5))
        (try (have c5b2 : (a0_2 == a1_2 && (a0_3 == a1_3)) = false := by simpa using c5))
        (try (have c5b3 : ¬ (a0_2 = a1_2 && (a0_3 == a1_3)) := by simpa using c5))
        clear c5
        obtain rfl := Option.some.inj H
        go_enter Tryd.func40, Tryd.ntmps40
        go_wp2_with (first | ((with_reducible refine gate_dst (N := 2) rfl ?_); refine box_event ?hg (N := 2) ?hd (cs := #[.int .i64 a0_0, .int .i64 a0_1, .int .i64 a0_2, .int .i64 a0_3, .int .i64 a0_4, .string a0_5, .int .i64 a0_6, .int .i64 a0_7, .int .i64 a0_8, .int .i64 a0_9, .slice A0_10 l0_10.length c0_10]) (t := 48) ?hr ?_; (case hd => rfl); (case hg => rfl); (case hr => first | (go_simp; done) | (go_simp; rfl)); intro gb208 hg w31 hbox hb; have n0_ := Aside0.mk (below_step (by repeat (first | (with_reducible first | exact HB.out | apply below_alloc | apply pw_below_drewN | apply below_drew1) | exact HB.out)) hb); have n1_ := Aside0.mk (hbox); have n2_ := Aside0.mk ((by rw [hg]; exact (below_size (by repeat (first | (with_reducible first | exact HB.out | apply below_alloc | apply pw_below_drewN | apply below_drew1) | exact HB.out))) : w.heap.size ≤ gb208)); have n3_ := Aside0.mk ((by rw [hg]; exact (below_size (by repeat (first | (with_reducible first | exact HB.out | apply below_alloc | apply pw_below_drewN | apply below_drew1) | exact HB.out))) : w.heap.size ≤ gb208)); clear HB; have HB := n0_; have BK208 := n1_; have GW208 := n2_; have GE208 := n3_; clear n0_ n1_ n2_ n3_; clear hb hbox hg) | ((with_reducible refine gate_dst (N := 3) rfl ?_); refine box_event ?hg (N := 3) ?hd (cs := #[.int .i64 a1_0, .int .i64 a1_1, .int .i64 a1_2, .int .i64 a1_3, .int .i64 a1_4, .string a1_5, .int .i64 a1_6, .int .i64 a1_7, .int .i64 a1_8, .int .i64 a1_9, .slice A1_10 l1_10.length c1_10]) (t := 48) ?hr ?_; (case hd => rfl); (case hg => rfl); (case hr => first | (go_simp; done) | (go_simp; rfl)); intro gb209 hg w32 hbox hb; have n0_ := Aside0.mk (blk_below (g := gb208) (o := .cells #[.int .i64 a0_0, .int .i64 a0_1, .int .i64 a0_2, .int .i64 a0_3, .int .i64 a0_4, .string a0_5, .int .i64 a0_6, .int .i64 a0_7, .int .i64 a0_8, .int .i64 a0_9, .slice A0_10 l0_10.length c0_10] 48 (0, 0)) (by (with_reducible repeat (first | refine blk_drewN ?_ _ | refine blk_drew ?_ | refine blk_alloc ?_ _)); exact BK208.out) hb); have n1_ := Aside0.mk (below_step (by repeat (first | (with_reducible first | exact HB.out | apply below_alloc | apply pw_below_drewN | apply below_drew1 | refine below_set ?_ GE208.out) | exact HB.out)) hb); have n2_ := Aside0.mk (hbox); have n3_ := Aside0.mk ((by rw [hg]; exact (below_size (by repeat (first | (with_reducible first | exact HB.out | apply below_alloc | apply pw_below_drewN | apply below_drew1 | refine below_set ?_ GE208.out) | exact HB.out))) : w.heap.size ≤ gb209)); have n4_ := Aside0.mk ((by rw [hg]; exact (below_size (by repeat (first | (with_reducible first | exact HB.out | apply below_alloc | apply pw_below_drewN | apply below_drew1 | refine below_set ?_ GE208.out) | exact HB.out))) : w.heap.size ≤ gb209)); have n5_ := Aside0.mk ((by rw [hg]; exact Nat.ne_of_lt (blk_lt (g := gb208) (o := .cells #[.int .i64 a0_0, .int .i64 a0_1, .int .i64 a0_2, .int .i64 a0_3, .int .i64 a0_4, .string a0_5, .int .i64 a0_6, .int .i64 a0_7, .int .i64 a0_8, .int .i64 a0_9, .slice A0_10 l0_10.length c0_10] 48 (0, 0)) (by (with_reducible repeat (first | refine blk_drewN ?_ _ | refine blk_drew ?_ | refine blk_alloc ?_ _)); exact BK208.out)) : gb208 ≠ gb209)); have n6_ := Aside0.mk ((by rw [hg]; exact Nat.ne_of_gt (blk_lt (g := gb208) (o := .cells #[.int .i64 a0_0, .int .i64 a0_1, .int .i64 a0_2, .int .i64 a0_3, .int .i64 a0_4, .string a0_5, .int .i64 a0_6, .int .i64 a0_7, .int .i64 a0_8, .int .i64 a0_9, .slice A0_10 l0_10.length c0_10] 48 (0, 0)) (by (with_reducible repeat (first | refine blk_drewN ?_ _ | refine blk_drew ?_ | refine blk_alloc ?_ _)); exact BK208.out)) : gb209 ≠ gb208)); clear BK208; clear HB; have BK208 := n0_; have HB := n1_; have BK209 := n2_; have GW209 := n3_; have GE209 := n4_; have NB208_209 := n5_; have NB209_208 := n6_; clear n0_ n1_ n2_ n3_ n4_ n5_ n6_; clear hb hbox hg; have hnb33 := NB208_209.out; have hnc33 := NB209_208.out; have hcz34_0 : w32.cell? ⟨gb208, 0, none⟩ = some (.int .i64 a0_0) := (blk_cell BK208.out 0).trans rfl; have hcz34_1 : w32.cell? ⟨gb208, 1, none⟩ = some (.int .i64 a0_1) := (blk_cell BK208.out 1).trans rfl; have hcz34_2 : w32.cell? ⟨gb208, 2, none⟩ = some (.int .i64 a0_2) := (blk_cell BK208.out 2).trans rfl; have hcz34_3 : w32.cell? ⟨gb208, 3, none⟩ = some (.int .i64 a0_3) := (blk_cell BK208.out 3).trans rfl; have hcz34_4 : w32.cell? ⟨gb208, 4, none⟩ = some (.int .i64 a0_4) := (blk_cell BK208.out 4).trans rfl; have hcz34_5 : w32.cell? ⟨gb208, 5, none⟩ = some (.string a0_5) := (blk_cell BK208.out 5).trans rfl; have hcz34_6 : w32.cell? ⟨gb208, 6, none⟩ = some (.int .i64 a0_6) := (blk_cell BK208.out 6).trans rfl; have hcz34_7 : w32.cell? ⟨gb208, 7, none⟩ = some (.int .i64 a0_7) := (blk_cell BK208.out 7).trans rfl; have hcz34_8 : w32.cell? ⟨gb208, 8, none⟩ = some (.int .i64 a0_8) := (blk_cell BK208.out 8).trans rfl; have hcz34_9 : w32.cell? ⟨gb208, 9, none⟩ = some (.int .i64 a0_9) := (blk_cell BK208.out 9).trans rfl; have hcz34_10 : w32.cell? ⟨gb208, 10, none⟩ = some (.slice A0_10 l0_10.length c0_10) := (blk_cell BK208.out 10).trans rfl; have hfz34_0 := blk_frozen BK208.out 0; have hfz34_1 := blk_frozen BK208.out 1; have hfz34_2 := blk_frozen BK208.out 2; have hfz34_3 := blk_frozen BK208.out 3; have hfz34_4 := blk_frozen BK208.out 4; have hfz34_5 := blk_frozen BK208.out 5; have hfz34_6 := blk_frozen BK208.out 6; have hfz34_7 := blk_frozen BK208.out 7; have hfz34_8 := blk_frozen BK208.out 8; have hfz34_9 := blk_frozen BK208.out 9; have hfz34_10 := blk_frozen BK208.out 10; have hcz35_0 : w32.cell? ⟨gb209, 0, none⟩ = some (.int .i64 a1_0) := (blk_cell BK209.out 0).trans rfl; have hcz35_1 : w32.cell? ⟨gb209, 1, none⟩ = some (.int .i64 a1_1) := (blk_cell BK209.out 1).trans rfl; have hcz35_2 : w32.cell? ⟨gb209, 2, none⟩ = some (.int .i64 a1_2) := (blk_cell BK209.out 2).trans rfl; have hcz35_3 : w32.cell? ⟨gb209, 3, none⟩ = some (.int .i64 a1_3) := (blk_cell BK209.out 3).trans rfl; have hcz35_4 : w32.cell? ⟨gb209, 4, none⟩ = some (.int .i64 a1_4) := (blk_cell BK209.out 4).trans rfl; have hcz35_5 : w32.cell? ⟨gb209, 5, none⟩ = some (.string a1_5) := (blk_cell BK209.out 5).trans rfl; have hcz35_6 : w32.cell? ⟨gb209, 6, none⟩ = some (.int .i64 a1_6) := (blk_cell BK209.out 6).trans rfl; have hcz35_7 : w32.cell? ⟨gb209, 7, none⟩ = some (.int .i64 a1_7) := (blk_cell BK209.out 7).trans rfl; have hcz35_8 : w32.cell? ⟨gb209, 8, none⟩ = some (.int .i64 a1_8) := (blk_cell BK209.out 8).trans rfl; have hcz35_9 : w32.cell? ⟨gb209, 9, none⟩ = some (.int .i64 a1_9) := (blk_cell BK209.out 9).trans rfl; have hcz35_10 : w32.cell? ⟨gb209, 10, none⟩ = some (.slice A1_10 l1_10.length c1_10) := (blk_cell BK209.out 10).trans rfl; have hfz35_0 := blk_frozen BK209.out 0; have hfz35_1 := blk_frozen BK209.out 1; have hfz35_2 := blk_frozen BK209.out 2; have hfz35_3 := blk_frozen BK209.out 3; have hfz35_4 := blk_frozen BK209.out 4; have hfz35_5 := blk_frozen BK209.out 5; have hfz35_6 := blk_frozen BK209.out 6; have hfz35_7 := blk_frozen BK209.out 7; have hfz35_8 := blk_frozen BK209.out 8; have hfz35_9 := blk_frozen BK209.out 9; have hfz35_10 := blk_frozen BK209.out 10))
        go_ret
        exact ⟨by first | rfl | (simp [errW_none, errW_some] <;> rfl) | (simp [*, errW_none, errW_some] <;> rfl), by repeat (first | (with_reducible first | exact HB.out | apply below_alloc | apply pw_below_drewN | apply below_drew1 | refine below_set ?_ GE208.out | refine below_set ?_ GE209.out) | exact HB.out)⟩
    · rw [if_neg c4] at H
      have c4b0 : (a0_1 == a1_1) = false := beq_eq_false_iff_ne.mpr c4
      have c4b1 : (a0_1 != a1_1) = true := bne_iff_ne.mpr c4
      obtain rfl := Option.some.inj H
      go_enter Tryd.func40, Tryd.ntmps40
      go_wp2_with (first | ((with_reducible refine gate_dst (N := 2) rfl ?_); refine box_event ?hg (N := 2) ?hd (cs := #[.int .i64 a0_0, .int .i64 a0_1, .int .i64 a0_2, .int .i64 a0_3, .int .i64 a0_4, .string a0_5, .int .i64 a0_6, .int .i64 a0_7, .int .i64 a0_8, .int .i64 a0_9, .slice A0_10 l0_10.length c0_10]) (t := 48) ?hr ?_; (case hd => rfl); (case hg => rfl); (case hr => first | (go_simp; done) | (go_simp; rfl)); intro gb208 hg w36 hbox hb; have n0_ := Aside0.mk (below_step (by repeat (first | (with_reducible first | exact HB.out | apply below_alloc | apply pw_below_drewN | apply below_drew1) | exact HB.out)) hb); have n1_ := Aside0.mk (hbox); have n2_ := Aside0.mk ((by rw [hg]; exact (below_size (by repeat (first | (with_reducible first | exact HB.out | apply below_alloc | apply pw_below_drewN | apply below_drew1) | exact HB.out))) : w.heap.size ≤ gb208)); have n3_ := Aside0.mk ((by rw [hg]; exact (below_size (by repeat (first | (with_reducible first | exact HB.out | apply below_alloc | apply pw_below_drewN | apply below_drew1) | exact HB.out))) : w.heap.size ≤ gb208)); clear HB; have HB := n0_; have BK208 := n1_; have GW208 := n2_; have GE208 := n3_; clear n0_ n1_ n2_ n3_; clear hb hbox hg) | ((with_reducible refine gate_dst (N := 3) rfl ?_); refine box_event ?hg (N := 3) ?hd (cs := #[.int .i64 a1_0, .int .i64 a1_1, .int .i64 a1_2, .int .i64 a1_3, .int .i64 a1_4, .string a1_5, .int .i64 a1_6, .int .i64 a1_7, .int .i64 a1_8, .int .i64 a1_9, .slice A1_10 l1_10.length c1_10]) (t := 48) ?hr ?_; (case hd => rfl); (case hg => rfl); (case hr => first | (go_simp; done) | (go_simp; rfl)); intro gb209 hg w37 hbox hb; have n0_ := Aside0.mk (blk_below (g := gb208) (o := .cells #[.int .i64 a0_0, .int .i64 a0_1, .int .i64 a0_2, .int .i64 a0_3, .int .i64 a0_4, .string a0_5, .int .i64 a0_6, .int .i64 a0_7, .int .i64 a0_8, .int .i64 a0_9, .slice A0_10 l0_10.length c0_10] 48 (0, 0)) (by (with_reducible repeat (first | refine blk_drewN ?_ _ | refine blk_drew ?_ | refine blk_alloc ?_ _)); exact BK208.out) hb); have n1_ := Aside0.mk (below_step (by repeat (first | (with_reducible first | exact HB.out | apply below_alloc | apply pw_below_drewN | apply below_drew1 | refine below_set ?_ GE208.out) | exact HB.out)) hb); have n2_ := Aside0.mk (hbox); have n3_ := Aside0.mk ((by rw [hg]; exact (below_size (by repeat (first | (with_reducible first | exact HB.out | apply below_alloc | apply pw_below_drewN | apply below_drew1 | refine below_set ?_ GE208.out) | exact HB.out))) : w.heap.size ≤ gb209)); have n4_ := Aside0.mk ((by rw [hg]; exact (below_size (by repeat (first | (with_reducible first | exact HB.out | apply below_alloc | apply pw_below_drewN | apply below_drew1 | refine below_set ?_ GE208.out) | exact HB.out))) : w.heap.size ≤ gb209)); have n5_ := Aside0.mk ((by rw [hg]; exact Nat.ne_of_lt (blk_lt (g := gb208) (o := .cells #[.int .i64 a0_0, .int .i64 a0_1, .int .i64 a0_2, .int .i64 a0_3, .int .i64 a0_4, .string a0_5, .int .i64 a0_6, .int .i64 a0_7, .int .i64 a0_8, .int .i64 a0_9, .slice A0_10 l0_10.length c0_10] 48 (0, 0)) (by (with_reducible repeat (first | refine blk_drewN ?_ _ | refine blk_drew ?_ | refine blk_alloc ?_ _)); exact BK208.out)) : gb208 ≠ gb209)); have n6_ := Aside0.mk ((by rw [hg]; exact Nat.ne_of_gt (blk_lt (g := gb208) (o := .cells #[.int .i64 a0_0, .int .i64 a0_1, .int .i64 a0_2, .int .i64 a0_3, .int .i64 a0_4, .string a0_5, .int .i64 a0_6, .int .i64 a0_7, .int .i64 a0_8, .int .i64 a0_9, .slice A0_10 l0_10.length c0_10] 48 (0, 0)) (by (with_reducible repeat (first | refine blk_drewN ?_ _ | refine blk_drew ?_ | refine blk_alloc ?_ _)); exact BK208.out)) : gb209 ≠ gb208)); clear BK208; clear HB; have BK208 := n0_; have HB := n1_; have BK209 := n2_; have GW209 := n3_; have GE209 := n4_; have NB208_209 := n5_; have NB209_208 := n6_; clear n0_ n1_ n2_ n3_ n4_ n5_ n6_; clear hb hbox hg; have hnb38 := NB208_209.out; have hnc38 := NB209_208.out; have hcz39_0 : w37.cell? ⟨gb208, 0, none⟩ = some (.int .i64 a0_0) := (blk_cell BK208.out 0).trans rfl; have hcz39_1 : w37.cell? ⟨gb208, 1, none⟩ = some (.int .i64 a0_1) := (blk_cell BK208.out 1).trans rfl; have hcz39_2 : w37.cell? ⟨gb208, 2, none⟩ = some (.int .i64 a0_2) := (blk_cell BK208.out 2).trans rfl; have hcz39_3 : w37.cell? ⟨gb208, 3, none⟩ = some (.int .i64 a0_3) := (blk_cell BK208.out 3).trans rfl; have hcz39_4 : w37.cell? ⟨gb208, 4, none⟩ = some (.int .i64 a0_4) := (blk_cell BK208.out 4).trans rfl; have hcz39_5 : w37.cell? ⟨gb208, 5, none⟩ = some (.string a0_5) := (blk_cell BK208.out 5).trans rfl; have hcz39_6 : w37.cell? ⟨gb208, 6, none⟩ = some (.int .i64 a0_6) := (blk_cell BK208.out 6).trans rfl; have hcz39_7 : w37.cell? ⟨gb208, 7, none⟩ = some (.int .i64 a0_7) := (blk_cell BK208.out 7).trans rfl; have hcz39_8 : w37.cell? ⟨gb208, 8, none⟩ = some (.int .i64 a0_8) := (blk_cell BK208.out 8).trans rfl; have hcz39_9 : w37.cell? ⟨gb208, 9, none⟩ = some (.int .i64 a0_9) := (blk_cell BK208.out 9).trans rfl; have hcz39_10 : w37.cell? ⟨gb208, 10, none⟩ = some (.slice A0_10 l0_10.length c0_10) := (blk_cell BK208.out 10).trans rfl; have hfz39_0 := blk_frozen BK208.out 0; have hfz39_1 := blk_frozen BK208.out 1; have hfz39_2 := blk_frozen BK208.out 2; have hfz39_3 := blk_frozen BK208.out 3; have hfz39_4 := blk_frozen BK208.out 4; have hfz39_5 := blk_frozen BK208.out 5; have hfz39_6 := blk_frozen BK208.out 6; have hfz39_7 := blk_frozen BK208.out 7; have hfz39_8 := blk_frozen BK208.out 8; have hfz39_9 := blk_frozen BK208.out 9; have hfz39_10 := blk_frozen BK208.out 10; have hcz40_0 : w37.cell? ⟨gb209, 0, none⟩ = some (.int .i64 a1_0) := (blk_cell BK209.out 0).trans rfl; have hcz40_1 : w37.cell? ⟨gb209, 1, none⟩ = some (.int .i64 a1_1) := (blk_cell BK209.out 1).trans rfl; have hcz40_2 : w37.cell? ⟨gb209, 2, none⟩ = some (.int .i64 a1_2) := (blk_cell BK209.out 2).trans rfl; have hcz40_3 : w37.cell? ⟨gb209, 3, none⟩ = some (.int .i64 a1_3) := (blk_cell BK209.out 3).trans rfl; have hcz40_4 : w37.cell? ⟨gb209, 4, none⟩ = some (.int .i64 a1_4) := (blk_cell BK209.out 4).trans rfl; have hcz40_5 : w37.cell? ⟨gb209, 5, none⟩ = some (.string a1_5) := (blk_cell BK209.out 5).trans rfl; have hcz40_6 : w37.cell? ⟨gb209, 6, none⟩ = some (.int .i64 a1_6) := (blk_cell BK209.out 6).trans rfl; have hcz40_7 : w37.cell? ⟨gb209, 7, none⟩ = some (.int .i64 a1_7) := (blk_cell BK209.out 7).trans rfl; have hcz40_8 : w37.cell? ⟨gb209, 8, none⟩ = some (.int .i64 a1_8) := (blk_cell BK209.out 8).trans rfl; have hcz40_9 : w37.cell? ⟨gb209, 9, none⟩ = some (.int .i64 a1_9) := (blk_cell BK209.out 9).trans rfl; have hcz40_10 : w37.cell? ⟨gb209, 10, none⟩ = some (.slice A1_10 l1_10.length c1_10) := (blk_cell BK209.out 10).trans rfl; have hfz40_0 := blk_frozen BK209.out 0; have hfz40_1 := blk_frozen BK209.out 1; have hfz40_2 := blk_frozen BK209.out 2; have hfz40_3 := blk_frozen BK209.out 3; have hfz40_4 := blk_frozen BK209.out 4; have hfz40_5 := blk_frozen BK209.out 5; have hfz40_6 := blk_frozen BK209.out 6; have hfz40_7 := blk_frozen BK209.out 7; have hfz40_8 := blk_frozen BK209.out 8; have hfz40_9 := blk_frozen BK209.out 9; have hfz40_10 := blk_frozen BK209.out 10))
      go_ret
      exact ⟨by first | rfl | (simp [errW_none, errW_some] <;> rfl) | (simp [*, errW_none, errW_some] <;> rfl), by repeat (first | (with_reducible first | exact HB.out | apply below_alloc | apply pw_below_drewN | apply below_drew1 | refine below_set ?_ GE208.out | refine below_set ?_ GE209.out) | exact HB.out)⟩
  · rw [if_neg c3] at H
    have c3b0 : (a0_0 == a1_0) = false := beq_eq_false_iff_ne.mpr c3
    have c3b1 : (a0_0 != a1_0) = true := bne_iff_ne.mpr c3
    obtain rfl := Option.some.inj H
    go_enter Tryd.func40, Tryd.ntmps40
    go_wp2_with (first | ((with_reducible refine gate_dst (N := 2) rfl ?_); refine box_event ?hg (N := 2) ?hd (cs := #[.int .i64 a0_0, .int .i64 a0_1, .int .i64 a0_2, .int .i64 a0_3, .int .i64 a0_4, .string a0_5, .int .i64 a0_6, .int .i64 a0_7, .int .i64 a0_8, .int .i64 a0_9, .slice A0_10 l0_10.length c0_10]) (t := 48) ?hr ?_; (case hd => rfl); (case hg => rfl); (case hr => first | (go_simp; done) | (go_simp; rfl)); intro gb208 hg w41 hbox hb; have n0_ := Aside0.mk (below_step (by repeat (first | (with_reducible first | exact HB.out | apply below_alloc | apply pw_below_drewN | apply below_drew1) | exact HB.out)) hb); have n1_ := Aside0.mk (hbox); have n2_ := Aside0.mk ((by rw [hg]; exact (below_size (by repeat (first | (with_reducible first | exact HB.out | apply below_alloc | apply pw_below_drewN | apply below_drew1) | exact HB.out))) : w.heap.size ≤ gb208)); have n3_ := Aside0.mk ((by rw [hg]; exact (below_size (by repeat (first | (with_reducible first | exact HB.out | apply below_alloc | apply pw_below_drewN | apply below_drew1) | exact HB.out))) : w.heap.size ≤ gb208)); clear HB; have HB := n0_; have BK208 := n1_; have GW208 := n2_; have GE208 := n3_; clear n0_ n1_ n2_ n3_; clear hb hbox hg) | ((with_reducible refine gate_dst (N := 3) rfl ?_); refine box_event ?hg (N := 3) ?hd (cs := #[.int .i64 a1_0, .int .i64 a1_1, .int .i64 a1_2, .int .i64 a1_3, .int .i64 a1_4, .string a1_5, .int .i64 a1_6, .int .i64 a1_7, .int .i64 a1_8, .int .i64 a1_9, .slice A1_10 l1_10.length c1_10]) (t := 48) ?hr ?_; (case hd => rfl); (case hg => rfl); (case hr => first | (go_simp; done) | (go_simp; rfl)); intro gb209 hg w42 hbox hb; have n0_ := Aside0.mk (blk_below (g := gb208) (o := .cells #[.int .i64 a0_0, .int .i64 a0_1, .int .i64 a0_2, .int .i64 a0_3, .int .i64 a0_4, .string a0_5, .int .i64 a0_6, .int .i64 a0_7, .int .i64 a0_8, .int .i64 a0_9, .slice A0_10 l0_10.length c0_10] 48 (0, 0)) (by (with_reducible repeat (first | refine blk_drewN ?_ _ | refine blk_drew ?_ | refine blk_alloc ?_ _)); exact BK208.out) hb); have n1_ := Aside0.mk (below_step (by repeat (first | (with_reducible first | exact HB.out | apply below_alloc | apply pw_below_drewN | apply below_drew1 | refine below_set ?_ GE208.out) | exact HB.out)) hb); have n2_ := Aside0.mk (hbox); have n3_ := Aside0.mk ((by rw [hg]; exact (below_size (by repeat (first | (with_reducible first | exact HB.out | apply below_alloc | apply pw_below_drewN | apply below_drew1 | refine below_set ?_ GE208.out) | exact HB.out))) : w.heap.size ≤ gb209)); have n4_ := Aside0.mk ((by rw [hg]; exact (below_size (by repeat (first | (with_reducible first | exact HB.out | apply below_alloc | apply pw_below_drewN | apply below_drew1 | refine below_set ?_ GE208.out) | exact HB.out))) : w.heap.size ≤ gb209)); have n5_ := Aside0.mk ((by rw [hg]; exact Nat.ne_of_lt (blk_lt (g := gb208) (o := .cells #[.int .i64 a0_0, .int .i64 a0_1, .int .i64 a0_2, .int .i64 a0_3, .int .i64 a0_4, .string a0_5, .int .i64 a0_6, .int .i64 a0_7, .int .i64 a0_8, .int .i64 a0_9, .slice A0_10 l0_10.length c0_10] 48 (0, 0)) (by (with_reducible repeat (first | refine blk_drewN ?_ _ | refine blk_drew ?_ | refine blk_alloc ?_ _)); exact BK208.out)) : gb208 ≠ gb209)); have n6_ := Aside0.mk ((by rw [hg]; exact Nat.ne_of_gt (blk_lt (g := gb208) (o := .cells #[.int .i64 a0_0, .int .i64 a0_1, .int .i64 a0_2, .int .i64 a0_3, .int .i64 a0_4, .string a0_5, .int .i64 a0_6, .int .i64 a0_7, .int .i64 a0_8, .int .i64 a0_9, .slice A0_10 l0_10.length c0_10] 48 (0, 0)) (by (with_reducible repeat (first | refine blk_drewN ?_ _ | refine blk_drew ?_ | refine blk_alloc ?_ _)); exact BK208.out)) : gb209 ≠ gb208)); clear BK208; clear HB; have BK208 := n0_; have HB := n1_; have BK209 := n2_; have GW209 := n3_; have GE209 := n4_; have NB208_209 := n5_; have NB209_208 := n6_; clear n0_ n1_ n2_ n3_ n4_ n5_ n6_; clear hb hbox hg; have hnb43 := NB208_209.out; have hnc43 := NB209_208.out; have hcz44_0 : w42.cell? ⟨gb208, 0, none⟩ = some (.int .i64 a0_0) := (blk_cell BK208.out 0).trans rfl; have hcz44_1 : w42.cell? ⟨gb208, 1, none⟩ = some (.int .i64 a0_1) := (blk_cell BK208.out 1).trans rfl; have hcz44_2 : w42.cell? ⟨gb208, 2, none⟩ = some (.int .i64 a0_2) := (blk_cell BK208.out 2).trans rfl; have hcz44_3 : w42.cell? ⟨gb208, 3, none⟩ = some (.int .i64 a0_3) := (blk_cell BK208.out 3).trans rfl; have hcz44_4 : w42.cell? ⟨gb208, 4, none⟩ = some (.int .i64 a0_4) := (blk_cell BK208.out 4).trans rfl; have hcz44_5 : w42.cell? ⟨gb208, 5, none⟩ = some (.string a0_5) := (blk_cell BK208.out 5).trans rfl; have hcz44_6 : w42.cell? ⟨gb208, 6, none⟩ = some (.int .i64 a0_6) := (blk_cell BK208.out 6).trans rfl; have hcz44_7 : w42.cell? ⟨gb208, 7, none⟩ = some (.int .i64 a0_7) := (blk_cell BK208.out 7).trans rfl; have hcz44_8 : w42.cell? ⟨gb208, 8, none⟩ = some (.int .i64 a0_8) := (blk_cell BK208.out 8).trans rfl; have hcz44_9 : w42.cell? ⟨gb208, 9, none⟩ = some (.int .i64 a0_9) := (blk_cell BK208.out 9).trans rfl; have hcz44_10 : w42.cell? ⟨gb208, 10, none⟩ = some (.slice A0_10 l0_10.length c0_10) := (blk_cell BK208.out 10).trans rfl; have hfz44_0 := blk_frozen BK208.out 0; have hfz44_1 := blk_frozen BK208.out 1; have hfz44_2 := blk_frozen BK208.out 2; have hfz44_3 := blk_frozen BK208.out 3; have hfz44_4 := blk_frozen BK208.out 4; have hfz44_5 := blk_frozen BK208.out 5; have hfz44_6 := blk_frozen BK208.out 6; have hfz44_7 := blk_frozen BK208.out 7; have hfz44_8 := blk_frozen BK208.out 8; have hfz44_9 := blk_frozen BK208.out 9; have hfz44_10 := blk_frozen BK208.out 10; have hcz45_0 : w42.cell? ⟨gb209, 0, none⟩ = some (.int .i64 a1_0) := (blk_cell BK209.out 0).trans rfl; have hcz45_1 : w42.cell? ⟨gb209, 1, none⟩ = some (.int .i64 a1_1) := (blk_cell BK209.out 1).trans rfl; have hcz45_2 : w42.cell? ⟨gb209, 2, none⟩ = some (.int .i64 a1_2) := (blk_cell BK209.out 2).trans rfl; have hcz45_3 : w42.cell? ⟨gb209, 3, none⟩ = some (.int .i64 a1_3) := (blk_cell BK209.out 3).trans rfl; have hcz45_4 : w42.cell? ⟨gb209, 4, none⟩ = some (.int .i64 a1_4) := (blk_cell BK209.out 4).trans rfl; have hcz45_5 : w42.cell? ⟨gb209, 5, none⟩ = some (.string a1_5) := (blk_cell BK209.out 5).trans rfl; have hcz45_6 : w42.cell? ⟨gb209, 6, none⟩ = some (.int .i64 a1_6) := (blk_cell BK209.out 6).trans rfl; have hcz45_7 : w42.cell? ⟨gb209, 7, none⟩ = some (.int .i64 a1_7) := (blk_cell BK209.out 7).trans rfl; have hcz45_8 : w42.cell? ⟨gb209, 8, none⟩ = some (.int .i64 a1_8) := (blk_cell BK209.out 8).trans rfl; have hcz45_9 : w42.cell? ⟨gb209, 9, none⟩ = some (.int .i64 a1_9) := (blk_cell BK209.out 9).trans rfl; have hcz45_10 : w42.cell? ⟨gb209, 10, none⟩ = some (.slice A1_10 l1_10.length c1_10) := (blk_cell BK209.out 10).trans rfl; have hfz45_0 := blk_frozen BK209.out 0; have hfz45_1 := blk_frozen BK209.out 1; have hfz45_2 := blk_frozen BK209.out 2; have hfz45_3 := blk_frozen BK209.out 3; have hfz45_4 := blk_frozen BK209.out 4; have hfz45_5 := blk_frozen BK209.out 5; have hfz45_6 := blk_frozen BK209.out 6; have hfz45_7 := blk_frozen BK209.out 7; have hfz45_8 := blk_frozen BK209.out 8; have hfz45_9 := blk_frozen BK209.out 9; have hfz45_10 := blk_frozen BK209.out 10))
    go_ret
    exact ⟨by first | rfl | (simp [errW_none, errW_some] <;> rfl) | (simp [*, errW_none, errW_some] <;> rfl), by repeat (first | (with_reducible first | exact HB.out | apply below_alloc | apply pw_below_drewN | apply below_drew1 | refine below_set ?_ GE208.out | refine below_set ?_ GE209.out) | exact HB.out)⟩

end Go.Proofs.YtnbfebjcfhbhiaaDoor.P
end
