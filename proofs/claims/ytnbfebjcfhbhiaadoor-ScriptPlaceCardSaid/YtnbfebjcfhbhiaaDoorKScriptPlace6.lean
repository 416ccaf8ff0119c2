/- texts that the proof needs, laid together by a program of this session. -/
import Derived.Test.YtnbfebjcfhbhiaaDoorKScriptPlace5
section
namespace Go.Proofs.YtnbfebjcfhbhiaaDoor.P
open Go.RowKit Go.Proofs.YtnbfebjcfhbhiaaDoorW.PrintWords Go.Proofs.YtnbfebjcfhbhiaaDoorW.PrintLast Go.Proofs.YtnbfebjcfhbhiaaDoorW.PrintMore
attribute [local go_sem] max2_int min2_int max_two min_two max_three min_three max_four min_four   -- for this text's walks alone
set_option linter.unusedVariables false
set_option linter.unusedSimpArgs false

attribute [local go_sem high] eqA43 eqA45
def script_sign.l0 : Nat → ByteArray → Int → Int → Option (Int × Int × Bool)
  | 0, _, _, _ => none
  | k + 1, x0, x2, x3 => if x3 < 3 then (if x3 ≥ (x0.size : Int) then (some (0, x3, false)) else (if 0 ≤ x3 then (if x3 < (x0.size : Int) then ((strings_IndexByte.f (⟨#[48, 49, 50, 51, 52, 53, 54, 55, 56, 57, 65, 66, 67, 68, 69, 70]⟩ : ByteArray) (bt x0 x3)).bind fun t176 => (if t176 < 0 then (some (0, x3, false)) else (script_sign.l0 k x0 (Go.bits .or .u8 ((x2 * 16) % 256) ((t176) % 256)) (wrap64 (x3 + 1))))) else (none)) else (none))) else ((script_plain.f x2).bind fun t175 => (if t175 = true then (some (0, 2, false)) else (some (x2, 3, true))))
def script_sign.f (k : Nat) (a0 : ByteArray) : Option (Int × Int × Bool) := if a0.toList = ([] : List UInt8) then (some (0, 0, false)) else (if 0 < (a0.size : Int) then ((script_plain.f (bt a0 0)).bind fun t174 => (if t174 = true then (some (bt a0 0, 1, true)) else (if (bt a0 0) = 37 then (script_sign.l0 k a0 0 1) else (some (0, 0, false))))) else (none))
set_option maxHeartbeats 8000000 in
set_option maxRecDepth 100000 in
theorem script_sign.calls (k : Nat) (a0 : ByteArray) (r1 : Int) (r2 : Int) (r3 : Bool) (w : World) (h : script_sign.f k a0 = some (r1, r2, r3)) :
    Calls Tryd.prog 97 #[.string a0] w fun e w' => e = .returned (.tuple #[.int .u8 r1, .int .i64 r2, .bool r3]) ∧ Drawn0 w w' := by
  have H : (if a0.toList = ([] : List UInt8) then (some (0, 0, false)) else (if 0 < (a0.size : Int) then ((script_plain.f (bt a0 0)).bind fun t174 => (if t174 = true then (some (bt a0 0, 1, true)) else (if (bt a0 0) = 37 then (script_sign.l0 k a0 0 1) else (some (0, 0, false))))) else (none))) = some (r1, r2, r3) := h
  clear h
  by_cases c2 : a0.toList = ([] : List UInt8)
  · rw [if_pos c2] at H
    have c2b0 : (a0.toList == ([] : List UInt8)) = true := beq_iff_eq.mpr c2
    have c2b1 : (a0.toList != ([] : List UInt8)) = false := bne_eq_false_iff_eq.mpr c2
    clear c2
    simp only [Option.some.injEq, Prod.mk.injEq] at H
    obtain ⟨rfl, rfl, rfl⟩ := H
    go_enter Tryd.func97, Tryd.ntmps97
    go_wp2
    go_ret3
    exact ⟨by first | rfl | (simp; done) | (simp [*]; done), by repeat (first | exact Drawn0.refl _ | apply Drawn0.step)⟩
  · rw [if_neg c2] at H
    have c2b0 : (a0.toList == ([] : List UInt8)) = false := beq_eq_false_iff_ne.mpr c2
    have c2b1 : (a0.toList != ([] : List UInt8)) = true := bne_iff_ne.mpr c2
    by_cases c3 : 0 < (a0.size : Int)
    · rw [if_pos c3] at H
      have c3b0 : decide (0 < (a0.size : Int)) = true := decide_eq_true c3
      have c3b1 : decide (0 < a0.size) = true := decide_eq_true (by omega)
      clear c3
      replace H := Option.bind_eq_some_iff.mp H
      obtain ⟨t174, A50, H⟩ := H
      replace H : (if t174 = true then (some (bt a0 0, 1, true)) else (if (bt a0 0) = 37 then (script_sign.l0 k a0 0 1) else (some (0, 0, false)))) = some (r1, r2, r3) := H
      have A5 := Aside0.mk A50
      clear A50
      by_cases c6 : t174 = true
      · subst c6
        have H1 : (some (bt a0 0, 1, true)) = some (r1, r2, r3) := by rw [if_pos rfl] at H; exact H
        clear H
        have H := H1
        clear H1
        simp only [Option.some.injEq, Prod.mk.injEq] at H
        obtain ⟨rfl, rfl, rfl⟩ := H
        have p4 : 0 ≤ (0 : Int) := (by omega)
        have q4 : 0 < a0.size := (by have : (0 : Int) < (a0.size : Int) := of_decide_eq_true (by first | (with_reducible assumption) | assumption); omega)
        have hx4 : ∀ h : 0 < a0.size, ((a0[0]'h).toNat : Int) = bt a0 0 := bt_at a0 0
        clear p4
        have qi4 : (0 < (a0.size : Int)) = True := eq_true (of_decide_eq_true (by first | (with_reducible assumption) | assumption))
        replace q4 := eq_true q4
        go_enter Tryd.func97, Tryd.ntmps97
        go_wp2_with (first | ((with_reducible refine gate_callee (f := 82) rfl ?_); refine goesL_ (some 10) rfl rfl Tryd.func82 (by kernel_rfl) rfl #[.int .u8 (bt a0 0)] rfl (by (try simp only [List.map_toArray, List.map_cons, List.map_nil]); first | done | rfl | (simp only [List.length_drop, List.length_take]; rfl)) ?_; (with_reducible refine (script_plain.calls (bt a0 0) true _ A5.out).mono ?_); rintro e w' ⟨rfl, ⟨nd, rfl⟩⟩; refine ⟨_, rfl, ?_⟩; have p7 : 0 ≤ (0 : Int) := (by omega); have q7 : 0 < a0.size := (by have : (0 : Int) < (a0.size : Int) := of_decide_eq_true (by first | (with_reducible assumption) | assumption); omega); have hx7 : ∀ h : 0 < a0.size, ((a0[0]'h).toNat : Int) = bt a0 0 := bt_at a0 0; clear p7; have qi7 : (0 < (a0.size : Int)) = True := eq_true (of_decide_eq_true (by first | (with_reducible assumption) | assumption)); replace q7 := eq_true q7))
        go_ret3
        exact ⟨by first | rfl | (simp; done) | (simp [*]; done), by repeat (first | exact Drawn0.refl _ | apply Drawn0.step)⟩
      · replace c6 := Bool.eq_false_iff.mpr c6
        subst c6
        have H1 : (if (bt a0 0) = 37 then (script_sign.l0 k a0 0 1) else (some (0, 0, false))) = some (r1, r2, r3) := by rw [if_neg (show ¬ (false = true) by decide)] at H; exact H
        clear H
        have H := H1
        clear H1
        by_cases c9 : (bt a0 0) = 37
        · rw [if_pos c9] at H
          have c9b0 : ((bt a0 0) == 37) = true := beq_iff_eq.mpr c9
          have c9b1 : ((bt a0 0) != 37) = false := bne_eq_false_iff_eq.mpr c9
          clear c9
          have H' := Aside0.mk H
          clear H
          have p4 : 0 ≤ (0 : Int) := (by omega)
          have q4 : 0 < a0.size := (by have : (0 : Int) < (a0.size : Int) := of_decide_eq_true (by first | (with_reducible assumption) | assumption); omega)
          have hx4 : ∀ h : 0 < a0.size, ((a0[0]'h).toNat : Int) = bt a0 0 := bt_at a0 0
          clear p4
          have qi4 : (0 < (a0.size : Int)) = True := eq_true (of_decide_eq_true (by first | (with_reducible assumption) | assumption))
          replace q4 := eq_true q4
          go_enter Tryd.func97, Tryd.ntmps97
          go_wp2_with (first | ((with_reducible refine gate_callee (f := 82) rfl ?_); refine goesL_ (some 10) rfl rfl Tryd.func82 (by kernel_rfl) rfl #[.int .u8 (bt a0 0)] rfl (by (try simp only [List.map_toArray, List.map_cons, List.map_nil]); first | done | rfl | (simp only [List.length_drop, List.length_take]; rfl)) ?_; (with_reducible refine (script_plain.calls (bt a0 0) false _ A5.out).mono ?_); rintro e w' ⟨rfl, ⟨nd, rfl⟩⟩; refine ⟨_, rfl, ?_⟩; have p8 : 0 ≤ (0 : Int) := (by omega); have q8 : 0 < a0.size := (by have : (0 : Int) < (a0.size : Int) := of_decide_eq_true (by first | (with_reducible assumption) | assumption); omega); have hx8 : ∀ h : 0 < a0.size, ((a0[0]'h).toNat : Int) = bt a0 0 := bt_at a0 0; clear p8; have qi8 : (0 < (a0.size : Int)) = True := eq_true (of_decide_eq_true (by first | (with_reducible assumption) | assumption)); replace q8 := eq_true q8))
          go_loopg [2, 3] k (fun kq v2 v3 w' => ∃ (x2_1 : Int) (x3_1 : Int), v2 = .int .u8 x2_1 ∧ v3 = .int .i64 x3_1 ∧ Aside0 (script_sign.l0 kq a0 x2_1 x3_1 = some (r1, r2, r3)) ∧ Aside0 (kq ≤ k) ∧ Drawn0 w w')
          case atStart => exact ⟨(0), (1), (by first | rfl | (simp; done) | (simp [*]; done)), (by first | rfl | (simp; done) | (simp [*]; done)), H', ⟨Nat.le_refl _⟩, by repeat (first | exact Drawn0.refl _ | apply Drawn0.step)⟩
          case round =>
            clear H'
            try clear c2
            try clear c2b0
            try clear c2b1
            try clear p2
            try clear c3
            try clear c3b0
            try clear c3b1
            try clear p4
            try clear q4
            try clear hx4
            try clear qi4
            try clear c6
            try clear p7
            try clear q7
            try clear hx7
            try clear qi7
            try clear c8
            try clear p8
            try clear q8
            try clear hx8
            try clear qi8
            try clear c9
            try clear c9b0
            try clear c9b1
            try clear p4
            try clear p7
            try clear p8
            try clear q4
            try clear q7
            try clear q8
            obtain ⟨x2_1, x3_1, rfl, rfl, HA, HK1, ⟨m1, rfl⟩⟩ := hrel
            cases gk with
            | zero => exact absurd HA.out (by simp [script_sign.l0])
            | succ k1 =>
              have H := HA.out
              clear HA
              simp only [script_sign.l0] at H
              by_cases c10 : x3_1 < 3
              · rw [if_pos c10] at H
                have c10b0 : decide (x3_1 < 3) = true := decide_eq_true c10
                clear c10
                by_cases c11 : x3_1 ≥ (a0.size : Int)
                · rw [if_pos c11] at H
                  have c11b0 : decide ((a0.size : Int) ≤ x3_1) = true := decide_eq_true c11
                  clear c11
                  simp only [Option.some.injEq, Prod.mk.injEq] at H
                  obtain ⟨rfl, rfl, rfl⟩ := H
                  go_wp2
                  go_ret3
                  exact ⟨by first | rfl | (simp; done) | (simp [*]; done), by repeat (first | exact Drawn0.refl _ | apply Drawn0.step)⟩
                · rw [if_neg c11] at H
                  have c11b0 : decide ((a0.size : Int) ≤ x3_1) = false := decide_eq_false c11
                  clear c11
                  by_cases c12 : 0 ≤ x3_1
                  · rw [if_pos c12] at H
                    have c12b0 : decide (0 ≤ x3_1) = true := decide_eq_true c12
                    clear c12
                    by_cases c13 : x3_1 < (a0.size : Int)
                    · rw [if_pos c13] at H
                      have c13b0 : decide (x3_1 < (a0.size : Int)) = true := decide_eq_true c13
                      clear c13
                      replace H := Option.bind_eq_some_iff.mp H
                      obtain ⟨t176, A150, H⟩ := H
                      replace H : (if t176 < 0 then (some (0, x3_1, false)) else (script_sign.l0 k1 a0 (Go.bits .or .u8 ((x2_1 * 16) % 256) ((t176) % 256)) (wrap64 (x3_1 + 1)))) = some (r1, r2, r3) := H
                      have A15 := Aside0.mk A150
                      clear A150
                      by_cases c16 : t176 < 0
                      · rw [if_pos c16] at H
                        have c16b0 : decide (t176 < 0) = true := decide_eq_true c16
                        clear c16
                        simp only [Option.some.injEq, Prod.mk.injEq] at H
                        obtain ⟨rfl, rfl, rfl⟩ := H
                        have p14 : 0 ≤ (x3_1 : Int) := of_decide_eq_true (by first | (with_reducible assumption) | assumption)
                        have q14 : x3_1 < (a0.size : Int) := of_decide_eq_true (by first | (with_reducible assumption) | assumption)
                        have hx14 := bt_at a0 x3_1
                        replace p14 := eq_true p14
                        replace q14 := eq_true q14
                        go_wp2_with (first | ((with_reducible refine gate_callee (f := 107) rfl ?_); refine goesL_ (some 28) rfl rfl Tryd.func107 (by kernel_rfl) rfl #[.string (⟨#[48, 49, 50, 51, 52, 53, 54, 55, 56, 57, 65, 66, 67, 68, 69, 70]⟩ : ByteArray), .int .u8 (bt a0 x3_1)] rfl (by (try simp only [List.map_toArray, List.map_cons, List.map_nil]); first | done | rfl | (simp only [List.length_drop, List.length_take]; rfl)) ?_; (with_reducible refine (strings_IndexByte.calls (⟨#[48, 49, 50, 51, 52, 53, 54, 55, 56, 57, 65, 66, 67, 68, 69, 70]⟩ : ByteArray) (bt a0 x3_1) t176 _ A15.out).mono ?_); rintro e w' ⟨rfl, ⟨nd, rfl⟩⟩; refine ⟨_, rfl, ?_⟩))
                        go_ret3
                        exact ⟨by first | rfl | (simp; done) | (simp [*]; done), by repeat (first | exact Drawn0.refl _ | apply Drawn0.step)⟩
                      · rw [if_neg c16] at H
                        have c16b0 : decide (t176 < 0) = false := decide_eq_false c16
                        clear c16
                        have H' := Aside0.mk H
                        clear H
                        have p14 : 0 ≤ (x3_1 : Int) := of_decide_eq_true (by first | (with_reducible assumption) | assumption)
                        have q14 : x3_1 < (a0.size : Int) := of_decide_eq_true (by first | (with_reducible assumption) | assumption)
                        have hx14 := bt_at a0 x3_1
                        replace p14 := eq_true p14
                        replace q14 := eq_true q14
                        go_wp2_with (first | ((with_reducible refine gate_callee (f := 107) rfl ?_); refine goesL_ (some 28) rfl rfl Tryd.func107 (by kernel_rfl) rfl #[.string (⟨#[48, 49, 50, 51, 52, 53, 54, 55, 56, 57, 65, 66, 67, 68, 69, 70]⟩ : ByteArray), .int .u8 (bt a0 x3_1)] rfl (by (try simp only [List.map_toArray, List.map_cons, List.map_nil]); first | done | rfl | (simp only [List.length_drop, List.length_take]; rfl)) ?_; (with_reducible refine (strings_IndexByte.calls (⟨#[48, 49, 50, 51, 52, 53, 54, 55, 56, 57, 65, 66, 67, 68, 69, 70]⟩ : ByteArray) (bt a0 x3_1) t176 _ A15.out).mono ?_); rintro e w' ⟨rfl, ⟨nd, rfl⟩⟩; refine ⟨_, rfl, ?_⟩))
                        go_roundg k1
                        case measure => have := HK1.out; omega
                        case rel => exact ⟨(Go.bits .or .u8 ((x2_1 * 16) % 256) ((t176) % 256)), (wrap64 (x3_1 + 1)), (by first | rfl | (simp; done) | (simp [*]; done)), (by first | rfl | (simp; done) | (simp [*]; done)), H', ⟨by have := HK1.out; omega⟩, by repeat (first | exact Drawn0.refl _ | apply Drawn0.step)⟩
                    · rw [if_neg c13] at H
                      exact absurd H (by simp)
                  · rw [if_neg c12] at H
                    exact absurd H (by simp)
              · rw [if_neg c10] at H
                have c10b0 : decide (x3_1 < 3) = false := decide_eq_false c10
                clear c10
                replace H := Option.bind_eq_some_iff.mp H
                obtain ⟨t175, A170, H⟩ := H
                replace H : (if t175 = true then (some (0, 2, false)) else (some (x2_1, 3, true))) = some (r1, r2, r3) := H
                have A17 := Aside0.mk A170
                clear A170
                by_cases c18 : t175 = true
                · subst c18
                  have H1 : (some (0, 2, false)) = some (r1, r2, r3) := by rw [if_pos rfl] at H; exact H
                  clear H
                  have H := H1
                  clear H1
                  simp only [Option.some.injEq, Prod.mk.injEq] at H
                  obtain ⟨rfl, rfl, rfl⟩ := H
                  go_wp2_with (first | ((with_reducible refine gate_callee (f := 82) rfl ?_); refine goesL_ (some 38) rfl rfl Tryd.func82 (by kernel_rfl) rfl #[.int .u8 x2_1] rfl (by (try simp only [List.map_toArray, List.map_cons, List.map_nil]); first | done | rfl | (simp only [List.length_drop, List.length_take]; rfl)) ?_; (with_reducible refine (script_plain.calls x2_1 true _ A17.out).mono ?_); rintro e w' ⟨rfl, ⟨nd, rfl⟩⟩; refine ⟨_, rfl, ?_⟩))
                  go_ret3
                  exact ⟨by first | rfl | (simp; done) | (simp [*]; done), by repeat (first | exact Drawn0.refl _ | apply Drawn0.step)⟩
                · replace c18 := Bool.eq_false_iff.mpr c18
                  subst c18
                  have H1 : (some (x2_1, 3, true)) = some (r1, r2, r3) := by rw [if_neg (show ¬ (false = true) by decide)] at H; exact H
                  clear H
                  have H := H1
                  clear H1
                  simp only [Option.some.injEq, Prod.mk.injEq] at H
                  obtain ⟨rfl, rfl, rfl⟩ := H
                  go_wp2_with (first | ((with_reducible refine gate_callee (f := 82) rfl ?_); refine goesL_ (some 38) rfl rfl Tryd.func82 (by kernel_rfl) rfl #[.int .u8 x2_1] rfl (by (try simp only [List.map_toArray, List.map_cons, List.map_nil]); first | done | rfl | (simp only [List.length_drop, List.length_take]; rfl)) ?_; (with_reducible refine (script_plain.calls x2_1 false _ A17.out).mono ?_); rintro e w' ⟨rfl, ⟨nd, rfl⟩⟩; refine ⟨_, rfl, ?_⟩))
                  go_ret3
                  exact ⟨by first | rfl | (simp; done) | (simp [*]; done), by repeat (first | exact Drawn0.refl _ | apply Drawn0.step)⟩
        · rw [if_neg c9] at H
          have c9b0 : ((bt a0 0) == 37) = false := beq_eq_false_iff_ne.mpr c9
          have c9b1 : ((bt a0 0) != 37) = true := bne_iff_ne.mpr c9
          simp only [Option.some.injEq, Prod.mk.injEq] at H
          obtain ⟨rfl, rfl, rfl⟩ := H
          have p4 : 0 ≤ (0 : Int) := (by omega)
          have q4 : 0 < a0.size := (by have : (0 : Int) < (a0.size : Int) := of_decide_eq_true (by first | (with_reducible assumption) | assumption); omega)
          have hx4 : ∀ h : 0 < a0.size, ((a0[0]'h).toNat : Int) = bt a0 0 := bt_at a0 0
          clear p4
          have qi4 : (0 < (a0.size : Int)) = True := eq_true (of_decide_eq_true (by first | (with_reducible assumption) | assumption))
          replace q4 := eq_true q4
          go_enter Tryd.func97, Tryd.ntmps97
          go_wp2_with (first | ((with_reducible refine gate_callee (f := 82) rfl ?_); refine goesL_ (some 10) rfl rfl Tryd.func82 (by kernel_rfl) rfl #[.int .u8 (bt a0 0)] rfl (by (try simp only [List.map_toArray, List.map_cons, List.map_nil]); first | done | rfl | (simp only [List.length_drop, List.length_take]; rfl)) ?_; (with_reducible refine (script_plain.calls (bt a0 0) false _ A5.out).mono ?_); rintro e w' ⟨rfl, ⟨nd, rfl⟩⟩; refine ⟨_, rfl, ?_⟩; have p8 : 0 ≤ (0 : Int) := (by omega); have q8 : 0 < a0.size := (by have : (0 : Int) < (a0.size : Int) := of_decide_eq_true (by first | (with_reducible assumption) | assumption); omega); have hx8 : ∀ h : 0 < a0.size, ((a0[0]'h).toNat : Int) = bt a0 0 := bt_at a0 0; clear p8; have qi8 : (0 < (a0.size : Int)) = True := eq_true (of_decide_eq_true (by first | (with_reducible assumption) | assumption)); replace q8 := eq_true q8))
          go_ret3
          exact ⟨by first | rfl | (simp; done) | (simp [*]; done), by repeat (first | exact Drawn0.refl _ | apply Drawn0.step)⟩
    · rw [if_neg c3] at H
      exact absurd H (by simp)

def script_line_bytes.l0 : Nat → List Int → ByteArray → Int → Bool → Bool → Option (List Int × ByteArray × Int × Bool × Bool)
  | 0, _, _, _, _, _ => none
  | k + 1, x3, x1000, x1001, x1002, x1003 => (script_line_rest.f x1000 x1001 x1002 x1003).bind fun bt183 => ((script_sign.f k bt183.1).bind fun bt188 => (if bt188.2.2 = true then (if x3.length < 140737488355328 then (script_line_bytes.l0 k (x3 ++ [bt188.1]) bt183.2.1 (wrap64 (bt183.2.2.1 + bt188.2.1)) bt183.2.2.2.1 bt183.2.2.2.2) else (none)) else (if bt188.2.1 > 0 then ((script_line_fail.f bt183.2.1 bt183.2.2.1 bt183.2.2.2.1 bt183.2.2.2.2 bt188.2.1).bind fun bt194 => (some (([] : List Int), bt194.1, bt194.2.1, bt194.2.2.1, bt194.2.2.2))) else (if (x3.length : Int) = 0 then ((script_line_fail.f bt183.2.1 bt183.2.2.1 bt183.2.2.2.1 bt183.2.2.2.2 bt188.2.1).bind fun bt198 => (some (([] : List Int), bt198.1, bt198.2.1, bt198.2.2.1, bt198.2.2.2))) else (some (x3, bt183.2.1, bt183.2.2.1, bt183.2.2.2.1, bt183.2.2.2.2))))))
def script_line_bytes.f (k : Nat) (s0_0 : ByteArray) (s0_1 : Int) (s0_2 : Bool) (s0_3 : Bool) : Option (List Int × ByteArray × Int × Bool × Bool) := if s0_3 = true then (some (([] : List Int), s0_0, s0_1, s0_2, s0_3)) else ((script_line_rest.f s0_0 s0_1 s0_2 s0_3).bind fun bt177 => ((strings_HasPrefix.f bt177.1 (⟨#[45]⟩ : ByteArray)).bind fun t182 => (if t182 = true then (some (([] : List Int), bt177.2.1, wrap64 (bt177.2.2.1 + 1), bt177.2.2.2.1, bt177.2.2.2.2)) else (script_line_bytes.l0 k ([] : List Int) bt177.2.1 bt177.2.2.1 bt177.2.2.2.1 bt177.2.2.2.2))))
set_option maxHeartbeats 8000000 in
set_option maxRecDepth 100000 in
theorem script_line_bytes.calls (k : Nat) (g : Nat) (s0_0 : ByteArray) (s0_1 : Int) (s0_2 : Bool) (s0_3 : Bool) (r1 : List Int) (r2 : ByteArray) (r3 : Int) (r4 : Bool) (r5 : Bool) (w0 w : World) (hI : IsS109 w0 w g s0_0 s0_1 s0_2 s0_3) (hB : Below w0.heap.size w0 w) (h : script_line_bytes.f k s0_0 s0_1 s0_2 s0_3 = some (r1, r2, r3, r4, r5)) :
    Calls Tryd.prog 86 #[.pointer (some ⟨g, 0, none⟩)] w fun e w' => ∃ v0_ : Value, e = .returned (v0_) ∧ Kd.R (Kd.int .u8) 5 w' w.heap.size (fun _ => True) v0_ r1 ∧ IsS109 w0 w' g r2 r3 r4 r5 ∧ Below w0.heap.size w0 w' ∧ KeepBut w w' g none := by
  have HI0 := Aside0.mk hI
  have HK := Aside0.mk (KeepBut.refl w g none)
  have HL := Aside0.mk hB.size
  clear hI
  have HW0 := Aside0.mk hB.size
  have HB := Aside0.mk hB
  clear hB
  have H : (if s0_3 = true then (some (([] : List Int), s0_0, s0_1, s0_2, s0_3)) else ((script_line_rest.f s0_0 s0_1 s0_2 s0_3).bind fun bt177 => ((strings_HasPrefix.f bt177.1 (⟨#[45]⟩ : ByteArray)).bind fun t182 => (if t182 = true then (some (([] : List Int), bt177.2.1, wrap64 (bt177.2.2.1 + 1), bt177.2.2.2.1, bt177.2.2.2.2)) else (script_line_bytes.l0 k ([] : List Int) bt177.2.1 bt177.2.2.1 bt177.2.2.2.1 bt177.2.2.2.2))))) = some (r1, r2, r3, r4, r5) := h
  clear h
  by_cases c2 : s0_3 = true
  · subst c2
    have H1 : (some (([] : List Int), s0_0, s0_1, s0_2, true)) = some (r1, r2, r3, r4, r5) := by rw [if_pos rfl] at H; exact H
    clear H
    have H := H1
    clear H1
    simp only [Option.some.injEq, Prod.mk.injEq] at H
    obtain ⟨rfl, rfl, rfl, rfl, rfl⟩ := H
    obtain ⟨HGz3, hgz3⟩ := HI0.out
    have hcz3_0 := cellS109_0 HGz3
    have hcz3_1 := cellS109_1 HGz3
    have hcz3_2 := cellS109_2 HGz3
    have hcz3_3 := cellS109_3 HGz3
    have hfz3_0 := blk_frozen HGz3 0
    have hfz3_1 := blk_frozen HGz3 1
    have hfz3_2 := blk_frozen HGz3 2
    have hfz3_3 := blk_frozen HGz3 3
    clear HGz3 hgz3
    go_enter Tryd.func86, Tryd.ntmps86
    go_wp2
    go_ret
    exact ⟨_, by first | rfl | (simp [errW_none, errW_some] <;> rfl) | (simp [*, errW_none, errW_some] <;> rfl), by first | exact Kd.R_nil _ _ _ _ _ | exact Kd.N_nil _ _ _ _ _ | exact Kd.V_nil _ _ _ _ _ | exact Kd.Q_nil _ _ _ _ _ | exact Kd.S_nil _ _ _ _ _, by repeat (first | (with_reducible first | exact HI0.out | apply IsS109.alloc | apply IsS109.drewN | apply IsS109.drew | apply IsS109.set_0 | apply IsS109.set_1 | apply IsS109.set_2 | apply IsS109.set_3) | exact HI0.out), by repeat (first | (with_reducible first | exact HB.out | apply below_alloc | apply pw_below_drewN | apply below_drew1 | refine below_set ?_ (IsS109.ge HI0.out)) | exact HB.out), by repeat (first | (with_reducible first | exact HK.out | apply KeepBut.set_ | apply keep_drewN | apply keep_drew | apply keep_alloc) | exact HK.out)⟩
  · replace c2 := Bool.eq_false_iff.mpr c2
    subst c2
    have H1 : ((script_line_rest.f s0_0 s0_1 s0_2 false).bind fun bt177 => ((strings_HasPrefix.f bt177.1 (⟨#[45]⟩ : ByteArray)).bind fun t182 => (if t182 = true then (some (([] : List Int), bt177.2.1, wrap64 (bt177.2.2.1 + 1), bt177.2.2.2.1, bt177.2.2.2.2)) else (script_line_bytes.l0 k ([] : List Int) bt177.2.1 bt177.2.2.1 bt177.2.2.2.1 bt177.2.2.2.2)))) = some (r1, r2, r3, r4, r5) := by rw [if_neg (show ¬ (false = true) by decide)] at H; exact H
    clear H
    have H := H1
    clear H1
    replace H := Option.bind_eq_some_iff.mp H
    obtain ⟨⟨t177, t178, t179, t180, t181⟩, A40, H⟩ := H
    replace H : ((strings_HasPrefix.f t177 (⟨#[45]⟩ : ByteArray)).bind fun t182 => (if t182 = true then (some (([] : List Int), t178, wrap64 (t179 + 1), t180, t181)) else (script_line_bytes.l0 k ([] : List Int) t178 t179 t180 t181))) = some (r1, r2, r3, r4, r5) := H
    have A4 := Aside0.mk A40
    clear A40
    replace H := Option.bind_eq_some_iff.mp H
    obtain ⟨t182, A50, H⟩ := H
    replace H : (if t182 = true then (some (([] : List Int), t178, wrap64 (t179 + 1), t180, t181)) else (script_line_bytes.l0 k ([] : List Int) t178 t179 t180 t181)) = some (r1, r2, r3, r4, r5) := H
    have A5 := Aside0.mk A50
    clear A50
    by_cases c6 : t182 = true
    · subst c6
      have H1 : (some (([] : List Int), t178, wrap64 (t179 + 1), t180, t181)) = some (r1, r2, r3, r4, r5) := by rw [if_pos rfl] at H; exact H
      clear H
      have H := H1
      clear H1
      simp only [Option.some.injEq, Prod.mk.injEq] at H
      obtain ⟨rfl, rfl, rfl, rfl, rfl⟩ := H
      obtain ⟨HGz7, hgz7⟩ := HI0.out
      have hcz7_0 := cellS109_0 HGz7
      have hcz7_1 := cellS109_1 HGz7
      have hcz7_2 := cellS109_2 HGz7
      have hcz7_3 := cellS109_3 HGz7
      have hfz7_0 := blk_frozen HGz7 0
      have hfz7_1 := blk_frozen HGz7 1
      have hfz7_2 := blk_frozen HGz7 2
      have hfz7_3 := blk_frozen HGz7 3
      clear HGz7 hgz7
      go_enter Tryd.func86, Tryd.ntmps86
      go_wp2_with (first | ((with_reducible refine gate_callee (f := 85) rfl ?_); refine goesL_ (some 12) rfl rfl Tryd.func85 (by kernel_rfl) rfl #[.pointer (some ⟨g, 0, none⟩)] rfl (by (try simp only [List.map_toArray, List.map_cons, List.map_nil]); first | done | rfl | (simp only [List.length_drop, List.length_take]; rfl)) ?_; (with_reducible refine (script_line_rest.calls g s0_0 s0_1 s0_2 false t177 t178 t179 t180 t181 w0 _ ?side1 ?side2 A4.out).mono ?_); (case side1 => repeat (first | (with_reducible first | exact HI0.out | apply IsS109.alloc | apply IsS109.drewN | apply IsS109.drew | apply IsS109.set_0 | apply IsS109.set_1 | apply IsS109.set_2 | apply IsS109.set_3) | exact HI0.out)); (case side2 => repeat (first | (with_reducible first | exact HB.out | apply below_alloc | apply pw_below_drewN | apply below_drew1 | refine below_set ?_ (IsS109.ge HI0.out)) | exact HB.out)); rintro e w8 ⟨rfl, hi, hb, hk⟩; refine ⟨_, rfl, ?_⟩; have n0_ := Aside0.mk (KeepBut.trans (by repeat (first | (with_reducible first | exact HK.out | apply KeepBut.set_ | apply keep_drewN | apply keep_drew | apply keep_alloc) | exact HK.out)) hk (.inl rfl)); have n1_ := Aside0.mk (hb); have n2_ := Aside0.mk (hi); clear HK; clear HB; clear HI0; have HK := n0_; have HB := n1_; have HI0 := n2_; clear n0_ n1_ n2_; (try clear hb); (try clear hb2); (try clear hk); (try clear hi)) | ((with_reducible refine gate_callee (f := 36) rfl ?_); refine goesL_ (some 13) rfl rfl Tryd.func36 (by kernel_rfl) rfl #[.string t177, .string (⟨#[45]⟩ : ByteArray)] rfl (by (try simp only [List.map_toArray, List.map_cons, List.map_nil]); first | done | rfl | (simp only [List.length_drop, List.length_take]; rfl)) ?_; (with_reducible refine (strings_HasPrefix.calls t177 (⟨#[45]⟩ : ByteArray) true _ A5.out).mono ?_); rintro e w' ⟨rfl, ⟨nd, rfl⟩⟩; refine ⟨_, rfl, ?_⟩; (try (rw [drewN_self w8]; generalize hq_ : World.drewN w8 _ = w8; have n0_ : Aside0 (IsS109 w0 w8 g t178 t179 t180 t181) := ⟨by rw [← hq_]; exact (by repeat (first | (with_reducible first | exact HI0.out | apply IsS109.alloc | apply IsS109.drewN | apply IsS109.drew | apply IsS109.set_0 | apply IsS109.set_1 | apply IsS109.set_2 | apply IsS109.set_3) | exact HI0.out))⟩; have n1_ : Aside0 (KeepBut w w8 g none) := ⟨by rw [← hq_]; exact (by repeat (first | (with_reducible first | exact HK.out | apply KeepBut.set_ | apply keep_drewN | apply keep_drew | apply keep_alloc) | exact HK.out))⟩; have n2_ : Aside0 (Below w0.heap.size w0 w8) := ⟨by rw [← hq_]; exact (by repeat (first | (with_reducible first | exact HB.out | apply below_alloc | apply pw_below_drewN | apply below_drew1 | refine below_set ?_ (IsS109.ge HI0.out)) | exact HB.out))⟩; clear HI0 HK HB hq_; have HI0 := n0_; have HK := n1_; have HB := n2_; clear n0_ n1_ n2_)); obtain ⟨HGz9, hgz9⟩ := HI0.out; have hcz9_0 := cellS109_0 HGz9; have hcz9_1 := cellS109_1 HGz9; have hcz9_2 := cellS109_2 HGz9; have hcz9_3 := cellS109_3 HGz9; have hfz9_0 := blk_frozen HGz9 0; have hfz9_1 := blk_frozen HGz9 1; have hfz9_2 := blk_frozen HGz9 2; have hfz9_3 := blk_frozen HGz9 3; clear HGz9 hgz9))
      go_ret
      exact ⟨_, by first | rfl | (simp [errW_none, errW_some] <;> rfl) | (simp [*, errW_none, errW_some] <;> rfl), by first | exact Kd.R_nil _ _ _ _ _ | exact Kd.N_nil _ _ _ _ _ | exact Kd.V_nil _ _ _ _ _ | exact Kd.Q_nil _ _ _ _ _ | exact Kd.S_nil _ _ _ _ _, by repeat (first | (with_reducible first | exact HI0.out | apply IsS109.alloc | apply IsS109.drewN | apply IsS109.drew | apply IsS109.set_0 | apply IsS109.set_1 | apply IsS109.set_2 | apply IsS109.set_3) | exact HI0.out), by repeat (first | (with_reducible first | exact HB.out | apply below_alloc | apply pw_below_drewN | apply below_drew1 | refine below_set ?_ (IsS109.ge HI0.out)) | exact HB.out), by repeat (first | (with_reducible first | exact HK.out | apply KeepBut.set_ | apply keep_drewN | apply keep_drew | apply keep_alloc) | exact HK.out)⟩
    · replace c6 := Bool.eq_false_iff.mpr c6
      subst c6
      have H1 : (script_line_bytes.l0 k ([] : List Int) t178 t179 t180 t181) = some (r1, r2, r3, r4, r5) := by rw [if_neg (show ¬ (false = true) by decide)] at H; exact H
      clear H
      have H := H1
      clear H1
      have H' := Aside0.mk H
      clear H
      obtain ⟨HGz10, hgz10⟩ := HI0.out
      have hcz10_0 := cellS109_0 HGz10
      have hcz10_1 := cellS109_1 HGz10
      have hcz10_2 := cellS109_2 HGz10
      have hcz10_3 := cellS109_3 HGz10
      have hfz10_0 := blk_frozen HGz10 0
      have hfz10_1 := blk_frozen HGz10 1
      have hfz10_2 := blk_frozen HGz10 2
      have hfz10_3 := blk_frozen HGz10 3
      clear HGz10 hgz10
      go_enter Tryd.func86, Tryd.ntmps86
      go_wp2_with (first | ((with_reducible refine gate_callee (f := 85) rfl ?_); refine goesL_ (some 12) rfl rfl Tryd.func85 (by kernel_rfl) rfl #[.pointer (some ⟨g, 0, none⟩)] rfl (by (try simp only [List.map_toArray, List.map_cons, List.map_nil]); first | done | rfl | (simp only [List.length_drop, List.length_take]; rfl)) ?_; (with_reducible refine (script_line_rest.calls g s0_0 s0_1 s0_2 false t177 t178 t179 t180 t181 w0 _ ?side1 ?side2 A4.out).mono ?_); (case side1 => repeat (first | (with_reducible first | exact HI0.out | apply IsS109.alloc | apply IsS109.drewN | apply IsS109.drew | apply IsS109.set_0 | apply IsS109.set_1 | apply IsS109.set_2 | apply IsS109.set_3) | exact HI0.out)); (case side2 => repeat (first | (with_reducible first | exact HB.out | apply below_alloc | apply pw_below_drewN | apply below_drew1 | refine below_set ?_ (IsS109.ge HI0.out)) | exact HB.out)); rintro e w11 ⟨rfl, hi, hb, hk⟩; refine ⟨_, rfl, ?_⟩; have n0_ := Aside0.mk (KeepBut.trans (by repeat (first | (with_reducible first | exact HK.out | apply KeepBut.set_ | apply keep_drewN | apply keep_drew | apply keep_alloc) | exact HK.out)) hk (.inl rfl)); have n1_ := Aside0.mk (hb); have n2_ := Aside0.mk (hi); clear HK; clear HB; clear HI0; have HK := n0_; have HB := n1_; have HI0 := n2_; clear n0_ n1_ n2_; (try clear hb); (try clear hb2); (try clear hk); (try clear hi)) | ((with_reducible refine gate_callee (f := 36) rfl ?_); refine goesL_ (some 13) rfl rfl Tryd.func36 (by kernel_rfl) rfl #[.string t177, .string (⟨#[45]⟩ : ByteArray)] rfl (by (try simp only [List.map_toArray, List.map_cons, List.map_nil]); first | done | rfl | (simp only [List.length_drop, List.length_take]; rfl)) ?_; (with_reducible refine (strings_HasPrefix.calls t177 (⟨#[45]⟩ : ByteArray) false _ A5.out).mono ?_); rintro e w' ⟨rfl, ⟨nd, rfl⟩⟩; refine ⟨_, rfl, ?_⟩))
      go_loopg [3] k (fun kq v3 w' => ∃ (x3_1 : List Int) (x1000_1 : ByteArray) (x1001_1 : Int) (x1002_1 : Bool) (x1003_1 : Bool), Aside0 (script_line_bytes.l0 kq x3_1 x1000_1 x1001_1 x1002_1 x1003_1 = some (r1, r2, r3, r4, r5)) ∧ Aside0 (kq ≤ k) ∧ Aside0 (Kd.R (Kd.int .u8) 5 w' w.heap.size (fun _ => True) v3 x3_1) ∧ Aside0 (IsS109 w0 w' g x1000_1 x1001_1 x1002_1 x1003_1) ∧ Aside0 (KeepBut w w' g none) ∧ Aside0 (Below w0.heap.size w0 w'))
      case atStart => exact ⟨(([] : List Int)), (t178), (t179), (t180), (t181), H', ⟨Nat.le_refl _⟩, ⟨by first | exact Kd.R_nil _ _ _ _ _ | exact Kd.N_nil _ _ _ _ _ | exact Kd.V_nil _ _ _ _ _ | exact Kd.Q_nil _ _ _ _ _ | exact Kd.S_nil _ _ _ _ _⟩, ⟨by repeat (first | (with_reducible first | exact HI0.out | apply IsS109.alloc | apply IsS109.drewN | apply IsS109.drew | apply IsS109.set_0 | apply IsS109.set_1 | apply IsS109.set_2 | apply IsS109.set_3) | exact HI0.out)⟩, ⟨by repeat (first | (with_reducible first | exact HK.out | apply KeepBut.set_ | apply keep_drewN | apply keep_drew | apply keep_alloc) | exact HK.out)⟩, ⟨by repeat (first | (with_reducible first | exact HB.out | apply below_alloc | apply pw_below_drewN | apply below_drew1 | refine below_set ?_ (IsS109.ge HI0.out)) | exact HB.out)⟩⟩
      case round =>
        clear H'
        try clear c2
        try clear p2
        try clear c3
        try clear c6
        try clear p6
        try clear c8
        try clear hcz10_0
        try clear hcz10_1
        try clear hcz10_2
        try clear hcz10_3
        try clear hcz3_0
        try clear hcz3_1
        try clear hcz3_2
        try clear hcz3_3
        try clear hcz7_0
        try clear hcz7_1
        try clear hcz7_2
        try clear hcz7_3
        try clear hcz9_0
        try clear hcz9_1
        try clear hcz9_2
        try clear hcz9_3
        try clear hfz10_0
        try clear hfz10_1
        try clear hfz10_2
        try clear hfz10_3
        try clear hfz3_0
        try clear hfz3_1
        try clear hfz3_2
        try clear hfz3_3
        try clear hfz7_0
        try clear hfz7_1
        try clear hfz7_2
        try clear hfz7_3
        try clear hfz9_0
        try clear hfz9_1
        try clear hfz9_2
        try clear hfz9_3
        obtain ⟨x3_1, x1000_1, x1001_1, x1002_1, x1003_1, HA, HK1, HO_3, HI0, HK, HB⟩ := hrel
        cases gk with
        | zero => exact absurd HA.out (by simp [script_line_bytes.l0])
        | succ k1 =>
          have H := HA.out
          clear HA
          simp only [script_line_bytes.l0] at H
          replace H := Option.bind_eq_some_iff.mp H
          obtain ⟨⟨t183, t184, t185, t186, t187⟩, A120, H⟩ := H
          replace H : ((script_sign.f k1 t183).bind fun bt188 => (if bt188.2.2 = true then (if x3_1.length < 140737488355328 then (script_line_bytes.l0 k1 (x3_1 ++ [bt188.1]) t184 (wrap64 (t185 + bt188.2.1)) t186 t187) else (none)) else (if bt188.2.1 > 0 then ((script_line_fail.f t184 t185 t186 t187 bt188.2.1).bind fun bt194 => (some (([] : List Int), bt194.1, bt194.2.1, bt194.2.2.1, bt194.2.2.2))) else (if (x3_1.length : Int) = 0 then ((script_line_fail.f t184 t185 t186 t187 bt188.2.1).bind fun bt198 => (some (([] : List Int), bt198.1, bt198.2.1, bt198.2.2.1, bt198.2.2.2))) else (some (x3_1, t184, t185, t186, t187)))))) = some (r1, r2, r3, r4, r5) := H
          have A12 := Aside0.mk A120
          clear A120
          replace H := Option.bind_eq_some_iff.mp H
          obtain ⟨⟨t188, t189, t190⟩, A130, H⟩ := H
          replace H : (if t190 = true then (if x3_1.length < 140737488355328 then (script_line_bytes.l0 k1 (x3_1 ++ [t188]) t184 (wrap64 (t185 + t189)) t186 t187) else (none)) else (if t189 > 0 then ((script_line_fail.f t184 t185 t186 t187 t189).bind fun bt194 => (some (([] : List Int), bt194.1, bt194.2.1, bt194.2.2.1, bt194.2.2.2))) else (if (x3_1.length : Int) = 0 then ((script_line_fail.f t184 t185 t186 t187 t189).bind fun bt198 => (some (([] : List Int), bt198.1, bt198.2.1, bt198.2.2.1, bt198.2.2.2))) else (some (x3_1, t184, t185, t186, t187))))) = some (r1, r2, r3, r4, r5) := H
          have A13 := Aside0.mk A130
          clear A130
          by_cases c14 : t190 = true
          · subst c14
            have H1 : (if x3_1.length < 140737488355328 then (script_line_bytes.l0 k1 (x3_1 ++ [t188]) t184 (wrap64 (t185 + t189)) t186 t187) else (none)) = some (r1, r2, r3, r4, r5) := by rw [if_pos rfl] at H; exact H
            clear H
            have H := H1
            clear H1
            by_cases c15 : x3_1.length < 140737488355328
            · rw [if_pos c15] at H
              have LMc15 := Aside0.mk c15
              clear c15
              obtain ⟨y191, hy191⟩ : ∃ y_ : List Int, y_ = (x3_1 ++ [t188]) := ⟨_, rfl⟩
              replace H : (script_line_bytes.l0 k1 y191 t184 (wrap64 (t185 + t189)) t186 t187) = some (r1, r2, r3, r4, r5) := by first | (rw [hy191]; with_reducible exact H) | (have H2_ := (Option.bind_some _ _).symm.trans H; rw [hy191]; with_reducible exact H2_) | (have H2_ := (Option.bind_some _ _).symm.trans H; with_reducible exact H2_) | with_reducible exact H | (rw [hy191]; exact H) | exact H
              have Ny191 := Aside0.mk hy191
              clear hy191
              have H' := Aside0.mk H
              clear H
              go_wp2_with (first | ((with_reducible refine gate_callee (f := 85) rfl ?_); refine goesL_ (some 23) rfl rfl Tryd.func85 (by kernel_rfl) rfl #[.pointer (some ⟨g, 0, none⟩)] rfl (by (try simp only [List.map_toArray, List.map_cons, List.map_nil]); first | done | rfl | (simp only [List.length_drop, List.length_take]; rfl)) ?_; (with_reducible refine (script_line_rest.calls g x1000_1 x1001_1 x1002_1 x1003_1 t183 t184 t185 t186 t187 w0 _ ?side1 ?side2 A12.out).mono ?_); (case side1 => repeat (first | (with_reducible first | exact HI0.out | apply IsS109.alloc | apply IsS109.drewN | apply IsS109.drew | apply IsS109.set_0 | apply IsS109.set_1 | apply IsS109.set_2 | apply IsS109.set_3) | exact HI0.out)); (case side2 => repeat (first | (with_reducible first | exact HB.out | apply below_alloc | apply pw_below_drewN | apply below_drew1 | refine below_set ?_ (IsS109.ge HI0.out)) | exact HB.out)); rintro e w16 ⟨rfl, hi, hb, hk⟩; refine ⟨_, rfl, ?_⟩; have n0_ := Aside0.mk (Kd.R_mono (Kd.R_keep (IsS109.apart (show IsS109 w0 _ g x1000_1 x1001_1 x1002_1 x1003_1 from by repeat (first | (with_reducible first | exact HI0.out | apply IsS109.alloc | apply IsS109.drewN | apply IsS109.drew | apply IsS109.set_0 | apply IsS109.set_1 | apply IsS109.set_2 | apply IsS109.set_3) | exact HI0.out)) (by (with_reducible repeat (first | apply Kd.R_alloc | apply Kd.R_drewN | apply Kd.R_drew)); exact HO_3.out) (by decide)) hk (fun _ h => h.2)) (fun _ h => h.1)); have n1_ := Aside0.mk (KeepBut.trans (by repeat (first | (with_reducible first | exact HK.out | apply KeepBut.set_ | apply keep_drewN | apply keep_drew | apply keep_alloc) | exact HK.out)) hk (.inl rfl)); have n2_ := Aside0.mk (hb); have n3_ := Aside0.mk (hi); clear HO_3; clear HK; clear HB; clear HI0; have HO_3 := n0_; have HK := n1_; have HB := n2_; have HI0 := n3_; clear n0_ n1_ n2_ n3_; (try clear hb); (try clear hb2); (try clear hk); (try clear hi)) | ((with_reducible refine gate_callee (f := 97) rfl ?_); refine goesL_ (some 24) rfl rfl Tryd.func97 (by kernel_rfl) rfl #[.string t183] rfl (by (try simp only [List.map_toArray, List.map_cons, List.map_nil]); first | done | rfl | (simp only [List.length_drop, List.length_take]; rfl)) ?_; (with_reducible refine (script_sign.calls k1 t183 t188 t189 true _ A13.out).mono ?_); rintro e w' ⟨rfl, ⟨nd, rfl⟩⟩; refine ⟨_, rfl, ?_⟩; (try (rw [drewN_self w16]; generalize hq_ : World.drewN w16 _ = w16; have n0_ : Aside0 (Kd.R (Kd.int .u8) 5 w16 w.heap.size (fun _ => True) u3 x3_1) := ⟨by rw [← hq_]; exact (by (with_reducible repeat (first | apply Kd.R_alloc | apply Kd.R_drewN | apply Kd.R_drew)); exact HO_3.out)⟩; have n1_ : Aside0 (IsS109 w0 w16 g t184 t185 t186 t187) := ⟨by rw [← hq_]; exact (by repeat (first | (with_reducible first | exact HI0.out | apply IsS109.alloc | apply IsS109.drewN | apply IsS109.drew | apply IsS109.set_0 | apply IsS109.set_1 | apply IsS109.set_2 | apply IsS109.set_3) | exact HI0.out))⟩; have n2_ : Aside0 (KeepBut w w16 g none) := ⟨by rw [← hq_]; exact (by repeat (first | (with_reducible first | exact HK.out | apply KeepBut.set_ | apply keep_drewN | apply keep_drew | apply keep_alloc) | exact HK.out))⟩; have n3_ : Aside0 (Below w0.heap.size w0 w16) := ⟨by rw [← hq_]; exact (by repeat (first | (with_reducible first | exact HB.out | apply below_alloc | apply pw_below_drewN | apply below_drew1 | refine below_set ?_ (IsS109.ge HI0.out)) | exact HB.out))⟩; clear HO_3 HI0 HK HB hq_; have HO_3 := n0_; have HI0 := n1_; have HK := n2_; have HB := n3_; clear n0_ n1_ n2_ n3_)); obtain ⟨HGz17, hgz17⟩ := HI0.out; have hcz17_0 := cellS109_0 HGz17; have hcz17_1 := cellS109_1 HGz17; have hcz17_2 := cellS109_2 HGz17; have hcz17_3 := cellS109_3 HGz17; have hfz17_0 := blk_frozen HGz17 0; have hfz17_1 := blk_frozen HGz17 1; have hfz17_2 := blk_frozen HGz17 2; have hfz17_3 := blk_frozen HGz17 3; clear HGz17 hgz17) | ((with_reducible refine gate_builtin (b := .append) (xs := #[.tmp 39, .tmp 41]) rfl ?_); (try (refine gate_guard (by rfl) ?_; dsimp only)); at_builtin; refine Kd.R_append (Kd.int .u8) w.heap.size rfl (.tmp 39) (.tmp 41) 46 5 (.int .u8 0) 1 rfl Tryd.underlying46 info5 rfl (by decide) (by omega) u3 x3_1 t188 [.int .u8 t188] (fun _ => True) (fun _ => False) rfl (by first | (go_simp; done) | (go_simp; rfl)) ?aP (fun _ hk => hk.elim) ?aF ?aO (Below.refl _ _) ?aS ?aL ?_; (case aP => exact rfl); (case aF => exact (fun _ _ => trivial)); (case aO => exact (by (with_reducible repeat (first | apply Kd.R_alloc | apply Kd.R_drewN | apply Kd.R_drew)); exact Kd.R_mono (Kd.R_far (p := ⟨g, 1, none⟩) (IsS109.apart HI0.out HO_3.out (by decide)) (fun _ hk => hk.2) (.int .i64 (wrap64 (t185 + t189)))) (fun _ hk => trivial))); (case aS => exact (keep_size (w := w) (g := g) (row := none) (by repeat (first | (with_reducible first | exact HK.out | apply KeepBut.set_ | apply keep_drewN | apply keep_drew | apply keep_alloc) | exact HK.out)))); (case aL => have := LMc15.out; omega); intro v192 w18 ho hb hg hat; rw [← Ny191.out] at ho; have n0_ := Aside0.mk (IsS109.grown (by repeat (first | (with_reducible first | exact HI0.out | apply IsS109.alloc | apply IsS109.drewN | apply IsS109.drew | apply IsS109.set_0 | apply IsS109.set_1 | apply IsS109.set_2 | apply IsS109.set_3) | exact HI0.out)) hg (IsS109.own_ne HI0.out HO_3.out (by decide))); have n1_ := Aside0.mk (below_weaken (by repeat (first | (with_reducible first | exact HB.out | apply below_alloc | apply pw_below_drewN | apply below_drew1 | refine below_set ?_ (IsS109.ge HI0.out)) | exact HB.out)) HL.out hb); have n2_ := Aside0.mk (KeepBut.trans (by repeat (first | (with_reducible first | exact HK.out | apply KeepBut.set_ | apply keep_drewN | apply keep_drew | apply keep_alloc) | exact HK.out)) (KeepBut.of_grown hg g) (Kd.R_base2 HO_3.out)); have n3_ := Aside0.mk (ho); clear HI0; clear HB; clear HK; clear HO_3; have HI0 := n0_; have HB := n1_; have HK := n2_; have HO193 := n3_; clear n0_ n1_ n2_ n3_; clear ho hb hg hat))
              go_roundg k1
              case measure => have := HK1.out; omega
              case rel => exact ⟨(y191), (t184), (wrap64 (t185 + t189)), (t186), (t187), H', ⟨by have := HK1.out; omega⟩, ⟨by (with_reducible repeat (first | apply Kd.R_alloc | apply Kd.R_drewN | apply Kd.R_drew)); exact HO193.out⟩, ⟨by repeat (first | (with_reducible first | exact HI0.out | apply IsS109.alloc | apply IsS109.drewN | apply IsS109.drew | apply IsS109.set_0 | apply IsS109.set_1 | apply IsS109.set_2 | apply IsS109.set_3) | exact HI0.out)⟩, ⟨by repeat (first | (with_reducible first | exact HK.out | apply KeepBut.set_ | apply keep_drewN | apply keep_drew | apply keep_alloc) | exact HK.out)⟩, ⟨by repeat (first | (with_reducible first | exact HB.out | apply below_alloc | apply pw_below_drewN | apply below_drew1 | refine below_set ?_ (IsS109.ge HI0.out)) | exact HB.out)⟩⟩
            · rw [if_neg c15] at H
              exact absurd H (by simp)
          · replace c14 := Bool.eq_false_iff.mpr c14
            subst c14
            have H1 : (if t189 > 0 then ((script_line_fail.f t184 t185 t186 t187 t189).bind fun bt194 => (some (([] : List Int), bt194.1, bt194.2.1, bt194.2.2.1, bt194.2.2.2))) else (if (x3_1.length : Int) = 0 then ((script_line_fail.f t184 t185 t186 t187 t189).bind fun bt198 => (some (([] : List Int), bt198.1, bt198.2.1, bt198.2.2.1, bt198.2.2.2))) else (some (x3_1, t184, t185, t186, t187)))) = some (r1, r2, r3, r4, r5) := by rw [if_neg (show ¬ (false = true) by decide)] at H; exact H
            clear H
            have H := H1
            clear H1
            by_cases c19 : t189 > 0
            · rw [if_pos c19] at H
              have c19b0 : decide (0 < t189) = true := decide_eq_true c19
              clear c19
              replace H := Option.bind_eq_some_iff.mp H
              obtain ⟨⟨t194, t195, t196, t197⟩, A200, H⟩ := H
              replace H : (some (([] : List Int), t194, t195, t196, t197)) = some (r1, r2, r3, r4, r5) := H
              have A20 := Aside0.mk A200
              clear A200
              simp only [Option.some.injEq, Prod.mk.injEq] at H
              obtain ⟨rfl, rfl, rfl, rfl, rfl⟩ := H
              go_wp2_with (first | ((with_reducible refine gate_callee (f := 85) rfl ?_); refine goesL_ (some 23) rfl rfl Tryd.func85 (by kernel_rfl) rfl #[.pointer (some ⟨g, 0, none⟩)] rfl (by (try simp only [List.map_toArray, List.map_cons, List.map_nil]); first | done | rfl | (simp only [List.length_drop, List.length_take]; rfl)) ?_; (with_reducible refine (script_line_rest.calls g x1000_1 x1001_1 x1002_1 x1003_1 t183 t184 t185 t186 t187 w0 _ ?side1 ?side2 A12.out).mono ?_); (case side1 => repeat (first | (with_reducible first | exact HI0.out | apply IsS109.alloc | apply IsS109.drewN | apply IsS109.drew | apply IsS109.set_0 | apply IsS109.set_1 | apply IsS109.set_2 | apply IsS109.set_3) | exact HI0.out)); (case side2 => repeat (first | (with_reducible first | exact HB.out | apply below_alloc | apply pw_below_drewN | apply below_drew1 | refine below_set ?_ (IsS109.ge HI0.out)) | exact HB.out)); rintro e w21 ⟨rfl, hi, hb, hk⟩; refine ⟨_, rfl, ?_⟩; have n0_ := Aside0.mk (Kd.R_mono (Kd.R_keep (IsS109.apart (show IsS109 w0 _ g x1000_1 x1001_1 x1002_1 x1003_1 from by repeat (first | (with_reducible first | exact HI0.out | apply IsS109.alloc | apply IsS109.drewN | apply IsS109.drew | apply IsS109.set_0 | apply IsS109.set_1 | apply IsS109.set_2 | apply IsS109.set_3) | exact HI0.out)) (by (with_reducible repeat (first | apply Kd.R_alloc | apply Kd.R_drewN | apply Kd.R_drew)); exact HO_3.out) (by decide)) hk (fun _ h => h.2)) (fun _ h => h.1)); have n1_ := Aside0.mk (KeepBut.trans (by repeat (first | (with_reducible first | exact HK.out | apply KeepBut.set_ | apply keep_drewN | apply keep_drew | apply keep_alloc) | exact HK.out)) hk (.inl rfl)); have n2_ := Aside0.mk (hb); have n3_ := Aside0.mk (hi); clear HO_3; clear HK; clear HB; clear HI0; have HO_3 := n0_; have HK := n1_; have HB := n2_; have HI0 := n3_; clear n0_ n1_ n2_ n3_; (try clear hb); (try clear hb2); (try clear hk); (try clear hi)) | ((with_reducible refine gate_callee (f := 97) rfl ?_); refine goesL_ (some 24) rfl rfl Tryd.func97 (by kernel_rfl) rfl #[.string t183] rfl (by (try simp only [List.map_toArray, List.map_cons, List.map_nil]); first | done | rfl | (simp only [List.length_drop, List.length_take]; rfl)) ?_; (with_reducible refine (script_sign.calls k1 t183 t188 t189 false _ A13.out).mono ?_); rintro e w' ⟨rfl, ⟨nd, rfl⟩⟩; refine ⟨_, rfl, ?_⟩) | ((with_reducible refine gate_callee (f := 59) rfl ?_); refine goesL_ (some 53) rfl rfl Tryd.func59 (by kernel_rfl) rfl #[.pointer (some ⟨g, 0, none⟩), .int .i64 t189] rfl (by (try simp only [List.map_toArray, List.map_cons, List.map_nil]); first | done | rfl | (simp only [List.length_drop, List.length_take]; rfl)) ?_; (with_reducible refine (script_line_fail.calls g t184 t185 t186 t187 t189 t194 t195 t196 t197 w0 _ ?side1 ?side2 A20.out).mono ?_); (case side1 => repeat (first | (with_reducible first | exact HI0.out | apply IsS109.alloc | apply IsS109.drewN | apply IsS109.drew | apply IsS109.set_0 | apply IsS109.set_1 | apply IsS109.set_2 | apply IsS109.set_3) | exact HI0.out)); (case side2 => repeat (first | (with_reducible first | exact HB.out | apply below_alloc | apply pw_below_drewN | apply below_drew1 | refine below_set ?_ (IsS109.ge HI0.out)) | exact HB.out)); rintro e w22 ⟨rfl, hi, hb, hk⟩; refine ⟨_, rfl, ?_⟩; have n0_ := Aside0.mk (Kd.R_mono (Kd.R_keep (IsS109.apart (show IsS109 w0 _ g t184 t185 t186 t187 from by repeat (first | (with_reducible first | exact HI0.out | apply IsS109.alloc | apply IsS109.drewN | apply IsS109.drew | apply IsS109.set_0 | apply IsS109.set_1 | apply IsS109.set_2 | apply IsS109.set_3) | exact HI0.out)) (by (with_reducible repeat (first | apply Kd.R_alloc | apply Kd.R_drewN | apply Kd.R_drew)); exact HO_3.out) (by decide)) hk (fun _ h => h.2)) (fun _ h => h.1)); have n1_ := Aside0.mk (KeepBut.trans (by repeat (first | (with_reducible first | exact HK.out | apply KeepBut.set_ | apply keep_drewN | apply keep_drew | apply keep_alloc) | exact HK.out)) hk (.inl rfl)); have n2_ := Aside0.mk (hb); have n3_ := Aside0.mk (hi); clear HO_3; clear HK; clear HB; clear HI0; have HO_3 := n0_; have HK := n1_; have HB := n2_; have HI0 := n3_; clear n0_ n1_ n2_ n3_; (try clear hb); (try clear hb2); (try clear hk); (try clear hi)))
              go_ret
              exact ⟨_, by first | rfl | (simp [errW_none, errW_some] <;> rfl) | (simp [*, errW_none, errW_some] <;> rfl), by first | exact Kd.R_nil _ _ _ _ _ | exact Kd.N_nil _ _ _ _ _ | exact Kd.V_nil _ _ _ _ _ | exact Kd.Q_nil _ _ _ _ _ | exact Kd.S_nil _ _ _ _ _, by repeat (first | (with_reducible first | exact HI0.out | apply IsS109.alloc | apply IsS109.drewN | apply IsS109.drew | apply IsS109.set_0 | apply IsS109.set_1 | apply IsS109.set_2 | apply IsS109.set_3) | exact HI0.out), by repeat (first | (with_reducible first | exact HB.out | apply below_alloc | apply pw_below_drewN | apply below_drew1 | refine below_set ?_ (IsS109.ge HI0.out)) | exact HB.out), by repeat (first | (with_reducible first | exact HK.out | apply KeepBut.set_ | apply keep_drewN | apply keep_drew | apply keep_alloc) | exact HK.out)⟩
            · rw [if_neg c19] at H
              have c19b0 : decide (0 < t189) = false := decide_eq_false c19
              clear c19
              by_cases c23 : (x3_1.length : Int) = 0
              · rw [if_pos c23] at H
                have c23b0 : ((x3_1.length : Int) == 0) = true := beq_iff_eq.mpr c23
                have c23b1 : ((x3_1.length : Int) != 0) = false := bne_eq_false_iff_eq.mpr c23
                clear c23
                replace H := Option.bind_eq_some_iff.mp H
                obtain ⟨⟨t198, t199, t200, t201⟩, A240, H⟩ := H
                replace H : (some (([] : List Int), t198, t199, t200, t201)) = some (r1, r2, r3, r4, r5) := H
                have A24 := Aside0.mk A240
                clear A240
                simp only [Option.some.injEq, Prod.mk.injEq] at H
                obtain ⟨rfl, rfl, rfl, rfl, rfl⟩ := H
                go_wp2_with (first | ((with_reducible refine gate_callee (f := 85) rfl ?_); refine goesL_ (some 23) rfl rfl Tryd.func85 (by kernel_rfl) rfl #[.pointer (some ⟨g, 0, none⟩)] rfl (by (try simp only [List.map_toArray, List.map_cons, List.map_nil]); first | done | rfl | (simp only [List.length_drop, List.length_take]; rfl)) ?_; (with_reducible refine (script_line_rest.calls g x1000_1 x1001_1 x1002_1 x1003_1 t183 t184 t185 t186 t187 w0 _ ?side1 ?side2 A12.out).mono ?_); (case side1 => repeat (first | (with_reducible first | exact HI0.out | apply IsS109.alloc | apply IsS109.drewN | apply IsS109.drew | apply IsS109.set_0 | apply IsS109.set_1 | apply IsS109.set_2 | apply IsS109.set_3) | exact HI0.out)); (case side2 => repeat (first | (with_reducible first | exact HB.out | apply below_alloc | apply pw_below_drewN | apply below_drew1 | refine below_set ?_ (IsS109.ge HI0.out)) | exact HB.out)); rintro e w25 ⟨rfl, hi, hb, hk⟩; refine ⟨_, rfl, ?_⟩; have n0_ := Aside0.mk (Kd.R_mono (Kd.R_keep (IsS109.apart (show IsS109 w0 _ g x1000_1 x1001_1 x1002_1 x1003_1 from by repeat (first | (with_reducible first | exact HI0.out | apply IsS109.alloc | apply IsS109.drewN | apply IsS109.drew | apply IsS109.set_0 | apply IsS109.set_1 | apply IsS109.set_2 | apply IsS109.set_3) | exact HI0.out)) (by (with_reducible repeat (first | apply Kd.R_alloc | apply Kd.R_drewN | apply Kd.R_drew)); exact HO_3.out) (by decide)) hk (fun _ h => h.2)) (fun _ h => h.1)); have n1_ := Aside0.mk (KeepBut.trans (by repeat (first | (with_reducible first | exact HK.out | apply KeepBut.set_ | apply keep_drewN | apply keep_drew | apply keep_alloc) | exact HK.out)) hk (.inl rfl)); have n2_ := Aside0.mk (hb); have n3_ := Aside0.mk (hi); clear HO_3; clear HK; clear HB; clear HI0; have HO_3 := n0_; have HK := n1_; have HB := n2_; have HI0 := n3_; clear n0_ n1_ n2_ n3_; (try clear hb); (try clear hb2); (try clear hk); (try clear hi)) | ((with_reducible refine gate_callee (f := 97) rfl ?_); refine goesL_ (some 24) rfl rfl Tryd.func97 (by kernel_rfl) rfl #[.string t183] rfl (by (try simp only [List.map_toArray, List.map_cons, List.map_nil]); first | done | rfl | (simp only [List.length_drop, List.length_take]; rfl)) ?_; (with_reducible refine (script_sign.calls k1 t183 t188 t189 false _ A13.out).mono ?_); rintro e w' ⟨rfl, ⟨nd, rfl⟩⟩; refine ⟨_, rfl, ?_⟩; obtain ⟨Ao26, co26, eo26⟩ := Kd.R_slice HO_3.out; subst eo26) | ((with_reducible refine gate_callee (f := 59) rfl ?_); refine goesL_ (some 53) rfl rfl Tryd.func59 (by kernel_rfl) rfl #[.pointer (some ⟨g, 0, none⟩), .int .i64 t189] rfl (by (try simp only [List.map_toArray, List.map_cons, List.map_nil]); first | done | rfl | (simp only [List.length_drop, List.length_take]; rfl)) ?_; (with_reducible refine (script_line_fail.calls g t184 t185 t186 t187 t189 t198 t199 t200 t201 w0 _ ?side1 ?side2 A24.out).mono ?_); (case side1 => repeat (first | (with_reducible first | exact HI0.out | apply IsS109.alloc | apply IsS109.drewN | apply IsS109.drew | apply IsS109.set_0 | apply IsS109.set_1 | apply IsS109.set_2 | apply IsS109.set_3) | exact HI0.out)); (case side2 => repeat (first | (with_reducible first | exact HB.out | apply below_alloc | apply pw_below_drewN | apply below_drew1 | refine below_set ?_ (IsS109.ge HI0.out)) | exact HB.out)); rintro e w27 ⟨rfl, hi, hb, hk⟩; refine ⟨_, rfl, ?_⟩; have n0_ := Aside0.mk (Kd.R_mono (Kd.R_keep (IsS109.apart (show IsS109 w0 _ g t184 t185 t186 t187 from by repeat (first | (with_reducible first | exact HI0.out | apply IsS109.alloc | apply IsS109.drewN | apply IsS109.drew | apply IsS109.set_0 | apply IsS109.set_1 | apply IsS109.set_2 | apply IsS109.set_3) | exact HI0.out)) (by (with_reducible repeat (first | apply Kd.R_alloc | apply Kd.R_drewN | apply Kd.R_drew)); exact HO_3.out) (by decide)) hk (fun _ h => h.2)) (fun _ h => h.1)); have n1_ := Aside0.mk (KeepBut.trans (by repeat (first | (with_reducible first | exact HK.out | apply KeepBut.set_ | apply keep_drewN | apply keep_drew | apply keep_alloc) | exact HK.out)) hk (.inl rfl)); have n2_ := Aside0.mk (hb); have n3_ := Aside0.mk (hi); clear HO_3; clear HK; clear HB; clear HI0; have HO_3 := n0_; have HK := n1_; have HB := n2_; have HI0 := n3_; clear n0_ n1_ n2_ n3_; (try clear hb); (try clear hb2); (try clear hk); (try clear hi)))
                go_ret
                exact ⟨_, by first | rfl | (simp [errW_none, errW_some] <;> rfl) | (simp [*, errW_none, errW_some] <;> rfl), by first | exact Kd.R_nil _ _ _ _ _ | exact Kd.N_nil _ _ _ _ _ | exact Kd.V_nil _ _ _ _ _ | exact Kd.Q_nil _ _ _ _ _ | exact Kd.S_nil _ _ _ _ _, by repeat (first | (with_reducible first | exact HI0.out | apply IsS109.alloc | apply IsS109.drewN | apply IsS109.drew | apply IsS109.set_0 | apply IsS109.set_1 | apply IsS109.set_2 | apply IsS109.set_3) | exact HI0.out), by repeat (first | (with_reducible first | exact HB.out | apply below_alloc | apply pw_below_drewN | apply below_drew1 | refine below_set ?_ (IsS109.ge HI0.out)) | exact HB.out), by repeat (first | (with_reducible first | exact HK.out | apply KeepBut.set_ | apply keep_drewN | apply keep_drew | apply keep_alloc) | exact HK.out)⟩
              · rw [if_neg c23] at H
                have c23b0 : ((x3_1.length : Int) == 0) = false := beq_eq_false_iff_ne.mpr c23
                have c23b1 : ((x3_1.length : Int) != 0) = true := bne_iff_ne.mpr c23
                have c23b2 : ¬ (x3_1 = []) := fun h_ => c23 (by rw [h_]; rfl)
                simp only [Option.some.injEq, Prod.mk.injEq] at H
                obtain ⟨rfl, rfl, rfl, rfl, rfl⟩ := H
                go_wp2_with (first | ((with_reducible refine gate_callee (f := 85) rfl ?_); refine goesL_ (some 23) rfl rfl Tryd.func85 (by kernel_rfl) rfl #[.pointer (some ⟨g, 0, none⟩)] rfl (by (try simp only [List.map_toArray, List.map_cons, List.map_nil]); first | done | rfl | (simp only [List.length_drop, List.length_take]; rfl)) ?_; (with_reducible refine (script_line_rest.calls g x1000_1 x1001_1 x1002_1 x1003_1 t183 t184 t185 t186 t187 w0 _ ?side1 ?side2 A12.out).mono ?_); (case side1 => repeat (first | (with_reducible first | exact HI0.out | apply IsS109.alloc | apply IsS109.drewN | apply IsS109.drew | apply IsS109.set_0 | apply IsS109.set_1 | apply IsS109.set_2 | apply IsS109.set_3) | exact HI0.out)); (case side2 => repeat (first | (with_reducible first | exact HB.out | apply below_alloc | apply pw_below_drewN | apply below_drew1 | refine below_set ?_ (IsS109.ge HI0.out)) | exact HB.out)); rintro e w28 ⟨rfl, hi, hb, hk⟩; refine ⟨_, rfl, ?_⟩; have n0_ := Aside0.mk (Kd.R_mono (Kd.R_keep (IsS109.apart (show IsS109 w0 _ g x1000_1 x1001_1 x1002_1 x1003_1 from by repeat (first | (with_reducible first | exact HI0.out | apply IsS109.alloc | apply IsS109.drewN | apply IsS109.drew | apply IsS109.set_0 | apply IsS109.set_1 | apply IsS109.set_2 | apply IsS109.set_3) | exact HI0.out)) (by (with_reducible repeat (first | apply Kd.R_alloc | apply Kd.R_drewN | apply Kd.R_drew)); exact HO_3.out) (by decide)) hk (fun _ h => h.2)) (fun _ h => h.1)); have n1_ := Aside0.mk (KeepBut.trans (by repeat (first | (with_reducible first | exact HK.out | apply KeepBut.set_ | apply keep_drewN | apply keep_drew | apply keep_alloc) | exact HK.out)) hk (.inl rfl)); have n2_ := Aside0.mk (hb); have n3_ := Aside0.mk (hi); clear HO_3; clear HK; clear HB; clear HI0; have HO_3 := n0_; have HK := n1_; have HB := n2_; have HI0 := n3_; clear n0_ n1_ n2_ n3_; (try clear hb); (try clear hb2); (try clear hk); (try clear hi)) | ((with_reducible refine gate_callee (f := 97) rfl ?_); refine goesL_ (some 24) rfl rfl Tryd.func97 (by kernel_rfl) rfl #[.string t183] rfl (by (try simp only [List.map_toArray, List.map_cons, List.map_nil]); first | done | rfl | (simp only [List.length_drop, List.length_take]; rfl)) ?_; (with_reducible refine (script_sign.calls k1 t183 t188 t189 false _ A13.out).mono ?_); rintro e w' ⟨rfl, ⟨nd, rfl⟩⟩; refine ⟨_, rfl, ?_⟩; obtain ⟨Ao29, co29, eo29⟩ := Kd.R_slice HO_3.out; subst eo29))
                go_ret
                exact ⟨_, by first | rfl | (simp [errW_none, errW_some] <;> rfl) | (simp [*, errW_none, errW_some] <;> rfl), by (with_reducible repeat (first | apply Kd.R_alloc | apply Kd.R_drewN | apply Kd.R_drew)); exact HO_3.out, by repeat (first | (with_reducible first | exact HI0.out | apply IsS109.alloc | apply IsS109.drewN | apply IsS109.drew | apply IsS109.set_0 | apply IsS109.set_1 | apply IsS109.set_2 | apply IsS109.set_3) | exact HI0.out), by repeat (first | (with_reducible first | exact HB.out | apply below_alloc | apply pw_below_drewN | apply below_drew1 | refine below_set ?_ (IsS109.ge HI0.out)) | exact HB.out), by repeat (first | (with_reducible first | exact HK.out | apply KeepBut.set_ | apply keep_drewN | apply keep_drew | apply keep_alloc) | exact HK.out)⟩

def names_Hash.l0 : Nat → Int → List Int → Int → Int → Option (Int)
  | 0, _, _, _, _ => none
  | k + 1, x3, x6, x7, x8 => if x8 < x7 then (if 0 ≤ x8 then (if x8 < (x6.length : Int) then (names_Hash.l0 k (((Go.bits .xor .u32 x3 ((rd x6 x8) % 4294967296)) * 16777619) % 4294967296) x6 x7 (wrap64 (x8 + 1))) else (none)) else (none)) else (some (Go.bits .xor .u32 x3 (x3 / 65536)))
def names_Hash.f (k : Nat) (l0 : List Int) : Option (Int) := names_Hash.l0 k 2166136261 l0 (l0.length : Int) 0
def sluicelaw18_same.f (a0_0 : Int) (a0_1 : Int) (a0_2 : Int) (a0_3 : Int) (a0_4 : Int) (a0_5 : ByteArray) (a0_6 : Int) (a0_7 : Int) (a0_8 : Int) (a0_9 : Int) (l0_10 : List Int) (a1_0 : Int) (a1_1 : Int) (a1_2 : Int) (a1_3 : Int) (a1_4 : Int) (a1_5 : ByteArray) (a1_6 : Int) (a1_7 : Int) (a1_8 : Int) (a1_9 : Int) (l1_10 : List Int) : Option (Bool) := if a0_0 = a1_0 then (if a0_1 = a1_1 then (if (a0_2 == a1_2 && (a0_3 == a1_3)) = true then (if (a0_4 == a1_4 && (a0_5.toList == a1_5.toList && (a0_6 == a1_6 && (a0_7 == a1_7)))) = true then (if a0_8 = a1_8 then (if a0_9 = a1_9 then (some ((strOfNums l0_10).toList == (strOfNums l1_10).toList)) else (some false)) else (some false)) else (some false)) else (some false)) else (some false)) else (some false)
end Go.Proofs.YtnbfebjcfhbhiaaDoor.P
end
section
namespace Go.Proofs.YtnbfebjcfhbhiaaDoor.Sc
open Go Go.RowKit Go.Proofs.YtnbfebjcfhbhiaaDoor.P Go.Proofs.YtnbfebjcfhbhiaaDoorW.PrintWords Go.Proofs.YtnbfebjcfhbhiaaDoorW.PrintLast Go.Proofs.YtnbfebjcfhbhiaaDoorW.PrintMore
set_option linter.unusedVariables false
set_option linter.unusedSimpArgs false
def nums (x : By) : List Int := x.map fun c => (c.toNat : Int)
theorem plain_f (c : UInt8) : script_plain.f (c.toNat : Int) = some (plainB c) := by
  have h : ∀ n : Fin 256, script_plain.f (n.val : Int) = some (n.val == 95 || n.val == 46 || (decide (48 ≤ n.val) && decide (n.val ≤ 57)) || (decide (65 ≤ n.val) && decide (n.val ≤ 90)) || (decide (97 ≤ n.val) && decide (n.val ≤ 122))) := by decide +kernel
  exact h ⟨c.toNat, c.toNat_lt⟩
theorem idx_hex (c : UInt8) : Lib.indexByte [48, 49, 50, 51, 52, 53, 54, 55, 56, 57, 65, 66, 67, 68, 69, 70] c = match hexV c with
    | some n => (n : Int)
    | none => -1 := by
  have h : ∀ n : Fin 256, Lib.indexByte [48, 49, 50, 51, 52, 53, 54, 55, 56, 57, 65, 66, 67, 68, 69, 70] (UInt8.ofNat n.val) = match hexV (UInt8.ofNat n.val) with
    | some n => (n : Int)
    | none => -1 := by decide +kernel
  have := h ⟨c.toNat, c.toNat_lt⟩
  simpa using this
theorem hexV_lt {c : UInt8} {n : Nat} (h : hexV c = some n) : n < 16 := by
  unfold hexV at h
  split at h
  · rename_i hh; simp at hh; injection h with h; omega
  · split at h
    · rename_i hh; simp at hh; injection h with h; omega
    · cases h
theorem or_hex (a b : Nat) (ha : a < 16) (hb : b < 16) : Go.bits .or .u8 (((a : Int) * 16) % 256) ((b : Int) % 256) = ((16 * a + b : Nat) : Int) := by
  have h : ∀ a b : Fin 16, Go.bits .or .u8 (((a.val : Int) * 16) % 256) ((b.val : Int) % 256) = ((16 * a.val + b.val : Nat) : Int) := by decide +kernel
  exact h ⟨a, ha⟩ ⟨b, hb⟩
theorem or_hex0 (b : Nat) (hb : b < 16) : Go.bits .or .u8 (((0 : Int) * 16) % 256) ((b : Int) % 256) = (b : Int) := by
  have := or_hex 0 b (by decide) hb
  simpa using this
/-- A sign: its byte, how many bytes, is it one. -/
def signS : By → Nat × Nat × Bool
  | [] => (0, 0, false)
  | c :: l => if plainB c then (c.toNat, 1, true) else if c.toNat = 37 then
      match l with
      | [] => (0, 1, false)
      | h :: l1 => match hexV h with
        | none => (0, 1, false)
        | some a => match l1 with
          | [] => (0, 2, false)
          | k :: l2 => match hexV k with
            | none => (0, 2, false)
            | some b => if plainB (hexB a b) then (0, 2, false) else (16 * a + b, 3, true)
    else (0, 0, false)
theorem text_sign (l : By) : (signS l).2.1 ≤ l.length ∧ (if (signS l).2.2 = true then 0 < (signS l).2.1 ∧ (signS l).1 < 256 ∧ textGo l = (textGo (l.drop (signS l).2.1)).bnd (fun x r => .good ((signS l).1.toUInt8 :: x) r)
    else if (signS l).2.1 = 0 then textGo l = .good [] l else textGo l = .bad (l.drop (signS l).2.1)) := by
  match l with
  | [] => exact ⟨Nat.le_refl _, by simp [signS, textGo]⟩
  | c :: l =>
    by_cases hc : plainB c = true
    · rw [textGo_plain hc]
      simp only [signS, hc, if_true]
      exact ⟨by simp, by decide, c.toNat_lt, by simp [Nat.toUInt8]⟩
    · by_cases h37 : c.toNat = 37
      · match l with
        | [] => simp [signS, textGo, hc, h37]
        | h :: l1 =>
          cases hh : hexV h with
          | none => simp [signS, textGo, hc, h37, hh]
          | some a =>
            match l1 with
            | [] => simp [signS, textGo, hc, h37, hh]
            | k :: l2 =>
              cases hk : hexV k with
              | none => simp [signS, textGo, hc, h37, hh, hk]
              | some b =>
                have ha := hexV_lt hh
                have hb := hexV_lt hk
                by_cases hp : plainB (hexB a b) = true
                · simp [signS, textGo, hc, h37, hh, hk, hp]
                · have h1 : 16 * a + b < 256 := by omega
                  have h2 : (16 * a + b).toUInt8 = hexB a b := rfl
                  simp [signS, textGo, hc, h37, hh, hk, hp, h1, h2]
      · rw [textGo_stop hc h37]; simp [signS, hc, h37]
theorem plain_n (n : Nat) (h : n < 256) : script_plain.f (n : Int) = some (plainB (UInt8.ofNat n)) := by
  have := plain_f (UInt8.ofNat n)
  rwa [UInt8.toNat_ofNat', Nat.mod_eq_of_lt (by omega)] at this
theorem sign_ev (l : By) (hl : l.length ≤ 4611686018427387904) : Ev (fun k => script_sign.f k (sb l)) (((signS l).1 : Int), ((signS l).2.1 : Int), (signS l).2.2) := by
  have hsz : (sb l).size = l.length := by rw [← bs_len, bs_sb]
  match l, hl, hsz with
  | [], hl, hsz =>
    refine Ev.congr (f := fun _ => some _) (fun k => ?_) (Ev.now _)
    unfold script_sign.f
    rw [toList_bs, bs_sb, if_pos rfl]
    rfl
  | c :: l, hl, hsz =>
    simp only [List.length_cons] at hsz hl
    have hb0 : bt (sb (c :: l)) 0 = (c.toNat : Int) := by
      have := bt_bs (sb (c :: l)) 0 (by rw [bs_sb]; simp)
      simpa [bs_sb] using this
    have e0 : ∀ k, script_sign.f k (sb (c :: l)) = if plainB c = true then some ((c.toNat : Int), 1, true) else if (c.toNat : Int) = 37 then script_sign.l0 k (sb (c :: l)) 0 1 else some (0, 0, false) := fun k => by
      unfold script_sign.f
      rw [toList_bs, bs_sb, if_neg (by simp), if_pos (by omega), hb0, plain_f, Option.bind_some]
    refine Ev.congr e0 ?_
    by_cases hc : plainB c = true
    · simp only [hc, if_true, signS]; exact Ev.now _
    · simp only [hc, if_false, Bool.false_eq_true]
      by_cases h37 : c.toNat = 37
      · have h37i : (c.toNat : Int) = 37 := by omega
        simp only [h37i, if_true]
        -- the first digit
        have st : ∀ (k : Nat) (x2 : Int) (i : Nat) (hi : i < 3), script_sign.l0 (k + 1) (sb (c :: l)) x2 (i : Int) = if h : i < l.length + 1 then (match hexV ((c :: l)[i]'(by simpa using h)) with
            | none => some (0, (i : Int), false)
            | some n => script_sign.l0 k (sb (c :: l)) (Go.bits .or .u8 ((x2 * 16) % 256) ((n : Int) % 256)) ((i + 1 : Nat) : Int)) else some (0, (i : Int), false) := fun k x2 i hi => by
          by_cases h : i < l.length + 1
          · have hbi : bt (sb (c :: l)) (i : Int) = (((c :: l)[i]'(by simpa using h)).toNat : Int) := by
              have := bt_bs (sb (c :: l)) i (by rw [bs_sb]; simpa using h)
              simpa [bs_sb] using this
            rw [dif_pos h, script_sign.l0, if_pos (by omega), if_neg (by omega), if_pos (by omega), if_pos (by omega), hbi]
            unfold strings_IndexByte.f
            rw [Option.bind_some]
            have hu : (((c :: l)[i]'(by simpa using h)).toNat : Int).toNat.toUInt8 = (c :: l)[i]'(by simpa using h) := by
              rw [Int.toNat_natCast]; simp [Nat.toUInt8]
            rw [hu, show (⟨#[48, 49, 50, 51, 52, 53, 54, 55, 56, 57, 65, 66, 67, 68, 69, 70]⟩ : ByteArray).data.toList = [48, 49, 50, 51, 52, 53, 54, 55, 56, 57, 65, 66, 67, 68, 69, 70] from rfl, idx_hex]
            cases hexV ((c :: l)[i]'(by simpa using h)) with
            | none => rfl
            | some n =>
              simp only
              rw [if_neg (by omega), w64 (by omega) (by omega)]
              rfl
          · rw [dif_neg h, script_sign.l0, if_pos (by omega), if_pos (by omega)]
        have st3 : ∀ (k x2 : Nat) (hx : x2 < 256), script_sign.l0 (k + 1) (sb (c :: l)) (x2 : Int) ((3 : Nat) : Int) = if plainB (UInt8.ofNat x2) = true then some (0, 2, false) else some ((x2 : Int), 3, true) := fun k x2 hx => by
          rw [script_sign.l0, if_neg (by omega), plain_n x2 hx, Option.bind_some]
        match l, st, st3 with
        | [], st, st3 =>
          refine Ev.step (f := fun _ => some _) (fun k => ?_) (Ev.now _)
          have := st k 0 1 (by decide)
          rw [dif_neg (by simp)] at this
          simpa [signS, hc, h37] using this
        | h :: l1, st, st3 =>
          cases hh : hexV h with
          | none =>
            refine Ev.step (f := fun _ => some _) (fun k => ?_) (Ev.now _)
            have := st k 0 1 (by decide)
            rw [dif_pos (by simp)] at this
            simpa [signS, hc, h37, hh] using this
          | some a =>
            have ha := hexV_lt hh
            refine Ev.step (f := fun k => script_sign.l0 k (sb (c :: h :: l1)) (a : Int) ((2 : Nat) : Int)) (fun k => ?_) ?_
            · have := st k 0 1 (by decide)
              rw [dif_pos (by simp)] at this
              simp only [List.getElem_cons_succ, List.getElem_cons_zero, hh, or_hex0 a ha] at this
              exact this
            · match l1, st, st3 with
              | [], st, st3 =>
                refine Ev.step (f := fun _ => some _) (fun k => ?_) (Ev.now _)
                have := st k a 2 (by decide)
                rw [dif_neg (by simp)] at this
                simpa [signS, hc, h37, hh] using this
              | k0 :: l2, st, st3 =>
                cases hk : hexV k0 with
                | none =>
                  refine Ev.step (f := fun _ => some _) (fun k => ?_) (Ev.now _)
                  have := st k a 2 (by decide)
                  rw [dif_pos (by simp)] at this
                  simpa [signS, hc, h37, hh, hk] using this
                | some b =>
                  have hb := hexV_lt hk
                  refine Ev.step (f := fun k => script_sign.l0 k (sb (c :: h :: k0 :: l2)) ((16 * a + b : Nat) : Int) ((3 : Nat) : Int)) (fun k => ?_) ?_
                  · have := st k a 2 (by decide)
                    rw [dif_pos (by simp)] at this
                    simp only [List.getElem_cons_succ, List.getElem_cons_zero, hk, or_hex a b ha hb] at this
                    exact this
                  · refine Ev.step (f := fun _ => some _) (fun k => ?_) (Ev.now _)
                    rw [st3 k (16 * a + b) (by omega), show UInt8.ofNat (16 * a + b) = hexB a b from rfl]
                    by_cases hp : plainB (hexB a b) = true
                    · simp [signS, hc, h37, hh, hk, hp]
                    · simp [signS, hc, h37, hh, hk, hp]
      · have hn : ¬ (c.toNat : Int) = 37 := by omega
        simp only [hn, signS, hc, h37, if_false, Bool.false_eq_true]
        exact Ev.now _
theorem nums_append (a b : By) : nums (a ++ b) = nums a ++ nums b := by simp [nums]
theorem bytes_go (t : ByteArray) (hs : t.size ≤ 2097152) (w bad : Bool) : ∀ (n : Nat) (l : By) (at_ : Int) (acc : By), l.length ≤ n → acc.length + l.length ≤ 2097152 → LSt (bs t) (.good () l) at_ bad →
    ∃ x at' bad' r', Ev (fun k => script_line_bytes.l0 k (nums acc) t at_ w bad) (nums x, t, at', w, bad') ∧ LSt (bs t) r' at' bad' ∧ match textGo l with
      | .good y l' => if acc ++ y = [] then r' = .bad l' else x = acc ++ y ∧ r' = .good () l'
      | .bad l' => r' = .bad l' := by
  intro n
  induction n with
  | zero =>
    intro l at_ acc hn ha h
    obtain rfl : l = [] := List.length_eq_zero_iff.1 (by omega)
    have hr := rest_f (w := w) h
    have hsg := sign_ev [] (by simp)
    simp only [signS] at hsg
    have hb := h.1
    obtain ⟨at1, hf1, hS1⟩ := fail_f (w := w) (n := ((0 : Nat) : Int)) h 0 rfl (Nat.le_refl _) (by omega)
    have st : ∀ k, script_line_bytes.l0 (k + 1) (nums acc) t at_ w bad = (script_sign.f k (sb [])).bind fun s => if s.2.2 = true then (if (nums acc).length < 140737488355328 then script_line_bytes.l0 k (nums acc ++ [s.1]) t (wrap64 (at_ + s.2.1)) w bad else none) else if s.2.1 > 0 then ((script_line_fail.f t at_ w bad s.2.1).bind fun b => some (([] : List Int), b.1, b.2.1, b.2.2.1, b.2.2.2)) else if ((nums acc).length : Int) = 0 then ((script_line_fail.f t at_ w bad s.2.1).bind fun b => some (([] : List Int), b.1, b.2.1, b.2.2.1, b.2.2.2)) else some (nums acc, t, at_, w, bad) := fun k => by
      rw [script_line_bytes.l0, hr, Option.bind_some]
    by_cases hacc : acc = []
    · subst hacc
      refine ⟨[], at1, true, .bad [], Ev.step st (Ev.bind hsg (Ev.congr (f := fun _ => some _) (fun k => ?_) (Ev.now _))), hS1, by simp [textGo]⟩
      simp only [Bool.false_eq_true, if_false]
      rw [if_neg (by decide), if_pos (by simp [nums]), hf1]
      rfl
    · refine ⟨acc, at_, bad, .good () [], Ev.step st (Ev.bind hsg (Ev.congr (f := fun _ => some _) (fun k => ?_) (Ev.now _))), h, by simp [textGo, hacc]⟩
      simp only [Bool.false_eq_true, if_false]
      rw [if_neg (by decide), if_neg (by simp [nums, hacc])]
  | succ n ih =>
    intro l at_ acc hn ha h
    have hr := rest_f (w := w) h
    have hsg := sign_ev l (by omega)
    obtain ⟨hle, hsem⟩ := text_sign l
    obtain ⟨c, m, ok, hcm⟩ : ∃ c m ok, signS l = (c, m, ok) := ⟨_, _, _, rfl⟩
    rw [hcm] at hsg hle hsem
    simp only at hsg hle hsem
    have st : ∀ k, script_line_bytes.l0 (k + 1) (nums acc) t at_ w bad = (script_sign.f k (sb l)).bind fun s => if s.2.2 = true then (if (nums acc).length < 140737488355328 then script_line_bytes.l0 k (nums acc ++ [s.1]) t (wrap64 (at_ + s.2.1)) w bad else none) else if s.2.1 > 0 then ((script_line_fail.f t at_ w bad s.2.1).bind fun b => some (([] : List Int), b.1, b.2.1, b.2.2.1, b.2.2.2)) else if ((nums acc).length : Int) = 0 then ((script_line_fail.f t at_ w bad s.2.1).bind fun b => some (([] : List Int), b.1, b.2.1, b.2.2.1, b.2.2.2)) else some (nums acc, t, at_, w, bad) := fun k => by
      rw [script_line_bytes.l0, hr, Option.bind_some]
    obtain ⟨hb0, p, hp, hat⟩ := id h
    have hpl : p.length + l.length = t.size := by rw [← bs_len, hp, List.length_append]
    cases ok with
    | true =>
      simp only [if_true] at hsem
      obtain ⟨hm0, hc, htx⟩ := hsem
      have hacc : nums acc ++ [(c : Int)] = nums (acc ++ [c.toUInt8]) := by
        rw [nums_append]
        simp [nums, Nat.toUInt8]
        omega
      obtain ⟨x, at', bad', r', h1, h2, h3⟩ := ih (l.drop m) (at_ + m) (acc ++ [c.toUInt8]) (by rw [List.length_drop]; omega) (by rw [List.length_drop, List.length_append]; simp; omega) ⟨hb0, p ++ l.take m, by rw [List.append_assoc, List.take_append_drop]; exact hp, by rw [List.length_append, List.length_take, Nat.min_eq_left hle]; omega⟩
      refine ⟨x, at', bad', r', Ev.step st (Ev.bind hsg (Ev.congr (f := fun k => script_line_bytes.l0 k (nums (acc ++ [c.toUInt8])) t (at_ + m) w bad) (fun k => ?_) h1)), h2, ?_⟩
      · simp only [if_true]
        rw [if_pos (by simp [nums]; omega), hacc, w64 (by omega) (by omega)]
      · rw [htx]
        cases ht : textGo (l.drop m) with
        | bad l' => rw [ht] at h3; simpa [R.bnd] using h3
        | good y l' => rw [ht] at h3; simpa [R.bnd] using h3
    | false =>
      simp only [Bool.false_eq_true, if_false] at hsem
      obtain ⟨at1, hf1, hS1⟩ := fail_f (w := w) (n := (m : Int)) h m rfl hle (by omega)
      by_cases hm : m = 0
      · subst hm
        simp only [if_true] at hsem
        by_cases hacc : acc = []
        · subst hacc
          refine ⟨[], at1, true, .bad (l.drop 0), Ev.step st (Ev.bind hsg (Ev.congr (f := fun _ => some _) (fun k => ?_) (Ev.now _))), hS1, by rw [hsem]; simp⟩
          simp only [Bool.false_eq_true, if_false]
          rw [if_neg (by decide), if_pos (by simp [nums]), hf1]
          rfl
        · refine ⟨acc, at_, bad, .good () l, Ev.step st (Ev.bind hsg (Ev.congr (f := fun _ => some _) (fun k => ?_) (Ev.now _))), h, by rw [hsem]; simp [hacc]⟩
          simp only [Bool.false_eq_true, if_false]
          rw [if_neg (by decide), if_neg (by simp [nums, hacc])]
      · rw [if_neg hm] at hsem
        refine ⟨[], at1, true, .bad (l.drop m), Ev.step st (Ev.bind hsg (Ev.congr (f := fun _ => some _) (fun k => ?_) (Ev.now _))), hS1, by rw [hsem]⟩
        simp only [Bool.false_eq_true, if_false]
        rw [if_pos (by omega), hf1]
        rfl
theorem bytes_f (t : ByteArray) (r : R Unit) (at_ : Int) (w bad : Bool) (h : LSt (bs t) r at_ bad) (hs : t.size ≤ 2097152) :
    ∃ x at' bad' r', Ev (fun k => script_line_bytes.f k t at_ w bad) (nums x, t, at', w, bad') ∧ LSt (bs t) r' at' bad' ∧ Pst textP r x r' := by
  cases r with
  | bad l =>
    refine ⟨[], at_, bad, .bad l, Ev.congr (f := fun _ => some _) (fun k => ?_) (Ev.now _), h, rfl⟩
    unfold script_line_bytes.f
    rw [if_pos h.1]
    rfl
  | good u l =>
    obtain ⟨hb0, p, hp, hat⟩ := id h
    have hpl : p.length + l.length = t.size := by rw [← bs_len, hp, List.length_append]
    have e0 : ∀ k, script_line_bytes.f k t at_ w bad = if (decide ((bs ⟨#[45]⟩) <+: l)) = true then some (([] : List Int), t, wrap64 (at_ + 1), w, bad) else script_line_bytes.l0 k ([] : List Int) t at_ w bad := fun k => by
      unfold script_line_bytes.f
      rw [if_neg (by rw [hb0]; decide), rest_f h, Option.bind_some, pre_f, bs_sb, Option.bind_some]
    by_cases hm : l.head? = some 45
    · have hd : decide ((bs ⟨#[45]⟩) <+: l) = true := by
        cases l with
        | nil => cases hm
        | cons c l => obtain rfl : c = 45 := by simpa using hm
                      simp [bs]
      have hl0 : 0 < l.length := by cases l <;> simp_all
      refine ⟨[], at_ + 1, bad, .good () (l.drop 1), Ev.congr (f := fun _ => some _) (fun k => ?_) (Ev.now _), ⟨hb0, p ++ l.take 1, by rw [List.append_assoc, List.take_append_drop]; exact hp, by rw [List.length_append, List.length_take, Nat.min_eq_left (by omega)]; omega⟩, ?_⟩
      · rw [e0, if_pos hd, w64 (by omega) (by omega)]; rfl
      · unfold Pst textP; simp only [hm, if_true]; exact ⟨trivial, by rw [List.drop_one]⟩
    · have hd : ¬ decide ((bs ⟨#[45]⟩) <+: l) = true := by
        cases l with
        | nil => simp [bs]
        | cons c l => simp [bs]; intro e; exact hm (by rw [← e]; rfl)
      obtain ⟨x, at', bad', r', h1, h2, h3⟩ := bytes_go t hs w bad l.length l at_ [] (Nat.le_refl _) (by simp; omega) h
      refine ⟨x, at', bad', r', Ev.congr (fun k => by rw [e0, if_neg hd]; rfl) h1, h2, ?_⟩
      unfold Pst textP
      simp only [hm, if_false]
      cases ht : textGo l with
      | bad l' => rw [ht] at h3; simpa [R.bnd] using h3
      | good y l' =>
        rw [ht] at h3
        simp only [List.nil_append] at h3
        by_cases hy : y = []
        · simp only [hy, if_true, R.bnd] at h3 ⊢; exact h3
        · simp only [hy, if_false, R.bnd] at h3 ⊢; exact h3
end Go.Proofs.YtnbfebjcfhbhiaaDoor.Sc
end
section
namespace Go.Proofs.YtnbfebjcfhbhiaaDoor.P
open Go.RowKit Go.Proofs.YtnbfebjcfhbhiaaDoorW.PrintWords Go.Proofs.YtnbfebjcfhbhiaaDoorW.PrintLast Go.Proofs.YtnbfebjcfhbhiaaDoorW.PrintMore
attribute [local go_sem] max2_int min2_int max_two min_two max_three min_three max_four min_four   -- for this text's walks alone
set_option linter.unusedVariables false
set_option linter.unusedSimpArgs false

def sluicelaw18_alike.l0 : Nat → List (S48) → List (S48) → Int → Option (Bool)
  | 0, _, _, _ => none
  | k + 1, x0, x1, x5 => if x5 < (x0.length : Int) then (if 0 ≤ x5 then (if x5 < (x1.length : Int) then ((sluicelaw18_same.f ((rd_T48 x0 x5).f0) ((rd_T48 x0 x5).f1) ((rd_T48 x0 x5).f2.f0) ((rd_T48 x0 x5).f2.f1) ((rd_T48 x0 x5).f3.f0) ((rd_T48 x0 x5).f3.f1) ((rd_T48 x0 x5).f3.f2) ((rd_T48 x0 x5).f3.f3) ((rd_T48 x0 x5).f4) ((rd_T48 x0 x5).f5) ((rd_T48 x0 x5).f6) ((rd_T48 x1 x5).f0) ((rd_T48 x1 x5).f1) ((rd_T48 x1 x5).f2.f0) ((rd_T48 x1 x5).f2.f1) ((rd_T48 x1 x5).f3.f0) ((rd_T48 x1 x5).f3.f1) ((rd_T48 x1 x5).f3.f2) ((rd_T48 x1 x5).f3.f3) ((rd_T48 x1 x5).f4) ((rd_T48 x1 x5).f5) ((rd_T48 x1 x5).f6)).bind fun t212 => (if t212 = true then (sluicelaw18_alike.l0 k x0 x1 (wrap64 (x5 + 1))) else (some false))) else (none)) else (none)) else (some true)
def sluicelaw18_alike.f (k : Nat) (l0 : List (S48)) (l1 : List (S48)) : Option (Bool) := if (l0.length : Int) = (l1.length : Int) then (sluicelaw18_alike.l0 k l0 l1 0) else (some false)
/-- A state of type 122 at block g of W; what its slices lead to came in by w0. -/
def IsS122 (w0 W : World) (g : Nat) (f0 : ByteArray) (f1 : Int) (f2 : Bool) : Prop := W.heap[g]? = some (.cells #[.string f0, .int .i64 f1, .bool f2] 122 (0, 0)) ∧ w0.heap.size ≤ g
theorem IsS122.drewN {w0 W : World} {g : Nat} {f0 : ByteArray} {f1 : Int} {f2 : Bool} (h : IsS122 w0 W g f0 f1 f2) (m : Nat) : IsS122 w0 (W.drewN m) g f0 f1 f2 := h
theorem IsS122.at_ {w0 W : World} {g : Nat} {f0 : ByteArray} {f1 : Int} {f2 : Bool} {w' : World} {m : Nat} (hq : W.drewN m = w') (h : IsS122 w0 W g f0 f1 f2) : IsS122 w0 w' g f0 f1 f2 := by subst hq; exact IsS122.drewN h m
def sluiceref18_reader_next.f (s0_0 : ByteArray) (s0_1 : Int) (s0_2 : Bool) : Option (Int × ByteArray × Int × Bool) := if s0_1 ≥ (s0_0.size : Int) then (some ((-1), s0_0, s0_1, s0_2)) else (if 0 ≤ s0_1 then (if s0_1 < (s0_0.size : Int) then (some (wrap64 (bt s0_0 s0_1), s0_0, s0_1, s0_2)) else (none)) else (none))
def sluiceref18_reader_want.f (s0_0 : ByteArray) (s0_1 : Int) (s0_2 : Bool) (a1 : Int) : Option (ByteArray × Int × Bool) := if s0_2 = true then (some (s0_0, s0_1, s0_2)) else ((sluiceref18_reader_next.f s0_0 s0_1 s0_2).bind fun bt213 => (if bt213.1 = a1 then (some (bt213.2.1, wrap64 (bt213.2.2.1 + 1), bt213.2.2.2)) else (some (bt213.2.1, bt213.2.2.1, true))))
def sluiceref18_begins.f (a0 : ByteArray) (a1 : ByteArray) : Option (Bool) := if (a0.size : Int) ≥ (a1.size : Int) then (if 0 ≤ (a1.size : Int) then (if (a1.size : Int) ≤ (a0.size : Int) then (some ((a0.extract 0 ((a1.size : Int) : Int).toNat).toList == a1.toList)) else (none)) else (none)) else (some false)
end Go.Proofs.YtnbfebjcfhbhiaaDoor.P
end
section
namespace Go.Proofs.YtnbfebjcfhbhiaaDoor.Lw
open Go Go.RowKit Go.Proofs.YtnbfebjcfhbhiaaDoor.P Go.Proofs.YtnbfebjcfhbhiaaDoor.Sc Go.Proofs.YtnbfebjcfhbhiaaDoorW.PrintWords Go.Proofs.YtnbfebjcfhbhiaaDoorW.PrintLast Go.Proofs.YtnbfebjcfhbhiaaDoorW.PrintMore
set_option linter.unusedVariables false
set_option linter.unusedSimpArgs false
def stc (x : St) (dv : Value) : Array Value := #[.int .i64 x.kind, .int .i64 x.rep, .int .i64 x.ses, .int .i64 x.id, .int .i64 x.ok, .string (sb x.name), .int .i64 x.a, .int .i64 x.b, .int .i64 x.i, .int .i64 x.j, dv]
/-- Beside g and b nothing has turned. -/
def KB (W wx : World) (g b : Nat) : Prop := W.heap.size ≤ wx.heap.size ∧ ∀ i, i < W.heap.size → i ≠ g → i ≠ b → wx.heap[i]? = W.heap[i]?
theorem KB.refl (W : World) (g b : Nat) : KB W W g b := ⟨Nat.le_refl _, fun _ _ _ _ => rfl⟩
theorem KB.keep {W wx w1 : World} {g b : Nat} (h : KB W wx g b) (k : KeepBut wx w1 g none) : KB W w1 g b :=
  ⟨Nat.le_trans h.1 k.1, fun i hi hg hb => (k.2 i (Nat.lt_of_lt_of_le hi h.1) hg (by simp)).trans (h.2 i hi hg hb)⟩
theorem KB.trans {W wx w1 : World} {g b : Nat} (h : KB W wx g b) (k : KB wx w1 g b) : KB W w1 g b :=
  ⟨Nat.le_trans h.1 k.1, fun i hi hg hb => (k.2 i (Nat.lt_of_lt_of_le hi h.1) hg hb).trans (h.2 i hi hg hb)⟩
theorem KB.set {W wx : World} {g b : Nat} (h : KB W wx g b) (j : Nat) (v : Value) : KB W (wx.setCell ⟨b, j, none⟩ v) g b :=
  ⟨by simpa [World.setCell] using h.1, fun i hi hg hb => (Below.heap_setCell wx ⟨b, j, none⟩ v i hb).trans (h.2 i hi hg hb)⟩
/-- The line stands as r says, the step is x; its data lie from N on. -/
structure SX (w0 : World) (N : Nat) (W wx : World) (g b : Nat) (t : ByteArray) (wh : Bool) (r : R Unit) (x : St) : Prop where
  ls : LS w0 wx wx g t wh r
  st : ∃ dv, wx.heap[b]? = some (.cells (stc x dv) 48 (0, 0)) ∧ Kd.R (Kd.int .u8) 5 wx N (fun _ => True) dv (nums x.data)
  pl : g < N ∧ b < N ∧ w0.heap.size ≤ b ∧ g ≠ b
  kb : KB W wx g b
  nw : N ≤ W.heap.size
section
variable {w0 W wx w1 : World} {N g b : Nat} {t : ByteArray} {wh : Bool} {r r' : R Unit} {x : St}
theorem SX.call (h : SX w0 N W wx g b t wh r x) (k : LS w0 wx w1 g t wh r') : SX w0 N W w1 g b t wh r' x := by
  obtain ⟨dv, h1, h2⟩ := h.st
  refine ⟨k.from_, ⟨dv, (k.keep.2 b (blk_lt h1) (Ne.symm h.pl.2.2.2) (by simp)).trans h1, ?_⟩, h.pl, h.kb.keep k.keep, h.nw⟩
  exact Kd.R_mono (Kd.R_step (Kd.R_bound h2) (fun i hi hlt => k.keep.2 i hlt (by have := h.pl.1; have := hi.2.1; omega) (by simp))) (fun _ _ => trivial)
theorem SX.below (h : SX w0 N W wx g b t wh r x) (hb : Below wx.heap.size wx w1) : SX w0 N W w1 g b t wh r x := h.call (h.ls.below hb)
/-- A cell of the step is written. -/
theorem SX.set (h : SX w0 N W wx g b t wh r x) (j : Nat) (v : Value) (x' : St) (hd : x'.data = x.data) (hc : ∀ dv, (stc x dv).setIfInBounds j v = stc x' dv) : SX w0 N W (wx.setCell ⟨b, j, none⟩ v) g b t wh r x' := by
  obtain ⟨dv, h1, h2⟩ := h.st
  have hgb := h.pl.2.2.2
  refine ⟨?_, ⟨dv, by rw [heap_setCell_same wx b j _ _ v h1, hc], ?_⟩, h.pl, h.kb.set j v, h.nw⟩
  · obtain ⟨a, bd, k1, k2, k3, k4, k5⟩ := h.ls
    exact ⟨a, bd, ⟨(Below.heap_setCell wx ⟨b, j, none⟩ v g hgb).trans k1.1, k1.2⟩, k2, k3.setCell (p := ⟨b, j, none⟩) h.pl.2.2.1 v, KeepBut.refl _ _ _, k5⟩
  · rw [hd]
    exact Kd.R_mono (Kd.R_step (Kd.R_bound h2) (fun i hi hlt => Below.heap_setCell wx ⟨b, j, none⟩ v i (by have := h.pl.2.1; have := hi.2.1; show i ≠ b; omega))) (fun _ _ => trivial)
/-- The data are stored. -/
theorem SX.data (h : SX w0 N W wx g b t wh r x) (v : Value) (d : By) (hv : Kd.R (Kd.int .u8) 5 wx N (fun _ => True) v (nums d)) : SX w0 N W (wx.setCell ⟨b, 10, none⟩ v) g b t wh r { x with data := d } := by
  obtain ⟨dv, h1, h2⟩ := h.st
  have hgb := h.pl.2.2.2
  refine ⟨?_, ⟨v, by rw [heap_setCell_same wx b 10 _ _ v h1]; rfl, ?_⟩, h.pl, h.kb.set 10 v, h.nw⟩
  · obtain ⟨a, bd, k1, k2, k3, k4, k5⟩ := h.ls
    exact ⟨a, bd, ⟨(Below.heap_setCell wx ⟨b, 10, none⟩ v g hgb).trans k1.1, k1.2⟩, k2, k3.setCell (p := ⟨b, 10, none⟩) h.pl.2.2.1 v, KeepBut.refl _ _ _, k5⟩
  · exact Kd.R_mono (Kd.R_step (Kd.R_bound hv) (fun i hi hlt => Below.heap_setCell wx ⟨b, 10, none⟩ v i (by have := h.pl.2.1; have := hi.2.1; show i ≠ b; omega))) (fun _ _ => trivial)
end
/-- bytes, in ScSpec's words. -/
theorem bytes_calls {w0 W wx : World} {g : Nat} {t : ByteArray} {wh : Bool} {r : R Unit} (h : LS w0 W wx g t wh r) :
    Calls Tryd.prog 86 #[.pointer (some ⟨g, 0, none⟩)] wx fun e w' => ∃ v x r', e = .returned v ∧ Kd.R (Kd.int .u8) 5 w' wx.heap.size (fun _ => True) v (nums x) ∧ LS w0 W w' g t wh r' ∧ Pst textP r x r' := by
  obtain ⟨a, bd, h1, h2, h3, h4, h5⟩ := h
  obtain ⟨x, at', bad', r', hf, hS, hP⟩ := bytes_f t r a wh bd h2 h5
  obtain ⟨k, hk⟩ := hf.rounds
  refine (script_line_bytes.calls k g t a wh bd _ _ _ _ _ w0 wx h1 h3 hk).mono ?_
  rintro e w' ⟨v, he, hR, k1, k2, k3⟩
  exact ⟨v, x, r', he, hR, ⟨at', bad', k1, hS, k2, h4.trans k3 (.inl rfl), h5⟩, hP⟩
/-- The letters of the parts. -/
def partOf (c : UInt8) : Part := if c.toNat = 114 then .r else if c.toNat = 115 then .s else if c.toNat = 110 then .n else if c.toNat = 105 then .i else if c.toNat = 106 then .j else if c.toNat = 97 then .a else if c.toNat = 107 then .k else if c.toNat = 100 then .d else if c.toNat = 111 then .o else .b
/-- Where a part's number stands in a step. -/
def cellOf : Part → Nat
  | .r => 1 | .s => 2 | .n => 3 | .i => 8 | .j => 9 | .a => 6 | _ => 7
set_option maxHeartbeats 4000000 in
set_option maxRecDepth 100000 in
theorem field_calls (w : World) (b : Nat) (c : UInt8) : Calls Tryd.prog 57 #[.pointer (some ⟨b, 0, none⟩), .int .i32 (c.toNat : Int)] w fun e w' => e = .returned (.pointer (some ⟨b, cellOf (partOf c), none⟩)) ∧ Below w.heap.size w w' := by
  have hu48 := Tryd.underlying48
  obtain ⟨n, hn⟩ : ∃ n, c.toNat = n := ⟨_, rfl⟩
  unfold partOf
  rw [hn]
  clear hn
  go_enter Tryd.func57, Tryd.ntmps57
  by_cases h0 : n = 114
  · subst h0
    go_wp2_with fail
    go_ret
    exact ⟨rfl, Below.refl _ _⟩
  have e0 : ((n : Int) == 114) = false := by simp; omega
  by_cases h1 : n = 115
  · subst h1
    go_wp2_with fail
    go_ret
    exact ⟨rfl, Below.refl _ _⟩
  have e1 : ((n : Int) == 115) = false := by simp; omega
  by_cases h2 : n = 110
  · subst h2
    go_wp2_with fail
    go_ret
    exact ⟨rfl, Below.refl _ _⟩
  have e2 : ((n : Int) == 110) = false := by simp; omega
  by_cases h3 : n = 105
  · subst h3
    go_wp2_with fail
    go_ret
    exact ⟨rfl, Below.refl _ _⟩
  have e3 : ((n : Int) == 105) = false := by simp; omega
  by_cases h4 : n = 106
  · subst h4
    go_wp2_with fail
    go_ret
    exact ⟨rfl, Below.refl _ _⟩
  have e4 : ((n : Int) == 106) = false := by simp; omega
  by_cases h5 : n = 97
  · subst h5
    go_wp2_with fail
    go_ret
    exact ⟨rfl, Below.refl _ _⟩
  have e5 : ((n : Int) == 97) = false := by simp; omega
  go_wp2_with fail
  all_goals
    go_ret
    refine ⟨?_, Below.refl _ _⟩
    first | rfl | (split <;> rfl)
def stepFs : List S153 := [⟨⟨#[99, 97, 108, 108]⟩, ⟨#[114, 115, 110, 111]⟩, 1⟩, ⟨⟨#[100, 101, 108, 105, 118, 101, 114]⟩, ⟨#[105]⟩, 2⟩, ⟨⟨#[100, 114, 111, 112]⟩, ⟨#[105]⟩, 3⟩, ⟨⟨#[100, 111, 117, 98, 108, 101]⟩, ⟨#[105]⟩, 4⟩, ⟨⟨#[109, 111, 118, 101]⟩, ⟨#[105, 106]⟩, 5⟩, ⟨⟨#[116, 105, 99, 107]⟩, ⟨#[114]⟩, 6⟩, ⟨⟨#[102, 114, 97, 109, 101]⟩, ⟨#[114, 100]⟩, 7⟩, ⟨⟨#[114, 101, 113, 117, 101, 115, 116]⟩, ⟨#[114, 100]⟩, 8⟩, ⟨⟨#[115, 101, 101]⟩, ⟨#[114]⟩, 9⟩, ⟨⟨#[98, 97, 103]⟩, ⟨#[]⟩, 10⟩, ⟨⟨#[119, 105, 116, 110, 101, 115, 115]⟩, ⟨#[]⟩, 11⟩, ⟨⟨#[99, 114, 97, 115, 104]⟩, ⟨#[114]⟩, 12⟩, ⟨⟨#[97, 114, 109]⟩, ⟨#[114, 105, 106]⟩, 13⟩, ⟨⟨#[114, 101, 115, 116, 97, 114, 116]⟩, ⟨#[114]⟩, 14⟩, ⟨⟨#[105, 109, 97, 103, 101]⟩, ⟨#[114]⟩, 15⟩]
def opFs : List S153 := [⟨⟨#[99, 114, 101, 97, 116, 101]⟩, ⟨#[107, 97, 98]⟩, 1⟩, ⟨⟨#[105, 110, 99]⟩, ⟨#[107, 97]⟩, 2⟩, ⟨⟨#[100, 101, 99]⟩, ⟨#[107, 97]⟩, 3⟩, ⟨⟨#[104, 111, 108, 100]⟩, ⟨#[107, 97, 98]⟩, 4⟩, ⟨⟨#[99, 111, 109, 109, 105, 116]⟩, ⟨#[107, 97]⟩, 5⟩, ⟨⟨#[114, 101, 108, 101, 97, 115, 101]⟩, ⟨#[107, 97]⟩, 6⟩, ⟨⟨#[114, 101, 97, 100]⟩, ⟨#[107]⟩, 7⟩, ⟨⟨#[116, 97, 107, 101]⟩, ⟨#[107, 97, 98]⟩, 8⟩, ⟨⟨#[114, 101, 115, 101, 116]⟩, ⟨#[107, 97]⟩, 9⟩, ⟨⟨#[114, 101, 99, 97, 112]⟩, ⟨#[107, 97]⟩, 10⟩, ⟨⟨#[108, 111, 111, 107]⟩, ⟨#[107]⟩, 11⟩]
theorem stepFs_ws : wordsOf stepFs = stepWs := by rfl
theorem opFs_ws : wordsOf opFs = opWs := by rfl
theorem stepFs_parts (i : Nat) (x : S153) (h : stepFs[i]? = some x) : (bs x.f1).map partOf = stepParts i ∧ x.f2 = (i : Int) + 1 ∧ ∀ c ∈ bs x.f1, c.toNat < 128 := by
  have hi : i < 15 := (List.getElem?_eq_some_iff.1 h).1
  have : ∀ i : Fin 15, ∀ x, stepFs[i.val]? = some x → (bs x.f1).map partOf = stepParts i.val ∧ x.f2 = (i.val : Int) + 1 ∧ ∀ c ∈ bs x.f1, c.toNat < 128 := by
    intro i x h
    match i, h with
    | ⟨0, _⟩, h => obtain rfl := Option.some.inj h; exact ⟨by rfl, by rfl, by decide⟩
    | ⟨1, _⟩, h => obtain rfl := Option.some.inj h; exact ⟨by rfl, by rfl, by decide⟩
    | ⟨2, _⟩, h => obtain rfl := Option.some.inj h; exact ⟨by rfl, by rfl, by decide⟩
    | ⟨3, _⟩, h => obtain rfl := Option.some.inj h; exact ⟨by rfl, by rfl, by decide⟩
    | ⟨4, _⟩, h => obtain rfl := Option.some.inj h; exact ⟨by rfl, by rfl, by decide⟩
    | ⟨5, _⟩, h => obtain rfl := Option.some.inj h; exact ⟨by rfl, by rfl, by decide⟩
    | ⟨6, _⟩, h => obtain rfl := Option.some.inj h; exact ⟨by rfl, by rfl, by decide⟩
    | ⟨7, _⟩, h => obtain rfl := Option.some.inj h; exact ⟨by rfl, by rfl, by decide⟩
    | ⟨8, _⟩, h => obtain rfl := Option.some.inj h; exact ⟨by rfl, by rfl, by decide⟩
    | ⟨9, _⟩, h => obtain rfl := Option.some.inj h; exact ⟨by rfl, by rfl, by decide⟩
    | ⟨10, _⟩, h => obtain rfl := Option.some.inj h; exact ⟨by rfl, by rfl, by decide⟩
    | ⟨11, _⟩, h => obtain rfl := Option.some.inj h; exact ⟨by rfl, by rfl, by decide⟩
    | ⟨12, _⟩, h => obtain rfl := Option.some.inj h; exact ⟨by rfl, by rfl, by decide⟩
    | ⟨13, _⟩, h => obtain rfl := Option.some.inj h; exact ⟨by rfl, by rfl, by decide⟩
    | ⟨14, _⟩, h => obtain rfl := Option.some.inj h; exact ⟨by rfl, by rfl, by decide⟩
  exact this ⟨i, hi⟩ x h
theorem opFs_parts (i : Nat) (x : S153) (h : opFs[i]? = some x) : (bs x.f1).map partOf = opParts i ∧ x.f2 = (i : Int) + 1 ∧ (∀ c ∈ bs x.f1, c.toNat < 128) ∧ .o ∉ opParts i := by
  have hi : i < 11 := (List.getElem?_eq_some_iff.1 h).1
  have : ∀ i : Fin 11, ∀ x, opFs[i.val]? = some x → (bs x.f1).map partOf = opParts i.val ∧ x.f2 = (i.val : Int) + 1 ∧ (∀ c ∈ bs x.f1, c.toNat < 128) ∧ .o ∉ opParts i.val := by
    intro i x h
    match i, h with
    | ⟨0, _⟩, h => obtain rfl := Option.some.inj h; exact ⟨by rfl, by rfl, by decide, (show .o ∉ opParts 0 by decide)⟩
    | ⟨1, _⟩, h => obtain rfl := Option.some.inj h; exact ⟨by rfl, by rfl, by decide, (show .o ∉ opParts 1 by decide)⟩
    | ⟨2, _⟩, h => obtain rfl := Option.some.inj h; exact ⟨by rfl, by rfl, by decide, (show .o ∉ opParts 2 by decide)⟩
    | ⟨3, _⟩, h => obtain rfl := Option.some.inj h; exact ⟨by rfl, by rfl, by decide, (show .o ∉ opParts 3 by decide)⟩
    | ⟨4, _⟩, h => obtain rfl := Option.some.inj h; exact ⟨by rfl, by rfl, by decide, (show .o ∉ opParts 4 by decide)⟩
    | ⟨5, _⟩, h => obtain rfl := Option.some.inj h; exact ⟨by rfl, by rfl, by decide, (show .o ∉ opParts 5 by decide)⟩
    | ⟨6, _⟩, h => obtain rfl := Option.some.inj h; exact ⟨by rfl, by rfl, by decide, (show .o ∉ opParts 6 by decide)⟩
    | ⟨7, _⟩, h => obtain rfl := Option.some.inj h; exact ⟨by rfl, by rfl, by decide, (show .o ∉ opParts 7 by decide)⟩
    | ⟨8, _⟩, h => obtain rfl := Option.some.inj h; exact ⟨by rfl, by rfl, by decide, (show .o ∉ opParts 8 by decide)⟩
    | ⟨9, _⟩, h => obtain rfl := Option.some.inj h; exact ⟨by rfl, by rfl, by decide, (show .o ∉ opParts 9 by decide)⟩
    | ⟨10, _⟩, h => obtain rfl := Option.some.inj h; exact ⟨by rfl, by rfl, by decide, (show .o ∉ opParts 10 by decide)⟩
  exact this ⟨i, hi⟩ x h
end Go.Proofs.YtnbfebjcfhbhiaaDoor.Lw
end
