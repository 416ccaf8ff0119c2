/- texts that the proof needs, laid together by a program of this session. -/
import Derived.Test.YtnbfebjcfhbhiaaDoorKScriptOneForm12
section
namespace Go.Proofs.YtnbfebjcfhbhiaaDoor.P
open Go.RowKit Go.Proofs.YtnbfebjcfhbhiaaDoorW.PrintWords Go.Proofs.YtnbfebjcfhbhiaaDoorW.PrintLast Go.Proofs.YtnbfebjcfhbhiaaDoorW.PrintMore
attribute [local go_sem] max2_int min2_int max_two min_two max_three min_three max_four min_four   -- for this text's walks alone
set_option linter.unusedVariables false
set_option linter.unusedSimpArgs false

def sluiceref18_args.j0 : Nat → Int → Bool → Option (Int)
  | 0, _, _ => none
  | k + 1, x3, x4 => if x4 = true then (some 2) else (if x3 = 7 then (some 0) else (if x3 = 11 then (some 0) else (some 1)))
def sluiceref18_args.f (k : Nat) (a0 : Int) : Option (Int) := if a0 = 1 then (sluiceref18_args.j0 k a0 (a0 == 1)) else (if a0 = 4 then (sluiceref18_args.j0 k a0 (a0 == 4)) else (sluiceref18_args.j0 k a0 (a0 == 8)))
set_option maxHeartbeats 8000000 in
set_option maxRecDepth 100000 in
theorem sluiceref18_args.calls (k : Nat) (a0 : Int) (r : Int) (w : World) (h : sluiceref18_args.f k a0 = some r) :
    Calls Tryd.prog 70 #[.int .i64 a0] w fun e w' => e = .returned (.int .i64 r) ∧ Drawn0 w w' := by
  have H : (if a0 = 1 then (sluiceref18_args.j0 k a0 (a0 == 1)) else (if a0 = 4 then (sluiceref18_args.j0 k a0 (a0 == 4)) else (sluiceref18_args.j0 k a0 (a0 == 8)))) = some r := h
  clear h
  have HC2 := Aside0.mk H
  clear H
  go_enter Tryd.func70, Tryd.ntmps70
  go_upto_if 4 with (fail)
  go_cut [4] (fun v4 wc => ∃ (kq : Nat) (x4_1 : Bool), v4 = .bool x4_1 ∧ Aside0 (sluiceref18_args.j0 kq a0 x4_1 = some r) ∧ Aside0 (kq ≤ k) ∧ Drawn0 w wc)
  case first =>
    have H := HC2.out
    clear HC2
    by_cases c3 : a0 = 1
    · rw [if_pos c3] at H
      have c3b0 : (a0 == 1) = true := beq_iff_eq.mpr c3
      have c3b1 : (a0 != 1) = false := bne_eq_false_iff_eq.mpr c3
      clear c3
      (first | rw [c3b0] | (simp only [i64_w, i32_w]; rw [c3b0]) | skip)
      have H' := Aside0.mk H
      clear H
      go_wp2
      go_meet
      case rel => exact ⟨_, ((a0 == 1)), (by first | rfl | (simp; done) | (simp [*]; done)), H', ⟨by first | omega | exact Nat.le_refl _⟩, by repeat (first | exact Drawn0.refl _ | apply Drawn0.step)⟩
    · rw [if_neg c3] at H
      have c3b0 : (a0 == 1) = false := beq_eq_false_iff_ne.mpr c3
      have c3b1 : (a0 != 1) = true := bne_iff_ne.mpr c3
      (first | rw [c3b0] | (simp only [i64_w, i32_w]; rw [c3b0]) | skip)
      by_cases c4 : a0 = 4
      · rw [if_pos c4] at H
        have c4b0 : (a0 == 4) = true := beq_iff_eq.mpr c4
        have c4b1 : (a0 != 4) = false := bne_eq_false_iff_eq.mpr c4
        clear c4
        have H' := Aside0.mk H
        clear H
        go_wp2
        go_meet
        case rel => exact ⟨_, ((a0 == 4)), (by first | rfl | (simp; done) | (simp [*]; done)), H', ⟨by first | omega | exact Nat.le_refl _⟩, by repeat (first | exact Drawn0.refl _ | apply Drawn0.step)⟩
      · rw [if_neg c4] at H
        have c4b0 : (a0 == 4) = false := beq_eq_false_iff_ne.mpr c4
        have c4b1 : (a0 != 4) = true := bne_iff_ne.mpr c4
        have H' := Aside0.mk H
        clear H
        go_wp2
        go_meet
        case rel => exact ⟨_, ((a0 == 8)), (by first | rfl | (simp; done) | (simp [*]; done)), H', ⟨by first | omega | exact Nat.le_refl _⟩, by repeat (first | exact Drawn0.refl _ | apply Drawn0.step)⟩
  case rest =>
    clear HC2
    try clear p2
    try clear c3
    try clear c3b0
    try clear c3b1
    try clear c4
    try clear c4b0
    try clear c4b1
    obtain ⟨kq, x4_1, rfl, HA, HJ1, ⟨mc1, rfl⟩⟩ := hcut
    cases kq with
    | zero => exact absurd HA.out (by simp [sluiceref18_args.j0])
    | succ kj1 =>
      have H := HA.out
      clear HA
      simp only [sluiceref18_args.j0] at H
      by_cases c5 : x4_1 = true
      · subst c5
        have H1 : (some 2) = some r := by rw [if_pos rfl] at H; exact H
        clear H
        have H := H1
        clear H1
        obtain rfl := Option.some.inj H
        go_wp2
        go_ret
        exact ⟨by first | rfl | (simp; done) | (simp [*]; done), by repeat (first | exact Drawn0.refl _ | apply Drawn0.step)⟩
      · replace c5 := Bool.eq_false_iff.mpr c5
        subst c5
        have H1 : (if a0 = 7 then (some 0) else (if a0 = 11 then (some 0) else (some 1))) = some r := by rw [if_neg (show ¬ (false = true) by decide)] at H; exact H
        clear H
        have H := H1
        clear H1
        by_cases c6 : a0 = 7
        · rw [if_pos c6] at H
          have c6b0 : (a0 == 7) = true := beq_iff_eq.mpr c6
          have c6b1 : (a0 != 7) = false := bne_eq_false_iff_eq.mpr c6
          clear c6
          obtain rfl := Option.some.inj H
          go_wp2
          go_ret
          exact ⟨by first | rfl | (simp; done) | (simp [*]; done), by repeat (first | exact Drawn0.refl _ | apply Drawn0.step)⟩
        · rw [if_neg c6] at H
          have c6b0 : (a0 == 7) = false := beq_eq_false_iff_ne.mpr c6
          have c6b1 : (a0 != 7) = true := bne_iff_ne.mpr c6
          by_cases c7 : a0 = 11
          · rw [if_pos c7] at H
            have c7b0 : (a0 == 11) = true := beq_iff_eq.mpr c7
            have c7b1 : (a0 != 11) = false := bne_eq_false_iff_eq.mpr c7
            clear c7
            obtain rfl := Option.some.inj H
            go_wp2
            go_ret
            exact ⟨by first | rfl | (simp; done) | (simp [*]; done), by repeat (first | exact Drawn0.refl _ | apply Drawn0.step)⟩
          · rw [if_neg c7] at H
            have c7b0 : (a0 == 11) = false := beq_eq_false_iff_ne.mpr c7
            have c7b1 : (a0 != 11) = true := bne_iff_ne.mpr c7
            obtain rfl := Option.some.inj H
            go_wp2
            go_ret
            exact ⟨by first | rfl | (simp; done) | (simp [*]; done), by repeat (first | exact Drawn0.refl _ | apply Drawn0.step)⟩

def sluiceref18_Num.l0 : Nat → Int → ByteArray → Int → Option (ByteArray)
  | 0, _, _, _ => none
  | k + 1, x0, x3, x4 => if x4 = 0 then (if x0 < 0 then (if 1 + x3.size ≤ 9223372036854775807 then (some ((⟨#[45]⟩ : ByteArray) ++ x3)) else (none)) else (some x3)) else (if (Int.tmod x4 10) < 0 then ((some (([(wrap64 (48 + (wrap64 (-(Int.tmod x4 10))))) % 256] : List Int) : List Int)).bind fun y301 => (if (strOfNums y301).size + x3.size ≤ 9223372036854775807 then (sluiceref18_Num.l0 k x0 ((strOfNums y301) ++ x3) (wrap64 (Int.tdiv x4 10))) else (none))) else ((some (([(wrap64 (48 + (Int.tmod x4 10))) % 256] : List Int) : List Int)).bind fun y304 => (if (strOfNums y304).size + x3.size ≤ 9223372036854775807 then (sluiceref18_Num.l0 k x0 ((strOfNums y304) ++ x3) (wrap64 (Int.tdiv x4 10))) else (none))))
def sluiceref18_Num.f (k : Nat) (a0 : Int) : Option (ByteArray) := if a0 = 0 then (some (⟨#[48]⟩ : ByteArray)) else (sluiceref18_Num.l0 k a0 (⟨#[]⟩ : ByteArray) a0)
set_option maxHeartbeats 8000000 in
set_option maxRecDepth 100000 in
theorem sluiceref18_Num.calls (k : Nat) (a0 : Int) (r : ByteArray) (w : World) (h : sluiceref18_Num.f k a0 = some r) :
    Calls Tryd.prog 48 #[.int .i64 a0] w fun e w' => e = .returned (.string r) ∧ Below w.heap.size w w' := by
  have HB := Aside0.mk (Below.refl w.heap.size w)
  have H : (if a0 = 0 then (some (⟨#[48]⟩ : ByteArray)) else (sluiceref18_Num.l0 k a0 (⟨#[]⟩ : ByteArray) a0)) = some r := h
  clear h
  by_cases c2 : a0 = 0
  · rw [if_pos c2] at H
    have c2b0 : (a0 == 0) = true := beq_iff_eq.mpr c2
    have c2b1 : (a0 != 0) = false := bne_eq_false_iff_eq.mpr c2
    clear c2
    obtain rfl := Option.some.inj H
    go_enter Tryd.func48, Tryd.ntmps48
    go_wp2
    go_ret
    exact ⟨by first | rfl | (simp [errW_none, errW_some] <;> rfl) | (simp [*, errW_none, errW_some] <;> rfl), by repeat (first | (with_reducible first | exact HB.out | apply below_alloc | apply pw_below_drewN | apply below_drew1) | exact HB.out)⟩
  · rw [if_neg c2] at H
    have c2b0 : (a0 == 0) = false := beq_eq_false_iff_ne.mpr c2
    have c2b1 : (a0 != 0) = true := bne_iff_ne.mpr c2
    have H' := Aside0.mk H
    clear H
    go_enter Tryd.func48, Tryd.ntmps48
    go_wp2
    go_loopg [3, 4] k (fun kq v3 v4 w' => ∃ (x3_1 : ByteArray) (x4_1 : Int), v3 = .string x3_1 ∧ v4 = .int .i64 x4_1 ∧ Aside0 (sluiceref18_Num.l0 kq a0 x3_1 x4_1 = some r) ∧ Aside0 (kq ≤ k) ∧ Aside0 (Below w.heap.size w w'))
    case atStart => exact ⟨((⟨#[]⟩ : ByteArray)), (a0), (by first | rfl | (simp; done) | (simp [*]; done)), (by first | rfl | (simp; done) | (simp [*]; done)), H', ⟨Nat.le_refl _⟩, ⟨by repeat (first | (with_reducible first | exact HB.out | apply below_alloc | apply pw_below_drewN | apply below_drew1) | exact HB.out)⟩⟩
    case round =>
      clear H'
      try clear c2
      try clear c2b0
      try clear c2b1
      try clear p2
      obtain ⟨x3_1, x4_1, rfl, rfl, HA, HK1, HB⟩ := hrel
      cases gk with
      | zero => exact absurd HA.out (by simp [sluiceref18_Num.l0])
      | succ k1 =>
        have H := HA.out
        clear HA
        simp only [sluiceref18_Num.l0] at H
        by_cases c3 : x4_1 = 0
        · rw [if_pos c3] at H
          have c3b0 : (x4_1 == 0) = true := beq_iff_eq.mpr c3
          have c3b1 : (x4_1 != 0) = false := bne_eq_false_iff_eq.mpr c3
          clear c3
          by_cases c4 : a0 < 0
          · rw [if_pos c4] at H
            have c4b0 : decide (a0 < 0) = true := decide_eq_true c4
            clear c4
            by_cases c5 : 1 + x3_1.size ≤ 9223372036854775807
            · rw [if_pos c5] at H
              have c5b0 := eq_true c5
              have c5b1 : decide (1 + x3_1.size ≤ 9223372036854775807) = true := decide_eq_true c5
              try have c5b2 : (9223372036854775807 < 1 + x3_1.size) = False := eq_false (Nat.not_lt.2 c5)
              obtain rfl := Option.some.inj H
              go_wp2
              go_ret
              exact ⟨by first | rfl | (simp [errW_none, errW_some] <;> rfl) | (simp [*, errW_none, errW_some] <;> rfl), by repeat (first | (with_reducible first | exact HB.out | apply below_alloc | apply pw_below_drewN | apply below_drew1) | exact HB.out)⟩
            · rw [if_neg c5] at H
              exact absurd H (by simp)
          · rw [if_neg c4] at H
            have c4b0 : decide (a0 < 0) = false := decide_eq_false c4
            clear c4
            obtain rfl := Option.some.inj H
            go_wp2
            go_ret
            exact ⟨by first | rfl | (simp [errW_none, errW_some] <;> rfl) | (simp [*, errW_none, errW_some] <;> rfl), by repeat (first | (with_reducible first | exact HB.out | apply below_alloc | apply pw_below_drewN | apply below_drew1) | exact HB.out)⟩
        · rw [if_neg c3] at H
          have c3b0 : (x4_1 == 0) = false := beq_eq_false_iff_ne.mpr c3
          have c3b1 : (x4_1 != 0) = true := bne_iff_ne.mpr c3
          by_cases c6 : (Int.tmod x4_1 10) < 0
          · rw [if_pos c6] at H
            have c6b0 : decide ((Int.tmod x4_1 10) < 0) = true := decide_eq_true c6
            clear c6
            obtain ⟨y301, hy301⟩ : ∃ y_ : List Int, y_ = (([(wrap64 (48 + (wrap64 (-(Int.tmod x4_1 10))))) % 256] : List Int)) := ⟨_, rfl⟩
            replace H : (if (strOfNums y301).size + x3_1.size ≤ 9223372036854775807 then (sluiceref18_Num.l0 k1 a0 ((strOfNums y301) ++ x3_1) (wrap64 (Int.tdiv x4_1 10))) else (none)) = some r := by first | (rw [hy301]; with_reducible exact H) | (have H2_ := (Option.bind_some _ _).symm.trans H; rw [hy301]; with_reducible exact H2_) | (have H2_ := (Option.bind_some _ _).symm.trans H; with_reducible exact H2_) | with_reducible exact H | (rw [hy301]; exact H) | exact H
            have Ny301 := Aside0.mk hy301
            clear hy301
            by_cases c7 : (strOfNums y301).size + x3_1.size ≤ 9223372036854775807
            · rw [if_pos c7] at H
              have c7b0 := eq_true c7
              have c7b1 : decide ((strOfNums y301).size + x3_1.size ≤ 9223372036854775807) = true := decide_eq_true c7
              try have c7b2 : (9223372036854775807 < (strOfNums y301).size + x3_1.size) = False := eq_false (Nat.not_lt.2 c7)
              have H' := Aside0.mk H
              clear H
              go_wp2_with (first | ((with_reducible refine gate_dst (N := 20) rfl ?_); refine Kd.R_lit (Kd.int .u8) _ 5 ?hg (N := 20) ?hd (xs := ([(wrap64 (48 + (wrap64 (-(Int.tmod x4_1 10))))) % 256] : List Int)) (inner := [.int .u8 ((wrap64 (48 + (wrap64 (-(Int.tmod x4_1 10))))) % 256)]) (ok := fun _ => True) (okp := fun _ => True) ?hr ?hp (fun _ hk => hk) trivial (Below.refl _ _) (Nat.le_refl _) (by simp) ?_; (case hd => rfl); (case hg => rfl); (case hr => first | (go_simp; done) | (go_simp; rfl)); (case hp => exact (Reps.one (show Kd.M (Kd.int .u8) _ _ _ ((wrap64 (48 + (wrap64 (-(Int.tmod x4_1 10))))) % 256) [.int .u8 ((wrap64 (48 + (wrap64 (-(Int.tmod x4_1 10))))) % 256)] from rfl) (Reps.none _ _))); intro v302 w8 ho9 hb hg_ hnew_; clear hg_ hnew_; (first | rw [← Ny301.out] at ho9 | (simp only [Int.reduceToNat] at ho9; rw [← Ny301.out] at ho9)); have n0_ := Aside0.mk (Kd.R_lower ho9 (below_size (by repeat (first | (with_reducible first | exact HB.out | apply below_alloc | apply pw_below_drewN | apply below_drew1) | exact HB.out)))); have n1_ := Aside0.mk (below_step (by repeat (first | (with_reducible first | exact HB.out | apply below_alloc | apply pw_below_drewN | apply below_drew1) | exact HB.out)) hb); clear HB; have HO303 := n0_; have HB := n1_; clear n0_ n1_; clear hb ho9; have hcv10 := own_string (P := Tryd.prog) Tryd.underlying46 Tryd.underlying5 Tryd.underlying9 (Kd.own_of_R HO303.out)))
              go_roundg k1
              case measure => have := HK1.out; omega
              case rel => exact ⟨((strOfNums y301) ++ x3_1), (wrap64 (Int.tdiv x4_1 10)), (by first | rfl | (simp; done) | (simp [*]; done)), (by first | rfl | (simp; done) | (simp [*]; done)), H', ⟨by have := HK1.out; omega⟩, ⟨by repeat (first | (with_reducible first | exact HB.out | apply below_alloc | apply pw_below_drewN | apply below_drew1) | exact HB.out)⟩⟩
            · rw [if_neg c7] at H
              exact absurd H (by simp)
          · rw [if_neg c6] at H
            have c6b0 : decide ((Int.tmod x4_1 10) < 0) = false := decide_eq_false c6
            clear c6
            obtain ⟨y304, hy304⟩ : ∃ y_ : List Int, y_ = (([(wrap64 (48 + (Int.tmod x4_1 10))) % 256] : List Int)) := ⟨_, rfl⟩
            replace H : (if (strOfNums y304).size + x3_1.size ≤ 9223372036854775807 then (sluiceref18_Num.l0 k1 a0 ((strOfNums y304) ++ x3_1) (wrap64 (Int.tdiv x4_1 10))) else (none)) = some r := by first | (rw [hy304]; with_reducible exact H) | (have H2_ := (Option.bind_some _ _).symm.trans H; rw [hy304]; with_reducible exact H2_) | (have H2_ := (Option.bind_some _ _).symm.trans H; with_reducible exact H2_) | with_reducible exact H | (rw [hy304]; exact H) | exact H
            have Ny304 := Aside0.mk hy304
            clear hy304
            by_cases c11 : (strOfNums y304).size + x3_1.size ≤ 9223372036854775807
            · rw [if_pos c11] at H
              have c11b0 := eq_true c11
              have c11b1 : decide ((strOfNums y304).size + x3_1.size ≤ 9223372036854775807) = true := decide_eq_true c11
              try have c11b2 : (9223372036854775807 < (strOfNums y304).size + x3_1.size) = False := eq_false (Nat.not_lt.2 c11)
              have H' := Aside0.mk H
              clear H
              go_wp2_with (first | ((with_reducible refine gate_dst (N := 20) rfl ?_); refine Kd.R_lit (Kd.int .u8) _ 5 ?hg (N := 20) ?hd (xs := ([(wrap64 (48 + (Int.tmod x4_1 10))) % 256] : List Int)) (inner := [.int .u8 ((wrap64 (48 + (Int.tmod x4_1 10))) % 256)]) (ok := fun _ => True) (okp := fun _ => True) ?hr ?hp (fun _ hk => hk) trivial (Below.refl _ _) (Nat.le_refl _) (by simp) ?_; (case hd => rfl); (case hg => rfl); (case hr => first | (go_simp; done) | (go_simp; rfl)); (case hp => exact (Reps.one (show Kd.M (Kd.int .u8) _ _ _ ((wrap64 (48 + (Int.tmod x4_1 10))) % 256) [.int .u8 ((wrap64 (48 + (Int.tmod x4_1 10))) % 256)] from rfl) (Reps.none _ _))); intro v305 w12 ho13 hb hg_ hnew_; clear hg_ hnew_; (first | rw [← Ny304.out] at ho13 | (simp only [Int.reduceToNat] at ho13; rw [← Ny304.out] at ho13)); have n0_ := Aside0.mk (Kd.R_lower ho13 (below_size (by repeat (first | (with_reducible first | exact HB.out | apply below_alloc | apply pw_below_drewN | apply below_drew1) | exact HB.out)))); have n1_ := Aside0.mk (below_step (by repeat (first | (with_reducible first | exact HB.out | apply below_alloc | apply pw_below_drewN | apply below_drew1) | exact HB.out)) hb); clear HB; have HO306 := n0_; have HB := n1_; clear n0_ n1_; clear hb ho13; have hcv14 := own_string (P := Tryd.prog) Tryd.underlying46 Tryd.underlying5 Tryd.underlying9 (Kd.own_of_R HO306.out)))
              go_roundg k1
              case measure => have := HK1.out; omega
              case rel => exact ⟨((strOfNums y304) ++ x3_1), (wrap64 (Int.tdiv x4_1 10)), (by first | rfl | (simp; done) | (simp [*]; done)), (by first | rfl | (simp; done) | (simp [*]; done)), H', ⟨by have := HK1.out; omega⟩, ⟨by repeat (first | (with_reducible first | exact HB.out | apply below_alloc | apply pw_below_drewN | apply below_drew1) | exact HB.out)⟩⟩
            · rw [if_neg c11] at H
              exact absurd H (by simp)

def sluiceref18_hex.f (a0 : Int) : Option (ByteArray) := if 0 ≤ a0 then (if a0 ≤ (wrap64 (a0 + 1)) then (if (wrap64 (a0 + 1)) ≤ 16 then (some ((⟨#[48, 49, 50, 51, 52, 53, 54, 55, 56, 57, 65, 66, 67, 68, 69, 70]⟩ : ByteArray).extract (a0 : Int).toNat ((wrap64 (a0 + 1)) : Int).toNat)) else (none)) else (none)) else (none)
set_option maxHeartbeats 8000000 in
set_option maxRecDepth 100000 in
theorem sluiceref18_hex.calls (a0 : Int) (r : ByteArray) (w : World) (h : sluiceref18_hex.f a0 = some r) :
    Calls Tryd.prog 92 #[.int .i64 a0] w fun e w' => e = .returned (.string r) ∧ Drawn0 w w' := by
  have H : (if 0 ≤ a0 then (if a0 ≤ (wrap64 (a0 + 1)) then (if (wrap64 (a0 + 1)) ≤ 16 then (some ((⟨#[48, 49, 50, 51, 52, 53, 54, 55, 56, 57, 65, 66, 67, 68, 69, 70]⟩ : ByteArray).extract (a0 : Int).toNat ((wrap64 (a0 + 1)) : Int).toNat)) else (none)) else (none)) else (none)) = some r := h
  clear h
  by_cases c2 : 0 ≤ a0
  · rw [if_pos c2] at H
    have c2b0 := eq_true c2
    have c2b1 : decide (0 ≤ a0) = true := decide_eq_true c2
    clear c2
    by_cases c3 : a0 ≤ (wrap64 (a0 + 1))
    · rw [if_pos c3] at H
      have c3b0 := eq_true c3
      have c3b1 : decide (a0 ≤ (wrap64 (a0 + 1))) = true := decide_eq_true c3
      by_cases c4 : (wrap64 (a0 + 1)) ≤ 16
      · rw [if_pos c4] at H
        have c4b0 := eq_true c4
        have c4b1 : decide ((wrap64 (a0 + 1)) ≤ 16) = true := decide_eq_true c4
        obtain rfl := Option.some.inj H
        go_enter Tryd.func92, Tryd.ntmps92
        go_wp2
        go_ret
        exact ⟨by first | rfl | (simp; done) | (simp [*]; done), by repeat (first | exact Drawn0.refl _ | apply Drawn0.step)⟩
      · rw [if_neg c4] at H
        exact absurd H (by simp)
    · rw [if_neg c3] at H
      exact absurd H (by simp)
  · rw [if_neg c2] at H
    exact absurd H (by simp)

def sluiceref18_Text.l0 : Nat → List Int → List Int → Int → Option (ByteArray)
  | 0, _, _, _ => none
  | k + 1, x0, x3, x4 => if x4 < (x0.length : Int) then (if 0 ≤ x4 then ((sluiceref18_Plain.f (wrap64 (rd x0 x4))).bind fun t312 => (if t312 = true then (if x3.length < 140737488355328 then (sluiceref18_Text.l0 k x0 (x3 ++ [rd x0 x4]) (wrap64 (x4 + 1))) else (none)) else (if x3.length < 140737488355328 then ((some (x3 ++ [37] : List Int)).bind fun y317 => ((sluiceref18_hex.f (wrap64 (Int.tdiv (wrap64 (rd x0 x4)) 16))).bind fun t321 => (if y317.length + t321.size < 140737488355328 then ((some (y317 ++ bytesOf t321 : List Int)).bind fun y322 => ((sluiceref18_hex.f (Int.tmod (wrap64 (rd x0 x4)) 16)).bind fun t326 => (if y322.length + t326.size < 140737488355328 then (sluiceref18_Text.l0 k x0 (y322 ++ bytesOf t326) (wrap64 (x4 + 1))) else (none)))) else (none)))) else (none)))) else (none)) else (some (strOfNums x3))
def sluiceref18_Text.f (k : Nat) (l0 : List Int) : Option (ByteArray) := if (l0.length : Int) = 0 then (some (⟨#[45]⟩ : ByteArray)) else (sluiceref18_Text.l0 k l0 ([] : List Int) 0)
set_option maxHeartbeats 8000000 in
set_option maxRecDepth 100000 in
theorem sluiceref18_Text.calls (k : Nat) (A0 : Option Addr) (c0 : Nat) (l0 : List Int) (r : ByteArray) (w : World) (hr0 : Kd.C (Kd.int .u8) w A0 l0.length l0) (hc0 : l0.length ≤ c0) (h : sluiceref18_Text.f k l0 = some r) :
    Calls Tryd.prog 72 #[.slice A0 l0.length c0] w fun e w' => e = .returned (.string r) ∧ Below w.heap.size w w' := by
  have HR0 := Aside0.mk hr0
  have HC0 := Aside0.mk hc0
  clear hr0 hc0
  have HB := Aside0.mk (Below.refl w.heap.size w)
  have H : (if (l0.length : Int) = 0 then (some (⟨#[45]⟩ : ByteArray)) else (sluiceref18_Text.l0 k l0 ([] : List Int) 0)) = some r := h
  clear h
  by_cases c2 : (l0.length : Int) = 0
  · rw [if_pos c2] at H
    have c2b0 : ((l0.length : Int) == 0) = true := beq_iff_eq.mpr c2
    have c2b1 : ((l0.length : Int) != 0) = false := bne_eq_false_iff_eq.mpr c2
    clear c2
    obtain rfl := Option.some.inj H
    go_enter Tryd.func72, Tryd.ntmps72
    go_wp2
    go_ret
    exact ⟨by first | rfl | (simp [errW_none, errW_some] <;> rfl) | (simp [*, errW_none, errW_some] <;> rfl), by repeat (first | (with_reducible first | exact HB.out | apply below_alloc | apply pw_below_drewN | apply below_drew1) | exact HB.out)⟩
  · rw [if_neg c2] at H
    have c2b0 : ((l0.length : Int) == 0) = false := beq_eq_false_iff_ne.mpr c2
    have c2b1 : ((l0.length : Int) != 0) = true := bne_iff_ne.mpr c2
    have c2b2 : ¬ (l0 = []) := fun h_ => c2 (by rw [h_]; rfl)
    have H' := Aside0.mk H
    clear H
    go_enter Tryd.func72, Tryd.ntmps72
    go_wp2
    go_loopg [3, 4] k (fun kq v3 v4 w' => ∃ (x3_1 : List Int) (x4_1 : Int), v4 = .int .i64 x4_1 ∧ Aside0 (sluiceref18_Text.l0 kq l0 x3_1 x4_1 = some r) ∧ Aside0 (kq ≤ k) ∧ Aside0 (Kd.R (Kd.int .u8) 5 w' w.heap.size (fun _ => True) v3 x3_1) ∧ Aside0 (Below w.heap.size w w'))
    case atStart => exact ⟨(([] : List Int)), (0), (by first | rfl | (simp; done) | (simp [*]; done)), H', ⟨Nat.le_refl _⟩, ⟨by first | exact Kd.R_nil _ _ _ _ _ | exact Kd.N_nil _ _ _ _ _ | exact Kd.V_nil _ _ _ _ _ | exact Kd.Q_nil _ _ _ _ _ | exact Kd.S_nil _ _ _ _ _⟩, ⟨by repeat (first | (with_reducible first | exact HB.out | apply below_alloc | apply pw_below_drewN | apply below_drew1) | exact HB.out)⟩⟩
    case round =>
      clear H'
      try clear c2
      try clear c2b0
      try clear c2b1
      try clear c2b2
      try clear p2
      obtain ⟨x3_1, x4_1, rfl, HA, HK1, HO_3, HB⟩ := hrel
      cases gk with
      | zero => exact absurd HA.out (by simp [sluiceref18_Text.l0])
      | succ k1 =>
        have H := HA.out
        clear HA
        simp only [sluiceref18_Text.l0] at H
        by_cases c3 : x4_1 < (l0.length : Int)
        · rw [if_pos c3] at H
          have c3b0 : decide (x4_1 < (l0.length : Int)) = true := decide_eq_true c3
          clear c3
          by_cases c4 : 0 ≤ x4_1
          · rw [if_pos c4] at H
            have c4b0 : decide (0 ≤ x4_1) = true := decide_eq_true c4
            clear c4
            replace H := Option.bind_eq_some_iff.mp H
            obtain ⟨t312, A50, H⟩ := H
            replace H : (if t312 = true then (if x3_1.length < 140737488355328 then (sluiceref18_Text.l0 k1 l0 (x3_1 ++ [rd l0 x4_1]) (wrap64 (x4_1 + 1))) else (none)) else (if x3_1.length < 140737488355328 then ((some (x3_1 ++ [37] : List Int)).bind fun y317 => ((sluiceref18_hex.f (wrap64 (Int.tdiv (wrap64 (rd l0 x4_1)) 16))).bind fun t321 => (if y317.length + t321.size < 140737488355328 then ((some (y317 ++ bytesOf t321 : List Int)).bind fun y322 => ((sluiceref18_hex.f (Int.tmod (wrap64 (rd l0 x4_1)) 16)).bind fun t326 => (if y322.length + t326.size < 140737488355328 then (sluiceref18_Text.l0 k1 l0 (y322 ++ bytesOf t326) (wrap64 (x4_1 + 1))) else (none)))) else (none)))) else (none))) = some r := H
            have A5 := Aside0.mk A50
            clear A50
            by_cases c6 : t312 = true
            · subst c6
              have H1 : (if x3_1.length < 140737488355328 then (sluiceref18_Text.l0 k1 l0 (x3_1 ++ [rd l0 x4_1]) (wrap64 (x4_1 + 1))) else (none)) = some r := by rw [if_pos rfl] at H; exact H
              clear H
              have H := H1
              clear H1
              by_cases c7 : x3_1.length < 140737488355328
              · rw [if_pos c7] at H
                have LMc7 := Aside0.mk c7
                clear c7
                obtain ⟨y314, hy314⟩ : ∃ y_ : List Int, y_ = (x3_1 ++ [rd l0 x4_1]) := ⟨_, rfl⟩
                replace H : (sluiceref18_Text.l0 k1 l0 y314 (wrap64 (x4_1 + 1))) = some r := by first | (rw [hy314]; with_reducible exact H) | (have H2_ := (Option.bind_some _ _).symm.trans H; rw [hy314]; with_reducible exact H2_) | (have H2_ := (Option.bind_some _ _).symm.trans H; with_reducible exact H2_) | with_reducible exact H | (rw [hy314]; exact H) | exact H
                have Ny314 := Aside0.mk hy314
                clear hy314
                have H' := Aside0.mk H
                clear H
                have p311 : 0 ≤ (x4_1 : Int) := of_decide_eq_true (by first | (with_reducible assumption) | assumption)
                have q311 : x4_1 < (l0.length : Int) := of_decide_eq_true (by first | (with_reducible assumption) | assumption)
                obtain ⟨ad311, e311, hx311_0⟩ := Kd.at_int HR0.out x4_1 p311 q311
                cases e311
                replace hx311_0 := (HB.out.cell (World.block_lt_of_cell? w _ hx311_0)).trans hx311_0
                replace p311 := eq_true p311
                replace q311 := eq_true q311
                go_wp2_with (first | ((with_reducible refine gate_callee (f := 91) rfl ?_); refine goesL_ (some 20) rfl rfl Tryd.func91 (by kernel_rfl) rfl #[.int .i64 (wrap64 (rd l0 x4_1))] rfl (by (try simp only [List.map_toArray, List.map_cons, List.map_nil]); first | done | rfl | (simp only [List.length_drop, List.length_take]; rfl)) ?_; (with_reducible refine (sluiceref18_Plain.calls (wrap64 (rd l0 x4_1)) true _ A5.out).mono ?_); rintro e w' ⟨rfl, ⟨nd, rfl⟩⟩; refine ⟨_, rfl, ?_⟩; have p313 : 0 ≤ (x4_1 : Int) := of_decide_eq_true (by first | (with_reducible assumption) | assumption); have q313 : x4_1 < (l0.length : Int) := of_decide_eq_true (by first | (with_reducible assumption) | assumption); obtain ⟨ad313, e313, hx313_0⟩ := Kd.at_int HR0.out x4_1 p313 q313; obtain rfl : ad311 = ad313 := (by injection e313); replace hx313_0 := (HB.out.cell (World.block_lt_of_cell? w _ hx313_0)).trans hx313_0; replace p313 := eq_true p313; replace q313 := eq_true q313) | ((with_reducible refine gate_builtin (b := .append) (xs := #[.tmp 22, .tmp 27]) rfl ?_); at_builtin; refine Kd.R_append (Kd.int .u8) (w0 := w) w.heap.size rfl (.tmp 22) (.tmp 27) 46 5 (.int .u8 0) 1 rfl Tryd.underlying46 info5 rfl (by decide) (by omega) u3 x3_1 (rd l0 x4_1) [.int .u8 (rd l0 x4_1)] (fun _ => True) (fun _ => False) rfl rfl ?aP (fun _ hk => hk.elim) ?aF ?aO ?aB ?aS ?aL ?_; (case aP => exact rfl); (case aB => exact (by repeat (first | (with_reducible first | exact HB.out | apply below_alloc | apply pw_below_drewN | apply below_drew1) | exact HB.out))); (case aF => exact (fun _ _ => trivial)); (case aO => exact (by (with_reducible repeat (first | apply Kd.R_alloc | apply Kd.R_drewN | apply Kd.R_drew)); exact HO_3.out)); (case aS => exact (below_size (by repeat (first | (with_reducible first | exact HB.out | apply below_alloc | apply pw_below_drewN | apply below_drew1) | exact HB.out)))); (case aL => have := LMc7.out; omega); intro v315 w8 ho hb hg hat; rw [← Ny314.out] at ho; have n0_ := Aside0.mk (hb); have n1_ := Aside0.mk (ho); clear HB; clear HO_3; have HB := n0_; have HO316 := n1_; clear n0_ n1_; clear ho hb hg hat))
                go_roundg k1
                case measure => have := HK1.out; omega
                case rel => exact ⟨(y314), (wrap64 (x4_1 + 1)), (by first | rfl | (simp; done) | (simp [*]; done)), H', ⟨by have := HK1.out; omega⟩, ⟨by (with_reducible repeat (first | apply Kd.R_alloc | apply Kd.R_drewN | apply Kd.R_drew)); exact HO316.out⟩, ⟨by repeat (first | (with_reducible first | exact HB.out | apply below_alloc | apply pw_below_drewN | apply below_drew1) | exact HB.out)⟩⟩
              · rw [if_neg c7] at H
                exact absurd H (by simp)
            · replace c6 := Bool.eq_false_iff.mpr c6
              subst c6
              have H1 : (if x3_1.length < 140737488355328 then ((some (x3_1 ++ [37] : List Int)).bind fun y317 => ((sluiceref18_hex.f (wrap64 (Int.tdiv (wrap64 (rd l0 x4_1)) 16))).bind fun t321 => (if y317.length + t321.size < 140737488355328 then ((some (y317 ++ bytesOf t321 : List Int)).bind fun y322 => ((sluiceref18_hex.f (Int.tmod (wrap64 (rd l0 x4_1)) 16)).bind fun t326 => (if y322.length + t326.size < 140737488355328 then (sluiceref18_Text.l0 k1 l0 (y322 ++ bytesOf t326) (wrap64 (x4_1 + 1))) else (none)))) else (none)))) else (none)) = some r := by rw [if_neg (show ¬ (false = true) by decide)] at H; exact H
              clear H
              have H := H1
              clear H1
              by_cases c9 : x3_1.length < 140737488355328
              · rw [if_pos c9] at H
                have LMc9 := Aside0.mk c9
                clear c9
                obtain ⟨y317, hy317⟩ : ∃ y_ : List Int, y_ = (x3_1 ++ [37]) := ⟨_, rfl⟩
                replace H : ((sluiceref18_hex.f (wrap64 (Int.tdiv (wrap64 (rd l0 x4_1)) 16))).bind fun t321 => (if y317.length + t321.size < 140737488355328 then ((some (y317 ++ bytesOf t321 : List Int)).bind fun y322 => ((sluiceref18_hex.f (Int.tmod (wrap64 (rd l0 x4_1)) 16)).bind fun t326 => (if y322.length + t326.size < 140737488355328 then (sluiceref18_Text.l0 k1 l0 (y322 ++ bytesOf t326) (wrap64 (x4_1 + 1))) else (none)))) else (none))) = some r := by first | (rw [hy317]; with_reducible exact H) | (have H2_ := (Option.bind_some _ _).symm.trans H; rw [hy317]; with_reducible exact H2_) | (have H2_ := (Option.bind_some _ _).symm.trans H; with_reducible exact H2_) | with_reducible exact H | (rw [hy317]; exact H) | exact H
                have Ny317 := Aside0.mk hy317
                clear hy317
                replace H := Option.bind_eq_some_iff.mp H
                obtain ⟨t321, A100, H⟩ := H
                replace H : (if y317.length + t321.size < 140737488355328 then ((some (y317 ++ bytesOf t321 : List Int)).bind fun y322 => ((sluiceref18_hex.f (Int.tmod (wrap64 (rd l0 x4_1)) 16)).bind fun t326 => (if y322.length + t326.size < 140737488355328 then (sluiceref18_Text.l0 k1 l0 (y322 ++ bytesOf t326) (wrap64 (x4_1 + 1))) else (none)))) else (none)) = some r := H
                have A10 := Aside0.mk A100
                clear A100
                by_cases c11 : y317.length + t321.size < 140737488355328
                · rw [if_pos c11] at H
                  have LMc11 := Aside0.mk c11
                  clear c11
                  obtain ⟨y322, hy322⟩ : ∃ y_ : List Int, y_ = (y317 ++ bytesOf t321) := ⟨_, rfl⟩
                  replace H : ((sluiceref18_hex.f (Int.tmod (wrap64 (rd l0 x4_1)) 16)).bind fun t326 => (if y322.length + t326.size < 140737488355328 then (sluiceref18_Text.l0 k1 l0 (y322 ++ bytesOf t326) (wrap64 (x4_1 + 1))) else (none))) = some r := by first | (rw [hy322]; with_reducible exact H) | (have H2_ := (Option.bind_some _ _).symm.trans H; rw [hy322]; with_reducible exact H2_) | (have H2_ := (Option.bind_some _ _).symm.trans H; with_reducible exact H2_) | with_reducible exact H | (rw [hy322]; exact H) | exact H
                  have Ny322 := Aside0.mk hy322
                  clear hy322
                  replace H := Option.bind_eq_some_iff.mp H
                  obtain ⟨t326, A120, H⟩ := H
                  replace H : (if y322.length + t326.size < 140737488355328 then (sluiceref18_Text.l0 k1 l0 (y322 ++ bytesOf t326) (wrap64 (x4_1 + 1))) else (none)) = some r := H
                  have A12 := Aside0.mk A120
                  clear A120
                  by_cases c13 : y322.length + t326.size < 140737488355328
                  · rw [if_pos c13] at H
                    have LMc13 := Aside0.mk c13
                    clear c13
                    obtain ⟨y327, hy327⟩ : ∃ y_ : List Int, y_ = (y322 ++ bytesOf t326) := ⟨_, rfl⟩
                    replace H : (sluiceref18_Text.l0 k1 l0 y327 (wrap64 (x4_1 + 1))) = some r := by first | (rw [hy327]; with_reducible exact H) | (have H2_ := (Option.bind_some _ _).symm.trans H; rw [hy327]; with_reducible exact H2_) | (have H2_ := (Option.bind_some _ _).symm.trans H; with_reducible exact H2_) | with_reducible exact H | (rw [hy327]; exact H) | exact H
                    have Ny327 := Aside0.mk hy327
                    clear hy327
                    have H' := Aside0.mk H
                    clear H
                    have p311 : 0 ≤ (x4_1 : Int) := of_decide_eq_true (by first | (with_reducible assumption) | assumption)
                    have q311 : x4_1 < (l0.length : Int) := of_decide_eq_true (by first | (with_reducible assumption) | assumption)
                    obtain ⟨ad311, e311, hx311_0⟩ := Kd.at_int HR0.out x4_1 p311 q311
                    cases e311
                    replace hx311_0 := (HB.out.cell (World.block_lt_of_cell? w _ hx311_0)).trans hx311_0
                    replace p311 := eq_true p311
                    replace q311 := eq_true q311
                    go_wp2_with (first | ((with_reducible refine gate_callee (f := 91) rfl ?_); refine goesL_ (some 20) rfl rfl Tryd.func91 (by kernel_rfl) rfl #[.int .i64 (wrap64 (rd l0 x4_1))] rfl (by (try simp only [List.map_toArray, List.map_cons, List.map_nil]); first | done | rfl | (simp only [List.length_drop, List.length_take]; rfl)) ?_; (with_reducible refine (sluiceref18_Plain.calls (wrap64 (rd l0 x4_1)) false _ A5.out).mono ?_); rintro e w' ⟨rfl, ⟨nd, rfl⟩⟩; refine ⟨_, rfl, ?_⟩) | ((with_reducible refine gate_builtin (b := .append) (xs := #[.tmp 29, .tmp 30]) rfl ?_); at_builtin; refine Kd.R_append (Kd.int .u8) (w0 := w) w.heap.size rfl (.tmp 29) (.tmp 30) 46 5 (.int .u8 0) 1 rfl Tryd.underlying46 info5 rfl (by decide) (by omega) u3 x3_1 37 [.int .u8 37] (fun _ => True) (fun _ => False) rfl rfl ?aP (fun _ hk => hk.elim) ?aF ?aO ?aB ?aS ?aL ?_; (case aP => exact rfl); (case aB => exact (by repeat (first | (with_reducible first | exact HB.out | apply below_alloc | apply pw_below_drewN | apply below_drew1) | exact HB.out))); (case aF => exact (fun _ _ => trivial)); (case aO => exact (by (with_reducible repeat (first | apply Kd.R_alloc | apply Kd.R_drewN | apply Kd.R_drew)); exact HO_3.out)); (case aS => exact (below_size (by repeat (first | (with_reducible first | exact HB.out | apply below_alloc | apply pw_below_drewN | apply below_drew1) | exact HB.out)))); (case aL => have := LMc9.out; omega); intro v318 w14 ho hb hg hat; rw [← Ny317.out] at ho; have n0_ := Aside0.mk (hb); have n1_ := Aside0.mk (ho); clear HB; clear HO_3; have HB := n0_; have HO319 := n1_; clear n0_ n1_; clear ho hb hg hat; have p320 : 0 ≤ (x4_1 : Int) := of_decide_eq_true (by first | (with_reducible assumption) | assumption); have q320 : x4_1 < (l0.length : Int) := of_decide_eq_true (by first | (with_reducible assumption) | assumption); obtain ⟨ad320, e320, hx320_0⟩ := Kd.at_int HR0.out x4_1 p320 q320; obtain rfl : ad311 = ad320 := (by injection e320); replace hx320_0 := (HB.out.cell (World.block_lt_of_cell? w _ hx320_0)).trans hx320_0; replace p320 := eq_true p320; replace q320 := eq_true q320) | ((with_reducible refine gate_callee (f := 92) rfl ?_); refine goesL_ (some 39) rfl rfl Tryd.func92 (by kernel_rfl) rfl #[.int .i64 (wrap64 (Int.tdiv (wrap64 (rd l0 x4_1)) 16))] rfl (by (try simp only [List.map_toArray, List.map_cons, List.map_nil]); first | done | rfl | (simp only [List.length_drop, List.length_take]; rfl)) ?_; (with_reducible refine (sluiceref18_hex.calls (wrap64 (Int.tdiv (wrap64 (rd l0 x4_1)) 16)) t321 _ A10.out).mono ?_); rintro e w' ⟨rfl, ⟨nd, rfl⟩⟩; refine ⟨_, rfl, ?_⟩) | (at_builtin; refine print_append_str (w0 := w) w.heap.size rfl (.tmp 32) _ 46 9 5 rfl Tryd.underlying46 Tryd.underlying9 info5 v318 y317 t321 rfl rfl ?aO ?aB ?aS ?aL ?_; (case aB => exact (by repeat (first | (with_reducible first | exact HB.out | apply below_alloc | apply pw_below_drewN | apply below_drew1) | exact HB.out))); (case aO => exact (Kd.own_of_R (by (with_reducible repeat (first | apply Kd.R_alloc | apply Kd.R_drewN | apply Kd.R_drew)); exact HO319.out))); (case aS => exact (below_size (by repeat (first | (with_reducible first | exact HB.out | apply below_alloc | apply pw_below_drewN | apply below_drew1) | exact HB.out)))); (case aL => have := LMc11.out; omega); intro v323 w15 ho0 hb hg; have ho := Kd.R_of_own (h1 := fun _ => rfl) (ok := fun _ => True) ho0 (fun _ _ => trivial); clear ho0; have hat := True.intro; rw [← Ny322.out] at ho; change Kd.R (Kd.int .u8) 5 w15 w.heap.size (fun _ => True) v323 y322 at ho; have n0_ := Aside0.mk (hb); have n1_ := Aside0.mk (ho); clear HB; clear HO319; have HB := n0_; have HO324 := n1_; clear n0_ n1_; clear ho hb hg hat; have p325 : 0 ≤ (x4_1 : Int) := of_decide_eq_true (by first | (with_reducible assumption) | assumption); have q325 : x4_1 < (l0.length : Int) := of_decide_eq_true (by first | (with_reducible assumption) | assumption); obtain ⟨ad325, e325, hx325_0⟩ := Kd.at_int HR0.out x4_1 p325 q325; obtain rfl : ad311 = ad325 := (by injection e325); replace hx325_0 := (HB.out.cell (World.block_lt_of_cell? w _ hx325_0)).trans hx325_0; replace p325 := eq_true p325; replace q325 := eq_true q325) | ((with_reducible refine gate_callee (f := 92) rfl ?_); refine goesL_ (some 48) rfl rfl Tryd.func92 (by kernel_rfl) rfl #[.int .i64 (Int.tmod (wrap64 (rd l0 x4_1)) 16)] rfl (by (try simp only [List.map_toArray, List.map_cons, List.map_nil]); first | done | rfl | (simp only [List.length_drop, List.length_take]; rfl)) ?_; (with_reducible refine (sluiceref18_hex.calls (Int.tmod (wrap64 (rd l0 x4_1)) 16) t326 _ A12.out).mono ?_); rintro e w' ⟨rfl, ⟨nd, rfl⟩⟩; refine ⟨_, rfl, ?_⟩) | (at_builtin; refine print_append_str (w0 := w) w.heap.size rfl (.tmp 41) _ 46 9 5 rfl Tryd.underlying46 Tryd.underlying9 info5 v323 y322 t326 rfl rfl ?aO ?aB ?aS ?aL ?_; (case aB => exact (by repeat (first | (with_reducible first | exact HB.out | apply below_alloc | apply pw_below_drewN | apply below_drew1) | exact HB.out))); (case aO => exact (Kd.own_of_R (by (with_reducible repeat (first | apply Kd.R_alloc | apply Kd.R_drewN | apply Kd.R_drew)); exact HO324.out))); (case aS => exact (below_size (by repeat (first | (with_reducible first | exact HB.out | apply below_alloc | apply pw_below_drewN | apply below_drew1) | exact HB.out)))); (case aL => have := LMc13.out; omega); intro v328 w16 ho0 hb hg; have ho := Kd.R_of_own (h1 := fun _ => rfl) (ok := fun _ => True) ho0 (fun _ _ => trivial); clear ho0; have hat := True.intro; rw [← Ny327.out] at ho; change Kd.R (Kd.int .u8) 5 w16 w.heap.size (fun _ => True) v328 y327 at ho; have n0_ := Aside0.mk (hb); have n1_ := Aside0.mk (ho); clear HB; clear HO324; have HB := n0_; have HO329 := n1_; clear n0_ n1_; clear ho hb hg hat))
                    go_roundg k1
                    case measure => have := HK1.out; omega
                    case rel => exact ⟨(y327), (wrap64 (x4_1 + 1)), (by first | rfl | (simp; done) | (simp [*]; done)), H', ⟨by have := HK1.out; omega⟩, ⟨by (with_reducible repeat (first | apply Kd.R_alloc | apply Kd.R_drewN | apply Kd.R_drew)); exact HO329.out⟩, ⟨by repeat (first | (with_reducible first | exact HB.out | apply below_alloc | apply pw_below_drewN | apply below_drew1) | exact HB.out)⟩⟩
                  · rw [if_neg c13] at H
                    exact absurd H (by simp)
                · rw [if_neg c11] at H
                  exact absurd H (by simp)
              · rw [if_neg c9] at H
                exact absurd H (by simp)
          · rw [if_neg c4] at H
            exact absurd H (by simp)
        · rw [if_neg c3] at H
          have c3b0 : decide (x4_1 < (l0.length : Int)) = false := decide_eq_false c3
          clear c3
          obtain rfl := Option.some.inj H
          have hcv17 := own_string (P := Tryd.prog) Tryd.underlying46 Tryd.underlying5 Tryd.underlying9 (Kd.own_of_R HO_3.out)
          go_wp2
          go_ret
          exact ⟨by first | rfl | (simp [errW_none, errW_some] <;> rfl) | (simp [*, errW_none, errW_some] <;> rfl), by repeat (first | (with_reducible first | exact HB.out | apply below_alloc | apply pw_below_drewN | apply below_drew1) | exact HB.out)⟩

def sluicelaw18_meant.l0 : Nat → ByteArray → List Int → Int → Int → Option (ByteArray)
  | 0, _, _, _, _ => none
  | k + 1, x0, x3, x4, x5 => if x5 < (x0.size : Int) then (if 0 ≤ x5 then (if (bt x0 x5) = 10 then (if x5 > x4 then (if 0 ≤ x4 then (if x4 < (x0.size : Int) then (if (bt x0 x4) = 35 then (sluicelaw18_meant.l0 k x0 x3 (wrap64 (x5 + 1)) (wrap64 (x5 + 1))) else (if x4 ≤ (wrap64 (x5 + 1)) then (if (wrap64 (x5 + 1)) ≤ (x0.size : Int) then (if x3.length + (x0.extract (x4 : Int).toNat ((wrap64 (x5 + 1)) : Int).toNat).size < 140737488355328 then (sluicelaw18_meant.l0 k x0 (x3 ++ bytesOf (x0.extract (x4 : Int).toNat ((wrap64 (x5 + 1)) : Int).toNat)) (wrap64 (x5 + 1)) (wrap64 (x5 + 1))) else (none)) else (none)) else (none))) else (none)) else (none)) else (sluicelaw18_meant.l0 k x0 x3 (wrap64 (x5 + 1)) (wrap64 (x5 + 1)))) else (sluicelaw18_meant.l0 k x0 x3 x4 (wrap64 (x5 + 1)))) else (none)) else (if 0 ≤ x4 then (if x4 ≤ (x0.size : Int) then (if x3.length + (x0.extract (x4 : Int).toNat x0.size).size < 140737488355328 then (some (strOfNums (x3 ++ bytesOf (x0.extract (x4 : Int).toNat x0.size)))) else (none)) else (none)) else (none))
def sluicelaw18_meant.f (k : Nat) (a0 : ByteArray) : Option (ByteArray) := sluicelaw18_meant.l0 k a0 ([] : List Int) 0 0
set_option maxHeartbeats 8000000 in
set_option maxRecDepth 100000 in
theorem sluicelaw18_meant.calls (k : Nat) (a0 : ByteArray) (r : ByteArray) (w : World) (h : sluicelaw18_meant.f k a0 = some r) :
    Calls Tryd.prog 18 #[.string a0] w fun e w' => e = .returned (.string r) ∧ Below w.heap.size w w' := by
  have HB := Aside0.mk (Below.refl w.heap.size w)
  have H : (sluicelaw18_meant.l0 k a0 ([] : List Int) 0 0) = some r := h
  clear h
  have H' := Aside0.mk H
  clear H
  go_enter Tryd.func18, Tryd.ntmps18
  go_wp2
  go_loopg [3, 4, 5] k (fun kq v3 v4 v5 w' => ∃ (x3_1 : List Int) (x4_1 : Int) (x5_1 : Int), v4 = .int .i64 x4_1 ∧ v5 = .int .i64 x5_1 ∧ Aside0 (sluicelaw18_meant.l0 kq a0 x3_1 x4_1 x5_1 = some r) ∧ Aside0 (kq ≤ k) ∧ Aside0 (Kd.R (Kd.int .u8) 5 w' w.heap.size (fun _ => True) v3 x3_1) ∧ Aside0 (Below w.heap.size w w'))
  case atStart => exact ⟨(([] : List Int)), (0), (0), (by first | rfl | (simp; done) | (simp [*]; done)), (by first | rfl | (simp; done) | (simp [*]; done)), H', ⟨Nat.le_refl _⟩, ⟨by first | exact Kd.R_nil _ _ _ _ _ | exact Kd.N_nil _ _ _ _ _ | exact Kd.V_nil _ _ _ _ _ | exact Kd.Q_nil _ _ _ _ _ | exact Kd.S_nil _ _ _ _ _⟩, ⟨by repeat (first | (with_reducible first | exact HB.out | apply below_alloc | apply pw_below_drewN | apply below_drew1) | exact HB.out)⟩⟩
  case round =>
    clear H'
    try clear c1
    obtain ⟨x3_1, x4_1, x5_1, rfl, rfl, HA, HK1, HO_3, HB⟩ := hrel
    cases gk with
    | zero => exact absurd HA.out (by simp [sluicelaw18_meant.l0])
    | succ k1 =>
      have H := HA.out
      clear HA
      simp only [sluicelaw18_meant.l0] at H
      by_cases c2 : x5_1 < (a0.size : Int)
      · rw [if_pos c2] at H
        have c2b0 : decide (x5_1 < (a0.size : Int)) = true := decide_eq_true c2
        clear c2
        by_cases c3 : 0 ≤ x5_1
        · rw [if_pos c3] at H
          have c3b0 : decide (0 ≤ x5_1) = true := decide_eq_true c3
          clear c3
          by_cases c5 : (bt a0 x5_1) = 10
          · rw [if_pos c5] at H
            have c5b0 : ((bt a0 x5_1) == 10) = true := beq_iff_eq.mpr c5
            have c5b1 : ((bt a0 x5_1) != 10) = false := bne_eq_false_iff_eq.mpr c5
            clear c5
            by_cases c6 : x5_1 > x4_1
            · rw [if_pos c6] at H
              have c6b0 : decide (x4_1 < x5_1) = true := decide_eq_true c6
              clear c6
              by_cases c7 : 0 ≤ x4_1
              · rw [if_pos c7] at H
                have c7b0 : decide (0 ≤ x4_1) = true := decide_eq_true c7
                clear c7
                by_cases c8 : x4_1 < (a0.size : Int)
                · rw [if_pos c8] at H
                  have c8b0 : decide (x4_1 < (a0.size : Int)) = true := decide_eq_true c8
                  clear c8
                  by_cases c10 : (bt a0 x4_1) = 35
                  · rw [if_pos c10] at H
                    have c10b0 : ((bt a0 x4_1) == 35) = true := beq_iff_eq.mpr c10
                    have c10b1 : ((bt a0 x4_1) != 35) = false := bne_eq_false_iff_eq.mpr c10
                    clear c10
                    have H' := Aside0.mk H
                    clear H
                    have p4 : 0 ≤ (x5_1 : Int) := of_decide_eq_true (by first | (with_reducible assumption) | assumption)
                    have q4 : x5_1 < (a0.size : Int) := of_decide_eq_true (by first | (with_reducible assumption) | assumption)
                    have hx4 := bt_at a0 x5_1
                    replace p4 := eq_true p4
                    replace q4 := eq_true q4
                    have p9 : 0 ≤ (x4_1 : Int) := of_decide_eq_true (by first | (with_reducible assumption) | assumption)
                    have q9 : x4_1 < (a0.size : Int) := of_decide_eq_true (by first | (with_reducible assumption) | assumption)
                    have hx9 := bt_at a0 x4_1
                    replace p9 := eq_true p9
                    replace q9 := eq_true q9
                    go_wp2
                    go_roundg k1
                    case measure => have := HK1.out; omega
                    case rel => exact ⟨(x3_1), (wrap64 (x5_1 + 1)), (wrap64 (x5_1 + 1)), (by first | rfl | (simp; done) | (simp [*]; done)), (by first | rfl | (simp; done) | (simp [*]; done)), H', ⟨by have := HK1.out; omega⟩, ⟨by (with_reducible repeat (first | apply Kd.R_alloc | apply Kd.R_drewN | apply Kd.R_drew)); exact HO_3.out⟩, ⟨by repeat (first | (with_reducible first | exact HB.out | apply below_alloc | apply pw_below_drewN | apply below_drew1) | exact HB.out)⟩⟩
                  · rw [if_neg c10] at H
                    have c10b0 : ((bt a0 x4_1) == 35) = false := beq_eq_false_iff_ne.mpr c10
                    have c10b1 : ((bt a0 x4_1) != 35) = true := bne_iff_ne.mpr c10
                    have c11b0 := eq_true (of_decide_eq_true (by first | (with_reducible assumption) | assumption) : 0 ≤ x4_1)
                    by_cases c12 : x4_1 ≤ (wrap64 (x5_1 + 1))
                    · rw [if_pos c12] at H
                      have c12b0 := eq_true c12
                      have c12b1 : decide (x4_1 ≤ (wrap64 (x5_1 + 1))) = true := decide_eq_true c12
                      by_cases c13 : (wrap64 (x5_1 + 1)) ≤ (a0.size : Int)
                      · rw [if_pos c13] at H
                        have c13b0 := eq_true c13
                        have c13b1 : decide ((wrap64 (x5_1 + 1)) ≤ (a0.size : Int)) = true := decide_eq_true c13
                        by_cases c14 : x3_1.length + (a0.extract (x4_1 : Int).toNat ((wrap64 (x5_1 + 1)) : Int).toNat).size < 140737488355328
                        · rw [if_pos c14] at H
                          have LMc14 := Aside0.mk c14
                          clear c14
                          obtain ⟨y418, hy418⟩ : ∃ y_ : List Int, y_ = (x3_1 ++ bytesOf (a0.extract (x4_1 : Int).toNat ((wrap64 (x5_1 + 1)) : Int).toNat)) := ⟨_, rfl⟩
                          replace H : (sluicelaw18_meant.l0 k1 a0 y418 (wrap64 (x5_1 + 1)) (wrap64 (x5_1 + 1))) = some r := by first | (rw [hy418]; with_reducible exact H) | (have H2_ := (Option.bind_some _ _).symm.trans H; rw [hy418]; with_reducible exact H2_) | (have H2_ := (Option.bind_some _ _).symm.trans H; with_reducible exact H2_) | with_reducible exact H | (rw [hy418]; exact H) | exact H
                          have Ny418 := Aside0.mk hy418
                          clear hy418
                          have H' := Aside0.mk H
                          clear H
                          have p4 : 0 ≤ (x5_1 : Int) := of_decide_eq_true (by first | (with_reducible assumption) | assumption)
                          have q4 : x5_1 < (a0.size : Int) := of_decide_eq_true (by first | (with_reducible assumption) | assumption)
                          have hx4 := bt_at a0 x5_1
                          replace p4 := eq_true p4
                          replace q4 := eq_true q4
                          have p9 : 0 ≤ (x4_1 : Int) := of_decide_eq_true (by first | (with_reducible assumption) | assumption)
                          have q9 : x4_1 < (a0.size : Int) := of_decide_eq_true (by first | (with_reducible assumption) | assumption)
                          have hx9 := bt_at a0 x4_1
                          replace p9 := eq_true p9
                          replace q9 := eq_true q9
                          go_wp2_with (first | (at_builtin; refine print_append_str (w0 := w) w.heap.size rfl (.tmp 25) _ 46 9 5 rfl Tryd.underlying46 Tryd.underlying9 info5 u3 x3_1 (a0.extract (x4_1 : Int).toNat ((wrap64 (x5_1 + 1)) : Int).toNat) rfl rfl ?aO ?aB ?aS ?aL ?_; (case aB => exact (by repeat (first | (with_reducible first | exact HB.out | apply below_alloc | apply pw_below_drewN | apply below_drew1) | exact HB.out))); (case aO => exact (Kd.own_of_R (by (with_reducible repeat (first | apply Kd.R_alloc | apply Kd.R_drewN | apply Kd.R_drew)); exact HO_3.out))); (case aS => exact (below_size (by repeat (first | (with_reducible first | exact HB.out | apply below_alloc | apply pw_below_drewN | apply below_drew1) | exact HB.out)))); (case aL => have := LMc14.out; omega); intro v419 w15 ho0 hb hg; have ho := Kd.R_of_own (h1 := fun _ => rfl) (ok := fun _ => True) ho0 (fun _ _ => trivial); clear ho0; have hat := True.intro; rw [← Ny418.out] at ho; change Kd.R (Kd.int .u8) 5 w15 w.heap.size (fun _ => True) v419 y418 at ho; have n0_ := Aside0.mk (hb); have n1_ := Aside0.mk (ho); clear HB; clear HO_3; have HB := n0_; have HO420 := n1_; clear n0_ n1_; clear ho hb hg hat))
                          go_roundg k1
                          case measure => have := HK1.out; omega
                          case rel => exact ⟨(y418), (wrap64 (x5_1 + 1)), (wrap64 (x5_1 + 1)), (by first | rfl | (simp; done) | (simp [*]; done)), (by first | rfl | (simp; done) | (simp [*]; done)), H', ⟨by have := HK1.out; omega⟩, ⟨by (with_reducible repeat (first | apply Kd.R_alloc | apply Kd.R_drewN | apply Kd.R_drew)); exact HO420.out⟩, ⟨by repeat (first | (with_reducible first | exact HB.out | apply below_alloc | apply pw_below_drewN | apply below_drew1) | exact HB.out)⟩⟩
                        · rw [if_neg c14] at H
                          exact absurd H (by simp)
                      · rw [if_neg c13] at H
                        exact absurd H (by simp)
                    · rw [if_neg c12] at H
                      exact absurd H (by simp)
                · rw [if_neg c8] at H
                  exact absurd H (by simp)
              · rw [if_neg c7] at H
                exact absurd H (by simp)
            · rw [if_neg c6] at H
              have c6b0 : decide (x4_1 < x5_1) = false := decide_eq_false c6
              clear c6
              have H' := Aside0.mk H
              clear H
              have p4 : 0 ≤ (x5_1 : Int) := of_decide_eq_true (by first | (with_reducible assumption) | assumption)
              have q4 : x5_1 < (a0.size : Int) := of_decide_eq_true (by first | (with_reducible assumption) | assumption)
              have hx4 := bt_at a0 x5_1
              replace p4 := eq_true p4
              replace q4 := eq_true q4
              go_wp2
              go_roundg k1
              case measure => have := HK1.out; omega
              case rel => exact ⟨(x3_1), (wrap64 (x5_1 + 1)), (wrap64 (x5_1 + 1)), (by first | rfl | (simp; done) | (simp [*]; done)), (by first | rfl | (simp; done) | (simp [*]; done)), H', ⟨by have := HK1.out; omega⟩, ⟨by (with_reducible repeat (first | apply Kd.R_alloc | apply Kd.R_drewN | apply Kd.R_drew)); exact HO_3.out⟩, ⟨by repeat (first | (with_reducible first | exact HB.out | apply below_alloc | apply pw_below_drewN | apply below_drew1) | exact HB.out)⟩⟩
          · rw [if_neg c5] at H
            have c5b0 : ((bt a0 x5_1) == 10) = false := beq_eq_false_iff_ne.mpr c5
            have c5b1 : ((bt a0 x5_1) != 10) = true := bne_iff_ne.mpr c5
            have H' := Aside0.mk H
            clear H
            have p4 : 0 ≤ (x5_1 : Int) := of_decide_eq_true (by first | (with_reducible assumption) | assumption)
            have q4 : x5_1 < (a0.size : Int) := of_decide_eq_true (by first | (with_reducible assumption) | assumption)
            have hx4 := bt_at a0 x5_1
            replace p4 := eq_true p4
            replace q4 := eq_true q4
            go_wp2
            go_roundg k1
            case measure => have := HK1.out; omega
            case rel => exact ⟨(x3_1), (x4_1), (wrap64 (x5_1 + 1)), (by first | rfl | (simp; done) | (simp [*]; done)), (by first | rfl | (simp; done) | (simp [*]; done)), H', ⟨by have := HK1.out; omega⟩, ⟨by (with_reducible repeat (first | apply Kd.R_alloc | apply Kd.R_drewN | apply Kd.R_drew)); exact HO_3.out⟩, ⟨by repeat (first | (with_reducible first | exact HB.out | apply below_alloc | apply pw_below_drewN | apply below_drew1) | exact HB.out)⟩⟩
        · rw [if_neg c3] at H
          exact absurd H (by simp)
      · rw [if_neg c2] at H
        have c2b0 : decide (x5_1 < (a0.size : Int)) = false := decide_eq_false c2
        clear c2
        by_cases c16 : 0 ≤ x4_1
        · rw [if_pos c16] at H
          have c16b0 := eq_true c16
          have c16b1 : decide (0 ≤ x4_1) = true := decide_eq_true c16
          clear c16
          by_cases c17 : x4_1 ≤ (a0.size : Int)
          · rw [if_pos c17] at H
            have c17b0 := eq_true c17
            have c17b1 : decide (x4_1 ≤ (a0.size : Int)) = true := decide_eq_true c17
            clear c17
            by_cases c18 : x3_1.length + (a0.extract (x4_1 : Int).toNat a0.size).size < 140737488355328
            · rw [if_pos c18] at H
              have LMc18 := Aside0.mk c18
              clear c18
              obtain ⟨y415, hy415⟩ : ∃ y_ : List Int, y_ = (x3_1 ++ bytesOf (a0.extract (x4_1 : Int).toNat a0.size)) := ⟨_, rfl⟩
              replace H : (some (strOfNums y415)) = some r := by first | (rw [hy415]; with_reducible exact H) | (have H2_ := (Option.bind_some _ _).symm.trans H; rw [hy415]; with_reducible exact H2_) | (have H2_ := (Option.bind_some _ _).symm.trans H; with_reducible exact H2_) | with_reducible exact H | (rw [hy415]; exact H) | exact H
              have Ny415 := Aside0.mk hy415
              clear hy415
              obtain rfl := Option.some.inj H
              go_wp2_with (first | (at_builtin; refine print_append_str (w0 := w) w.heap.size rfl (.tmp 34) _ 46 9 5 rfl Tryd.underlying46 Tryd.underlying9 info5 u3 x3_1 (a0.extract (x4_1 : Int).toNat a0.size) rfl rfl ?aO ?aB ?aS ?aL ?_; (case aB => exact (by repeat (first | (with_reducible first | exact HB.out | apply below_alloc | apply pw_below_drewN | apply below_drew1) | exact HB.out))); (case aO => exact (Kd.own_of_R (by (with_reducible repeat (first | apply Kd.R_alloc | apply Kd.R_drewN | apply Kd.R_drew)); exact HO_3.out))); (case aS => exact (below_size (by repeat (first | (with_reducible first | exact HB.out | apply below_alloc | apply pw_below_drewN | apply below_drew1) | exact HB.out)))); (case aL => have := LMc18.out; omega); intro v416 w19 ho0 hb hg; have ho := Kd.R_of_own (h1 := fun _ => rfl) (ok := fun _ => True) ho0 (fun _ _ => trivial); clear ho0; have hat := True.intro; rw [← Ny415.out] at ho; change Kd.R (Kd.int .u8) 5 w19 w.heap.size (fun _ => True) v416 y415 at ho; have n0_ := Aside0.mk (hb); have n1_ := Aside0.mk (ho); clear HB; clear HO_3; have HB := n0_; have HO417 := n1_; clear n0_ n1_; clear ho hb hg hat; have hcv20 := own_string (P := Tryd.prog) Tryd.underlying46 Tryd.underlying5 Tryd.underlying9 (Kd.own_of_R HO417.out)))
              go_ret
              exact ⟨by first | rfl | (simp [errW_none, errW_some] <;> rfl) | (simp [*, errW_none, errW_some] <;> rfl), by repeat (first | (with_reducible first | exact HB.out | apply below_alloc | apply pw_below_drewN | apply below_drew1) | exact HB.out)⟩
            · rw [if_neg c18] at H
              exact absurd H (by simp)
          · rw [if_neg c17] at H
            exact absurd H (by simp)
        · rw [if_neg c16] at H
          exact absurd H (by simp)

end Go.Proofs.YtnbfebjcfhbhiaaDoor.P
end
section
namespace Go.Proofs.YtnbfebjcfhbhiaaDoor.Sc
open Go Go.RowKit Go.Proofs.YtnbfebjcfhbhiaaDoor.P Go.Proofs.YtnbfebjcfhbhiaaDoor.Bw Go.Proofs.YtnbfebjcfhbhiaaDoorW.PrintWords Go.Proofs.YtnbfebjcfhbhiaaDoorW.PrintLast Go.Proofs.YtnbfebjcfhbhiaaDoorW.PrintMore
set_option linter.unusedVariables false
set_option linter.unusedSimpArgs false
def meanL (ls : List (By × Bool)) : By := ls.flatMap fun p => if p.2 then (if Mute p.1 then [] else p.1 ++ [10]) else p.1
theorem meanL_ends : ∀ ls : List (By × Bool), (∀ p ∈ ls, p.2 = true) → meanL ls = meantT ls
  | [], _ => rfl
  | p :: ls, h => by
    have ih := meanL_ends ls (fun q hq => h q (.tail _ hq))
    have h1 := h p (.head _)
    unfold meanL meantT at *
    rw [List.flatMap_cons, List.flatMap_cons, ih, if_pos h1]
theorem strOf_nums (x : By) : strOfNums (nums x) = sb x := by
  unfold strOfNums nums sb
  congr 1
  rw [List.map_map]
  conv => rhs; rw [← List.map_id x]
  congr 1
  refine List.map_congr_left (fun c _ => ?_)
  simp
theorem bytes_of_extract (s : ByteArray) (a b : Nat) : bytesOf (s.extract a b) = nums (((bs s).take b).drop a) := by
  rw [← bs_extract]; rfl
theorem meant_go (s : ByteArray) (hs : s.size ≤ 1048576) : ∀ (l cur pre out : By), bs s = pre ++ (cur ++ l) → (∀ c ∈ cur, c ≠ 10) → out.length ≤ pre.length →
    Ev (fun k => sluicelaw18_meant.l0 k s (nums out) (pre.length : Int) ((pre.length + cur.length : Nat) : Int)) (sb (out ++ meanL (lines (cur ++ l))))
  | [], cur, pre, out, he, hc, ho => by
    have hz : pre.length + cur.length = s.size := by rw [← bs_len, he]; simp
    have e1 : meanL (lines (cur ++ [])) = cur := by
      rw [List.append_nil, lines_end cur hc]
      by_cases h : cur = []
      · subst h; rfl
      · rw [if_neg h]; simp [meanL]
    have e2 : bytesOf (s.extract pre.length s.size) = nums cur := by
      rw [bytes_of_extract, he, List.append_nil, ← hz]
      rw [List.take_of_length_le (by simp)]
      simp
    have e3 : (s.extract pre.length s.size).size ≤ s.size := by rw [ByteArray.size_extract]; omega
    rw [e1]
    refine Ev.step (f := fun _ => some (sb (out ++ cur))) (fun k => ?_) (Ev.now _)
    have n0 : (nums out).length = out.length := by simp [nums]
    rw [sluicelaw18_meant.l0, if_neg (by omega), if_pos (by omega), if_pos (by omega), if_pos (by simp only [Int.toNat_natCast]; omega)]
    simp only [Int.toNat_natCast]
    rw [e2, ← strOf_nums, nums, nums, nums, List.map_append]
  | c :: l, cur, pre, out, he, hc, ho => by
    have hlt : pre.length + cur.length < (bs s).length := by rw [he]; simp
    have hlt2 : pre.length + cur.length < s.size := by rw [← bs_len]; exact hlt
    have hb := bt_bs s (pre.length + cur.length) hlt
    have hget : (bs s)[pre.length + cur.length]'hlt = c := by
      have : (bs s)[pre.length + cur.length]? = some c := by rw [he]; simp [List.getElem?_append_right]
      rw [List.getElem?_eq_getElem hlt] at this
      exact Option.some.inj this
    rw [hget] at hb
    have n0 : (nums out).length = out.length := by simp [nums]
    have w1 : wrap64 (((pre.length + cur.length : Nat) : Int) + 1) = (((pre.length + cur.length + 1 : Nat)) : Int) := by rw [w64 (by omega) (by omega)]; omega
    by_cases h10 : c = 10
    · subst h10
      have hb2 : bt s ((pre.length + cur.length : Nat) : Int) = 10 := hb
      have el : lines (cur ++ 10 :: l) = (cur, true) :: lines l := lines_nl cur l hc
      have hp : ∀ out', out'.length ≤ pre.length + cur.length + 1 → Ev (fun k => sluicelaw18_meant.l0 k s (nums out') ((pre.length + cur.length + 1 : Nat) : Int) ((pre.length + cur.length + 1 : Nat) : Int)) (sb (out' ++ meanL (lines l))) := fun out' ho' => by
        have e : (pre ++ (cur ++ [10])).length = pre.length + cur.length + 1 := by simp; omega
        have := meant_go s hs l [] (pre ++ (cur ++ [10])) out' (by rw [he]; simp) (fun _ h => by cases h) (by rw [e]; exact ho')
        rw [e] at this
        exact this
      rw [el]
      have em : meanL ((cur, true) :: lines l) = (if Mute cur then [] else cur ++ [10]) ++ meanL (lines l) := by simp [meanL]
      rw [em]
      cases cur with
      | nil =>
        rw [if_pos (show Mute [] from .inl rfl)]
        refine Ev.step (fun k => ?_) (hp out (by omega))
        rw [sluicelaw18_meant.l0, if_pos (by omega), if_pos (by omega), if_pos hb2, if_neg (by simp), w1]
      | cons d r =>
        have hlt0 : pre.length < (bs s).length := by omega
        have hb0 := bt_bs s pre.length hlt0
        have hget0 : (bs s)[pre.length]'hlt0 = d := by
          have : (bs s)[pre.length]? = some d := by rw [he]; simp [List.getElem?_append_right]
          rw [List.getElem?_eq_getElem hlt0] at this
          exact Option.some.inj this
        rw [hget0] at hb0
        by_cases hd : d = 35
        · subst hd
          have hb3 : bt s (pre.length : Int) = 35 := hb0
          rw [if_pos (show Mute (35 :: r) from .inr rfl)]
          refine Ev.step (fun k => ?_) (hp out (by omega))
          rw [sluicelaw18_meant.l0, if_pos (by omega), if_pos (by omega), if_pos hb2, if_pos (by simp; omega), if_pos (by omega), if_pos (by omega), if_pos hb3, w1]
        · have hb3 : ¬ bt s (pre.length : Int) = 35 := fun h => hd (UInt8.toNat_inj.1 (by show d.toNat = 35; omega))
          have hm : ¬ Mute (d :: r) := fun h => by
            rcases h with h | h
            · cases h
            · simp at h; exact hd h
          rw [if_neg hm]
          have hsz : (s.extract pre.length (pre.length + (d :: r).length + 1)).size = (d :: r).length + 1 := by rw [ByteArray.size_extract]; omega
          have e2 : bytesOf (s.extract pre.length (pre.length + (d :: r).length + 1)) = nums ((d :: r) ++ [10]) := by
            rw [bytes_of_extract, he]
            congr 1
            rw [show pre ++ ((d :: r) ++ 10 :: l) = (pre ++ ((d :: r) ++ [10])) ++ l by simp, List.take_append_of_le_length (by simp; omega), List.take_of_length_le (by simp; omega)]
            simp
          have hk := hp (out ++ ((d :: r) ++ [10])) (by simp at *; omega)
          rw [show out ++ ((d :: r) ++ [10] ++ meanL (lines l)) = out ++ ((d :: r) ++ [10]) ++ meanL (lines l) by simp]
          refine Ev.step (fun k => ?_) hk
          rw [sluicelaw18_meant.l0, if_pos (by omega), if_pos (by omega), if_pos hb2, if_pos (by simp; omega), if_pos (by omega), if_pos (by omega), if_neg hb3, w1, if_pos (by omega), if_pos (by omega)]
          simp only [Int.toNat_natCast]
          rw [if_pos (by rw [hsz, n0]; simp at *; omega), e2, ← nums_append]
    · have hb2 : ¬ bt s ((pre.length + cur.length : Nat) : Int) = 10 := fun h => h10 (UInt8.toNat_inj.1 (by show c.toNat = 10; omega))
      have hk := meant_go s hs l (cur ++ [c]) pre out (by rw [he]; simp) (fun x hx => by
        rcases List.mem_append.1 hx with hx | hx
        · exact hc x hx
        · rw [List.mem_singleton.1 hx]; exact h10) ho
      rw [show (cur ++ [c]) ++ l = cur ++ c :: l by simp, show pre.length + (cur ++ [c]).length = pre.length + cur.length + 1 by simp; omega] at hk
      refine Ev.step (fun k => ?_) hk
      rw [sluicelaw18_meant.l0, if_pos (by omega), if_pos (by omega), if_neg hb2, w1]
theorem meant_ev (s : ByteArray) (hs : s.size ≤ 1048576) (hE : Ends (bs s)) : Ev (fun k => sluicelaw18_meant.f k s) (sb (meantT (lines (bs s)))) := by
  have := meant_go s hs (bs s) [] [] [] rfl (fun _ h => by cases h) (Nat.le_refl _)
  rw [List.nil_append, List.nil_append, meanL_ends _ hE] at this
  exact this
end Go.Proofs.YtnbfebjcfhbhiaaDoor.Sc
end
section
namespace Go.Proofs.YtnbfebjcfhbhiaaDoor.Bw
open Go Go.RowKit Go.Proofs.YtnbfebjcfhbhiaaDoor.P Go.Proofs.YtnbfebjcfhbhiaaDoor.Sc Go.Proofs.YtnbfebjcfhbhiaaDoor.Lw Go.Proofs.YtnbfebjcfhbhiaaDoorW.PrintWords Go.Proofs.YtnbfebjcfhbhiaaDoorW.PrintLast Go.Proofs.YtnbfebjcfhbhiaaDoorW.PrintMore
set_option linter.unusedVariables false
set_option linter.unusedSimpArgs false
theorem parse_bad (w : World) (s : ByteArray) (hV : VS w) (hC : VC w) (hs : s.size ≤ 4611686018427387904) (ho : ∀ c l, Sc.parse (bs s) ≠ .ok c l) :
    Calls Tryd.prog 16 #[.string s] w fun e w' => ∃ (x y z : Int), (z = 2 ∨ z = 180) ∧ e = .returned (.tuple #[.agg #[.int .i64 0, .int .i64 0, .int .i64 0, .int .i64 0, .int .i64 0, .int .i64 0, .int .i64 0, .int .i64 0, .int .i64 0, .int .i64 0], .slice none 0 0, .int .i64 x, .int .i64 y, .int .i64 z]) ∧ Below w.heap.size w w' := by
  refine (parse_calls w s hV hC hs).mono ?_
  rintro e w' ⟨hP, hb⟩
  cases hp : Sc.parse (bs s) with
  | ok c l => exact absurd hp (ho c l)
  | long => rw [hp] at hP; exact ⟨_, _, _, .inl rfl, hP, hb⟩
  | place x y => rw [hp] at hP; exact ⟨_, _, _, .inr rfl, hP, hb⟩
set_option maxHeartbeats 8000000 in
set_option maxRecDepth 100000 in
theorem form_bad (w : World) (s : ByteArray) (hT : TB w) (hV : VS w) (hC : VC w) (hs : s.size ≤ 140737488355328) (ho : ∀ c l, Sc.parse (bs s) ≠ .ok c l) :
    Calls Tryd.prog 7 #[.string s] w fun e w' => e = .returned (.bool true) ∧ Below w.heap.size w w' := by
  have HT := Aside0.mk hT
  have HV := Aside0.mk hV
  have HC := Aside0.mk hC
  have HO := Aside0.mk ho
  have HS : Aside0 (s.size ≤ 4611686018427387904) := ⟨by omega⟩
  clear hT hV hC ho hs
  go_enter Tryd.func7, Tryd.ntmps7
  go_upto_region 5 with (first
      | (go_at_call 10; refine (alive_calls _ HT.out HV.out HC.out).mono ?_; rintro e w1 ⟨rfl, hb⟩; have HB1 := Aside0.mk hb; clear hb)
      | (go_at_call 16; refine (parse_bad _ _ (HV.out.below HB1.out) (HC.out.below HB1.out) HS.out HO.out).mono ?_; rintro e w2 ⟨x, y, z, hz, rfl, hb⟩; have HB2 := Aside0.mk hb; have HZ := Aside0.mk hz; clear hb hz))
  obtain ⟨W2, hW2⟩ : ∃ W2, W2 = w2.alloc (.cells #[.int .i64 0, .int .i64 0, .int .i64 0, .int .i64 0, .int .i64 0, .int .i64 0, .int .i64 0, .int .i64 0, .int .i64 0, .int .i64 0] 25 (0, 0)) := ⟨_, rfl⟩
  have HW2 := Aside0.mk hW2
  have H2 : Aside0 (Below w.heap.size w W2 ∧ W2.heap[w2.heap.size]? = some (.cells #[.int .i64 0, .int .i64 0, .int .i64 0, .int .i64 0, .int .i64 0, .int .i64 0, .int .i64 0, .int .i64 0, .int .i64 0, .int .i64 0] 25 (0, 0))) := ⟨by rw [hW2]; exact ⟨(HB1.out.trans (HB2.out.mono HB1.out.size)).alloc (Nat.le_trans HB1.out.size HB2.out.size) _, heap_alloc_new _ _⟩⟩
  rw [← HW2.out]
  clear hW2
  have c0 : W2.cell? ⟨w2.heap.size, 0, none⟩ = some (.int .i64 0) := (blk_cell H2.out.2 0).trans rfl
  have c1 : W2.cell? ⟨w2.heap.size, 1, none⟩ = some (.int .i64 0) := (blk_cell H2.out.2 1).trans rfl
  have c2 : W2.cell? ⟨w2.heap.size, 2, none⟩ = some (.int .i64 0) := (blk_cell H2.out.2 2).trans rfl
  have c3 : W2.cell? ⟨w2.heap.size, 3, none⟩ = some (.int .i64 0) := (blk_cell H2.out.2 3).trans rfl
  have c4 : W2.cell? ⟨w2.heap.size, 4, none⟩ = some (.int .i64 0) := (blk_cell H2.out.2 4).trans rfl
  have c5 : W2.cell? ⟨w2.heap.size, 5, none⟩ = some (.int .i64 0) := (blk_cell H2.out.2 5).trans rfl
  have c6 : W2.cell? ⟨w2.heap.size, 6, none⟩ = some (.int .i64 0) := (blk_cell H2.out.2 6).trans rfl
  have c7 : W2.cell? ⟨w2.heap.size, 7, none⟩ = some (.int .i64 0) := (blk_cell H2.out.2 7).trans rfl
  have c8 : W2.cell? ⟨w2.heap.size, 8, none⟩ = some (.int .i64 0) := (blk_cell H2.out.2 8).trans rfl
  have c9 : W2.cell? ⟨w2.heap.size, 9, none⟩ = some (.int .i64 0) := (blk_cell H2.out.2 9).trans rfl
  rcases HZ.out with rfl | rfl
  all_goals (
    go_wp2_with (go_at_call 15; refine (num_calls _ _).mono ?_; rintro e w' ⟨rfl, rfl⟩)
    go_ret
    exact ⟨by first | rfl | trivial, H2.out.1⟩)
set_option maxHeartbeats 16000000 in
set_option maxRecDepth 100000 in
theorem form_ok (w : World) (s : ByteArray) (hT : TB w) (hV : VS w) (hVC : VC w) (hs : s.size ≤ 1048576) (a0 a1 a2 a3 a4 a5 a6 a7 a8 a9 : Int) (l : List St) (ho : Sc.parse (bs s) = .ok [a0, a1, a2, a3, a4, a5, a6, a7, a8, a9] l) (hci : ∀ i < 10, inI (([a0, a1, a2, a3, a4, a5, a6, a7, a8, a9] : List Int).getD i 0)) (hf : ∀ x ∈ l, sfit x) (hB : (cfgTS [a0, a1, a2, a3, a4, a5, a6, a7, a8, a9]).1.length + lenL l ≤ 140737488355328) {t : By} (hp : printR [a0, a1, a2, a3, a4, a5, a6, a7, a8, a9] l = (t, 0)) {K : Nat} (hm : sluicelaw18_meant.f K s = some (sb t)) {K2 : Nat} (hK : sluicelaw18_alike.f K2 (l.map stS) (l.map stS) = some true) (hmo : s.size ≤ 1000000 → Sc.parse (aheadB ++ bs s ++ behindB) = .ok [a0, a1, a2, a3, a4, a5, a6, a7, a8, a9] l) :
    Calls Tryd.prog 7 #[.string s] w fun e w' => e = .returned (.bool true) ∧ Below w.heap.size w w' := by
  have HT := Aside0.mk hT
  have HV := Aside0.mk hV
  have HC := Aside0.mk hVC
  have HO := Aside0.mk ho
  have HI := Aside0.mk hci
  have HF := Aside0.mk hf
  have HBD := Aside0.mk hB
  have HP := Aside0.mk hp
  have HM := Aside0.mk hm
  have HK := Aside0.mk hK
  have HMO := Aside0.mk hmo
  have HS : Aside0 (s.size ≤ 4611686018427387904) := ⟨by omega⟩
  have HS2 := Aside0.mk hs
  clear hT hV hVC ho hci hf hB hp hm hK hmo hs
  go_enter Tryd.func7, Tryd.ntmps7
  go_upto_region 5 with (first
      | (go_at_call 10; refine (alive_calls _ HT.out HV.out HC.out).mono ?_; rintro e w1 ⟨rfl, hb⟩; have HB1 := Aside0.mk hb; clear hb)
      | (go_at_call 16; refine (parse_ok _ _ (HV.out.below HB1.out) (HC.out.below HB1.out) HS.out HO.out).mono ?_; rintro e w2 ⟨A, cp, rfl, hcp, hC, hb⟩; have HB2 := Aside0.mk (HB1.out.trans (hb.mono HB1.out.size)); have HL := Aside0.mk hC; have HCP := Aside0.mk hcp; clear hb hC hcp; simp only [cfc, cfl, List.map_cons, List.map_nil, List.length_cons, List.length_nil, List.cons_append, List.nil_append]))
  obtain ⟨W2, hW2⟩ : ∃ W2, W2 = w2.alloc (.cells #[.int .i64 a0, .int .i64 a1, .int .i64 a2, .int .i64 a3, .int .i64 a4, .int .i64 a5, .int .i64 a6, .int .i64 a7, .int .i64 a8, .int .i64 a9] 25 (0, 0)) := ⟨_, rfl⟩
  have HW2 := Aside0.mk hW2
  have H2 : Aside0 (Below w.heap.size w W2 ∧ W2.heap[w2.heap.size]? = some (.cells #[.int .i64 a0, .int .i64 a1, .int .i64 a2, .int .i64 a3, .int .i64 a4, .int .i64 a5, .int .i64 a6, .int .i64 a7, .int .i64 a8, .int .i64 a9] 25 (0, 0))) := ⟨by rw [hW2]; exact ⟨HB2.out.alloc HB2.out.size _, heap_alloc_new _ _⟩⟩
  have HL2 : Aside0 (Kd.C k48 W2 A l.length (l.map stS)) := ⟨by rw [hW2]; exact Kd.C_below HL.out ((Below.refl _ _).alloc (Nat.le_refl _) _)⟩
  rw [← HW2.out]
  clear hW2
  have c0 : W2.cell? ⟨w2.heap.size, 0, none⟩ = some (.int .i64 a0) := (blk_cell H2.out.2 0).trans rfl
  have c1 : W2.cell? ⟨w2.heap.size, 1, none⟩ = some (.int .i64 a1) := (blk_cell H2.out.2 1).trans rfl
  have c2 : W2.cell? ⟨w2.heap.size, 2, none⟩ = some (.int .i64 a2) := (blk_cell H2.out.2 2).trans rfl
  have c3 : W2.cell? ⟨w2.heap.size, 3, none⟩ = some (.int .i64 a3) := (blk_cell H2.out.2 3).trans rfl
  have c4 : W2.cell? ⟨w2.heap.size, 4, none⟩ = some (.int .i64 a4) := (blk_cell H2.out.2 4).trans rfl
  have c5 : W2.cell? ⟨w2.heap.size, 5, none⟩ = some (.int .i64 a5) := (blk_cell H2.out.2 5).trans rfl
  have c6 : W2.cell? ⟨w2.heap.size, 6, none⟩ = some (.int .i64 a6) := (blk_cell H2.out.2 6).trans rfl
  have c7 : W2.cell? ⟨w2.heap.size, 7, none⟩ = some (.int .i64 a7) := (blk_cell H2.out.2 7).trans rfl
  have c8 : W2.cell? ⟨w2.heap.size, 8, none⟩ = some (.int .i64 a8) := (blk_cell H2.out.2 8).trans rfl
  have c9 : W2.cell? ⟨w2.heap.size, 9, none⟩ = some (.int .i64 a9) := (blk_cell H2.out.2 9).trans rfl
  go_upto_region 8 with (first
      | (go_at_call 15; refine (num_calls _ _).mono ?_; rintro e w' ⟨rfl, rfl⟩)
      | (go_at_call 14; refine (print_calls _ [a0, a1, a2, a3, a4, a5, a6, a7, a8, a9] l A cp (HT.out.below H2.out.1) (HV.out.below H2.out.1) (HC.out.below H2.out.1) rfl HI.out HL2.out HF.out HBD.out).mono ?_; rw [HP.out]; rintro e w3 ⟨rfl, hb⟩; have HB3 := Aside0.mk (H2.out.1.trans (hb.mono H2.out.1.size)); have HN3 := Aside0.mk ((hb.block _ (blk_lt H2.out.2)).trans H2.out.2); have HL3 := Aside0.mk (Kd.C_below HL2.out hb); clear hb c0 c1 c2 c3 c4 c5 c6 c7 c8 c9))
  go_upto_region 10 with (first
      | (go_at_call 15; refine (num_calls _ _).mono ?_; rintro e w' ⟨rfl, rfl⟩)
      | (go_at_call 18; refine (sluicelaw18_meant.calls K s _ _ HM.out).mono ?_; rintro e w4 ⟨rfl, hb⟩; have HB4 := Aside0.mk (HB3.out.trans (hb.mono HB3.out.size)); have HN4 := Aside0.mk ((hb.block _ (blk_lt HN3.out)).trans HN3.out); have HL4 := Aside0.mk (Kd.C_below HL3.out hb); clear hb))
  by_cases hbig : 1000000 < s.size
  · have hbig2 : (1000000 : Int) < (s.size : Int) := by omega
    clear hbig
    go_wp2_with fail
    go_ret
    exact ⟨by first | rfl | trivial, HB4.out⟩
  · have hbig2 : (s.size : Int) ≤ 1000000 := by omega
    have hsz0 : 0 ≤ (s.size : Int) := by omega
    have HG : Aside0 (s.size ≤ 1000000) := ⟨by omega⟩
    clear hbig
    have had1 : ∀ W, (Op.stringOp .add ⟨#[35, 10, 10, 35, 32, 109, 111, 114, 101, 58, 32, 99, 97, 108, 108, 10]⟩ s).run Tryd.prog W = .ok (.string (⟨#[35, 10, 10, 35, 32, 109, 111, 114, 101, 58, 32, 99, 97, 108, 108, 10]⟩ ++ s)) W := fun W => run_string_add_sum W _ _ (by have := HG.out; show 16 + s.size ≤ _; omega)
    have hz1 : (⟨#[35, 10, 10, 35, 32, 109, 111, 114, 101, 58, 32, 99, 97, 108, 108, 10]⟩ ++ s : ByteArray).size = 16 + s.size := by rw [ByteArray.size_append]; rfl
    have had2 : ∀ W, (Op.stringOp .add (⟨#[35, 10, 10, 35, 32, 109, 111, 114, 101, 58, 32, 99, 97, 108, 108, 10]⟩ ++ s) ⟨#[10, 35, 120, 10]⟩).run Tryd.prog W = .ok (.string (⟨#[35, 10, 10, 35, 32, 109, 111, 114, 101, 58, 32, 99, 97, 108, 108, 10]⟩ ++ s ++ ⟨#[10, 35, 120, 10]⟩)) W := fun W => run_string_add_sum W _ _ (by have := HG.out; rw [hz1]; show 16 + s.size + 4 ≤ _; omega)
    have HS5 : Aside0 ((⟨#[35, 10, 10, 35, 32, 109, 111, 114, 101, 58, 32, 99, 97, 108, 108, 10]⟩ ++ s ++ ⟨#[10, 35, 120, 10]⟩ : ByteArray).size ≤ 4611686018427387904) := ⟨by have := HG.out; rw [ByteArray.size_append, hz1]; show 16 + s.size + 4 ≤ _; omega⟩
    have HO5 : Aside0 (Sc.parse (bs (⟨#[35, 10, 10, 35, 32, 109, 111, 114, 101, 58, 32, 99, 97, 108, 108, 10]⟩ ++ s ++ ⟨#[10, 35, 120, 10]⟩)) = .ok [a0, a1, a2, a3, a4, a5, a6, a7, a8, a9] l) := ⟨by rw [bs_append, bs_append]; exact HMO.out HG.out⟩
    clear hz1
    go_upto_region 13 with (go_at_call 16; refine (parse_ok _ _ (HV.out.below HB4.out) (HC.out.below HB4.out) HS5.out HO5.out).mono ?_; rintro e w5 ⟨A2, cp2, rfl, hcp, hC, hb⟩; have HB5 := Aside0.mk (HB4.out.trans (hb.mono HB4.out.size)); have HN5 := Aside0.mk ((hb.block _ (blk_lt HN4.out)).trans HN4.out); have HL5 := Aside0.mk (Kd.C_below HL4.out hb); have HC5 := Aside0.mk hC; have HCP5 := Aside0.mk hcp; clear hb hC hcp; simp only [cfc, cfl, List.map_cons, List.map_nil, List.length_cons, List.length_nil, List.cons_append, List.nil_append])
    obtain ⟨W6, hW6⟩ : ∃ W6, W6 = w5.alloc (.cells #[.int .i64 a0, .int .i64 a1, .int .i64 a2, .int .i64 a3, .int .i64 a4, .int .i64 a5, .int .i64 a6, .int .i64 a7, .int .i64 a8, .int .i64 a9] 25 (0, 0)) := ⟨_, rfl⟩
    have HW6 := Aside0.mk hW6
    have HX6 : Aside0 (Below w5.heap.size w5 W6) := ⟨by rw [hW6]; exact (Below.refl _ _).alloc (Nat.le_refl _) _⟩
    have H6 : Aside0 (Below w.heap.size w W6 ∧ W6.heap[w2.heap.size]? = some (.cells #[.int .i64 a0, .int .i64 a1, .int .i64 a2, .int .i64 a3, .int .i64 a4, .int .i64 a5, .int .i64 a6, .int .i64 a7, .int .i64 a8, .int .i64 a9] 25 (0, 0)) ∧ W6.heap[w5.heap.size]? = some (.cells #[.int .i64 a0, .int .i64 a1, .int .i64 a2, .int .i64 a3, .int .i64 a4, .int .i64 a5, .int .i64 a6, .int .i64 a7, .int .i64 a8, .int .i64 a9] 25 (0, 0))) := ⟨⟨HB5.out.trans (HX6.out.mono HB5.out.size), (HX6.out.block _ (blk_lt HN5.out)).trans HN5.out, by rw [hW6]; exact heap_alloc_new _ _⟩⟩
    have HL6 := Aside0.mk (Kd.C_below HL5.out HX6.out)
    have HC6 := Aside0.mk (Kd.C_below HC5.out HX6.out)
    rw [← HW6.out]
    clear hW6
    have d0 : W6.cell? ⟨w2.heap.size, 0, none⟩ = some (.int .i64 a0) := (blk_cell H6.out.2.1 0).trans rfl
    have d1 : W6.cell? ⟨w2.heap.size, 1, none⟩ = some (.int .i64 a1) := (blk_cell H6.out.2.1 1).trans rfl
    have d2 : W6.cell? ⟨w2.heap.size, 2, none⟩ = some (.int .i64 a2) := (blk_cell H6.out.2.1 2).trans rfl
    have d3 : W6.cell? ⟨w2.heap.size, 3, none⟩ = some (.int .i64 a3) := (blk_cell H6.out.2.1 3).trans rfl
    have d4 : W6.cell? ⟨w2.heap.size, 4, none⟩ = some (.int .i64 a4) := (blk_cell H6.out.2.1 4).trans rfl
    have d5 : W6.cell? ⟨w2.heap.size, 5, none⟩ = some (.int .i64 a5) := (blk_cell H6.out.2.1 5).trans rfl
    have d6 : W6.cell? ⟨w2.heap.size, 6, none⟩ = some (.int .i64 a6) := (blk_cell H6.out.2.1 6).trans rfl
    have d7 : W6.cell? ⟨w2.heap.size, 7, none⟩ = some (.int .i64 a7) := (blk_cell H6.out.2.1 7).trans rfl
    have d8 : W6.cell? ⟨w2.heap.size, 8, none⟩ = some (.int .i64 a8) := (blk_cell H6.out.2.1 8).trans rfl
    have d9 : W6.cell? ⟨w2.heap.size, 9, none⟩ = some (.int .i64 a9) := (blk_cell H6.out.2.1 9).trans rfl
    have e0 : W6.cell? ⟨w5.heap.size, 0, none⟩ = some (.int .i64 a0) := (blk_cell H6.out.2.2 0).trans rfl
    have e1 : W6.cell? ⟨w5.heap.size, 1, none⟩ = some (.int .i64 a1) := (blk_cell H6.out.2.2 1).trans rfl
    have e2 : W6.cell? ⟨w5.heap.size, 2, none⟩ = some (.int .i64 a2) := (blk_cell H6.out.2.2 2).trans rfl
    have e3 : W6.cell? ⟨w5.heap.size, 3, none⟩ = some (.int .i64 a3) := (blk_cell H6.out.2.2 3).trans rfl
    have e4 : W6.cell? ⟨w5.heap.size, 4, none⟩ = some (.int .i64 a4) := (blk_cell H6.out.2.2 4).trans rfl
    have e5 : W6.cell? ⟨w5.heap.size, 5, none⟩ = some (.int .i64 a5) := (blk_cell H6.out.2.2 5).trans rfl
    have e6 : W6.cell? ⟨w5.heap.size, 6, none⟩ = some (.int .i64 a6) := (blk_cell H6.out.2.2 6).trans rfl
    have e7 : W6.cell? ⟨w5.heap.size, 7, none⟩ = some (.int .i64 a7) := (blk_cell H6.out.2.2 7).trans rfl
    have e8 : W6.cell? ⟨w5.heap.size, 8, none⟩ = some (.int .i64 a8) := (blk_cell H6.out.2.2 8).trans rfl
    have e9 : W6.cell? ⟨w5.heap.size, 9, none⟩ = some (.int .i64 a9) := (blk_cell H6.out.2.2 9).trans rfl
    go_wp2_with (first
      | (go_at_call 17; refine (alike_calls _ l A A2 cp cp2 HK.out HL6.out HCP.out HC6.out HCP5.out).mono ?_; rintro e w7 ⟨rfl, hb⟩; have HB7 := Aside0.mk hb; clear hb)
      | (go_at_call 15; refine (num_calls _ _).mono ?_; rintro e w' ⟨rfl, rfl⟩))
    go_ret
    exact ⟨by first | rfl | trivial, H6.out.1.trans (HB7.out.mono H6.out.1.size)⟩
/-- ScriptOneForm answers true. -/
theorem form_calls (w : World) (s : ByteArray) (hT : TB w) (hV : VS w) (hC : VC w) (hs : s.size ≤ 140737488355328) :
    Calls Tryd.prog 7 #[.string s] w fun e w' => e = .returned (.bool true) ∧ Below w.heap.size w w' := by
  by_cases ho : ∃ c l, Sc.parse (bs s) = .ok c l
  · obtain ⟨c, l, ho⟩ := ho
    obtain ⟨h1, h2, h3, h4, h5, h6, h7⟩ := form_law ho
    have hci : ∀ i < 10, inI (c.getD i 0) := fun i hi => by
      have hi2 : i < c.length := by omega
      rw [List.getD_eq_getElem?_getD, List.getElem?_eq_getElem hi2]
      exact h4 _ (List.getElem_mem hi2)
    have hB := bulk_fits hci (by omega : l.length ≤ 1048576) h7
    rw [bs_len] at h1
    obtain ⟨K, hK⟩ := (meant_ev s h1 h2).rounds
    obtain ⟨K2, hK2⟩ := (alike_ev (l.map stS) (by rw [List.length_map]; omega)).rounds
    have hm := fun hx : s.size ≤ 1000000 => more_law ho (by rw [bs_len]; exact hx)
    obtain ⟨a0, a1, a2, a3, a4, a5, a6, a7, a8, a9, rfl⟩ := ten h3
    exact form_ok w s hT hV hC h1 a0 a1 a2 a3 a4 a5 a6 a7 a8 a9 l ho hci (fun x hx => (h7 x hx).1) hB h6 hK hK2 hm
  · exact form_bad w s hT hV hC hs (fun c l h => ho ⟨c, l, h⟩)
end Go.Proofs.YtnbfebjcfhbhiaaDoor.Bw
end
