/- texts that the proof needs, laid together by a program of this session. -/
import Derived.Test.YtpgdmmjbhjbbhaaKWireDecodes10
section
namespace Go.Proofs.Ytpgdmmjbhjbbhaa.P
open Go.RowKit Go.Proofs.YtpgdmmjbhjbbhaaW.PrintWords Go.Proofs.YtpgdmmjbhjbbhaaW.PrintLast Go.Proofs.YtpgdmmjbhjbbhaaW.PrintMore
attribute [local go_sem] Go.Proofs.Ytpgdmmjbhjbbhaa.StrLe.leq_str Go.Proofs.Ytpgdmmjbhjbbhaa.StrLe.gtr_str
attribute [local go_sem] max2_int min2_int max_two min_two max_three min_three max_four min_four   -- for this text's walks alone
set_option linter.unusedVariables false
set_option linter.unusedSimpArgs false

/-- A state of type 132 at block g of W; what its slices lead to came in by w0. -/
def IsS132 (w0 W : World) (g : Nat) (f0 : List Int) (f1 : Int) (f2 : Bool) : Prop := ∃ A0 c0, W.heap[g]? = some (.cells #[.slice A0 f0.length c0, .int .i64 f1, .bool f2] 132 (0, 0)) ∧ (w0.heap.size ≤ g ∧ f0.length ≤ c0) ∧ Kd.C (Kd.int .u8) w0 A0 f0.length f0
theorem IsS132.grown {w0 W : World} {g : Nat} {f0 : List Int} {f1 : Int} {f2 : Bool} {W1 : World} {row : Option Nat} (h : IsS132 w0 W g f0 f1 f2) (hw : W.grownBy W1 row) (hne : some g ≠ row) : IsS132 w0 W1 g f0 f1 f2 := by
  obtain ⟨A0, c0, hb, hg, hr0⟩ := h
  exact ⟨A0, c0, blk_grown hb hw hne, hg, hr0⟩
theorem IsS132.below {w0 W : World} {g : Nat} {f0 : List Int} {f1 : Int} {f2 : Bool} {W1 : World} (h : IsS132 w0 W g f0 f1 f2) (hw : Below W.heap.size W W1) : IsS132 w0 W1 g f0 f1 f2 := h.grown (grown_of_below hw none) (by simp)
theorem IsS132.alloc {w0 W : World} {g : Nat} {f0 : List Int} {f1 : Int} {f2 : Bool} (h : IsS132 w0 W g f0 f1 f2) (o : Obj) : IsS132 w0 (W.alloc o) g f0 f1 f2 := h.below (below_alloc (Below.refl _ _) o)
theorem IsS132.drewN {w0 W : World} {g : Nat} {f0 : List Int} {f1 : Int} {f2 : Bool} (h : IsS132 w0 W g f0 f1 f2) (m : Nat) : IsS132 w0 (W.drewN m) g f0 f1 f2 := h
theorem IsS132.drew {w0 W : World} {g : Nat} {f0 : List Int} {f1 : Int} {f2 : Bool} (h : IsS132 w0 W g f0 f1 f2) : IsS132 w0 W.drew g f0 f1 f2 := h
theorem IsS132.lt {w0 W : World} {g : Nat} {f0 : List Int} {f1 : Int} {f2 : Bool} (h : IsS132 w0 W g f0 f1 f2) : g < W.heap.size := by
  obtain ⟨A0, c0, hb, hg, hr0⟩ := h
  exact blk_lt hb
theorem IsS132.ge {w0 W : World} {g : Nat} {f0 : List Int} {f1 : Int} {f2 : Bool} (h : IsS132 w0 W g f0 f1 f2) : w0.heap.size ≤ g := by
  obtain ⟨A0, c0, hb, hg, hr0⟩ := h
  exact hg.1
theorem IsS132.far {w0 W : World} {g : Nat} {f0 : List Int} {f1 : Int} {f2 : Bool} {p : Addr} (h : IsS132 w0 W g f0 f1 f2) (hne : g ≠ p.block) (u : Value) : IsS132 w0 (W.setCell p u) g f0 f1 f2 := by
  obtain ⟨A0, c0, hb, hg, hr0⟩ := h
  exact ⟨A0, c0, blk_far hb hne u, hg, hr0⟩
theorem cellS132_0 {W : World} {g : Nat} {A0 : Option Addr} {c0 : Nat} {f0 : List Int} {f1 : Int} {f2 : Bool} (h : W.heap[g]? = some (.cells #[.slice A0 f0.length c0, .int .i64 f1, .bool f2] 132 (0, 0))) : W.cell? ⟨g, 0, none⟩ = some (.slice A0 f0.length c0) := (blk_cell h 0).trans rfl
theorem cellS132_1 {W : World} {g : Nat} {A0 : Option Addr} {c0 : Nat} {f0 : List Int} {f1 : Int} {f2 : Bool} (h : W.heap[g]? = some (.cells #[.slice A0 f0.length c0, .int .i64 f1, .bool f2] 132 (0, 0))) : W.cell? ⟨g, 1, none⟩ = some (.int .i64 f1) := (blk_cell h 1).trans rfl
theorem IsS132.set_1 {w0 W : World} {g : Nat} {f0 : List Int} {f1 : Int} {f2 : Bool} (h : IsS132 w0 W g f0 f1 f2) (x : Int) : IsS132 w0 (W.setCell ⟨g, 1, none⟩ (.int .i64 x)) g f0 x f2 := by
  obtain ⟨A0, c0, hb, hg, hr0⟩ := h
  exact ⟨A0, c0, by simpa using blk_set hb 1 (.int .i64 x), hg, hr0⟩
theorem cellS132_2 {W : World} {g : Nat} {A0 : Option Addr} {c0 : Nat} {f0 : List Int} {f1 : Int} {f2 : Bool} (h : W.heap[g]? = some (.cells #[.slice A0 f0.length c0, .int .i64 f1, .bool f2] 132 (0, 0))) : W.cell? ⟨g, 2, none⟩ = some (.bool f2) := (blk_cell h 2).trans rfl
theorem IsS132.set_2 {w0 W : World} {g : Nat} {f0 : List Int} {f1 : Int} {f2 : Bool} (h : IsS132 w0 W g f0 f1 f2) (x : Bool) : IsS132 w0 (W.setCell ⟨g, 2, none⟩ (.bool x)) g f0 f1 x := by
  obtain ⟨A0, c0, hb, hg, hr0⟩ := h
  exact ⟨A0, c0, by simpa using blk_set hb 2 (.bool x), hg, hr0⟩
def sluiceref2_reader_cut.l0 : Nat → Int → List Int → Int → Bool → Option (Bool × Int × Bool)
  | 0, _, _, _, _ => none
  | k + 1, x3, x1000, x1001, x1002 => if x3 < 10 then (if (wrap64 (x1001 + x3)) ≥ (x1000.length : Int) then (some (true, x1001, x1002)) else (if 0 ≤ (wrap64 (x1001 + x3)) then (if (wrap64 (x1001 + x3)) < (x1000.length : Int) then (if (rd x1000 (wrap64 (x1001 + x3))) < 128 then (some (false, x1001, x1002)) else (sluiceref2_reader_cut.l0 k (wrap64 (x3 + 1)) x1000 x1001 x1002)) else (none)) else (none))) else (some (false, x1001, x1002))
def sluiceref2_reader_cut.f (k : Nat) (s0_0 : List Int) (s0_1 : Int) (s0_2 : Bool) : Option (Bool × Int × Bool) := sluiceref2_reader_cut.l0 k 0 s0_0 s0_1 s0_2
set_option maxHeartbeats 8000000 in
set_option maxRecDepth 100000 in
theorem sluiceref2_reader_cut.calls (k : Nat) (g : Nat) (s0_0 : List Int) (s0_1 : Int) (s0_2 : Bool) (r1 : Bool) (r2 : Int) (r3 : Bool) (w0 w : World) (hI : IsS132 w0 w g s0_0 s0_1 s0_2) (hB : Below w0.heap.size w0 w) (h : sluiceref2_reader_cut.f k s0_0 s0_1 s0_2 = some (r1, r2, r3)) :
    Calls Try.prog 119 #[.pointer (some ⟨g, 0, none⟩)] w fun e w' => e = .returned (.bool r1) ∧ IsS132 w0 w' g s0_0 r2 r3 ∧ Below w0.heap.size w0 w' ∧ KeepBut w w' g none := by
  have HI0 := Aside0.mk hI
  have HK := Aside0.mk (KeepBut.refl w g none)
  have HL := Aside0.mk hB.size
  clear hI
  have HW0 := Aside0.mk hB.size
  have HB := Aside0.mk hB
  clear hB
  have H : (sluiceref2_reader_cut.l0 k 0 s0_0 s0_1 s0_2) = some (r1, r2, r3) := h
  clear h
  have H' := Aside0.mk H
  clear H
  go_enter Try.func119, Try.ntmps119
  go_wp2
  repeat (go_quiet (fail); try go_wp2)
  go_loopg [3] k (fun kq v3 w' => ∃ (x3_1 : Int), v3 = .int .i64 x3_1 ∧ Aside0 (sluiceref2_reader_cut.l0 kq x3_1 s0_0 s0_1 s0_2 = some (r1, r2, r3)) ∧ Aside0 (kq ≤ k) ∧ Aside0 (IsS132 w0 w' g s0_0 s0_1 s0_2) ∧ Aside0 (KeepBut w w' g none) ∧ Aside0 (Below w0.heap.size w0 w'))
  case atStart => exact ⟨(0), (by first | rfl | (simp; done) | (simp [*]; done)), H', ⟨Nat.le_refl _⟩, ⟨by repeat (first | (with_reducible first | exact HI0.out | apply IsS132.alloc | apply IsS132.drewN | apply IsS132.drew | apply IsS132.set_1 | apply IsS132.set_2) | exact HI0.out)⟩, ⟨by repeat (first | (with_reducible first | exact HK.out | apply KeepBut.set_ | apply keep_drewN | apply keep_drew | apply keep_alloc) | exact HK.out)⟩, ⟨by repeat (first | (with_reducible first | exact HB.out | apply below_alloc | apply pw_below_drewN | apply below_drew1 | refine below_set ?_ (IsS132.ge HI0.out)) | exact HB.out)⟩⟩
  case round =>
    clear H'
    try clear c1
    obtain ⟨x3_1, rfl, HA, HK1, HI0, HK, HB⟩ := hrel
    cases gk with
    | zero => exact absurd HA.out (by simp [sluiceref2_reader_cut.l0])
    | succ k1 =>
      have H := HA.out
      clear HA
      simp only [sluiceref2_reader_cut.l0] at H
      by_cases c2 : x3_1 < 10
      · rw [if_pos c2] at H
        have c2b0 : decide (x3_1 < 10) = true := decide_eq_true c2
        clear c2
        by_cases c3 : (wrap64 (s0_1 + x3_1)) ≥ (s0_0.length : Int)
        · rw [if_pos c3] at H
          have c3b0 : decide ((s0_0.length : Int) ≤ (wrap64 (s0_1 + x3_1))) = true := decide_eq_true c3
          clear c3
          simp only [Option.some.injEq, Prod.mk.injEq] at H
          obtain ⟨rfl, rfl, rfl⟩ := H
          obtain ⟨ASz4_0, cSz4_0, HGz4, hgz4, HSz4_0⟩ := HI0.out
          have hcz4_0 := cellS132_0 HGz4
          have hcz4_1 := cellS132_1 HGz4
          have hcz4_2 := cellS132_2 HGz4
          have hfz4_1 := blk_frozen HGz4 1
          have hfz4_2 := blk_frozen HGz4 2
          clear HGz4 hgz4
          go_wp2
          repeat (go_quiet (fail); try go_wp2)
          go_ret
          exact ⟨by first | rfl | (simp [errW_none, errW_some] <;> rfl) | (simp [*, errW_none, errW_some] <;> rfl), by repeat (first | (with_reducible first | exact HI0.out | apply IsS132.alloc | apply IsS132.drewN | apply IsS132.drew | apply IsS132.set_1 | apply IsS132.set_2) | exact HI0.out), by repeat (first | (with_reducible first | exact HB.out | apply below_alloc | apply pw_below_drewN | apply below_drew1 | refine below_set ?_ (IsS132.ge HI0.out)) | exact HB.out), by repeat (first | (with_reducible first | exact HK.out | apply KeepBut.set_ | apply keep_drewN | apply keep_drew | apply keep_alloc) | exact HK.out)⟩
        · rw [if_neg c3] at H
          have c3b0 : decide ((s0_0.length : Int) ≤ (wrap64 (s0_1 + x3_1))) = false := decide_eq_false c3
          clear c3
          obtain ⟨ji5, hji5⟩ : ∃ j_ : Int, (wrap64 (s0_1 + x3_1)) = j_ := ⟨_, rfl⟩
          replace H : (if 0 ≤ (ji5) then (if (ji5) < (s0_0.length : Int) then (if (rd s0_0 (ji5)) < 128 then (some (false, s0_1, s0_2)) else (sluiceref2_reader_cut.l0 k1 (wrap64 (x3_1 + 1)) s0_0 s0_1 s0_2)) else (none)) else (none)) = some (r1, r2, r3) := by first | (rw [hji5] at H; exact H) | (simp only [hji5] at H ⊢; exact H)
          (try rw [hji5] at c3b0)
          have hji5w : (IntKind.i64.wrap (s0_1 + x3_1)) = ji5 := (i64_w _).trans hji5
          by_cases c6 : 0 ≤ (ji5)
          · rw [if_pos c6] at H
            have c6b0 : decide (0 ≤ (ji5)) = true := decide_eq_true c6
            clear c6
            by_cases c7 : (ji5) < (s0_0.length : Int)
            · rw [if_pos c7] at H
              have c7b0 : decide ((ji5) < (s0_0.length : Int)) = true := decide_eq_true c7
              clear c7
              by_cases c8 : (rd s0_0 (ji5)) < 128
              · rw [if_pos c8] at H
                have c8b0 : decide ((rd s0_0 (ji5)) < 128) = true := decide_eq_true c8
                clear c8
                simp only [Option.some.injEq, Prod.mk.injEq] at H
                obtain ⟨rfl, rfl, rfl⟩ := H
                obtain ⟨ASz9_0, cSz9_0, HGz9, hgz9, HSz9_0⟩ := HI0.out
                have hcz9_0 := cellS132_0 HGz9
                have hcz9_1 := cellS132_1 HGz9
                have hcz9_2 := cellS132_2 HGz9
                have hfz9_1 := blk_frozen HGz9 1
                have hfz9_2 := blk_frozen HGz9 2
                clear HGz9 hgz9
                have p252 : 0 ≤ ((ji5) : Int) := of_decide_eq_true (by first | (with_reducible assumption) | assumption)
                have q252 : (ji5) < (s0_0.length : Int) := of_decide_eq_true (by first | (with_reducible assumption) | assumption)
                obtain ⟨ad252, e252, hx252_0⟩ := Kd.at_int HSz9_0 (ji5) p252 q252
                cases e252
                replace hx252_0 := pw_cell_below HB.out hx252_0
                replace p252 := eq_true p252
                replace q252 := eq_true q252
                go_wp2
                repeat (go_quiet (fail); try go_wp2)
                go_ret
                exact ⟨by first | rfl | (simp [errW_none, errW_some] <;> rfl) | (simp only [← hji5]; first | rfl | (simp [errW_none, errW_some] <;> rfl)) | (simp [*, errW_none, errW_some] <;> rfl), by repeat (first | (with_reducible first | exact HI0.out | apply IsS132.alloc | apply IsS132.drewN | apply IsS132.drew | apply IsS132.set_1 | apply IsS132.set_2) | exact HI0.out), by repeat (first | (with_reducible first | exact HB.out | apply below_alloc | apply pw_below_drewN | apply below_drew1 | refine below_set ?_ (IsS132.ge HI0.out)) | exact HB.out), by repeat (first | (with_reducible first | exact HK.out | apply KeepBut.set_ | apply keep_drewN | apply keep_drew | apply keep_alloc) | exact HK.out)⟩
              · rw [if_neg c8] at H
                have c8b0 : decide ((rd s0_0 (ji5)) < 128) = false := decide_eq_false c8
                clear c8
                have H' := Aside0.mk H
                clear H
                obtain ⟨ASz10_0, cSz10_0, HGz10, hgz10, HSz10_0⟩ := HI0.out
                have hcz10_0 := cellS132_0 HGz10
                have hcz10_1 := cellS132_1 HGz10
                have hcz10_2 := cellS132_2 HGz10
                have hfz10_1 := blk_frozen HGz10 1
                have hfz10_2 := blk_frozen HGz10 2
                clear HGz10 hgz10
                have p252 : 0 ≤ ((ji5) : Int) := of_decide_eq_true (by first | (with_reducible assumption) | assumption)
                have q252 : (ji5) < (s0_0.length : Int) := of_decide_eq_true (by first | (with_reducible assumption) | assumption)
                obtain ⟨ad252, e252, hx252_0⟩ := Kd.at_int HSz10_0 (ji5) p252 q252
                cases e252
                replace hx252_0 := pw_cell_below HB.out hx252_0
                replace p252 := eq_true p252
                replace q252 := eq_true q252
                go_wp2
                repeat (go_quiet (fail); try go_wp2)
                go_roundg k1
                case measure => have := HK1.out; omega
                case rel => exact ⟨(wrap64 (x3_1 + 1)), (by first | rfl | (simp; done) | (simp [*]; done)), H', ⟨by have := HK1.out; omega⟩, ⟨by repeat (first | (with_reducible first | exact HI0.out | apply IsS132.alloc | apply IsS132.drewN | apply IsS132.drew | apply IsS132.set_1 | apply IsS132.set_2) | exact HI0.out)⟩, ⟨by repeat (first | (with_reducible first | exact HK.out | apply KeepBut.set_ | apply keep_drewN | apply keep_drew | apply keep_alloc) | exact HK.out)⟩, ⟨by repeat (first | (with_reducible first | exact HB.out | apply below_alloc | apply pw_below_drewN | apply below_drew1 | refine below_set ?_ (IsS132.ge HI0.out)) | exact HB.out)⟩⟩
            · rw [if_neg c7] at H
              exact absurd H (by simp)
          · rw [if_neg c6] at H
            exact absurd H (by simp)
      · rw [if_neg c2] at H
        have c2b0 : decide (x3_1 < 10) = false := decide_eq_false c2
        clear c2
        simp only [Option.some.injEq, Prod.mk.injEq] at H
        obtain ⟨rfl, rfl, rfl⟩ := H
        go_wp2
        repeat (go_quiet (fail); try go_wp2)
        go_ret
        exact ⟨by first | rfl | (simp [errW_none, errW_some] <;> rfl) | (simp [*, errW_none, errW_some] <;> rfl), by repeat (first | (with_reducible first | exact HI0.out | apply IsS132.alloc | apply IsS132.drewN | apply IsS132.drew | apply IsS132.set_1 | apply IsS132.set_2) | exact HI0.out), by repeat (first | (with_reducible first | exact HB.out | apply below_alloc | apply pw_below_drewN | apply below_drew1 | refine below_set ?_ (IsS132.ge HI0.out)) | exact HB.out), by repeat (first | (with_reducible first | exact HK.out | apply KeepBut.set_ | apply keep_drewN | apply keep_drew | apply keep_alloc) | exact HK.out)⟩

def sluiceref2_reader_short.f (s0_0 : List Int) (s0_1 : Int) (s0_2 : Bool) : Option (Int × Bool) := some ((s0_0.length : Int), true)
set_option maxHeartbeats 8000000 in
set_option maxRecDepth 100000 in
theorem sluiceref2_reader_short.calls (g : Nat) (s0_0 : List Int) (s0_1 : Int) (s0_2 : Bool) (r1 : Int) (r2 : Bool) (w0 w : World) (hI : IsS132 w0 w g s0_0 s0_1 s0_2) (hB : Below w0.heap.size w0 w) (h : sluiceref2_reader_short.f s0_0 s0_1 s0_2 = some (r1, r2)) :
    Calls Try.prog 120 #[.pointer (some ⟨g, 0, none⟩)] w fun e w' => e = .returned (.tuple #[]) ∧ IsS132 w0 w' g s0_0 r1 r2 ∧ Below w0.heap.size w0 w' ∧ KeepBut w w' g none := by
  have HI0 := Aside0.mk hI
  have HK := Aside0.mk (KeepBut.refl w g none)
  have HL := Aside0.mk hB.size
  clear hI
  have HW0 := Aside0.mk hB.size
  have HB := Aside0.mk hB
  clear hB
  have H : (some ((s0_0.length : Int), true)) = some (r1, r2) := h
  clear h
  simp only [Option.some.injEq, Prod.mk.injEq] at H
  obtain ⟨rfl, rfl⟩ := H
  obtain ⟨ASz2_0, cSz2_0, HGz2, hgz2, HSz2_0⟩ := HI0.out
  have hcz2_0 := cellS132_0 HGz2
  have hcz2_1 := cellS132_1 HGz2
  have hcz2_2 := cellS132_2 HGz2
  have hfz2_1 := blk_frozen HGz2 1
  have hfz2_2 := blk_frozen HGz2 2
  clear HGz2 hgz2
  go_enter Try.func120, Try.ntmps120
  go_wp2
  first | go_end0 | ((try simp only [Exit.inBlock, Exit.then]); refine bodyPost_ret (results_none rfl _ _ _) rfl ?_)
  exact ⟨by first | rfl | (simp [errW_none, errW_some] <;> rfl) | (simp [*, errW_none, errW_some] <;> rfl), by repeat (first | (with_reducible first | exact HI0.out | apply IsS132.alloc | apply IsS132.drewN | apply IsS132.drew | apply IsS132.set_1 | apply IsS132.set_2) | exact HI0.out), by repeat (first | (with_reducible first | exact HB.out | apply below_alloc | apply pw_below_drewN | apply below_drew1 | refine below_set ?_ (IsS132.ge HI0.out)) | exact HB.out), by repeat (first | (with_reducible first | exact HK.out | apply KeepBut.set_ | apply keep_drewN | apply keep_drew | apply keep_alloc) | exact HK.out)⟩

def sluiceref2_reader_raw.l0 : Nat → Int → Int → Int → List Int → Int → Bool → Option (Int × Int × Bool × Int × Bool)
  | 0, _, _, _, _, _, _ => none
  | k + 1, x5, x6, x7, x1000, x1001, x1002 => if x7 < 10 then (if (wrap64 (x1001 + x7)) ≥ (x1000.length : Int) then (some (0, 0, false, x1001, x1002)) else (if 0 ≤ (wrap64 (x1001 + x7)) then (if (wrap64 (x1001 + x7)) < (x1000.length : Int) then (if (rd x1000 (wrap64 (x1001 + x7))) < 128 then (if x7 = 0 then (if x7 < 9 then (some (IntKind.u64.wrap (x5 + (IntKind.u64.wrap (x6 * (IntKind.u64.wrap (Int.tmod (rd x1000 (wrap64 (x1001 + x7))) 128))))), wrap64 (x7 + 1), true, x1001, x1002)) else (some (IntKind.u64.wrap (x5 + (IntKind.u64.wrap (x6 * (IntKind.u64.wrap (Int.tmod (rd x1000 (wrap64 (x1001 + x7))) 128))))), wrap64 (x7 + 1), ((rd x1000 (wrap64 (x1001 + x7))) == 1), x1001, x1002))) else (if (rd x1000 (wrap64 (x1001 + x7))) > 0 then (if x7 < 9 then (some (IntKind.u64.wrap (x5 + (IntKind.u64.wrap (x6 * (IntKind.u64.wrap (Int.tmod (rd x1000 (wrap64 (x1001 + x7))) 128))))), wrap64 (x7 + 1), true, x1001, x1002)) else (some (IntKind.u64.wrap (x5 + (IntKind.u64.wrap (x6 * (IntKind.u64.wrap (Int.tmod (rd x1000 (wrap64 (x1001 + x7))) 128))))), wrap64 (x7 + 1), ((rd x1000 (wrap64 (x1001 + x7))) == 1), x1001, x1002))) else (some (IntKind.u64.wrap (x5 + (IntKind.u64.wrap (x6 * (IntKind.u64.wrap (Int.tmod (rd x1000 (wrap64 (x1001 + x7))) 128))))), wrap64 (x7 + 1), false, x1001, x1002)))) else (sluiceref2_reader_raw.l0 k (IntKind.u64.wrap (x5 + (IntKind.u64.wrap (x6 * (IntKind.u64.wrap (Int.tmod (rd x1000 (wrap64 (x1001 + x7))) 128)))))) (IntKind.u64.wrap (x6 * 128)) (wrap64 (x7 + 1)) x1000 x1001 x1002)) else (none)) else (none))) else (some (0, 10, false, x1001, x1002))
def sluiceref2_reader_raw.f (k : Nat) (s0_0 : List Int) (s0_1 : Int) (s0_2 : Bool) : Option (Int × Int × Bool × Int × Bool) := sluiceref2_reader_raw.l0 k 0 1 0 s0_0 s0_1 s0_2
set_option maxHeartbeats 8000000 in
set_option maxRecDepth 100000 in
theorem sluiceref2_reader_raw.calls (k : Nat) (g : Nat) (s0_0 : List Int) (s0_1 : Int) (s0_2 : Bool) (r1 : Int) (r2 : Int) (r3 : Bool) (r4 : Int) (r5 : Bool) (w0 w : World) (hI : IsS132 w0 w g s0_0 s0_1 s0_2) (hB : Below w0.heap.size w0 w) (h : sluiceref2_reader_raw.f k s0_0 s0_1 s0_2 = some (r1, r2, r3, r4, r5)) :
    Calls Try.prog 121 #[.pointer (some ⟨g, 0, none⟩)] w fun e w' => e = .returned (.tuple #[.int .u64 r1, .int .i64 r2, .bool r3]) ∧ IsS132 w0 w' g s0_0 r4 r5 ∧ Below w0.heap.size w0 w' ∧ KeepBut w w' g none := by
  have HI0 := Aside0.mk hI
  have HK := Aside0.mk (KeepBut.refl w g none)
  have HL := Aside0.mk hB.size
  clear hI
  have HW0 := Aside0.mk hB.size
  have HB := Aside0.mk hB
  clear hB
  have H : (sluiceref2_reader_raw.l0 k 0 1 0 s0_0 s0_1 s0_2) = some (r1, r2, r3, r4, r5) := h
  clear h
  have H' := Aside0.mk H
  clear H
  go_enter Try.func121, Try.ntmps121
  go_wp2
  repeat (go_quiet (fail); try go_wp2)
  go_loopg [5, 6, 7] k (fun kq v5 v6 v7 w' => ∃ (x5_1 : Int) (x6_1 : Int) (x7_1 : Int), v5 = .int .u64 x5_1 ∧ v6 = .int .u64 x6_1 ∧ v7 = .int .i64 x7_1 ∧ Aside0 (sluiceref2_reader_raw.l0 kq x5_1 x6_1 x7_1 s0_0 s0_1 s0_2 = some (r1, r2, r3, r4, r5)) ∧ Aside0 (kq ≤ k) ∧ Aside0 (IsS132 w0 w' g s0_0 s0_1 s0_2) ∧ Aside0 (KeepBut w w' g none) ∧ Aside0 (Below w0.heap.size w0 w'))
  case atStart => exact ⟨(0), (1), (0), (by first | rfl | (simp; done) | (simp [*]; done)), (by first | rfl | (simp; done) | (simp [*]; done)), (by first | rfl | (simp; done) | (simp [*]; done)), H', ⟨Nat.le_refl _⟩, ⟨by repeat (first | (with_reducible first | exact HI0.out | apply IsS132.alloc | apply IsS132.drewN | apply IsS132.drew | apply IsS132.set_1 | apply IsS132.set_2) | exact HI0.out)⟩, ⟨by repeat (first | (with_reducible first | exact HK.out | apply KeepBut.set_ | apply keep_drewN | apply keep_drew | apply keep_alloc) | exact HK.out)⟩, ⟨by repeat (first | (with_reducible first | exact HB.out | apply below_alloc | apply pw_below_drewN | apply below_drew1 | refine below_set ?_ (IsS132.ge HI0.out)) | exact HB.out)⟩⟩
  case round =>
    clear H'
    try clear c1
    obtain ⟨x5_1, x6_1, x7_1, rfl, rfl, rfl, HA, HK1, HI0, HK, HB⟩ := hrel
    cases gk with
    | zero => exact absurd HA.out (by simp [sluiceref2_reader_raw.l0])
    | succ k1 =>
      have H := HA.out
      clear HA
      simp only [sluiceref2_reader_raw.l0] at H
      by_cases c2 : x7_1 < 10
      · rw [if_pos c2] at H
        have c2b0 : decide (x7_1 < 10) = true := decide_eq_true c2
        clear c2
        by_cases c3 : (wrap64 (s0_1 + x7_1)) ≥ (s0_0.length : Int)
        · rw [if_pos c3] at H
          have c3b0 : decide ((s0_0.length : Int) ≤ (wrap64 (s0_1 + x7_1))) = true := decide_eq_true c3
          clear c3
          simp only [Option.some.injEq, Prod.mk.injEq] at H
          obtain ⟨rfl, rfl, rfl, rfl, rfl⟩ := H
          obtain ⟨ASz4_0, cSz4_0, HGz4, hgz4, HSz4_0⟩ := HI0.out
          have hcz4_0 := cellS132_0 HGz4
          have hcz4_1 := cellS132_1 HGz4
          have hcz4_2 := cellS132_2 HGz4
          have hfz4_1 := blk_frozen HGz4 1
          have hfz4_2 := blk_frozen HGz4 2
          clear HGz4 hgz4
          go_wp2
          repeat (go_quiet (fail); try go_wp2)
          go_ret3
          exact ⟨by first | rfl | (simp [errW_none, errW_some] <;> rfl) | (simp [*, errW_none, errW_some] <;> rfl), by repeat (first | (with_reducible first | exact HI0.out | apply IsS132.alloc | apply IsS132.drewN | apply IsS132.drew | apply IsS132.set_1 | apply IsS132.set_2) | exact HI0.out), by repeat (first | (with_reducible first | exact HB.out | apply below_alloc | apply pw_below_drewN | apply below_drew1 | refine below_set ?_ (IsS132.ge HI0.out)) | exact HB.out), by repeat (first | (with_reducible first | exact HK.out | apply KeepBut.set_ | apply keep_drewN | apply keep_drew | apply keep_alloc) | exact HK.out)⟩
        · rw [if_neg c3] at H
          have c3b0 : decide ((s0_0.length : Int) ≤ (wrap64 (s0_1 + x7_1))) = false := decide_eq_false c3
          clear c3
          obtain ⟨ji5, hji5⟩ : ∃ j_ : Int, (wrap64 (s0_1 + x7_1)) = j_ := ⟨_, rfl⟩
          replace H : (if 0 ≤ (ji5) then (if (ji5) < (s0_0.length : Int) then (if (rd s0_0 (ji5)) < 128 then (if x7_1 = 0 then (if x7_1 < 9 then (some (IntKind.u64.wrap (x5_1 + (IntKind.u64.wrap (x6_1 * (IntKind.u64.wrap (Int.tmod (rd s0_0 (ji5)) 128))))), wrap64 (x7_1 + 1), true, s0_1, s0_2)) else (some (IntKind.u64.wrap (x5_1 + (IntKind.u64.wrap (x6_1 * (IntKind.u64.wrap (Int.tmod (rd s0_0 (ji5)) 128))))), wrap64 (x7_1 + 1), ((rd s0_0 (ji5)) == 1), s0_1, s0_2))) else (if (rd s0_0 (ji5)) > 0 then (if x7_1 < 9 then (some (IntKind.u64.wrap (x5_1 + (IntKind.u64.wrap (x6_1 * (IntKind.u64.wrap (Int.tmod (rd s0_0 (ji5)) 128))))), wrap64 (x7_1 + 1), true, s0_1, s0_2)) else (some (IntKind.u64.wrap (x5_1 + (IntKind.u64.wrap (x6_1 * (IntKind.u64.wrap (Int.tmod (rd s0_0 (ji5)) 128))))), wrap64 (x7_1 + 1), ((rd s0_0 (ji5)) == 1), s0_1, s0_2))) else (some (IntKind.u64.wrap (x5_1 + (IntKind.u64.wrap (x6_1 * (IntKind.u64.wrap (Int.tmod (rd s0_0 (ji5)) 128))))), wrap64 (x7_1 + 1), false, s0_1, s0_2)))) else (sluiceref2_reader_raw.l0 k1 (IntKind.u64.wrap (x5_1 + (IntKind.u64.wrap (x6_1 * (IntKind.u64.wrap (Int.tmod (rd s0_0 (ji5)) 128)))))) (IntKind.u64.wrap (x6_1 * 128)) (wrap64 (x7_1 + 1)) s0_0 s0_1 s0_2)) else (none)) else (none)) = some (r1, r2, r3, r4, r5) := by first | (rw [hji5] at H; exact H) | (simp only [hji5] at H ⊢; exact H)
          (try rw [hji5] at c3b0)
          have hji5w : (IntKind.i64.wrap (s0_1 + x7_1)) = ji5 := (i64_w _).trans hji5
          by_cases c6 : 0 ≤ (ji5)
          · rw [if_pos c6] at H
            have c6b0 : decide (0 ≤ (ji5)) = true := decide_eq_true c6
            clear c6
            by_cases c7 : (ji5) < (s0_0.length : Int)
            · rw [if_pos c7] at H
              have c7b0 : decide ((ji5) < (s0_0.length : Int)) = true := decide_eq_true c7
              clear c7
              by_cases c8 : (rd s0_0 (ji5)) < 128
              · rw [if_pos c8] at H
                have c8b0 : decide ((rd s0_0 (ji5)) < 128) = true := decide_eq_true c8
                clear c8
                by_cases c9 : x7_1 = 0
                · rw [if_pos c9] at H
                  have c9b0 : (x7_1 == 0) = true := beq_iff_eq.mpr c9
                  have c9b1 : (x7_1 != 0) = false := bne_eq_false_iff_eq.mpr c9
                  clear c9
                  by_cases c10 : x7_1 < 9
                  · rw [if_pos c10] at H
                    have c10b0 : decide (x7_1 < 9) = true := decide_eq_true c10
                    clear c10
                    simp only [Option.some.injEq, Prod.mk.injEq] at H
                    obtain ⟨rfl, rfl, rfl, rfl, rfl⟩ := H
                    obtain ⟨ASz11_0, cSz11_0, HGz11, hgz11, HSz11_0⟩ := HI0.out
                    have hcz11_0 := cellS132_0 HGz11
                    have hcz11_1 := cellS132_1 HGz11
                    have hcz11_2 := cellS132_2 HGz11
                    have hfz11_1 := blk_frozen HGz11 1
                    have hfz11_2 := blk_frozen HGz11 2
                    clear HGz11 hgz11
                    have p253 : 0 ≤ ((ji5) : Int) := of_decide_eq_true (by first | (with_reducible assumption) | assumption)
                    have q253 : (ji5) < (s0_0.length : Int) := of_decide_eq_true (by first | (with_reducible assumption) | assumption)
                    obtain ⟨ad253, e253, hx253_0⟩ := Kd.at_int HSz11_0 (ji5) p253 q253
                    cases e253
                    replace hx253_0 := pw_cell_below HB.out hx253_0
                    replace p253 := eq_true p253
                    replace q253 := eq_true q253
                    go_wp2
                    repeat (go_quiet (fail); try go_wp2)
                    go_ret3
                    exact ⟨by first | rfl | (simp [errW_none, errW_some] <;> rfl) | (simp only [← hji5]; first | rfl | (simp [errW_none, errW_some] <;> rfl)) | (simp [*, errW_none, errW_some] <;> rfl), by repeat (first | (with_reducible first | exact HI0.out | apply IsS132.alloc | apply IsS132.drewN | apply IsS132.drew | apply IsS132.set_1 | apply IsS132.set_2) | exact HI0.out), by repeat (first | (with_reducible first | exact HB.out | apply below_alloc | apply pw_below_drewN | apply below_drew1 | refine below_set ?_ (IsS132.ge HI0.out)) | exact HB.out), by repeat (first | (with_reducible first | exact HK.out | apply KeepBut.set_ | apply keep_drewN | apply keep_drew | apply keep_alloc) | exact HK.out)⟩
                  · rw [if_neg c10] at H
                    have c10b0 : decide (x7_1 < 9) = false := decide_eq_false c10
                    clear c10
                    simp only [Option.some.injEq, Prod.mk.injEq] at H
                    obtain ⟨rfl, rfl, rfl, rfl, rfl⟩ := H
                    obtain ⟨ASz12_0, cSz12_0, HGz12, hgz12, HSz12_0⟩ := HI0.out
                    have hcz12_0 := cellS132_0 HGz12
                    have hcz12_1 := cellS132_1 HGz12
                    have hcz12_2 := cellS132_2 HGz12
                    have hfz12_1 := blk_frozen HGz12 1
                    have hfz12_2 := blk_frozen HGz12 2
                    clear HGz12 hgz12
                    have p253 : 0 ≤ ((ji5) : Int) := of_decide_eq_true (by first | (with_reducible assumption) | assumption)
                    have q253 : (ji5) < (s0_0.length : Int) := of_decide_eq_true (by first | (with_reducible assumption) | assumption)
                    obtain ⟨ad253, e253, hx253_0⟩ := Kd.at_int HSz12_0 (ji5) p253 q253
                    cases e253
                    replace hx253_0 := pw_cell_below HB.out hx253_0
                    replace p253 := eq_true p253
                    replace q253 := eq_true q253
                    go_wp2
                    repeat (go_quiet (fail); try go_wp2)
                    go_ret3
                    exact ⟨by first | rfl | (simp [errW_none, errW_some] <;> rfl) | (simp only [← hji5]; first | rfl | (simp [errW_none, errW_some] <;> rfl)) | (simp [*, errW_none, errW_some] <;> rfl), by repeat (first | (with_reducible first | exact HI0.out | apply IsS132.alloc | apply IsS132.drewN | apply IsS132.drew | apply IsS132.set_1 | apply IsS132.set_2) | exact HI0.out), by repeat (first | (with_reducible first | exact HB.out | apply below_alloc | apply pw_below_drewN | apply below_drew1 | refine below_set ?_ (IsS132.ge HI0.out)) | exact HB.out), by repeat (first | (with_reducible first | exact HK.out | apply KeepBut.set_ | apply keep_drewN | apply keep_drew | apply keep_alloc) | exact HK.out)⟩
                · rw [if_neg c9] at H
                  have c9b0 : (x7_1 == 0) = false := beq_eq_false_iff_ne.mpr c9
                  have c9b1 : (x7_1 != 0) = true := bne_iff_ne.mpr c9
                  by_cases c13 : (rd s0_0 (ji5)) > 0
                  · rw [if_pos c13] at H
                    have c13b0 : decide (0 < (rd s0_0 (ji5))) = true := decide_eq_true c13
                    clear c13
                    by_cases c14 : x7_1 < 9
                    · rw [if_pos c14] at H
                      have c14b0 : decide (x7_1 < 9) = true := decide_eq_true c14
                      clear c14
                      simp only [Option.some.injEq, Prod.mk.injEq] at H
                      obtain ⟨rfl, rfl, rfl, rfl, rfl⟩ := H
                      obtain ⟨ASz15_0, cSz15_0, HGz15, hgz15, HSz15_0⟩ := HI0.out
                      have hcz15_0 := cellS132_0 HGz15
                      have hcz15_1 := cellS132_1 HGz15
                      have hcz15_2 := cellS132_2 HGz15
                      have hfz15_1 := blk_frozen HGz15 1
                      have hfz15_2 := blk_frozen HGz15 2
                      clear HGz15 hgz15
                      have p253 : 0 ≤ ((ji5) : Int) := of_decide_eq_true (by first | (with_reducible assumption) | assumption)
                      have q253 : (ji5) < (s0_0.length : Int) := of_decide_eq_true (by first | (with_reducible assumption) | assumption)
                      obtain ⟨ad253, e253, hx253_0⟩ := Kd.at_int HSz15_0 (ji5) p253 q253
                      cases e253
                      replace hx253_0 := pw_cell_below HB.out hx253_0
                      replace p253 := eq_true p253
                      replace q253 := eq_true q253
                      go_wp2
                      repeat (go_quiet (fail); try go_wp2)
                      go_ret3
                      exact ⟨by first | rfl | (simp [errW_none, errW_some] <;> rfl) | (simp only [← hji5]; first | rfl | (simp [errW_none, errW_some] <;> rfl)) | (simp [*, errW_none, errW_some] <;> rfl), by repeat (first | (with_reducible first | exact HI0.out | apply IsS132.alloc | apply IsS132.drewN | apply IsS132.drew | apply IsS132.set_1 | apply IsS132.set_2) | exact HI0.out), by repeat (first | (with_reducible first | exact HB.out | apply below_alloc | apply pw_below_drewN | apply below_drew1 | refine below_set ?_ (IsS132.ge HI0.out)) | exact HB.out), by repeat (first | (with_reducible first | exact HK.out | apply KeepBut.set_ | apply keep_drewN | apply keep_drew | apply keep_alloc) | exact HK.out)⟩
                    · rw [if_neg c14] at H
                      have c14b0 : decide (x7_1 < 9) = false := decide_eq_false c14
                      clear c14
                      simp only [Option.some.injEq, Prod.mk.injEq] at H
                      obtain ⟨rfl, rfl, rfl, rfl, rfl⟩ := H
                      obtain ⟨ASz16_0, cSz16_0, HGz16, hgz16, HSz16_0⟩ := HI0.out
                      have hcz16_0 := cellS132_0 HGz16
                      have hcz16_1 := cellS132_1 HGz16
                      have hcz16_2 := cellS132_2 HGz16
                      have hfz16_1 := blk_frozen HGz16 1
                      have hfz16_2 := blk_frozen HGz16 2
                      clear HGz16 hgz16
                      have p253 : 0 ≤ ((ji5) : Int) := of_decide_eq_true (by first | (with_reducible assumption) | assumption)
                      have q253 : (ji5) < (s0_0.length : Int) := of_decide_eq_true (by first | (with_reducible assumption) | assumption)
                      obtain ⟨ad253, e253, hx253_0⟩ := Kd.at_int HSz16_0 (ji5) p253 q253
                      cases e253
                      replace hx253_0 := pw_cell_below HB.out hx253_0
                      replace p253 := eq_true p253
                      replace q253 := eq_true q253
                      go_wp2
                      repeat (go_quiet (fail); try go_wp2)
                      go_ret3
                      exact ⟨by first | rfl | (simp [errW_none, errW_some] <;> rfl) | (simp only [← hji5]; first | rfl | (simp [errW_none, errW_some] <;> rfl)) | (simp [*, errW_none, errW_some] <;> rfl), by repeat (first | (with_reducible first | exact HI0.out | apply IsS132.alloc | apply IsS132.drewN | apply IsS132.drew | apply IsS132.set_1 | apply IsS132.set_2) | exact HI0.out), by repeat (first | (with_reducible first | exact HB.out | apply below_alloc | apply pw_below_drewN | apply below_drew1 | refine below_set ?_ (IsS132.ge HI0.out)) | exact HB.out), by repeat (first | (with_reducible first | exact HK.out | apply KeepBut.set_ | apply keep_drewN | apply keep_drew | apply keep_alloc) | exact HK.out)⟩
                  · rw [if_neg c13] at H
                    have c13b0 : decide (0 < (rd s0_0 (ji5))) = false := decide_eq_false c13
                    clear c13
                    simp only [Option.some.injEq, Prod.mk.injEq] at H
                    obtain ⟨rfl, rfl, rfl, rfl, rfl⟩ := H
                    obtain ⟨ASz17_0, cSz17_0, HGz17, hgz17, HSz17_0⟩ := HI0.out
                    have hcz17_0 := cellS132_0 HGz17
                    have hcz17_1 := cellS132_1 HGz17
                    have hcz17_2 := cellS132_2 HGz17
                    have hfz17_1 := blk_frozen HGz17 1
                    have hfz17_2 := blk_frozen HGz17 2
                    clear HGz17 hgz17
                    have p253 : 0 ≤ ((ji5) : Int) := of_decide_eq_true (by first | (with_reducible assumption) | assumption)
                    have q253 : (ji5) < (s0_0.length : Int) := of_decide_eq_true (by first | (with_reducible assumption) | assumption)
                    obtain ⟨ad253, e253, hx253_0⟩ := Kd.at_int HSz17_0 (ji5) p253 q253
                    cases e253
                    replace hx253_0 := pw_cell_below HB.out hx253_0
                    replace p253 := eq_true p253
                    replace q253 := eq_true q253
                    go_wp2
                    repeat (go_quiet (fail); try go_wp2)
                    go_ret3
                    exact ⟨by first | rfl | (simp [errW_none, errW_some] <;> rfl) | (simp only [← hji5]; first | rfl | (simp [errW_none, errW_some] <;> rfl)) | (simp [*, errW_none, errW_some] <;> rfl), by repeat (first | (with_reducible first | exact HI0.out | apply IsS132.alloc | apply IsS132.drewN | apply IsS132.drew | apply IsS132.set_1 | apply IsS132.set_2) | exact HI0.out), by repeat (first | (with_reducible first | exact HB.out | apply below_alloc | apply pw_below_drewN | apply below_drew1 | refine below_set ?_ (IsS132.ge HI0.out)) | exact HB.out), by repeat (first | (with_reducible first | exact HK.out | apply KeepBut.set_ | apply keep_drewN | apply keep_drew | apply keep_alloc) | exact HK.out)⟩
              · rw [if_neg c8] at H
                have c8b0 : decide ((rd s0_0 (ji5)) < 128) = false := decide_eq_false c8
                clear c8
                have H' := Aside0.mk H
                clear H
                obtain ⟨ASz18_0, cSz18_0, HGz18, hgz18, HSz18_0⟩ := HI0.out
                have hcz18_0 := cellS132_0 HGz18
                have hcz18_1 := cellS132_1 HGz18
                have hcz18_2 := cellS132_2 HGz18
                have hfz18_1 := blk_frozen HGz18 1
                have hfz18_2 := blk_frozen HGz18 2
                clear HGz18 hgz18
                have p253 : 0 ≤ ((ji5) : Int) := of_decide_eq_true (by first | (with_reducible assumption) | assumption)
                have q253 : (ji5) < (s0_0.length : Int) := of_decide_eq_true (by first | (with_reducible assumption) | assumption)
                obtain ⟨ad253, e253, hx253_0⟩ := Kd.at_int HSz18_0 (ji5) p253 q253
                cases e253
                replace hx253_0 := pw_cell_below HB.out hx253_0
                replace p253 := eq_true p253
                replace q253 := eq_true q253
                go_wp2
                repeat (go_quiet (fail); try go_wp2)
                go_roundg k1
                case measure => have := HK1.out; omega
                case rel => exact ⟨(IntKind.u64.wrap (x5_1 + (IntKind.u64.wrap (x6_1 * (IntKind.u64.wrap (Int.tmod (rd s0_0 (ji5)) 128)))))), (IntKind.u64.wrap (x6_1 * 128)), (wrap64 (x7_1 + 1)), (by first | rfl | (simp; done) | (simp only [← hji5] <;> (first | rfl | simp)) | (simp [*]; done)), (by first | rfl | (simp; done) | (simp [*]; done)), (by first | rfl | (simp; done) | (simp [*]; done)), H', ⟨by have := HK1.out; omega⟩, ⟨by repeat (first | (with_reducible first | exact HI0.out | apply IsS132.alloc | apply IsS132.drewN | apply IsS132.drew | apply IsS132.set_1 | apply IsS132.set_2) | exact HI0.out)⟩, ⟨by repeat (first | (with_reducible first | exact HK.out | apply KeepBut.set_ | apply keep_drewN | apply keep_drew | apply keep_alloc) | exact HK.out)⟩, ⟨by repeat (first | (with_reducible first | exact HB.out | apply below_alloc | apply pw_below_drewN | apply below_drew1 | refine below_set ?_ (IsS132.ge HI0.out)) | exact HB.out)⟩⟩
            · rw [if_neg c7] at H
              exact absurd H (by simp)
          · rw [if_neg c6] at H
            exact absurd H (by simp)
      · rw [if_neg c2] at H
        have c2b0 : decide (x7_1 < 10) = false := decide_eq_false c2
        clear c2
        simp only [Option.some.injEq, Prod.mk.injEq] at H
        obtain ⟨rfl, rfl, rfl, rfl, rfl⟩ := H
        go_wp2
        repeat (go_quiet (fail); try go_wp2)
        go_ret3
        exact ⟨by first | rfl | (simp [errW_none, errW_some] <;> rfl) | (simp [*, errW_none, errW_some] <;> rfl), by repeat (first | (with_reducible first | exact HI0.out | apply IsS132.alloc | apply IsS132.drewN | apply IsS132.drew | apply IsS132.set_1 | apply IsS132.set_2) | exact HI0.out), by repeat (first | (with_reducible first | exact HB.out | apply below_alloc | apply pw_below_drewN | apply below_drew1 | refine below_set ?_ (IsS132.ge HI0.out)) | exact HB.out), by repeat (first | (with_reducible first | exact HK.out | apply KeepBut.set_ | apply keep_drewN | apply keep_drew | apply keep_alloc) | exact HK.out)⟩

def sluiceref2_reader_num.f (k : Nat) (s0_0 : List Int) (s0_1 : Int) (s0_2 : Bool) (a1 : Int) (a2 : Int) : Option (Int × Int × Bool) := if s0_2 = true then (some (0, s0_1, s0_2)) else ((sluiceref2_reader_cut.f k s0_0 s0_1 s0_2).bind fun bt254 => (if bt254.1 = true then ((sluiceref2_reader_short.f s0_0 bt254.2.1 bt254.2.2).bind fun bt257 => (some (0, bt257.1, bt257.2))) else ((sluiceref2_reader_raw.f k s0_0 bt254.2.1 bt254.2.2).bind fun bt259 => (if bt259.2.2.1 = true then (if bt259.1 > (IntKind.u64.wrap (a2)) then (some (0, bt259.2.2.2.1, true)) else (if bt259.1 < (IntKind.u64.wrap (a1)) then (some (0, bt259.2.2.2.1, true)) else (some (wrap64 (bt259.1), wrap64 (bt259.2.2.2.1 + bt259.2.1), bt259.2.2.2.2)))) else (some (0, bt259.2.2.2.1, true))))))
set_option maxHeartbeats 8000000 in
set_option maxRecDepth 100000 in
theorem sluiceref2_reader_num.calls (k : Nat) (g : Nat) (s0_0 : List Int) (s0_1 : Int) (s0_2 : Bool) (a1 : Int) (a2 : Int) (r1 : Int) (r2 : Int) (r3 : Bool) (w0 w : World) (hI : IsS132 w0 w g s0_0 s0_1 s0_2) (hB : Below w0.heap.size w0 w) (h : sluiceref2_reader_num.f k s0_0 s0_1 s0_2 a1 a2 = some (r1, r2, r3)) :
    Calls Try.prog 102 #[.pointer (some ⟨g, 0, none⟩), .int .i64 a1, .int .i64 a2] w fun e w' => e = .returned (.int .i64 r1) ∧ IsS132 w0 w' g s0_0 r2 r3 ∧ Below w0.heap.size w0 w' ∧ KeepBut w w' g none := by
  have HI0 := Aside0.mk hI
  have HK := Aside0.mk (KeepBut.refl w g none)
  have HL := Aside0.mk hB.size
  clear hI
  have HW0 := Aside0.mk hB.size
  have HB := Aside0.mk hB
  clear hB
  have H : (if s0_2 = true then (some (0, s0_1, s0_2)) else ((sluiceref2_reader_cut.f k s0_0 s0_1 s0_2).bind fun bt254 => (if bt254.1 = true then ((sluiceref2_reader_short.f s0_0 bt254.2.1 bt254.2.2).bind fun bt257 => (some (0, bt257.1, bt257.2))) else ((sluiceref2_reader_raw.f k s0_0 bt254.2.1 bt254.2.2).bind fun bt259 => (if bt259.2.2.1 = true then (if bt259.1 > (IntKind.u64.wrap (a2)) then (some (0, bt259.2.2.2.1, true)) else (if bt259.1 < (IntKind.u64.wrap (a1)) then (some (0, bt259.2.2.2.1, true)) else (some (wrap64 (bt259.1), wrap64 (bt259.2.2.2.1 + bt259.2.1), bt259.2.2.2.2)))) else (some (0, bt259.2.2.2.1, true))))))) = some (r1, r2, r3) := h
  clear h
  by_cases c4 : s0_2 = true
  · subst c4
    have H1 : (some (0, s0_1, true)) = some (r1, r2, r3) := by rw [if_pos rfl] at H; exact H
    clear H
    have H := H1
    clear H1
    simp only [Option.some.injEq, Prod.mk.injEq] at H
    obtain ⟨rfl, rfl, rfl⟩ := H
    obtain ⟨ASz5_0, cSz5_0, HGz5, hgz5, HSz5_0⟩ := HI0.out
    have hcz5_0 := cellS132_0 HGz5
    have hcz5_1 := cellS132_1 HGz5
    have hcz5_2 := cellS132_2 HGz5
    have hfz5_1 := blk_frozen HGz5 1
    have hfz5_2 := blk_frozen HGz5 2
    clear HGz5 hgz5
    go_enter Try.func102, Try.ntmps102
    go_wp2
    go_ret
    exact ⟨by first | rfl | (simp [errW_none, errW_some] <;> rfl) | (simp [*, errW_none, errW_some] <;> rfl), by repeat (first | (with_reducible first | exact HI0.out | apply IsS132.alloc | apply IsS132.drewN | apply IsS132.drew | apply IsS132.set_1 | apply IsS132.set_2) | exact HI0.out), by repeat (first | (with_reducible first | exact HB.out | apply below_alloc | apply pw_below_drewN | apply below_drew1 | refine below_set ?_ (IsS132.ge HI0.out)) | exact HB.out), by repeat (first | (with_reducible first | exact HK.out | apply KeepBut.set_ | apply keep_drewN | apply keep_drew | apply keep_alloc) | exact HK.out)⟩
  · replace c4 := Bool.eq_false_iff.mpr c4
    subst c4
    have H1 : ((sluiceref2_reader_cut.f k s0_0 s0_1 false).bind fun bt254 => (if bt254.1 = true then ((sluiceref2_reader_short.f s0_0 bt254.2.1 bt254.2.2).bind fun bt257 => (some (0, bt257.1, bt257.2))) else ((sluiceref2_reader_raw.f k s0_0 bt254.2.1 bt254.2.2).bind fun bt259 => (if bt259.2.2.1 = true then (if bt259.1 > (IntKind.u64.wrap (a2)) then (some (0, bt259.2.2.2.1, true)) else (if bt259.1 < (IntKind.u64.wrap (a1)) then (some (0, bt259.2.2.2.1, true)) else (some (wrap64 (bt259.1), wrap64 (bt259.2.2.2.1 + bt259.2.1), bt259.2.2.2.2)))) else (some (0, bt259.2.2.2.1, true)))))) = some (r1, r2, r3) := by rw [if_neg (show ¬ (false = true) by decide)] at H; exact H
    clear H
    have H := H1
    clear H1
    replace H := Option.bind_eq_some_iff.mp H
    obtain ⟨⟨t254, t255, t256⟩, A60, H⟩ := H
    replace H : (if t254 = true then ((sluiceref2_reader_short.f s0_0 t255 t256).bind fun bt257 => (some (0, bt257.1, bt257.2))) else ((sluiceref2_reader_raw.f k s0_0 t255 t256).bind fun bt259 => (if bt259.2.2.1 = true then (if bt259.1 > (IntKind.u64.wrap (a2)) then (some (0, bt259.2.2.2.1, true)) else (if bt259.1 < (IntKind.u64.wrap (a1)) then (some (0, bt259.2.2.2.1, true)) else (some (wrap64 (bt259.1), wrap64 (bt259.2.2.2.1 + bt259.2.1), bt259.2.2.2.2)))) else (some (0, bt259.2.2.2.1, true))))) = some (r1, r2, r3) := H
    have A6 := Aside0.mk A60
    clear A60
    by_cases c7 : t254 = true
    · subst c7
      have H1 : ((sluiceref2_reader_short.f s0_0 t255 t256).bind fun bt257 => (some (0, bt257.1, bt257.2))) = some (r1, r2, r3) := by rw [if_pos rfl] at H; exact H
      clear H
      have H := H1
      clear H1
      replace H := Option.bind_eq_some_iff.mp H
      obtain ⟨⟨t257, t258⟩, A80, H⟩ := H
      replace H : (some (0, t257, t258)) = some (r1, r2, r3) := H
      have A8 := Aside0.mk A80
      clear A80
      simp only [Option.some.injEq, Prod.mk.injEq] at H
      obtain ⟨rfl, rfl, rfl⟩ := H
      obtain ⟨ASz9_0, cSz9_0, HGz9, hgz9, HSz9_0⟩ := HI0.out
      have hcz9_0 := cellS132_0 HGz9
      have hcz9_1 := cellS132_1 HGz9
      have hcz9_2 := cellS132_2 HGz9
      have hfz9_1 := blk_frozen HGz9 1
      have hfz9_2 := blk_frozen HGz9 2
      clear HGz9 hgz9
      go_enter Try.func102, Try.ntmps102
      go_wp2_with (first | ((with_reducible refine gate_callee (f := 119) rfl ?_); refine goesL_ (some 15) rfl rfl Try.func119 (by kernel_rfl) rfl #[.pointer (some ⟨g, 0, none⟩)] rfl (by (try simp only [List.map_toArray, List.map_cons, List.map_nil]); first | done | rfl | (simp only [List.length_drop, List.length_take]; rfl)) ?_; (with_reducible refine (sluiceref2_reader_cut.calls k g s0_0 s0_1 false true t255 t256 w0 _ ?side1 ?side2 A6.out).mono ?_); (case side1 => repeat (first | (with_reducible first | exact HI0.out | apply IsS132.alloc | apply IsS132.drewN | apply IsS132.drew | apply IsS132.set_1 | apply IsS132.set_2) | exact HI0.out)); (case side2 => repeat (first | (with_reducible first | exact HB.out | apply below_alloc | apply pw_below_drewN | apply below_drew1 | refine below_set ?_ (IsS132.ge HI0.out)) | exact HB.out)); rintro e w10 ⟨rfl, hi, hb, hk⟩; refine ⟨_, rfl, ?_⟩; have n0_ := Aside0.mk (KeepBut.trans (by repeat (first | (with_reducible first | exact HK.out | apply KeepBut.set_ | apply keep_drewN | apply keep_drew | apply keep_alloc) | exact HK.out)) hk (.inl rfl)); have n1_ := Aside0.mk (hb); have n2_ := Aside0.mk (hi); clear HK; clear HB; clear HI0; have HK := n0_; have HB := n1_; have HI0 := n2_; clear n0_ n1_ n2_; (try clear hb); (try clear hb2); (try clear hk); (try clear hi)) | ((with_reducible refine gate_callee (f := 120) rfl ?_); refine goesL_ (some 17) rfl rfl Try.func120 (by kernel_rfl) rfl #[.pointer (some ⟨g, 0, none⟩)] rfl (by (try simp only [List.map_toArray, List.map_cons, List.map_nil]); first | done | rfl | (simp only [List.length_drop, List.length_take]; rfl)) ?_; (with_reducible refine (sluiceref2_reader_short.calls g s0_0 t255 t256 t257 t258 w0 _ ?side1 ?side2 A8.out).mono ?_); (case side1 => repeat (first | (with_reducible first | exact HI0.out | apply IsS132.alloc | apply IsS132.drewN | apply IsS132.drew | apply IsS132.set_1 | apply IsS132.set_2) | exact HI0.out)); (case side2 => repeat (first | (with_reducible first | exact HB.out | apply below_alloc | apply pw_below_drewN | apply below_drew1 | refine below_set ?_ (IsS132.ge HI0.out)) | exact HB.out)); rintro e w11 ⟨rfl, hi, hb, hk⟩; refine ⟨_, rfl, ?_⟩; have n0_ := Aside0.mk (KeepBut.trans (by repeat (first | (with_reducible first | exact HK.out | apply KeepBut.set_ | apply keep_drewN | apply keep_drew | apply keep_alloc) | exact HK.out)) hk (.inl rfl)); have n1_ := Aside0.mk (hb); have n2_ := Aside0.mk (hi); clear HK; clear HB; clear HI0; have HK := n0_; have HB := n1_; have HI0 := n2_; clear n0_ n1_ n2_; (try clear hb); (try clear hb2); (try clear hk); (try clear hi)))
      go_ret
      exact ⟨by first | rfl | (simp [errW_none, errW_some] <;> rfl) | (simp [*, errW_none, errW_some] <;> rfl), by repeat (first | (with_reducible first | exact HI0.out | apply IsS132.alloc | apply IsS132.drewN | apply IsS132.drew | apply IsS132.set_1 | apply IsS132.set_2) | exact HI0.out), by repeat (first | (with_reducible first | exact HB.out | apply below_alloc | apply pw_below_drewN | apply below_drew1 | refine below_set ?_ (IsS132.ge HI0.out)) | exact HB.out), by repeat (first | (with_reducible first | exact HK.out | apply KeepBut.set_ | apply keep_drewN | apply keep_drew | apply keep_alloc) | exact HK.out)⟩
    · replace c7 := Bool.eq_false_iff.mpr c7
      subst c7
      have H1 : ((sluiceref2_reader_raw.f k s0_0 t255 t256).bind fun bt259 => (if bt259.2.2.1 = true then (if bt259.1 > (IntKind.u64.wrap (a2)) then (some (0, bt259.2.2.2.1, true)) else (if bt259.1 < (IntKind.u64.wrap (a1)) then (some (0, bt259.2.2.2.1, true)) else (some (wrap64 (bt259.1), wrap64 (bt259.2.2.2.1 + bt259.2.1), bt259.2.2.2.2)))) else (some (0, bt259.2.2.2.1, true)))) = some (r1, r2, r3) := by rw [if_neg (show ¬ (false = true) by decide)] at H; exact H
      clear H
      have H := H1
      clear H1
      replace H := Option.bind_eq_some_iff.mp H
      obtain ⟨⟨t259, t260, t261, t262, t263⟩, A120, H⟩ := H
      replace H : (if t261 = true then (if t259 > (IntKind.u64.wrap (a2)) then (some (0, t262, true)) else (if t259 < (IntKind.u64.wrap (a1)) then (some (0, t262, true)) else (some (wrap64 (t259), wrap64 (t262 + t260), t263)))) else (some (0, t262, true))) = some (r1, r2, r3) := H
      have A12 := Aside0.mk A120
      clear A120
      by_cases c13 : t261 = true
      · subst c13
        have H1 : (if t259 > (IntKind.u64.wrap (a2)) then (some (0, t262, true)) else (if t259 < (IntKind.u64.wrap (a1)) then (some (0, t262, true)) else (some (wrap64 (t259), wrap64 (t262 + t260), t263)))) = some (r1, r2, r3) := by rw [if_pos rfl] at H; exact H
        clear H
        have H := H1
        clear H1
        by_cases c14 : t259 > (IntKind.u64.wrap (a2))
        · rw [if_pos c14] at H
          have c14b0 : decide ((IntKind.u64.wrap (a2)) < t259) = true := decide_eq_true c14
          clear c14
          simp only [Option.some.injEq, Prod.mk.injEq] at H
          obtain ⟨rfl, rfl, rfl⟩ := H
          obtain ⟨ASz15_0, cSz15_0, HGz15, hgz15, HSz15_0⟩ := HI0.out
          have hcz15_0 := cellS132_0 HGz15
          have hcz15_1 := cellS132_1 HGz15
          have hcz15_2 := cellS132_2 HGz15
          have hfz15_1 := blk_frozen HGz15 1
          have hfz15_2 := blk_frozen HGz15 2
          clear HGz15 hgz15
          go_enter Try.func102, Try.ntmps102
          go_wp2_with (first | ((with_reducible refine gate_callee (f := 119) rfl ?_); refine goesL_ (some 15) rfl rfl Try.func119 (by kernel_rfl) rfl #[.pointer (some ⟨g, 0, none⟩)] rfl (by (try simp only [List.map_toArray, List.map_cons, List.map_nil]); first | done | rfl | (simp only [List.length_drop, List.length_take]; rfl)) ?_; (with_reducible refine (sluiceref2_reader_cut.calls k g s0_0 s0_1 false false t255 t256 w0 _ ?side1 ?side2 A6.out).mono ?_); (case side1 => repeat (first | (with_reducible first | exact HI0.out | apply IsS132.alloc | apply IsS132.drewN | apply IsS132.drew | apply IsS132.set_1 | apply IsS132.set_2) | exact HI0.out)); (case side2 => repeat (first | (with_reducible first | exact HB.out | apply below_alloc | apply pw_below_drewN | apply below_drew1 | refine below_set ?_ (IsS132.ge HI0.out)) | exact HB.out)); rintro e w16 ⟨rfl, hi, hb, hk⟩; refine ⟨_, rfl, ?_⟩; have n0_ := Aside0.mk (KeepBut.trans (by repeat (first | (with_reducible first | exact HK.out | apply KeepBut.set_ | apply keep_drewN | apply keep_drew | apply keep_alloc) | exact HK.out)) hk (.inl rfl)); have n1_ := Aside0.mk (hb); have n2_ := Aside0.mk (hi); clear HK; clear HB; clear HI0; have HK := n0_; have HB := n1_; have HI0 := n2_; clear n0_ n1_ n2_; (try clear hb); (try clear hb2); (try clear hk); (try clear hi)) | ((with_reducible refine gate_callee (f := 121) rfl ?_); refine goesL_ (some 20) rfl rfl Try.func121 (by kernel_rfl) rfl #[.pointer (some ⟨g, 0, none⟩)] rfl (by (try simp only [List.map_toArray, List.map_cons, List.map_nil]); first | done | rfl | (simp only [List.length_drop, List.length_take]; rfl)) ?_; (with_reducible refine (sluiceref2_reader_raw.calls k g s0_0 t255 t256 t259 t260 true t262 t263 w0 _ ?side1 ?side2 A12.out).mono ?_); (case side1 => repeat (first | (with_reducible first | exact HI0.out | apply IsS132.alloc | apply IsS132.drewN | apply IsS132.drew | apply IsS132.set_1 | apply IsS132.set_2) | exact HI0.out)); (case side2 => repeat (first | (with_reducible first | exact HB.out | apply below_alloc | apply pw_below_drewN | apply below_drew1 | refine below_set ?_ (IsS132.ge HI0.out)) | exact HB.out)); rintro e w17 ⟨rfl, hi, hb, hk⟩; refine ⟨_, rfl, ?_⟩; have n0_ := Aside0.mk (KeepBut.trans (by repeat (first | (with_reducible first | exact HK.out | apply KeepBut.set_ | apply keep_drewN | apply keep_drew | apply keep_alloc) | exact HK.out)) hk (.inl rfl)); have n1_ := Aside0.mk (hb); have n2_ := Aside0.mk (hi); clear HK; clear HB; clear HI0; have HK := n0_; have HB := n1_; have HI0 := n2_; clear n0_ n1_ n2_; (try clear hb); (try clear hb2); (try clear hk); (try clear hi); obtain ⟨ASz18_0, cSz18_0, HGz18, hgz18, HSz18_0⟩ := HI0.out; have hcz18_0 := cellS132_0 HGz18; have hcz18_1 := cellS132_1 HGz18; have hcz18_2 := cellS132_2 HGz18; have hfz18_1 := blk_frozen HGz18 1; have hfz18_2 := blk_frozen HGz18 2; clear HGz18 hgz18))
          go_ret
          exact ⟨by first | rfl | (simp [errW_none, errW_some] <;> rfl) | (simp [*, errW_none, errW_some] <;> rfl), by repeat (first | (with_reducible first | exact HI0.out | apply IsS132.alloc | apply IsS132.drewN | apply IsS132.drew | apply IsS132.set_1 | apply IsS132.set_2) | exact HI0.out), by repeat (first | (with_reducible first | exact HB.out | apply below_alloc | apply pw_below_drewN | apply below_drew1 | refine below_set ?_ (IsS132.ge HI0.out)) | exact HB.out), by repeat (first | (with_reducible first | exact HK.out | apply KeepBut.set_ | apply keep_drewN | apply keep_drew | apply keep_alloc) | exact HK.out)⟩
        · rw [if_neg c14] at H
          have c14b0 : decide ((IntKind.u64.wrap (a2)) < t259) = false := decide_eq_false c14
          clear c14
          by_cases c19 : t259 < (IntKind.u64.wrap (a1))
          · rw [if_pos c19] at H
            have c19b0 : decide (t259 < (IntKind.u64.wrap (a1))) = true := decide_eq_true c19
            clear c19
            simp only [Option.some.injEq, Prod.mk.injEq] at H
            obtain ⟨rfl, rfl, rfl⟩ := H
            obtain ⟨ASz20_0, cSz20_0, HGz20, hgz20, HSz20_0⟩ := HI0.out
            have hcz20_0 := cellS132_0 HGz20
            have hcz20_1 := cellS132_1 HGz20
            have hcz20_2 := cellS132_2 HGz20
            have hfz20_1 := blk_frozen HGz20 1
            have hfz20_2 := blk_frozen HGz20 2
            clear HGz20 hgz20
            go_enter Try.func102, Try.ntmps102
            go_wp2_with (first | ((with_reducible refine gate_callee (f := 119) rfl ?_); refine goesL_ (some 15) rfl rfl Try.func119 (by kernel_rfl) rfl #[.pointer (some ⟨g, 0, none⟩)] rfl (by (try simp only [List.map_toArray, List.map_cons, List.map_nil]); first | done | rfl | (simp only [List.length_drop, List.length_take]; rfl)) ?_; (with_reducible refine (sluiceref2_reader_cut.calls k g s0_0 s0_1 false false t255 t256 w0 _ ?side1 ?side2 A6.out).mono ?_); (case side1 => repeat (first | (with_reducible first | exact HI0.out | apply IsS132.alloc | apply IsS132.drewN | apply IsS132.drew | apply IsS132.set_1 | apply IsS132.set_2) | exact HI0.out)); (case side2 => repeat (first | (with_reducible first | exact HB.out | apply below_alloc | apply pw_below_drewN | apply below_drew1 | refine below_set ?_ (IsS132.ge HI0.out)) | exact HB.out)); rintro e w21 ⟨rfl, hi, hb, hk⟩; refine ⟨_, rfl, ?_⟩; have n0_ := Aside0.mk (KeepBut.trans (by repeat (first | (with_reducible first | exact HK.out | apply KeepBut.set_ | apply keep_drewN | apply keep_drew | apply keep_alloc) | exact HK.out)) hk (.inl rfl)); have n1_ := Aside0.mk (hb); have n2_ := Aside0.mk (hi); clear HK; clear HB; clear HI0; have HK := n0_; have HB := n1_; have HI0 := n2_; clear n0_ n1_ n2_; (try clear hb); (try clear hb2); (try clear hk); (try clear hi)) | ((with_reducible refine gate_callee (f := 121) rfl ?_); refine goesL_ (some 20) rfl rfl Try.func121 (by kernel_rfl) rfl #[.pointer (some ⟨g, 0, none⟩)] rfl (by (try simp only [List.map_toArray, List.map_cons, List.map_nil]); first | done | rfl | (simp only [List.length_drop, List.length_take]; rfl)) ?_; (with_reducible refine (sluiceref2_reader_raw.calls k g s0_0 t255 t256 t259 t260 true t262 t263 w0 _ ?side1 ?side2 A12.out).mono ?_); (case side1 => repeat (first | (with_reducible first | exact HI0.out | apply IsS132.alloc | apply IsS132.drewN | apply IsS132.drew | apply IsS132.set_1 | apply IsS132.set_2) | exact HI0.out)); (case side2 => repeat (first | (with_reducible first | exact HB.out | apply below_alloc | apply pw_below_drewN | apply below_drew1 | refine below_set ?_ (IsS132.ge HI0.out)) | exact HB.out)); rintro e w22 ⟨rfl, hi, hb, hk⟩; refine ⟨_, rfl, ?_⟩; have n0_ := Aside0.mk (KeepBut.trans (by repeat (first | (with_reducible first | exact HK.out | apply KeepBut.set_ | apply keep_drewN | apply keep_drew | apply keep_alloc) | exact HK.out)) hk (.inl rfl)); have n1_ := Aside0.mk (hb); have n2_ := Aside0.mk (hi); clear HK; clear HB; clear HI0; have HK := n0_; have HB := n1_; have HI0 := n2_; clear n0_ n1_ n2_; (try clear hb); (try clear hb2); (try clear hk); (try clear hi); obtain ⟨ASz23_0, cSz23_0, HGz23, hgz23, HSz23_0⟩ := HI0.out; have hcz23_0 := cellS132_0 HGz23; have hcz23_1 := cellS132_1 HGz23; have hcz23_2 := cellS132_2 HGz23; have hfz23_1 := blk_frozen HGz23 1; have hfz23_2 := blk_frozen HGz23 2; clear HGz23 hgz23))
            go_ret
            exact ⟨by first | rfl | (simp [errW_none, errW_some] <;> rfl) | (simp [*, errW_none, errW_some] <;> rfl), by repeat (first | (with_reducible first | exact HI0.out | apply IsS132.alloc | apply IsS132.drewN | apply IsS132.drew | apply IsS132.set_1 | apply IsS132.set_2) | exact HI0.out), by repeat (first | (with_reducible first | exact HB.out | apply below_alloc | apply pw_below_drewN | apply below_drew1 | refine below_set ?_ (IsS132.ge HI0.out)) | exact HB.out), by repeat (first | (with_reducible first | exact HK.out | apply KeepBut.set_ | apply keep_drewN | apply keep_drew | apply keep_alloc) | exact HK.out)⟩
          · rw [if_neg c19] at H
            have c19b0 : decide (t259 < (IntKind.u64.wrap (a1))) = false := decide_eq_false c19
            clear c19
            simp only [Option.some.injEq, Prod.mk.injEq] at H
            obtain ⟨rfl, rfl, rfl⟩ := H
            obtain ⟨ASz24_0, cSz24_0, HGz24, hgz24, HSz24_0⟩ := HI0.out
            have hcz24_0 := cellS132_0 HGz24
            have hcz24_1 := cellS132_1 HGz24
            have hcz24_2 := cellS132_2 HGz24
            have hfz24_1 := blk_frozen HGz24 1
            have hfz24_2 := blk_frozen HGz24 2
            clear HGz24 hgz24
            go_enter Try.func102, Try.ntmps102
            go_wp2_with (first | ((with_reducible refine gate_callee (f := 119) rfl ?_); refine goesL_ (some 15) rfl rfl Try.func119 (by kernel_rfl) rfl #[.pointer (some ⟨g, 0, none⟩)] rfl (by (try simp only [List.map_toArray, List.map_cons, List.map_nil]); first | done | rfl | (simp only [List.length_drop, List.length_take]; rfl)) ?_; (with_reducible refine (sluiceref2_reader_cut.calls k g s0_0 s0_1 false false t255 t256 w0 _ ?side1 ?side2 A6.out).mono ?_); (case side1 => repeat (first | (with_reducible first | exact HI0.out | apply IsS132.alloc | apply IsS132.drewN | apply IsS132.drew | apply IsS132.set_1 | apply IsS132.set_2) | exact HI0.out)); (case side2 => repeat (first | (with_reducible first | exact HB.out | apply below_alloc | apply pw_below_drewN | apply below_drew1 | refine below_set ?_ (IsS132.ge HI0.out)) | exact HB.out)); rintro e w25 ⟨rfl, hi, hb, hk⟩; refine ⟨_, rfl, ?_⟩; have n0_ := Aside0.mk (KeepBut.trans (by repeat (first | (with_reducible first | exact HK.out | apply KeepBut.set_ | apply keep_drewN | apply keep_drew | apply keep_alloc) | exact HK.out)) hk (.inl rfl)); have n1_ := Aside0.mk (hb); have n2_ := Aside0.mk (hi); clear HK; clear HB; clear HI0; have HK := n0_; have HB := n1_; have HI0 := n2_; clear n0_ n1_ n2_; (try clear hb); (try clear hb2); (try clear hk); (try clear hi)) | ((with_reducible refine gate_callee (f := 121) rfl ?_); refine goesL_ (some 20) rfl rfl Try.func121 (by kernel_rfl) rfl #[.pointer (some ⟨g, 0, none⟩)] rfl (by (try simp only [List.map_toArray, List.map_cons, List.map_nil]); first | done | rfl | (simp only [List.length_drop, List.length_take]; rfl)) ?_; (with_reducible refine (sluiceref2_reader_raw.calls k g s0_0 t255 t256 t259 t260 true t262 t263 w0 _ ?side1 ?side2 A12.out).mono ?_); (case side1 => repeat (first | (with_reducible first | exact HI0.out | apply IsS132.alloc | apply IsS132.drewN | apply IsS132.drew | apply IsS132.set_1 | apply IsS132.set_2) | exact HI0.out)); (case side2 => repeat (first | (with_reducible first | exact HB.out | apply below_alloc | apply pw_below_drewN | apply below_drew1 | refine below_set ?_ (IsS132.ge HI0.out)) | exact HB.out)); rintro e w26 ⟨rfl, hi, hb, hk⟩; refine ⟨_, rfl, ?_⟩; have n0_ := Aside0.mk (KeepBut.trans (by repeat (first | (with_reducible first | exact HK.out | apply KeepBut.set_ | apply keep_drewN | apply keep_drew | apply keep_alloc) | exact HK.out)) hk (.inl rfl)); have n1_ := Aside0.mk (hb); have n2_ := Aside0.mk (hi); clear HK; clear HB; clear HI0; have HK := n0_; have HB := n1_; have HI0 := n2_; clear n0_ n1_ n2_; (try clear hb); (try clear hb2); (try clear hk); (try clear hi); obtain ⟨ASz27_0, cSz27_0, HGz27, hgz27, HSz27_0⟩ := HI0.out; have hcz27_0 := cellS132_0 HGz27; have hcz27_1 := cellS132_1 HGz27; have hcz27_2 := cellS132_2 HGz27; have hfz27_1 := blk_frozen HGz27 1; have hfz27_2 := blk_frozen HGz27 2; clear HGz27 hgz27))
            go_ret
            exact ⟨by first | rfl | (simp [errW_none, errW_some] <;> rfl) | (simp [*, errW_none, errW_some] <;> rfl), by repeat (first | (with_reducible first | exact HI0.out | apply IsS132.alloc | apply IsS132.drewN | apply IsS132.drew | apply IsS132.set_1 | apply IsS132.set_2) | exact HI0.out), by repeat (first | (with_reducible first | exact HB.out | apply below_alloc | apply pw_below_drewN | apply below_drew1 | refine below_set ?_ (IsS132.ge HI0.out)) | exact HB.out), by repeat (first | (with_reducible first | exact HK.out | apply KeepBut.set_ | apply keep_drewN | apply keep_drew | apply keep_alloc) | exact HK.out)⟩
      · replace c13 := Bool.eq_false_iff.mpr c13
        subst c13
        have H1 : (some (0, t262, true)) = some (r1, r2, r3) := by rw [if_neg (show ¬ (false = true) by decide)] at H; exact H
        clear H
        have H := H1
        clear H1
        simp only [Option.some.injEq, Prod.mk.injEq] at H
        obtain ⟨rfl, rfl, rfl⟩ := H
        obtain ⟨ASz28_0, cSz28_0, HGz28, hgz28, HSz28_0⟩ := HI0.out
        have hcz28_0 := cellS132_0 HGz28
        have hcz28_1 := cellS132_1 HGz28
        have hcz28_2 := cellS132_2 HGz28
        have hfz28_1 := blk_frozen HGz28 1
        have hfz28_2 := blk_frozen HGz28 2
        clear HGz28 hgz28
        go_enter Try.func102, Try.ntmps102
        go_wp2_with (first | ((with_reducible refine gate_callee (f := 119) rfl ?_); refine goesL_ (some 15) rfl rfl Try.func119 (by kernel_rfl) rfl #[.pointer (some ⟨g, 0, none⟩)] rfl (by (try simp only [List.map_toArray, List.map_cons, List.map_nil]); first | done | rfl | (simp only [List.length_drop, List.length_take]; rfl)) ?_; (with_reducible refine (sluiceref2_reader_cut.calls k g s0_0 s0_1 false false t255 t256 w0 _ ?side1 ?side2 A6.out).mono ?_); (case side1 => repeat (first | (with_reducible first | exact HI0.out | apply IsS132.alloc | apply IsS132.drewN | apply IsS132.drew | apply IsS132.set_1 | apply IsS132.set_2) | exact HI0.out)); (case side2 => repeat (first | (with_reducible first | exact HB.out | apply below_alloc | apply pw_below_drewN | apply below_drew1 | refine below_set ?_ (IsS132.ge HI0.out)) | exact HB.out)); rintro e w29 ⟨rfl, hi, hb, hk⟩; refine ⟨_, rfl, ?_⟩; have n0_ := Aside0.mk (KeepBut.trans (by repeat (first | (with_reducible first | exact HK.out | apply KeepBut.set_ | apply keep_drewN | apply keep_drew | apply keep_alloc) | exact HK.out)) hk (.inl rfl)); have n1_ := Aside0.mk (hb); have n2_ := Aside0.mk (hi); clear HK; clear HB; clear HI0; have HK := n0_; have HB := n1_; have HI0 := n2_; clear n0_ n1_ n2_; (try clear hb); (try clear hb2); (try clear hk); (try clear hi)) | ((with_reducible refine gate_callee (f := 121) rfl ?_); refine goesL_ (some 20) rfl rfl Try.func121 (by kernel_rfl) rfl #[.pointer (some ⟨g, 0, none⟩)] rfl (by (try simp only [List.map_toArray, List.map_cons, List.map_nil]); first | done | rfl | (simp only [List.length_drop, List.length_take]; rfl)) ?_; (with_reducible refine (sluiceref2_reader_raw.calls k g s0_0 t255 t256 t259 t260 false t262 t263 w0 _ ?side1 ?side2 A12.out).mono ?_); (case side1 => repeat (first | (with_reducible first | exact HI0.out | apply IsS132.alloc | apply IsS132.drewN | apply IsS132.drew | apply IsS132.set_1 | apply IsS132.set_2) | exact HI0.out)); (case side2 => repeat (first | (with_reducible first | exact HB.out | apply below_alloc | apply pw_below_drewN | apply below_drew1 | refine below_set ?_ (IsS132.ge HI0.out)) | exact HB.out)); rintro e w30 ⟨rfl, hi, hb, hk⟩; refine ⟨_, rfl, ?_⟩; have n0_ := Aside0.mk (KeepBut.trans (by repeat (first | (with_reducible first | exact HK.out | apply KeepBut.set_ | apply keep_drewN | apply keep_drew | apply keep_alloc) | exact HK.out)) hk (.inl rfl)); have n1_ := Aside0.mk (hb); have n2_ := Aside0.mk (hi); clear HK; clear HB; clear HI0; have HK := n0_; have HB := n1_; have HI0 := n2_; clear n0_ n1_ n2_; (try clear hb); (try clear hb2); (try clear hk); (try clear hi); obtain ⟨ASz31_0, cSz31_0, HGz31, hgz31, HSz31_0⟩ := HI0.out; have hcz31_0 := cellS132_0 HGz31; have hcz31_1 := cellS132_1 HGz31; have hcz31_2 := cellS132_2 HGz31; have hfz31_1 := blk_frozen HGz31 1; have hfz31_2 := blk_frozen HGz31 2; clear HGz31 hgz31))
        go_ret
        exact ⟨by first | rfl | (simp [errW_none, errW_some] <;> rfl) | (simp [*, errW_none, errW_some] <;> rfl), by repeat (first | (with_reducible first | exact HI0.out | apply IsS132.alloc | apply IsS132.drewN | apply IsS132.drew | apply IsS132.set_1 | apply IsS132.set_2) | exact HI0.out), by repeat (first | (with_reducible first | exact HB.out | apply below_alloc | apply pw_below_drewN | apply below_drew1 | refine below_set ?_ (IsS132.ge HI0.out)) | exact HB.out), by repeat (first | (with_reducible first | exact HK.out | apply KeepBut.set_ | apply keep_drewN | apply keep_drew | apply keep_alloc) | exact HK.out)⟩

def sluiceref2_reader_call.f (k : Nat) (s0_0 : List Int) (s0_1 : Int) (s0_2 : Bool) : Option (Int × Int × Int × Bool) := (sluiceref2_reader_num.f k s0_0 s0_1 s0_2 0 63).bind fun bt265 => ((sluiceref2_reader_num.f k s0_0 bt265.2.1 bt265.2.2 1 1099511627776).bind fun bt268 => (some (bt265.1, bt268.1, bt268.2.1, bt268.2.2)))
set_option maxHeartbeats 8000000 in
set_option maxRecDepth 100000 in
theorem sluiceref2_reader_call.calls (k : Nat) (g : Nat) (s0_0 : List Int) (s0_1 : Int) (s0_2 : Bool) (r1 : Int) (r2 : Int) (r3 : Int) (r4 : Bool) (w0 w : World) (hI : IsS132 w0 w g s0_0 s0_1 s0_2) (hB : Below w0.heap.size w0 w) (h : sluiceref2_reader_call.f k s0_0 s0_1 s0_2 = some (r1, r2, r3, r4)) :
    Calls Try.prog 104 #[.pointer (some ⟨g, 0, none⟩)] w fun e w' => e = .returned (.agg #[.int .i64 r1, .int .i64 r2]) ∧ IsS132 w0 w' g s0_0 r3 r4 ∧ Below w0.heap.size w0 w' ∧ KeepBut w w' g none := by
  have hu27 := Try.underlying27
  have HI0 := Aside0.mk hI
  have HK := Aside0.mk (KeepBut.refl w g none)
  have HL := Aside0.mk hB.size
  clear hI
  have HW0 := Aside0.mk hB.size
  have HB := Aside0.mk hB
  clear hB
  have H : ((sluiceref2_reader_num.f k s0_0 s0_1 s0_2 0 63).bind fun bt265 => ((sluiceref2_reader_num.f k s0_0 bt265.2.1 bt265.2.2 1 1099511627776).bind fun bt268 => (some (bt265.1, bt268.1, bt268.2.1, bt268.2.2)))) = some (r1, r2, r3, r4) := h
  clear h
  replace H := Option.bind_eq_some_iff.mp H
  obtain ⟨⟨t265, t266, t267⟩, A20, H⟩ := H
  replace H : ((sluiceref2_reader_num.f k s0_0 t266 t267 1 1099511627776).bind fun bt268 => (some (t265, bt268.1, bt268.2.1, bt268.2.2))) = some (r1, r2, r3, r4) := H
  have A2 := Aside0.mk A20
  clear A20
  replace H := Option.bind_eq_some_iff.mp H
  obtain ⟨⟨t268, t269, t270⟩, A30, H⟩ := H
  replace H : (some (t265, t268, t269, t270)) = some (r1, r2, r3, r4) := H
  have A3 := Aside0.mk A30
  clear A30
  simp only [Option.some.injEq, Prod.mk.injEq] at H
  obtain ⟨rfl, rfl, rfl, rfl⟩ := H
  go_enter Try.func104, Try.ntmps104
  go_wp2_with (first | ((with_reducible refine gate_dst (N := 2) rfl ?_); refine box_event ?hg (N := 2) ?hd (cs := #[.int .i64 0, .int .i64 0]) (t := 27) ?hr ?_; (case hd => rfl); (case hg => rfl); (case hr => first | (go_simp; done) | (go_simp; rfl)); intro gb264 hg w4 hbox hb; have n0_ := Aside0.mk (IsS132.below (by repeat (first | (with_reducible first | exact HI0.out | apply IsS132.alloc | apply IsS132.drewN | apply IsS132.drew | apply IsS132.set_1 | apply IsS132.set_2) | exact HI0.out)) hb); have n1_ := Aside0.mk (KeepBut.trans (by repeat (first | (with_reducible first | exact HK.out | apply KeepBut.set_ | apply keep_drewN | apply keep_drew | apply keep_alloc) | exact HK.out)) (KeepBut.of_below hb g none) (.inl rfl)); have n2_ := Aside0.mk (below_step (by repeat (first | (with_reducible first | exact HB.out | apply below_alloc | apply pw_below_drewN | apply below_drew1 | refine below_set ?_ (IsS132.ge HI0.out)) | exact HB.out)) hb); have n3_ := Aside0.mk (hbox); have n4_ := Aside0.mk ((by rw [hg]; exact (keep_size (w := w) (g := g) (row := none) (by repeat (first | (with_reducible first | exact HK.out | apply KeepBut.set_ | apply keep_drewN | apply keep_drew | apply keep_alloc) | exact HK.out))) : w.heap.size ≤ gb264)); have n5_ := Aside0.mk ((Nat.le_trans HW0.out (by rw [hg]; exact (keep_size (w := w) (g := g) (row := none) (by repeat (first | (with_reducible first | exact HK.out | apply KeepBut.set_ | apply keep_drewN | apply keep_drew | apply keep_alloc) | exact HK.out))) : w.heap.size ≤ gb264) : w0.heap.size ≤ gb264)); have n6_ := Aside0.mk ((by rw [hg]; exact Nat.ne_of_lt (IsS132.lt (show IsS132 w0 _ g s0_0 s0_1 s0_2 from by repeat (first | (with_reducible first | exact HI0.out | apply IsS132.alloc | apply IsS132.drewN | apply IsS132.drew | apply IsS132.set_1 | apply IsS132.set_2) | exact HI0.out))) : g ≠ gb264)); have n7_ := Aside0.mk ((by rw [hg]; exact Nat.ne_of_gt (IsS132.lt (show IsS132 w0 _ g s0_0 s0_1 s0_2 from by repeat (first | (with_reducible first | exact HI0.out | apply IsS132.alloc | apply IsS132.drewN | apply IsS132.drew | apply IsS132.set_1 | apply IsS132.set_2) | exact HI0.out))) : gb264 ≠ g)); clear HI0; clear HK; clear HB; have HI0 := n0_; have HK := n1_; have HB := n2_; have BK264 := n3_; have GW264 := n4_; have GE264 := n5_; have NB0_264 := n6_; have NB264_0 := n7_; clear n0_ n1_ n2_ n3_ n4_ n5_ n6_ n7_; clear hb hbox hg) | ((with_reducible refine gate_callee (f := 102) rfl ?_); refine goesL_ (some 5) rfl rfl Try.func102 (by kernel_rfl) rfl #[.pointer (some ⟨g, 0, none⟩), .int .i64 0, .int .i64 63] rfl (by (try simp only [List.map_toArray, List.map_cons, List.map_nil]); first | done | rfl | (simp only [List.length_drop, List.length_take]; rfl)) ?_; (with_reducible refine (sluiceref2_reader_num.calls k g s0_0 s0_1 s0_2 0 63 t265 t266 t267 w0 _ ?side1 ?side2 A2.out).mono ?_); (case side1 => repeat (first | (with_reducible first | exact HI0.out | apply IsS132.alloc | apply IsS132.drewN | apply IsS132.drew | apply IsS132.set_1 | apply IsS132.set_2 | refine IsS132.far ?_ NB0_264.out _) | exact HI0.out)); (case side2 => repeat (first | (with_reducible first | exact HB.out | apply below_alloc | apply pw_below_drewN | apply below_drew1 | refine below_set ?_ (IsS132.ge HI0.out) | refine below_set ?_ GE264.out) | exact HB.out)); rintro e w5 ⟨rfl, hi, hb, hk⟩; refine ⟨_, rfl, ?_⟩; have n0_ := Aside0.mk (KeepBut.blk hk (g' := gb264) (o := .cells #[.int .i64 0, .int .i64 0] 27 (0, 0)) (by (with_reducible repeat (first | refine blk_drewN ?_ _ | refine blk_drew ?_ | refine blk_alloc ?_ _)); exact BK264.out) NB264_0.out (by simp)); have n1_ := Aside0.mk (KeepBut.trans (by repeat (first | (with_reducible first | exact HK.out | apply KeepBut.set_ | apply keep_drewN | apply keep_drew | apply keep_alloc | refine keep_far ?_ GW264.out _) | exact HK.out)) hk (.inl rfl)); have n2_ := Aside0.mk (hb); have n3_ := Aside0.mk (hi); clear BK264; clear HK; clear HB; clear HI0; have BK264 := n0_; have HK := n1_; have HB := n2_; have HI0 := n3_; clear n0_ n1_ n2_ n3_; (try clear hb); (try clear hb2); (try clear hk); (try clear hi)) | ((with_reducible refine gate_callee (f := 102) rfl ?_); refine goesL_ (some 8) rfl rfl Try.func102 (by kernel_rfl) rfl #[.pointer (some ⟨g, 0, none⟩), .int .i64 1, .int .i64 1099511627776] rfl (by (try simp only [List.map_toArray, List.map_cons, List.map_nil]); first | done | rfl | (simp only [List.length_drop, List.length_take]; rfl)) ?_; (with_reducible refine (sluiceref2_reader_num.calls k g s0_0 t266 t267 1 1099511627776 t268 t269 t270 w0 _ ?side1 ?side2 A3.out).mono ?_); (case side1 => repeat (first | (with_reducible first | exact HI0.out | apply IsS132.alloc | apply IsS132.drewN | apply IsS132.drew | apply IsS132.set_1 | apply IsS132.set_2 | refine IsS132.far ?_ NB0_264.out _) | exact HI0.out)); (case side2 => repeat (first | (with_reducible first | exact HB.out | apply below_alloc | apply pw_below_drewN | apply below_drew1 | refine below_set ?_ (IsS132.ge HI0.out) | refine below_set ?_ GE264.out) | exact HB.out)); rintro e w6 ⟨rfl, hi, hb, hk⟩; refine ⟨_, rfl, ?_⟩; have n0_ := Aside0.mk (KeepBut.blk hk (g' := gb264) (o := .cells #[.int .i64 0, .int .i64 0] 27 (0, 0)) (by (with_reducible repeat (first | refine blk_drewN ?_ _ | refine blk_drew ?_ | refine blk_alloc ?_ _)); exact BK264.out) NB264_0.out (by simp)); have n1_ := Aside0.mk (KeepBut.trans (by repeat (first | (with_reducible first | exact HK.out | apply KeepBut.set_ | apply keep_drewN | apply keep_drew | apply keep_alloc | refine keep_far ?_ GW264.out _) | exact HK.out)) hk (.inl rfl)); have n2_ := Aside0.mk (hb); have n3_ := Aside0.mk (hi); clear BK264; clear HK; clear HB; clear HI0; have BK264 := n0_; have HK := n1_; have HB := n2_; have HI0 := n3_; clear n0_ n1_ n2_ n3_; (try clear hb); (try clear hb2); (try clear hk); (try clear hi); have hnb7 := NB264_0.out; have hnc7 := NB0_264.out; have hcz8_0 : w6.cell? ⟨gb264, 0, none⟩ = some (.int .i64 0) := (blk_cell BK264.out 0).trans rfl; have hcz8_1 : w6.cell? ⟨gb264, 1, none⟩ = some (.int .i64 0) := (blk_cell BK264.out 1).trans rfl; have hfz8_0 := blk_frozen BK264.out 0; have hfz8_1 := blk_frozen BK264.out 1))
  refine bodyPost_ret (results_cell_row rfl _ _ gb264 27 #[.int .i64 t265, .int .i64 t268] (0, 0) _ rfl (by (with_reducible repeat (first | refine blk_drewN ?_ _ | refine blk_drew ?_ | refine blk_alloc ?_ _)); refine blk_put (cs := #[.int .i64 t265, .int .i64 0]) ?_ 1 _ rfl; (with_reducible repeat (first | refine blk_drewN ?_ _ | refine blk_drew ?_ | refine blk_alloc ?_ _)); refine blk_put (cs := #[.int .i64 0, .int .i64 0]) ?_ 0 _ rfl; (with_reducible repeat (first | refine blk_drewN ?_ _ | refine blk_drew ?_ | refine blk_alloc ?_ _)); exact BK264.out) Try.underlying27 rfl (by kernel_rfl)) rfl ?_
  exact ⟨by first | rfl | (simp [errW_none, errW_some] <;> rfl) | (simp [*, errW_none, errW_some] <;> rfl), by repeat (first | (with_reducible first | exact HI0.out | apply IsS132.alloc | apply IsS132.drewN | apply IsS132.drew | apply IsS132.set_1 | apply IsS132.set_2 | refine IsS132.far ?_ NB0_264.out _) | exact HI0.out), by repeat (first | (with_reducible first | exact HB.out | apply below_alloc | apply pw_below_drewN | apply below_drew1 | refine below_set ?_ (IsS132.ge HI0.out) | refine below_set ?_ GE264.out) | exact HB.out), by repeat (first | (with_reducible first | exact HK.out | apply KeepBut.set_ | apply keep_drewN | apply keep_drew | apply keep_alloc | refine keep_far ?_ GW264.out _) | exact HK.out)⟩

def sluiceref2_reader_sign.f (k : Nat) (s0_0 : List Int) (s0_1 : Int) (s0_2 : Bool) : Option (Int × Int × Bool) := if s0_2 = true then (some (0, s0_1, s0_2)) else ((sluiceref2_reader_cut.f k s0_0 s0_1 s0_2).bind fun bt271 => (if bt271.1 = true then ((sluiceref2_reader_short.f s0_0 bt271.2.1 bt271.2.2).bind fun bt274 => (some (0, bt274.1, bt274.2))) else ((sluiceref2_reader_raw.f k s0_0 bt271.2.1 bt271.2.2).bind fun bt276 => (if bt276.2.2.1 = true then (if (Int.tmod bt276.1 2) = 0 then (some (wrap64 (IntKind.u64.wrap (Int.tdiv bt276.1 2)), wrap64 (bt276.2.2.2.1 + bt276.2.1), bt276.2.2.2.2)) else (some (wrap64 ((wrap64 (-(wrap64 (IntKind.u64.wrap (Int.tdiv bt276.1 2))))) - 1), wrap64 (bt276.2.2.2.1 + bt276.2.1), bt276.2.2.2.2))) else (some (0, bt276.2.2.2.1, true))))))
set_option maxHeartbeats 8000000 in
set_option maxRecDepth 100000 in
theorem sluiceref2_reader_sign.calls (k : Nat) (g : Nat) (s0_0 : List Int) (s0_1 : Int) (s0_2 : Bool) (r1 : Int) (r2 : Int) (r3 : Bool) (w0 w : World) (hI : IsS132 w0 w g s0_0 s0_1 s0_2) (hB : Below w0.heap.size w0 w) (h : sluiceref2_reader_sign.f k s0_0 s0_1 s0_2 = some (r1, r2, r3)) :
    Calls Try.prog 107 #[.pointer (some ⟨g, 0, none⟩)] w fun e w' => e = .returned (.int .i64 r1) ∧ IsS132 w0 w' g s0_0 r2 r3 ∧ Below w0.heap.size w0 w' ∧ KeepBut w w' g none := by
  have HI0 := Aside0.mk hI
  have HK := Aside0.mk (KeepBut.refl w g none)
  have HL := Aside0.mk hB.size
  clear hI
  have HW0 := Aside0.mk hB.size
  have HB := Aside0.mk hB
  clear hB
  have H : (if s0_2 = true then (some (0, s0_1, s0_2)) else ((sluiceref2_reader_cut.f k s0_0 s0_1 s0_2).bind fun bt271 => (if bt271.1 = true then ((sluiceref2_reader_short.f s0_0 bt271.2.1 bt271.2.2).bind fun bt274 => (some (0, bt274.1, bt274.2))) else ((sluiceref2_reader_raw.f k s0_0 bt271.2.1 bt271.2.2).bind fun bt276 => (if bt276.2.2.1 = true then (if (Int.tmod bt276.1 2) = 0 then (some (wrap64 (IntKind.u64.wrap (Int.tdiv bt276.1 2)), wrap64 (bt276.2.2.2.1 + bt276.2.1), bt276.2.2.2.2)) else (some (wrap64 ((wrap64 (-(wrap64 (IntKind.u64.wrap (Int.tdiv bt276.1 2))))) - 1), wrap64 (bt276.2.2.2.1 + bt276.2.1), bt276.2.2.2.2))) else (some (0, bt276.2.2.2.1, true))))))) = some (r1, r2, r3) := h
  clear h
  by_cases c2 : s0_2 = true
  · subst c2
    have H1 : (some (0, s0_1, true)) = some (r1, r2, r3) := by rw [if_pos rfl] at H; exact H
    clear H
    have H := H1
    clear H1
    simp only [Option.some.injEq, Prod.mk.injEq] at H
    obtain ⟨rfl, rfl, rfl⟩ := H
    obtain ⟨ASz3_0, cSz3_0, HGz3, hgz3, HSz3_0⟩ := HI0.out
    have hcz3_0 := cellS132_0 HGz3
    have hcz3_1 := cellS132_1 HGz3
    have hcz3_2 := cellS132_2 HGz3
    have hfz3_1 := blk_frozen HGz3 1
    have hfz3_2 := blk_frozen HGz3 2
    clear HGz3 hgz3
    go_enter Try.func107, Try.ntmps107
    go_wp2
    go_ret
    exact ⟨by first | rfl | (simp [errW_none, errW_some] <;> rfl) | (simp [*, errW_none, errW_some] <;> rfl), by repeat (first | (with_reducible first | exact HI0.out | apply IsS132.alloc | apply IsS132.drewN | apply IsS132.drew | apply IsS132.set_1 | apply IsS132.set_2) | exact HI0.out), by repeat (first | (with_reducible first | exact HB.out | apply below_alloc | apply pw_below_drewN | apply below_drew1 | refine below_set ?_ (IsS132.ge HI0.out)) | exact HB.out), by repeat (first | (with_reducible first | exact HK.out | apply KeepBut.set_ | apply keep_drewN | apply keep_drew | apply keep_alloc) | exact HK.out)⟩
  · replace c2 := Bool.eq_false_iff.mpr c2
    subst c2
    have H1 : ((sluiceref2_reader_cut.f k s0_0 s0_1 false).bind fun bt271 => (if bt271.1 = true then ((sluiceref2_reader_short.f s0_0 bt271.2.1 bt271.2.2).bind fun bt274 => (some (0, bt274.1, bt274.2))) else ((sluiceref2_reader_raw.f k s0_0 bt271.2.1 bt271.2.2).bind fun bt276 => (if bt276.2.2.1 = true then (if (Int.tmod bt276.1 2) = 0 then (some (wrap64 (IntKind.u64.wrap (Int.tdiv bt276.1 2)), wrap64 (bt276.2.2.2.1 + bt276.2.1), bt276.2.2.2.2)) else (some (wrap64 ((wrap64 (-(wrap64 (IntKind.u64.wrap (Int.tdiv bt276.1 2))))) - 1), wrap64 (bt276.2.2.2.1 + bt276.2.1), bt276.2.2.2.2))) else (some (0, bt276.2.2.2.1, true)))))) = some (r1, r2, r3) := by rw [if_neg (show ¬ (false = true) by decide)] at H; exact H
    clear H
    have H := H1
    clear H1
    replace H := Option.bind_eq_some_iff.mp H
    obtain ⟨⟨t271, t272, t273⟩, A40, H⟩ := H
    replace H : (if t271 = true then ((sluiceref2_reader_short.f s0_0 t272 t273).bind fun bt274 => (some (0, bt274.1, bt274.2))) else ((sluiceref2_reader_raw.f k s0_0 t272 t273).bind fun bt276 => (if bt276.2.2.1 = true then (if (Int.tmod bt276.1 2) = 0 then (some (wrap64 (IntKind.u64.wrap (Int.tdiv bt276.1 2)), wrap64 (bt276.2.2.2.1 + bt276.2.1), bt276.2.2.2.2)) else (some (wrap64 ((wrap64 (-(wrap64 (IntKind.u64.wrap (Int.tdiv bt276.1 2))))) - 1), wrap64 (bt276.2.2.2.1 + bt276.2.1), bt276.2.2.2.2))) else (some (0, bt276.2.2.2.1, true))))) = some (r1, r2, r3) := H
    have A4 := Aside0.mk A40
    clear A40
    by_cases c5 : t271 = true
    · subst c5
      have H1 : ((sluiceref2_reader_short.f s0_0 t272 t273).bind fun bt274 => (some (0, bt274.1, bt274.2))) = some (r1, r2, r3) := by rw [if_pos rfl] at H; exact H
      clear H
      have H := H1
      clear H1
      replace H := Option.bind_eq_some_iff.mp H
      obtain ⟨⟨t274, t275⟩, A60, H⟩ := H
      replace H : (some (0, t274, t275)) = some (r1, r2, r3) := H
      have A6 := Aside0.mk A60
      clear A60
      simp only [Option.some.injEq, Prod.mk.injEq] at H
      obtain ⟨rfl, rfl, rfl⟩ := H
      obtain ⟨ASz7_0, cSz7_0, HGz7, hgz7, HSz7_0⟩ := HI0.out
      have hcz7_0 := cellS132_0 HGz7
      have hcz7_1 := cellS132_1 HGz7
      have hcz7_2 := cellS132_2 HGz7
      have hfz7_1 := blk_frozen HGz7 1
      have hfz7_2 := blk_frozen HGz7 2
      clear HGz7 hgz7
      go_enter Try.func107, Try.ntmps107
      go_wp2_with (first | ((with_reducible refine gate_callee (f := 119) rfl ?_); refine goesL_ (some 11) rfl rfl Try.func119 (by kernel_rfl) rfl #[.pointer (some ⟨g, 0, none⟩)] rfl (by (try simp only [List.map_toArray, List.map_cons, List.map_nil]); first | done | rfl | (simp only [List.length_drop, List.length_take]; rfl)) ?_; (with_reducible refine (sluiceref2_reader_cut.calls k g s0_0 s0_1 false true t272 t273 w0 _ ?side1 ?side2 A4.out).mono ?_); (case side1 => repeat (first | (with_reducible first | exact HI0.out | apply IsS132.alloc | apply IsS132.drewN | apply IsS132.drew | apply IsS132.set_1 | apply IsS132.set_2) | exact HI0.out)); (case side2 => repeat (first | (with_reducible first | exact HB.out | apply below_alloc | apply pw_below_drewN | apply below_drew1 | refine below_set ?_ (IsS132.ge HI0.out)) | exact HB.out)); rintro e w8 ⟨rfl, hi, hb, hk⟩; refine ⟨_, rfl, ?_⟩; have n0_ := Aside0.mk (KeepBut.trans (by repeat (first | (with_reducible first | exact HK.out | apply KeepBut.set_ | apply keep_drewN | apply keep_drew | apply keep_alloc) | exact HK.out)) hk (.inl rfl)); have n1_ := Aside0.mk (hb); have n2_ := Aside0.mk (hi); clear HK; clear HB; clear HI0; have HK := n0_; have HB := n1_; have HI0 := n2_; clear n0_ n1_ n2_; (try clear hb); (try clear hb2); (try clear hk); (try clear hi)) | ((with_reducible refine gate_callee (f := 120) rfl ?_); refine goesL_ (some 13) rfl rfl Try.func120 (by kernel_rfl) rfl #[.pointer (some ⟨g, 0, none⟩)] rfl (by (try simp only [List.map_toArray, List.map_cons, List.map_nil]); first | done | rfl | (simp only [List.length_drop, List.length_take]; rfl)) ?_; (with_reducible refine (sluiceref2_reader_short.calls g s0_0 t272 t273 t274 t275 w0 _ ?side1 ?side2 A6.out).mono ?_); (case side1 => repeat (first | (with_reducible first | exact HI0.out | apply IsS132.alloc | apply IsS132.drewN | apply IsS132.drew | apply IsS132.set_1 | apply IsS132.set_2) | exact HI0.out)); (case side2 => repeat (first | (with_reducible first | exact HB.out | apply below_alloc | apply pw_below_drewN | apply below_drew1 | refine below_set ?_ (IsS132.ge HI0.out)) | exact HB.out)); rintro e w9 ⟨rfl, hi, hb, hk⟩; refine ⟨_, rfl, ?_⟩; have n0_ := Aside0.mk (KeepBut.trans (by repeat (first | (with_reducible first | exact HK.out | apply KeepBut.set_ | apply keep_drewN | apply keep_drew | apply keep_alloc) | exact HK.out)) hk (.inl rfl)); have n1_ := Aside0.mk (hb); have n2_ := Aside0.mk (hi); clear HK; clear HB; clear HI0; have HK := n0_; have HB := n1_; have HI0 := n2_; clear n0_ n1_ n2_; (try clear hb); (try clear hb2); (try clear hk); (try clear hi)))
      go_ret
      exact ⟨by first | rfl | (simp [errW_none, errW_some] <;> rfl) | (simp [*, errW_none, errW_some] <;> rfl), by repeat (first | (with_reducible first | exact HI0.out | apply IsS132.alloc | apply IsS132.drewN | apply IsS132.drew | apply IsS132.set_1 | apply IsS132.set_2) | exact HI0.out), by repeat (first | (with_reducible first | exact HB.out | apply below_alloc | apply pw_below_drewN | apply below_drew1 | refine below_set ?_ (IsS132.ge HI0.out)) | exact HB.out), by repeat (first | (with_reducible first | exact HK.out | apply KeepBut.set_ | apply keep_drewN | apply keep_drew | apply keep_alloc) | exact HK.out)⟩
    · replace c5 := Bool.eq_false_iff.mpr c5
      subst c5
      have H1 : ((sluiceref2_reader_raw.f k s0_0 t272 t273).bind fun bt276 => (if bt276.2.2.1 = true then (if (Int.tmod bt276.1 2) = 0 then (some (wrap64 (IntKind.u64.wrap (Int.tdiv bt276.1 2)), wrap64 (bt276.2.2.2.1 + bt276.2.1), bt276.2.2.2.2)) else (some (wrap64 ((wrap64 (-(wrap64 (IntKind.u64.wrap (Int.tdiv bt276.1 2))))) - 1), wrap64 (bt276.2.2.2.1 + bt276.2.1), bt276.2.2.2.2))) else (some (0, bt276.2.2.2.1, true)))) = some (r1, r2, r3) := by rw [if_neg (show ¬ (false = true) by decide)] at H; exact H
      clear H
      have H := H1
      clear H1
      replace H := Option.bind_eq_some_iff.mp H
      obtain ⟨⟨t276, t277, t278, t279, t280⟩, A100, H⟩ := H
      replace H : (if t278 = true then (if (Int.tmod t276 2) = 0 then (some (wrap64 (IntKind.u64.wrap (Int.tdiv t276 2)), wrap64 (t279 + t277), t280)) else (some (wrap64 ((wrap64 (-(wrap64 (IntKind.u64.wrap (Int.tdiv t276 2))))) - 1), wrap64 (t279 + t277), t280))) else (some (0, t279, true))) = some (r1, r2, r3) := H
      have A10 := Aside0.mk A100
      clear A100
      by_cases c11 : t278 = true
      · subst c11
        have H1 : (if (Int.tmod t276 2) = 0 then (some (wrap64 (IntKind.u64.wrap (Int.tdiv t276 2)), wrap64 (t279 + t277), t280)) else (some (wrap64 ((wrap64 (-(wrap64 (IntKind.u64.wrap (Int.tdiv t276 2))))) - 1), wrap64 (t279 + t277), t280))) = some (r1, r2, r3) := by rw [if_pos rfl] at H; exact H
        clear H
        have H := H1
        clear H1
        by_cases c12 : (Int.tmod t276 2) = 0
        · rw [if_pos c12] at H
          have c12b0 : ((Int.tmod t276 2) == 0) = true := beq_iff_eq.mpr c12
          have c12b1 : ((Int.tmod t276 2) != 0) = false := bne_eq_false_iff_eq.mpr c12
          clear c12
          simp only [Option.some.injEq, Prod.mk.injEq] at H
          obtain ⟨rfl, rfl, rfl⟩ := H
          obtain ⟨ASz13_0, cSz13_0, HGz13, hgz13, HSz13_0⟩ := HI0.out
          have hcz13_0 := cellS132_0 HGz13
          have hcz13_1 := cellS132_1 HGz13
          have hcz13_2 := cellS132_2 HGz13
          have hfz13_1 := blk_frozen HGz13 1
          have hfz13_2 := blk_frozen HGz13 2
          clear HGz13 hgz13
          go_enter Try.func107, Try.ntmps107
          go_wp2_with (first | ((with_reducible refine gate_callee (f := 119) rfl ?_); refine goesL_ (some 11) rfl rfl Try.func119 (by kernel_rfl) rfl #[.pointer (some ⟨g, 0, none⟩)] rfl (by (try simp only [List.map_toArray, List.map_cons, List.map_nil]); first | done | rfl | (simp only [List.length_drop, List.length_take]; rfl)) ?_; (with_reducible refine (sluiceref2_reader_cut.calls k g s0_0 s0_1 false false t272 t273 w0 _ ?side1 ?side2 A4.out).mono ?_); (case side1 => repeat (first | (with_reducible first | exact HI0.out | apply IsS132.alloc | apply IsS132.drewN | apply IsS132.drew | apply IsS132.set_1 | apply IsS132.set_2) | exact HI0.out)); (case side2 => repeat (first | (with_reducible first | exact HB.out | apply below_alloc | apply pw_below_drewN | apply below_drew1 | refine below_set ?_ (IsS132.ge HI0.out)) | exact HB.out)); rintro e w14 ⟨rfl, hi, hb, hk⟩; refine ⟨_, rfl, ?_⟩; have n0_ := Aside0.mk (KeepBut.trans (by repeat (first | (with_reducible first | exact HK.out | apply KeepBut.set_ | apply keep_drewN | apply keep_drew | apply keep_alloc) | exact HK.out)) hk (.inl rfl)); have n1_ := Aside0.mk (hb); have n2_ := Aside0.mk (hi); clear HK; clear HB; clear HI0; have HK := n0_; have HB := n1_; have HI0 := n2_; clear n0_ n1_ n2_; (try clear hb); (try clear hb2); (try clear hk); (try clear hi)) | ((with_reducible refine gate_callee (f := 121) rfl ?_); refine goesL_ (some 16) rfl rfl Try.func121 (by kernel_rfl) rfl #[.pointer (some ⟨g, 0, none⟩)] rfl (by (try simp only [List.map_toArray, List.map_cons, List.map_nil]); first | done | rfl | (simp only [List.length_drop, List.length_take]; rfl)) ?_; (with_reducible refine (sluiceref2_reader_raw.calls k g s0_0 t272 t273 t276 t277 true t279 t280 w0 _ ?side1 ?side2 A10.out).mono ?_); (case side1 => repeat (first | (with_reducible first | exact HI0.out | apply IsS132.alloc | apply IsS132.drewN | apply IsS132.drew | apply IsS132.set_1 | apply IsS132.set_2) | exact HI0.out)); (case side2 => repeat (first | (with_reducible first | exact HB.out | apply below_alloc | apply pw_below_drewN | apply below_drew1 | refine below_set ?_ (IsS132.ge HI0.out)) | exact HB.out)); rintro e w15 ⟨rfl, hi, hb, hk⟩; refine ⟨_, rfl, ?_⟩; have n0_ := Aside0.mk (KeepBut.trans (by repeat (first | (with_reducible first | exact HK.out | apply KeepBut.set_ | apply keep_drewN | apply keep_drew | apply keep_alloc) | exact HK.out)) hk (.inl rfl)); have n1_ := Aside0.mk (hb); have n2_ := Aside0.mk (hi); clear HK; clear HB; clear HI0; have HK := n0_; have HB := n1_; have HI0 := n2_; clear n0_ n1_ n2_; (try clear hb); (try clear hb2); (try clear hk); (try clear hi); obtain ⟨ASz16_0, cSz16_0, HGz16, hgz16, HSz16_0⟩ := HI0.out; have hcz16_0 := cellS132_0 HGz16; have hcz16_1 := cellS132_1 HGz16; have hcz16_2 := cellS132_2 HGz16; have hfz16_1 := blk_frozen HGz16 1; have hfz16_2 := blk_frozen HGz16 2; clear HGz16 hgz16))
          go_ret
          exact ⟨by first | rfl | (simp [errW_none, errW_some] <;> rfl) | (simp [*, errW_none, errW_some] <;> rfl), by repeat (first | (with_reducible first | exact HI0.out | apply IsS132.alloc | apply IsS132.drewN | apply IsS132.drew | apply IsS132.set_1 | apply IsS132.set_2) | exact HI0.out), by repeat (first | (with_reducible first | exact HB.out | apply below_alloc | apply pw_below_drewN | apply below_drew1 | refine below_set ?_ (IsS132.ge HI0.out)) | exact HB.out), by repeat (first | (with_reducible first | exact HK.out | apply KeepBut.set_ | apply keep_drewN | apply keep_drew | apply keep_alloc) | exact HK.out)⟩
        · rw [if_neg c12] at H
          have c12b0 : ((Int.tmod t276 2) == 0) = false := beq_eq_false_iff_ne.mpr c12
          have c12b1 : ((Int.tmod t276 2) != 0) = true := bne_iff_ne.mpr c12
          simp only [Option.some.injEq, Prod.mk.injEq] at H
          obtain ⟨rfl, rfl, rfl⟩ := H
          obtain ⟨ASz17_0, cSz17_0, HGz17, hgz17, HSz17_0⟩ := HI0.out
          have hcz17_0 := cellS132_0 HGz17
          have hcz17_1 := cellS132_1 HGz17
          have hcz17_2 := cellS132_2 HGz17
          have hfz17_1 := blk_frozen HGz17 1
          have hfz17_2 := blk_frozen HGz17 2
          clear HGz17 hgz17
          go_enter Try.func107, Try.ntmps107
          go_wp2_with (first | ((with_reducible refine gate_callee (f := 119) rfl ?_); refine goesL_ (some 11) rfl rfl Try.func119 (by kernel_rfl) rfl #[.pointer (some ⟨g, 0, none⟩)] rfl (by (try simp only [List.map_toArray, List.map_cons, List.map_nil]); first | done | rfl | (simp only [List.length_drop, List.length_take]; rfl)) ?_; (with_reducible refine (sluiceref2_reader_cut.calls k g s0_0 s0_1 false false t272 t273 w0 _ ?side1 ?side2 A4.out).mono ?_); (case side1 => repeat (first | (with_reducible first | exact HI0.out | apply IsS132.alloc | apply IsS132.drewN | apply IsS132.drew | apply IsS132.set_1 | apply IsS132.set_2) | exact HI0.out)); (case side2 => repeat (first | (with_reducible first | exact HB.out | apply below_alloc | apply pw_below_drewN | apply below_drew1 | refine below_set ?_ (IsS132.ge HI0.out)) | exact HB.out)); rintro e w18 ⟨rfl, hi, hb, hk⟩; refine ⟨_, rfl, ?_⟩; have n0_ := Aside0.mk (KeepBut.trans (by repeat (first | (with_reducible first | exact HK.out | apply KeepBut.set_ | apply keep_drewN | apply keep_drew | apply keep_alloc) | exact HK.out)) hk (.inl rfl)); have n1_ := Aside0.mk (hb); have n2_ := Aside0.mk (hi); clear HK; clear HB; clear HI0; have HK := n0_; have HB := n1_; have HI0 := n2_; clear n0_ n1_ n2_; (try clear hb); (try clear hb2); (try clear hk); (try clear hi)) | ((with_reducible refine gate_callee (f := 121) rfl ?_); refine goesL_ (some 16) rfl rfl Try.func121 (by kernel_rfl) rfl #[.pointer (some ⟨g, 0, none⟩)] rfl (by (try simp only [List.map_toArray, List.map_cons, List.map_nil]); first | done | rfl | (simp only [List.length_drop, List.length_take]; rfl)) ?_; (with_reducible refine (sluiceref2_reader_raw.calls k g s0_0 t272 t273 t276 t277 true t279 t280 w0 _ ?side1 ?side2 A10.out).mono ?_); (case side1 => repeat (first | (with_reducible first | exact HI0.out | apply IsS132.alloc | apply IsS132.drewN | apply IsS132.drew | apply IsS132.set_1 | apply IsS132.set_2) | exact HI0.out)); (case side2 => repeat (first | (with_reducible first | exact HB.out | apply below_alloc | apply pw_below_drewN | apply below_drew1 | refine below_set ?_ (IsS132.ge HI0.out)) | exact HB.out)); rintro e w19 ⟨rfl, hi, hb, hk⟩; refine ⟨_, rfl, ?_⟩; have n0_ := Aside0.mk (KeepBut.trans (by repeat (first | (with_reducible first | exact HK.out | apply KeepBut.set_ | apply keep_drewN | apply keep_drew | apply keep_alloc) | exact HK.out)) hk (.inl rfl)); have n1_ := Aside0.mk (hb); have n2_ := Aside0.mk (hi); clear HK; clear HB; clear HI0; have HK := n0_; have HB := n1_; have HI0 := n2_; clear n0_ n1_ n2_; (try clear hb); (try clear hb2); (try clear hk); (try clear hi); obtain ⟨ASz20_0, cSz20_0, HGz20, hgz20, HSz20_0⟩ := HI0.out; have hcz20_0 := cellS132_0 HGz20; have hcz20_1 := cellS132_1 HGz20; have hcz20_2 := cellS132_2 HGz20; have hfz20_1 := blk_frozen HGz20 1; have hfz20_2 := blk_frozen HGz20 2; clear HGz20 hgz20))
          go_ret
          exact ⟨by first | rfl | (simp [errW_none, errW_some] <;> rfl) | (simp [*, errW_none, errW_some] <;> rfl), by repeat (first | (with_reducible first | exact HI0.out | apply IsS132.alloc | apply IsS132.drewN | apply IsS132.drew | apply IsS132.set_1 | apply IsS132.set_2) | exact HI0.out), by repeat (first | (with_reducible first | exact HB.out | apply below_alloc | apply pw_below_drewN | apply below_drew1 | refine below_set ?_ (IsS132.ge HI0.out)) | exact HB.out), by repeat (first | (with_reducible first | exact HK.out | apply KeepBut.set_ | apply keep_drewN | apply keep_drew | apply keep_alloc) | exact HK.out)⟩
      · replace c11 := Bool.eq_false_iff.mpr c11
        subst c11
        have H1 : (some (0, t279, true)) = some (r1, r2, r3) := by rw [if_neg (show ¬ (false = true) by decide)] at H; exact H
        clear H
        have H := H1
        clear H1
        simp only [Option.some.injEq, Prod.mk.injEq] at H
        obtain ⟨rfl, rfl, rfl⟩ := H
        obtain ⟨ASz21_0, cSz21_0, HGz21, hgz21, HSz21_0⟩ := HI0.out
        have hcz21_0 := cellS132_0 HGz21
        have hcz21_1 := cellS132_1 HGz21
        have hcz21_2 := cellS132_2 HGz21
        have hfz21_1 := blk_frozen HGz21 1
        have hfz21_2 := blk_frozen HGz21 2
        clear HGz21 hgz21
        go_enter Try.func107, Try.ntmps107
        go_wp2_with (first | ((with_reducible refine gate_callee (f := 119) rfl ?_); refine goesL_ (some 11) rfl rfl Try.func119 (by kernel_rfl) rfl #[.pointer (some ⟨g, 0, none⟩)] rfl (by (try simp only [List.map_toArray, List.map_cons, List.map_nil]); first | done | rfl | (simp only [List.length_drop, List.length_take]; rfl)) ?_; (with_reducible refine (sluiceref2_reader_cut.calls k g s0_0 s0_1 false false t272 t273 w0 _ ?side1 ?side2 A4.out).mono ?_); (case side1 => repeat (first | (with_reducible first | exact HI0.out | apply IsS132.alloc | apply IsS132.drewN | apply IsS132.drew | apply IsS132.set_1 | apply IsS132.set_2) | exact HI0.out)); (case side2 => repeat (first | (with_reducible first | exact HB.out | apply below_alloc | apply pw_below_drewN | apply below_drew1 | refine below_set ?_ (IsS132.ge HI0.out)) | exact HB.out)); rintro e w22 ⟨rfl, hi, hb, hk⟩; refine ⟨_, rfl, ?_⟩; have n0_ := Aside0.mk (KeepBut.trans (by repeat (first | (with_reducible first | exact HK.out | apply KeepBut.set_ | apply keep_drewN | apply keep_drew | apply keep_alloc) | exact HK.out)) hk (.inl rfl)); have n1_ := Aside0.mk (hb); have n2_ := Aside0.mk (hi); clear HK; clear HB; clear HI0; have HK := n0_; have HB := n1_; have HI0 := n2_; clear n0_ n1_ n2_; (try clear hb); (try clear hb2); (try clear hk); (try clear hi)) | ((with_reducible refine gate_callee (f := 121) rfl ?_); refine goesL_ (some 16) rfl rfl Try.func121 (by kernel_rfl) rfl #[.pointer (some ⟨g, 0, none⟩)] rfl (by (try simp only [List.map_toArray, List.map_cons, List.map_nil]); first | done | rfl | (simp only [List.length_drop, List.length_take]; rfl)) ?_; (with_reducible refine (sluiceref2_reader_raw.calls k g s0_0 t272 t273 t276 t277 false t279 t280 w0 _ ?side1 ?side2 A10.out).mono ?_); (case side1 => repeat (first | (with_reducible first | exact HI0.out | apply IsS132.alloc | apply IsS132.drewN | apply IsS132.drew | apply IsS132.set_1 | apply IsS132.set_2) | exact HI0.out)); (case side2 => repeat (first | (with_reducible first | exact HB.out | apply below_alloc | apply pw_below_drewN | apply below_drew1 | refine below_set ?_ (IsS132.ge HI0.out)) | exact HB.out)); rintro e w23 ⟨rfl, hi, hb, hk⟩; refine ⟨_, rfl, ?_⟩; have n0_ := Aside0.mk (KeepBut.trans (by repeat (first | (with_reducible first | exact HK.out | apply KeepBut.set_ | apply keep_drewN | apply keep_drew | apply keep_alloc) | exact HK.out)) hk (.inl rfl)); have n1_ := Aside0.mk (hb); have n2_ := Aside0.mk (hi); clear HK; clear HB; clear HI0; have HK := n0_; have HB := n1_; have HI0 := n2_; clear n0_ n1_ n2_; (try clear hb); (try clear hb2); (try clear hk); (try clear hi); obtain ⟨ASz24_0, cSz24_0, HGz24, hgz24, HSz24_0⟩ := HI0.out; have hcz24_0 := cellS132_0 HGz24; have hcz24_1 := cellS132_1 HGz24; have hcz24_2 := cellS132_2 HGz24; have hfz24_1 := blk_frozen HGz24 1; have hfz24_2 := blk_frozen HGz24 2; clear HGz24 hgz24))
        go_ret
        exact ⟨by first | rfl | (simp [errW_none, errW_some] <;> rfl) | (simp [*, errW_none, errW_some] <;> rfl), by repeat (first | (with_reducible first | exact HI0.out | apply IsS132.alloc | apply IsS132.drewN | apply IsS132.drew | apply IsS132.set_1 | apply IsS132.set_2) | exact HI0.out), by repeat (first | (with_reducible first | exact HB.out | apply below_alloc | apply pw_below_drewN | apply below_drew1 | refine below_set ?_ (IsS132.ge HI0.out)) | exact HB.out), by repeat (first | (with_reducible first | exact HK.out | apply KeepBut.set_ | apply keep_drewN | apply keep_drew | apply keep_alloc) | exact HK.out)⟩

end Go.Proofs.Ytpgdmmjbhjbbhaa.P
end
