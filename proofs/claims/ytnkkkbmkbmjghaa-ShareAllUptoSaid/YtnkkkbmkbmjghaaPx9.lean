/- Contracts of Go functions, each for every input: laid by a program of this session over the kit's print, beside contracts that this session proved by hand. -/
import Derived.Test.YtnkkkbmkbmjghaaPx0
namespace Go.Proofs.Ytnkkkbmkbmjghaa.P
open Go.RowKit Go.Proofs.YtnkkkbmkbmjghaaW.PrintWords Go.Proofs.YtnkkkbmkbmjghaaW.PrintLast Go.Proofs.YtnkkkbmkbmjghaaW.PrintMore
attribute [local go_sem] max2_int min2_int max_two min_two max_three min_three max_four min_four   -- for this text's walks alone
set_option linter.unusedVariables false
set_option linter.unusedSimpArgs false

/-! ### sluicelaw8_fillRights: function 39 -/
def sluicelaw8_fillRights.l0 : Nat → List (S50) → Int → Int → Option ((List (S50)))
  | 0, _, _, _ => none
  | k + 1, x0, x1, x4 => if x4 < (x0.length : Int) then (if 0 ≤ x4 then (sluicelaw8_fillRights.l0 k (x0.set (x4 : Int).toNat (⟨wrap64 ((-1000) - x1), 0⟩ : S50)) x1 (wrap64 (x4 + 1))) else (none)) else (some x0)
def sluicelaw8_fillRights.f (k : Nat) (l0 : List (S50)) (a1 : Int) : Option ((List (S50))) := sluicelaw8_fillRights.l0 k l0 a1 0
theorem sluicelaw8_fillRights.mono_l : ∀ k, (∀ y0 y1 y2, LeO (sluicelaw8_fillRights.l0 k y0 y1 y2) (sluicelaw8_fillRights.l0 (k + 1) y0 y1 y2))
  | 0 => fun _ _ _ r h => by simp [sluicelaw8_fillRights.l0] at h
  | k + 1 => by
    have ih0 := sluicelaw8_fillRights.mono_l k
    · intro y0 y1 y2
      unfold sluicelaw8_fillRights.l0
      repeat' first
      | (with_reducible exact ih0 _ _ _)
      | (with_reducible exact LeO.refl _)
      | (with_reducible exact LeO.none _)
      | (with_reducible refine LeO.ite ?_ ?_)
      | (with_reducible refine LeO.bind ?_ (fun _ => ?_))
      | exact ih0 _ _ _
      | exact LeO.none _
      | refine LeO.ite ?_ ?_
      | refine LeO.bind ?_ (fun _ => ?_)
theorem sluicelaw8_fillRights.mono : ∀ a0 a1 k, LeO (sluicelaw8_fillRights.f k a0 a1) (sluicelaw8_fillRights.f (k + 1) a0 a1) := by
  intro a0 a1 k
  have ih0 := sluicelaw8_fillRights.mono_l k
  unfold sluicelaw8_fillRights.f
  repeat' first
      | (with_reducible exact ih0 _ _ _)
      | (with_reducible exact LeO.refl _)
      | (with_reducible exact LeO.none _)
      | (with_reducible refine LeO.ite ?_ ?_)
      | (with_reducible refine LeO.bind ?_ (fun _ => ?_))
      | exact ih0 _ _ _
      | exact LeO.none _
      | refine LeO.ite ?_ ?_
      | refine LeO.bind ?_ (fun _ => ?_)
set_option maxHeartbeats 8000000 in
set_option maxRecDepth 100000 in
theorem sluicelaw8_fillRights.calls (k : Nat) (P0_ : Nat → Prop) (u9000_ : Value) (l0 : List (S50)) (a1 : Int) (r : List (S50)) (w0 w : World) (hB : Below w0.heap.size w0 w) (ho0 : Kd.R k50 50 w w0.heap.size P0_ u9000_ l0) (h : sluicelaw8_fillRights.f k l0 a1 = some r) :
    Calls Try.prog 39 #[u9000_, .int .i64 a1] w fun e w' => e = .returned (.tuple #[]) ∧ Kd.R k50 50 w' w0.heap.size (fun k_ => (P0_ k_ ∨ w.heap.size ≤ k_)) u9000_ r ∧ Below w0.heap.size w0 w' ∧ Kept w w' (fun k_ => P0_ k_) := by
  have hu50 := Try.underlying50
  have HO0 := Aside0.mk (show Kd.R k50 50 w w0.heap.size (fun k_ => (P0_ k_ ∨ w.heap.size ≤ k_)) u9000_ l0 from Kd.R_mono ho0 (fun k_ hk => (.inl hk)))
  have HK := Aside0.mk (Kept.refl w (fun k_ => P0_ k_))
  have HW0 := Aside0.mk hB.size
  have HB := Aside0.mk hB
  clear hB
  have H : (sluicelaw8_fillRights.l0 k l0 a1 0) = some r := h
  clear h
  have H' := Aside0.mk H
  clear H
  go_enter Try.func39, Try.ntmps39
  go_wp2
  go_loopg [4] k (fun kq v4 w' => ∃ (x0_1 : List (S50)) (x4_1 : Int), v4 = .int .i64 x4_1 ∧ Aside0 (sluicelaw8_fillRights.l0 kq x0_1 a1 x4_1 = some r) ∧ Aside0 (kq ≤ k) ∧ Aside0 (Kd.R k50 50 w' w0.heap.size (fun k_ => (P0_ k_ ∨ w.heap.size ≤ k_)) u9000_ x0_1) ∧ Aside0 (Kept w w' (fun k_ => P0_ k_)) ∧ Aside0 (Below w0.heap.size w0 w'))
  case atStart => exact ⟨(l0), (0), (by first | rfl | (simp; done) | (simp [*]; done)), H', ⟨Nat.le_refl _⟩, ⟨by (with_reducible repeat (first | apply Kd.R_alloc | apply Kd.R_drewN | apply Kd.R_drew)); exact HO0.out⟩, ⟨by repeat (first | (with_reducible first | exact HK.out | apply Kept.alloc | apply Kept.drewN | apply Kept.drew) | exact HK.out)⟩, ⟨by repeat (first | (with_reducible first | exact HB.out | apply below_alloc | apply pw_below_drewN | apply below_drew1) | exact HB.out)⟩⟩
  case round =>
    clear H'
    try clear p2
    obtain ⟨x0_1, x4_1, rfl, HA, HK1, HO_0, HK, HB⟩ := hrel
    cases gk with
    | zero => exact absurd HA.out (by simp [sluicelaw8_fillRights.l0])
    | succ k1 =>
      have H := HA.out
      clear HA
      simp only [sluicelaw8_fillRights.l0] at H
      by_cases c3 : x4_1 < (x0_1.length : Int)
      · rw [if_pos c3] at H
        have c3b0 : decide (x4_1 < (x0_1.length : Int)) = true := decide_eq_true c3
        clear c3
        by_cases c4 : 0 ≤ x4_1
        · rw [if_pos c4] at H
          have c4b0 : decide (0 ≤ x4_1) = true := decide_eq_true c4
          clear c4
          obtain ⟨y207, hy207⟩ : ∃ y_ : List (S50), y_ = (x0_1.set (x4_1 : Int).toNat (⟨wrap64 ((-1000) - a1), 0⟩ : S50)) := ⟨_, rfl⟩
          replace H : (sluicelaw8_fillRights.l0 k1 y207 a1 (wrap64 (x4_1 + 1))) = some r := by first | (rw [hy207]; with_reducible exact H) | (have H2_ := (Option.bind_some _ _).symm.trans H; rw [hy207]; with_reducible exact H2_) | (have H2_ := (Option.bind_some _ _).symm.trans H; with_reducible exact H2_) | with_reducible exact H | (rw [hy207]; exact H) | exact H
          have Ny207 := Aside0.mk hy207
          clear hy207
          have H' := Aside0.mk H
          clear H
          obtain ⟨Ao6, co6, eo6⟩ := Kd.R_slice HO_0.out
          subst eo6
          have p5 : 0 ≤ (x4_1 : Int) := of_decide_eq_true (by first | (with_reducible assumption) | assumption)
          have q5 : (x4_1 : Int) < ((x0_1.length : Int) : Int) := of_decide_eq_true (by first | (with_reducible assumption) | assumption)
          obtain ⟨go5, co5, eo5, gb5, gl5, cl5, HG5⟩ := Kd.R_form HO_0.out (by omega)
          (first | cases eo5 | (injection eo5 with ea_ en_ ec_; (first | subst ea_ | (injection ea_ with ea_; subst ea_)); subst ec_; clear en_))
          have GB5 := Aside0.mk gb5
          have GG5 := Aside0.mk HG5
          clear gb5 gl5 HG5
          have HMgo5 := Aside0.mk (show (P0_ go5 ∨ w.heap.size ≤ go5) from (HO_0.out.1 _ rfl))
          obtain ⟨ce5, hcl5, hM5, hcc5, hfr5⟩ := Kd.R_elem HO_0.out z50 (x4_1 : Int) p5 q5
          obtain rfl := k50_openM hM5
          have hx5_0 : wr.cell? ⟨go5, (x4_1 : Int).toNat * 2, none⟩ = some (.int .i64 ((rd_T50 x0_1 x4_1).f0)) := hcc5 0 _ rfl
          have hx5_1 : wr.cell? ⟨go5, (x4_1 : Int).toNat * 2 + 1, none⟩ = some (.int .i64 ((rd_T50 x0_1 x4_1).f1)) := hcc5 1 _ rfl
          have hf5_0 : wr.frozen? ⟨go5, (x4_1 : Int).toNat * 2, none⟩ = false := hfr5 0
          have hf5_1 : wr.frozen? ⟨go5, (x4_1 : Int).toNat * 2 + 1, none⟩ = false := hfr5 1
          clear hcl5 hcc5 hfr5 hM5
          replace p5 := eq_true p5
          replace q5 := eq_true q5
          have HX7 := Aside0.mk (show Kd.R k50 50 wr w0.heap.size (fun k_ => (P0_ k_ ∨ w.heap.size ≤ k_)) (.slice (some ⟨go5, 0, none⟩) x0_1.length co6) x0_1 from (by (with_reducible repeat (first | apply Kd.R_alloc | apply Kd.R_drewN | apply Kd.R_drew)); exact HO_0.out))
          obtain ⟨ce7, hcl7, hM7, hcc7, hfr7⟩ := Kd.R_elem HX7.out z50 (x4_1 : Int) (of_decide_eq_true (by first | (with_reducible assumption) | assumption)) (by have h_ : (x4_1 : Int) < ((x0_1.length : Int) : Int) := of_decide_eq_true (by first | (with_reducible assumption) | assumption); first | exact h_ | (have e_ := (Kd.R_reads' HO_0.out).1; omega) | simpa using h_)
          obtain rfl := k50_openM hM7
          have HP7 := Kd.R_seg HX7.out (x4_1 : Int) (of_decide_eq_true (by first | (with_reducible assumption) | assumption)) (by have h_ : (x4_1 : Int) < ((x0_1.length : Int) : Int) := of_decide_eq_true (by first | (with_reducible assumption) | assumption); first | exact h_ | (have e_ := (Kd.R_reads' HO_0.out).1; omega) | simpa using h_) (seg := [.int .i64 (wrap64 ((-1000) - a1)), .int .i64 0]) (j := 0) hcl7 hcc7 (show 2 ≤ 2 from by decide) (x' := (⟨wrap64 ((-1000) - a1), 0⟩ : S50)) (k50_mkM _ _ _ (⟨wrap64 ((-1000) - a1), 0⟩ : S50) ) (fun _ hk => hk)
          have hx7_0 := hcc7 0 _ rfl
          (try simp only [show (k50).sz = 2 from rfl, Nat.mul_one, Nat.add_zero] at hx7_0)
          have hf7_0 := hfr7 0
          (try simp only [show (k50).sz = 2 from rfl, Nat.mul_one, Nat.add_zero] at hf7_0)
          have hx7_1 := hcc7 1 _ rfl
          (try simp only [show (k50).sz = 2 from rfl, Nat.mul_one, Nat.add_zero] at hx7_1)
          have hf7_1 := hfr7 1
          (try simp only [show (k50).sz = 2 from rfl, Nat.mul_one, Nat.add_zero] at hf7_1)
          clear hcl7 hcc7 hfr7 hM7
          go_wp2_with (first | ((with_reducible refine gate_store (t := 50) (p := 16) rfl ?_); refine store_event (t := 50) (p := 16) (v := ?vo_w8) (w1 := ((wr.setCell ⟨go5, (x4_1 : Int).toNat * 2, none⟩ (.int .i64 (wrap64 ((-1000) - a1)))).setCell ⟨go5, (x4_1 : Int).toNat * 2 + 1, none⟩ (.int .i64 0))) ?hg ?ho ?hn ?hr ?_; (case ho => rfl); (case hg => rfl); (case hn => rfl); (case hr => first | (go_simp; done) | (go_simp; rfl)); intro w8 hw; have hg : wr.grownBy w8 (some go5) := (by rw [hw]; exact HP7.2); have hp_ : Kd.R k50 50 w8 w0.heap.size (fun k_ => (P0_ k_ ∨ w.heap.size ≤ k_)) (.slice (some ⟨go5, 0, none⟩) x0_1.length co6) y207 := (by rw [hw, Ny207.out]; exact HP7.1); clear HP7; have n0_ := Aside0.mk (hp_); have n1_ := Aside0.mk ((by rw [hw]; exact below_set (below_set (HB.out) GB5.out) GB5.out : Below w0.heap.size w0 w8)); have n2_ := Aside0.mk (Kept.of_grown (S := (fun k_ => P0_ k_)) hg (by repeat (first | (with_reducible first | exact HK.out | apply Kept.alloc | apply Kept.drewN | apply Kept.drew) | exact HK.out)) (fun k_ e_ => (HO_0.out.1 k_ e_))); clear HO_0; clear HB; clear HK; have HO_0 := n0_; have HB := n1_; have HK := n2_; clear n0_ n1_ n2_; clear hg hw hp_))
          go_roundg k1
          case measure => have := HK1.out; omega
          case rel => exact ⟨(y207), (wrap64 (x4_1 + 1)), (by first | rfl | (simp; done) | (simp [*]; done)), H', ⟨by have := HK1.out; omega⟩, ⟨by (with_reducible repeat (first | apply Kd.R_alloc | apply Kd.R_drewN | apply Kd.R_drew)); exact HO_0.out⟩, ⟨by repeat (first | (with_reducible first | exact HK.out | apply Kept.alloc | apply Kept.drewN | apply Kept.drew) | exact HK.out)⟩, ⟨by repeat (first | (with_reducible first | exact HB.out | apply below_alloc | apply pw_below_drewN | apply below_drew1) | exact HB.out)⟩⟩
        · rw [if_neg c4] at H
          exact absurd H (by simp)
      · rw [if_neg c3] at H
        have c3b0 : decide (x4_1 < (x0_1.length : Int)) = false := decide_eq_false c3
        clear c3
        obtain rfl := Option.some.inj H
        obtain ⟨Ao9, co9, eo9⟩ := Kd.R_slice HO_0.out
        subst eo9
        go_wp2
        first | go_end0 | ((try simp only [Exit.inBlock, Exit.then]); refine bodyPost_ret (results_none rfl _ _ _) rfl ?_)
        exact ⟨by first | rfl | (simp [errW_none, errW_some] <;> rfl) | (simp [*, errW_none, errW_some] <;> rfl), by (with_reducible repeat (first | apply Kd.R_alloc | apply Kd.R_drewN | apply Kd.R_drew)); exact HO_0.out, by repeat (first | (with_reducible first | exact HB.out | apply below_alloc | apply pw_below_drewN | apply below_drew1) | exact HB.out), by repeat (first | (with_reducible first | exact HK.out | apply Kept.alloc | apply Kept.drewN | apply Kept.drew) | exact HK.out)⟩

-- NOT PRINTED: function 40 (sluicelaw8_keep_holdRights)

-- NOT PRINTED: function 29 (sluicelaw8_keep_putRights)

/-! ### sluiceref8_Ask: function 30 -/
mutual
def sluiceref8_Ask.j0 : Nat → Int → List Int → Int → Int → Bool → Option (Int)
  | 0, _, _, _, _, _ => none
  | k + 1, x0, x1, x5, x6, x18 => if x18 = true then (sluiceref8_Ask.j1 k x0 x1 x5 (wrap64 (x0 + 1))) else (sluiceref8_Ask.j1 k x0 x1 x5 x6)
def sluiceref8_Ask.j1 : Nat → Int → List Int → Int → Int → Option (Int)
  | 0, _, _, _, _ => none
  | k + 1, x0, x1, x5, x6 => sluiceref8_Ask.l0 k x0 x1 x5 x6 (-1) 0
def sluiceref8_Ask.l0 : Nat → Int → List Int → Int → Int → Int → Int → Option (Int)
  | 0, _, _, _, _, _, _ => none
  | k + 1, x0, x1, x5, x6, x7, x8 => if x8 < x5 then (if x5 = 0 then (none) else (if (Int.tmod (wrap64 (x6 + x8)) x5) = x0 then (sluiceref8_Ask.l0 k x0 x1 x5 x6 x7 (wrap64 (x8 + 1))) else (if 0 ≤ (Int.tmod (wrap64 (x6 + x8)) x5) then (if (Int.tmod (wrap64 (x6 + x8)) x5) < (x1.length : Int) then (if (rd x1 (Int.tmod (wrap64 (x6 + x8)) x5)) > 0 then (if x7 < 0 then (sluiceref8_Ask.l0 k x0 x1 x5 x6 (Int.tmod (wrap64 (x6 + x8)) x5) (wrap64 (x8 + 1))) else (if 0 ≤ x7 then (if x7 < (x1.length : Int) then (if (rd x1 (Int.tmod (wrap64 (x6 + x8)) x5)) > (rd x1 x7) then (sluiceref8_Ask.l0 k x0 x1 x5 x6 (Int.tmod (wrap64 (x6 + x8)) x5) (wrap64 (x8 + 1))) else (sluiceref8_Ask.l0 k x0 x1 x5 x6 x7 (wrap64 (x8 + 1)))) else (none)) else (none))) else (sluiceref8_Ask.l0 k x0 x1 x5 x6 x7 (wrap64 (x8 + 1)))) else (none)) else (none)))) else (some x7)
end
def sluiceref8_Ask.f (k : Nat) (a0 : Int) (l1 : List Int) : Option (Int) := if a0 ≥ 0 then (sluiceref8_Ask.j0 k a0 l1 (l1.length : Int) 0 (decide (a0 < (l1.length : Int)))) else (sluiceref8_Ask.j0 k a0 l1 (l1.length : Int) 0 false)
theorem sluiceref8_Ask.mono_l : ∀ k, (∀ y0 y1 y2 y3 y4, LeO (sluiceref8_Ask.j0 k y0 y1 y2 y3 y4) (sluiceref8_Ask.j0 (k + 1) y0 y1 y2 y3 y4)) ∧ (∀ y0 y1 y2 y3, LeO (sluiceref8_Ask.j1 k y0 y1 y2 y3) (sluiceref8_Ask.j1 (k + 1) y0 y1 y2 y3)) ∧ (∀ y0 y1 y2 y3 y4 y5, LeO (sluiceref8_Ask.l0 k y0 y1 y2 y3 y4 y5) (sluiceref8_Ask.l0 (k + 1) y0 y1 y2 y3 y4 y5))
  | 0 => ⟨fun _ _ _ _ _ r h => by simp [sluiceref8_Ask.j0] at h, fun _ _ _ _ r h => by simp [sluiceref8_Ask.j1] at h, fun _ _ _ _ _ _ r h => by simp [sluiceref8_Ask.l0] at h⟩
  | k + 1 => by
    obtain ⟨ih0, ih1, ih2⟩ := sluiceref8_Ask.mono_l k
    refine ⟨?_, ?_, ?_⟩
    · intro y0 y1 y2 y3 y4
      unfold sluiceref8_Ask.j0
      repeat' first
      | (with_reducible exact ih0 _ _ _ _ _)
      | (with_reducible exact ih1 _ _ _ _)
      | (with_reducible exact ih2 _ _ _ _ _ _)
      | (with_reducible exact LeO.refl _)
      | (with_reducible exact LeO.none _)
      | (with_reducible refine LeO.ite ?_ ?_)
      | (with_reducible refine LeO.bind ?_ (fun _ => ?_))
      | exact ih0 _ _ _ _ _
      | exact ih1 _ _ _ _
      | exact ih2 _ _ _ _ _ _
      | exact LeO.none _
      | refine LeO.ite ?_ ?_
      | refine LeO.bind ?_ (fun _ => ?_)
    · intro y0 y1 y2 y3
      unfold sluiceref8_Ask.j1
      repeat' first
      | (with_reducible exact ih0 _ _ _ _ _)
      | (with_reducible exact ih1 _ _ _ _)
      | (with_reducible exact ih2 _ _ _ _ _ _)
      | (with_reducible exact LeO.refl _)
      | (with_reducible exact LeO.none _)
      | (with_reducible refine LeO.ite ?_ ?_)
      | (with_reducible refine LeO.bind ?_ (fun _ => ?_))
      | exact ih0 _ _ _ _ _
      | exact ih1 _ _ _ _
      | exact ih2 _ _ _ _ _ _
      | exact LeO.none _
      | refine LeO.ite ?_ ?_
      | refine LeO.bind ?_ (fun _ => ?_)
    · intro y0 y1 y2 y3 y4 y5
      unfold sluiceref8_Ask.l0
      repeat' first
      | (with_reducible exact ih0 _ _ _ _ _)
      | (with_reducible exact ih1 _ _ _ _)
      | (with_reducible exact ih2 _ _ _ _ _ _)
      | (with_reducible exact LeO.refl _)
      | (with_reducible exact LeO.none _)
      | (with_reducible refine LeO.ite ?_ ?_)
      | (with_reducible refine LeO.bind ?_ (fun _ => ?_))
      | exact ih0 _ _ _ _ _
      | exact ih1 _ _ _ _
      | exact ih2 _ _ _ _ _ _
      | exact LeO.none _
      | refine LeO.ite ?_ ?_
      | refine LeO.bind ?_ (fun _ => ?_)
theorem sluiceref8_Ask.mono : ∀ a0 a1 k, LeO (sluiceref8_Ask.f k a0 a1) (sluiceref8_Ask.f (k + 1) a0 a1) := by
  intro a0 a1 k
  obtain ⟨ih0, ih1, ih2⟩ := sluiceref8_Ask.mono_l k
  unfold sluiceref8_Ask.f
  repeat' first
      | (with_reducible exact ih0 _ _ _ _ _)
      | (with_reducible exact ih1 _ _ _ _)
      | (with_reducible exact ih2 _ _ _ _ _ _)
      | (with_reducible exact LeO.refl _)
      | (with_reducible exact LeO.none _)
      | (with_reducible refine LeO.ite ?_ ?_)
      | (with_reducible refine LeO.bind ?_ (fun _ => ?_))
      | exact ih0 _ _ _ _ _
      | exact ih1 _ _ _ _
      | exact ih2 _ _ _ _ _ _
      | exact LeO.none _
      | refine LeO.ite ?_ ?_
      | refine LeO.bind ?_ (fun _ => ?_)
set_option maxHeartbeats 8000000 in
set_option maxRecDepth 100000 in
theorem sluiceref8_Ask.calls (k : Nat) (a0 : Int) (A1 : Option Addr) (c1 : Nat) (l1 : List Int) (r : Int) (w : World) (hr1 : Kd.C (Kd.int .i64) w A1 l1.length l1) (hc1 : l1.length ≤ c1) (h : sluiceref8_Ask.f k a0 l1 = some r) :
    Calls Try.prog 30 #[.int .i64 a0, .slice A1 l1.length c1] w fun e w' => e = .returned (.int .i64 r) ∧ Drawn0 w w' := by
  have HR1 := Aside0.mk hr1
  have HC1 := Aside0.mk hc1
  clear hr1 hc1
  have H : (if a0 ≥ 0 then (sluiceref8_Ask.j0 k a0 l1 (l1.length : Int) 0 (decide (a0 < (l1.length : Int)))) else (sluiceref8_Ask.j0 k a0 l1 (l1.length : Int) 0 false)) = some r := h
  clear h
  have HC3 := Aside0.mk H
  clear H
  go_enter Try.func30, Try.ntmps30
  go_upto_region 3 with (fail)
  repeat (go_quiet (fail); go_upto_region 3 with (fail))
  go_cut [18] (fun v18 wc => ∃ (kq : Nat) (x18_2 : Bool), v18 = .bool x18_2 ∧ Aside0 (sluiceref8_Ask.j0 kq a0 l1 (l1.length : Int) 0 x18_2 = some r) ∧ Aside0 (kq ≤ k) ∧ Drawn0 w wc)
  case first =>
    have H := HC3.out
    clear HC3
    by_cases c4 : a0 ≥ 0
    · rw [if_pos c4] at H
      have c4b0 : decide (0 ≤ a0) = true := decide_eq_true c4
      clear c4
      (first | rw [c4b0] | (simp only [i64_w, i32_w]; rw [c4b0]) | skip)
      have H' := Aside0.mk H
      clear H
      go_wp2
      repeat (go_quiet (fail); try go_wp2)
      go_meet
      case rel => exact ⟨_, (decide (a0 < (l1.length : Int))), (by first | rfl | (simp; done) | (simp [*]; done)), H', ⟨by first | omega | exact Nat.le_refl _⟩, by repeat (first | exact Drawn0.refl _ | apply Drawn0.step)⟩
    · rw [if_neg c4] at H
      have c4b0 : decide (0 ≤ a0) = false := decide_eq_false c4
      clear c4
      (first | rw [c4b0] | (simp only [i64_w, i32_w]; rw [c4b0]) | skip)
      have H' := Aside0.mk H
      clear H
      go_wp2
      repeat (go_quiet (fail); try go_wp2)
      go_meet
      case rel => exact ⟨_, (false), (by first | rfl | (simp; done) | (simp [*]; done)), H', ⟨by first | omega | exact Nat.le_refl _⟩, by repeat (first | exact Drawn0.refl _ | apply Drawn0.step)⟩
  case rest =>
    clear HC3
    try clear c1
    try clear p2
    try clear c3
    try clear c4
    try clear c4b0
    obtain ⟨kq, x18_2, rfl, HA, HJ2, ⟨mc2, rfl⟩⟩ := hcut
    cases kq with
    | zero => exact absurd HA.out (by simp [sluiceref8_Ask.j0])
    | succ kj2 =>
      have H := HA.out
      clear HA
      simp only [sluiceref8_Ask.j0] at H
      have HC5 := Aside0.mk H
      clear H
      go_upto_if 18 with (fail)
      repeat (go_quiet (fail); go_upto_if 18 with (fail))
      go_cut [6] (fun v6 wc => ∃ (kq : Nat) (x6_4 : Int), v6 = .int .i64 x6_4 ∧ Aside0 (sluiceref8_Ask.j1 kq a0 l1 (l1.length : Int) x6_4 = some r) ∧ Aside0 (kq ≤ kj2) ∧ Drawn0 w wc)
      case first =>
        have H := HC5.out
        clear HC5
        by_cases c6 : x18_2 = true
        · subst c6
          have H1 : (sluiceref8_Ask.j1 kj2 a0 l1 (l1.length : Int) (wrap64 (a0 + 1))) = some r := by rw [if_pos rfl] at H; exact H
          clear H
          have H := H1
          clear H1
          have H' := Aside0.mk H
          clear H
          go_wp2
          repeat (go_quiet (fail); try go_wp2)
          go_meet
          case rel => exact ⟨_, (wrap64 (a0 + 1)), (by first | rfl | (simp; done) | (simp [*]; done)), H', ⟨by have := HJ2.out; first | omega | exact Nat.le_refl _⟩, by repeat (first | exact Drawn0.refl _ | apply Drawn0.step)⟩
        · replace c6 := Bool.eq_false_iff.mpr c6
          subst c6
          have H1 : (sluiceref8_Ask.j1 kj2 a0 l1 (l1.length : Int) 0) = some r := by rw [if_neg (show ¬ (false = true) by decide)] at H; exact H
          clear H
          have H := H1
          clear H1
          have H' := Aside0.mk H
          clear H
          go_wp2
          repeat (go_quiet (fail); try go_wp2)
          go_meet
          case rel => exact ⟨_, (0), (by first | rfl | (simp; done) | (simp [*]; done)), H', ⟨by have := HJ2.out; first | omega | exact Nat.le_refl _⟩, by repeat (first | exact Drawn0.refl _ | apply Drawn0.step)⟩
      case rest =>
        clear HC5
        try clear c1
        try clear c2
        try clear p2
        try clear c3
        try clear c4
        try clear c4b0
        try clear c6
        try clear p6
        try clear p2
        obtain ⟨kq, x6_4, rfl, HA, HJ4, ⟨mc4, rfl⟩⟩ := hcut
        cases kq with
        | zero => exact absurd HA.out (by simp [sluiceref8_Ask.j1])
        | succ kj4 =>
          have H := HA.out
          clear HA
          simp only [sluiceref8_Ask.j1] at H
          have H' := Aside0.mk H
          clear H
          go_wp2
          repeat (go_quiet (fail); try go_wp2)
          go_loopg [7, 8] kj4 (fun kq v7 v8 w' => ∃ (x7_3 : Int) (x8_3 : Int), v7 = .int .i64 x7_3 ∧ v8 = .int .i64 x8_3 ∧ Aside0 (sluiceref8_Ask.l0 kq a0 l1 (l1.length : Int) x6_4 x7_3 x8_3 = some r) ∧ Aside0 (kq ≤ kj4) ∧ Drawn0 w w')
          case atStart => exact ⟨((-1)), (0), (by first | rfl | (simp; done) | (simp [*]; done)), (by first | rfl | (simp; done) | (simp [*]; done)), H', ⟨Nat.le_refl _⟩, by repeat (first | exact Drawn0.refl _ | apply Drawn0.step)⟩
          case round =>
            clear H'
            try clear c1
            try clear c2
            try clear p2
            try clear c3
            try clear c4
            try clear c4b0
            try clear c6
            try clear p6
            try clear p2
            try clear p6
            obtain ⟨x7_3, x8_3, rfl, rfl, HA, HK3, ⟨m3, rfl⟩⟩ := hrel
            cases gk with
            | zero => exact absurd HA.out (by simp [sluiceref8_Ask.l0])
            | succ k3 =>
              have H := HA.out
              clear HA
              simp only [sluiceref8_Ask.l0] at H
              by_cases c7 : x8_3 < (l1.length : Int)
              · rw [if_pos c7] at H
                have c7b0 : decide (x8_3 < (l1.length : Int)) = true := decide_eq_true c7
                clear c7
                by_cases c8 : (l1.length : Int) = 0
                · rw [if_pos c8] at H
                  exact absurd H (by simp)
                · rw [if_neg c8] at H
                  have c8b0 : ((l1.length : Int) == 0) = false := beq_eq_false_iff_ne.mpr c8
                  have c8b1 : ((l1.length : Int) != 0) = true := bne_iff_ne.mpr c8
                  have c8b2 : ¬ (l1 = []) := fun h_ => c8 (by rw [h_]; rfl)
                  by_cases c9 : (Int.tmod (wrap64 (x6_4 + x8_3)) (l1.length : Int)) = a0
                  · rw [if_pos c9] at H
                    have c9b0 : ((Int.tmod (wrap64 (x6_4 + x8_3)) (l1.length : Int)) == a0) = true := beq_iff_eq.mpr c9
                    have c9b1 : ((Int.tmod (wrap64 (x6_4 + x8_3)) (l1.length : Int)) != a0) = false := bne_eq_false_iff_eq.mpr c9
                    clear c9
                    have H' := Aside0.mk H
                    clear H
                    go_wp2
                    repeat (go_quiet (fail); try go_wp2)
                    go_roundg k3
                    case measure => have := HJ2.out; have := HJ4.out; have := HK3.out; omega
                    case rel => exact ⟨(x7_3), (wrap64 (x8_3 + 1)), (by first | rfl | (simp; done) | (simp [*]; done)), (by first | rfl | (simp; done) | (simp [*]; done)), H', ⟨by have := HJ2.out; have := HJ4.out; have := HK3.out; omega⟩, by repeat (first | exact Drawn0.refl _ | apply Drawn0.step)⟩
                  · rw [if_neg c9] at H
                    have c9b0 : ((Int.tmod (wrap64 (x6_4 + x8_3)) (l1.length : Int)) == a0) = false := beq_eq_false_iff_ne.mpr c9
                    have c9b1 : ((Int.tmod (wrap64 (x6_4 + x8_3)) (l1.length : Int)) != a0) = true := bne_iff_ne.mpr c9
                    obtain ⟨ji10, hji10⟩ : ∃ j_ : Int, (Int.tmod (wrap64 (x6_4 + x8_3)) (l1.length : Int)) = j_ := ⟨_, rfl⟩
                    replace H : (if 0 ≤ (ji10) then (if (ji10) < (l1.length : Int) then (if (rd l1 (ji10)) > 0 then (if x7_3 < 0 then (sluiceref8_Ask.l0 k3 a0 l1 (l1.length : Int) x6_4 ji10 (wrap64 (x8_3 + 1))) else (if 0 ≤ x7_3 then (if x7_3 < (l1.length : Int) then (if (rd l1 (ji10)) > (rd l1 x7_3) then (sluiceref8_Ask.l0 k3 a0 l1 (l1.length : Int) x6_4 ji10 (wrap64 (x8_3 + 1))) else (sluiceref8_Ask.l0 k3 a0 l1 (l1.length : Int) x6_4 x7_3 (wrap64 (x8_3 + 1)))) else (none)) else (none))) else (sluiceref8_Ask.l0 k3 a0 l1 (l1.length : Int) x6_4 x7_3 (wrap64 (x8_3 + 1)))) else (none)) else (none)) = some r := by first | (rw [hji10] at H; exact H) | (simp only [hji10] at H ⊢; exact H)
                    (try rw [hji10] at c9b0)
                    (try rw [hji10] at c9b1)
                    by_cases c11 : 0 ≤ (ji10)
                    · rw [if_pos c11] at H
                      have c11b0 : decide (0 ≤ (ji10)) = true := decide_eq_true c11
                      clear c11
                      by_cases c12 : (ji10) < (l1.length : Int)
                      · rw [if_pos c12] at H
                        have c12b0 : decide ((ji10) < (l1.length : Int)) = true := decide_eq_true c12
                        clear c12
                        by_cases c13 : (rd l1 (ji10)) > 0
                        · rw [if_pos c13] at H
                          have c13b0 : decide (0 < (rd l1 (ji10))) = true := decide_eq_true c13
                          clear c13
                          by_cases c14 : x7_3 < 0
                          · rw [if_pos c14] at H
                            have c14b0 : decide (x7_3 < 0) = true := decide_eq_true c14
                            clear c14
                            have H' := Aside0.mk H
                            clear H
                            have p208 : 0 ≤ ((ji10) : Int) := of_decide_eq_true (by first | (with_reducible assumption) | assumption)
                            have q208 : (ji10) < (l1.length : Int) := of_decide_eq_true (by first | (with_reducible assumption) | assumption)
                            obtain ⟨ad208, e208, hx208_0⟩ := Kd.at_int HR1.out (ji10) p208 q208
                            cases e208
                            replace p208 := eq_true p208
                            replace q208 := eq_true q208
                            go_wp2
                            repeat (go_quiet (fail); try go_wp2)
                            go_roundg k3
                            case measure => have := HJ2.out; have := HJ4.out; have := HK3.out; omega
                            case rel => exact ⟨(ji10), (wrap64 (x8_3 + 1)), (by first | rfl | (simp; done) | (simp only [← hji10] <;> (first | rfl | simp)) | (simp [*]; done)), (by first | rfl | (simp; done) | (simp [*]; done)), H', ⟨by have := HJ2.out; have := HJ4.out; have := HK3.out; omega⟩, by repeat (first | exact Drawn0.refl _ | apply Drawn0.step)⟩
                          · rw [if_neg c14] at H
                            have c14b0 : decide (x7_3 < 0) = false := decide_eq_false c14
                            clear c14
                            by_cases c15 : 0 ≤ x7_3
                            · rw [if_pos c15] at H
                              have c15b0 : decide (0 ≤ x7_3) = true := decide_eq_true c15
                              clear c15
                              by_cases c16 : x7_3 < (l1.length : Int)
                              · rw [if_pos c16] at H
                                have c16b0 : decide (x7_3 < (l1.length : Int)) = true := decide_eq_true c16
                                clear c16
                                by_cases c17 : (rd l1 (ji10)) > (rd l1 x7_3)
                                · rw [if_pos c17] at H
                                  have c17b0 : decide ((rd l1 x7_3) < (rd l1 (ji10))) = true := decide_eq_true c17
                                  clear c17
                                  have H' := Aside0.mk H
                                  clear H
                                  have p208 : 0 ≤ ((ji10) : Int) := of_decide_eq_true (by first | (with_reducible assumption) | assumption)
                                  have q208 : (ji10) < (l1.length : Int) := of_decide_eq_true (by first | (with_reducible assumption) | assumption)
                                  obtain ⟨ad208, e208, hx208_0⟩ := Kd.at_int HR1.out (ji10) p208 q208
                                  cases e208
                                  replace p208 := eq_true p208
                                  replace q208 := eq_true q208
                                  have p209 : 0 ≤ ((ji10) : Int) := of_decide_eq_true (by first | (with_reducible assumption) | assumption)
                                  have q209 : (ji10) < (l1.length : Int) := of_decide_eq_true (by first | (with_reducible assumption) | assumption)
                                  obtain ⟨ad209, e209, hx209_0⟩ := Kd.at_int HR1.out (ji10) p209 q209
                                  obtain rfl : ad208 = ad209 := (by injection e209)
                                  replace p209 := eq_true p209
                                  replace q209 := eq_true q209
                                  have p210 : 0 ≤ (x7_3 : Int) := of_decide_eq_true (by first | (with_reducible assumption) | assumption)
                                  have q210 : x7_3 < (l1.length : Int) := of_decide_eq_true (by first | (with_reducible assumption) | assumption)
                                  obtain ⟨ad210, e210, hx210_0⟩ := Kd.at_int HR1.out x7_3 p210 q210
                                  obtain rfl : ad208 = ad210 := (by injection e210)
                                  replace p210 := eq_true p210
                                  replace q210 := eq_true q210
                                  go_wp2
                                  repeat (go_quiet (fail); try go_wp2)
                                  go_roundg k3
                                  case measure => have := HJ2.out; have := HJ4.out; have := HK3.out; omega
                                  case rel => exact ⟨(ji10), (wrap64 (x8_3 + 1)), (by first | rfl | (simp; done) | (simp only [← hji10] <;> (first | rfl | simp)) | (simp [*]; done)), (by first | rfl | (simp; done) | (simp [*]; done)), H', ⟨by have := HJ2.out; have := HJ4.out; have := HK3.out; omega⟩, by repeat (first | exact Drawn0.refl _ | apply Drawn0.step)⟩
                                · rw [if_neg c17] at H
                                  have c17b0 : decide ((rd l1 x7_3) < (rd l1 (ji10))) = false := decide_eq_false c17
                                  clear c17
                                  have H' := Aside0.mk H
                                  clear H
                                  have p208 : 0 ≤ ((ji10) : Int) := of_decide_eq_true (by first | (with_reducible assumption) | assumption)
                                  have q208 : (ji10) < (l1.length : Int) := of_decide_eq_true (by first | (with_reducible assumption) | assumption)
                                  obtain ⟨ad208, e208, hx208_0⟩ := Kd.at_int HR1.out (ji10) p208 q208
                                  cases e208
                                  replace p208 := eq_true p208
                                  replace q208 := eq_true q208
                                  have p209 : 0 ≤ ((ji10) : Int) := of_decide_eq_true (by first | (with_reducible assumption) | assumption)
                                  have q209 : (ji10) < (l1.length : Int) := of_decide_eq_true (by first | (with_reducible assumption) | assumption)
                                  obtain ⟨ad209, e209, hx209_0⟩ := Kd.at_int HR1.out (ji10) p209 q209
                                  obtain rfl : ad208 = ad209 := (by injection e209)
                                  replace p209 := eq_true p209
                                  replace q209 := eq_true q209
                                  have p210 : 0 ≤ (x7_3 : Int) := of_decide_eq_true (by first | (with_reducible assumption) | assumption)
                                  have q210 : x7_3 < (l1.length : Int) := of_decide_eq_true (by first | (with_reducible assumption) | assumption)
                                  obtain ⟨ad210, e210, hx210_0⟩ := Kd.at_int HR1.out x7_3 p210 q210
                                  obtain rfl : ad208 = ad210 := (by injection e210)
                                  replace p210 := eq_true p210
                                  replace q210 := eq_true q210
                                  go_wp2
                                  repeat (go_quiet (fail); try go_wp2)
                                  go_roundg k3
                                  case measure => have := HJ2.out; have := HJ4.out; have := HK3.out; omega
                                  case rel => exact ⟨(x7_3), (wrap64 (x8_3 + 1)), (by first | rfl | (simp; done) | (simp [*]; done)), (by first | rfl | (simp; done) | (simp [*]; done)), H', ⟨by have := HJ2.out; have := HJ4.out; have := HK3.out; omega⟩, by repeat (first | exact Drawn0.refl _ | apply Drawn0.step)⟩
                              · rw [if_neg c16] at H
                                exact absurd H (by simp)
                            · rw [if_neg c15] at H
                              exact absurd H (by simp)
                        · rw [if_neg c13] at H
                          have c13b0 : decide (0 < (rd l1 (ji10))) = false := decide_eq_false c13
                          clear c13
                          have H' := Aside0.mk H
                          clear H
                          have p208 : 0 ≤ ((ji10) : Int) := of_decide_eq_true (by first | (with_reducible assumption) | assumption)
                          have q208 : (ji10) < (l1.length : Int) := of_decide_eq_true (by first | (with_reducible assumption) | assumption)
                          obtain ⟨ad208, e208, hx208_0⟩ := Kd.at_int HR1.out (ji10) p208 q208
                          cases e208
                          replace p208 := eq_true p208
                          replace q208 := eq_true q208
                          go_wp2
                          repeat (go_quiet (fail); try go_wp2)
                          go_roundg k3
                          case measure => have := HJ2.out; have := HJ4.out; have := HK3.out; omega
                          case rel => exact ⟨(x7_3), (wrap64 (x8_3 + 1)), (by first | rfl | (simp; done) | (simp [*]; done)), (by first | rfl | (simp; done) | (simp [*]; done)), H', ⟨by have := HJ2.out; have := HJ4.out; have := HK3.out; omega⟩, by repeat (first | exact Drawn0.refl _ | apply Drawn0.step)⟩
                      · rw [if_neg c12] at H
                        exact absurd H (by simp)
                    · rw [if_neg c11] at H
                      exact absurd H (by simp)
              · rw [if_neg c7] at H
                have c7b0 : decide (x8_3 < (l1.length : Int)) = false := decide_eq_false c7
                clear c7
                obtain rfl := Option.some.inj H
                go_wp2
                repeat (go_quiet (fail); try go_wp2)
                go_ret
                exact ⟨by first | rfl | (simp; done) | (simp [*]; done), by repeat (first | exact Drawn0.refl _ | apply Drawn0.step)⟩

/-! ### sluiceref8_Give: function 31 -/
def sluiceref8_Give.j0 : Nat → Int → Int → Bool → Option (Int)
  | 0, _, _, _ => none
  | k + 1, x0, x1, x11 => if x11 = true then (some 0) else (if x1 < (wrap64 ((wrap64 (Int.tdiv x0 2)) + (Int.tmod x0 2))) then (some x1) else (some (wrap64 ((wrap64 (Int.tdiv x0 2)) + (Int.tmod x0 2)))))
def sluiceref8_Give.f (k : Nat) (a0 : Int) (a1 : Int) : Option (Int) := if a0 ≤ 0 then (sluiceref8_Give.j0 k a0 a1 true) else (sluiceref8_Give.j0 k a0 a1 (decide (a1 ≤ 0)))
theorem sluiceref8_Give.mono_l : ∀ k, (∀ y0 y1 y2, LeO (sluiceref8_Give.j0 k y0 y1 y2) (sluiceref8_Give.j0 (k + 1) y0 y1 y2))
  | 0 => fun _ _ _ r h => by simp [sluiceref8_Give.j0] at h
  | k + 1 => by
    have ih0 := sluiceref8_Give.mono_l k
    · intro y0 y1 y2
      unfold sluiceref8_Give.j0
      repeat' first
      | (with_reducible exact ih0 _ _ _)
      | (with_reducible exact LeO.refl _)
      | (with_reducible exact LeO.none _)
      | (with_reducible refine LeO.ite ?_ ?_)
      | (with_reducible refine LeO.bind ?_ (fun _ => ?_))
      | exact ih0 _ _ _
      | exact LeO.none _
      | refine LeO.ite ?_ ?_
      | refine LeO.bind ?_ (fun _ => ?_)
theorem sluiceref8_Give.mono : ∀ a0 a1 k, LeO (sluiceref8_Give.f k a0 a1) (sluiceref8_Give.f (k + 1) a0 a1) := by
  intro a0 a1 k
  have ih0 := sluiceref8_Give.mono_l k
  unfold sluiceref8_Give.f
  repeat' first
      | (with_reducible exact ih0 _ _ _)
      | (with_reducible exact LeO.refl _)
      | (with_reducible exact LeO.none _)
      | (with_reducible refine LeO.ite ?_ ?_)
      | (with_reducible refine LeO.bind ?_ (fun _ => ?_))
      | exact ih0 _ _ _
      | exact LeO.none _
      | refine LeO.ite ?_ ?_
      | refine LeO.bind ?_ (fun _ => ?_)
set_option maxHeartbeats 8000000 in
set_option maxRecDepth 100000 in
theorem sluiceref8_Give.calls (k : Nat) (a0 : Int) (a1 : Int) (r : Int) (w : World) (h : sluiceref8_Give.f k a0 a1 = some r) :
    Calls Try.prog 31 #[.int .i64 a0, .int .i64 a1] w fun e w' => e = .returned (.int .i64 r) ∧ Drawn0 w w' := by
  have H : (if a0 ≤ 0 then (sluiceref8_Give.j0 k a0 a1 true) else (sluiceref8_Give.j0 k a0 a1 (decide (a1 ≤ 0)))) = some r := h
  clear h
  have HC3 := Aside0.mk H
  clear H
  go_enter Try.func31, Try.ntmps31
  go_upto_region 1 with (fail)
  go_cut [11] (fun v11 wc => ∃ (kq : Nat) (x11_2 : Bool), v11 = .bool x11_2 ∧ Aside0 (sluiceref8_Give.j0 kq a0 a1 x11_2 = some r) ∧ Aside0 (kq ≤ k) ∧ Drawn0 w wc)
  case first =>
    have H := HC3.out
    clear HC3
    by_cases c4 : a0 ≤ 0
    · rw [if_pos c4] at H
      have c4b0 : decide (a0 ≤ 0) = true := decide_eq_true c4
      clear c4
      (first | rw [c4b0] | (simp only [i64_w, i32_w]; rw [c4b0]) | skip)
      have H' := Aside0.mk H
      clear H
      go_wp2
      go_meet
      case rel => exact ⟨_, (true), (by first | rfl | (simp; done) | (simp [*]; done)), H', ⟨by first | omega | exact Nat.le_refl _⟩, by repeat (first | exact Drawn0.refl _ | apply Drawn0.step)⟩
    · rw [if_neg c4] at H
      have c4b0 : decide (a0 ≤ 0) = false := decide_eq_false c4
      clear c4
      (first | rw [c4b0] | (simp only [i64_w, i32_w]; rw [c4b0]) | skip)
      have H' := Aside0.mk H
      clear H
      go_wp2
      go_meet
      case rel => exact ⟨_, (decide (a1 ≤ 0)), (by first | rfl | (simp; done) | (simp [*]; done)), H', ⟨by first | omega | exact Nat.le_refl _⟩, by repeat (first | exact Drawn0.refl _ | apply Drawn0.step)⟩
  case rest =>
    clear HC3
    try clear p2
    try clear c3
    try clear c4
    try clear c4b0
    obtain ⟨kq, x11_2, rfl, HA, HJ2, ⟨mc2, rfl⟩⟩ := hcut
    cases kq with
    | zero => exact absurd HA.out (by simp [sluiceref8_Give.j0])
    | succ kj2 =>
      have H := HA.out
      clear HA
      simp only [sluiceref8_Give.j0] at H
      by_cases c5 : x11_2 = true
      · subst c5
        have H1 : (some 0) = some r := by rw [if_pos rfl] at H; exact H
        clear H
        have H := H1
        clear H1
        obtain rfl := Option.some.inj H
        go_wp2
        go_ret
        exact ⟨by first | rfl | (simp; done) | (simp [*]; done), by repeat (first | exact Drawn0.refl _ | apply Drawn0.step)⟩
      · replace c5 := Bool.eq_false_iff.mpr c5
        subst c5
        have H1 : (if a1 < (wrap64 ((wrap64 (Int.tdiv a0 2)) + (Int.tmod a0 2))) then (some a1) else (some (wrap64 ((wrap64 (Int.tdiv a0 2)) + (Int.tmod a0 2))))) = some r := by rw [if_neg (show ¬ (false = true) by decide)] at H; exact H
        clear H
        have H := H1
        clear H1
        by_cases c6 : a1 < (wrap64 ((wrap64 (Int.tdiv a0 2)) + (Int.tmod a0 2)))
        · rw [if_pos c6] at H
          have c6b0 : decide (a1 < (wrap64 ((wrap64 (Int.tdiv a0 2)) + (Int.tmod a0 2)))) = true := decide_eq_true c6
          clear c6
          obtain rfl := Option.some.inj H
          go_wp2
          go_ret
          exact ⟨by first | rfl | (simp; done) | (simp [*]; done), by repeat (first | exact Drawn0.refl _ | apply Drawn0.step)⟩
        · rw [if_neg c6] at H
          have c6b0 : decide (a1 < (wrap64 ((wrap64 (Int.tdiv a0 2)) + (Int.tmod a0 2)))) = false := decide_eq_false c6
          clear c6
          obtain rfl := Option.some.inj H
          go_wp2
          go_ret
          exact ⟨by first | rfl | (simp; done) | (simp [*]; done), by repeat (first | exact Drawn0.refl _ | apply Drawn0.step)⟩

end Go.Proofs.Ytnkkkbmkbmjghaa.P
