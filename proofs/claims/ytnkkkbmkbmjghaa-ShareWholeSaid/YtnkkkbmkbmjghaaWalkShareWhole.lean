/- The walk of ShareWhole: for every total and all weights the call answers true and turns nothing that was there. -/
import Derived.Test.YtnkkkbmkbmjghaaPlWhole
import Derived.Test.YtnkkkbmkbmjghaaPx4
namespace Go.Proofs.Ytnkkkbmkbmjghaa.WalkShareWhole
open Go.RowKit Go.Proofs.Ytnkkkbmkbmjghaa.P Go.Proofs.YtnkkkbmkbmjghaaW.PrintWords Go.Proofs.YtnkkkbmkbmjghaaW.PrintLast Go.Proofs.YtnkkkbmkbmjghaaW.PrintMore Go.Proofs.Ytnkkkbmkbmjghaa.Pl
set_option linter.unusedVariables false
set_option linter.unusedSimpArgs false

def vW (W : List Int) : List Int := vOf W
def moreL (total sum : Int) (v l : List Int) (k : Nat) : List Int := (List.range 16).map fun i => if i < k then l.getD i 0 - floorV total sum v i else 0
def restL (total sum : Int) (v : List Int) (k : Nat) : List Int := (List.range 16).map fun i => if i < k then restV total sum v (i : Int) else 0
theorem moreL_set (total sum : Int) (v l : List Int) (k : Nat) : (moreL total sum v l k).set k (l.getD k 0 - floorV total sum v k) = moreL total sum v l (k + 1) := by
  unfold moreL
  apply List.ext_getElem?
  intro i
  rw [List.getElem?_set]
  by_cases h : k = i
  · subst h
    by_cases h2 : k < 16 <;> simp [h2]
  · rw [if_neg h]
    by_cases h2 : i < 16
    · simp [h2, show (i < k + 1) = (i < k) from by apply propext; omega]
    · simp [h2]
theorem restL_set (total sum : Int) (v : List Int) (k : Nat) : (restL total sum v k).set k (restV total sum v (k : Int)) = restL total sum v (k + 1) := by
  unfold restL
  apply List.ext_getElem?
  intro i
  rw [List.getElem?_set]
  by_cases h : k = i
  · subst h
    by_cases h2 : k < 16 <;> simp [h2]
  · rw [if_neg h]
    by_cases h2 : i < 16
    · simp [h2, show (i < k + 1) = (i < k) from by apply propext; omega]
    · simp [h2]
theorem moreL_get (total sum : Int) (v l : List Int) (k i : Nat) (h : i < k) (h2 : i < 16) : (moreL total sum v l k).getD i 0 = l.getD i 0 - floorV total sum v i := by simp [moreL, List.getD_eq_getElem?_getD, h2, h]
theorem restL_get (total sum : Int) (v : List Int) (k i : Nat) (h : i < k) (h2 : i < 16) : (restL total sum v k).getD i 0 = restV total sum v (i : Int) := by simp [restL, List.getD_eq_getElem?_getD, h2, h]
theorem sumN_le_deal {m : Nat} {T sum : Int} {v : List Int} (h : P.Good (m + 1) T sum v) (D : List Int) (hD : dealV T sum v m = D) : ∀ k, k ≤ m + 1 → 0 ≤ sumN D k ∧ sumN D k ≤ k * 1099511627777 := by
  intro k
  induction k with
  | zero => intro _; simp [sumN]
  | succ k ih =>
    intro hk
    have h1 := ih (by omega)
    have h2 := deal_nonneg h k (by omega)
    have h3 := deal_le h k (by omega)
    rw [hD] at h2 h3
    simp only [sumN]; omega
set_option maxHeartbeats 40000000 in
set_option maxRecDepth 100000 in
theorem walk (a0 : Int) (a1 : Option Addr) (len1 cap1 : Nat) (z1 : List Int) (w : World) (w0 : (Lit.int .i64 a0).wf = true) (w1 : (a1 = none ∧ len1 = 0 ∧ cap1 = 0 ∧ z1 = []) ∨ ∃ x, a1 = some x ∧ len1 ≤ cap1 ∧ cap1 ≤ maxLen ∧ z1.length = cap1 ∧ (∀ i, i < z1.length → w.cell? (x.add i) = some (.int .i64 (z1.getD i 0))) ∧ ∀ n ∈ z1, (Lit.int .i64 n).wf = true) (y1 : len1 * 8 ≤ 140737488351232) :
    Calls Try.prog 3 #[.int .i64 a0, .slice a1 len1 cap1] w fun e w' => e = .returned (.bool true) ∧ Below w.heap.size w w' := by
  obtain ⟨l1, rfl, hr1, hm1, hw1, hc1⟩ := ReadsInt.ofRowC w1
  have hwf : -9223372036854775808 ≤ a0 ∧ a0 ≤ 9223372036854775807 := by simpa [Lit.wf, IntKind.min, IntKind.max, IntKind.signed, IntKind.bits] using w0
  obtain ⟨ka, hka⟩ := Ev.rounds able_ev
  obtain ⟨T, W, hW, hT0, hT1, hf⟩ := fair_ev a0 l1 hwf (by omega)
  obtain ⟨kf, hkf⟩ := Ev.rounds hf
  have HR := Aside0.mk (Kd.C_of_reads (d := (0 : Int)) (h1 := fun _ => rfl) hr1)
  have HC := Aside0.mk hc1
  have HKA := Aside0.mk hka
  have HKF := Aside0.mk hkf
  have HW := Aside0.mk hW
  have HB0 := Aside0.mk (Below.refl w.heap.size w)
  clear hr1 hc1 hka hkf hW hf w0 w1 hw1 hm1 y1 hwf
  obtain ⟨m, hm⟩ : ∃ m, W.length = m + 1 := ⟨W.length - 1, by have := HW.out.1; omega⟩
  have HG : Aside0 (P.Good (m + 1) T (sOf W) (vOf W)) := ⟨by have := good_of W T HW.out hT0 hT1; rwa [hm] at this⟩
  have HM := Aside0.mk hm
  have hn2 : W.length ≤ 16 := HW.out.2.1
  have hn1 : 1 ≤ W.length := HW.out.1
  obtain ⟨D, hD⟩ : ∃ D, dealV T (sOf W) (vOf W) m = D := ⟨_, rfl⟩
  have HD := Aside0.mk hD
  have HDL : Aside0 (D.length = W.length) := ⟨by rw [← hD, deal_len, hm]⟩
  have HDE : Aside0 (share_Deal.f T W = some (D, 0)) := ⟨by rw [deal_good T W HW.out hT0 hT1, ← hD, hm]; rfl⟩
  clear hD hm
  go_enter Try.func3, Try.ntmps3
  go_wp2_with fail
  refine (sluicelaw8_able.calls ka true _ HKA.out).mono ?_
  rintro e wa ⟨rfl, hba⟩
  have HBA := Aside0.mk hba
  clear hba
  go_wp2_with fail
  refine (sluicelaw8_fair.calls kf a0 a1 cap1 l1 T W _ (Kd.C_below HR.out HBA.out) HC.out HKF.out).mono ?_
  rintro e wb ⟨vW, rfl, hRW, hbb⟩
  have HBB : Aside0 (Below w.heap.size w wb) := ⟨HBA.out.trans (hbb.mono HBA.out.size)⟩
  obtain ⟨AW, cW, rfl, hcW, hCW⟩ := Kd.R_reads hRW
  have HCW := Aside0.mk hCW
  have HcW := Aside0.mk hcW
  clear hRW hbb hCW hcW
  go_wp2_with fail
  refine (share_Deal.calls T AW cW W D 0 _ HCW.out HcW.out HDE.out).mono ?_
  rintro e wc ⟨vD, rfl, hRD, hbc⟩
  have HBC : Aside0 (Below w.heap.size w wc) := ⟨HBB.out.trans (hbc.mono HBB.out.size)⟩
  have HCW2 : Aside0 (Kd.C (Kd.int .i64) wc AW W.length W) := ⟨Kd.C_below HCW.out hbc⟩
  obtain ⟨AD, cD, rfl, hcD, hCD⟩ := Kd.R_reads hRD
  rw [HDL.out] at hCD
  rw [HDL.out]
  have HCD := Aside0.mk hCD
  clear hRD hbc hCD hcD HCW HcW HBB HBA HB0 HR HC HKA HKF
  have hpos : (1 : Int) ≤ (W.length : Int) := by omega
  have hmax : (W.length : Int) ≤ 16 := by omega
  have b0 := HG.out.b.t0; have b1 := HG.out.b.t1; have b2 := HG.out.b.s0; have b3 := HG.out.b.s1
  go_wp2_with fail
  go_loop [7, 8] (fun s i => ∃ k : Nat, i = .int .i64 (k : Int) ∧ k ≤ W.length ∧ s = .int .i64 (sumN W k)) (fun _ i => W.length - (intOf i).toNat)
  case atStart => exact ⟨0, rfl, Nat.zero_le _, rfl⟩
  case round =>
    obtain ⟨k, rfl, hk, rfl⟩ := hrel
    have hb1 := sumN_bd HW.out.2.2 k hk
    by_cases hlt : k < W.length
    · obtain ⟨ad, rfl, hc0⟩ := Kd.at_int HCW2.out (k : Int) (by omega) (by omega)
      have hc : wc.cell? (ad.add k) = some (.int .i64 (rd W (k : Int))) := hc0
      have hx2 := HW.out.2.2 k hlt
      clear hc0
      obtain ⟨x, hx⟩ : ∃ x, rd W (k : Int) = x := ⟨_, rfl⟩
      rw [hx] at hc hx2
      have HX := Aside0.mk hx
      clear hx
      obtain ⟨s, hs⟩ : ∃ s, sumN W k = s := ⟨_, rfl⟩
      rw [hs] at hb1 ⊢
      have HS := Aside0.mk hs
      clear hs
      go_wp2
      go_round
      case rel => exact ⟨k + 1, by go_num, by omega, by simp only [sumN]; rw [HS.out, HX.out]⟩
      case measure => simp [intOf]; omega
    · obtain rfl : k = W.length := by omega
      obtain ⟨sm, hsm⟩ : ∃ sm, sumN W W.length = sm := ⟨_, rfl⟩
      rw [hsm] at hb1 ⊢
      have HSM := Aside0.mk hsm
      clear hsm hlt hk
      rcases Int.lt_or_le 0 sm with hp | hp
      · have hsv : sOf W = sm := by unfold sOf; rw [HSM.out, if_pos hp]
        have hvv : ∀ k : Nat, k < W.length → rd (vOf W) (k : Int) = rd W (k : Int) := fun k hk => by unfold vOf; rw [HSM.out, if_pos hp]
        have HP := Aside0.mk hp
        have HSV := Aside0.mk hsv
        have HVV := Aside0.mk hvv
        have s0 : 1 ≤ sm := by rw [← hsv]; exact b2
        have s1 : sm ≤ 16777216 := by rw [← hsv]; exact b3
        have sn0 : ¬ sm = 0 := by omega
        have HG2 : Aside0 (P.Good (m + 1) T sm (vOf W)) := ⟨by rw [← hsv]; exact HG.out⟩
        have HD2 : Aside0 (dealV T sm (vOf W) m = D) := ⟨by rw [← hsv]; exact HD.out⟩
        clear hsv hvv
        obtain ⟨v, hv⟩ : ∃ v, vOf W = v := ⟨_, rfl⟩
        rw [hv] at HG2 HD2 HVV
        clear hv b2 b3
        go_wp2_with fail
        go_loopw [10, 13] (fun al i wr => ∃ k : Nat, i = .int .i64 (k : Int) ∧ k ≤ W.length ∧ al = .int .i64 (sumN D k) ∧ Aside0 (Below w.heap.size w wr ∧ Below wc.heap.size wc wr ∧ wr.heap[wc.heap.size]? = some (.cells (rowV (moreL T sm v D k)) 29 (0, 0)) ∧ wr.heap[wc.heap.size + 1]? = some (.cells (rowV (restL T sm v k)) 29 (0, 0)))) (fun _ i _ => W.length - (intOf i).toNat)
        case atStart =>
          refine ⟨0, rfl, Nat.zero_le _, rfl, ⟨(HBC.out.alloc HBC.out.size _).alloc (by have := HBC.out.size; simp; omega) _, ((Below.refl _ _).alloc (Nat.le_refl _) _).alloc (by simp) _, ?_, ?_⟩⟩
          · rw [Below.heap_alloc _ _ _ (by simp), heap_alloc_new]; rfl
          · have := heap_alloc_new (wc.alloc (.cells #[.int .i64 0, .int .i64 0, .int .i64 0, .int .i64 0, .int .i64 0, .int .i64 0, .int .i64 0, .int .i64 0, .int .i64 0, .int .i64 0, .int .i64 0, .int .i64 0, .int .i64 0, .int .i64 0, .int .i64 0, .int .i64 0] 29)) (.cells #[.int .i64 0, .int .i64 0, .int .i64 0, .int .i64 0, .int .i64 0, .int .i64 0, .int .i64 0, .int .i64 0, .int .i64 0, .int .i64 0, .int .i64 0, .int .i64 0, .int .i64 0, .int .i64 0, .int .i64 0, .int .i64 0] 29)
            simp only [World.size_alloc] at this
            exact this
        case round =>
          obtain ⟨k, rfl, hk, rfl, HS⟩ := hrel
          by_cases hlt : k < W.length
          · have c4 := HG2.out.b.x k (by have := HM.out; omega)
            have lev := HG2.out.le (show k < m + 1 by have := HM.out; omega)
            have fl := HG2.out.floor (show k < m + 1 by have := HM.out; omega)
            have dn := deal_nonneg HG2.out k (by have := HM.out; omega)
            have dl := deal_le HG2.out k (by have := HM.out; omega)
            have pe := part_eq (m := m) (total := T) (sum := sm) (v := v) k (by have := HM.out; omega)
            have cr := chos_rest HG2.out k (by have := HM.out; omega)
            have zw := zero_weight HG2.out k (by have := HM.out; omega)
            have rb := rest_bd HG2.out k
            rw [HD2.out] at dn dl pe zw
            obtain ⟨p0, p1⟩ := prod_bd b0 b1 c4.1 c4.2
            obtain ⟨adD, rfl, hd0⟩ := Kd.at_int HCD.out (k : Int) (by omega) (by rw [HDL.out] at *; omega)
            have hdc : wr.cell? (adD.add k) = some (.int .i64 (rd D (k : Int))) := (HS.out.2.1.cell (p := adD.add k) (World.block_lt_of_cell? wc _ hd0)).trans hd0
            obtain ⟨adW, rfl, hw0⟩ := Kd.at_int HCW2.out (k : Int) (by omega) (by omega)
            have hwc : wr.cell? (adW.add k) = some (.int .i64 (rd W (k : Int))) := (HS.out.2.1.cell (p := adW.add k) (World.block_lt_of_cell? wc _ hw0)).trans hw0
            have cm := rowV_cell HS.out.2.2.1 (k := k) (by simp [moreL]; omega)
            have fm := rowV_free HS.out.2.2.1 k
            have cr2 := rowV_cell HS.out.2.2.2 (k := k) (by simp [restL]; omega)
            have fr2 := rowV_free HS.out.2.2.2 k
            have hwb : adW.block < wc.heap.size := by rw [← P.add_block adW k]; exact World.block_lt_of_cell? wc _ hw0
            have hdb : adD.block < wc.heap.size := by rw [← P.add_block adD k]; exact World.block_lt_of_cell? wc _ hd0
            have ck := HVV.out k hlt
            obtain ⟨x, hx⟩ : ∃ x, rd v (k : Int) = x := ⟨_, rfl⟩
            obtain ⟨y, hy⟩ : ∃ y, rd D (k : Int) = y := ⟨_, rfl⟩
            obtain ⟨F, hF⟩ : ∃ F, floorV T sm v k = F := ⟨_, rfl⟩
            obtain ⟨R, hR⟩ : ∃ R, restV T sm v (k : Int) = R := ⟨_, rfl⟩
            have HFF : Aside0 (T * x / sm = F) := ⟨by rw [← hx]; exact hF⟩
            have HRR : Aside0 (T * x % sm = R) := ⟨by rw [← hx]; exact hR⟩
            have HXX : Aside0 (rd v (k : Int) = x ∧ rd D (k : Int) = y ∧ floorV T sm v k = F ∧ restV T sm v (k : Int) = R) := ⟨⟨hx, hy, hF, hR⟩⟩
            rw [hx] at c4 lev p0 p1 zw ck
            rw [hy] at dn dl pe zw hdc
            rw [hF] at fl pe
            rw [hR] at cr rb
            have hq : ∀ A B : Prop, True := fun _ _ => trivial
            have more : y = F ∨ (y = F + 1 ∧ 0 < R) := by
              by_cases hc : chos m T sm v k
              · exact Or.inr ⟨pe.1 hc, cr hc⟩
              · exact Or.inl (pe.2 hc)
            clear hx hy hF hR pe cr hq lev
            have hf0 : 0 ≤ T * x / sm := by rw [HFF.out]; exact fl.1
            have hf1 : T * x / sm ≤ 1099511627776 := by rw [HFF.out]; have := fl.2; omega
            have p2 : T * x ≤ 1152921504606846976 := by omega
            have i0 : (0 : Int) ≤ (k : Int) := by omega
            have i1 : (k : Int) < (W.length : Int) := by omega
            have i2 : (k : Int) < 16 := by omega
            have x0 := c4.1; have x1 := c4.2
            have hsk := sumN_le_deal HG2.out D HD2.out k (by have := HM.out; omega)
            obtain ⟨q, hqq⟩ : ∃ q, sumN D k = q := ⟨_, rfl⟩
            rw [hqq] at hsk ⊢
            have HQ := Aside0.mk hqq
            obtain ⟨z1, hz1⟩ : ∃ z, (moreL T sm v D k).getD k 0 = z := ⟨_, rfl⟩
            rw [hz1] at cm
            obtain ⟨z2, hz2⟩ : ∃ z, (restL T sm v k).getD k 0 = z := ⟨_, rfl⟩
            rw [hz2] at cr2
            have HZW := Aside0.mk zw
            have HFL := Aside0.mk fl
            have HMO := Aside0.mk more
            have HRB := Aside0.mk rb
            have HCK := Aside0.mk ck
            have HBL := Aside0.mk (And.intro hwb hdb)
            clear hqq hz1 hz2 p1 c4 zw fl more rb hwb hdb hw0 hd0
            rw [← ck] at hwc
            clear ck
            go_wp2_with fail
            go_region
            obtain ⟨wx, hwx⟩ : ∃ wx, wx = (wr.setCell ⟨wc.heap.size, k, none⟩ (.int .i64 (y - T * x / sm))).drew := ⟨_, rfl⟩
            have HX1 : Aside0 (Below w.heap.size w wx ∧ Below wc.heap.size wc wx ∧ wx.heap[wc.heap.size]? = some (.cells (rowV (moreL T sm v D (k + 1))) 29 (0, 0)) ∧ wx.heap[wc.heap.size + 1]? = some (.cells (rowV (restL T sm v k)) 29 (0, 0))) := ⟨by
              rw [hwx]
              refine ⟨pw_below_drewN (HS.out.1.setCell HBC.out.size _) 1, pw_below_drewN (HS.out.2.1.setCell (Nat.le_refl _) _) 1, ?_, ?_⟩
              · show (wr.setCell _ _).heap[wc.heap.size]? = _
                rw [← moreL_set, ← rd_getD, HXX.out.2.1, HXX.out.2.2.1, ← HFF.out]
                exact rowV_set HS.out.2.2.1 k _
              · show (wr.setCell _ _).heap[wc.heap.size + 1]? = _
                rw [Below.heap_setCell _ _ _ _ (by simp)]; exact HS.out.2.2.2⟩
            rw [← hwx]
            clear hwx cm fm cr2 fr2 hdc hwc HS
            have cmx := rowV_cell HX1.out.2.2.1 (k := k) (by simp [moreL]; omega)
            rw [moreL_get _ _ _ _ _ _ (by omega) (by omega), ← rd_getD, HXX.out.2.1, HXX.out.2.2.1] at cmx
            have crx := rowV_cell HX1.out.2.2.2 (k := k) (by simp [restL]; omega)
            have frx := rowV_free HX1.out.2.2.2 k
            obtain ⟨z3, hz3⟩ : ∃ z, (restL T sm v k).getD k 0 = z := ⟨_, rfl⟩
            rw [hz3] at crx
            have hcD : wx.cell? (adD.add k) = some (.int .i64 y) := by
              obtain ⟨ad3, e3, h3⟩ := Kd.at_int HCD.out (k : Int) (by omega) (by omega)
              obtain rfl := Option.some.inj e3
              rw [← HXX.out.2.1]
              exact (HX1.out.2.1.cell (p := adD.add k) (World.block_lt_of_cell? wc _ h3)).trans h3
            have hcD2 : ∀ u : Value, (wx.setCell ⟨wc.heap.size + 1, k, none⟩ u).cell? (adD.add k) = some (.int .i64 y) := fun u => cell_far hcD (by rw [P.add_block]; have := HBL.out.2; simp only; omega)
            have r0 : 0 ≤ T * x % sm := by rw [HRR.out]; exact HRB.out.1
            have r1 : T * x % sm ≤ 16777216 := by rw [HRR.out]; have := HRB.out.2; omega
            clear hz3
            rcases HMO.out with hmo | ⟨hmo, hR⟩
            · have eM : y - F = 0 := by omega
              rw [eM] at cmx
              clear hmo eM
              by_cases hx0 : x = 0
              · have hb1 : (x == 0) = true := by rw [hx0]; rfl
                have hy0 : y = 0 := HZW.out hx0
                have HY0 := Aside0.mk hy0
                have hb2 : (y == 0) = true := by rw [hy0]; rfl
                have hb3 : (y != 0) = false := by rw [hy0]; rfl
                clear hx0 hy0
                go_wp2
                go_roundw
                case rel => exact ⟨k + 1, by go_num, by omega, by (first | (simp only [sumN]; rw [HQ.out, HXX.out.2.1]; done) | (simp only [sumN]; rw [HQ.out, HXX.out.2.1, HY0.out, Int.add_zero])), ⟨HX1.out.1.setCell (by have := HBC.out.size; simp only; omega) _, HX1.out.2.1.setCell (by simp only; omega) _, by rw [Below.heap_setCell _ _ _ _ (by simp)]; exact HX1.out.2.2.1, by rw [← restL_set, HXX.out.2.2.2, ← HRR.out]; exact rowV_set HX1.out.2.2.2 k _⟩⟩
                case measure => simp [intOf]; omega
              · have hb1 : (x == 0) = false := by rw [beq_eq_false_iff_ne]; exact hx0
                clear hx0
                go_wp2
                go_roundw
                case rel => exact ⟨k + 1, by go_num, by omega, by (first | (simp only [sumN]; rw [HQ.out, HXX.out.2.1]; done) | (simp only [sumN]; rw [HQ.out, HXX.out.2.1, HY0.out, Int.add_zero])), ⟨HX1.out.1.setCell (by have := HBC.out.size; simp only; omega) _, HX1.out.2.1.setCell (by simp only; omega) _, by rw [Below.heap_setCell _ _ _ _ (by simp)]; exact HX1.out.2.2.1, by rw [← restL_set, HXX.out.2.2.2, ← HRR.out]; exact rowV_set HX1.out.2.2.2 k _⟩⟩
                case measure => simp [intOf]; omega
            · have eM : y - F = 1 := by omega
              rw [eM] at cmx
              have hR2 : (T * x % sm == 0) = false := by rw [HRR.out, beq_eq_false_iff_ne]; omega
              clear hmo eM hR
              by_cases hx0 : x = 0
              · have hb1 : (x == 0) = true := by rw [hx0]; rfl
                have hy0 : y = 0 := HZW.out hx0
                have HY0 := Aside0.mk hy0
                have hb2 : (y == 0) = true := by rw [hy0]; rfl
                have hb3 : (y != 0) = false := by rw [hy0]; rfl
                clear hx0 hy0
                go_wp2
                go_roundw
                case rel => exact ⟨k + 1, by go_num, by omega, by (first | (simp only [sumN]; rw [HQ.out, HXX.out.2.1]; done) | (simp only [sumN]; rw [HQ.out, HXX.out.2.1, HY0.out, Int.add_zero])), ⟨HX1.out.1.setCell (by have := HBC.out.size; simp only; omega) _, HX1.out.2.1.setCell (by simp only; omega) _, by rw [Below.heap_setCell _ _ _ _ (by simp)]; exact HX1.out.2.2.1, by rw [← restL_set, HXX.out.2.2.2, ← HRR.out]; exact rowV_set HX1.out.2.2.2 k _⟩⟩
                case measure => simp [intOf]; omega
              · have hb1 : (x == 0) = false := by rw [beq_eq_false_iff_ne]; exact hx0
                clear hx0
                go_wp2
                go_roundw
                case rel => exact ⟨k + 1, by go_num, by omega, by (first | (simp only [sumN]; rw [HQ.out, HXX.out.2.1]; done) | (simp only [sumN]; rw [HQ.out, HXX.out.2.1, HY0.out, Int.add_zero])), ⟨HX1.out.1.setCell (by have := HBC.out.size; simp only; omega) _, HX1.out.2.1.setCell (by simp only; omega) _, by rw [Below.heap_setCell _ _ _ _ (by simp)]; exact HX1.out.2.2.1, by rw [← restL_set, HXX.out.2.2.2, ← HRR.out]; exact rowV_set HX1.out.2.2.2 k _⟩⟩
                case measure => simp [intOf]; omega
          · have HSM2 : Aside0 (sumN D k = T) := ⟨by
              have e : k = m + 1 := by have := HM.out; omega
              rw [e, ← HD2.out]; exact deal_sum HG2.out⟩
            obtain ⟨q, hqq⟩ : ∃ q, sumN D k = q := ⟨_, rfl⟩
            rw [hqq] at HSM2 ⊢
            have hkW : k = W.length := by omega
            have HKW := Aside0.mk hkW
            clear hqq hkW
            clear b0 b1 s0 s1 sn0 hpos hmax
            go_wp2_with fail
            go_loopw [15] (fun ii wi => ∃ i n : Nat, ii = .int .i64 (i : Int) ∧ i ≤ W.length ∧ wi = wr.drewN n) (fun ii _ => W.length - (intOf ii).toNat)
            case atStart => exact ⟨0, 0, rfl, Nat.zero_le _, rfl⟩
            case round =>
              obtain ⟨i, n, rfl, hi, rfl⟩ := hrel
              have hl16 : W.length ≤ 16 := hn2
              by_cases hlt3 : i < W.length
              · go_wp2_with fail
                go_loopw [16] (fun jj wj => ∃ j n : Nat, jj = .int .i64 (j : Int) ∧ j ≤ W.length ∧ wj = wr.drewN n) (fun jj _ => W.length - (intOf jj).toNat)
                case atStart => exact ⟨0, n, rfl, Nat.zero_le _, rfl⟩
                case round =>
                  obtain ⟨j, q2, rfl, hj, rfl⟩ := hrel
                  by_cases hlt4 : j < W.length
                  · have him : i < m + 1 := by have := HM.out; omega
                    have hjm : j < m + 1 := by have := HM.out; omega
                    obtain ⟨adD, rfl, hd0⟩ := Kd.at_int HCD.out (i : Int) (by omega) (by omega)
                    have cDi : wr.cell? (adD.add i) = some (.int .i64 (rd D (i : Int))) := (HS.out.2.1.cell (p := adD.add i) (World.block_lt_of_cell? wc _ hd0)).trans hd0
                    obtain ⟨adD2, e2, hd2⟩ := Kd.at_int HCD.out (j : Int) (by omega) (by omega)
                    obtain rfl := Option.some.inj e2
                    have cDj : wr.cell? (adD.add j) = some (.int .i64 (rd D (j : Int))) := (HS.out.2.1.cell (p := adD.add j) (World.block_lt_of_cell? wc _ hd2)).trans hd2
                    obtain ⟨adW, rfl, hw0⟩ := Kd.at_int HCW2.out (i : Int) (by omega) (by omega)
                    have cWi : wr.cell? (adW.add i) = some (.int .i64 (rd W (i : Int))) := (HS.out.2.1.cell (p := adW.add i) (World.block_lt_of_cell? wc _ hw0)).trans hw0
                    obtain ⟨adW2, e2, hw2⟩ := Kd.at_int HCW2.out (j : Int) (by omega) (by omega)
                    obtain rfl := Option.some.inj e2
                    have cWj : wr.cell? (adW.add j) = some (.int .i64 (rd W (j : Int))) := (HS.out.2.1.cell (p := adW.add j) (World.block_lt_of_cell? wc _ hw2)).trans hw2
                    have cMi := rowV_cell HS.out.2.2.1 (k := i) (by simp [moreL]; omega)
                    have cMj := rowV_cell HS.out.2.2.1 (k := j) (by simp [moreL]; omega)
                    have cRi := rowV_cell HS.out.2.2.2 (k := i) (by simp [restL]; omega)
                    have cRj := rowV_cell HS.out.2.2.2 (k := j) (by simp [restL]; omega)
                    have hkW := HKW.out
                    rw [moreL_get _ _ _ _ _ _ (by omega) (by omega), ← rd_getD] at cMi
                    rw [moreL_get _ _ _ _ _ _ (by omega) (by omega), ← rd_getD] at cMj
                    rw [restL_get _ _ _ _ _ (by omega) (by omega)] at cRi
                    rw [restL_get _ _ _ _ _ (by omega) (by omega)] at cRj
                    have pi_ := part_eq (m := m) (total := T) (sum := sm) (v := v) i him
                    have pj_ := part_eq (m := m) (total := T) (sum := sm) (v := v) j hjm
                    have mw := more_weight HG2.out i j him hjm
                    have om := one_more (m := m) (total := T) (sum := sm) (v := v) i j him hjm
                    rw [HD2.out] at pi_ pj_ mw
                    have vi := HVV.out i hlt3
                    have vj := HVV.out j hlt4
                    have i0 : (0 : Int) ≤ (i : Int) := by omega
                    have i1 : (i : Int) < (W.length : Int) := by omega
                    have i2 : (i : Int) < 16 := by omega
                    have j0 : (0 : Int) ≤ (j : Int) := by omega
                    have j1 : (j : Int) < (W.length : Int) := by omega
                    have j2 : (j : Int) < 16 := by omega
                    obtain ⟨wi, hwi⟩ : ∃ x, rd W (i : Int) = x := ⟨_, rfl⟩
                    obtain ⟨wj, hwj⟩ : ∃ x, rd W (j : Int) = x := ⟨_, rfl⟩
                    obtain ⟨li, hli⟩ : ∃ x, rd D (i : Int) = x := ⟨_, rfl⟩
                    obtain ⟨lj, hlj⟩ : ∃ x, rd D (j : Int) = x := ⟨_, rfl⟩
                    obtain ⟨Fi, hFi⟩ : ∃ x, floorV T sm v i = x := ⟨_, rfl⟩
                    obtain ⟨Fj, hFj⟩ : ∃ x, floorV T sm v j = x := ⟨_, rfl⟩
                    obtain ⟨Ri, hRi⟩ : ∃ x, restV T sm v (i : Int) = x := ⟨_, rfl⟩
                    obtain ⟨Rj, hRj⟩ : ∃ x, restV T sm v (j : Int) = x := ⟨_, rfl⟩
                    rw [vi] at mw
                    rw [vj] at mw
                    rw [hwi] at cWi mw
                    rw [hwj] at cWj mw
                    rw [hli] at cDi cMi pi_ mw
                    rw [hlj] at cDj cMj pj_ mw
                    rw [hFi] at cMi pi_
                    rw [hFj] at cMj pj_
                    rw [hRi] at cRi om
                    rw [hRj] at cRj om
                    have HMW := Aside0.mk mw
                    clear hwi hwj hli hlj hFi hFj hRi hRj vi vj mw hd0 hd2 hw0 hw2 hkW
                    have hsplit : (∃ Mi : Int, li - Fi = Mi ∧ Mi = 0) ∨ (li - Fi = 1 ∧ lj - Fj = 1) ∨ (li - Fi = 1 ∧ lj - Fj = 0 ∧ ¬ Ri < Rj ∧ (Ri = Rj → ¬ j < i)) := by
                      by_cases ci : chos m T sm v i
                      · by_cases cj : chos m T sm v j
                        · have := pi_.1 ci; have := pj_.1 cj; exact Or.inr (Or.inl ⟨by omega, by omega⟩)
                        · have := pi_.1 ci; have := pj_.2 cj; exact Or.inr (Or.inr ⟨by omega, by omega, (om ci cj).1, (om ci cj).2⟩)
                      · have := pi_.2 ci; exact Or.inl ⟨_, rfl, by omega⟩
                    clear pi_ pj_ om
                    obtain ⟨Mi, hMi⟩ : ∃ x, li - Fi = x := ⟨_, rfl⟩
                    obtain ⟨Mj, hMj⟩ : ∃ x, lj - Fj = x := ⟨_, rfl⟩
                    rw [hMi] at cMi hsplit
                    rw [hMj] at cMj hsplit
                    clear hMi hMj
                    have hfin : ∀ (a : Act) (Q : Exit → Act → World → Prop), True := fun _ _ => trivial
                    clear hfin
                    rcases Int.lt_or_le wj wi with hA | hA
                    · have hA2 : ¬ li < lj := by have := HMW.out hA; omega
                      have g2 : decide (li < lj) = false := decide_eq_false hA2
                      clear hA2
                      rcases hsplit with ⟨Mi', e1, e2⟩ | ⟨e1, e2⟩ | ⟨e1, e2, e3, e4⟩
                      · obtain rfl : Mi = 0 := by omega
                        clear e1 e2
                        go_wp2_with fail
                        go_quiet (fail)
                        go_wp2
                        go_roundw
                        case rel => exact ⟨j + 1, _, by go_num, by omega, rfl⟩
                        case measure => simp [intOf]; omega
                      · subst e1
                        subst e2
                        go_wp2_with fail
                        go_quiet (fail)
                        go_wp2
                        go_roundw
                        case rel => exact ⟨j + 1, _, by go_num, by omega, rfl⟩
                        case measure => simp [intOf]; omega
                      · subst e1
                        subst e2
                        have g3 : decide (Ri < Rj) = false := decide_eq_false e3
                        by_cases hr : Ri = Rj
                        · have g4 : (Ri == Rj) = true := by rw [hr]; simp
                          have g5 : decide (j < i) = false := decide_eq_false (e4 hr)
                          clear e3 e4 hr
                          go_wp2_with fail
                          go_quiet (fail)
                          go_wp2
                          go_roundw
                          case rel => exact ⟨j + 1, _, by go_num, by omega, rfl⟩
                          case measure => simp [intOf]; omega
                        · have g4 : (Ri == Rj) = false := by rw [beq_eq_false_iff_ne]; exact hr
                          clear e3 e4 hr
                          go_wp2_with fail
                          go_quiet (fail)
                          go_wp2
                          go_roundw
                          case rel => exact ⟨j + 1, _, by go_num, by omega, rfl⟩
                          case measure => simp [intOf]; omega
                    · have g1 : decide (wj < wi) = false := decide_eq_false (by omega)
                      clear hA
                      rcases hsplit with ⟨Mi', e1, e2⟩ | ⟨e1, e2⟩ | ⟨e1, e2, e3, e4⟩
                      · obtain rfl : Mi = 0 := by omega
                        clear e1 e2
                        go_wp2_with fail
                        go_quiet (fail)
                        go_wp2
                        go_roundw
                        case rel => exact ⟨j + 1, _, by go_num, by omega, rfl⟩
                        case measure => simp [intOf]; omega
                      · subst e1
                        subst e2
                        go_wp2_with fail
                        go_quiet (fail)
                        go_wp2
                        go_roundw
                        case rel => exact ⟨j + 1, _, by go_num, by omega, rfl⟩
                        case measure => simp [intOf]; omega
                      · subst e1
                        subst e2
                        have g3 : decide (Ri < Rj) = false := decide_eq_false e3
                        by_cases hr : Ri = Rj
                        · have g4 : (Ri == Rj) = true := by rw [hr]; simp
                          have g5 : decide (j < i) = false := decide_eq_false (e4 hr)
                          clear e3 e4 hr
                          go_wp2_with fail
                          go_quiet (fail)
                          go_wp2
                          go_roundw
                          case rel => exact ⟨j + 1, _, by go_num, by omega, rfl⟩
                          case measure => simp [intOf]; omega
                        · have g4 : (Ri == Rj) = false := by rw [beq_eq_false_iff_ne]; exact hr
                          clear e3 e4 hr
                          go_wp2_with fail
                          go_quiet (fail)
                          go_wp2
                          go_roundw
                          case rel => exact ⟨j + 1, _, by go_num, by omega, rfl⟩
                          case measure => simp [intOf]; omega
                  · go_wp2
                    go_roundw
                    case rel => exact ⟨i + 1, q2, by go_num, by omega, rfl⟩
                    case measure => simp [intOf]; omega
              · have hTq : (q == T) = true := by rw [HSM2.out]; simp
                go_wp2
                go_ret
                exact ⟨rfl, pw_below_drewN HS.out.1 _⟩
      · have hsv : sOf W = (W.length : Int) := by unfold sOf; rw [HSM.out, if_neg (by omega)]
        have hvv : ∀ k : Nat, k < W.length → rd (vOf W) (k : Int) = 1 := fun k hk => by unfold vOf; rw [HSM.out, if_neg (by omega), rd_ones hk]
        have HP := Aside0.mk hp
        have HSV := Aside0.mk hsv
        have HVV := Aside0.mk hvv
        have s0 : 1 ≤ (W.length : Int) := by rw [← hsv]; exact b2
        have s1 : (W.length : Int) ≤ 16777216 := by rw [← hsv]; exact b3
        have sn0 : ¬ (W.length : Int) = 0 := by omega
        have HG2 : Aside0 (P.Good (m + 1) T (W.length : Int) (vOf W)) := ⟨by rw [← hsv]; exact HG.out⟩
        have HD2 : Aside0 (dealV T (W.length : Int) (vOf W) m = D) := ⟨by rw [← hsv]; exact HD.out⟩
        clear hsv hvv
        have hp2 : ¬ 0 < sm := by omega
        clear hp
        obtain ⟨v, hv⟩ : ∃ v, vOf W = v := ⟨_, rfl⟩
        rw [hv] at HG2 HD2 HVV
        clear hv b2 b3
        go_wp2_with fail
        go_loopw [10, 13] (fun al i wr => ∃ k : Nat, i = .int .i64 (k : Int) ∧ k ≤ W.length ∧ al = .int .i64 (sumN D k) ∧ Aside0 (Below w.heap.size w wr ∧ Below wc.heap.size wc wr ∧ wr.heap[wc.heap.size]? = some (.cells (rowV (moreL T (W.length : Int) v D k)) 29 (0, 0)) ∧ wr.heap[wc.heap.size + 1]? = some (.cells (rowV (restL T (W.length : Int) v k)) 29 (0, 0)))) (fun _ i _ => W.length - (intOf i).toNat)
        case atStart =>
          refine ⟨0, rfl, Nat.zero_le _, rfl, ⟨(HBC.out.alloc HBC.out.size _).alloc (by have := HBC.out.size; simp; omega) _, ((Below.refl _ _).alloc (Nat.le_refl _) _).alloc (by simp) _, ?_, ?_⟩⟩
          · rw [Below.heap_alloc _ _ _ (by simp), heap_alloc_new]; rfl
          · have := heap_alloc_new (wc.alloc (.cells #[.int .i64 0, .int .i64 0, .int .i64 0, .int .i64 0, .int .i64 0, .int .i64 0, .int .i64 0, .int .i64 0, .int .i64 0, .int .i64 0, .int .i64 0, .int .i64 0, .int .i64 0, .int .i64 0, .int .i64 0, .int .i64 0] 29)) (.cells #[.int .i64 0, .int .i64 0, .int .i64 0, .int .i64 0, .int .i64 0, .int .i64 0, .int .i64 0, .int .i64 0, .int .i64 0, .int .i64 0, .int .i64 0, .int .i64 0, .int .i64 0, .int .i64 0, .int .i64 0, .int .i64 0] 29)
            simp only [World.size_alloc] at this
            exact this
        case round =>
          obtain ⟨k, rfl, hk, rfl, HS⟩ := hrel
          by_cases hlt : k < W.length
          · have c4 := HG2.out.b.x k (by have := HM.out; omega)
            have lev := HG2.out.le (show k < m + 1 by have := HM.out; omega)
            have fl := HG2.out.floor (show k < m + 1 by have := HM.out; omega)
            have dn := deal_nonneg HG2.out k (by have := HM.out; omega)
            have dl := deal_le HG2.out k (by have := HM.out; omega)
            have pe := part_eq (m := m) (total := T) (sum := (W.length : Int)) (v := v) k (by have := HM.out; omega)
            have cr := chos_rest HG2.out k (by have := HM.out; omega)
            have zw := zero_weight HG2.out k (by have := HM.out; omega)
            have rb := rest_bd HG2.out k
            rw [HD2.out] at dn dl pe zw
            obtain ⟨p0, p1⟩ := prod_bd b0 b1 c4.1 c4.2
            obtain ⟨adD, rfl, hd0⟩ := Kd.at_int HCD.out (k : Int) (by omega) (by rw [HDL.out] at *; omega)
            have hdc : wr.cell? (adD.add k) = some (.int .i64 (rd D (k : Int))) := (HS.out.2.1.cell (p := adD.add k) (World.block_lt_of_cell? wc _ hd0)).trans hd0
            obtain ⟨adW, rfl, hw0⟩ := Kd.at_int HCW2.out (k : Int) (by omega) (by omega)
            have hwc : wr.cell? (adW.add k) = some (.int .i64 (rd W (k : Int))) := (HS.out.2.1.cell (p := adW.add k) (World.block_lt_of_cell? wc _ hw0)).trans hw0
            have cm := rowV_cell HS.out.2.2.1 (k := k) (by simp [moreL]; omega)
            have fm := rowV_free HS.out.2.2.1 k
            have cr2 := rowV_cell HS.out.2.2.2 (k := k) (by simp [restL]; omega)
            have fr2 := rowV_free HS.out.2.2.2 k
            have hwb : adW.block < wc.heap.size := by rw [← P.add_block adW k]; exact World.block_lt_of_cell? wc _ hw0
            have hdb : adD.block < wc.heap.size := by rw [← P.add_block adD k]; exact World.block_lt_of_cell? wc _ hd0
            have ck := HVV.out k hlt
            obtain ⟨x, hx⟩ : ∃ x, rd v (k : Int) = x := ⟨_, rfl⟩
            obtain ⟨y, hy⟩ : ∃ y, rd D (k : Int) = y := ⟨_, rfl⟩
            obtain ⟨F, hF⟩ : ∃ F, floorV T (W.length : Int) v k = F := ⟨_, rfl⟩
            obtain ⟨R, hR⟩ : ∃ R, restV T (W.length : Int) v (k : Int) = R := ⟨_, rfl⟩
            have HFF : Aside0 (T * x / (W.length : Int) = F) := ⟨by rw [← hx]; exact hF⟩
            have HRR : Aside0 (T * x % (W.length : Int) = R) := ⟨by rw [← hx]; exact hR⟩
            have HXX : Aside0 (rd v (k : Int) = x ∧ rd D (k : Int) = y ∧ floorV T (W.length : Int) v k = F ∧ restV T (W.length : Int) v (k : Int) = R) := ⟨⟨hx, hy, hF, hR⟩⟩
            rw [hx] at c4 lev p0 p1 zw ck
            rw [hy] at dn dl pe zw hdc
            rw [hF] at fl pe
            rw [hR] at cr rb
            have hq : ∀ A B : Prop, True := fun _ _ => trivial
            have more : y = F ∨ (y = F + 1 ∧ 0 < R) := by
              by_cases hc : chos m T (W.length : Int) v k
              · exact Or.inr ⟨pe.1 hc, cr hc⟩
              · exact Or.inl (pe.2 hc)
            clear hx hy hF hR pe cr hq lev
            have hf0 : 0 ≤ T * x / (W.length : Int) := by rw [HFF.out]; exact fl.1
            have hf1 : T * x / (W.length : Int) ≤ 1099511627776 := by rw [HFF.out]; have := fl.2; omega
            have p2 : T * x ≤ 1152921504606846976 := by omega
            have i0 : (0 : Int) ≤ (k : Int) := by omega
            have i1 : (k : Int) < (W.length : Int) := by omega
            have i2 : (k : Int) < 16 := by omega
            have x0 := c4.1; have x1 := c4.2
            have hsk := sumN_le_deal HG2.out D HD2.out k (by have := HM.out; omega)
            obtain ⟨q, hqq⟩ : ∃ q, sumN D k = q := ⟨_, rfl⟩
            rw [hqq] at hsk ⊢
            have HQ := Aside0.mk hqq
            obtain ⟨z1, hz1⟩ : ∃ z, (moreL T (W.length : Int) v D k).getD k 0 = z := ⟨_, rfl⟩
            rw [hz1] at cm
            obtain ⟨z2, hz2⟩ : ∃ z, (restL T (W.length : Int) v k).getD k 0 = z := ⟨_, rfl⟩
            rw [hz2] at cr2
            have HZW := Aside0.mk zw
            have HFL := Aside0.mk fl
            have HMO := Aside0.mk more
            have HRB := Aside0.mk rb
            have HCK := Aside0.mk ck
            have HBL := Aside0.mk (And.intro hwb hdb)
            clear hqq hz1 hz2 p1 c4 zw fl more rb hwb hdb hw0 hd0
            rw [ck, Int.mul_one] at HFF HRR p0 p2 hf0 hf1
            clear ck
            go_wp2_with fail
            go_region
            obtain ⟨wx, hwx⟩ : ∃ wx, wx = (wr.setCell ⟨wc.heap.size, k, none⟩ (.int .i64 (y - T / (W.length : Int)))).drew := ⟨_, rfl⟩
            have HX1 : Aside0 (Below w.heap.size w wx ∧ Below wc.heap.size wc wx ∧ wx.heap[wc.heap.size]? = some (.cells (rowV (moreL T (W.length : Int) v D (k + 1))) 29 (0, 0)) ∧ wx.heap[wc.heap.size + 1]? = some (.cells (rowV (restL T (W.length : Int) v k)) 29 (0, 0))) := ⟨by
              rw [hwx]
              refine ⟨pw_below_drewN (HS.out.1.setCell HBC.out.size _) 1, pw_below_drewN (HS.out.2.1.setCell (Nat.le_refl _) _) 1, ?_, ?_⟩
              · show (wr.setCell _ _).heap[wc.heap.size]? = _
                rw [← moreL_set, ← rd_getD, HXX.out.2.1, HXX.out.2.2.1, ← HFF.out]
                exact rowV_set HS.out.2.2.1 k _
              · show (wr.setCell _ _).heap[wc.heap.size + 1]? = _
                rw [Below.heap_setCell _ _ _ _ (by simp)]; exact HS.out.2.2.2⟩
            rw [← hwx]
            clear hwx cm fm cr2 fr2 hdc hwc HS
            have cmx := rowV_cell HX1.out.2.2.1 (k := k) (by simp [moreL]; omega)
            rw [moreL_get _ _ _ _ _ _ (by omega) (by omega), ← rd_getD, HXX.out.2.1, HXX.out.2.2.1] at cmx
            have crx := rowV_cell HX1.out.2.2.2 (k := k) (by simp [restL]; omega)
            have frx := rowV_free HX1.out.2.2.2 k
            obtain ⟨z3, hz3⟩ : ∃ z, (restL T (W.length : Int) v k).getD k 0 = z := ⟨_, rfl⟩
            rw [hz3] at crx
            have hcD : wx.cell? (adD.add k) = some (.int .i64 y) := by
              obtain ⟨ad3, e3, h3⟩ := Kd.at_int HCD.out (k : Int) (by omega) (by omega)
              obtain rfl := Option.some.inj e3
              rw [← HXX.out.2.1]
              exact (HX1.out.2.1.cell (p := adD.add k) (World.block_lt_of_cell? wc _ h3)).trans h3
            have hcD2 : ∀ u : Value, (wx.setCell ⟨wc.heap.size + 1, k, none⟩ u).cell? (adD.add k) = some (.int .i64 y) := fun u => cell_far hcD (by rw [P.add_block]; have := HBL.out.2; simp only; omega)
            have r0 : 0 ≤ T % (W.length : Int) := by rw [HRR.out]; exact HRB.out.1
            have r1 : T % (W.length : Int) ≤ 16777216 := by rw [HRR.out]; have := HRB.out.2; omega
            clear hz3
            rcases HMO.out with hmo | ⟨hmo, hR⟩
            · have eM : y - F = 0 := by omega
              rw [eM] at cmx
              clear hmo eM
              go_wp2
              go_roundw
              case rel => exact ⟨k + 1, by go_num, by omega, by (simp only [sumN]; rw [HQ.out, HXX.out.2.1]), ⟨HX1.out.1.setCell (by have := HBC.out.size; simp only; omega) _, HX1.out.2.1.setCell (by simp only; omega) _, by rw [Below.heap_setCell _ _ _ _ (by simp)]; exact HX1.out.2.2.1, by rw [← restL_set, HXX.out.2.2.2, ← HRR.out]; exact rowV_set HX1.out.2.2.2 k _⟩⟩
              case measure => simp [intOf]; omega
            · have eM : y - F = 1 := by omega
              rw [eM] at cmx
              have hR2 : (T % (W.length : Int) == 0) = false := by rw [HRR.out, beq_eq_false_iff_ne]; omega
              clear hmo eM hR
              go_wp2
              go_roundw
              case rel => exact ⟨k + 1, by go_num, by omega, by (simp only [sumN]; rw [HQ.out, HXX.out.2.1]), ⟨HX1.out.1.setCell (by have := HBC.out.size; simp only; omega) _, HX1.out.2.1.setCell (by simp only; omega) _, by rw [Below.heap_setCell _ _ _ _ (by simp)]; exact HX1.out.2.2.1, by rw [← restL_set, HXX.out.2.2.2, ← HRR.out]; exact rowV_set HX1.out.2.2.2 k _⟩⟩
              case measure => simp [intOf]; omega
          · have HSM2 : Aside0 (sumN D k = T) := ⟨by
              have e : k = m + 1 := by have := HM.out; omega
              rw [e, ← HD2.out]; exact deal_sum HG2.out⟩
            obtain ⟨q, hqq⟩ : ∃ q, sumN D k = q := ⟨_, rfl⟩
            rw [hqq] at HSM2 ⊢
            have hkW : k = W.length := by omega
            have HKW := Aside0.mk hkW
            clear hqq hkW
            clear b0 b1 s0 s1 sn0 hpos hmax
            go_wp2_with fail
            go_loopw [15] (fun ii wi => ∃ i n : Nat, ii = .int .i64 (i : Int) ∧ i ≤ W.length ∧ wi = wr.drewN n) (fun ii _ => W.length - (intOf ii).toNat)
            case atStart => exact ⟨0, 0, rfl, Nat.zero_le _, rfl⟩
            case round =>
              obtain ⟨i, n, rfl, hi, rfl⟩ := hrel
              have hl16 : W.length ≤ 16 := hn2
              by_cases hlt3 : i < W.length
              · go_wp2_with fail
                go_loopw [16] (fun jj wj => ∃ j n : Nat, jj = .int .i64 (j : Int) ∧ j ≤ W.length ∧ wj = wr.drewN n) (fun jj _ => W.length - (intOf jj).toNat)
                case atStart => exact ⟨0, n, rfl, Nat.zero_le _, rfl⟩
                case round =>
                  obtain ⟨j, q2, rfl, hj, rfl⟩ := hrel
                  by_cases hlt4 : j < W.length
                  · have him : i < m + 1 := by have := HM.out; omega
                    have hjm : j < m + 1 := by have := HM.out; omega
                    obtain ⟨adD, rfl, hd0⟩ := Kd.at_int HCD.out (i : Int) (by omega) (by omega)
                    have cDi : wr.cell? (adD.add i) = some (.int .i64 (rd D (i : Int))) := (HS.out.2.1.cell (p := adD.add i) (World.block_lt_of_cell? wc _ hd0)).trans hd0
                    obtain ⟨adD2, e2, hd2⟩ := Kd.at_int HCD.out (j : Int) (by omega) (by omega)
                    obtain rfl := Option.some.inj e2
                    have cDj : wr.cell? (adD.add j) = some (.int .i64 (rd D (j : Int))) := (HS.out.2.1.cell (p := adD.add j) (World.block_lt_of_cell? wc _ hd2)).trans hd2
                    obtain ⟨adW, rfl, hw0⟩ := Kd.at_int HCW2.out (i : Int) (by omega) (by omega)
                    have cWi : wr.cell? (adW.add i) = some (.int .i64 (rd W (i : Int))) := (HS.out.2.1.cell (p := adW.add i) (World.block_lt_of_cell? wc _ hw0)).trans hw0
                    obtain ⟨adW2, e2, hw2⟩ := Kd.at_int HCW2.out (j : Int) (by omega) (by omega)
                    obtain rfl := Option.some.inj e2
                    have cWj : wr.cell? (adW.add j) = some (.int .i64 (rd W (j : Int))) := (HS.out.2.1.cell (p := adW.add j) (World.block_lt_of_cell? wc _ hw2)).trans hw2
                    have cMi := rowV_cell HS.out.2.2.1 (k := i) (by simp [moreL]; omega)
                    have cMj := rowV_cell HS.out.2.2.1 (k := j) (by simp [moreL]; omega)
                    have cRi := rowV_cell HS.out.2.2.2 (k := i) (by simp [restL]; omega)
                    have cRj := rowV_cell HS.out.2.2.2 (k := j) (by simp [restL]; omega)
                    have hkW := HKW.out
                    rw [moreL_get _ _ _ _ _ _ (by omega) (by omega), ← rd_getD] at cMi
                    rw [moreL_get _ _ _ _ _ _ (by omega) (by omega), ← rd_getD] at cMj
                    rw [restL_get _ _ _ _ _ (by omega) (by omega)] at cRi
                    rw [restL_get _ _ _ _ _ (by omega) (by omega)] at cRj
                    have pi_ := part_eq (m := m) (total := T) (sum := (W.length : Int)) (v := v) i him
                    have pj_ := part_eq (m := m) (total := T) (sum := (W.length : Int)) (v := v) j hjm
                    have mw := more_weight HG2.out i j him hjm
                    have om := one_more (m := m) (total := T) (sum := (W.length : Int)) (v := v) i j him hjm
                    rw [HD2.out] at pi_ pj_ mw
                    have vi := HVV.out i hlt3
                    have vj := HVV.out j hlt4
                    have i0 : (0 : Int) ≤ (i : Int) := by omega
                    have i1 : (i : Int) < (W.length : Int) := by omega
                    have i2 : (i : Int) < 16 := by omega
                    have j0 : (0 : Int) ≤ (j : Int) := by omega
                    have j1 : (j : Int) < (W.length : Int) := by omega
                    have j2 : (j : Int) < 16 := by omega
                    obtain ⟨wi, hwi⟩ : ∃ x, rd W (i : Int) = x := ⟨_, rfl⟩
                    obtain ⟨wj, hwj⟩ : ∃ x, rd W (j : Int) = x := ⟨_, rfl⟩
                    obtain ⟨li, hli⟩ : ∃ x, rd D (i : Int) = x := ⟨_, rfl⟩
                    obtain ⟨lj, hlj⟩ : ∃ x, rd D (j : Int) = x := ⟨_, rfl⟩
                    obtain ⟨Fi, hFi⟩ : ∃ x, floorV T (W.length : Int) v i = x := ⟨_, rfl⟩
                    obtain ⟨Fj, hFj⟩ : ∃ x, floorV T (W.length : Int) v j = x := ⟨_, rfl⟩
                    obtain ⟨Ri, hRi⟩ : ∃ x, restV T (W.length : Int) v (i : Int) = x := ⟨_, rfl⟩
                    obtain ⟨Rj, hRj⟩ : ∃ x, restV T (W.length : Int) v (j : Int) = x := ⟨_, rfl⟩
                    have hzi := sumN_le HW.out.2.2 W.length (Nat.le_refl _) i hlt3
                    have hzj := (HW.out.2.2 j hlt4).1
                    rw [HSM.out, hwi] at hzi
                    rw [hwj] at hzj
                    have hzk : wi ≤ 0 := by have := HP.out; omega
                    clear hzi
                    rw [hwi] at cWi
                    rw [hwj] at cWj
                    rw [hli] at cDi cMi pi_ mw
                    rw [hlj] at cDj cMj pj_ mw
                    rw [hFi] at cMi pi_
                    rw [hFj] at cMj pj_
                    rw [hRi] at cRi om
                    rw [hRj] at cRj om
                    have HMW := Aside0.mk mw
                    clear hwi hwj hli hlj hFi hFj hRi hRj vi vj mw hd0 hd2 hw0 hw2 hkW
                    have hsplit : (∃ Mi : Int, li - Fi = Mi ∧ Mi = 0) ∨ (li - Fi = 1 ∧ lj - Fj = 1) ∨ (li - Fi = 1 ∧ lj - Fj = 0 ∧ ¬ Ri < Rj ∧ (Ri = Rj → ¬ j < i)) := by
                      by_cases ci : chos m T (W.length : Int) v i
                      · by_cases cj : chos m T (W.length : Int) v j
                        · have := pi_.1 ci; have := pj_.1 cj; exact Or.inr (Or.inl ⟨by omega, by omega⟩)
                        · have := pi_.1 ci; have := pj_.2 cj; exact Or.inr (Or.inr ⟨by omega, by omega, (om ci cj).1, (om ci cj).2⟩)
                      · have := pi_.2 ci; exact Or.inl ⟨_, rfl, by omega⟩
                    clear pi_ pj_ om
                    obtain ⟨Mi, hMi⟩ : ∃ x, li - Fi = x := ⟨_, rfl⟩
                    obtain ⟨Mj, hMj⟩ : ∃ x, lj - Fj = x := ⟨_, rfl⟩
                    rw [hMi] at cMi hsplit
                    rw [hMj] at cMj hsplit
                    clear hMi hMj
                    have hfin : ∀ (a : Act) (Q : Exit → Act → World → Prop), True := fun _ _ => trivial
                    clear hfin
                    rcases Int.lt_or_le wj wi with hA | hA
                    · exact absurd hA (by omega)
                    · have g1 : decide (wj < wi) = false := decide_eq_false (by omega)
                      clear hA
                      rcases hsplit with ⟨Mi', e1, e2⟩ | ⟨e1, e2⟩ | ⟨e1, e2, e3, e4⟩
                      · obtain rfl : Mi = 0 := by omega
                        clear e1 e2
                        go_wp2_with fail
                        go_quiet (fail)
                        go_wp2
                        go_roundw
                        case rel => exact ⟨j + 1, _, by go_num, by omega, rfl⟩
                        case measure => simp [intOf]; omega
                      · subst e1
                        subst e2
                        go_wp2_with fail
                        go_quiet (fail)
                        go_wp2
                        go_roundw
                        case rel => exact ⟨j + 1, _, by go_num, by omega, rfl⟩
                        case measure => simp [intOf]; omega
                      · subst e1
                        subst e2
                        have g3 : decide (Ri < Rj) = false := decide_eq_false e3
                        by_cases hr : Ri = Rj
                        · have g4 : (Ri == Rj) = true := by rw [hr]; simp
                          have g5 : decide (j < i) = false := decide_eq_false (e4 hr)
                          clear e3 e4 hr
                          go_wp2_with fail
                          go_quiet (fail)
                          go_wp2
                          go_roundw
                          case rel => exact ⟨j + 1, _, by go_num, by omega, rfl⟩
                          case measure => simp [intOf]; omega
                        · have g4 : (Ri == Rj) = false := by rw [beq_eq_false_iff_ne]; exact hr
                          clear e3 e4 hr
                          go_wp2_with fail
                          go_quiet (fail)
                          go_wp2
                          go_roundw
                          case rel => exact ⟨j + 1, _, by go_num, by omega, rfl⟩
                          case measure => simp [intOf]; omega
                  · go_wp2
                    go_roundw
                    case rel => exact ⟨i + 1, q2, by go_num, by omega, rfl⟩
                    case measure => simp [intOf]; omega
              · have hTq : (q == T) = true := by rw [HSM2.out]; simp
                go_wp2
                go_ret
                exact ⟨rfl, pw_below_drewN HS.out.1 _⟩
end Go.Proofs.Ytnkkkbmkbmjghaa.WalkShareWhole
