/- ShareParts, in plain Lean: for all numbers and every list of numbers the statement's function comes to true. -/
import Derived.Test.YtnkkkbmkbmjghaaPlSplit
import Derived.Test.YtnkkkbmkbmjghaaPx10
namespace Go.Proofs.Ytnkkkbmkbmjghaa.Pure
open Go.RowKit Go.Proofs.Ytnkkkbmkbmjghaa.P Go.Proofs.YtnkkkbmkbmjghaaW.PrintWords Go.Proofs.YtnkkkbmkbmjghaaW.PrintLast Go.Proofs.Ytnkkkbmkbmjghaa.Pl
set_option linter.unusedVariables false
set_option linter.unusedSimpArgs false

theorem wf64p {n : Int} (h : (Lit.int .i64 n).wf = true) : -9223372036854775808 ≤ n ∧ n ≤ 9223372036854775807 := by
  simpa [Lit.wf, IntKind.min, IntKind.max, IntKind.signed, IntKind.bits] using h
theorem parts_loop (D U : Int) (p q : List Int) (one : List S50) (n : Nat) (hp : p.length = n) (hq : q.length = n) (hn : n ≤ 16) (b1 : ∀ i : Nat, i < n → 0 ≤ rd p (i : Int) ∧ rd p (i : Int) ≤ 1099511627777) (b2 : ∀ i : Nat, i < n → 0 ≤ rd q (i : Int) ∧ rd q (i : Int) ≤ 1099511627777)
    (s1 : sumN p n = D) (s2 : sumN q n = U) (h1 : one.length = 1) (h2 : rd_T50 one 0 = ⟨D, U⟩) : ∀ d i : Nat, n - i = d → i ≤ n → 0 ≤ sumN p i → sumN p i ≤ i * 1099511627777 → 0 ≤ sumN q i → sumN q i ≤ i * 1099511627777 →
    Ev (fun k => sluicelaw8_ShareParts.l0 k D U (pairs p q) one (sumN p i) (sumN q i) (i : Int)) true := by
  intro d
  induction d with
  | zero =>
    intro i hd hi _ _ _ _
    obtain rfl : i = n := by omega
    refine Ev.step (f := fun _ => some true) (fun k => ?_) (Ev.now _)
    simp only [sluicelaw8_ShareParts.l0]
    rw [if_neg (by rw [pairs_len]; omega), if_pos s1, if_pos s2, if_pos (by omega), h2]
    simp
  | succ d ih =>
    intro i hd hi a1 a2 a3 a4
    have c1 := b1 i (by omega); have c2 := b2 i (by omega)
    have e1 : sumN p (i + 1) = sumN p i + rd p (i : Int) := rfl
    have e2 : sumN q (i + 1) = sumN q i + rd q (i : Int) := rfl
    refine Ev.step (fun k => ?_) (ih (i + 1) (by omega) (by omega) (by omega) (by omega) (by omega) (by omega))
    simp only [sluicelaw8_ShareParts.l0]
    rw [if_pos (by rw [pairs_len]; omega), if_pos (by omega), pairs_rd _ _ _ (by omega), ← rd_getD, ← rd_getD]
    simp only
    rw [if_neg (by omega), if_neg (by omega), w64 (n := sumN p i + rd p (i : Int)) (by omega) (by omega), w64 (n := sumN q i + rd q (i : Int)) (by omega) (by omega), w64 (by omega) (by omega), e1, e2]; rfl
theorem parts_mid (D U : Int) (W : List Int) (hW : okW W) (hD : 0 ≤ D) (hU : 0 ≤ U) (hs : D + U ≤ 1099511627776) : Ev (fun k => sluicelaw8_ShareParts.j0 k D U W) true := by
  obtain ⟨m, hm⟩ : ∃ m, W.length = m + 1 := ⟨W.length - 1, by have := hW.1; omega⟩
  have h7 : okW [7] := by decide
  have g1 := good_of W D hW hD (by omega); have g2 := good_of W U hW hU (by omega)
  have g3 := good_of [7] D h7 hD (by omega); have g4 := good_of [7] U h7 hU (by omega)
  rw [hm] at g1 g2
  have s1 := split_ev D U W (by omega); have s2 := split_ev D U [7] (by omega)
  have e1 : splitV D U W = (pairs (dealV D (sOf W) (vOf W) m) (dealV U (sOf W) (vOf W) m), 0) := by unfold splitV; rw [if_pos ⟨hD, hU, hs, hW⟩, hm]; rfl
  have e2 : splitV D U [7] = (pairs (dealV D (sOf [7]) (vOf [7]) 0) (dealV U (sOf [7]) (vOf [7]) 0), 0) := by unfold splitV; rw [if_pos ⟨hD, hU, hs, h7⟩]; rfl
  rw [e1] at s1; rw [e2] at s2
  have o1 : (dealV D (sOf [7]) (vOf [7]) 0).getD 0 0 = D := by
    have := deal_sum (m := 0) g3
    simp only [sumN] at this
    rw [rd_getD] at this; omega
  have o2 : (dealV U (sOf [7]) (vOf [7]) 0).getD 0 0 = U := by
    have := deal_sum (m := 0) g4
    simp only [sumN] at this
    rw [rd_getD] at this; omega
  have h16 := hW.2.1
  have hl := parts_loop D U (dealV D (sOf W) (vOf W) m) (dealV U (sOf W) (vOf W) m) (pairs (dealV D (sOf [7]) (vOf [7]) 0) (dealV U (sOf [7]) (vOf [7]) 0)) (m + 1) (deal_len _ _ _ _) (deal_len _ _ _ _) (by omega)
    (fun i hi => ⟨deal_nonneg g1 i hi, deal_le g1 i hi⟩) (fun i hi => ⟨deal_nonneg g2 i hi, deal_le g2 i hi⟩) (deal_sum g1) (deal_sum g2) (by rw [pairs_len, deal_len]) (by
      have := pairs_rd (dealV D (sOf [7]) (vOf [7]) 0) (dealV U (sOf [7]) (vOf [7]) 0) 0 (by rw [deal_len]; omega)
      rw [o1, o2] at this; exact this) (m + 1) 0 (by omega) (by omega) (by simp [sumN]) (by simp [sumN]) (by simp [sumN]) (by simp [sumN])
  have hj1 : Ev (fun k => sluicelaw8_ShareParts.j1 k D U (pairs (dealV D (sOf W) (vOf W) m) (dealV U (sOf W) (vOf W) m)) (pairs (dealV D (sOf [7]) (vOf [7]) 0) (dealV U (sOf [7]) (vOf [7]) 0)) false) true := Ev.step (fun k => by simp only [sluicelaw8_ShareParts.j1]; rw [if_neg (by simp)]; rfl) hl
  have hall : Ev (fun k => (share_Split.f k D U W).bind fun bt246 => ((share_Split.f k D U (([7] : List Int))).bind fun bt253 => (if bt246.2 = 0 then (if bt253.2 = 0 then (if (bt246.1.length : Int) = (W.length : Int) then (sluicelaw8_ShareParts.j1 k D U bt246.1 bt253.1 ((bt253.1.length : Int) != 1)) else (sluicelaw8_ShareParts.j1 k D U bt246.1 bt253.1 true)) else (sluicelaw8_ShareParts.j1 k D U bt246.1 bt253.1 true)) else (sluicelaw8_ShareParts.j1 k D U bt246.1 bt253.1 true)))) true := by
    refine Ev.bind (f := fun k bt246 => (share_Split.f k D U (([7] : List Int))).bind fun bt253 => (if bt246.2 = 0 then (if bt253.2 = 0 then (if (bt246.1.length : Int) = (W.length : Int) then (sluicelaw8_ShareParts.j1 k D U bt246.1 bt253.1 ((bt253.1.length : Int) != 1)) else (sluicelaw8_ShareParts.j1 k D U bt246.1 bt253.1 true)) else (sluicelaw8_ShareParts.j1 k D U bt246.1 bt253.1 true)) else (sluicelaw8_ShareParts.j1 k D U bt246.1 bt253.1 true))) s1 ?_
    simp only [if_true]
    refine Ev.bind (f := fun k bt253 => (if bt253.2 = 0 then (if ((pairs (dealV D (sOf W) (vOf W) m) (dealV U (sOf W) (vOf W) m)).length : Int) = (W.length : Int) then (sluicelaw8_ShareParts.j1 k D U (pairs (dealV D (sOf W) (vOf W) m) (dealV U (sOf W) (vOf W) m)) bt253.1 ((bt253.1.length : Int) != 1)) else (sluicelaw8_ShareParts.j1 k D U (pairs (dealV D (sOf W) (vOf W) m) (dealV U (sOf W) (vOf W) m)) bt253.1 true)) else (sluicelaw8_ShareParts.j1 k D U (pairs (dealV D (sOf W) (vOf W) m) (dealV U (sOf W) (vOf W) m)) bt253.1 true))) s2 ?_
    simp only [if_true, pairs_len, deal_len, hm]
    exact hj1
  exact Ev.step (fun k => by simp only [sluicelaw8_ShareParts.j0]) hall
theorem ShareParts : sluicelaw8_ShareParts.Pure := by
  intro d u l wd wu hm hl hw
  refine Ev.rounds ?_
  unfold sluicelaw8_ShareParts.f
  obtain ⟨D, W, hW, hD0, hD1, hf⟩ := fair_ev d l (wf64p wd) (by omega)
  obtain ⟨U, W2, _, hU0, hU1, hg⟩ := fair_ev u [] (wf64p wu) (by simp)
  refine Ev.bind (f := fun k t237 => if t237 = true then ((sluicelaw8_fair.f k d l).bind fun bt238 => ((sluicelaw8_fair.f k u ([] : List Int)).bind fun bt242 => (if (wrap64 (bt238.1 + bt242.1)) > 1099511627776 then (sluicelaw8_ShareParts.j0 k bt238.1 (wrap64 (1099511627776 - bt238.1)) bt238.2) else (sluicelaw8_ShareParts.j0 k bt238.1 bt242.1 bt238.2)))) else some false) able_ev ?_
  simp only [if_true]
  refine Ev.bind (f := fun k bt238 => ((sluicelaw8_fair.f k u ([] : List Int)).bind fun bt242 => (if (wrap64 (bt238.1 + bt242.1)) > 1099511627776 then (sluicelaw8_ShareParts.j0 k bt238.1 (wrap64 (1099511627776 - bt238.1)) bt238.2) else (sluicelaw8_ShareParts.j0 k bt238.1 bt242.1 bt238.2)))) hf ?_
  refine Ev.bind (f := fun k bt242 => (if (wrap64 (D + bt242.1)) > 1099511627776 then (sluicelaw8_ShareParts.j0 k D (wrap64 (1099511627776 - D)) W) else (sluicelaw8_ShareParts.j0 k D bt242.1 W))) hg ?_
  rw [w64 (n := D + U) (by omega) (by omega), w64 (n := 1099511627776 - D) (by omega) (by omega)]
  by_cases h : D + U > 1099511627776
  · simp only [if_pos h]; exact parts_mid D _ W hW hD0 (by omega) (by omega)
  · simp only [if_neg h]; exact parts_mid D U W hW hD0 hU0 (by omega)
end Go.Proofs.Ytnkkkbmkbmjghaa.Pure
