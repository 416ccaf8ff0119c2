/- What ShareWhole asks of Deal's parts, in plain Lean. -/
import Derived.Test.YtnkkkbmkbmjghaaPlSplit
namespace Go.Proofs.Ytnkkkbmkbmjghaa.Pl
open Go.RowKit Go.Proofs.Ytnkkkbmkbmjghaa.P Go.Proofs.YtnkkkbmkbmjghaaW.PrintWords
set_option linter.unusedVariables false
set_option linter.unusedSimpArgs false

def chos (m : Nat) (total sum : Int) (v : List Int) (i : Nat) : Prop := i ∈ chosen m total sum v (leftV total sum v (m + 1)).toNat
/-- The rests add up to what is left, so many sums. -/
def restSum (total sum : Int) (v : List Int) : Nat → Int
  | 0 => 0
  | k + 1 => restSum total sum v k + restV total sum v (k : Int)
theorem rest_sum {N : Nat} {total sum : Int} {v : List Int} (h : P.Good N total sum v) : ∀ k, k ≤ N → restSum total sum v k = sum * (leftV total sum v k - total) + total * sumN v k := by
  intro k
  induction k with
  | zero => intro _; simp [restSum, leftV, sumN]
  | succ k ih =>
    intro hk
    have h7 := Int.emod_add_mul_ediv (total * rd v (k : Int)) sum
    simp only [restSum, leftV, sumN]
    rw [ih (by omega)]
    unfold restV floorV
    have e3 : sum * (leftV total sum v k - total * rd v (k : Int) / sum - total) = sum * (leftV total sum v k - total) - sum * (total * rd v (k : Int) / sum) := by
      rw [show leftV total sum v k - total * rd v (k : Int) / sum - total = (leftV total sum v k - total) - total * rd v (k : Int) / sum from by omega, Int.mul_sub]
    rw [e3, Int.mul_add]
    omega
theorem rest_all {N : Nat} {total sum : Int} {v : List Int} (h : P.Good N total sum v) : restSum total sum v N = sum * leftV total sum v N := by
  rw [rest_sum h N (Nat.le_refl _), h.e, Int.mul_sub, Int.mul_comm sum total]; omega
theorem rest_bd {N : Nat} {total sum : Int} {v : List Int} (h : P.Good N total sum v) (i : Nat) : 0 ≤ restV total sum v (i : Int) ∧ restV total sum v (i : Int) < sum :=
  ⟨Int.emod_nonneg _ (by have := h.b.s0; omega), Int.emod_lt_of_pos _ (by have := h.b.s0; omega)⟩
/-- If all places that are not among C have no rest, the rests are at most as many sums less one as C has places. -/
theorem rest_few {N : Nat} {total sum : Int} {v : List Int} (h : P.Good N total sum v) : ∀ (k : Nat) (C : List Nat), k ≤ N → (∀ i, i < k → i ∉ C → restV total sum v (i : Int) = 0) → C.Nodup → restSum total sum v k ≤ C.length * (sum - 1) := by
  intro k
  induction k with
  | zero =>
    intro C _ _ _
    simp only [restSum]
    exact Int.mul_nonneg (by omega) (by have := h.b.s0; omega)
  | succ k ih =>
    intro C hk hC hn
    have hr := rest_bd h k
    simp only [restSum]
    by_cases hm : k ∈ C
    · have h1 := ih (C.erase k) (by omega) (fun i hi hni => hC i (by omega) (fun hmem => hni ((List.mem_erase_of_ne (by omega)).2 hmem))) (hn.erase k)
      rw [List.length_erase_of_mem hm] at h1
      have hpos : 0 < C.length := List.length_pos_of_mem hm
      have e : ((C.length - 1 : Nat) : Int) = (C.length : Int) - 1 := by omega
      rw [e, Int.sub_mul, Int.one_mul] at h1
      omega
    · have h1 := ih C (by omega) (fun i hi hni => hC i (by omega) hni) hn
      rw [hC k (by omega) hm]; omega
theorem left_len (m : Nat) (total sum : Int) (v : List Int) (h : P.Good (m + 1) total sum v) : ((chosen m total sum v (leftV total sum v (m + 1)).toNat).length : Int) = leftV total sum v (m + 1) := by
  have hlb := left_bd h
  unfold chosen; rw [List.length_map, List.length_take, order_len]; omega
/-- Who is chosen has a rest. -/
theorem chos_rest {m : Nat} {total sum : Int} {v : List Int} (h : P.Good (m + 1) total sum v) (i : Nat) (hi : i < m + 1) (hc : chos m total sum v i) : 0 < restV total sum v (i : Int) := by
  have hr := rest_bd h i
  rcases Int.lt_or_le 0 (restV total sum v (i : Int)) with h1 | h1
  · exact h1
  · exfalso
    have hz : restV total sum v (i : Int) = 0 := by omega
    have hall : ∀ j, j < m + 1 → j ∉ (chosen m total sum v (leftV total sum v (m + 1)).toNat).erase i → restV total sum v (j : Int) = 0 := by
      intro j hj hn
      by_cases e : j = i
      · rw [e]; exact hz
      · have hn2 : j ∉ chosen m total sum v (leftV total sum v (m + 1)).toNat := fun hh => hn ((List.mem_erase_of_ne e).2 hh)
        have ha := chosen_ahead m total sum v _ i j hi hj hc hn2
        have := rest_bd h j
        unfold Ahead at ha; simp only at ha; omega
    have hf := rest_few h (m + 1) _ (Nat.le_refl _) hall ((chosen_nodup m total sum v _).erase i)
    rw [List.length_erase_of_mem hc, rest_all h] at hf
    have hl := left_len m total sum v h
    have hpos : 0 < (chosen m total sum v (leftV total sum v (m + 1)).toNat).length := List.length_pos_of_mem hc
    have hs := h.b.s0
    generalize (chosen m total sum v (leftV total sum v (m + 1)).toNat).length = L at hl hpos hf
    generalize leftV total sum v (m + 1) = X at hl hf
    subst hl
    have e : ((L - 1 : Nat) : Int) = (L : Int) - 1 := by omega
    rw [e, Int.sub_mul, Int.one_mul, Int.mul_sub, Int.mul_one, Int.mul_comm sum] at hf
    omega
theorem part_eq {m : Nat} {total sum : Int} {v : List Int} (i : Nat) (hi : i < m + 1) : (chos m total sum v i → rd (dealV total sum v m) (i : Int) = floorV total sum v i + 1) ∧ (¬ chos m total sum v i → rd (dealV total sum v m) (i : Int) = floorV total sum v i) := by
  rw [rd_getD, deal_get _ _ _ _ _ hi]
  exact ⟨fun h => by rw [if_pos (show i ∈ chosen m total sum v _ from h)], fun h => by rw [if_neg (show i ∉ chosen m total sum v _ from h)]; omega⟩
theorem zero_weight {m : Nat} {total sum : Int} {v : List Int} (h : P.Good (m + 1) total sum v) (i : Nat) (hi : i < m + 1) (h0 : rd v (i : Int) = 0) : rd (dealV total sum v m) (i : Int) = 0 := by
  have hr : restV total sum v (i : Int) = 0 := by unfold restV; rw [h0]; simp
  have hf : floorV total sum v i = 0 := by unfold floorV; rw [h0]; simp
  by_cases hc : chos m total sum v i
  · have := chos_rest h i hi hc; omega
  · rw [(part_eq i hi).2 hc, hf]
theorem more_weight {m : Nat} {total sum : Int} {v : List Int} (h : P.Good (m + 1) total sum v) (i j : Nat) (hi : i < m + 1) (hj : j < m + 1) (hw : rd v (j : Int) < rd v (i : Int)) : rd (dealV total sum v m) (j : Int) ≤ rd (dealV total sum v m) (i : Int) := by
  have hs := h.b.s0
  have ht := h.b.t0
  have e1 := Int.emod_add_mul_ediv (total * rd v (i : Int)) sum
  have e2 := Int.emod_add_mul_ediv (total * rd v (j : Int)) sum
  have hle : total * rd v (j : Int) ≤ total * rd v (i : Int) := Int.mul_le_mul_of_nonneg_left (by omega) ht
  have hf : floorV total sum v j ≤ floorV total sum v i := Int.ediv_le_ediv (by omega) hle
  have p1 := part_eq (total := total) (sum := sum) (v := v) i hi
  have p2 := part_eq (total := total) (sum := sum) (v := v) j hj
  by_cases ci : chos m total sum v i
  · rw [p1.1 ci]
    by_cases cj : chos m total sum v j
    · rw [p2.1 cj]; omega
    · rw [p2.2 cj]; omega
  · rw [p1.2 ci]
    by_cases cj : chos m total sum v j
    · rw [p2.1 cj]
      rcases Int.lt_or_eq_of_le hf with h1 | h1
      · omega
      · exfalso
        have ha := chosen_ahead m total sum v _ j i hj hi cj ci
        have hrj := chos_rest h j hj cj
        have er : restV total sum v (i : Int) - restV total sum v (j : Int) = total * rd v (i : Int) - total * rd v (j : Int) := by
          unfold restV floorV at *
          rw [h1] at e2
          omega
        unfold Ahead at ha; simp only at ha
        have heq : total * rd v (j : Int) = total * rd v (i : Int) := by omega
        rcases Int.lt_or_eq_of_le ht with h2 | h2
        · have := Int.eq_of_mul_eq_mul_left (by omega) heq; omega
        · rw [← h2] at hrj
          unfold restV at hrj; simp at hrj
    · rw [p2.2 cj]; exact hf
theorem one_more {m : Nat} {total sum : Int} {v : List Int} (i j : Nat) (hi : i < m + 1) (hj : j < m + 1) (ci : chos m total sum v i) (cj : ¬ chos m total sum v j) : ¬ restV total sum v (i : Int) < restV total sum v (j : Int) ∧ (restV total sum v (i : Int) = restV total sum v (j : Int) → ¬ j < i) := by
  have ha := chosen_ahead m total sum v _ i j hi hj ci cj
  unfold Ahead at ha; simp only at ha
  omega
end Go.Proofs.Ytnkkkbmkbmjghaa.Pl
