/- Split in plain Lean: the parts add up; the reference's Split comes to the same; 'fair' brings numbers that Deal takes. -/
import Derived.Test.YtnkkkbmkbmjghaaPlAsk
import Derived.Test.YtnkkkbmkbmjghaaPx6
import Derived.Test.YtnkkkbmkbmjghaaPx8
namespace Go.Proofs.Ytnkkkbmkbmjghaa.Pl
open Go.RowKit Go.Proofs.Ytnkkkbmkbmjghaa.P Go.Proofs.YtnkkkbmkbmjghaaW.PrintWords
set_option linter.unusedVariables false
set_option linter.unusedSimpArgs false

theorem sumN_set (p : List Int) (i : Nat) (x : Int) : ∀ n, i < n → n ≤ p.length → sumN (p.set i x) n = sumN p n - rd p (i : Int) + x := by
  intro n
  induction n with
  | zero => intro h; omega
  | succ n ih =>
    intro h hn
    simp only [sumN]
    have e : rd (p.set i x) (n : Int) = if i = n then x else rd p (n : Int) := by
      rw [rd_getD, rd_getD, getD_set_int]
      by_cases h2 : i = n
      · rw [if_pos ⟨h2, by omega⟩, if_pos h2]
      · rw [if_neg (fun hh => h2 hh.1), if_neg h2]
    rw [e]
    by_cases h2 : i = n
    · subst h2
      rw [if_pos rfl]
      have : ∀ k, k ≤ i → sumN (p.set i x) k = sumN p k := by
        intro k
        induction k with
        | zero => intro _; rfl
        | succ k ih2 =>
          intro hk
          simp only [sumN]
          rw [ih2 (by omega), rd_getD, rd_getD, getD_set_int, if_neg (fun hh => by omega)]
      rw [this i (Nat.le_refl _)]; omega
    · rw [if_neg h2, ih (by omega) (by omega)]; omega
theorem sumN_bump : ∀ (r : List Nat) (p : List Int), (∀ i ∈ r, i < p.length) → sumN (bumpV p r) p.length = sumN p p.length + r.length
  | [], p, _ => by simp [bumpV]
  | i :: r, p, h => by
    simp only [bumpV]
    have h1 := sumN_bump r (p.set i (p.getD i 0 + 1)) (by intro j hj; rw [List.length_set]; exact h j (List.mem_cons_of_mem _ hj))
    rw [List.length_set] at h1
    rw [h1, sumN_set p i _ p.length (h i List.mem_cons_self) (Nat.le_refl _), rd_getD]
    simp only [List.length_cons]; omega
theorem left_sum (total sum : Int) (v : List Int) (N : Nat) : ∀ k, k ≤ N → sumN (floorsV total sum v N N) k = total - leftV total sum v k := by
  intro k
  induction k with
  | zero => intro _; simp [sumN, leftV]
  | succ k ih =>
    intro hk
    simp only [sumN, leftV]
    rw [ih (by omega), rd_getD, floors_get _ _ _ _ _ _ (by omega) (by omega)]; omega
theorem deal_sum {m : Nat} {total sum : Int} {v : List Int} (h : P.Good (m + 1) total sum v) : sumN (dealV total sum v m) (m + 1) = total := by
  have hlb := left_bd h
  unfold dealV
  have h1 := sumN_bump (chosen m total sum v (leftV total sum v (m + 1)).toNat) (floorsV total sum v (m + 1) (m + 1)) (by intro i hi; rw [floors_len]; exact chosen_lt m total sum v _ i hi)
  rw [floors_len, left_sum total sum v (m + 1) (m + 1) (Nat.le_refl _)] at h1
  have h2 : (chosen m total sum v (leftV total sum v (m + 1)).toNat).length = (leftV total sum v (m + 1)).toNat := by
    unfold chosen; rw [List.length_map, List.length_take, order_len]; omega
  rw [h2] at h1
  have e : sumN (bumpV (floorsV total sum v (m + 1) (m + 1)) (List.map (·.val) (List.take (leftV total sum v (m + 1)).toNat (orderV m total sum v)))) (m + 1) = total - leftV total sum v (m + 1) + ((leftV total sum v (m + 1)).toNat : Int) := h1
  rw [e]; omega
theorem deal_nonneg {m : Nat} {total sum : Int} {v : List Int} (h : P.Good (m + 1) total sum v) (i : Nat) (hi : i < m + 1) : 0 ≤ rd (dealV total sum v m) (i : Int) := by
  rw [rd_getD, deal_get _ _ _ _ _ hi]
  have := (h.floor hi).1
  split <;> omega
theorem deal_le {m : Nat} {total sum : Int} {v : List Int} (h : P.Good (m + 1) total sum v) (i : Nat) (hi : i < m + 1) : rd (dealV total sum v m) (i : Int) ≤ 1099511627777 := by
  rw [rd_getD, deal_get _ _ _ _ _ hi]
  have := (h.floor hi).2
  have := h.b.t1
  split <;> omega
/-! Split -/
def pairs (p q : List Int) : List S50 := (List.range p.length).map fun i => ⟨p.getD i 0, q.getD i 0⟩
theorem pairs_len (p q : List Int) : (pairs p q).length = p.length := by simp [pairs]
theorem pairs_rd (p q : List Int) (i : Nat) (h : i < p.length) : rd_T50 (pairs p q) (i : Int) = ⟨p.getD i 0, q.getD i 0⟩ := by
  unfold rd_T50 pairs
  simp [List.getD_eq_getElem?_getD, h]
def splitV (d u : Int) (l : List Int) : List S50 × Int :=
  if 0 ≤ d ∧ 0 ≤ u ∧ d + u ≤ 1099511627776 ∧ okW l then (pairs (dealV d (sOf l) (vOf l) (l.length - 1)) (dealV u (sOf l) (vOf l) (l.length - 1)), 0) else ([], 1)
theorem split_loop (p q : List Int) (hq : q.length = p.length) (hp : p.length ≤ 16) : ∀ d i : Nat, ∀ y : List S50, p.length - i = d → i ≤ p.length → y.length = p.length → (∀ j, j < i → y[j]? = some ⟨p.getD j 0, q.getD j 0⟩) →
    Ev (fun k => share_Split.l0 k p 0 q y (p.length : Int) (i : Int)) (pairs p q, 0) := by
  intro d
  induction d with
  | zero =>
    intro i y hd hi hy h
    have e : y = pairs p q := by
      apply List.ext_getElem?
      intro j
      rcases Nat.lt_or_ge j p.length with h1 | h1
      · rw [h j (by omega)]; simp [pairs, h1]
      · rw [List.getElem?_eq_none (by omega), List.getElem?_eq_none (by rw [pairs_len]; exact h1)]
    refine Ev.step (f := fun _ => some (pairs p q, 0)) (fun k => ?_) (Ev.now _)
    simp only [share_Split.l0]
    rw [if_neg (by omega), e]
  | succ d ih =>
    intro i y hd hi hy h
    refine Ev.step (fun k => ?_) (ih (i + 1) (y.set i ⟨p.getD i 0, q.getD i 0⟩) (by omega) (by omega) (by simpa using hy) ?_)
    · simp only [share_Split.l0]
      rw [if_pos (by omega), if_pos (by omega), if_pos (by omega), if_pos (by omega), if_pos (by omega), w64 (by omega) (by omega), rd_getD, rd_getD]; simp
    · intro j hj
      rw [List.getElem?_set]
      by_cases e : i = j
      · subst e; rw [if_pos rfl, if_pos (by omega)]
      · rw [if_neg e]; exact h j (by omega)
theorem deal_bad (a : Int) (l : List Int) (h : ¬ okW l) : share_Deal.f a l = some ([], 1) := by unfold share_Deal.f; rw [if_neg (fun hh => h hh.1)]
theorem deal_good (a : Int) (l : List Int) (h : okW l) (h0 : 0 ≤ a) (h1 : a ≤ 1099511627776) : share_Deal.f a l = some (dealV a (sOf l) (vOf l) (l.length - 1), 0) := by unfold share_Deal.f; rw [if_pos ⟨h, h0, h1⟩]
theorem split_ev (d u : Int) (l : List Int) (hu : -9223372036854775808 ≤ u ∧ u ≤ 9223372036854775807) : Ev (fun k => share_Split.f k d u l) (splitV d u l) := by
  have hbad : (d < 0 ∨ u < 0 ∨ d > 1099511627776 ∨ u > 1099511627776 - d) → splitV d u l = ([], 1) := fun h => by unfold splitV; rw [if_neg (by omega)]
  have hj : Ev (fun k => share_Split.j0 k l true d u) ([], 1) := Ev.step (f := fun _ => some ([], 1)) (fun k => by simp only [share_Split.j0, if_true]) (Ev.now _)
  unfold share_Split.f
  by_cases h0 : d < 0
  · simp only [if_pos h0]; rw [hbad (by omega)]; exact hj
  · simp only [if_neg h0]
    by_cases h1 : u < 0
    · simp only [if_pos h1]; rw [hbad (by omega)]; exact hj
    · simp only [if_neg h1]
      by_cases h2 : d > 1099511627776
      · simp only [if_pos h2]; rw [hbad (by omega)]; exact hj
      · simp only [if_neg h2]
        rw [w64 (by omega) (by omega)]
        by_cases h3 : u > 1099511627776 - d
        · rw [decide_eq_true h3, hbad (by omega)]; exact hj
        · rw [decide_eq_false h3]
          by_cases hok : okW l
          · obtain ⟨m, hm⟩ : ∃ m, l.length = m + 1 := ⟨l.length - 1, by have := hok.1; omega⟩
            have h16 := hok.2.1
            have e1 : (dealV d (sOf l) (vOf l) (l.length - 1)).length = l.length := by rw [deal_len]; omega
            have e2 : (dealV u (sOf l) (vOf l) (l.length - 1)).length = l.length := by rw [deal_len]; omega
            have hl := split_loop (dealV d (sOf l) (vOf l) (l.length - 1)) (dealV u (sOf l) (vOf l) (l.length - 1)) (by rw [e1, e2]) (by rw [e1]; exact h16) l.length 0 (List.replicate l.length z50) (by rw [e1]; omega) (by omega) (by simp [e1]) (fun j hj => absurd hj (by omega))
            have hs : splitV d u l = (pairs (dealV d (sOf l) (vOf l) (l.length - 1)) (dealV u (sOf l) (vOf l) (l.length - 1)), 0) := by unfold splitV; rw [if_pos ⟨by omega, by omega, by omega, hok⟩]
            rw [hs]
            refine Ev.step (fun k => ?_) hl
            simp only [share_Split.j0, deal_good d l hok (by omega) (by omega), deal_good u l hok (by omega) (by omega), Option.bind_some, if_true]
            rw [e1, if_neg (by simp), if_pos (by omega), if_pos (by omega)]
            simp
          · have hs : splitV d u l = ([], 1) := by unfold splitV; rw [if_neg (fun hh => hok hh.2.2.2)]
            rw [hs]
            refine Ev.step (f := fun _ => some ([], 1)) (fun k => ?_) (Ev.now _)
            simp only [share_Split.j0, deal_bad d l hok, Option.bind_some]
            rw [if_neg (by simp), if_neg (by omega)]
theorem refSplit_loop (p q : List Int) (hq : q.length = p.length) (hp : p.length ≤ 16) : ∀ d i : Nat, p.length - i = d → i ≤ p.length → Ev (fun k => sluiceref8_Split.l0 k p q ((pairs p q).take i) (i : Int)) (pairs p q, 0) := by
  intro d
  induction d with
  | zero =>
    intro i hd hi
    refine Ev.step (f := fun _ => some (pairs p q, 0)) (fun k => ?_) (Ev.now _)
    simp only [sluiceref8_Split.l0]
    rw [if_neg (by omega), List.take_of_length_le (by rw [pairs_len]; omega)]
  | succ d ih =>
    intro i hd hi
    refine Ev.step (fun k => ?_) (ih (i + 1) (by omega) (by omega))
    simp only [sluiceref8_Split.l0]
    rw [if_pos (by omega), if_pos (by omega), if_pos (by omega), if_pos (by simp [pairs_len]; omega), w64 (by omega) (by omega), rd_getD, rd_getD]
    rw [List.take_succ_eq_append_getElem (by rw [pairs_len]; omega)]
    simp [pairs]
theorem refSplit_ev (d u : Int) (l : List Int) (hl : l.length ≤ 140737488351232) : Ev (fun k => sluiceref8_Split.f k d u l) (splitV d u l) := by
  have hbad : (d < 0 ∨ u < 0 ∨ d > 1099511627776 ∨ u > 1099511627776 ∨ d + u > 1099511627776) → splitV d u l = ([], 1) := fun h => by unfold splitV; rw [if_neg (by omega)]
  have hj : Ev (fun k => sluiceref8_Split.j0 k l true d u) ([], 1) := Ev.step (f := fun _ => some ([], 1)) (fun k => by simp only [sluiceref8_Split.j0, if_true]) (Ev.now _)
  unfold sluiceref8_Split.f
  by_cases h0 : d < 0
  · simp only [if_pos h0]; rw [hbad (by omega)]; exact hj
  · simp only [if_neg h0]
    by_cases h1 : u < 0
    · simp only [if_pos h1]; rw [hbad (by omega)]; exact hj
    · simp only [if_neg h1]
      by_cases h2 : d > 1099511627776
      · simp only [if_pos h2]; rw [hbad (by omega)]; exact hj
      · simp only [if_neg h2]
        by_cases h3 : u > 1099511627776
        · simp only [if_pos h3]; rw [hbad (by omega)]; exact hj
        · simp only [if_neg h3]
          rw [w64 (by omega) (by omega)]
          by_cases h4 : d + u > 1099511627776
          · rw [decide_eq_true h4, hbad (by omega)]; exact hj
          · rw [decide_eq_false h4]
            by_cases hok : okW l
            · obtain ⟨m, hm⟩ : ∃ m, l.length = m + 1 := ⟨l.length - 1, by have := hok.1; omega⟩
              have h16 := hok.2.1
              have e1 : (dealV d (sOf l) (vOf l) (l.length - 1)).length = l.length := by rw [deal_len]; omega
              have e2 : (dealV u (sOf l) (vOf l) (l.length - 1)).length = l.length := by rw [deal_len]; omega
              have hs : splitV d u l = (pairs (dealV d (sOf l) (vOf l) (l.length - 1)) (dealV u (sOf l) (vOf l) (l.length - 1)), 0) := by unfold splitV; rw [if_pos ⟨by omega, by omega, by omega, hok⟩]
              have hlp := refSplit_loop (dealV d (sOf l) (vOf l) (l.length - 1)) (dealV u (sOf l) (vOf l) (l.length - 1)) (by rw [e1, e2]) (by rw [e1]; exact h16) l.length 0 (by rw [e1]; omega) (by omega)
              have hd := refDeal_ev d l hl _ (deal_good d l hok (by omega) (by omega))
              have hu := refDeal_ev u l hl _ (deal_good u l hok (by omega) (by omega))
              rw [hs]
              have hall : Ev (fun k => (sluiceref8_Deal.f k d l).bind fun bt192 => if bt192.2 = 0 then (sluiceref8_Deal.f k u l).bind fun bt196 => sluiceref8_Split.l0 k bt192.1 bt196.1 [] 0 else some ([], bt192.2)) (pairs (dealV d (sOf l) (vOf l) (l.length - 1)) (dealV u (sOf l) (vOf l) (l.length - 1)), 0) := by
                refine Ev.bind (f := fun k bt192 => if bt192.2 = 0 then (sluiceref8_Deal.f k u l).bind fun bt196 => sluiceref8_Split.l0 k bt192.1 bt196.1 [] 0 else some ([], bt192.2)) hd ?_
                simp only [if_true]
                exact Ev.bind (f := fun k bt196 => sluiceref8_Split.l0 k (dealV d (sOf l) (vOf l) (l.length - 1)) bt196.1 [] 0) hu hlp
              refine Ev.step (fun k => ?_) hall
              simp only [sluiceref8_Split.j0]; rw [if_neg (by simp)]
            · have hs : splitV d u l = ([], 1) := by unfold splitV; rw [if_neg (fun hh => hok hh.2.2.2)]
              have hd := refDeal_ev d l hl _ (deal_bad d l hok)
              rw [hs]
              have hall : Ev (fun k => (sluiceref8_Deal.f k d l).bind fun bt192 => if bt192.2 = 0 then (sluiceref8_Deal.f k u l).bind fun bt196 => sluiceref8_Split.l0 k bt192.1 bt196.1 [] 0 else some ([], bt192.2)) ([], 1) := by
                refine Ev.bind (f := fun k bt192 => if bt192.2 = 0 then (sluiceref8_Deal.f k u l).bind fun bt196 => sluiceref8_Split.l0 k bt192.1 bt196.1 [] 0 else some ([], bt192.2)) hd ?_
                simp only [if_neg (show ¬ (1 : Int) = 0 by omega)]
                exact Ev.now _
              refine Ev.step (fun k => ?_) hall
              simp only [sluiceref8_Split.j0]; rw [if_neg (by simp)]
/-! fair -/
theorem tmodP (n m : Int) (hm : 0 < m) : (0 ≤ n → 0 ≤ Int.tmod n m ∧ Int.tmod n m < m) ∧ (n < 0 → Int.tmod n m ≤ 0 ∧ -m < Int.tmod n m) :=
  ⟨fun h => ⟨Int.tmod_nonneg _ h, Int.tmod_lt_of_pos _ hm⟩, fun h => by
    have h1 : Int.tmod n m = - Int.tmod (-n) m := by rw [Int.neg_tmod]; omega
    have h2 := Int.tmod_nonneg m (show 0 ≤ -n by omega)
    have h3 := Int.tmod_lt_of_pos (-n) hm
    omega⟩
theorem fair_loop (a0 : Int) (l : List Int) (ha : -9223372036854775808 ≤ a0 ∧ a0 ≤ 9223372036854775807) (hl : l.length ≤ 140737488351232) : ∀ d i : Nat, ∀ x : List Int, 17 - i = d → i ≤ 16 → i ≤ l.length → x.length = i → (∀ j : Nat, j < i → 0 ≤ rd x (j : Int) ∧ rd x (j : Int) ≤ 1048576) →
    ∃ T W, okW W ∧ 0 ≤ T ∧ T ≤ 1099511627776 ∧ Ev (fun k => sluicelaw8_fair.l0 k a0 l x (i : Int)) (T, W) := by
  intro d
  induction d with
  | zero => intro i x hd hi; omega
  | succ d ih =>
    intro i x hd hi hil hx hb
    by_cases hgo : i < l.length ∧ i < 16
    · have hgoal : ∀ y : Int, 0 ≤ y → y ≤ 1048576 → ∃ T W, okW W ∧ 0 ≤ T ∧ T ≤ 1099511627776 ∧ Ev (fun k => sluicelaw8_fair.l0 k a0 l (x ++ [y]) ((i + 1 : Nat) : Int)) (T, W) := fun y y0 y1 => by
        refine ih (i + 1) (x ++ [y]) (by omega) (by omega) (by omega) (by simp [hx]) ?_
        intro j hj
        rw [rd_getD, List.getD_eq_getElem?_getD]
        rcases Nat.lt_or_ge j i with h1 | h1
        · rw [List.getElem?_append_left (by omega), ← List.getD_eq_getElem?_getD, ← rd_getD]; exact hb j h1
        · obtain rfl : j = i := by omega
          rw [List.getElem?_append_right (by omega), hx]; simp; omega
      have hm := tmodP (rd l (i : Int)) 1048577 (by omega)
      by_cases hneg : Int.tmod (rd l (i : Int)) 1048577 < 0
      · obtain ⟨T, W, h1, h2, h3, h4⟩ := hgoal (wrap64 (-(Int.tmod (rd l (i : Int)) 1048577))) (by rw [w64 (by omega) (by omega)]; omega) (by rw [w64 (by omega) (by omega)]; omega)
        refine ⟨T, W, h1, h2, h3, ?_⟩
        have hj : Ev (fun k => sluicelaw8_fair.j1 k a0 l x (i : Int) true) (T, W) := by
          refine Ev.step (fun k => ?_) h4
          simp only [sluicelaw8_fair.j1]
          rw [if_pos trivial, if_pos (by omega), if_pos (by omega), if_pos hneg, if_pos (by omega), w64 (n := (i : Int) + 1) (by omega) (by omega)]; rfl
        refine Ev.step (fun k => ?_) hj
        simp only [sluicelaw8_fair.l0]
        rw [if_pos (by omega), decide_eq_true (by omega)]
      · obtain ⟨T, W, h1, h2, h3, h4⟩ := hgoal (Int.tmod (rd l (i : Int)) 1048577) (by omega) (by omega)
        refine ⟨T, W, h1, h2, h3, ?_⟩
        have hj : Ev (fun k => sluicelaw8_fair.j1 k a0 l x (i : Int) true) (T, W) := by
          refine Ev.step (fun k => ?_) h4
          simp only [sluicelaw8_fair.j1]
          rw [if_pos trivial, if_pos (by omega), if_pos (by omega), if_neg hneg, if_pos (by omega), w64 (n := (i : Int) + 1) (by omega) (by omega)]; rfl
        refine Ev.step (fun k => ?_) hj
        simp only [sluicelaw8_fair.l0]
        rw [if_pos (by omega), decide_eq_true (by omega)]
    · have hW : ∃ W, okW W ∧ (if (x.length : Int) = 0 then W = [1] else W = x) := by
        by_cases h0 : x.length = 0
        · exact ⟨[1], by decide, by rw [if_pos (by omega)]⟩
        · refine ⟨x, ⟨by omega, by omega, fun j hj => hb j (by omega)⟩, by rw [if_neg (by omega)]⟩
      obtain ⟨W, hW, hWe⟩ := hW
      have hT : ∃ T, 0 ≤ T ∧ T ≤ 1099511627776 ∧ T = if a0 < 0 then Int.tmod (wrap64 (-(wrap64 (a0 + 1)))) 1099511627777 else Int.tmod a0 1099511627777 := by
        by_cases h0 : a0 < 0
        · refine ⟨_, ?_, ?_, rfl⟩
          all_goals
            rw [if_pos h0, w64 (n := a0 + 1) (by omega) (by omega), w64 (by omega) (by omega)]
            have := tmodP (-(a0 + 1)) 1099511627777 (by omega)
            omega
        · refine ⟨_, ?_, ?_, rfl⟩
          all_goals
            rw [if_neg h0]
            have := tmodP a0 1099511627777 (by omega)
            omega
      obtain ⟨T, hT0, hT1, hTe⟩ := hT
      refine ⟨T, W, hW, hT0, hT1, ?_⟩
      have hj : Ev (fun k => sluicelaw8_fair.j1 k a0 l x (i : Int) false) (T, W) := by
        refine Ev.step (f := fun _ => some (T, W)) (fun k => ?_) (Ev.now _)
        simp only [sluicelaw8_fair.j1]
        rw [if_neg (by simp), hTe]
        by_cases h0 : (x.length : Int) = 0
        · rw [if_pos h0] at hWe ⊢
          rw [hWe]
          simp only [Option.bind_some]
          split <;> rfl
        · rw [if_neg h0] at hWe ⊢
          rw [hWe]
          split <;> rfl
      refine Ev.step (fun k => ?_) hj
      simp only [sluicelaw8_fair.l0]
      by_cases h5 : (i : Int) < (l.length : Int)
      · rw [if_pos h5, decide_eq_false (by omega)]
      · rw [if_neg h5]
theorem fair_ev (a0 : Int) (l : List Int) (ha : -9223372036854775808 ≤ a0 ∧ a0 ≤ 9223372036854775807) (hl : l.length ≤ 140737488351232) : ∃ T W, okW W ∧ 0 ≤ T ∧ T ≤ 1099511627776 ∧ Ev (fun k => sluicelaw8_fair.f k a0 l) (T, W) :=
  fair_loop a0 l ha hl 17 0 [] (by omega) (by omega) (by omega) rfl (fun j hj => absurd hj (by omega))
end Go.Proofs.Ytnkkkbmkbmjghaa.Pl
