/- Deal in plain Lean: what each part is; and the reference's Deal comes to just the same. -/
import Derived.Test.YtnkkkbmkbmjghaaPlOrder
import Derived.Test.YtnkkkbmkbmjghaaPx6
import Derived.Test.YtnkkkbmkbmjghaaPx7
namespace Go.Proofs.Ytnkkkbmkbmjghaa.Pl
open Go.RowKit Go.Proofs.Ytnkkkbmkbmjghaa.P Go.Proofs.YtnkkkbmkbmjghaaW.PrintWords
set_option linter.unusedVariables false
set_option linter.unusedSimpArgs false

theorem w64 {n : Int} (h0 : -9223372036854775808 ≤ n) (h1 : n ≤ 9223372036854775807) : wrap64 n = n := IntWalk.wrap64_in n ⟨h0, h1⟩
theorem rd_lt {l : List Int} {i : Nat} (h : i < l.length) : rd l (i : Int) = l[i] := by simp [rd, List.getD_eq_getElem?_getD, h]
theorem rd_getD (l : List Int) (i : Nat) : rd l (i : Int) = l.getD i 0 := by simp [rd]
/-! the chosen ones -/
def chosen (m : Nat) (total sum : Int) (v : List Int) (t : Nat) : List Nat := ((orderV m total sum v).take t).map (·.val)
theorem order_len (m : Nat) (total sum : Int) (v : List Int) : (orderV m total sum v).length = m + 1 := by have := (order_perm m total sum v).length_eq; simpa using this
theorem order_nodup (m : Nat) (total sum : Int) (v : List Int) : ((orderV m total sum v).map (·.val)).Nodup := by
  have h : (orderV m total sum v).Nodup := (order_perm m total sum v).symm.nodup (List.nodup_finRange _)
  rw [List.nodup_iff_pairwise_ne, List.pairwise_map]
  exact (List.nodup_iff_pairwise_ne.1 h).imp (fun hne he => hne (Fin.ext he))
theorem chosen_nodup (m : Nat) (total sum : Int) (v : List Int) (t : Nat) : (chosen m total sum v t).Nodup := by
  unfold chosen
  rw [List.map_take]
  exact (order_nodup m total sum v).sublist (List.take_sublist _ _)
theorem chosen_lt (m : Nat) (total sum : Int) (v : List Int) (t : Nat) : ∀ i ∈ chosen m total sum v t, i < m + 1 := by
  intro i hi
  obtain ⟨x, _, rfl⟩ := List.mem_map.1 hi
  exact x.isLt
theorem chosen_succ (m : Nat) (total sum : Int) (v : List Int) (t : Nat) (h : t < (orderV m total sum v).length) : chosen m total sum v (t + 1) = chosen m total sum v t ++ [((orderV m total sum v)[t]).val] := by
  unfold chosen
  rw [List.take_succ_eq_append_getElem h, List.map_append]; rfl
/-- Each place stands somewhere in the order. -/
theorem order_mem (m : Nat) (total sum : Int) (v : List Int) (x : Fin (m + 1)) : x ∈ orderV m total sum v := (order_perm m total sum v).mem_iff.2 (List.mem_finRange x)
/-- A chosen place stands ahead of one that is not. -/
theorem chosen_ahead (m : Nat) (total sum : Int) (v : List Int) (t : Nat) (i j : Nat) (hi : i < m + 1) (hj : j < m + 1) (h1 : i ∈ chosen m total sum v t) (h2 : j ∉ chosen m total sum v t) : Ahead m total sum v ⟨i, hi⟩ ⟨j, hj⟩ := by
  have hs := order_sorted m total sum v
  rw [← List.take_append_drop t (orderV m total sum v)] at hs
  refine (List.pairwise_append.1 hs).2.2 ⟨i, hi⟩ ?_ ⟨j, hj⟩ ?_
  · obtain ⟨x, hx, rfl⟩ := List.mem_map.1 h1
    exact hx
  · have := order_mem m total sum v ⟨j, hj⟩
    rw [← List.take_append_drop t (orderV m total sum v), List.mem_append] at this
    rcases this with h | h
    · exact absurd (List.mem_map.2 ⟨_, h, rfl⟩) h2
    · exact h
/-! what a part is -/
theorem bump_get : ∀ (r : List Nat) (p : List Int), r.Nodup → (∀ i ∈ r, i < p.length) → ∀ i : Nat, (bumpV p r).getD i 0 = p.getD i 0 + (if i ∈ r then 1 else 0)
  | [], p, _, _, i => by simp [bumpV]
  | j :: r, p, hn, hl, i => by
    have hn' := List.nodup_cons.1 hn
    simp only [bumpV]
    rw [bump_get r _ hn'.2 (by intro i hi; rw [List.length_set]; exact hl i (List.mem_cons_of_mem _ hi)) i, getD_set_int]
    by_cases h : j = i
    · subst h
      rw [if_pos ⟨rfl, hl j List.mem_cons_self⟩, if_neg hn'.1, if_pos List.mem_cons_self]; omega
    · rw [if_neg (fun hh => h hh.1)]
      have e : (i ∈ j :: r) = (i ∈ r) := by apply propext; rw [List.mem_cons]; exact ⟨fun hh => hh.elim (fun e => absurd e.symm h) id, Or.inr⟩
      simp only [e]
theorem deal_get (m : Nat) (total sum : Int) (v : List Int) (i : Nat) (hi : i < m + 1) : (dealV total sum v m).getD i 0 = floorV total sum v i + (if i ∈ chosen m total sum v (leftV total sum v (m + 1)).toNat then 1 else 0) := by
  unfold dealV
  show (bumpV _ (chosen m total sum v _)).getD i 0 = _
  rw [bump_get _ _ (chosen_nodup m total sum v _) (by intro i hi; rw [floors_len]; exact chosen_lt m total sum v _ i hi), floors_get _ _ _ _ _ _ hi hi]
/-! the reference's test of the weights -/
theorem right_loop (l : List Int) (hl : l.length ≤ 140737488351232) : ∀ d i : Nat, l.length - i = d → i ≤ l.length → (∀ j, j < i → 0 ≤ rd l (j : Int) ∧ rd l (j : Int) ≤ 1048576) →
    Ev (fun k => sluiceref8_right.l0 k l (i : Int)) (decide (∀ j : Nat, j < l.length → 0 ≤ rd l (j : Int) ∧ rd l (j : Int) ≤ 1048576)) := by
  intro d
  induction d with
  | zero =>
    intro i hd hi h
    have e : decide (∀ j : Nat, j < l.length → 0 ≤ rd l (j : Int) ∧ rd l (j : Int) ≤ 1048576) = true := decide_eq_true (fun j hj => h j (by omega))
    rw [e]
    refine Ev.step (f := fun _ => some true) (fun k => ?_) (Ev.now true)
    simp only [sluiceref8_right.l0]; rw [if_neg (by omega)]
  | succ d ih =>
    intro i hd hi h
    by_cases hb : 0 ≤ rd l (i : Int) ∧ rd l (i : Int) ≤ 1048576
    · refine Ev.step (f := fun k => sluiceref8_right.l0 k l ((i + 1 : Nat) : Int)) (fun k => ?_) (ih (i + 1) (by omega) (by omega) (fun j hj => if h1 : j < i then h j h1 else (show j = i by omega) ▸ hb))
      simp only [sluiceref8_right.l0]
      rw [if_pos (by omega), if_pos (by omega), if_neg (by omega), if_neg (by omega), w64 (by omega) (by omega)]; rfl
    · have e : decide (∀ j : Nat, j < l.length → 0 ≤ rd l (j : Int) ∧ rd l (j : Int) ≤ 1048576) = false := decide_eq_false (fun hh => hb (hh i (by omega)))
      rw [e]
      refine Ev.step (f := fun _ => some false) (fun k => ?_) (Ev.now false)
      simp only [sluiceref8_right.l0]
      rw [if_pos (by omega), if_pos (by omega)]
      by_cases h1 : rd l (i : Int) < 0
      · rw [if_pos h1]
      · rw [if_neg h1, if_pos (by omega)]
theorem right_ev (l : List Int) (hl : l.length ≤ 140737488351232) : Ev (fun k => sluiceref8_right.f k l) (decide (okW l)) := by
  unfold sluiceref8_right.f
  by_cases h1 : (l.length : Int) < 1
  · have e : decide (okW l) = false := decide_eq_false (fun h => by have := h.1; omega)
    rw [e]
    refine Ev.step (f := fun _ => some false) (fun k => ?_) (Ev.now false)
    simp only [if_pos h1, sluiceref8_right.j0, if_true]
  · by_cases h2 : (l.length : Int) > 16
    · have e : decide (okW l) = false := decide_eq_false (fun h => by have := h.2.1; omega)
      rw [e]
      refine Ev.step (f := fun _ => some false) (fun k => ?_) (Ev.now false)
      simp only [if_neg h1, decide_eq_true h2, sluiceref8_right.j0, if_true]
    · have h := right_loop l hl l.length 0 (by omega) (by omega) (fun j hj => absurd hj (by omega))
      have e : decide (okW l) = decide (∀ j : Nat, j < l.length → 0 ≤ rd l (j : Int) ∧ rd l (j : Int) ≤ 1048576) := by
        rw [decide_eq_decide]; exact ⟨fun hh => hh.2.2, fun hh => ⟨by omega, by omega, hh⟩⟩
      rw [e]
      refine Ev.step (f := fun k => sluiceref8_right.l0 k l ((0 : Nat) : Int)) (fun k => ?_) h
      simp only [if_neg h1, decide_eq_false h2, sluiceref8_right.j0]; rfl
/-! the reference's Deal, loop by loop -/
theorem l4_ev (p r : List Int) (left : Int) (b : Nat) (R : List Int × Int) (hb : b < r.length) (hp : p.length = r.length) (hn : r.length ≤ 16) (hmax : ∀ j : Nat, j < r.length → rd r (j : Int) ≤ rd r (b : Int)) (hfst : ∀ j : Nat, j < b → rd r (j : Int) < rd r (b : Int))
    (hg : Ev (fun k => sluiceref8_Deal.l3 k (p.set b (wrap64 (rd p (b : Int) + 1))) (r.set b (-1)) (wrap64 (left - 1))) R) :
    ∀ d i best : Nat, r.length - i = d → i ≤ r.length → best < r.length → (b < i → best = b) → (i ≤ b → best = b ∨ rd r (best : Int) < rd r (b : Int)) → Ev (fun k => sluiceref8_Deal.l4 k p r left (best : Int) (i : Int)) R := by
  intro d
  induction d with
  | zero =>
    intro i best hd hi h1 h2 h3
    obtain rfl := h2 (by omega)
    refine Ev.step (fun k => ?_) hg
    simp only [sluiceref8_Deal.l4]
    rw [if_neg (by omega), if_pos (by omega), if_pos (by omega), if_pos (by omega)]
    simp
  | succ d ih =>
    intro i best hd hi h1 h2 h3
    have hm := hmax i (by omega)
    by_cases hgt : rd r (i : Int) > rd r (best : Int)
    · refine Ev.step (f := fun k => sluiceref8_Deal.l4 k p r left (i : Int) ((i + 1 : Nat) : Int)) (fun k => ?_) (ih (i + 1) i (by omega) (by omega) (by omega) ?_ ?_)
      · simp only [sluiceref8_Deal.l4]
        rw [if_pos (by omega), if_pos (by omega), if_pos (by omega), if_pos (by omega), if_pos hgt, w64 (by omega) (by omega)]; rfl
      · intro h4
        rcases Nat.lt_or_ge b i with h5 | h5
        · obtain rfl := h2 h5; omega
        · omega
      · intro h4; exact Or.inr (hfst i (by omega))
    · refine Ev.step (f := fun k => sluiceref8_Deal.l4 k p r left (best : Int) ((i + 1 : Nat) : Int)) (fun k => ?_) (ih (i + 1) best (by omega) (by omega) h1 ?_ ?_)
      · simp only [sluiceref8_Deal.l4]
        rw [if_pos (by omega), if_pos (by omega), if_pos (by omega), if_pos (by omega), if_neg hgt, w64 (by omega) (by omega)]; rfl
      · intro h4
        rcases Nat.lt_or_ge b i with h5 | h5
        · exact h2 h5
        · obtain rfl : b = i := by omega
          rcases h3 (by omega) with h6 | h6
          · exact h6
          · omega
      · intro h4; exact h3 (by omega)
def restsT (m : Nat) (total sum : Int) (v : List Int) (t : Nat) : List Int := (List.range (m + 1)).map fun i => if i ∈ chosen m total sum v t then -1 else restV total sum v (i : Int)
theorem restsT_rd (m : Nat) (total sum : Int) (v : List Int) (t i : Nat) (hi : i < m + 1) : rd (restsT m total sum v t) (i : Int) = if i ∈ chosen m total sum v t then -1 else restV total sum v (i : Int) := by
  rw [rd_getD]; simp [restsT, List.getD_eq_getElem?_getD, hi]
theorem l3_ev (m : Nat) (total sum : Int) (v : List Int) (h : P.Good (m + 1) total sum v) : ∀ d t : Nat, (leftV total sum v (m + 1)).toNat - t = d → t ≤ (leftV total sum v (m + 1)).toNat →
    Ev (fun k => sluiceref8_Deal.l3 k (bumpV (floorsV total sum v (m + 1) (m + 1)) (chosen m total sum v t)) (restsT m total sum v t) (leftV total sum v (m + 1) - t)) (dealV total sum v m, 0) := by
  have hlb := left_bd h
  have hn2 := h.n2
  intro d
  induction d with
  | zero =>
    intro t hd ht
    obtain rfl : t = (leftV total sum v (m + 1)).toNat := by omega
    refine Ev.step (f := fun _ => some (dealV total sum v m, 0)) (fun k => ?_) (Ev.now _)
    simp only [sluiceref8_Deal.l3]
    rw [if_neg (by omega)]; rfl
  | succ d ih =>
    intro t hd ht
    have htl : t < (orderV m total sum v).length := by rw [order_len]; omega
    obtain ⟨x, hx⟩ : ∃ x, (orderV m total sum v)[t] = x := ⟨_, rfl⟩
    have hsucc : chosen m total sum v (t + 1) = chosen m total sum v t ++ [x.val] := by rw [chosen_succ _ _ _ _ _ htl, hx]
    have hxn : x.val ∉ chosen m total sum v t := by
      have := chosen_nodup m total sum v (t + 1)
      rw [hsucc] at this
      intro hh
      exact (List.nodup_append.1 this).2.2 _ hh _ (List.mem_singleton.2 rfl) rfl
    have hx1 : x.val ∈ chosen m total sum v (t + 1) := by rw [hsucc]; simp
    have hlen : (restsT m total sum v t).length = m + 1 := by simp [restsT]
    have hplen : (bumpV (floorsV total sum v (m + 1) (m + 1)) (chosen m total sum v t)).length = m + 1 := by rw [bump_len, floors_len]
    have hsum := h.b.s0
    have hrest : ∀ j : Nat, 0 ≤ restV total sum v (j : Int) := fun j => Int.emod_nonneg _ (by omega)
    have hah : ∀ (j : Nat) (hj : j < m + 1), j ∉ chosen m total sum v t → j = x.val ∨ Ahead m total sum v x ⟨j, hj⟩ := by
      intro j hj hjn
      by_cases e : j = x.val
      · exact Or.inl e
      · exact Or.inr (chosen_ahead m total sum v (t + 1) x.val j x.isLt hj hx1 (by rw [hsucc]; simp [hjn, e]))
    have hbd := bump_bd (M := total) (chosen m total sum v t) (floorsV total sum v (m + 1) (m + 1)) (fun i => by
      rcases Nat.lt_or_ge i (m + 1) with h1 | h1
      · rw [floors_get _ _ _ _ _ _ h1 h1]; exact h.floor h1
      · rw [List.getD_eq_getElem?_getD, List.getElem?_eq_none (by rw [floors_len]; exact h1)]; simpa using h.b.t0) h.b.t0 x.val
    have hcl : (chosen m total sum v t).length ≤ 16 := by unfold chosen; simp; omega
    have ht1 := h.b.t1
    refine Ev.step (f := fun k => sluiceref8_Deal.l4 k (bumpV (floorsV total sum v (m + 1) (m + 1)) (chosen m total sum v t)) (restsT m total sum v t) (leftV total sum v (m + 1) - t) ((0 : Nat) : Int) ((0 : Nat) : Int)) (fun k => ?_)
      (l4_ev _ _ _ x.val _ (by rw [hlen]; exact x.isLt) (by rw [hplen, hlen]) (by rw [hlen]; omega) ?_ ?_ ?_ (restsT m total sum v t).length 0 0 (by omega) (by omega) (by rw [hlen]; omega) (fun hh => absurd hh (by omega)) ?_)
    · simp only [sluiceref8_Deal.l3]; rw [if_pos (by omega)]; rfl
    · intro j hj
      rw [hlen] at hj
      rw [restsT_rd _ _ _ _ _ _ hj, restsT_rd _ _ _ _ _ _ x.isLt, if_neg hxn]
      by_cases hjc : j ∈ chosen m total sum v t
      · rw [if_pos hjc]; have := hrest x.val; omega
      · rw [if_neg hjc]
        rcases hah j hj hjc with rfl | ha
        · omega
        · unfold Ahead at ha; simp only at ha; omega
    · intro j hj
      have hj2 : j < m + 1 := by have := x.isLt; omega
      rw [restsT_rd _ _ _ _ _ _ hj2, restsT_rd _ _ _ _ _ _ x.isLt, if_neg hxn]
      by_cases hjc : j ∈ chosen m total sum v t
      · rw [if_pos hjc]; have := hrest x.val; omega
      · rw [if_neg hjc]
        rcases hah j hj2 hjc with rfl | ha
        · omega
        · unfold Ahead at ha; simp only at ha; omega
    · have e1 : (bumpV (floorsV total sum v (m + 1) (m + 1)) (chosen m total sum v t)).set x.val (wrap64 (rd (bumpV (floorsV total sum v (m + 1) (m + 1)) (chosen m total sum v t)) (x.val : Int) + 1)) = bumpV (floorsV total sum v (m + 1) (m + 1)) (chosen m total sum v (t + 1)) := by
        rw [hsucc, bump_snoc, rd_getD, w64 (by omega) (by omega)]
      have e2 : (restsT m total sum v t).set x.val (-1) = restsT m total sum v (t + 1) := by
        apply List.ext_getElem?
        intro i
        rw [List.getElem?_set]
        by_cases e : x.val = i
        · subst e
          have := x.isLt
          simp [restsT, hsucc, this]
        · rw [if_neg e]
          have e' : ¬ i = x.val := fun hh => e hh.symm
          rcases Nat.lt_or_ge i (m + 1) with h1 | h1
          · simp [restsT, h1, hsucc, e']
          · simp [restsT, h1]
      have e3 : wrap64 (leftV total sum v (m + 1) - t - 1) = leftV total sum v (m + 1) - ((t + 1 : Nat) : Int) := by rw [w64 (by omega) (by omega)]; omega
      rw [e1, e2, e3]
      exact ih (t + 1) (by omega) (by omega)
    · intro _
      rw [restsT_rd _ _ _ _ _ _ (by omega : 0 < m + 1), restsT_rd _ _ _ _ _ _ x.isLt, if_neg hxn]
      by_cases hc0 : 0 ∈ chosen m total sum v t
      · rw [if_pos hc0]; exact Or.inr (by have := hrest x.val; omega)
      · rw [if_neg hc0]
        rcases hah 0 (by omega) hc0 with h0 | ha
        · exact Or.inl h0
        · unfold Ahead at ha; simp only at ha
          exact Or.inr (by omega)
theorem l2_ev (m : Nat) (total sum : Int) (v : List Int) (hv : v.length = m + 1) (h : P.Good (m + 1) total sum v) : ∀ d i : Nat, m + 1 - i = d → i ≤ m + 1 →
    Ev (fun k => sluiceref8_Deal.l2 k total v sum ((List.range i).map fun j => floorV total sum v j) ((List.range i).map fun (j : Nat) => restV total sum v (j : Int)) (leftV total sum v i) (i : Int)) (dealV total sum v m, 0) := by
  have hn2 := h.n2
  intro d
  induction d with
  | zero =>
    intro i hd hi
    obtain rfl : i = m + 1 := by omega
    have h3 := l3_ev m total sum v h _ 0 rfl (by omega)
    refine Ev.step (fun k => ?_) h3
    simp only [sluiceref8_Deal.l2]
    rw [if_neg (by omega)]
    have e1 : (List.range (m + 1)).map (fun j => floorV total sum v j) = bumpV (floorsV total sum v (m + 1) (m + 1)) (chosen m total sum v 0) := by
      simp only [chosen, List.take_zero, List.map_nil, bumpV, floorsV]
      apply List.map_congr_left
      intro j hj
      rw [if_pos (List.mem_range.1 hj)]
    have e2 : (List.range (m + 1)).map (fun (j : Nat) => restV total sum v (j : Int)) = restsT m total sum v 0 := by simp [restsT, chosen]
    rw [e1, e2]; simp
  | succ d ih =>
    intro i hd hi
    have b0 := h.b.t0; have b1 := h.b.t1; have s0 := h.b.s0; have s1 := h.b.s1
    obtain ⟨x0, x1⟩ := h.b.x i (by omega)
    obtain ⟨p0, p1⟩ := prod_bd b0 b1 x0 x1
    have fl := h.floor (show i < m + 1 by omega)
    have lm := left_mid h i hi
    have hkk : (i : Int) * total ≤ 16 * total := Int.mul_le_mul_of_nonneg_right (by omega) b0
    refine Ev.step (fun k => ?_) (ih (i + 1) (by omega) (by omega))
    simp only [sluiceref8_Deal.l2]
    rw [if_pos (by omega), if_pos (by omega), if_neg (by omega), if_pos (by simp; omega), if_pos (by simp; omega)]
    have e0 : wrap64 (total * rd v (i : Int)) = total * rd v (i : Int) := w64 (by omega) (by omega)
    have e1 : wrap64 (Int.tdiv (total * rd v (i : Int)) sum) = floorV total sum v i := by
      rw [Int.tdiv_eq_ediv_of_nonneg p0]
      show wrap64 (floorV total sum v i) = _
      exact w64 (by omega) (by omega)
    have e2 : Int.tmod (total * rd v (i : Int)) sum = restV total sum v (i : Int) := by rw [Int.tmod_eq_emod_of_nonneg p0]; rfl
    rw [e0, e1, e2, w64 (by omega) (by omega), w64 (n := (i : Int) + 1) (by omega) (by omega), List.range_succ, List.map_append, List.map_append]
    rfl
theorem j3_ev (m : Nat) (total sum : Int) (v : List Int) (hv : v.length = m + 1) (h : P.Good (m + 1) total sum v) : Ev (fun k => sluiceref8_Deal.j3 k total v sum) (dealV total sum v m, 0) := by
  refine Ev.step (fun k => ?_) (l2_ev m total sum v hv h (m + 1) 0 (by omega) (by omega))
  simp only [sluiceref8_Deal.j3]; rfl
theorem l1_ev (n : Nat) (total : Int) (R : List Int × Int) (hn : n ≤ 16) (hg : Ev (fun k => sluiceref8_Deal.j3 k total (List.replicate n 1) (n : Int)) R) : ∀ d i : Nat, ∀ v : List Int, v.length = n → n - i = d → i ≤ n → (∀ j, j < i → v.getD j 0 = 1) → Ev (fun k => sluiceref8_Deal.l1 k total v (i : Int)) R := by
  intro d
  induction d with
  | zero =>
    intro i v hv hd hi h1
    have e : v = List.replicate n 1 := by
      apply List.ext_getElem?
      intro j
      rcases Nat.lt_or_ge j n with h2 | h2
      · have := h1 j (by omega)
        rw [List.getD_eq_getElem?_getD, List.getElem?_eq_getElem (by omega)] at this
        rw [List.getElem?_eq_getElem (by omega), List.getElem?_replicate, if_pos h2]; simpa using this
      · rw [List.getElem?_eq_none (by omega), List.getElem?_eq_none (by simpa using h2)]
    refine Ev.step (fun k => ?_) hg
    simp only [sluiceref8_Deal.l1]
    rw [if_neg (by omega), e]; simp
  | succ d ih =>
    intro i v hv hd hi h1
    refine Ev.step (fun k => ?_) (ih (i + 1) (v.set i 1) (by simpa using hv) (by omega) (by omega) ?_)
    · simp only [sluiceref8_Deal.l1]
      rw [if_pos (by omega), if_pos (by omega), w64 (by omega) (by omega)]; simp
    · intro j hj
      rw [getD_set_int]
      by_cases e : i = j
      · rw [if_pos ⟨e, by omega⟩]
      · rw [if_neg (fun hh => e hh.1)]; exact h1 j (by omega)
theorem l0_ev (total : Int) (l : List Int) (R : List Int × Int) (hl : l.length ≤ 16) (hx : ∀ i : Nat, i < l.length → 0 ≤ rd l (i : Int) ∧ rd l (i : Int) ≤ 1048576)
    (hg : Ev (fun k => if sumN l l.length = 0 then sluiceref8_Deal.l1 k total l 0 else sluiceref8_Deal.j3 k total l (sumN l l.length)) R) : ∀ d i : Nat, l.length - i = d → i ≤ l.length → Ev (fun k => sluiceref8_Deal.l0 k total l (l.take i) (sumN l i) (i : Int)) R := by
  intro d
  induction d with
  | zero =>
    intro i hd hi
    obtain rfl : i = l.length := by omega
    refine Ev.step (fun k => ?_) hg
    simp only [sluiceref8_Deal.l0]
    rw [if_neg (by omega), List.take_length]
  | succ d ih =>
    intro i hd hi
    have hb := sumN_bd hx i hi
    have hxi := hx i (by omega)
    refine Ev.step (fun k => ?_) (ih (i + 1) (by omega) (by omega))
    simp only [sluiceref8_Deal.l0]
    rw [if_pos (by omega), if_pos (by omega), if_pos (by simp; omega), w64 (by omega) (by omega), w64 (by omega) (by omega), List.take_succ_eq_append_getElem (by omega), rd_lt (by omega)]
    simp only [sumN]; rw [rd_lt (by omega)]; rfl
/-- The reference's Deal comes to what the program's comes to. -/
theorem refDeal_ev (a0 : Int) (l : List Int) (hl : l.length ≤ 140737488351232) (r : List Int × Int) (h : share_Deal.f a0 l = some r) : Ev (fun k => sluiceref8_Deal.f k a0 l) r := by
  unfold share_Deal.f at h
  unfold sluiceref8_Deal.f
  have hbad : ∀ (hg : ¬ (okW l ∧ 0 ≤ a0 ∧ a0 ≤ 1099511627776)), r = ([], 1) := fun hg => by rw [if_neg hg] at h; exact (Option.some.inj h).symm
  by_cases h0 : a0 < 0
  · rw [hbad (by omega)]
    refine Ev.step (f := fun _ => some ([], 1)) (fun k => ?_) (Ev.now _)
    rw [if_pos h0]; simp only [sluiceref8_Deal.j0, if_true]
  · by_cases h1 : a0 > 1099511627776
    · rw [hbad (by omega)]
      refine Ev.step (f := fun _ => some ([], 1)) (fun k => ?_) (Ev.now _)
      rw [if_neg h0, if_pos h1]; simp only [sluiceref8_Deal.j0, if_true]
    · simp only [if_neg h0, if_neg h1]
      refine Ev.bind (right_ev l hl) ?_
      by_cases hok : okW l
      · rw [decide_eq_true hok]
        have hr : r = (dealV a0 (sOf l) (vOf l) (l.length - 1), 0) := by rw [if_pos ⟨hok, by omega, by omega⟩] at h; exact (Option.some.inj h).symm
        obtain ⟨m, hm⟩ : ∃ m, l.length = m + 1 := ⟨l.length - 1, by have := hok.1; omega⟩
        have hgood := good_of l a0 hok (by omega) (by omega)
        have hb := sumN_bd hok.2.2 l.length (Nat.le_refl _)
        rw [hm] at hgood
        have hvl : (vOf l).length = m + 1 := by unfold vOf; split <;> simp [hm]
        have hj := j3_ev m a0 (sOf l) (vOf l) hvl hgood
        rw [hr, show l.length - 1 = m from by omega]
        have h0ev := l0_ev a0 l (dealV a0 (sOf l) (vOf l) m, 0) hok.2.1 hok.2.2 (by
          by_cases hs : sumN l l.length = 0
          · simp only [if_pos hs]
            have e1 : vOf l = List.replicate l.length 1 := by unfold vOf; rw [if_neg (by omega)]
            have e2 : sOf l = (l.length : Int) := by unfold sOf; rw [if_neg (by omega)]
            rw [e1, e2] at hj
            have := l1_ev l.length a0 _ hok.2.1 hj l.length 0 l rfl (by omega) (by omega) (fun j hj => absurd hj (by omega))
            rw [e1, e2]; exact this
          · simp only [if_neg hs]
            have e1 : vOf l = l := by unfold vOf; rw [if_pos (by omega)]
            have e2 : sOf l = sumN l l.length := by unfold sOf; rw [if_pos (by omega)]
            rw [e1, e2] at hj ⊢; exact hj) l.length 0 (by omega) (by omega)
        refine Ev.step (fun k => ?_) h0ev
        simp only [sluiceref8_Deal.j0]; rfl
      · rw [decide_eq_false hok, hbad (fun hh => hok hh.1)]
        refine Ev.step (f := fun _ => some ([], 1)) (fun k => ?_) (Ev.now _)
        simp only [sluiceref8_Deal.j0]; rfl
end Go.Proofs.Ytnkkkbmkbmjghaa.Pl
