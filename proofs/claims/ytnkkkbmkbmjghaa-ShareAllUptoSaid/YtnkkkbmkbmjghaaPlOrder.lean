/- Deal's order, in plain Lean: the places by falling rests, equal rests by rising places; each place once. -/
import Derived.Test.YtnkkkbmkbmjghaaPx3
namespace Go.Proofs.Ytnkkkbmkbmjghaa.Pl
open Go.RowKit Go.Proofs.Ytnkkkbmkbmjghaa.P Go.Proofs.YtnkkkbmkbmjghaaW.PrintWords
open Go.Proofs (ltOf)
set_option linter.unusedSectionVars false

section
variable {α : Type} [Inhabited α] (lt : α → α → Bool)
/-- One more into what stands turned round: the last first. -/
def revIns (x : α) : List α → List α
  | [] => [x]
  | y :: ys => if lt x y then y :: revIns x ys else x :: y :: ys
theorem get_mid (L1 L2 : List α) (x : α) (d : Array α) (h : d.toList = L1 ++ x :: L2) : d[L1.length]! = x := by
  have h1 : d[L1.length]? = some x := by rw [← Array.getElem?_toList, h]; simp
  rw [getElem!_def, h1]
theorem swap_mid (L1 L2 : List α) (x y : α) (d : Array α) (h : d.toList = L1 ++ y :: x :: L2) : (Sort.swp d (L1.length + 1) L1.length).toList = L1 ++ x :: y :: L2 := by
  have e1 : d[L1.length]! = y := get_mid L1 (x :: L2) y d h
  have e2 : d[L1.length + 1]! = x := by
    have := get_mid (L1 ++ [y]) L2 x d (by rw [h]; simp)
    simpa using this
  unfold Sort.swp
  rw [e1, e2]
  simp only [Array.toList_setIfInBounds, h]
  rw [List.set_append_right _ _ (by omega), List.set_append_right _ _ (by omega)]
  simp
theorem inner_eq (x : α) : ∀ (P L2 : List α) (d : Array α), d.toList = P.reverse ++ x :: L2 → (Sort.insInner lt 0 P.length d).toList = (revIns lt x P).reverse ++ L2
  | [], L2, d, h => by simpa [Sort.insInner, revIns] using h
  | y :: ys, L2, d, h => by
    have h' : d.toList = ys.reverse ++ y :: x :: L2 := by rw [h]; simp
    have e1 : d[ys.length]! = y := by have := get_mid ys.reverse (x :: L2) y d h'; simpa using this
    have e2 : d[ys.length + 1]! = x := by have := get_mid (ys.reverse ++ [y]) L2 x d (by rw [h']; simp); simpa using this
    simp only [List.length_cons, Sort.insInner, e1, e2, revIns]
    by_cases hl : lt x y = true
    · have hs := swap_mid ys.reverse L2 x y d h'
      rw [List.length_reverse] at hs
      rw [if_pos (by simp [hl]), if_pos hl, inner_eq x ys (y :: L2) _ hs]
      simp
    · rw [if_neg (by simp [hl]), if_neg hl]
      rw [h]; simp
theorem outer_eq : ∀ (L P : List α) (d : Array α), d.toList = P.reverse ++ L → (Sort.insOuter lt 0 (P.length + L.length) P.length d).toList = (L.foldl (fun P x => revIns lt x P) P).reverse
  | [], P, d, h => by rw [Sort.insOuter, if_neg (by simp)]; simpa using h
  | x :: L, P, d, h => by
    rw [Sort.insOuter, if_pos (by simp)]
    have h1 := inner_eq lt x P L d h
    have hl : (revIns lt x P).length = P.length + 1 := by
      have : ∀ Q : List α, (revIns lt x Q).length = Q.length + 1 := by
        intro Q
        induction Q with
        | nil => rfl
        | cons y ys ih => simp only [revIns]; split <;> simp [ih]
      exact this P
    have h2 := outer_eq L (revIns lt x P) _ h1
    rw [hl] at h2
    rw [List.foldl_cons, ← h2]
    congr 1
    simp only [List.length_cons]
    rw [show P.length + (L.length + 1) = P.length + 1 + L.length from by omega]
theorem perm_revIns (x : α) : ∀ P : List α, (revIns lt x P).Perm (x :: P)
  | [] => List.Perm.refl _
  | y :: ys => by
    simp only [revIns]
    split
    · exact ((perm_revIns x ys).cons y).trans (List.Perm.swap x y ys)
    · exact List.Perm.refl _
theorem perm_fold : ∀ (L P : List α), (L.foldl (fun P x => revIns lt x P) P).Perm (P ++ L)
  | [], P => by simp
  | x :: L, P => by
    rw [List.foldl_cons]
    refine (perm_fold L _).trans (((perm_revIns lt x P).append_right L).trans ?_)
    exact List.perm_middle.symm
/-- R: the order; what comes later in L is not less than what stood ahead of it, where 'lt' is told. -/
theorem sorted_revIns {R : α → α → Prop} (tr : ∀ a b c, R a b → R b c → R a c) (x : α) : ∀ P : List α, (∀ y ∈ P, (lt x y = true → R x y) ∧ (lt x y = false → R y x)) → P.Pairwise (fun a b => R b a) → (revIns lt x P).Pairwise (fun a b => R b a)
  | [], _, _ => by simp [revIns]
  | y :: ys, h, hp => by
    have hy := h y (List.mem_cons_self)
    have hp' := List.pairwise_cons.1 hp
    simp only [revIns]
    by_cases hl : lt x y = true
    · rw [if_pos hl, List.pairwise_cons]
      refine ⟨fun z hz => ?_, sorted_revIns tr x ys (fun z hz => h z (List.mem_cons_of_mem _ hz)) hp'.2⟩
      rcases List.mem_cons.1 ((perm_revIns lt x ys).mem_iff.1 hz) with rfl | hz
      · exact hy.1 hl
      · exact hp'.1 z hz
    · have hl' : lt x y = false := by simpa using hl
      rw [if_neg hl, List.pairwise_cons]
      refine ⟨fun z hz => ?_, hp⟩
      rcases List.mem_cons.1 hz with rfl | hz
      · exact hy.2 hl'
      · exact tr _ _ _ (hp'.1 z hz) (hy.2 hl')
theorem sorted_fold {R : α → α → Prop} (tr : ∀ a b c, R a b → R b c → R a c) : ∀ (L P : List α), (∀ x ∈ L, ∀ y ∈ P, (lt x y = true → R x y) ∧ (lt x y = false → R y x)) → L.Pairwise (fun y x => (lt x y = true → R x y) ∧ (lt x y = false → R y x)) →
    P.Pairwise (fun a b => R b a) → (L.foldl (fun P x => revIns lt x P) P).Pairwise (fun a b => R b a)
  | [], P, _, _, h => h
  | x :: L, P, h1, h2, h3 => by
    rw [List.foldl_cons]
    have h2' := List.pairwise_cons.1 h2
    refine sorted_fold tr L _ (fun z hz y hy => ?_) h2'.2 (sorted_revIns lt tr x P (fun y hy => h1 x List.mem_cons_self y hy) h3)
    rcases List.mem_cons.1 ((perm_revIns lt x P).mem_iff.1 hy) with rfl | hy
    · exact h2'.1 z hz
    · exact h1 z (List.mem_cons_of_mem _ hz) y hy
end
/-- x comes ahead of y: a greater rest, or an equal one at a lower place. -/
def Ahead (m : Nat) (total sum : Int) (v : List Int) (x y : Fin (m + 1)) : Prop := restV total sum v (y.val : Int) < restV total sum v (x.val : Int) ∨ (restV total sum v (y.val : Int) = restV total sum v (x.val : Int) ∧ x.val < y.val)
theorem ofFn_id (n : Nat) : (Array.ofFn fun i : Fin n => i).toList = List.finRange n := by
  rw [Array.toList_ofFn]; rfl
theorem order_fold (m : Nat) (total sum : Int) (v : List Int) : orderV m total sum v = ((List.finRange (m + 1)).foldl (fun P x => revIns (ltOf (cfV m total sum v)) x P) []).reverse := by
  unfold orderV Sort.insertionSort
  have h0 : (List.finRange (m + 1)) = 0 :: (List.finRange m).map Fin.succ := List.finRange_succ
  have h := outer_eq (ltOf (cfV m total sum v)) ((List.finRange m).map Fin.succ) [0] (Array.ofFn fun i : Fin (m + 1) => i) (by rw [ofFn_id, h0]; rfl)
  have e : [(0 : Fin (m + 1))].length + ((List.finRange m).map Fin.succ).length = m + 1 := by simp; omega
  rw [e] at h
  rw [show (0 + 1 : Nat) = [(0 : Fin (m + 1))].length from rfl, h, h0]
  rfl
theorem order_perm (m : Nat) (total sum : Int) (v : List Int) : (orderV m total sum v).Perm (List.finRange (m + 1)) := by
  rw [order_fold]
  refine (List.reverse_perm _).trans ?_
  have := perm_fold (ltOf (cfV m total sum v)) (List.finRange (m + 1)) []
  simpa using this
theorem order_sorted (m : Nat) (total sum : Int) (v : List Int) : (orderV m total sum v).Pairwise (Ahead m total sum v) := by
  rw [order_fold, List.pairwise_reverse]
  refine sorted_fold (ltOf (cfV m total sum v)) (R := Ahead m total sum v) ?_ (List.finRange (m + 1)) [] (by simp) ?_ (by simp)
  · intro a b c h1 h2
    unfold Ahead at *
    omega
  · have : (List.finRange (m + 1)).Pairwise (· < ·) := List.pairwise_lt_finRange _
    refine this.imp ?_
    intro y x hyx
    have hyx' : y.val < x.val := hyx
    unfold Ahead ltOf cfV
    refine ⟨fun h => ?_, fun h => ?_⟩
    · have := of_decide_eq_true h; omega
    · have := of_decide_eq_false h; omega
end Go.Proofs.Ytnkkkbmkbmjghaa.Pl
