/- Ask and Give in plain Lean; the document's first example; and the statement ShareMost. -/
import Derived.Test.YtnkkkbmkbmjghaaPlDeal
import Derived.Test.YtnkkkbmkbmjghaaPx4
import Derived.Test.YtnkkkbmkbmjghaaPx9
namespace Go.Proofs.Ytnkkkbmkbmjghaa.Pl
open Go.RowKit Go.Proofs.Ytnkkkbmkbmjghaa.P Go.Proofs.YtnkkkbmkbmjghaaW.PrintWords
set_option linter.unusedVariables false
set_option linter.unusedSimpArgs false

theorem same_loop (a b : List Int) (hl : a.length ≤ 140737488355328) (he : a.length = b.length) : ∀ d i : Nat, a.length - i = d → i ≤ a.length → a.take i = b.take i → Ev (fun k => sluicelaw8_same.l0 k a b (i : Int)) (decide (a = b)) := by
  intro d
  induction d with
  | zero =>
    intro i hd hi h
    obtain rfl : i = a.length := by omega
    have e : a = b := by rwa [List.take_length, he, List.take_length] at h
    rw [decide_eq_true e]
    refine Ev.step (f := fun _ => some true) (fun k => ?_) (Ev.now _)
    simp only [sluicelaw8_same.l0]; rw [if_neg (by omega)]
  | succ d ih =>
    intro i hd hi h
    by_cases hx : rd a (i : Int) = rd b (i : Int)
    · refine Ev.step (f := fun k => sluicelaw8_same.l0 k a b ((i + 1 : Nat) : Int)) (fun k => ?_) (ih (i + 1) (by omega) (by omega) ?_)
      · simp only [sluicelaw8_same.l0]
        rw [if_pos (by omega), if_pos (by omega), if_pos (by omega), if_pos hx, w64 (by omega) (by omega)]; rfl
      · rw [List.take_succ_eq_append_getElem (by omega), List.take_succ_eq_append_getElem (by omega), h]
        rw [rd_lt (by omega), rd_lt (by omega)] at hx
        rw [hx]
    · have e : ¬ a = b := fun e => hx (by rw [e])
      rw [decide_eq_false e]
      refine Ev.step (f := fun _ => some false) (fun k => ?_) (Ev.now _)
      simp only [sluicelaw8_same.l0]
      rw [if_pos (by omega), if_pos (by omega), if_pos (by omega), if_neg hx]
theorem same_ev (a b : List Int) (hl : a.length ≤ 140737488355328) : Ev (fun k => sluicelaw8_same.f k a b) (decide (a = b)) := by
  unfold sluicelaw8_same.f
  by_cases he : a.length = b.length
  · simp only [if_pos (show (a.length : Int) = (b.length : Int) by omega)]
    exact same_loop a b hl he a.length 0 (by omega) (by omega) rfl
  · simp only [if_neg (show ¬ (a.length : Int) = (b.length : Int) by omega)]
    rw [decide_eq_false (fun e => he (by rw [e]))]
    exact Ev.now _
theorem deal_first : share_Deal.f 10 [1, 1, 1] = some ([4, 3, 3], 0) := by
  have h : okW [1, 1, 1] := by decide
  unfold share_Deal.f
  rw [if_pos ⟨h, by omega, by omega⟩]
  show some (dealV 10 3 [1, 1, 1] 2, (0 : Int)) = _
  unfold dealV
  rw [order_fold]
  decide +kernel
/-! Give -/
theorem tdiv2 (a : Int) : (0 ≤ a → Int.tdiv a 2 = a / 2) ∧ (a < 0 → Int.tdiv a 2 = -((-a) / 2)) :=
  ⟨fun h => Int.tdiv_eq_ediv_of_nonneg h, fun h => by
    have h1 := Int.neg_tdiv (-a) 2
    rw [Int.neg_neg] at h1
    rw [h1, Int.tdiv_eq_ediv_of_nonneg (by omega)]⟩
theorem give_val (a b : Int) (ha : -9223372036854775808 ≤ a ∧ a ≤ 9223372036854775807) (hb : -9223372036854775808 ≤ b ∧ b ≤ 9223372036854775807) :
    share_Give.f a b = some (if a ≤ 0 ∨ b ≤ 0 then 0 else if b < (a + 1) / 2 then b else (a + 1) / 2) := by
  unfold share_Give.f
  have h3 := tdiv2 a
  have h1 : wrap64 (Int.tdiv a 2) = Int.tdiv a 2 := w64 (by omega) (by omega)
  have h2 : wrap64 (a - Int.tdiv a 2) = a - Int.tdiv a 2 := w64 (by omega) (by omega)
  rw [h1, h2]
  congr 1
  unfold mx mn
  split <;> split <;> split <;> (try split) <;> omega
theorem able_ev : Ev (fun k => sluicelaw8_able.f k) true := by
  unfold sluicelaw8_able.f
  simp only [deal_first, Option.bind_some, if_true]
  have h := same_ev [4, 3, 3] [4, 3, 3] (by simp)
  rw [decide_eq_true rfl] at h
  refine Ev.bind (f := fun k t119 => if t119 = true then _ else _) h ?_
  refine Ev.congr (fun k => ?_) (Ev.now true)
  rw [if_pos rfl, show share_Ask.f 1 [5, 9, 5, 0] = some 2 by decide, give_val 5 2 (by omega) (by omega)]
  decide
theorem refGive_ev (a b : Int) (ha : -9223372036854775808 ≤ a ∧ a ≤ 9223372036854775807) (hb : -9223372036854775808 ≤ b ∧ b ≤ 9223372036854775807) (r : Int) (h : share_Give.f a b = some r) : Ev (fun k => sluiceref8_Give.f k a b) r := by
  rw [give_val a b ha hb] at h
  obtain rfl := Option.some.inj h
  unfold sluiceref8_Give.f
  by_cases h0 : a ≤ 0
  · simp only [if_pos h0]
    rw [if_pos (Or.inl h0)]
    exact Ev.step (f := fun _ => some 0) (fun k => by simp only [sluiceref8_Give.j0, if_true]) (Ev.now _)
  · simp only [if_neg h0]
    by_cases h1 : b ≤ 0
    · rw [if_pos (Or.inr h1), decide_eq_true h1]
      exact Ev.step (f := fun _ => some 0) (fun k => by simp only [sluiceref8_Give.j0, if_true]) (Ev.now _)
    · rw [if_neg (by omega), decide_eq_false h1]
      have e : wrap64 (wrap64 (Int.tdiv a 2) + Int.tmod a 2) = (a + 1) / 2 := by
        rw [Int.tdiv_eq_ediv_of_nonneg (by omega), Int.tmod_eq_emod_of_nonneg (by omega), w64 (n := a / 2) (by omega) (by omega), w64 (by omega) (by omega)]; omega
      refine Ev.step (f := fun _ => some (if b < (a + 1) / 2 then b else (a + 1) / 2)) (fun k => ?_) (Ev.now _)
      simp only [sluiceref8_Give.j0, e]
      rw [if_neg (by simp)]
      split <;> rfl
/-! Ask: what is best of the places that were looked at -/
def Best (l : List Int) (S : Nat → Prop) (s : Int × Int) : Prop :=
  0 ≤ s.2 ∧ ((s.1 = -1 ∧ s.2 = 0) ∨ ∃ j : Nat, S j ∧ j < l.length ∧ s.1 = (j : Int) ∧ rd l (j : Int) = s.2 ∧ 0 < s.2) ∧ ∀ j : Nat, S j → rd l (j : Int) ≤ s.2
theorem look_best (l : List Int) : ∀ (n i : Nat) (S : Nat → Prop) (s : Int × Int), i + n ≤ l.length → Best l S s → Best l (fun j => S j ∨ (i ≤ j ∧ j < i + n)) (lookL l n i s)
  | 0, i, S, s, hl, h => by
    refine ⟨h.1, ?_, ?_⟩
    · rcases h.2.1 with h1 | ⟨j, h1, h2⟩
      · exact Or.inl h1
      · exact Or.inr ⟨j, Or.inl h1, h2⟩
    · intro j hj
      rcases hj with hj | hj
      · exact h.2.2 j hj
      · omega
  | n + 1, i, S, s, hl, h => by
    simp only [lookL]
    have h1 : Best l (fun j => S j ∨ j = i) (if s.2 < rd l (i : Int) then ((i : Int), rd l (i : Int)) else s) := by
      by_cases hlt : s.2 < rd l (i : Int)
      · rw [if_pos hlt]
        have h0 := h.1
        refine ⟨by simp only; omega, Or.inr ⟨i, Or.inr rfl, by omega, rfl, rfl, by simp only; omega⟩, ?_⟩
        intro j hj
        rcases hj with hj | rfl
        · have := h.2.2 j hj; simp only; omega
        · exact Int.le_refl _
      · rw [if_neg hlt]
        refine ⟨h.1, ?_, ?_⟩
        · rcases h.2.1 with h1 | ⟨j, h1, h2⟩
          · exact Or.inl h1
          · exact Or.inr ⟨j, Or.inl h1, h2⟩
        · intro j hj
          rcases hj with hj | rfl
          · exact h.2.2 j hj
          · omega
    have h2 := look_best l n (i + 1) _ _ (by omega) h1
    have e : (fun j => (S j ∨ j = i) ∨ (i + 1 ≤ j ∧ j < i + 1 + n)) = (fun j => S j ∨ (i ≤ j ∧ j < i + (n + 1))) := by
      funext j; apply propext
      constructor
      · rintro ((h | h) | h)
        · exact Or.inl h
        · exact Or.inr (by omega)
        · exact Or.inr (by omega)
      · rintro (h | h)
        · exact Or.inl (Or.inl h)
        · by_cases hj : j = i
          · exact Or.inl (Or.inr hj)
          · exact Or.inr (by omega)
    rw [e] at h2
    exact h2
theorem best_none (l : List Int) : Best l (fun _ => False) (-1, 0) := ⟨by simp, Or.inl ⟨rfl, rfl⟩, fun j hj => hj.elim⟩
theorem ask_best (me : Int) (l : List Int) : ∃ s, share_Ask.f me l = some s.1 ∧ Best l (fun j => j < l.length ∧ (j : Int) ≠ me) s := by
  unfold share_Ask.f
  by_cases h : me < 0 ∨ (l.length : Int) ≤ me
  · rw [if_pos h]
    refine ⟨_, rfl, ?_⟩
    have h1 := look_best l l.length 0 _ _ (by omega) (best_none l)
    have e : (fun j => False ∨ (0 ≤ j ∧ j < 0 + l.length)) = (fun j => j < l.length ∧ (j : Int) ≠ me) := by
      funext j; apply propext
      constructor
      · rintro (h1 | h1)
        · exact h1.elim
        · omega
      · intro h1; exact Or.inr (by omega)
    rw [e] at h1
    exact h1
  · rw [if_neg h]
    refine ⟨_, rfl, ?_⟩
    have h1 := look_best l (l.length - (me.toNat + 1)) (me.toNat + 1) _ _ (by omega) (best_none l)
    have h2 := look_best l me.toNat 0 _ _ (by omega) h1
    have e : (fun j => (False ∨ (me.toNat + 1 ≤ j ∧ j < me.toNat + 1 + (l.length - (me.toNat + 1)))) ∨ (0 ≤ j ∧ j < 0 + me.toNat)) = (fun j => j < l.length ∧ (j : Int) ≠ me) := by
      funext j; apply propext
      constructor
      · rintro ((h1 | h1) | h1)
        · exact h1.elim
        · omega
        · omega
      · intro h1
        by_cases hj : j < me.toNat
        · exact Or.inr (by omega)
        · exact Or.inl (Or.inr (by omega))
    rw [e] at h2
    exact h2
/-! the reference's Ask -/
def sOfBest (l : List Int) (b : Int) : Int × Int := (b, if b < 0 then 0 else rd l b)
theorem refAsk_step (me : Int) (l : List Int) (from_ : Nat) (best : Int) (j i : Nat) (R : Int) (hn : l.length ≤ 140737488351232) (hf : from_ ≤ l.length) (hj : j < l.length) (hi : (from_ + j) % l.length = i) (hb : best = -1 ∨ ∃ q : Nat, best = (q : Int) ∧ q < l.length)
    (hg : Ev (fun k => sluiceref8_Ask.l0 k me l (l.length : Int) (from_ : Int) (if (i : Int) = me then best else if 0 < rd l (i : Int) ∧ (best < 0 ∨ rd l best < rd l (i : Int)) then (i : Int) else best) ((j + 1 : Nat) : Int)) R) :
    Ev (fun k => sluiceref8_Ask.l0 k me l (l.length : Int) (from_ : Int) best (j : Int)) R := by
  have hil : i < l.length := by rw [← hi]; exact Nat.mod_lt _ (by omega)
  have e1 : Int.tmod (wrap64 ((from_ : Int) + (j : Int))) (l.length : Int) = (i : Int) := by
    rw [w64 (by omega) (by omega), Int.tmod_eq_emod_of_nonneg (by omega), ← hi]
    rw [show ((from_ : Int) + (j : Int)) = ((from_ + j : Nat) : Int) by omega]
    exact (Int.natCast_emod _ _).symm
  have e2 : wrap64 ((j : Int) + 1) = ((j + 1 : Nat) : Int) := by rw [w64 (by omega) (by omega)]; rfl
  refine Ev.step (fun k => ?_) hg
  simp only [sluiceref8_Ask.l0, e1, e2]
  rw [if_pos (by omega), if_neg (by omega)]
  by_cases hme : (i : Int) = me
  · rw [if_pos hme, if_pos hme]
  · rw [if_neg hme, if_neg hme, if_pos (by omega), if_pos (by omega)]
    by_cases hp : rd l (i : Int) > 0
    · rw [if_pos hp]
      by_cases hb0 : best < 0
      · rw [if_pos hb0, if_pos ⟨hp, Or.inl hb0⟩]
      · rw [if_neg hb0]
        obtain ⟨q, rfl, hq⟩ : ∃ q : Nat, best = (q : Int) ∧ q < l.length := hb.resolve_left (by omega)
        rw [if_pos (by omega), if_pos (by omega)]
        by_cases hgt : rd l (i : Int) > rd l (q : Int)
        · rw [if_pos hgt, if_pos ⟨hp, Or.inr hgt⟩]
        · rw [if_neg hgt, if_neg (fun hh => by rcases hh.2 with h | h <;> omega)]
    · rw [if_neg hp, if_neg (fun hh => by omega)]
/-- From place i on, n places, none of them me: as 'look' goes. -/
theorem refAsk_run (me : Int) (l : List Int) (from_ : Nat) (R : Int) (hn : l.length ≤ 140737488351232) (hf : from_ ≤ l.length) : ∀ (n i j : Nat) (s : Int × Int), j + n ≤ l.length → i + n ≤ l.length → (∀ q, q < n → (from_ + (j + q)) % l.length = i + q) → (∀ q, q < n → ((i + q : Nat) : Int) ≠ me) →
    s = sOfBest l s.1 → 0 ≤ s.2 → (s.1 = -1 ∨ ∃ q : Nat, s.1 = (q : Int) ∧ q < l.length) →
    Ev (fun k => sluiceref8_Ask.l0 k me l (l.length : Int) (from_ : Int) (lookL l n i s).1 ((j + n : Nat) : Int)) R → Ev (fun k => sluiceref8_Ask.l0 k me l (l.length : Int) (from_ : Int) s.1 (j : Int)) R
  | 0, i, j, s, _, _, _, _, _, _, _, h => h
  | n + 1, i, j, s, h1, h2, h3, h4, hs, hp, hb, h => by
    have e0 : s.2 = if s.1 < 0 then 0 else rd l s.1 := by have := congrArg Prod.snd hs; simpa [sOfBest] using this
    refine refAsk_step me l from_ s.1 j i R hn hf (by omega) (by have := h3 0 (by omega); simpa using this) hb ?_
    rw [if_neg (by have := h4 0 (by omega); simpa using this)]
    simp only [lookL] at h
    have e1 : (if 0 < rd l (i : Int) ∧ (s.1 < 0 ∨ rd l s.1 < rd l (i : Int)) then (i : Int) else s.1) = (if s.2 < rd l (i : Int) then ((i : Int), rd l (i : Int)) else s).1 := by
      by_cases hc : s.2 < rd l (i : Int)
      · rw [if_pos hc]
        rw [if_pos]
        by_cases hneg : s.1 < 0
        · exact ⟨by omega, Or.inl hneg⟩
        · rw [if_neg hneg] at e0; exact ⟨by omega, Or.inr (by omega)⟩
      · rw [if_neg hc, if_neg]
        rintro ⟨h5, h6⟩
        by_cases hneg : s.1 < 0
        · rw [if_pos hneg] at e0; omega
        · rw [if_neg hneg] at e0
          rcases h6 with h6 | h6
          · exact hneg h6
          · omega
    rw [e1]
    refine refAsk_run me l from_ R hn hf n (i + 1) (j + 1) _ (by omega) (by omega) (fun q hq => by have := h3 (q + 1) (by omega); rw [show from_ + (j + 1 + q) = from_ + (j + (q + 1)) by omega, this]; omega) (fun q hq => by have := h4 (q + 1) (by omega); rw [show i + 1 + q = i + (q + 1) by omega]; exact this) ?_ ?_ ?_ (by rw [show j + 1 + n = j + (n + 1) by omega]; exact h)
    · by_cases hc : s.2 < rd l (i : Int)
      · rw [if_pos hc]; simp [sOfBest]; omega
      · rw [if_neg hc]; exact hs
    · by_cases hc : s.2 < rd l (i : Int)
      · rw [if_pos hc]; simp only; omega
      · rw [if_neg hc]; exact hp
    · by_cases hc : s.2 < rd l (i : Int)
      · rw [if_pos hc]; exact Or.inr ⟨i, rfl, by omega⟩
      · rw [if_neg hc]; exact hb
theorem best_form {l : List Int} {S : Nat → Prop} {s : Int × Int} (h : Best l S s) : s = sOfBest l s.1 ∧ 0 ≤ s.2 ∧ (s.1 = -1 ∨ ∃ q : Nat, s.1 = (q : Int) ∧ q < l.length) := by
  obtain ⟨h0, h1, _⟩ := h
  rcases h1 with ⟨h1, h2⟩ | ⟨j, h1, h2, h3, h4, h5⟩
  · refine ⟨?_, h0, Or.inl h1⟩
    apply Prod.ext
    · rfl
    · simp [sOfBest, h1, h2]
  · refine ⟨?_, h0, Or.inr ⟨j, h3, h2⟩⟩
    apply Prod.ext
    · rfl
    · simp only [sOfBest]; rw [h3, if_neg (by omega), h4]
theorem refAsk_end (me : Int) (l : List Int) (from_ b : Int) : Ev (fun k => sluiceref8_Ask.l0 k me l (l.length : Int) from_ b ((l.length : Nat) : Int)) b := by
  refine Ev.step (f := fun _ => some b) (fun k => ?_) (Ev.now _)
  simp only [sluiceref8_Ask.l0]; rw [if_neg (by omega)]
theorem refAsk_ev (me : Int) (l : List Int) (hn : l.length ≤ 140737488351232) (r : Int) (h : share_Ask.f me l = some r) : Ev (fun k => sluiceref8_Ask.f k me l) r := by
  unfold share_Ask.f at h
  obtain rfl := Option.some.inj h
  by_cases hme : me < 0 ∨ (l.length : Int) ≤ me
  · rw [if_pos hme]
    have hb := best_form (best_none l)
    have hrun := refAsk_run me l 0 _ hn (by omega) l.length 0 0 (-1, 0) (by omega) (by omega) (fun q hq => by rw [show 0 + (0 + q) = q by omega, Nat.mod_eq_of_lt hq]; omega) (fun q hq => by omega) hb.1 hb.2.1 hb.2.2
      (by rw [Nat.zero_add]; exact refAsk_end me l 0 (lookL l l.length 0 (-1, 0)).1)
    have hj1 : Ev (fun k => sluiceref8_Ask.j1 k me l (l.length : Int) 0) (lookL l l.length 0 (-1, 0)).1 := Ev.step (fun k => by simp only [sluiceref8_Ask.j1]; rfl) hrun
    have hj0 : Ev (fun k => sluiceref8_Ask.j0 k me l (l.length : Int) 0 false) (lookL l l.length 0 (-1, 0)).1 := Ev.step (fun k => by simp only [sluiceref8_Ask.j0]; rfl) hj1
    unfold sluiceref8_Ask.f
    by_cases h0 : me ≥ 0
    · simp only [if_pos h0, decide_eq_false (show ¬ me < (l.length : Int) by omega)]; exact hj0
    · simp only [if_neg h0]; exact hj0
  · rw [if_neg hme]
    have h0 : me ≥ 0 := by omega
    have h1 : me < (l.length : Int) := by omega
    obtain ⟨p, rfl⟩ := Int.eq_ofNat_of_zero_le h0
    have hp : p < l.length := by omega
    simp only [Int.toNat_natCast] at *
    have b0 := best_form (best_none l)
    have k1 := look_best l (l.length - (p + 1)) (p + 1) _ _ (by omega) (best_none l)
    have b1 := best_form k1
    have b2 := best_form (look_best l p 0 _ _ (by omega) k1)
    have hlast : Ev (fun k => sluiceref8_Ask.l0 k (p : Int) l (l.length : Int) ((p + 1 : Nat) : Int) (lookL l p 0 (lookL l (l.length - (p + 1)) (p + 1) (-1, 0))).1 ((l.length - 1 : Nat) : Int)) (lookL l p 0 (lookL l (l.length - (p + 1)) (p + 1) (-1, 0))).1 := by
      refine refAsk_step (p : Int) l (p + 1) _ (l.length - 1) p _ hn (by omega) (by omega) ?_ b2.2.2 ?_
      · rw [show p + 1 + (l.length - 1) = p + l.length by omega, Nat.add_mod_right, Nat.mod_eq_of_lt hp]
      · rw [if_pos rfl, show l.length - 1 + 1 = l.length by omega]; exact refAsk_end _ l _ _
    have hsec := refAsk_run (p : Int) l (p + 1) _ hn (by omega) p 0 (l.length - (p + 1)) (lookL l (l.length - (p + 1)) (p + 1) (-1, 0)) (by omega) (by omega)
      (fun q hq => by rw [show p + 1 + (l.length - (p + 1) + q) = q + l.length by omega, Nat.add_mod_right, Nat.mod_eq_of_lt (by omega)]; omega) (fun q hq => by omega) b1.1 b1.2.1 b1.2.2
      (by rw [show l.length - (p + 1) + p = l.length - 1 by omega]; exact hlast)
    have hfst := refAsk_run (p : Int) l (p + 1) _ hn (by omega) (l.length - (p + 1)) (p + 1) 0 (-1, 0) (by omega) (by omega)
      (fun q hq => by rw [show p + 1 + (0 + q) = p + 1 + q by omega, Nat.mod_eq_of_lt (by omega)]) (fun q hq => by omega) b0.1 b0.2.1 b0.2.2
      (by rw [Nat.zero_add]; exact hsec)
    have hj1 : Ev (fun k => sluiceref8_Ask.j1 k (p : Int) l (l.length : Int) ((p + 1 : Nat) : Int)) (lookL l p 0 (lookL l (l.length - (p + 1)) (p + 1) (-1, 0))).1 := Ev.step (fun k => by simp only [sluiceref8_Ask.j1]; rfl) hfst
    unfold sluiceref8_Ask.f
    simp only [if_pos (show (p : Int) ≥ 0 by omega), decide_eq_true h1]
    refine Ev.step (fun k => ?_) hj1
    simp only [sluiceref8_Ask.j0]
    rw [if_pos trivial, w64 (by omega) (by omega)]; rfl
end Go.Proofs.Ytnkkkbmkbmjghaa.Pl
