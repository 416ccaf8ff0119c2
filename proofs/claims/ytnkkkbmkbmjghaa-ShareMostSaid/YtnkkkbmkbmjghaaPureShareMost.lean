/- ShareMost, in plain Lean: for all numbers and every list of numbers the statement's function comes to true. -/
import Derived.Test.YtnkkkbmkbmjghaaPlAsk
import Derived.Test.YtnkkkbmkbmjghaaPx5
namespace Go.Proofs.Ytnkkkbmkbmjghaa.Pure
open Go.RowKit Go.Proofs.Ytnkkkbmkbmjghaa.P Go.Proofs.YtnkkkbmkbmjghaaW.PrintWords Go.Proofs.YtnkkkbmkbmjghaaW.PrintLast Go.Proofs.Ytnkkkbmkbmjghaa.Pl
set_option linter.unusedVariables false
set_option linter.unusedSimpArgs false

theorem wf64 {n : Int} (h : (Lit.int .i64 n).wf = true) : -9223372036854775808 ≤ n ∧ n ≤ 9223372036854775807 := by
  simpa [Lit.wf, IntKind.min, IntKind.max, IntKind.signed, IntKind.bits] using h

theorem most_loop (me : Int) (l : List Int) (a b : Int) (s : Int × Int) (hs : Best l (fun j => j < l.length ∧ (j : Int) ≠ me) s) (hl : l.length ≤ 140737488351232) (ha : -9223372036854775808 ≤ a ∧ a ≤ 9223372036854775807) (hb : -9223372036854775808 ≤ b ∧ b ≤ 9223372036854775807) :
    ∀ d i : Nat, l.length - i = d → i ≤ l.length → Ev (fun k => sluicelaw8_ShareMost.l0 k me l a b s.1 (i : Int)) true := by
  intro d
  induction d with
  | zero =>
    intro i hd hi
    refine Ev.step (f := fun _ => some true) (fun k => ?_) (Ev.now _)
    simp only [sluicelaw8_ShareMost.l0]
    rw [if_neg (by omega), give_val a b ha hb]
    simp only [Option.bind_some]
    by_cases h0 : a ≤ 0
    · rw [if_pos h0, if_pos (Or.inl h0)]; rfl
    · rw [if_neg h0]
      by_cases h1 : b ≤ 0
      · rw [if_pos h1, if_pos (Or.inr h1)]; rfl
      · rw [if_neg h1, if_neg (by omega : ¬ (a ≤ 0 ∨ b ≤ 0))]
        by_cases h2 : b < (a + 1) / 2
        · rw [if_pos h2, if_pos (by omega), if_pos (by omega), if_pos (by omega), w64 (by omega) (by omega), w64 (by omega) (by omega), if_pos (by omega), if_pos rfl]
        · rw [if_neg h2, if_pos (by omega), if_pos (by omega), if_pos (by omega), w64 (by omega) (by omega), w64 (by omega) (by omega), if_pos (by omega)]
          by_cases h3 : (a + 1) / 2 = b
          · rw [if_pos h3]
          · rw [if_neg h3, decide_eq_true (by omega)]
  | succ d ih =>
    intro i hd hi
    have hnext := ih (i + 1) (by omega) (by omega)
    have e : wrap64 ((i : Int) + 1) = ((i + 1 : Nat) : Int) := by rw [w64 (by omega) (by omega)]; rfl
    refine Ev.step (f := fun k => sluicelaw8_ShareMost.l0 k me l a b s.1 ((i + 1 : Nat) : Int)) (fun k => ?_) hnext
    simp only [sluicelaw8_ShareMost.l0, e]
    rw [if_pos (by omega)]
    by_cases hme : (i : Int) = me
    · rw [if_pos hme]
    · rw [if_neg hme, if_pos (by omega)]
      by_cases hp : rd l (i : Int) > 0
      · have h1 := hs.2.2 i ⟨by omega, hme⟩
        rw [if_pos hp]
        rcases hs.2.1 with ⟨h2, h3⟩ | ⟨j, h2, h3, h4, h5, h6⟩
        · omega
        · rw [h4, if_neg (by omega), if_pos (by omega), if_pos (by omega), if_neg (by omega)]
      · rw [if_neg hp]

theorem ShareMost : sluicelaw8_ShareMost.Pure := by
  intro me l a b wme hm hl hw wa wb
  obtain ⟨s, hs, hb⟩ := ask_best me l
  refine Ev.rounds ?_
  unfold sluicelaw8_ShareMost.f
  have hlen : l.length ≤ 140737488351232 := by omega
  have h0 := most_loop me l a b s hb hlen (wf64 wa) (wf64 wb) l.length 0 (by omega) (by omega)
  have hj : Ev (fun k => sluicelaw8_ShareMost.j0 k me l a b s.1 false) true := Ev.step (fun k => by simp only [sluicelaw8_ShareMost.j0]; rfl) h0
  refine Ev.bind (f := fun k t145 => if t145 = true then _ else _) able_ev ?_
  simp only [if_true, hs, Option.bind_some]
  rcases hb.2.1 with ⟨h2, h3⟩ | ⟨j, h2, h3, h4, h5, h6⟩
  · simp only [h2] at hj ⊢
    simp only [if_neg (show ¬ (-1 : Int) < -1 by omega), if_neg (show ¬ (-1 : Int) ≥ (l.length : Int) by omega), if_neg (show ¬ (-1 : Int) ≥ 0 by omega)]
    exact hj
  · rw [h4] at hj ⊢
    simp only [if_neg (show ¬ (j : Int) < -1 by omega), if_neg (show ¬ (j : Int) ≥ (l.length : Int) by omega), if_pos (show (j : Int) ≥ 0 by omega), if_neg h2.2, if_pos (show 0 ≤ (j : Int) by omega), if_pos (show (j : Int) < (l.length : Int) by omega),
      decide_eq_false (show ¬ rd l (j : Int) ≤ 0 by omega)]
    exact hj
end Go.Proofs.Ytnkkkbmkbmjghaa.Pure
