/- The walk of ShareAll. -/
import Derived.Test.YtnkkkbmkbmjghaaPlayedAll
import Derived.Test.YtnkkkbmkbmjghaaPx4
namespace Go.Proofs.Ytnkkkbmkbmjghaa.Pa
open Go.RowKit Go.Proofs.Ytnkkkbmkbmjghaa.P Go.Proofs.YtnkkkbmkbmjghaaW.PrintWords Go.Proofs.YtnkkkbmkbmjghaaW.PrintLast Go.Proofs.YtnkkkbmkbmjghaaW.PrintMore Go.Proofs.Ytnkkkbmkbmjghaa.Ks Go.Proofs.Ytnkkkbmkbmjghaa.Kr Go.Proofs.Ytnkkkbmkbmjghaa.Pl Go.Proofs.Ytnkkkbmkbmjghaa.Pn Go.Proofs.Ytnkkkbmkbmjghaa.Lt Go.Proofs.Ytnkkkbmkbmjghaa.Pd
set_option linter.unusedVariables false
set_option linter.unusedSimpArgs false
theorem keep_newL (w : World) : KL w.heap.size (labT w.heap.size) 0 (w.alloc (.cells #[.bool true, .slice none 0 0, .slice none 0 0, .slice none 0 0, .slice none 0 0, .slice none 0 0, .slice none 0 0] 38)) := by
  refine ⟨.slice none 0 0, .slice none 0 0, .slice none 0 0, .slice none 0 0, [], [], [], [], [], [], ⟨heap_alloc_new w _, if_pos rfl, fun k h => ?_, RowR.nil _ _ _ _ _, RowR.nil _ _ _ _ _, RowR.nil _ _ _ _ _, RowR.nil _ _ _ _ _, fun x h => by simp at h, fun x h => by simp at h, fun x h => by simp at h, fun x h => by simp at h, conts_nil _, conts_nil _, conts_nil _, conts_nil _, List.Pairwise.nil, List.Pairwise.nil, fun l h => by simp at h, fun l h => by simp at h, by simp, by simp⟩⟩
  by_cases e : k = w.heap.size
  · simp; omega
  · exact absurd (if_neg e) h
theorem labT_ge {tb k : Nat} (h : labT tb k ≠ 0) : tb ≤ k := by
  by_cases e : k = tb
  · omega
  · exact absurd (if_neg e) h
set_option maxHeartbeats 8000000 in
set_option maxRecDepth 100000 in
theorem walk (A : Option Addr) (c : Nat) (L : List Act1) (w : World) (hL : L.length ≤ 1000000) (hc : L.length ≤ c) (hA : 0 < L.length → ∃ ad, A = some ad ∧ ∀ i (h : i < L.length), Came w (ad.add (i * 4)) L[i]) :
    Calls Try.prog 8 #[.slice A L.length c] w fun e w' => e = .returned (.bool true) ∧ Below w.heap.size w w' := by
  obtain ⟨ka, hka⟩ := Ev.rounds able_ev
  have HKA := Aside0.mk hka
  have HL := Aside0.mk hL
  have HC := Aside0.mk hc
  have HA := Aside0.mk hA
  clear hka hL hc hA
  go_enter Try.func8, Try.ntmps8
  go_wp2_with fail
  refine (sluicelaw8_able.calls ka true _ HKA.out).mono ?_
  rintro e wa ⟨rfl, hba⟩
  have HBA := Aside0.mk hba
  have HKN := Aside0.mk (keep_newT wa)
  clear hba
  go_wp2_with fail
  refine (playedAll_calls (keeperN _) (whN _) (labT wa.heap.size) w _ A c L HKN.out (HBA.out.alloc HBA.out.size _) (fun k hk => Nat.le_trans HBA.out.size (labT_ge hk)) HL.out HC.out HA.out).mono ?_
  rintro e wb ⟨rfl, hbb⟩
  have HBB := Aside0.mk hbb
  have HKL := Aside0.mk (keep_newL wb)
  clear hbb
  go_wp2_with fail
  refine (playedAll_calls (keeperL _) (whL _) (labT wb.heap.size) w _ A c L HKL.out (HBB.out.alloc HBB.out.size _) (fun k hk => Nat.le_trans HBB.out.size (labT_ge hk)) HL.out HC.out HA.out).mono ?_
  rintro e wc ⟨rfl, hbc⟩
  have HBC := Aside0.mk hbc
  clear hbc
  go_wp2_with fail
  go_ret
  exact ⟨rfl, HBC.out⟩
end Go.Proofs.Ytnkkkbmkbmjghaa.Pa
