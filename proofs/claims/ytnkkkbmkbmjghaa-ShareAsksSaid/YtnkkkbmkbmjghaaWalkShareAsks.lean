/- The walk of ShareAsks: for all inputs the call answers true and turns nothing that was there. -/
import Derived.Test.YtnkkkbmkbmjghaaPlayedAsk
import Derived.Test.YtnkkkbmkbmjghaaPx4
namespace Go.Proofs.Ytnkkkbmkbmjghaa.WalkShareAsks
open Go.RowKit Go.Proofs.Ytnkkkbmkbmjghaa.P Go.Proofs.YtnkkkbmkbmjghaaW.PrintWords Go.Proofs.YtnkkkbmkbmjghaaW.PrintLast Go.Proofs.YtnkkkbmkbmjghaaW.PrintMore Go.Proofs.Ytnkkkbmkbmjghaa.Pl Go.Proofs.Ytnkkkbmkbmjghaa.Pd
set_option linter.unusedVariables false
set_option linter.unusedSimpArgs false
theorem fits {a0 : Int} (w0 : (Lit.int .i64 a0).wf = true) : -9223372036854775808 ≤ a0 ∧ a0 ≤ 9223372036854775807 := by simpa [Lit.wf, IntKind.min, IntKind.max, IntKind.signed, IntKind.bits] using w0
theorem give_none (kv : Value) (a b : Int) (w : World) (ha : -9223372036854775808 ≤ a ∧ a ≤ 9223372036854775807) (hb : -9223372036854775808 ≤ b ∧ b ≤ 9223372036854775807) :
    Calls Try.prog 15 #[kv, .agg #[.int .i64 4, .int .i64 a, .int .i64 b, .slice none 0 0]] w fun e w' => e = .returned (.bool true) ∧ Below w.heap.size w w' :=
  played_give kv a b none 0 [] w (Kd.C_nil _ _) (Nat.le_refl _) (by decide) ha hb
set_option maxHeartbeats 8000000 in
set_option maxRecDepth 100000 in
theorem walk (a0 : Int) (a1 : Option Addr) (len1 cap1 : Nat) (z1 : List Int) (a2 a3 : Int) (w : World) (w0 : (Lit.int .i64 a0).wf = true) (w1 : (a1 = none ∧ len1 = 0 ∧ cap1 = 0 ∧ z1 = []) ∨ ∃ x, a1 = some x ∧ len1 ≤ cap1 ∧ cap1 ≤ maxLen ∧ z1.length = cap1 ∧ (∀ i, i < z1.length → w.cell? (x.add i) = some (.int .i64 (z1.getD i 0))) ∧ ∀ n ∈ z1, (Lit.int .i64 n).wf = true) (y1 : len1 * 8 ≤ 140737488351232) (w2 : (Lit.int .i64 a2).wf = true) (w3 : (Lit.int .i64 a3).wf = true) :
    Calls Try.prog 7 #[.int .i64 a0, .slice a1 len1 cap1, .int .i64 a2, .int .i64 a3] w fun e w' => e = .returned (.bool true) ∧ Below w.heap.size w w' := by
  obtain ⟨l1, rfl, hr1, hm1, hw1, hc1⟩ := ReadsInt.ofRowC w1
  obtain ⟨ka, hka⟩ := Ev.rounds able_ev
  have HR := Aside0.mk (Kd.C_of_reads (d := (0 : Int)) (h1 := fun _ => rfl) hr1)
  have HC := Aside0.mk hc1
  have HKA := Aside0.mk hka
  have HF2 := Aside0.mk (fits w2)
  have HF3 := Aside0.mk (fits w3)
  have HY := Aside0.mk y1
  clear hr1 hm1 hw1 hc1 hka w1 w0 w2 w3 y1
  go_enter Try.func7, Try.ntmps7
  go_wp2_with fail
  refine (sluicelaw8_able.calls ka true _ HKA.out).mono ?_
  rintro e wa ⟨rfl, hba⟩
  have HBA : Aside0 (Below w.heap.size w wa) := ⟨by first | exact hba | exact ((Below.refl _ _).alloc (Nat.le_refl _) _).trans (hba.mono (by simp))⟩
  have HRA : Aside0 (Kd.C (Kd.int .i64) wa a1 l1.length l1) := ⟨Kd.C_below HR.out HBA.out⟩
  clear hba
  go_wp2_with fail
  refine (played_ask _ a0 0 a1 cap1 l1 _ HRA.out HC.out HY.out).mono ?_
  rintro e wb ⟨rfl, hbb⟩
  have HBB : Aside0 (Below w.heap.size w wb) := ⟨HBA.out.trans (hbb.mono HBA.out.size)⟩
  clear hbb
  go_wp2_with fail
  refine (give_none _ a2 a3 _ HF2.out HF3.out).mono ?_
  rintro e wc ⟨rfl, hbc⟩
  have HBC : Aside0 (Below w.heap.size w wc) := ⟨HBB.out.trans (hbc.mono HBB.out.size)⟩
  clear hbc
  go_wp2_with fail
  go_ret
  exact ⟨rfl, HBC.out⟩
end Go.Proofs.Ytnkkkbmkbmjghaa.WalkShareAsks
