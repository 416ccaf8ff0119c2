/- The walk of ShareDeals: for all inputs the call answers true and turns nothing that was there. PRINTED by genrows.py. -/
import Derived.Test.YtnkkkbmkbmjghaaPlayedPut
import Derived.Test.YtnkkkbmkbmjghaaPutNW
import Derived.Test.YtnkkkbmkbmjghaaPx4
namespace Go.Proofs.Ytnkkkbmkbmjghaa.WalkShareDeals
open Go.RowKit Go.Proofs.Ytnkkkbmkbmjghaa.P Go.Proofs.YtnkkkbmkbmjghaaW.PrintWords Go.Proofs.YtnkkkbmkbmjghaaW.PrintLast Go.Proofs.YtnkkkbmkbmjghaaW.PrintMore Go.Proofs.Ytnkkkbmkbmjghaa.Pl Go.Proofs.Ytnkkkbmkbmjghaa.Pd Go.Proofs.Ytnkkkbmkbmjghaa.Ks Go.Proofs.Ytnkkkbmkbmjghaa.Kr Go.Proofs.Ytnkkkbmkbmjghaa.Pn
set_option linter.unusedVariables false
set_option linter.unusedSimpArgs false
theorem fits {a0 : Int} (w0 : (Lit.int .i64 a0).wf = true) : -9223372036854775808 ≤ a0 ∧ a0 ≤ 9223372036854775807 := by simpa [Lit.wf, IntKind.min, IntKind.max, IntKind.signed, IntKind.bits] using w0
def lab (kb : Nat) : Nat → Nat := fun k => if k = kb then 7 else 0
theorem keep_new (w : World) : KN w.heap.size (lab w.heap.size) 0 (w.alloc (.cells #[.bool false, .slice none 0 0, .slice none 0 0, .slice none 0 0, .slice none 0 0, .slice none 0 0, .slice none 0 0] 38)) := by
  have hn : ∀ k, (Value.slice none 0 0).ownBlock = some k → False := fun k h => by simp [Value.ownBlock] at h
  refine ⟨.slice none 0 0, .slice none 0 0, .slice none 0 0, .slice none 0 0, [], [], [], [], heap_alloc_new w _, if_pos rfl, ⟨World.ownsRow_nil _ _ _ _, fun k h => (hn k h).elim, World.ownsRow_nil _ _ _ _, fun k h => (hn k h).elim, fun x h => by simp at h⟩, ⟨World.ownsRow_nil _ _ _ _, fun k h => (hn k h).elim, World.ownsRow_nil _ _ _ _, fun k h => (hn k h).elim, fun x h => by simp at h⟩, fun k h => ?_, Marked.nil _, Marked.nil _, by simp, by simp⟩
  by_cases e : k = w.heap.size
  · simp; omega
  · exact absurd (if_neg e) h
/-- Behind a call upon a keep of its own: what was there is as it was. -/
theorem rel_below {w w1 w2 : World} {ρ' : Nat → Nat} (hb : Below w.heap.size w w1) (h : Rel (lab w.heap.size) ρ' w1 w2) : Below w.heap.size w w2 :=
  ⟨h.b0.os.trans hb.os, h.b0.tape.trans hb.tape, h.b0.output.trans hb.output, Nat.le_trans hb.size h.b0.size, fun k hk => (h.same k (Nat.lt_of_lt_of_le hk hb.size) (if_neg (by omega))).trans (hb.block k hk)⟩
set_option maxHeartbeats 8000000 in
set_option maxRecDepth 100000 in
theorem walk (a0 : Int) (a1 : Option Addr) (len1 cap1 : Nat) (z1 : List Int) (w : World) (w0 : (Lit.int .i64 a0).wf = true) (w1 : (a1 = none ∧ len1 = 0 ∧ cap1 = 0 ∧ z1 = []) ∨ ∃ x, a1 = some x ∧ len1 ≤ cap1 ∧ cap1 ≤ maxLen ∧ z1.length = cap1 ∧ (∀ i, i < z1.length → w.cell? (x.add i) = some (.int .i64 (z1.getD i 0))) ∧ ∀ n ∈ z1, (Lit.int .i64 n).wf = true) (y1 : len1 * 8 ≤ 140737488351232) :
    Calls Try.prog 5 #[.int .i64 a0, .slice a1 len1 cap1] w fun e w' => e = .returned (.bool true) ∧ Below w.heap.size w w' := by
  obtain ⟨l1, rfl, hr1, hm1, hw1, hc1⟩ := ReadsInt.ofRowC w1
  obtain ⟨ka, hka⟩ := Ev.rounds able_ev
  have HR := Aside0.mk (Kd.C_of_reads (d := (0 : Int)) (h1 := fun _ => rfl) hr1)
  have HC := Aside0.mk hc1
  have HKA := Aside0.mk hka
  have HY := Aside0.mk y1
  have HK0 := Aside0.mk (keep_new w)
  clear hr1 hm1 hw1 hc1 hka w1 w0 y1
  go_enter Try.func5, Try.ntmps5
  go_wp2_with fail
  refine (sluicelaw8_able.calls ka true _ HKA.out).mono ?_
  rintro e wa ⟨rfl, hba⟩
  have HK1 : Aside0 (KN w.heap.size (lab w.heap.size) 0 wa) := ⟨HK0.out.move (fun k hk _ => hba.block k hk) hba.size⟩
  have HBA : Aside0 (Below w.heap.size w wa) := ⟨((Below.refl _ _).alloc (Nat.le_refl _) _).trans (hba.mono (by simp))⟩
  have HRA : Aside0 (∀ W, Kept wa W (fun k => lab w.heap.size k ≠ 0) → Kd.C (Kd.int .i64) W a1 l1.length l1) := ⟨Kd.C_kept_came (Kd.heap_int _) HR.out HBA.out (fun k hk => by
    by_cases e : k = w.heap.size
    · omega
    · exact absurd (if_neg e) hk)⟩
  clear hba
  go_wp2_with fail
  refine (played_deal (keeperN _) (lab w.heap.size) 0 a0 0 a1 cap1 l1 _ HK1.out (by decide) HRA.out HC.out HY.out).mono ?_
  rintro e wb ⟨rfl, ρ', hk2, hrel⟩
  have HBB : Aside0 (Below w.heap.size w wb) := ⟨rel_below HBA.out hrel⟩
  clear hk2 hrel
  go_wp2_with fail
  go_ret
  exact ⟨rfl, HBB.out⟩
end Go.Proofs.Ytnkkkbmkbmjghaa.WalkShareDeals
