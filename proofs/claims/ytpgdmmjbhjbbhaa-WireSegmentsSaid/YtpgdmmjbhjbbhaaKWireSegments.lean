/- The statement WireSegments holds for every input, without any condition: the row, out of the walk. -/
import Derived.Test.YtpgdmmjbhjbbhaaRows
import Derived.WalkKit
import Derived.ProofKit
import Derived.OpenShut
import Derived.ShutString
import Derived.ChangeOld
import Derived.Below
import Derived.SizedLaws
import Derived.Test.YtpgdmmjbhjbbhaaKWireSegments13
namespace Go.Proofs.Ytpgdmmjbhjbbhaa.wireSegments
open Go Go.ChangeShapes Go.WideShapes Go.ChangeAt Go.RowKit Go.Proofs.Ytpgdmmjbhjbbhaa.P Go.Proofs.Ytpgdmmjbhjbbhaa.Sp Go.Proofs.Ytpgdmmjbhjbbhaa.Vd Go.Proofs.Ytpgdmmjbhjbbhaa.En Go.Proofs.Ytpgdmmjbhjbbhaa.Rd Go.Proofs.Ytpgdmmjbhjbbhaa.Lw Go.Proofs.Ytpgdmmjbhjbbhaa.Ow
set_option linter.unusedVariables false
set_option linter.unusedSimpArgs false
theorem own : ownKnob Try.prog.godebug = none := by kernel_rfl
theorem laidOut : laidOutB Try.prog = true := by kernel_rfl
set_option maxRecDepth 100000 in
theorem lifted (os : Os) (started : os.Started) (H : Type) (enc : TypeId × Value → H) :
    ReturnsInHanded {} Try.checked os 6 .any (Rows.wireSegmentsSpec.pre6 enc Try.prog Try.f6 Rows.wireSegmentsRow.domain false) (Rows.wireSegmentsSpec.post enc Try.prog Try.f6 false true false false) := by
  refine returnsInHanded_of_change_sized (C := Try.checked) own started (by kernel_rfl) Try.func6
    (ChangeSpec.witness6 (enc := enc) (C := Try.checked) false ⟨#[], #[.agg #[.int .i64 0, .int .i64 0, .int .i64 0, .int .i64 0, .slice none 0 0], .slice none 0 0], []⟩ 8 (by kernel_rfl) (by kernel_rfl) (by kernel_rfl) (by kernel_rfl)) ?_
  intro W base args ds gs before hval0 hW hcnd hsz0 _
  have hsz : (DataW.weightsEach Try.prog (Try.f6.params.toList ++ Rows.wireSegmentsSpec.plain.varTypes Try.prog) (ds ++ gs)).all (· ≤ reachBytes) = true := hsz0
  have hval : ∀ (j : Nat) t v, Try.f6.params[j]? = some t → args[j]? = some v → Value.okWide Try.prog W .any base t v := hval0
  have hW' := hW
  obtain ⟨p, q, hA0, hV, rfl, hfz, hnd⟩ := hW
  have hA : DataW.TrodAll enc Try.prog W 0 (fun _ => true) true Try.f6.params.toList args.toList ds p := hA0
  rw [Try.params6] at hA hval hsz
  obtain ⟨v0, vs0, d0, ds0, p0, q0, hargs, rfl, rfl, h0, r0⟩ := trodAll_cons hA
  obtain ⟨v1, vs1, d1, ds1, p1, q1, hargs1, rfl, rfl, h1, r1⟩ := trodAll_cons r0
  subst hargs1
  obtain ⟨rfl, rfl, rfl⟩ := trodAll_nil r1
  obtain rfl : args = #[v0, v1] := by cases args; simp_all
  obtain ⟨rfl, rfl⟩ := trodVars_none hV
  have k0 := h0
  have lt0 : ∀ x ∈ p0, x.block < W.heap.size := by obtain ⟨m, hm⟩ := k0; exact DataW.trod_lt m _ _ _ hm
  obtain ⟨cs0, rfl, _⟩ := okWide_struct Try.underlying47 (hval 0 47 v0 rfl rfl)
  obtain ⟨x0, A0, c0, rfl, f0⟩ : ∃ (x : Seg) (A : Option Addr) (c : Nat), cs0 = SVc x A c ∧ In W A c x.data ∧ x.data.length ≤ 140737488351232 := by obtain ⟨fuel, hf⟩ := h0; obtain ⟨x, A, c, g, f⟩ := Seg_open hf (fit_all hsz (j := 0) rfl rfl); exact ⟨x, A, c, Array.toList_inj.1 g, f⟩
  have k1 := h1
  have lt1 : ∀ x ∈ p1, x.block < W.heap.size := by obtain ⟨m, hm⟩ := k1; exact DataW.trod_lt m _ _ _ hm
  obtain ⟨a1, len1, cap1, rfl⟩ := okWide_slice Try.underlying36 (hval 1 36 v1 rfl rfl)
  obtain ⟨A1, c1, x1, g1, f1⟩ : ∃ (A : Option Addr) (c : Nat) (xs : List Int), [Value.slice a1 len1 cap1] = [.slice A xs.length c] ∧ In W A c xs ∧ xs.length ≤ 140737488351232 := by obtain ⟨fuel, hf⟩ := h1; exact bytes_open hf (fit_all hsz (j := 1) rfl rfl)
  simp only [List.cons.injEq, Value.slice.injEq, and_true] at g1
  obtain ⟨rfl, rfl, rfl⟩ := g1
  clear hA0 hval0 hsz0 hsz
  refine (segments_walk W x0 A0 c0 a1 cap1 x1 f0.1 f0.2 f1.1 f1.2).mono fun e W' ⟨he, bel⟩ => ?_
  subst he
  exact ⟨_, rfl, _, _, _, [], _, [], hW', trodAll_mk1 (shut_bool Try.underlying4 _), (trodAll_cons_mk (Below.trod laidOut (by kernel_rfl) (of_decide_eq_true (by kernel_rfl)) k0 bel lt0) (trodAll_cons_mk (Below.trod laidOut (by kernel_rfl) (of_decide_eq_true (by kernel_rfl)) k1 bel lt1) trodAll_mk0)), rfl, bel.frame _, fun h => by cases h⟩
theorem over : Rows.wireSegmentsRow.holds Try.pinned (OpenSpec.ofChange Rows.wireSegmentsSpec) :=
  OpenClaim.holds_of_wide 6 Try.f6 rfl rfl rfl rfl rfl rfl rfl ⟨rfl, rfl, rfl, rfl, rfl⟩ rfl rfl rfl rfl rfl (by kernel_rfl) Try.func6 (by kernel_rfl)
    (of_decide_eq_true (by kernel_rfl)) (by unfold Func.isWrapper; first | (rw [if_pos (by decide +kernel)]; kernel_rfl) | (rw [if_neg (by decide +kernel)]; exact ⟨rfl, rfl⟩))
    (fun os started H enc _ => lifted os started H enc)
theorem proved : Rows.WireSegmentsSaid := over
end Go.Proofs.Ytpgdmmjbhjbbhaa.wireSegments
namespace Go.Proofs.Ytpgdmmjbhjbbhaa
/-- The row, under a short name, for the claim. -/
theorem wireSegments_holds : Rows.WireSegmentsSaid := wireSegments.proved
end Go.Proofs.Ytpgdmmjbhjbbhaa
