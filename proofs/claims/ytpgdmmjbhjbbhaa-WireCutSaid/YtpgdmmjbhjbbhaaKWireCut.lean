/- The statement WireCut holds for every input, without any condition: the row, out of the walk. -/
import Derived.Test.YtpgdmmjbhjbbhaaRows
import Derived.WalkKit
import Derived.ProofKit
import Derived.OpenShut
import Derived.ShutString
import Derived.ChangeOld
import Derived.Below
import Derived.SizedLaws
import Derived.Test.YtpgdmmjbhjbbhaaKWireCut15
namespace Go.Proofs.Ytpgdmmjbhjbbhaa.wireCut
open Go Go.ChangeShapes Go.WideShapes Go.ChangeAt Go.RowKit Go.Proofs.Ytpgdmmjbhjbbhaa.P Go.Proofs.Ytpgdmmjbhjbbhaa.Sp Go.Proofs.Ytpgdmmjbhjbbhaa.Vd Go.Proofs.Ytpgdmmjbhjbbhaa.En Go.Proofs.Ytpgdmmjbhjbbhaa.Rd Go.Proofs.Ytpgdmmjbhjbbhaa.Lw Go.Proofs.Ytpgdmmjbhjbbhaa.Ow
set_option linter.unusedVariables false
set_option linter.unusedSimpArgs false
theorem own : ownKnob Try.prog.godebug = none := by kernel_rfl
theorem laidOut : laidOutB Try.prog = true := by kernel_rfl
set_option maxRecDepth 100000 in
theorem lifted (os : Os) (started : os.Started) (H : Type) (enc : TypeId × Value → H) :
    ReturnsInHanded {} Try.checked os 5 .any (Rows.wireCutSpec.pre6 enc Try.prog Try.f5 Rows.wireCutRow.domain false) (Rows.wireCutSpec.post enc Try.prog Try.f5 false true false false) := by
  refine returnsInHanded_of_change_sized (C := Try.checked) own started (by kernel_rfl) Try.func5
    (ChangeSpec.witness6 (enc := enc) (C := Try.checked) false ⟨#[], #[.agg #[.int .i64 0, .string ⟨#[]⟩, .int .i64 0, .int .i64 0, .int .i64 0, .int .i64 0, .int .i64 0, .int .i64 0, .int .i64 0, .int .i64 0, .int .i64 0, .int .i64 0, .int .i64 0, .int .i64 0, .string ⟨#[]⟩, .int .i64 0, .int .i64 0, .int .i64 0, .int .i64 0, .slice none 0 0], .int .i64 0, .slice none 0 0, .int .i64 0, .int .u8 0], []⟩ 8 (by kernel_rfl) (by kernel_rfl) (by kernel_rfl) (by kernel_rfl)) ?_
  intro W base args ds gs before hval0 hW hcnd hsz0 _
  have hsz : (DataW.weightsEach Try.prog (Try.f5.params.toList ++ Rows.wireCutSpec.plain.varTypes Try.prog) (ds ++ gs)).all (· ≤ reachBytes) = true := hsz0
  have hval : ∀ (j : Nat) t v, Try.f5.params[j]? = some t → args[j]? = some v → Value.okWide Try.prog W .any base t v := hval0
  have hW' := hW
  obtain ⟨p, q, hA0, hV, rfl, hfz, hnd⟩ := hW
  have hA : DataW.TrodAll enc Try.prog W 0 (fun _ => true) true Try.f5.params.toList args.toList ds p := hA0
  rw [Try.params5] at hA hval hsz
  obtain ⟨v0, vs0, d0, ds0, p0, q0, hargs, rfl, rfl, h0, r0⟩ := trodAll_cons hA
  obtain ⟨v1, vs1, d1, ds1, p1, q1, hargs1, rfl, rfl, h1, r1⟩ := trodAll_cons r0
  subst hargs1
  obtain ⟨v2, vs2, d2, ds2, p2, q2, hargs2, rfl, rfl, h2, r2⟩ := trodAll_cons r1
  subst hargs2
  obtain ⟨v3, vs3, d3, ds3, p3, q3, hargs3, rfl, rfl, h3, r3⟩ := trodAll_cons r2
  subst hargs3
  obtain ⟨v4, vs4, d4, ds4, p4, q4, hargs4, rfl, rfl, h4, r4⟩ := trodAll_cons r3
  subst hargs4
  obtain ⟨rfl, rfl, rfl⟩ := trodAll_nil r4
  obtain rfl : args = #[v0, v1, v2, v3, v4] := by cases args; simp_all
  obtain ⟨rfl, rfl⟩ := trodVars_none hV
  have k0 := h0
  have lt0 : ∀ x ∈ p0, x.block < W.heap.size := by obtain ⟨m, hm⟩ := k0; exact DataW.trod_lt m _ _ _ hm
  obtain ⟨cs0, rfl, _⟩ := okWide_struct Try.underlying33 (hval 0 33 v0 rfl rfl)
  obtain ⟨x0, A0, c0, rfl, f0⟩ : ∃ (x : Msg) (A : Option Addr) (c : Nat), cs0 = MVc x A c ∧ (isI x.op.a ∧ isI x.op.b) ∧ isI x.kind ∧ isI x.err ∧ VIn W A c x.views := by obtain ⟨fuel, hf⟩ := h0; obtain ⟨x, A, c, g, f⟩ := Msg_open hf (fit_all hsz (j := 0) rfl rfl); exact ⟨x, A, c, Array.toList_inj.1 g, f⟩
  have k1 := h1
  have lt1 : ∀ x ∈ p1, x.block < W.heap.size := by obtain ⟨m, hm⟩ := k1; exact DataW.trod_lt m _ _ _ hm
  obtain ⟨x1, rfl⟩ := okWide_int Try.underlying3 (hval 1 3 v1 rfl rfl)
  have f1 : isI x1 := by obtain ⟨fuel, hf⟩ := h1; obtain ⟨n, g, hn⟩ := int_open Try.underlying3 hf; simp only [Value.cells, List.cons.injEq, Value.int.injEq, true_and, and_true] at g; subst g; exact hn
  have k2 := h2
  have lt2 : ∀ x ∈ p2, x.block < W.heap.size := by obtain ⟨m, hm⟩ := k2; exact DataW.trod_lt m _ _ _ hm
  obtain ⟨a2, len2, cap2, rfl⟩ := okWide_slice Try.underlying36 (hval 2 36 v2 rfl rfl)
  obtain ⟨A2, c2, x2, g2, f2⟩ : ∃ (A : Option Addr) (c : Nat) (xs : List Int), [Value.slice a2 len2 cap2] = [.slice A xs.length c] ∧ In W A c xs ∧ xs.length ≤ 140737488351232 := by obtain ⟨fuel, hf⟩ := h2; exact bytes_open hf (fit_all hsz (j := 2) rfl rfl)
  simp only [List.cons.injEq, Value.slice.injEq, and_true] at g2
  obtain ⟨rfl, rfl, rfl⟩ := g2
  have k3 := h3
  have lt3 : ∀ x ∈ p3, x.block < W.heap.size := by obtain ⟨m, hm⟩ := k3; exact DataW.trod_lt m _ _ _ hm
  obtain ⟨x3, rfl⟩ := okWide_int Try.underlying3 (hval 3 3 v3 rfl rfl)
  have f3 : isI x3 := by obtain ⟨fuel, hf⟩ := h3; obtain ⟨n, g, hn⟩ := int_open Try.underlying3 hf; simp only [Value.cells, List.cons.injEq, Value.int.injEq, true_and, and_true] at g; subst g; exact hn
  have k4 := h4
  have lt4 : ∀ x ∈ p4, x.block < W.heap.size := by obtain ⟨m, hm⟩ := k4; exact DataW.trod_lt m _ _ _ hm
  obtain ⟨x4, rfl⟩ := okWide_int Try.underlying5 (hval 4 5 v4 rfl rfl)
  have f4 : 0 ≤ x4 ∧ x4 ≤ 255 := by obtain ⟨fuel, hf⟩ := h4; obtain ⟨n, g, _, hn⟩ := DataW.trod_int Try.underlying5 hf; simp only [Value.cells, List.cons.injEq, Value.int.injEq, true_and, and_true] at g; subst g; simpa [Lit.wf, IntKind.min, IntKind.max, IntKind.signed, IntKind.bits] using hn
  clear hA0 hval0 hsz0 hsz
  refine (Lw.cut_walk W x0 A0 c0 x1 a2 cap2 x2 x3 x4 f0.1 f0.2.1 f0.2.2.1 f0.2.2.2 f1 f2.1 f2.2 f3 f4).mono fun e W' ⟨he, bel⟩ => ?_
  subst he
  exact ⟨_, rfl, _, _, _, [], _, [], hW', trodAll_mk1 (shut_bool Try.underlying4 _), (trodAll_cons_mk (Below.trod laidOut (by kernel_rfl) (of_decide_eq_true (by kernel_rfl)) k0 bel lt0) (trodAll_cons_mk (Below.trod laidOut (by kernel_rfl) (of_decide_eq_true (by kernel_rfl)) k1 bel lt1) (trodAll_cons_mk (Below.trod laidOut (by kernel_rfl) (of_decide_eq_true (by kernel_rfl)) k2 bel lt2) (trodAll_cons_mk (Below.trod laidOut (by kernel_rfl) (of_decide_eq_true (by kernel_rfl)) k3 bel lt3) (trodAll_cons_mk (Below.trod laidOut (by kernel_rfl) (of_decide_eq_true (by kernel_rfl)) k4 bel lt4) trodAll_mk0))))), rfl, bel.frame _, fun h => by cases h⟩
theorem over : Rows.wireCutRow.holds Try.pinned (OpenSpec.ofChange Rows.wireCutSpec) :=
  OpenClaim.holds_of_wide 5 Try.f5 rfl rfl rfl rfl rfl rfl rfl ⟨rfl, rfl, rfl, rfl, rfl⟩ rfl rfl rfl rfl rfl (by kernel_rfl) Try.func5 (by kernel_rfl)
    (of_decide_eq_true (by kernel_rfl)) (by unfold Func.isWrapper; first | (rw [if_pos (by decide +kernel)]; kernel_rfl) | (rw [if_neg (by decide +kernel)]; exact ⟨rfl, rfl⟩))
    (fun os started H enc _ => lifted os started H enc)
theorem proved : Rows.WireCutSaid := over
end Go.Proofs.Ytpgdmmjbhjbbhaa.wireCut
namespace Go.Proofs.Ytpgdmmjbhjbbhaa
/-- The row, under a short name, for the claim. -/
theorem wireCut_holds : Rows.WireCutSaid := wireCut.proved
end Go.Proofs.Ytpgdmmjbhjbbhaa
