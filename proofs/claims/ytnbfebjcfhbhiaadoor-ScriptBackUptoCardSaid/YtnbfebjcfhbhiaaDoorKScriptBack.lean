/- The statement ScriptBack holds where what it reads is of bulk at most 1048576: the row and its card, out of the walk. -/
import Derived.Test.YtnbfebjcfhbhiaaDoorCards
import Derived.Test.YtnbfebjcfhbhiaaDoorTie
import Derived.SizedLaws
import Derived.Below
import Derived.JoinedCond
import Derived.Test.YtnbfebjcfhbhiaaDoorKScriptBack11
namespace Go.Proofs.YtnbfebjcfhbhiaaDoor.scriptBack
open Go Go.ChangeShapes Go.WideShapes Go.ChangeAt Go.RowKit Go.Lib Go.Proofs.YtnbfebjcfhbhiaaDoor.P Go.Proofs.YtnbfebjcfhbhiaaDoor.Sc Go.Proofs.YtnbfebjcfhbhiaaDoor.Lw Go.Proofs.YtnbfebjcfhbhiaaDoor.Bw Go.Proofs.YtnbfebjcfhbhiaaDoor.Lv Go.Proofs.YtnbfebjcfhbhiaaDoorW.PrintWords
set_option linter.unusedVariables false
set_option linter.unusedSimpArgs false
theorem own : ownKnob Tryd.prog.godebug = none := by kernel_rfl
theorem laidOut : laidOutB Tryd.prog = true := by kernel_rfl
set_option maxRecDepth 100000 in
theorem contract (H : Type) (enc : TypeId × Value → H) (W : World) (base : Nat) (args : Array Value) (ds gs : List (DataW H)) (before : List MemPlace)
    (hval0 : ∀ (j : Nat) t v, Tryd.f6.params[j]? = some t → args[j]? = some v → Value.okWide Tryd.prog W .any base t v)
    (hW : DataW.Whole enc Tryd.prog Tryd.f6.params.toList Rows.scriptBackSpec.vars false W args.toList ds gs before)
    (hk : Rows.uptoSmall H (ds ++ gs) = true)
    (hL : laidMetH Tryd.prog Rows.scriptBackRow.laid W) (hS : W.ShapedOpen Tryd.prog) :
    Calls Tryd.prog 6 args W fun e W' => ∃ v, e = .returned v ∧ Rows.scriptBackSpec.post enc Tryd.prog Tryd.f6 false true false false W args v W' := by
  have hval := hval0
  have hW' := hW
  obtain ⟨p, q, hA0, hV, rfl, hfz, hnd⟩ := hW
  have hA : DataW.TrodAll enc Tryd.prog W 0 (fun _ => true) true Tryd.f6.params.toList args.toList ds p := hA0
  rw [Tryd.params6] at hA hval
  obtain ⟨v0, vs0, d0, ds0, p0, q0, hargs, rfl, rfl, h0, r0⟩ := trodAll_cons hA
  obtain ⟨v1, vs1, d1, ds1, p1, q1, hargs1, rfl, rfl, h1, r1⟩ := trodAll_cons r0
  obtain ⟨rfl, rfl, rfl⟩ := trodAll_nil r1
  subst hargs1
  obtain rfl : args = #[v0, v1] := by cases args; simp_all
  obtain ⟨rfl, rfl⟩ := trodVars_none hV
  obtain ⟨cs, rfl, hcs⟩ := okWide_struct Tryd.underlying25 (hval 0 25 v0 rfl rfl)
  obtain ⟨a1, len1, cap1, rfl⟩ := okWide_slice Tryd.underlying26 (hval 1 26 v1 rfl rfl)
  have k0 := h0
  have k1 := h1
  have lt0 : ∀ x ∈ p0, x.block < W.heap.size := by obtain ⟨m, hm⟩ := k0; exact DataW.trod_lt m _ _ _ hm
  have lt1 : ∀ x ∈ p1, x.block < W.heap.size := by obtain ⟨m, hm⟩ := k1; exact DataW.trod_lt m _ _ _ hm
  have hbulk : Rows.uptoBulk d1 ≤ 1048576 := by
    have h : Rows.uptoBulkAll ([d0, d1] ++ []) ≤ 1048576 := of_decide_eq_true hk
    simp only [List.append_nil, Rows.uptoBulkAll] at h
    omega
  obtain ⟨c, rfl, hc, hci⟩ : ∃ c, cs = cfc c ∧ c.length = 10 ∧ ∀ x ∈ c, inI x := by
    obtain ⟨fuel, hf⟩ := h0
    obtain ⟨c, e1, e2, e3⟩ := cfg_open (by simpa [Value.cells] using hf)
    exact ⟨c, by cases cs; simp_all, e2, e3⟩
  obtain ⟨A, cp, l, hv1, hcp, hC, hl, _, hx⟩ : ∃ (A : Option Addr) (c : Nat) (l : List St), Value.slice a1 len1 cap1 = .slice A l.length c ∧ l.length ≤ c ∧ Kd.C k48 W A l.length (l.map stS) ∧ l.length ≤ Rows.uptoBulk d1 ∧ l.length ≤ 9223372036854775807 ∧ ∀ y ∈ l, (inI y.kind ∧ inI y.rep ∧ inI y.ses ∧ inI y.id ∧ inI y.ok ∧ inI y.a ∧ inI y.b ∧ inI y.i ∧ inI y.j) ∧ y.name.length ≤ Rows.uptoBulk d1 ∧ y.data.length ≤ Rows.uptoBulk d1 := by
    obtain ⟨fuel, hf⟩ := h1
    obtain ⟨A, c, l, e1, e2⟩ := steps_open (by simpa [Value.cells] using hf)
    exact ⟨A, c, l, by simpa using e1, e2⟩
  simp only [Value.slice.injEq] at hv1
  obtain ⟨rfl, rfl, rfl⟩ := hv1
  have hf : ∀ x ∈ l, sfit x ∧ x.name.length ≤ 1048577 ∧ x.data.length ≤ 1048577 := fun x hxl => by
    obtain ⟨⟨g1, g2, g3, g4, g5, g6, g7, g8, g9⟩, g10, g11⟩ := hx x hxl
    exact ⟨⟨g1, g2, g3, g4, g5, g6, g7, g8, g9, by omega, by omega⟩, by omega, by omega⟩
  have hci2 : ∀ i < 10, inI (c.getD i 0) := fun i hi => by
    have hi2 : i < c.length := by omega
    rw [List.getD_eq_getElem?_getD, List.getElem?_eq_getElem hi2]
    exact hci _ (List.getElem_mem hi2)
  have hB := bulk_fits hci2 (by omega : l.length ≤ 1048576) hf
  obtain ⟨hVS, hVC, hTB⟩ := vars_open hS hL (by simp [Rows.scriptBackRow]) (by simp [Rows.scriptBackRow]) (by simp [Rows.scriptBackRow]) (by simp [Rows.scriptBackRow]) (by simp [Rows.scriptBackRow])
  clear hA0 hval0 hx
  refine (back_calls W c l a1 cap1 hTB hVS hVC hc hci hC hcp (by omega) (fun x hx => (hf x hx).1) hB).mono fun e W' ⟨he, bel⟩ => ?_
  subst he
  exact ⟨_, rfl, _, _, _, [], _, [], hW', trodAll_mk1 (shut_bool Tryd.underlying4 _), (trodAll_cons_mk (Below.trod laidOut (by kernel_rfl) (of_decide_eq_true (by kernel_rfl)) k0 bel lt0) (trodAll_cons_mk (Below.trod laidOut (by kernel_rfl) (of_decide_eq_true (by kernel_rfl)) k1 bel lt1) trodAll_mk0)), rfl, bel.frame _, fun h => by cases h⟩
def arg0 : Value := .agg #[.int .i64 0, .int .i64 0, .int .i64 0, .int .i64 0, .int .i64 0, .int .i64 0, .int .i64 0, .int .i64 0, .int .i64 0, .int .i64 0]
theorem reads (os : Os) {H : Type} (enc : TypeId × Value → H) : ∃ places, DataW.whole enc Tryd.prog ((laidWorld os).forCall (fun _ _ => 0) ⟨#[], #[arg0, .slice none 0 0], []⟩).memory Tryd.f6.params.toList Rows.scriptBackSpec.vars false #[arg0, .slice none 0 0].toList 8 = some ([.agg [.lit (.int .i64 0), .lit (.int .i64 0), .lit (.int .i64 0), .lit (.int .i64 0), .lit (.int .i64 0), .lit (.int .i64 0), .lit (.int .i64 0), .lit (.int .i64 0), .lit (.int .i64 0), .lit (.int .i64 0)], .nil], [], places) :=
  ⟨[], by kernel_rfl⟩
set_option maxRecDepth 100000 in
theorem lifted (os : Os) (started : os.Started) (H : Type) (enc : TypeId × Value → H) (F : Stop.Interp) :
    ReturnsInHanded {} Tryd.checked os 6 .any ((Rows.OpenSpec.upto Rows.scriptBackSpec).preRow enc Tryd.prog Tryd.f6 Rows.scriptBackUptoRow.domain false Rows.scriptBackUptoRow.laid) (((Rows.OpenSpec.upto Rows.scriptBackSpec).at F).post enc Tryd.prog Tryd.f6 false true false false) := by
  obtain ⟨places, hx⟩ := reads os enc
  refine returnsInHanded_of_row (C := Tryd.checked) (s := Rows.OpenSpec.upto Rows.scriptBackSpec) own started (by kernel_rfl) Tryd.func6
    (witness_row_atRef (enc := enc) (C := Tryd.checked) false (laidWorld os) #[arg0, .slice none 0 0] rfl (by kernel_rfl) (by kernel_rfl) (by kernel_rfl)
      (OpenSpec.preRow_of_cond 8 hx (by kernel_rfl) (fun k hk => by cases hk; rfl) (by kernel_rfl) (laid_met os _))) ?_
  intro W base args ds gs before hval hW _ hk hsz hL hS _
  exact contract H enc W base args ds gs before hval hW (hk _ rfl) hL hS
theorem said : Rows.ScriptBackUptoSaid :=
  OpenClaim.holds_of_cond 6 Tryd.f6 rfl rfl rfl rfl rfl rfl rfl ⟨rfl, rfl, rfl, rfl, rfl⟩ rfl rfl rfl rfl rfl (by kernel_rfl) Tryd.func6 (by kernel_rfl)
    (of_decide_eq_true (by kernel_rfl)) (by unfold Func.isWrapper; first | (rw [if_pos (by decide +kernel)]; kernel_rfl) | (rw [if_neg (by decide +kernel)]; exact ⟨rfl, rfl⟩))
    (fun os started H enc _ F => by rw [OpenClaim.pre_eq_preRow]; exact lifted os started H enc F)
theorem plain (f : FuncId) (fn : Func) (hf : Tryd.pinned.checked.prog.funcNamed "sluice/sluicelaw18.ScriptBack" = some f) (hfn : Tryd.pinned.checked.prog.funcs[f]? = some fn) :
    true = Tryd.pinned.checked.prog.looks [] ∧ ∀ (j : Nat) t, fn.params[j]? = some t → Tryd.pinned.checked.prog.wantsStandIn t = false := by
  obtain rfl : f = 6 := Option.some.inj ((show Tryd.prog.funcNamed "sluice/sluicelaw18.ScriptBack" = some 6 by kernel_rfl).symm.trans hf) |>.symm
  obtain rfl : fn = Tryd.f6 := (Option.some.inj (Tryd.func6.symm.trans hfn)).symm
  refine ⟨by kernel_rfl, fun j t ht => ?_⟩
  rw [Tryd.params6] at ht
  have hm := Array.mem_of_getElem? ht
  simp only [List.mem_toArray, List.mem_cons, List.not_mem_nil, or_false] at hm
  rcases hm with rfl | rfl
  · exact (show Tryd.prog.wantsStandIn 25 = false by kernel_rfl)
  · exact (show Tryd.prog.wantsStandIn 26 = false by kernel_rfl)
theorem card : Rows.ScriptBackUptoCardSaid :=
  Claim7.holds_tied_plain_at .later [] _ _ _ _ said (fun _ h => by cases h) (by kernel_rfl) (fun _ h => by cases h) scriptBackUpto_row_tie rfl ⟨rfl, rfl⟩ (by kernel_rfl) rfl plain (by kernel_rfl)
end Go.Proofs.YtnbfebjcfhbhiaaDoor.scriptBack
namespace Go.Proofs.YtnbfebjcfhbhiaaDoor
/-- The card, under a short name, for the claim. -/
theorem scriptBackUpto_holds : Rows.ScriptBackUptoCardSaid := scriptBack.card
end Go.Proofs.YtnbfebjcfhbhiaaDoor
