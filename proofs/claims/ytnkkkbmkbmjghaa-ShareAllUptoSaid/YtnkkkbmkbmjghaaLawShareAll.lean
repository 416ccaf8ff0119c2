/- The statement ShareAll where what it reads is of bulk at most 1048576: the row, out of the walk. -/
import Derived.Test.YtnkkkbmkbmjghaaRows
import Derived.Test.YtnkkkbmkbmjghaaWalkShareAll
import Derived.WalkKit
import Derived.ProofKit
import Derived.OpenShut
import Derived.ShutString
import Derived.ChangeOld
import Derived.Below
import Derived.SizedLaws
import Derived.JoinedCond
import Derived.Deep.Slices
import Derived.Deep.CondSized
namespace Go.Proofs.Ytnkkkbmkbmjghaa.shareAll
open Go.ChangeShapes Go.WideShapes Go.ChangeAt Go.RowKit Go.Proofs.Ytnkkkbmkbmjghaa.Pa Go.Proofs.YtnkkkbmkbmjghaaW.PrintWords
set_option linter.unusedVariables false
set_option linter.unusedSimpArgs false
theorem own : ownKnob Try.prog.godebug = none := by kernel_rfl
theorem laidOut : laidOutB Try.prog = true := by kernel_rfl
theorem bulk_one {H : Type} (d : DataW H) : 1 ≤ Rows.uptoBulk d := by cases d <;> (try rename_i l; cases l) <;> simp [Rows.uptoBulk]
theorem bulk_len {H : Type} (l : List (DataW H)) : l.length ≤ Rows.uptoBulkAll l := by
  induction l with
  | nil => simp [Rows.uptoBulkAll]
  | cons x r ih => have := bulk_one x; simp only [Rows.uptoBulkAll, List.length_cons]; omega
theorem bulk_mem {H : Type} {d : DataW H} {l : List (DataW H)} (h : d ∈ l) : Rows.uptoBulk d ≤ Rows.uptoBulkAll l := by
  induction l with
  | nil => cases h
  | cons x r ih =>
    simp only [Rows.uptoBulkAll]
    rcases List.mem_cons.1 h with rfl | h
    · omega
    · have := ih h; omega
section
variable {H : Type} {enc : TypeId × Value → H} {w : World} {spare : Nat → Bool} {held : Bool}
/-- A row of whole numbers as it is read. -/
theorem ints_open {fuel : Nat} {v : Value} {y : DataW H × List MemPlace} (h : DataW.trod enc Try.prog w 0 spare held fuel 22 [v] = some y) (hb : Rows.uptoBulk y.1 ≤ 1048576) :
    ∃ (A : Option Addr) (c : Nat) (xs : List Int), v = .slice A xs.length c ∧ Kd.C (Kd.int .i64) w A xs.length xs ∧ xs.length ≤ c ∧ xs.length ≤ 1048576 := by
  rcases open_ints Try.underlying22 Try.underlying3 (by kernel_rfl) h with ⟨hcs, _⟩ | ⟨a, l, c, zs, hcs, _, hl, hm, hz, hy, hcell, hwz⟩
  · obtain rfl : v = .slice none 0 0 := by simpa using hcs
    exact ⟨none, 0, [], rfl, Kd.C_nil _ _, Nat.le_refl _, by simp⟩
  · obtain rfl : v = .slice (some a) l c := by simpa using hcs
    have hlz : l ≤ zs.length := by rw [hz]; split <;> omega
    have hlen : (zs.take l).length = l := by rw [List.length_take]; omega
    refine ⟨some a, c, zs.take l, by rw [hlen], Kd.C_of_reads (d := (0 : Int)) (h1 := fun _ => rfl) ⟨rfl, by simp only [maxLen] at hm; omega, fun _ => ⟨a, rfl, fun j hj => ?_⟩⟩, by omega, ?_⟩
    · rw [hcell j (by omega), List.getD_eq_getElem?_getD, List.getD_eq_getElem?_getD, List.getElem?_take, if_pos (by omega)]
    · rw [hy] at hb
      simp only [Rows.uptoBulk] at hb
      have h1 := bulk_len (H := H) (lits .i64 (zs.take l))
      have h2 : (lits (H := H) .i64 (zs.take l)).length = (zs.take l).length := by simp [lits]
      omega
theorem act_open {fuel : Nat} {cs : List Value} {x : DataW H × List MemPlace} (h : DataW.trod enc Try.prog w 0 spare held fuel 41 cs = some x) (hb : Rows.uptoBulk x.1 ≤ 1048576) :
    ∃ (k a b : Int) (A : Option Addr) (c : Nat) (xs : List Int), cs = [.int .i64 k, .int .i64 a, .int .i64 b, .slice A xs.length c] ∧ Kd.C (Kd.int .i64) w A xs.length xs ∧ xs.length ≤ c ∧ xs.length ≤ 1048576 ∧ (Lit.int .i64 a).wf = true ∧ (Lit.int .i64 b).wf = true := by
  obtain ⟨ys, n, _, hx, hcl, hyl, hf⟩ := DataW.trod_struct Try.underlying41 h
  have hcl4 : cs.length = 4 := hcl.trans (by kernel_rfl)
  match cs, hcl4 with
  | [c0, c1, c2, c3], _ =>
    have e3 : Try.prog.cellsOf 3 = 1 := by kernel_rfl
    have e22 : Try.prog.cellsOf 22 = 1 := by kernel_rfl
    have hyl4 : ys.length = 4 := hyl
    match ys, hyl4 with
    | [y0, y1, y2, y3], _ =>
      have f0 : DataW.trod enc Try.prog w 0 spare held n 3 (List.take (Try.prog.cellsOf 3) (List.drop 0 [c0, c1, c2, c3])) = some y0 := hf 0 _ rfl
      have f1 : DataW.trod enc Try.prog w 0 spare held n 3 (List.take (Try.prog.cellsOf 3) (List.drop 1 [c0, c1, c2, c3])) = some y1 := hf 1 _ rfl
      have f2 : DataW.trod enc Try.prog w 0 spare held n 3 (List.take (Try.prog.cellsOf 3) (List.drop 2 [c0, c1, c2, c3])) = some y2 := hf 2 _ rfl
      have f3 : DataW.trod enc Try.prog w 0 spare held n 22 (List.take (Try.prog.cellsOf 22) (List.drop 3 [c0, c1, c2, c3])) = some y3 := hf 3 _ rfl
      have g : ∀ (c : Value) (r : List Value), List.take 1 (c :: r) = [c] := fun _ _ => rfl
      rw [e3] at f0 f1 f2
      rw [e22] at f3
      simp only [List.drop_zero, List.drop_succ_cons, g] at f0 f1 f2 f3
      obtain ⟨k, g0, _, _⟩ := DataW.trod_int Try.underlying3 f0
      obtain ⟨a, g1, _, wa⟩ := DataW.trod_int Try.underlying3 f1
      obtain ⟨b, g2, _, wb⟩ := DataW.trod_int Try.underlying3 f2
      have hb3 : Rows.uptoBulk y3.1 ≤ 1048576 := by
        rw [hx] at hb
        simp only [Rows.uptoBulk, List.map_cons, List.map_nil, Rows.uptoBulkAll] at hb
        omega
      obtain ⟨A, c, xs, rfl, hC, hc, hl⟩ := ints_open f3 hb3
      simp only [List.cons.injEq, and_true] at g0 g1 g2
      exact ⟨k, a, b, A, c, xs, by rw [g0, g1, g2], hC, hc, hl, wa, wb⟩
theorem fits {a0 : Int} (w0 : (Lit.int .i64 a0).wf = true) : -9223372036854775808 ≤ a0 ∧ a0 ≤ 9223372036854775807 := by simpa [Lit.wf, IntKind.min, IntKind.max, IntKind.signed, IntKind.bits] using w0
/-- All calls as they came in. -/
theorem acts_open {fuel : Nat} {a : Option Addr} {len cap : Nat} {x : DataW H × List MemPlace} (h : DataW.trod enc Try.prog w 0 spare held fuel 43 [.slice a len cap] = some x) (hb : Rows.uptoBulk x.1 ≤ 1048576) :
    ∃ L : List Act1, L.length = len ∧ len ≤ cap ∧ len ≤ 1000000 ∧ (0 < len → ∃ ad, a = some ad ∧ ∀ i (h : i < L.length), Came w (ad.add (i * 4)) L[i]) := by
  rcases Go.Deep.open_slice Try.underlying43 h with ⟨hcs, _⟩ | ⟨ad, l, c, m, n, D, Pl, hcs, _, hl, hm, hmm, hx, hi⟩
  · simp only [List.cons.injEq, Value.slice.injEq, and_true] at hcs
    obtain ⟨rfl, rfl, rfl⟩ := hcs
    exact ⟨[], rfl, Nat.le_refl _, by omega, fun h => absurd h (by omega)⟩
  · simp only [List.cons.injEq, Value.slice.injEq, and_true] at hcs
    obtain ⟨rfl, rfl, rfl⟩ := hcs
    have hlm : len ≤ m := by rw [hmm]; split <;> omega
    have e4 : Try.prog.cellsOf 41 = 4 := by kernel_rfl
    rw [hx] at hb
    simp only [Rows.uptoBulk] at hb
    have hbD : ∀ i, i < len → Rows.uptoBulk (D i) ≤ 1048576 := fun i h => by
      have := bulk_mem (d := D i) (l := (List.range len).map D) (List.mem_map.2 ⟨i, List.mem_range.2 h, rfl⟩)
      omega
    have hone : ∀ i : Nat, i < len → ∃ x : Act1, Came w (ad.add (i * 4)) x := fun i hlt => by
      obtain ⟨cs', hc, ht⟩ := hi i (by omega)
      rw [e4] at hc
      obtain ⟨k, p, q, A, c, xs, rfl, hC, hc2, hl2, wa, wb⟩ := act_open ht (hbD i hlt)
      obtain ⟨_, _, hat⟩ := World.cells?_some hc
      have a0 := hat 0 (by omega); have a1 := hat 1 (by omega); have a2 := hat 2 (by omega); have a3 := hat 3 (by omega)
      simp only [List.getElem?_cons_zero, List.getElem?_cons_succ] at a0 a1 a2 a3
      refine ⟨⟨k, p, q, A, c, xs⟩, ⟨by simpa [Addr.add_zero'] using a0, ?_, ?_, ?_, hC, hc2, by show xs.length * 8 ≤ _; omega, fits wa, fits wb⟩⟩
      · simpa [Addr.add_succ'] using a1
      · simpa [Addr.add_succ'] using a2
      · simpa [Addr.add_succ'] using a3
    have hnum : len * 5 ≤ 1048576 := by
      have h5 : ∀ l : List (DataW H), (∀ d ∈ l, 5 ≤ Rows.uptoBulk d) → l.length * 5 ≤ Rows.uptoBulkAll l := by
        intro l
        induction l with
        | nil => intro _; simp
        | cons x r ih =>
          intro h
          have h1 := h x (List.mem_cons_self ..)
          have h2 := ih (fun d hd => h d (List.mem_cons_of_mem _ hd))
          simp only [Rows.uptoBulkAll, List.length_cons]; omega
      have h6 := h5 ((List.range len).map D) (fun d hd => by
        obtain ⟨i, hi2, rfl⟩ := List.mem_map.1 hd
        obtain ⟨cs', hc, ht⟩ := hi i (by have := List.mem_range.1 hi2; omega)
        obtain ⟨ys, n', _, hy, _, hyl, _⟩ := DataW.trod_struct Try.underlying41 ht
        simp only [Prod.mk.injEq] at hy
        rw [hy.1]
        simp only [Rows.uptoBulk]
        have := bulk_len (ys.map (·.1))
        rw [List.length_map, hyl] at this
        have h7 : (4 : Nat) ≤ Rows.uptoBulkAll (ys.map (·.1)) := this
        omega)
      rw [List.length_map, List.length_range] at h6
      omega
    refine ⟨(List.range len).attach.map fun i => (hone i.1 (List.mem_range.1 i.2)).choose, by simp, hl, by omega, fun _ => ⟨ad, rfl, fun i h => ?_⟩⟩
    simp only [List.getElem_map, List.getElem_attach, List.getElem_range]
    exact (hone i (by simpa using h)).choose_spec
end
set_option maxRecDepth 100000 in
theorem lifted (os : Os) (started : os.Started) (H : Type) (enc : TypeId × Value → H) (F : Stop.Interp) :
    ReturnsInHanded {} Try.checked os 8 .any ((Rows.OpenSpec.upto Rows.shareAllSpec).pre6 enc Try.prog Try.f8 Rows.shareAllUptoRow.domain false) (((Rows.OpenSpec.upto Rows.shareAllSpec).at F).post enc Try.prog Try.f8 false true false false) := by
  refine returnsInHanded_of_cond (C := Try.checked) (s := Rows.OpenSpec.upto Rows.shareAllSpec) (k := Rows.uptoSmall) rfl own started (by kernel_rfl) Try.func8
    (OpenSpec.witness (enc := enc) (C := Try.checked) (s := Rows.OpenSpec.upto Rows.shareAllSpec) (k := Rows.uptoSmall) rfl false ⟨#[], #[.slice none 0 0], []⟩ 8 (by kernel_rfl) (by kernel_rfl) (by kernel_rfl)
      (x := ([.nil], [], [])) (by kernel_rfl) rfl (by kernel_rfl)) ?_
  intro W base args ds gs before hval hW _ hk _
  have hW' := hW
  obtain ⟨p, q, hA0, hV, rfl, hfz, hnd⟩ := hW
  have hA : DataW.TrodAll enc Try.prog W 0 (fun _ => true) true Try.f8.params.toList args.toList ds p := hA0
  rw [Try.params8] at hA hval
  obtain ⟨v0, vs0, d0, ds0, p0, q0, hargs, rfl, rfl, h0, r0⟩ := trodAll_cons hA
  obtain ⟨rfl, rfl, rfl⟩ := trodAll_nil r0
  obtain rfl : args = #[v0] := by cases args; simp_all
  obtain ⟨rfl, rfl⟩ := trodVars_none hV
  obtain ⟨a0, len0, cap0, rfl⟩ := okWide_slice Try.underlying43 (hval 0 43 v0 rfl rfl)
  have k0 := h0
  have lt0 : ∀ x ∈ p0, x.block < W.heap.size := by obtain ⟨m, hm⟩ := k0; exact DataW.trod_lt m _ _ _ hm
  have hbulk : Rows.uptoBulk d0 ≤ 1048576 := by
    have h : Rows.uptoBulkAll ([d0] ++ []) ≤ 1048576 := of_decide_eq_true hk
    simp only [List.append_nil, Rows.uptoBulkAll] at h
    omega
  obtain ⟨L, rfl, hc, hl, hcame⟩ : ∃ L : List Act1, L.length = len0 ∧ len0 ≤ cap0 ∧ len0 ≤ 1000000 ∧ (0 < len0 → ∃ ad, a0 = some ad ∧ ∀ i (h : i < L.length), Came W (ad.add (i * 4)) L[i]) := by
    obtain ⟨fuel, hf⟩ := h0
    exact acts_open (by simpa [Value.cells] using hf) hbulk
  clear hA0
  refine (Pa.walk a0 cap0 L W hl hc hcame).mono fun e W' ⟨he, bel⟩ => ?_
  subst he
  exact ⟨_, rfl, _, _, _, [], _, [], hW', trodAll_mk1 (shut_bool Try.underlying4 _), (trodAll_cons_mk (Below.trod laidOut (by kernel_rfl) (of_decide_eq_true (by kernel_rfl)) k0 bel lt0) trodAll_mk0), rfl, bel.frame _, fun h => by cases h⟩
theorem proved : Rows.ShareAllUptoSaid :=
  OpenClaim.holds_of_cond 8 Try.f8 rfl rfl rfl rfl rfl rfl rfl ⟨rfl, rfl, rfl, rfl, rfl⟩ rfl rfl rfl rfl rfl (by kernel_rfl) Try.func8 (by kernel_rfl)
    (of_decide_eq_true (by kernel_rfl)) (by unfold Func.isWrapper; first | (rw [if_pos (by decide +kernel)]; kernel_rfl) | (rw [if_neg (by decide +kernel)]; exact ⟨rfl, rfl⟩))
    (fun os started H enc _ F => lifted os started H enc F)
#print axioms proved
end Go.Proofs.Ytnkkkbmkbmjghaa.shareAll
namespace Go.Proofs.Ytnkkkbmkbmjghaa
/-- The row, under a short name, for the claim. -/
theorem shareAllUpto_holds : Rows.ShareAllUptoSaid := shareAll.proved
end Go.Proofs.Ytnkkkbmkbmjghaa
