/- texts that the proof needs, laid together by a program of this session. -/
import Derived.Test.YtnbfebjcfhbhiaaDoorRows
import Derived.WalkKit
import Derived.ProofKit
import Derived.OpenShut
import Derived.Deep.DeepHandedRow
import Derived.Lib.LaidTab
import Derived.Lib.LaidU8
import Derived.LaidLaws
import Derived.Deep.DeepWitnessRowRef
import Derived.Lib.LaidIn
import Derived.Lib.ItoaMem
import Derived.Test.YtnbfebjcfhbhiaaDoorKScriptOneForm10
section
namespace Go.Proofs.YtnbfebjcfhbhiaaDoor.Lv
open Go Go.ChangeShapes Go.WideShapes Go.ChangeAt Go.RowKit Go.Proofs.YtnbfebjcfhbhiaaDoor.P Go.Proofs.YtnbfebjcfhbhiaaDoor.Sc Go.Proofs.YtnbfebjcfhbhiaaDoor.Lw Go.Proofs.YtnbfebjcfhbhiaaDoor.Bw Go.Proofs.YtnbfebjcfhbhiaaDoorW.PrintWords
set_option linter.unusedVariables false
set_option linter.unusedSimpArgs false
section
variable {H : Type} {enc : TypeId × Value → H} {w : World} {spare : Nat → Bool} {held : Bool}
def formD (p : S153) : DataW H := .agg [.lit (.string p.f0.data.toList), .lit (.string p.f1.data.toList), .lit (.int .i64 p.f2)]
theorem form_inj {p q : S153} (h : (formD p : DataW H) = formD q) : p = q := by
  unfold formD at h
  simp only [DataW.agg.injEq, List.cons.injEq, DataW.lit.injEq, Lit.string.injEq, Lit.int.injEq, and_true, true_and] at h
  obtain ⟨h0, h1, h2⟩ := h
  cases p; cases q
  simp only at h0 h1 h2
  rw [bs_inj h0, bs_inj h1, h2]
set_option maxRecDepth 100000 in
theorem form_open {fuel : Nat} {cs : List Value} {x : DataW H × List MemPlace} (h : DataW.trod enc Tryd.prog w 0 spare held fuel 153 cs = some x) : ∃ p : S153, cs = [.string p.f0, .string p.f1, .int .i64 p.f2] ∧ x.1 = formD p := by
  obtain ⟨ys, n, _, hx, hcl, hyl, hf⟩ := DataW.trod_struct Tryd.underlying153 h
  have hcl2 : cs.length = 3 := hcl.trans (by kernel_rfl)
  have hyl2 : ys.length = 3 := hyl
  match cs, hcl2 with
  | [c0, c1, c2], _ =>
    match ys, hyl2 with
    | [y0, y1, y2], _ =>
      have eint : Tryd.prog.cellsOf 3 = 1 := by kernel_rfl
      have estr : Tryd.prog.cellsOf 9 = 1 := by kernel_rfl
      have g0 : DataW.trod enc Tryd.prog w 0 spare held n 9 (List.take (Tryd.prog.cellsOf 9) (List.drop 0 [c0, c1, c2])) = some y0 := hf 0 _ rfl
      rw [estr] at g0
      replace g0 : DataW.trod enc Tryd.prog w 0 spare held n 9 [c0] = some y0 := g0
      obtain ⟨s0, q0, z0, _⟩ := DataW.trod_string Tryd.underlying9 g0
      have g1 : DataW.trod enc Tryd.prog w 0 spare held n 9 (List.take (Tryd.prog.cellsOf 9) (List.drop 1 [c0, c1, c2])) = some y1 := hf 1 _ rfl
      rw [estr] at g1
      replace g1 : DataW.trod enc Tryd.prog w 0 spare held n 9 [c1] = some y1 := g1
      obtain ⟨s1, q1, z1, _⟩ := DataW.trod_string Tryd.underlying9 g1
      have g2 : DataW.trod enc Tryd.prog w 0 spare held n 3 (List.take (Tryd.prog.cellsOf 3) (List.drop 2 [c0, c1, c2])) = some y2 := hf 2 _ rfl
      rw [eint] at g2
      replace g2 : DataW.trod enc Tryd.prog w 0 spare held n 3 [c2] = some y2 := g2
      obtain ⟨n2, q2, z2, _⟩ := DataW.trod_int Tryd.underlying3 g2
      simp only [List.cons.injEq, and_true] at q0 q1 q2
      exact ⟨⟨s0, s1, n2⟩, by rw [q0, q1, q2], by rw [hx, z0, z1, z2]; rfl⟩
theorem forms_open {fuel : Nat} {cs : List Value} {x : DataW H × List MemPlace} (h : DataW.trod enc Tryd.prog w 0 spare held fuel 102 cs = some x) (fs : List S153) (hne : fs ≠ []) (hd : ∃ sp, x.1 = .slice (fs.map formD) sp) :
    ∃ ad c, cs = [.slice (some ad) fs.length c] ∧ fs.length ≤ c ∧ Kd.C k153 w (some ad) fs.length fs := by
  obtain ⟨sp, hd⟩ := hd
  rcases DataW.trod_slice Tryd.underlying102 h with ⟨_, g⟩ | ⟨a, len, cap, elems, rest, n, _, hcs, hx, _, hlc, hcm, hel, hat, _, _⟩
  · rw [g] at hd; cases hd
  · rw [hx] at hd
    simp only [DataW.slice.injEq] at hd
    have hl : len = fs.length := by rw [← hel]; have := congrArg List.length hd.1; simpa using this
    subst hl
    have e3 : Tryd.prog.cellsOf 153 = 3 := by kernel_rfl
    refine ⟨a, cap, hcs, hlc, rfl, by simp only [maxLen] at hcm; omega, fun _ => ⟨a, rfl, fun j p hj => ?_⟩⟩
    obtain ⟨hj1, hj2⟩ := List.getElem?_eq_some_iff.1 hj
    have h1 := hat j hj1
    rw [e3] at h1
    have h2 : (elems.map (·.1))[j]? = some (formD p) := by rw [hd.1, List.getElem?_map, hj]; rfl
    rw [List.getElem?_map] at h2
    obtain ⟨y, hy, hy2⟩ := Option.map_eq_some_iff.1 h2
    rw [hy] at h1
    obtain ⟨c, hc1, hc2⟩ := Option.bind_eq_some_iff.1 h1
    obtain ⟨q, rfl, hq⟩ := form_open hc2
    have : q = p := form_inj (H := H) (hq.symm.trans hy2)
    subst this
    refine ⟨_, rfl, k153_mk w q, fun i u hu => ?_⟩
    obtain ⟨_, _, hat2⟩ := World.cells?_some hc1
    have hi3 : i < 3 := by have := (List.getElem?_eq_some_iff.1 hu).1; simpa using this
    rw [show a.add (j * k153.sz + i) = (a.add (j * 3)).add i from by rw [Go.Proofs.YtnbfebjcfhbhiaaDoorW.PrintWords.add_add]; rfl]
    exact (hat2 i hi3).trans hu
end
/-- A variable that reads lies in a block of its own, nothing of it frozen. -/
theorem var_block {w : World} {l : List (String × DataW Unit)} (h : laidMet Tryd.prog l w) {n : String} {d : DataW Unit} (hm : (n, d) ∈ l) : ∃ g t cs fuel p T, Tryd.prog.globalNamed n = some g ∧ (Tryd.prog.globals[g]?).map (·.type) = some t ∧ w.var? Tryd.prog n = some cs ∧ DataW.trod (fun _ => ()) Tryd.prog w 0 (fun _ => true) false fuel t cs.toList = some (d, p) ∧ (cs.size ≠ 0 → w.heap[g]? = some (.cells cs T (0, 0))) := by
  obtain ⟨ps, hv, _, hfz⟩ := h
  have : ∀ (l : List (String × DataW Unit)) ps, DataW.LaidVars Tryd.prog w l ps → (n, d) ∈ l → ∃ g t cs fuel p, Tryd.prog.globalNamed n = some g ∧ (Tryd.prog.globals[g]?).map (·.type) = some t ∧ w.var? Tryd.prog n = some cs ∧ DataW.trod (fun _ => ()) Tryd.prog w 0 (fun _ => true) false fuel t cs.toList = some (d, p) ∧ ∀ q ∈ MemPlace.row ⟨g, 0, none⟩ cs.size, q ∈ ps := by
    intro l
    induction l with
    | nil => intro ps _ h; cases h
    | cons x r ih =>
      intro ps h hm
      obtain ⟨n', d'⟩ := x
      obtain ⟨g, t, cs, fuel, p, q, h1, h2, h3, h4, h5, h6⟩ := h
      rcases List.mem_cons.1 hm with e | e
      · cases e
        exact ⟨g, t, cs, fuel, p, h1, h2, h3, h4, fun y hy => by rw [h6]; simp [hy]⟩
      · obtain ⟨g', t', cs', fuel', p', k1, k2, k3, k4, k5⟩ := ih q h5 e
        exact ⟨g', t', cs', fuel', p', k1, k2, k3, k4, fun y hy => by rw [h6]; simp [k5 y hy]⟩
  obtain ⟨g, t, cs, fuel, p, h1, h2, h3, h4, h5⟩ := this l ps hv hm
  unfold World.var? at h3
  rw [h1] at h3
  simp only [Option.bind_some] at h3
  cases ho : w.heap[g]? with
  | none => rw [ho] at h3; simp at h3
  | some o =>
    rw [ho] at h3
    cases o with
    | cells c T fr =>
      simp only [Option.some.injEq] at h3
      subst h3
      refine ⟨g, t, c, fuel, p, T, h1, h2, by unfold World.var?; rw [h1]; simp [ho], h4, fun hz => ?_⟩
      have hin : MemPlace.cell g 0 ∈ MemPlace.row ⟨g, 0, none⟩ c.size := by
        unfold MemPlace.row
        exact List.mem_map.2 ⟨0, List.mem_range.2 (by omega), rfl⟩
      obtain ⟨c2, T2, h6⟩ := (hfz g 0 (h5 _ hin)).1
      rw [ho] at h6
      simp only [Option.some.injEq, Obj.cells.injEq] at h6
      rw [ho, h6.2.2]
    | _ => simp at h3
theorem gOps : Tryd.prog.globalNamed "sluice/script.ops" = some 2 := by kernel_rfl
theorem gSteps : Tryd.prog.globalNamed "sluice/script.steps" = some 1 := by kernel_rfl
theorem gWords : Tryd.prog.globalNamed "sluice/script.configWords" = some 0 := by kernel_rfl
theorem gPow : Tryd.prog.globalNamed "internal/strconv.uint64pow10" = some 3 := by kernel_rfl
theorem gErr : Tryd.prog.globalNamed "strconv.ErrRange" = some 5 := by kernel_rfl
theorem yOps : (Tryd.prog.globals[2]?).map (·.type) = some 102 := by kernel_rfl
theorem ySteps : (Tryd.prog.globals[1]?).map (·.type) = some 102 := by kernel_rfl
theorem yWords : (Tryd.prog.globals[0]?).map (·.type) = some 99 := by kernel_rfl
theorem yErr : (Tryd.prog.globals[5]?).map (·.type) = some 150 := by kernel_rfl
theorem yPow : (Tryd.prog.globals[3]?).map (·.type) = some 203 := by kernel_rfl
theorem dOps : (Rows.laid_sluice_script_ops : DataW Unit) = .slice (opFs.map formD) [] := by rfl
theorem dSteps : (Rows.laid_sluice_script_steps : DataW Unit) = .slice (stepFs.map formD) [] := by rfl
theorem var_forms {W : World} {l : List (String × DataW Unit)} (h : laidMet Tryd.prog l W) {n : String} {d : DataW Unit} {g : Nat} (hm : (n, d) ∈ l) (hg : Tryd.prog.globalNamed n = some g) (hy : (Tryd.prog.globals[g]?).map (·.type) = some 102) (fs : List S153) (hne : fs ≠ []) (hd : d = .slice (fs.map formD) []) :
    ∃ ad c T, W.heap[g]? = some (.cells #[.slice (some ad) fs.length c] T (0, 0)) ∧ fs.length ≤ c ∧ Kd.C k153 W (some ad) fs.length fs := by
  obtain ⟨g', t, cs, fuel, p, T, h1, h2, h3, h4, h5⟩ := var_block h hm
  obtain rfl := Option.some.inj (h1.symm.trans hg)
  obtain rfl := Option.some.inj (h2.symm.trans hy)
  obtain ⟨ad, c, hcs, hlc, hC⟩ := forms_open h4 fs hne ⟨[], hd⟩
  have e : cs = #[.slice (some ad) fs.length c] := by cases cs; simp_all
  subst e
  exact ⟨ad, c, T, h5 (by simp), hlc, hC⟩
theorem dWords : (Rows.laid_sluice_script_configWords : DataW Unit) = .agg ((cfgW0 :: cfgWs).map fun x => .lit (.string x)) := by rfl
theorem dPow : (Rows.laid_internal_strconv_uint64pow10 : DataW Unit) = Lib.tabData .u64 Lib.pow10Tab := by rfl
theorem words_open {w : World} {fuel : Nat} {cs : List Value} {p : List MemPlace} (h : DataW.trod (fun _ => ()) Tryd.prog w 0 (fun _ => true) false fuel 99 cs = some (.agg ((cfgW0 :: cfgWs).map fun x => .lit (.string x)), p)) : cs = (cfgW0 :: cfgWs).map (fun x => Value.string (sb x)) := by
  obtain ⟨xs, m, _, hx, hcl, hxl, hat⟩ := DataW.trod_array Tryd.underlying99 h
  have e1 : Tryd.prog.cellsOf 9 = 1 := by kernel_rfl
  have e10 : Tryd.prog.cellsOf 99 = 10 := by kernel_rfl
  rw [e10] at hcl
  simp only [Prod.mk.injEq, DataW.agg.injEq] at hx
  apply List.ext_getElem?
  intro i
  by_cases hi : i < 10
  · have h1 := hat i hi
    rw [e1, Nat.mul_one] at h1
    have hc : i < cs.length := by omega
    rw [List.drop_eq_getElem_cons hc] at h1
    simp only [List.take_succ_cons, List.take_zero] at h1
    have hw : i < (cfgW0 :: cfgWs).length := hi
    have h2 : (xs.map (·.1))[i]? = some (.lit (.string ((cfgW0 :: cfgWs)[i]))) := by rw [← hx.1, List.getElem?_map, List.getElem?_eq_getElem hw]; rfl
    rw [List.getElem?_map] at h2
    obtain ⟨y, hy, hy2⟩ := Option.map_eq_some_iff.1 h2
    rw [hy] at h1
    obtain ⟨s, q, z, _⟩ := DataW.trod_string Tryd.underlying9 h1
    rw [z] at hy2
    simp only [DataW.lit.injEq, Lit.string.injEq] at hy2
    simp only [List.cons.injEq, and_true] at q
    rw [List.getElem?_eq_getElem hc, q, List.getElem?_map, List.getElem?_eq_getElem hw, ← hy2]
    show some (Value.string s) = some (Value.string (sb (bs s)))
    rw [sb_bs]
  · rw [List.getElem?_eq_none (by omega), List.getElem?_eq_none (by rw [List.length_map]; show 10 ≤ i; omega)]
theorem var_type {W : World} (hS : W.ShapedOpen Tryd.prog) {g : Nat} {cs : Array Value} {T t : TypeId} {fr : Nat × Nat} (hg : g < Tryd.prog.globals.size) (h : W.heap[g]? = some (.cells cs T fr)) (hb : (((begin Tryd.prog (fun _ _ => 0) default).world.heap[g]?).bind Obj.row?).map (·.2) = some t) : T = t := by
  obtain ⟨⟨z, t'⟩, h1, h2⟩ := Option.map_eq_some_iff.1 hb
  simp only at h2
  subst h2
  obtain ⟨cs', h3, _⟩ := hS.1 g z t' hg h1
  rw [h] at h3
  simp only [Option.some.injEq, Obj.cells.injEq] at h3
  exact h3.2.1
/-- WHAT THE LIST GIVES. -/
theorem vars_open {W : World} {l : List (String × DataW Unit)} (hS : W.ShapedOpen Tryd.prog) (h : laidMet Tryd.prog l W) (m1 : ("sluice/script.steps", Rows.laid_sluice_script_steps) ∈ l) (m2 : ("sluice/script.ops", Rows.laid_sluice_script_ops) ∈ l) (m3 : ("sluice/script.configWords", Rows.laid_sluice_script_configWords) ∈ l) (m4 : ("internal/strconv.uint64pow10", Rows.laid_internal_strconv_uint64pow10) ∈ l) (m5 : ("strconv.ErrRange", Rows.laid_strconv_ErrRange) ∈ l) : VS W ∧ VC W ∧ TB W := by
  obtain ⟨a1, c1, T1, k1, k2, k3⟩ := var_forms h m1 gSteps ySteps stepFs (by decide) dSteps
  obtain ⟨a2, c2, T2, j1, j2, j3⟩ := var_forms h m2 gOps yOps opFs (by decide) dOps
  have t1 : T1 = 102 := var_type hS (of_decide_eq_true (by kernel_rfl)) k1 (by kernel_rfl)
  have t2 : T2 = 102 := var_type hS (of_decide_eq_true (by kernel_rfl)) j1 (by kernel_rfl)
  subst t1
  subst t2
  refine ⟨⟨?_, ⟨a2, c2, j1, j2, j3⟩, ⟨a1, c1, k1, k2, k3⟩⟩, ?_, ?_⟩
  · obtain ⟨g', t, cs, fuel, p, T, h1, h2, h3, h4, h5⟩ := var_block h m5
    obtain rfl := Option.some.inj (h1.symm.trans gErr)
    obtain rfl := Option.some.inj (h2.symm.trans yErr)
    unfold VR
    rw [h3]
    obtain ⟨f2, u, v, hcs, _⟩ := iface_of_trod Tryd.underlying150 h4
    refine ⟨u, v, ?_⟩
    congr 1
    cases cs
    simp only at hcs
    rw [hcs]
  · obtain ⟨g', t, cs, fuel, p, T, h1, h2, h3, h4, h5⟩ := var_block h m3
    obtain rfl := Option.some.inj (h1.symm.trans gWords)
    obtain rfl := Option.some.inj (h2.symm.trans yWords)
    rw [dWords] at h4
    have h6 := words_open h4
    have e : cs = ((cfgW0 :: cfgWs).map (fun x => Value.string (sb x))).toArray := by rw [← h6]
    subst e
    exact ⟨T, h5 (by decide)⟩
  · obtain ⟨g', t, cs, fuel, p, T, h1, h2, h3, h4, h5⟩ := var_block h m4
    obtain rfl := Option.some.inj (h1.symm.trans gPow)
    obtain rfl := Option.some.inj (h2.symm.trans yPow)
    rw [dPow] at h4
    unfold TB Lib.TabIs
    rw [h3, ← Lib.cells_of_tab Tryd.underlying203 Tryd.underlying191 (by kernel_rfl) (by kernel_rfl) h4]
end Go.Proofs.YtnbfebjcfhbhiaaDoor.Lv
end
section
namespace Go.Proofs.YtnbfebjcfhbhiaaDoor.Lv
open Go Go.ChangeShapes Go.WideShapes Go.ChangeAt Go.RowKit Go.Lib Go.Proofs.YtnbfebjcfhbhiaaDoor.P Go.Proofs.YtnbfebjcfhbhiaaDoor.Sc Go.Proofs.YtnbfebjcfhbhiaaDoor.Lw Go.Proofs.YtnbfebjcfhbhiaaDoor.Bw Go.Proofs.YtnbfebjcfhbhiaaDoorW.PrintWords
set_option linter.unusedVariables false
set_option linter.unusedSimpArgs false
def formCells (l : List S153) : Array Value := (l.flatMap fun p => [Value.string p.f0, Value.string p.f1, Value.int .i64 p.f2]).toArray
def strS (l : List UInt8) : Value := .string ⟨l.toArray⟩
def agg8 : DataW Unit → List Int
  | .agg l => l.map fun | .lit (.int _ n) => n | _ => 0
  | _ => []
noncomputable def laidWorld (os : Os) : World :=
  let N := (World.settled Tryd.prog os).heap.size
  let w0 := World.holding Tryd.prog os ⟨#[
    .cells #[strS [118, 97, 108, 117, 101, 32, 111, 117, 116, 32, 111, 102, 32, 114, 97, 110, 103, 101]] 213,
    .cells #[strS [105, 110, 118, 97, 108, 105, 100, 32, 115, 121, 110, 116, 97, 120]] 213,
    .cells (formCells stepFs) 153,
    .cells (formCells opFs) 153], #[], []⟩
  let put (h : Array Obj) (g : Nat) (cs : Array Value) : Array Obj := h.modify g fun
    | .cells _ t frozen => .cells cs t frozen
    | o => o
  let h0 := put w0.heap 0 ((cfgW0 :: cfgWs).map strS).toArray
  let h1 := put h0 1 #[.slice (some ⟨N + 2, 0, none⟩) 15 15]
  let h2 := put h1 2 #[.slice (some ⟨N + 3, 0, none⟩) 11 11]
  let h3 := put h2 3 (Lib.pow10Tab.map fun z => Value.int .u64 z).toArray
  let h4 := put h3 4 #[.iface 211 (.pointer (some ⟨N + 1, 0, none⟩))]
  let h5 := put h4 5 #[.iface 211 (.pointer (some ⟨N, 0, none⟩))]
  let h6 := put h5 6 ((agg8 Rows.laid_math_bits_deBruijn32tab).map fun z => Value.int .u8 z).toArray
  let h7 := put h6 7 ((agg8 Rows.laid_math_bits_deBruijn64tab).map fun z => Value.int .u8 z).toArray
  { w0 with heap := h7 }
theorem laid_met (os : Os) (args : Array Value) : laidMet Tryd.prog Rows.scriptParseRow.laid ((laidWorld os).forCall (fun _ _ => 0) ⟨#[], args, []⟩).memory :=
  laidMet_of_run' 8 (by kernel_rfl) (by kernel_rfl)
end Go.Proofs.YtnbfebjcfhbhiaaDoor.Lv
end
section
namespace Go.Proofs.YtnbfebjcfhbhiaaDoor.Sc
set_option linter.unusedVariables false
set_option linter.unusedSimpArgs false
/-- Nothing is left. -/
def Done {α : Type} (r : R α) : Prop := r = .bad [] ∨ ∃ x, r = .good x []
/-- At t the reader's answer hangs on what it has read and the next byte alone. -/
def LocAt {α : Type} (p : Rd α) (t : By) : Prop := match p t with
  | .bad r => ∃ u, t = u ++ r ∧ (∀ c0 r0, r = c0 :: r0 → ∀ m, p (u ++ c0 :: m) = .bad (c0 :: m)) ∧ Done (p u)
  | .good x r => ∃ u, t = u ++ r ∧ (∀ c0 r0, r = c0 :: r0 → ∀ m, p (u ++ c0 :: m) = .good x (c0 :: m)) ∧ ∀ n, n ≤ u.length → Done (p (u.take n))
def Loc {α : Type} (p : Rd α) : Prop := ∀ t, LocAt p t
section
variable {α β : Type} {p : Rd α}
theorem LocAt.bad {t r : By} (h : LocAt p t) (e : p t = .bad r) : ∃ u, t = u ++ r ∧ (∀ c0 r0, r = c0 :: r0 → ∀ m, p (u ++ c0 :: m) = .bad (c0 :: m)) ∧ Done (p u) := by unfold LocAt at h; rw [e] at h; exact h
theorem LocAt.good {t r : By} {x : α} (h : LocAt p t) (e : p t = .good x r) : ∃ u, t = u ++ r ∧ (∀ c0 r0, r = c0 :: r0 → ∀ m, p (u ++ c0 :: m) = .good x (c0 :: m)) ∧ ∀ n, n ≤ u.length → Done (p (u.take n)) := by unfold LocAt at h; rw [e] at h; exact h
theorem LocAt.of_bad {t r u : By} (e : p t = .bad r) (h1 : t = u ++ r) (h2 : ∀ c0 r0, r = c0 :: r0 → ∀ m, p (u ++ c0 :: m) = .bad (c0 :: m)) (h3 : Done (p u)) : LocAt p t := by unfold LocAt; rw [e]; exact ⟨u, h1, h2, h3⟩
theorem LocAt.of_good {t r u : By} {x : α} (e : p t = .good x r) (h1 : t = u ++ r) (h2 : ∀ c0 r0, r = c0 :: r0 → ∀ m, p (u ++ c0 :: m) = .good x (c0 :: m)) (h3 : ∀ n, n ≤ u.length → Done (p (u.take n))) : LocAt p t := by unfold LocAt; rw [e]; exact ⟨u, h1, h2, h3⟩
theorem Loc.one (x : α) : Loc (Sc.one x) := fun t => LocAt.of_good (u := []) rfl rfl (fun _ _ _ _ => rfl) (fun n hn => by
  have : n = 0 := by simpa using hn
  subst this
  exact .inr ⟨x, rfl⟩)
end
end Go.Proofs.YtnbfebjcfhbhiaaDoor.Sc
end
section
namespace Go.Proofs.YtnbfebjcfhbhiaaDoor.Sc
set_option linter.unusedVariables false
set_option linter.unusedSimpArgs false
section
variable {α β : Type} {p : Rd α}
theorem LocAt.step {q : Rd α} {c : UInt8} {l : By} (h : ∀ m, p (c :: m) = q m) (h0 : Done (p [])) (hq : LocAt q l) : LocAt p (c :: l) := by
  cases e : q l with
  | bad r =>
    obtain ⟨u, h1, h2, h3⟩ := hq.bad e
    exact LocAt.of_bad (u := c :: u) ((h l).trans e) (by rw [h1]; rfl) (fun c0 r0 hr m => (h _).trans (h2 c0 r0 hr m)) (by rw [h]; exact h3)
  | good y r =>
    obtain ⟨u, h1, h2, h3⟩ := hq.good e
    refine LocAt.of_good (u := c :: u) ((h l).trans e) (by rw [h1]; rfl) (fun c0 r0 hr m => (h _).trans (h2 c0 r0 hr m)) (fun n hn => ?_)
    match n, hn with
    | 0, _ => exact h0
    | n + 1, hn => rw [List.take_succ_cons, h]; exact h3 n (by simpa using hn)
end
def hexG2 (a : Nat) : Rd By
  | [] => .bad []
  | k :: l2 => match hexV k with
    | none => .bad (k :: l2)
    | some b => if plainB (hexB a b) then .bad (k :: l2) else (textGo l2).bnd (fun x r => .good (hexB a b :: x) r)
def hexG1 : Rd By
  | [] => .bad []
  | h :: l1 => match hexV h with
    | none => .bad (h :: l1)
    | some a => hexG2 a l1
theorem textGo_hex {c : UInt8} (h : ¬ plainB c = true) (h2 : c.toNat = 37) (l : By) : textGo (c :: l) = hexG1 l := by
  match l with
  | [] => simp [textGo, h, h2, hexG1]
  | [x] => simp only [textGo, h, h2, hexG1, if_true, Bool.false_eq_true, if_false]; cases hexV x <;> rfl
  | x :: y :: l =>
    simp only [textGo, h, h2, hexG1, if_true, Bool.false_eq_true, if_false]
    cases hexV x with
    | none => rfl
    | some a =>
      simp only [hexG2]
      cases hexV y <;> rfl
theorem common_pre : ∀ (l w : By), common l w = w.length ↔ w <+: l
  | l, [] => by cases l <;> simp [common]
  | [], _ :: _ => by simp [common]
  | x :: a, y :: b => by
    have := common_pre a b
    by_cases h : x = y
    · simp [common, h, List.cons_prefix_cons, this]
    · simp [common, h, List.cons_prefix_cons, Ne.symm h]
theorem common_pref {u w : By} (m : By) (h : w <+: u) : common (u ++ m) w = w.length := (common_pre _ _).2 (h.trans (List.prefix_append u m))
def maxC : List By → Nat → By → Nat
  | [], b, _ => b
  | w :: ws, b, l => maxC ws (max b (common l w)) l
theorem oneFrom_bad (l : By) : ∀ (ws : List By) (i b : Nat), (∀ w ∈ ws, common l w ≠ w.length) → oneFrom ws i b l = .bad (l.drop (maxC ws b l))
  | [], i, b, h => rfl
  | w :: ws, i, b, h => by
    simp only [oneFrom, if_neg (h w (.head _))]
    exact oneFrom_bad l ws _ _ (fun v hv => h v (.tail _ hv))
theorem oneFrom_good (l w : By) (hw : common l w = w.length) (ws2 : List By) : ∀ (ws1 : List By) (i b : Nat), (∀ v ∈ ws1, common l v ≠ v.length) → oneFrom (ws1 ++ w :: ws2) i b l = .good (i + ws1.length) (l.drop w.length)
  | [], i, b, h => by simp [oneFrom, hw]
  | v :: ws, i, b, h => by
    simp only [List.cons_append, oneFrom, if_neg (h v (.head _))]
    rw [oneFrom_good l w hw ws2 ws _ _ (fun v hv => h v (.tail _ hv))]
    simp; omega
theorem first_of (l : By) : ∀ (ws : List By), (∀ w ∈ ws, common l w ≠ w.length) ∨ ∃ ws1 w ws2, ws = ws1 ++ w :: ws2 ∧ common l w = w.length ∧ ∀ v ∈ ws1, common l v ≠ v.length
  | [] => .inl (fun _ h => by cases h)
  | w :: ws => by
    by_cases h : common l w = w.length
    · exact .inr ⟨[], w, ws, rfl, h, fun _ h => by cases h⟩
    · rcases first_of l ws with h2 | ⟨ws1, v, ws2, rfl, h3, h4⟩
      · exact .inl (fun v hv => by (rcases List.mem_cons.1 hv with rfl | hv); exact h; exact h2 v hv)
      · exact .inr ⟨w :: ws1, v, ws2, rfl, h3, fun x hx => by (rcases List.mem_cons.1 hx with rfl | hx); exact h; exact h4 x hx⟩
def PF (ws : List By) : Prop := ∀ w ∈ ws, ∀ v ∈ ws, w <+: v → w = v
theorem pf_one (w : By) : PF [w] := fun a ha b hb _ => by simp at ha hb; rw [ha, hb]
end Go.Proofs.YtnbfebjcfhbhiaaDoor.Sc
end
section
namespace Go.Proofs.YtnbfebjcfhbhiaaDoor.Sc
set_option linter.unusedVariables false
set_option linter.unusedSimpArgs false
/-- What may stand behind a word. -/
def Bd (r : By) : Prop := r = [] ∨ ∃ m, r = 32 :: m
theorem Bd.cons (m : By) : Bd (32 :: m) := .inr ⟨m, rfl⟩
structure Cod {α : Type} (p : Rd α) (e : α → By) (v : α → Prop) : Prop where
  sound : ∀ l x r, p l = .good x r → l = e x ++ r ∧ v x
  full : ∀ x r, v x → Bd r → p (e x ++ r) = .good x r
theorem bnd_good_iff {α β : Type} {r : R α} {f : α → By → R β} {y : β} {s : By} : r.bnd f = .good y s ↔ ∃ x l, r = .good x l ∧ f x l = .good y s := by
  cases r with
  | good x l => exact ⟨fun h => ⟨x, l, rfl, h⟩, fun ⟨x', l', h, h2⟩ => by injection h with h1 h3; subst h1 h3; exact h2⟩
  | bad l => exact ⟨fun h => by simp [R.bnd_bad] at h, fun ⟨x', l', h, h2⟩ => by cases h⟩
theorem byte_good {c : UInt8} {l r : By} {u : Unit} : byteP c l = .good u r ↔ l = c :: r := by
  cases l with
  | nil => simp [byteP]
  | cons x l =>
    by_cases h : x = c
    · simp [byteP, h]
    · simp [byteP, h]
theorem dec_snoc {m d : Nat} (hm : 1 ≤ m) (hd : d < 10) : Lib.decDigits (10 * m + d) = Lib.decDigits m ++ [UInt8.ofNat (48 + d)] := by
  rw [Lib.decDigits, dif_neg (by omega), show (10 * m + d) / 10 = m by omega, show (10 * m + d) % 10 = d by omega]
theorem dig_back {c : UInt8} (h : isDig c = true) : UInt8.ofNat (48 + (c.toNat - 48)) = c ∧ c.toNat - 48 < 10 := by
  simp [isDig] at h
  refine ⟨?_, by omega⟩
  rw [show 48 + (c.toNat - 48) = c.toNat by omega]
  exact UInt8.ofNat_toNat
theorem dig_of {d : Nat} (h : d < 10) : (UInt8.ofNat (48 + d)).toNat = 48 + d ∧ isDig (UInt8.ofNat (48 + d)) = true := by
  have : (UInt8.ofNat (48 + d)).toNat = 48 + d := by simp; omega
  refine ⟨this, ?_⟩
  simp [isDig, this]; omega
theorem numGo_sound {L k : Nat} {r : By} : ∀ (l : By) (m : Nat), 1 ≤ m → m ≤ L → numGo L m l = .good k r → Lib.decDigits m ++ l = Lib.decDigits k ++ r ∧ k ≤ L ∧ 1 ≤ k
  | [], m, h1, h2, h => by
    simp [numGo] at h
    obtain ⟨rfl, rfl⟩ := h
    exact ⟨rfl, h2, h1⟩
  | c :: l, m, h1, h2, h => by
    by_cases hd : isDig c = true
    · by_cases hb : L < 10 * m + (c.toNat - 48)
      · simp [numGo, hd, hb] at h
      · have e : numGo L (10 * m + (c.toNat - 48)) l = .good k r := by simpa [numGo, hd, hb] using h
        obtain ⟨e1, e2⟩ := dig_back hd
        obtain ⟨g1, g2⟩ := numGo_sound l _ (by omega) (by omega) e
        refine ⟨?_, g2⟩
        rw [← g1, dec_snoc h1 e2, e1]
        simp
    · simp [numGo, hd] at h
      obtain ⟨rfl, rfl⟩ := h
      exact ⟨rfl, h2, h1⟩
theorem numGo_end {L k : Nat} {r : By} (hr : ∀ c, r.head? = some c → isDig c = false) : numGo L k r = .good k r := by
  cases r with
  | nil => rfl
  | cons c r => simp [numGo, hr c rfl]
theorem natP_go (L : Nat) (neg : Bool) (k : Nat) : ∀ (r : By), 1 ≤ k → k ≤ L → natP L neg (Lib.decDigits k ++ r) = numGo L k r := by
  induction k using Nat.strongRecOn with
  | ind k ih =>
    intro r h1 h2
    by_cases hk : k < 10
    · rw [Lib.decDigits_one hk]
      obtain ⟨e1, e2⟩ := dig_of hk
      show natP L neg (UInt8.ofNat (48 + k) :: r) = _
      simp only [natP, e2, e1, if_true]
      rw [if_neg (by omega), show 48 + k - 48 = k by omega]
    · have hd : k % 10 < 10 := Nat.mod_lt _ (by decide)
      obtain ⟨e1, e2⟩ := dig_of hd
      have e : Lib.decDigits k = Lib.decDigits (k / 10) ++ [UInt8.ofNat (48 + k % 10)] := by
        have := dec_snoc (m := k / 10) (d := k % 10) (by omega) hd
        rw [← this]; congr 1; omega
      rw [e, List.append_assoc, ih (k / 10) (by omega) _ (by omega) (by omega)]
      show numGo L (k / 10) (UInt8.ofNat (48 + k % 10) :: r) = _
      simp only [numGo, e2, e1, if_true]
      have e3 : 10 * (k / 10) + (48 + k % 10 - 48) = k := by omega
      rw [e3, if_neg (by omega)]
theorem natP_sound {L m : Nat} {neg : Bool} {l r : By} (h9 : 9 ≤ L) (h : natP L neg l = .good m r) : l = Lib.decDigits m ++ r ∧ m ≤ L ∧ (neg = true → m ≠ 0) := by
  cases l with
  | nil => simp [natP] at h
  | cons c l =>
    by_cases hd : isDig c = true
    · obtain ⟨e1, e2⟩ := dig_back hd
      by_cases h0 : c.toNat = 48
      · cases neg with
        | true => simp [natP, hd, h0] at h
        | false =>
          simp [natP, hd, h0] at h
          obtain ⟨rfl, rfl⟩ := h
          refine ⟨?_, Nat.zero_le _, fun h => by cases h⟩
          rw [Lib.decDigits_one (by decide)]
          have : c = 48 := UInt8.toNat_inj.1 h0
          rw [this]; rfl
      · have hd2 := hd
        simp [isDig] at hd2
        have hL : c.toNat - 48 ≤ L := by omega
        · have e : numGo L (c.toNat - 48) l = .good m r := by simpa [natP, hd, h0] using h
          obtain ⟨g1, g2, g3⟩ := numGo_sound l _ (by omega) hL e
          refine ⟨?_, g2, fun _ => by omega⟩
          rw [← g1, Lib.decDigits_one e2, e1]; rfl
    · simp [natP, hd] at h
theorem bd_nodig {r : By} (h : Bd r) : ∀ c, r.head? = some c → isDig c = false := by
  rcases h with rfl | ⟨m, rfl⟩
  · intro c h; cases h
  · intro c h; cases h; rfl
theorem natP_full {L m : Nat} {neg : Bool} {r : By} (hm : m ≤ L) (hn : neg = true → m ≠ 0) (hr : Bd r) : natP L neg (Lib.decDigits m ++ r) = .good m r := by
  by_cases h0 : m = 0
  · subst h0
    cases neg with
    | true => exact absurd rfl (hn rfl)
    | false => rw [Lib.decDigits_one (by decide)]; rfl
  · rw [natP_go L neg m r (by omega) hm, numGo_end (bd_nodig hr)]
theorem dec_head (m : Nat) (r : By) : (Lib.decDigits m ++ r).head? ≠ some 45 ∧ (Lib.decDigits m) ≠ [] := by
  have key : ∀ m, ∃ d, d < 10 ∧ ∃ t, Lib.decDigits m = UInt8.ofNat (48 + d) :: t := by
    intro m
    induction m using Nat.strongRecOn with
    | ind k ih =>
      by_cases hk : k < 10
      · exact ⟨k, hk, [], Lib.decDigits_one hk⟩
      · obtain ⟨d, hd, t, ht⟩ := ih (k / 10) (by omega)
        have := dec_snoc (m := k / 10) (d := k % 10) (by omega) (Nat.mod_lt _ (by decide))
        rw [show 10 * (k / 10) + k % 10 = k by omega, ht] at this
        exact ⟨d, hd, _, this⟩
  obtain ⟨d, hd, t, ht⟩ := key m
  refine ⟨fun h => ?_, by rw [ht]; simp⟩
  rw [ht] at h
  simp only [List.cons_append, List.head?_cons, Option.some.injEq] at h
  have := (dig_of hd).1
  rw [h] at this
  have h45 : (45 : UInt8).toNat = 45 := rfl
  omega
theorem num_cod : Cod numP numW inI where
  sound l x r h := by
    unfold numP at h
    by_cases h45 : l.head? = some 45
    · rw [if_pos h45] at h
      obtain ⟨m, l', h1, h2⟩ := bnd_good_iff.1 h
      injection h2 with h3 h4
      subst h3 h4
      obtain ⟨g1, g2, g3⟩ := natP_sound (by decide) h1
      have g4 := g3 rfl
      cases l with
      | nil => cases h45
      | cons c l =>
        cases h45
        simp only [List.tail_cons] at g1
        refine ⟨?_, ?_⟩
        · rw [g1]
          unfold numW
          rw [Lib.itoa_neg m (by omega)]; rfl
        · unfold maxI at g2; constructor <;> omega
    · rw [if_neg h45] at h
      obtain ⟨m, l', h1, h2⟩ := bnd_good_iff.1 h
      injection h2 with h3 h4
      subst h3 h4
      obtain ⟨g1, g2, g3⟩ := natP_sound (by decide) h1
      refine ⟨?_, ?_⟩
      · rw [g1]
        unfold numW
        rw [Lib.itoa_nonneg]
      · unfold maxI at g2; constructor <;> omega
  full x r hv hr := by
    unfold inI at hv
    unfold numP numW
    by_cases hx : x < 0
    · obtain ⟨m, rfl⟩ : ∃ m : Nat, x = -(m : Int) := ⟨x.natAbs, by omega⟩
      rw [Lib.itoa_neg m (by omega)]
      rw [if_pos (by rfl)]
      show (natP (maxI + 1) true (Lib.decDigits m ++ r)).bnd _ = _
      rw [natP_full (by unfold maxI; omega) (fun _ => by omega) hr]; rfl
    · obtain ⟨m, rfl⟩ : ∃ m : Nat, x = (m : Int) := ⟨x.toNat, by omega⟩
      rw [Lib.itoa_nonneg, if_neg (dec_head m r).1, natP_full (by unfold maxI; omega) (fun h => by cases h) hr]; rfl
theorem hex_back : ∀ n : Fin 256, ∀ a, hexV (UInt8.ofNat n.val) = some a → hexD a = UInt8.ofNat n.val ∧ a < 16 := by
  intro n a h
  have key : ∀ n : Fin 256, ((hexV (UInt8.ofNat n.val)).all fun a => decide (hexD a = UInt8.ofNat n.val) && decide (a < 16)) = true := by decide +kernel
  have := key n
  rw [h] at this
  simpa using this
theorem hexV_back {h : UInt8} {a : Nat} (e : hexV h = some a) : hexD a = h ∧ a < 16 := by
  have := hex_back ⟨h.toNat, h.toNat_lt⟩ a (by simp only [UInt8.ofNat_toNat]; exact e)
  simpa only [UInt8.ofNat_toNat] using this
theorem hexV_D : ∀ n : Fin 16, hexV (hexD n.val) = some n.val := by decide +kernel
theorem hexB_nat {a b : Nat} (ha : a < 16) (hb : b < 16) : (hexB a b).toNat = 16 * a + b := by unfold hexB; simp; omega
theorem sign_hex {a b : Nat} (ha : a < 16) (hb : b < 16) (hp : ¬ plainB (hexB a b) = true) : signB (hexB a b) = [37, hexD a, hexD b] := by
  unfold signB
  rw [if_neg hp, hexB_nat ha hb, show (16 * a + b) / 16 = a by omega, show (16 * a + b) % 16 = b by omega]
theorem textGo_sound : ∀ (n : Nat) (l x r : By), l.length ≤ n → textGo l = .good x r → l = x.flatMap signB ++ r
  | _, [], x, r, _, h => by
    simp [textGo] at h
    obtain ⟨rfl, rfl⟩ := h
    rfl
  | 0, c :: l, x, r, hn, h => by simp at hn
  | n + 1, c :: l, x, r, hn, h => by
    by_cases hp : plainB c = true
    · rw [textGo_plain hp] at h
      obtain ⟨y, l', h1, h2⟩ := bnd_good_iff.1 h
      injection h2 with h3 h4
      subst h3 h4
      have := textGo_sound n l y l' (by simpa using hn) h1
      rw [this]
      simp [signB, hp]
    · by_cases h37 : c.toNat = 37
      · rw [textGo_hex hp h37] at h
        have hc : c = 37 := UInt8.toNat_inj.1 h37
        subst hc
        cases l with
        | nil => simp [hexG1] at h
        | cons d l =>
          cases e1 : hexV d with
          | none => simp [hexG1, e1] at h
          | some a =>
            simp only [hexG1, e1] at h
            cases l with
            | nil => simp [hexG2] at h
            | cons k l =>
              cases e2 : hexV k with
              | none => simp [hexG2, e2] at h
              | some b =>
                simp only [hexG2, e2] at h
                by_cases hb : plainB (hexB a b) = true
                · rw [if_pos hb] at h; cases h
                · rw [if_neg hb] at h
                  obtain ⟨y, l', h1, h2⟩ := bnd_good_iff.1 h
                  injection h2 with h3 h4
                  subst h3 h4
                  have := textGo_sound n l y l' (by simp at hn; omega) h1
                  obtain ⟨f1, f2⟩ := hexV_back e1
                  obtain ⟨f3, f4⟩ := hexV_back e2
                  rw [this, List.flatMap_cons, sign_hex f2 f4 hb, f1, f3]
                  rfl
      · rw [textGo_stop hp h37] at h
        injection h with h3 h4
        subst h3 h4
        rfl
theorem textGo_full {r : By} (hr : Bd r) : ∀ x : By, textGo (x.flatMap signB ++ r) = .good x r
  | [] => by
    rcases hr with rfl | ⟨m, rfl⟩
    · rfl
    · exact textGo_stop (c := 32) (by decide) (by decide) m
  | c :: x => by
    rw [List.flatMap_cons, List.append_assoc]
    by_cases hp : plainB c = true
    · rw [show signB c = [c] by simp [signB, hp]]
      show textGo (c :: (x.flatMap signB ++ r)) = _
      rw [textGo_plain hp, textGo_full hr x]; rfl
    · rw [show signB c = [37, hexD (c.toNat / 16), hexD (c.toNat % 16)] by simp [signB, hp]]
      show textGo (37 :: hexD (c.toNat / 16) :: hexD (c.toNat % 16) :: (x.flatMap signB ++ r)) = _
      have h1 : c.toNat / 16 < 16 := by have := c.toNat_lt; omega
      have h2 : c.toNat % 16 < 16 := Nat.mod_lt _ (by decide)
      have e : hexB (c.toNat / 16) (c.toNat % 16) = c := UInt8.toNat_inj.1 (by rw [hexB_nat h1 h2]; omega)
      rw [textGo_hex (by decide) (by decide)]
      simp only [hexG1, hexV_D ⟨_, h1⟩, hexG2, hexV_D ⟨_, h2⟩, e]
      rw [if_neg hp, textGo_full hr x]; rfl
theorem text_cod : Cod textP textW (fun _ => True) where
  sound l x r h := by
    refine ⟨?_, trivial⟩
    unfold textP at h
    by_cases h45 : l.head? = some 45
    · rw [if_pos h45] at h
      injection h with h1 h2
      subst h1 h2
      cases l with
      | nil => cases h45
      | cons c l => cases h45; rfl
    · rw [if_neg h45] at h
      obtain ⟨y, l', h1, h2⟩ := bnd_good_iff.1 h
      by_cases hy : y = []
      · rw [if_pos hy] at h2; cases h2
      · rw [if_neg hy] at h2
        injection h2 with h3 h4
        subst h3 h4
        rw [textGo_sound l.length l y l' (Nat.le_refl _) h1]
        simp [textW, hy]
  full x r _ hr := by
    unfold textP
    by_cases hx : x = []
    · subst hx; rfl
    · have e : textW x = x.flatMap signB := by simp [textW, hx]
      rw [e, if_neg, textGo_full hr x]
      · show (if x = [] then R.bad r else R.good x r) = _
        rw [if_neg hx]
      · cases x with
        | nil => exact absurd rfl hx
        | cons c x =>
          rw [List.flatMap_cons]
          unfold signB
          by_cases hp : plainB c = true
          · rw [if_pos hp]
            intro h
            simp at h
            subst h
            exact absurd hp (by decide)
          · rw [if_neg hp]
            intro h
            simp at h
end Go.Proofs.YtnbfebjcfhbhiaaDoor.Sc
end
section
namespace Go.Proofs.YtnbfebjcfhbhiaaDoor.Sc
open Go.Proofs.YtnbfebjcfhbhiaaDoor.Bw Go.Proofs.YtnbfebjcfhbhiaaDoor.Lw
set_option linter.unusedVariables false
set_option linter.unusedSimpArgs false
def beh (ws : List By) : By := ws.flatMap (32 :: ·)
theorem beh_cons (w : By) (ws : List By) : beh (w :: ws) = 32 :: (w ++ beh ws) := rfl
theorem beh_append (a b : List By) : beh (a ++ b) = beh a ++ beh b := by simp [beh]
section
variable {x y z : St} {p q : Part}
theorem zero_comm : (x.zero p).zero q = (x.zero q).zero p := by cases p <;> cases q <;> rfl
theorem partW_zero (h : p ≠ q) : partW (y.zero p) q = partW y q := by cases p <;> cases q <;> first | rfl | exact absurd rfl h
theorem get_zero (h : p ≠ q) : (y.zero p).get q = y.get q := by cases p <;> cases q <;> first | rfl | exact absurd rfl h
end
def zeroAll (ps : List Part) (x : St) : St := ps.foldl St.zero x
theorem zeroAll_zero (ps : List Part) (x : St) (p : Part) : zeroAll ps (x.zero p) = (zeroAll ps x).zero p := by
  induction ps generalizing x with
  | nil => rfl
  | cons q ps ih => show zeroAll ps ((x.zero p).zero q) = (zeroAll ps (x.zero q)).zero p; rw [zero_comm, ih]
theorem partW_all {ps : List Part} {p : Part} (hp : p ∉ ps) (x : St) : partW (zeroAll ps x) p = partW x p := by
  induction ps generalizing x with
  | nil => rfl
  | cons q ps ih =>
    show partW (zeroAll ps (x.zero q)) p = _
    rw [ih (fun h => hp (.tail _ h)), partW_zero (fun h => hp (by subst h; exact List.mem_cons_self))]
theorem get_all {ps : List Part} {p : Part} (hp : p ∉ ps) (x : St) : (zeroAll ps x).get p = x.get p := by
  induction ps generalizing x with
  | nil => rfl
  | cons q ps ih =>
    show (zeroAll ps (x.zero q)).get p = _
    rw [ih (fun h => hp (.tail _ h)), get_zero (fun h => hp (by subst h; exact List.mem_cons_self))]
theorem word_sound {p : Part} (hp : p ≠ .o) {x y : St} {l r : By} (h : wordP p x l = .good y r) : l = partW y p ++ r ∧ y.zero p = x.zero p ∧ inI (y.get p) := by
  cases p with
  | o => exact absurd rfl hp
  | d =>
    obtain ⟨v, l', h1, h2⟩ := bnd_good_iff.1 h
    injection h2 with h3 h4
    subst h3 h4
    exact ⟨(text_cod.sound _ _ _ h1).1, rfl, inI0⟩
  | k =>
    obtain ⟨v, l', h1, h2⟩ := bnd_good_iff.1 h
    injection h2 with h3 h4
    subst h3 h4
    exact ⟨(text_cod.sound _ _ _ h1).1, rfl, inI0⟩
  | _ =>
    obtain ⟨v, l', h1, h2⟩ := bnd_good_iff.1 h
    injection h2 with h3 h4
    subst h3 h4
    obtain ⟨g1, g2⟩ := num_cod.sound _ _ _ h1
    exact ⟨g1, rfl, g2⟩
theorem op_sound : ∀ (ps : List Part) (x y : St) (l r : By), ps.Nodup → .o ∉ ps → opGo ps x l = .good y r → l = beh (ps.map (partW y)) ++ r ∧ zeroAll ps y = zeroAll ps x ∧ ∀ p ∈ ps, inI (y.get p)
  | [], x, y, l, r, hn, ho, h => by
    injection h with h1 h2
    subst h1 h2
    exact ⟨rfl, rfl, fun _ h => by cases h⟩
  | p :: ps, x, y, l, r, hn, ho, h => by
    have hpo : p ≠ .o := fun h => ho (h ▸ .head _)
    obtain ⟨hp, hn2⟩ := List.nodup_cons.1 hn
    rw [opGo] at h
    obtain ⟨_, l1, h1, h⟩ := bnd_good_iff.1 h
    obtain ⟨x1, l2, h2, h3⟩ := bnd_good_iff.1 h
    obtain ⟨e1, e2, e3⟩ := word_sound hpo h2
    obtain ⟨g1, g2, g3⟩ := op_sound ps x1 y l2 r hn2 (fun h => ho (.tail _ h)) h3
    have e4 : partW y p = partW x1 p := by rw [← partW_all hp y, g2, partW_all hp]
    have e5 : y.get p = x1.get p := by rw [← get_all hp y, g2, get_all hp]
    refine ⟨?_, ?_, fun q hq => ?_⟩
    · rw [byte_good.1 h1, e1, g1, List.map_cons, beh_cons, e4]
      simp
    · show zeroAll ps (y.zero p) = zeroAll ps (x.zero p)
      rw [← e2, zeroAll_zero, zeroAll_zero, g2]
    · rcases List.mem_cons.1 hq with rfl | hq
      · rw [e5]; exact e3
      · exact g3 q hq
theorem partGo_op : ∀ (ps : List Part) (x : St) (l : By), .o ∉ ps → partGo ps x l = opGo ps x l
  | [], x, l, _ => rfl
  | p :: ps, x, l, h => by
    have ih := fun x l => partGo_op ps x l (fun h2 => h (.tail _ h2))
    cases p with
    | o => exact absurd (.head _) h
    | _ =>
      rw [partGo]
      · rw [opGo]; simp only [ih]
      · intro h; cases h
theorem one_sound {ws : List By} {l r : By} {i : Nat} (h : oneP ws l = .good i r) : i < ws.length ∧ l = ws.getD i [] ++ r := by
  rcases first_of l ws with hb | ⟨ws1, w, ws2, rfl, hw, hb⟩
  · have := oneFrom_bad l ws 0 0 hb
    unfold oneP at h
    rw [this] at h; cases h
  · have := oneFrom_good l w hw ws2 ws1 0 0 hb
    unfold oneP at h
    rw [this] at h
    injection h with h1 h2
    subst h1 h2
    obtain ⟨m, rfl⟩ := (common_pre l w).1 hw
    simp
theorem one_full {ws : List By} (hf : PF ws) (hn : ws.Nodup) {i : Nat} (hi : i < ws.length) (r : By) : oneP ws (ws.getD i [] ++ r) = .good i r := by
  have hg : ws.getD i [] = ws[i] := by rw [List.getD_eq_getElem?_getD, List.getElem?_eq_getElem hi]; rfl
  rw [hg]
  rcases first_of (ws[i] ++ r) ws with hb | ⟨ws1, w, ws2, he, hw, hb⟩
  · exact absurd (common_pref r (List.prefix_refl _)) (hb _ (List.getElem_mem hi))
  · have hwm : w ∈ ws := by rw [he]; simp
    have h1 := (common_pre _ _).1 hw
    have h2 : ws[i] <+: ws[i] ++ r := List.prefix_append _ _
    have : w = ws[i] := by
      rcases Nat.le_total w.length ws[i].length with hl | hl
      · exact hf w hwm _ (List.getElem_mem hi) (List.prefix_of_prefix_length_le h1 h2 hl)
      · exact (hf _ (List.getElem_mem hi) w hwm (List.prefix_of_prefix_length_le h2 h1 hl)).symm
    subst this
    have hlen : ws1.length < ws.length := by
      have := congrArg List.length he
      simp at this; omega
    have hj : ws[ws1.length]'hlen = ws[i] := by
      have : ws[ws1.length]? = some ws[i] := by
        conv => lhs; rw [he]
        simp
      rw [List.getElem?_eq_getElem hlen] at this
      exact Option.some.inj this
    have hij : ws1.length = i := (List.getElem_inj (h₀ := hlen) (h₁ := hi) hn).1 hj
    have := oneFrom_good (ws[i] ++ r) ws[i] hw ws2 ws1 0 0 hb
    unfold oneP
    rw [← he, List.drop_left, Nat.zero_add, hij] at this
    exact this
end Go.Proofs.YtnbfebjcfhbhiaaDoor.Sc
end
section
namespace Go.Proofs.YtnbfebjcfhbhiaaDoor.Sc
open Go.Proofs.YtnbfebjcfhbhiaaDoor.Bw Go.Proofs.YtnbfebjcfhbhiaaDoor.Lw
set_option linter.unusedVariables false
set_option linter.unusedSimpArgs false
theorem kind_all (ps : List Part) (x : St) : (zeroAll ps x).kind = x.kind := by
  induction ps generalizing x with
  | nil => rfl
  | cons q ps ih => show (zeroAll ps (x.zero q)).kind = _; rw [ih]; cases q <;> rfl
theorem ok_all (ps : List Part) (x : St) : (zeroAll ps x).ok = x.ok := by
  induction ps generalizing x with
  | nil => rfl
  | cons q ps ih => show (zeroAll ps (x.zero q)).ok = _; rw [ih]; cases q <;> rfl
theorem tellG_plain (rec : St → Bool × List By × St) : ∀ (ps : List Part) (y : St), ps.Nodup → .o ∉ ps → tellG rec ps y = (true, ps.map (partW y), zeroAll ps y)
  | [], y, _, _ => rfl
  | p :: ps, y, hn, ho => by
    obtain ⟨hp, hn2⟩ := List.nodup_cons.1 hn
    rw [tellG_cons rec p (fun h => ho (by subst h; exact List.mem_cons_self)), tellG_plain rec ps (y.zero p) hn2 (fun h => ho (.tail _ h))]
    have : ps.map (partW (y.zero p)) = ps.map (partW y) := List.map_congr_left (fun q hq => partW_zero (fun h => hp (by subst h; exact hq)))
    rw [this]; rfl
theorem tellS_at (rec : St → Bool × List By × St) (x : St) : ∀ f : Fin 15, tellF rec stepFs ((f.val : Int) + 1) x = ((tellG rec (stepParts f.val) x).1, stepWs.getD f.val [] :: (tellG rec (stepParts f.val) x).2.1, (tellG rec (stepParts f.val) x).2.2)
  | ⟨0, _⟩ => rfl | ⟨1, _⟩ => rfl | ⟨2, _⟩ => rfl | ⟨3, _⟩ => rfl | ⟨4, _⟩ => rfl | ⟨5, _⟩ => rfl | ⟨6, _⟩ => rfl | ⟨7, _⟩ => rfl | ⟨8, _⟩ => rfl | ⟨9, _⟩ => rfl | ⟨10, _⟩ => rfl | ⟨11, _⟩ => rfl | ⟨12, _⟩ => rfl | ⟨13, _⟩ => rfl | ⟨14, _⟩ => rfl
theorem tellO_at (rec : St → Bool × List By × St) (x : St) : ∀ f : Fin 11, tellF rec opFs ((f.val : Int) + 1) x = ((tellG rec (opParts f.val) x).1, opWs.getD f.val [] :: (tellG rec (opParts f.val) x).2.1, (tellG rec (opParts f.val) x).2.2)
  | ⟨0, _⟩ => rfl | ⟨1, _⟩ => rfl | ⟨2, _⟩ => rfl | ⟨3, _⟩ => rfl | ⟨4, _⟩ => rfl | ⟨5, _⟩ => rfl | ⟨6, _⟩ => rfl | ⟨7, _⟩ => rfl | ⟨8, _⟩ => rfl | ⟨9, _⟩ => rfl | ⟨10, _⟩ => rfl
theorem tellF_some (rec : St → Bool × List By × St) (k : Int) (x : St) : ∀ fs, (tellF rec fs k x).1 = true → ∃ f ∈ fs, f.f2 = k
  | [], h => by cases h
  | f :: fs, h => by
    by_cases hk : f.f2 = k
    · exact ⟨f, .head _, hk⟩
    · rw [tellF, if_neg hk] at h
      obtain ⟨g, hg, e⟩ := tellF_some rec k x fs h
      exact ⟨g, .tail _ hg, e⟩
theorem stepFs_f2 : ∀ f ∈ stepFs, 1 ≤ f.f2 ∧ f.f2 ≤ 15 := by decide
theorem opParts_fine : ∀ f : Fin 11, (opParts f.val).Nodup ∧ .o ∉ opParts f.val ∧ .r ∉ opParts f.val ∧ .s ∉ opParts f.val ∧ .n ∉ opParts f.val := by decide
theorem stepParts_fine : ∀ f : Fin 15, f.val ≠ 0 → (stepParts f.val).Nodup ∧ .o ∉ stepParts f.val := by decide
def rsn : List Part := [.r, .s, .n]
theorem rsn_fine : rsn.Nodup ∧ .o ∉ rsn := by decide
/-- A call: the parts ahead of the op, then the op. -/
theorem call_go (x : St) (l : By) : partGo (stepParts 0) x l = (opGo rsn x l).bnd fun x l => (byteP 32 l).bnd fun _ l => (oneP opWs l).bnd fun g l => opGo (opParts g) { x with ok := (g : Int) + 1 } l := by
  show partGo [.r, .s, .n, .o] x l = _
  have hb : ∀ {α β γ : Type} (r : R α) (f : α → By → R β) (g : β → By → R γ), (r.bnd f).bnd g = r.bnd fun x l => (f x l).bnd g := fun r f g => by cases r <;> rfl
  have h1 : ∀ {β : Type} (r : R β), (r.bnd fun x l => R.good x l) = r := fun r => by cases r <;> rfl
  simp only [rsn, partGo, opGo, hb, h1, R.bnd_good]
theorem tell_call (y : St) (g : Nat) (hg : g < 11) (hk : y.ok = (g : Int) + 1) :
    tellStep 1 y = (true, stepWs.getD 0 [] :: (rsn.map (partW y) ++ (opWs.getD g [] :: (opParts g).map (partW y))), { zeroAll (opParts g) (zeroAll rsn y) with ok := 0 }) := by
  obtain ⟨f1, f2, f3, f4, f5⟩ := opParts_fine ⟨g, hg⟩
  have e := tellS_at tellOps y ⟨0, by decide⟩
  have e2 : tellOps (zeroAll rsn y) = (true, opWs.getD g [] :: (opParts g).map (partW y), zeroAll (opParts g) (zeroAll rsn y)) := by
    unfold tellOps
    rw [ok_all, hk]
    have := tellO_at tell0 (zeroAll rsn y) ⟨g, hg⟩
    simp only at this
    rw [this, tellG_plain _ _ _ f1 f2]
    have : (opParts g).map (partW (zeroAll rsn y)) = (opParts g).map (partW y) := List.map_congr_left (fun q hq => partW_all (fun h => by
      simp only [rsn, List.mem_cons, List.not_mem_nil, or_false] at h
      rcases h with rfl | rfl | rfl
      · exact f3 hq
      · exact f4 hq
      · exact f5 hq) y)
    rw [this]
  show tellF tellOps stepFs 1 y = _
  have e3 : tellG tellOps (stepParts 0) y = (true, rsn.map (partW y) ++ (opWs.getD g [] :: (opParts g).map (partW y)), { zeroAll (opParts g) (zeroAll rsn y) with ok := 0 }) := by
    show tellG tellOps [.r, .s, .n, .o] y = _
    rw [tellG_cons _ _ (by decide), tellG_cons _ _ (by decide), tellG_cons _ _ (by decide)]
    have : ((y.zero .r).zero .s).zero .n = zeroAll rsn y := rfl
    rw [this]
    simp only [tellG, e2, if_true, List.append_nil]
    rfl
  refine Eq.trans e ?_
  simp only [e3]
theorem tell_other (y : St) (f : Nat) (hf : f < 15) (h0 : f ≠ 0) : tellStep ((f : Int) + 1) y = (true, stepWs.getD f [] :: (stepParts f).map (partW y), zeroAll (stepParts f) y) := by
  obtain ⟨h1, h2⟩ := stepParts_fine ⟨f, hf⟩ h0
  have e := tellS_at tellOps y ⟨f, hf⟩
  simp only at e
  refine Eq.trans e ?_
  rw [tellG_plain _ _ _ h1 h2]
end Go.Proofs.YtnbfebjcfhbhiaaDoor.Sc
end
section
namespace Go.Proofs.YtnbfebjcfhbhiaaDoor.Sc
open Go.Proofs.YtnbfebjcfhbhiaaDoor.Bw Go.Proofs.YtnbfebjcfhbhiaaDoor.Lw
set_option linter.unusedVariables false
set_option linter.unusedSimpArgs false
def joinW : List By → By
  | [] => []
  | w :: ws => w ++ beh ws
def wordsS (x : St) : List By := (tellStep x.kind x).2.1
theorem zeroAll_st0 (ps : List Part) (k : Int) : zeroAll ps (st0 k) = st0 k := by
  induction ps with
  | nil => rfl
  | cons q ps ih => show zeroAll ps ((st0 k).zero q) = _; rw [show (st0 k).zero q = st0 k by cases q <;> rfl, ih]
def St.okTo (x : St) (v : Int) : St := { x with ok := v }
theorem zeroAll_ok (ps : List Part) (x : St) (v : Int) : zeroAll ps (x.okTo v) = (zeroAll ps x).okTo v := by
  induction ps generalizing x with
  | nil => rfl
  | cons q ps ih => show zeroAll ps ((x.okTo v).zero q) = (zeroAll ps (x.zero q)).okTo v; rw [← ih]; cases q <;> rfl
theorem zeroAll_comm (ps qs : List Part) (x : St) : zeroAll ps (zeroAll qs x) = zeroAll qs (zeroAll ps x) := by
  induction qs generalizing x with
  | nil => rfl
  | cons q qs ih => show zeroAll ps (zeroAll qs (x.zero q)) = zeroAll qs ((zeroAll ps x).zero q); rw [ih, zeroAll_zero]
theorem textW_len (b : By) : b.length ≤ (textW b).length := by
  unfold textW
  by_cases h : b = []
  · simp [h]
  · rw [if_neg h]
    clear h
    induction b with
    | nil => simp
    | cons c b ih =>
      rw [List.flatMap_cons, List.length_append, List.length_cons]
      have : 1 ≤ (signB c).length := by unfold signB; split <;> simp
      omega
theorem beh_mem {w : By} {ws : List By} (h : w ∈ ws) : w.length ≤ (beh ws).length := by
  induction ws with
  | nil => cases h
  | cons v ws ih =>
    rw [beh_cons]
    simp only [List.length_cons, List.length_append]
    rcases List.mem_cons.1 h with rfl | h
    · omega
    · have := ih h; omega
/-- A text part is no longer than the words that tell it. -/
theorem part_len {ps : List Part} {y : St} {k : Int} {p : Part} (hz : zeroAll ps y = st0 k) (hp : p = .d ∨ p = .k) : (partW y p).length ≤ (beh (ps.map (partW y))).length + 1 := by
  by_cases hm : p ∈ ps
  · have := beh_mem (List.mem_map.2 ⟨p, hm, rfl⟩ : partW y p ∈ ps.map (partW y))
    omega
  · rw [← partW_all hm y, hz]
    rcases hp with rfl | rfl
    · show ([45] : By).length ≤ _; simp
    · show ([45] : By).length ≤ _; simp
theorem inI_nat {n : Nat} (h : n ≤ 100) : inI ((n : Int) + 1) := by constructor <;> omega
theorem step_sound {l r : By} {y : St} (h : stepP l = .good y r) : goodL y = true ∧ l = joinW (wordsS y) ++ r ∧ (∀ p, inI (y.get p)) ∧ inI y.kind ∧ inI y.ok ∧ y.name.length ≤ l.length + 1 ∧ y.data.length ≤ l.length + 1 := by
  obtain ⟨f, l1, h1, h2⟩ := bnd_good_iff.1 h
  obtain ⟨hf, rfl⟩ := one_sound h1
  replace hf : f < 15 := hf
  by_cases h0 : f = 0
  · subst h0
    rw [call_go] at h2
    obtain ⟨x1, l2, g1, h2⟩ := bnd_good_iff.1 h2
    obtain ⟨_, l3, g2, h2⟩ := bnd_good_iff.1 h2
    obtain ⟨g, l4, g3, g4⟩ := bnd_good_iff.1 h2
    obtain ⟨hg, rfl⟩ := one_sound g3
    replace hg : g < 11 := hg
    obtain ⟨f1, f2, f3, f4, f5⟩ := opParts_fine ⟨g, hg⟩
    simp only at f1 f2 f3 f4 f5
    obtain ⟨a1, a2, a3⟩ := op_sound rsn _ _ _ _ rsn_fine.1 rsn_fine.2 g1
    obtain ⟨b1, b2, b3⟩ := op_sound _ _ _ _ _ f1 f2 g4
    rw [zeroAll_st0] at a2
    have hok : y.ok = (g : Int) + 1 := by
      have := congrArg St.ok b2
      rwa [ok_all, ok_all] at this
    have hkind : y.kind = 1 := by
      have := congrArg St.kind b2
      rw [kind_all, kind_all] at this
      have h3 := congrArg St.kind a2
      rw [kind_all] at h3
      exact this.trans h3
    have hnr : ∀ p ∈ rsn, p ∉ opParts g := fun p hp => by
      simp only [rsn, List.mem_cons, List.not_mem_nil, or_false] at hp
      rcases hp with rfl | rfl | rfl
      · exact f3
      · exact f4
      · exact f5
    have hsame : ∀ p ∈ rsn, partW y p = partW x1 p ∧ y.get p = x1.get p := fun p hp => by
      have hx : partW ({ x1 with ok := (g : Int) + 1 } : St) p = partW x1 p ∧ ({ x1 with ok := (g : Int) + 1 } : St).get p = x1.get p := by cases p <;> exact ⟨rfl, rfl⟩
      refine ⟨?_, ?_⟩
      · rw [← partW_all (hnr p hp) y, b2, partW_all (hnr p hp), hx.1]
      · rw [← get_all (hnr p hp) y, b2, get_all (hnr p hp), hx.2]
    have hv : zeroAll (opParts g) (zeroAll rsn y) = (st0 1).okTo ((g : Int) + 1) := by
      have b2' : zeroAll (opParts g) y = zeroAll (opParts g) (x1.okTo ((g : Int) + 1)) := b2
      rw [zeroAll_comm, b2', zeroAll_comm, zeroAll_ok, a2, zeroAll_ok]
      congr 1
      exact zeroAll_st0 _ _
    have ht := tell_call y g hg hok
    rw [hv] at ht
    have hw : wordsS y = stepWs.getD 0 [] :: (rsn.map (partW y) ++ (opWs.getD g [] :: (opParts g).map (partW y))) := by
      unfold wordsS; rw [hkind, ht]
    have hm : rsn.map (partW y) = rsn.map (partW x1) := List.map_congr_left (fun p hp => (hsame p hp).1)
    have hl : l1 = beh (rsn.map (partW y) ++ (opWs.getD g [] :: (opParts g).map (partW y))) ++ r := by
      rw [beh_append, beh_cons, a1, byte_good.1 g2, b1, hm]
      simp
    refine ⟨?_, ?_, fun p => ?_, ?_, ?_, ?_⟩
    · unfold goodL; rw [hkind, ht]; rfl
    · rw [hw, hl]; simp [joinW]
    · by_cases hp : p ∈ rsn
      · rw [(hsame p hp).2]; exact a3 p hp
      · by_cases hp2 : p ∈ opParts g
        · exact b3 p hp2
        · have : y.get p = (zeroAll (opParts g) (zeroAll rsn y)).get p := by rw [get_all hp2, get_all hp]
          rw [this, hv]
          cases p <;> exact inI0
    · rw [hkind]; exact ⟨by decide, by decide⟩
    · rw [hok]; exact inI_nat (by omega)
    · have hz : zeroAll (rsn ++ opParts g) (y.okTo 0) = st0 1 := by
        have : zeroAll (rsn ++ opParts g) (y.okTo 0) = zeroAll (opParts g) (zeroAll rsn (y.okTo 0)) := by simp [zeroAll]
        rw [this, zeroAll_ok, zeroAll_ok, hv]; rfl
      have e : (rsn ++ opParts g).map (partW (y.okTo 0)) = rsn.map (partW y) ++ (opParts g).map (partW y) := by
        rw [← List.map_append]
        exact List.map_congr_left (fun p _ => by cases p <;> rfl)
      have q1 := part_len hz (p := .k) (.inr rfl)
      have q2 := part_len hz (p := .d) (.inl rfl)
      rw [e, beh_append] at q1 q2
      have q3 := textW_len y.name
      have q4 := textW_len y.data
      have q5 : l1.length = (beh (rsn.map (partW y))).length + (1 + ((opWs.getD g []).length + (beh ((opParts g).map (partW y))).length)) + r.length := by
        rw [hl, beh_append, beh_cons]; simp; omega
      have q6 : partW (y.okTo 0) .k = textW y.name := rfl
      have q7 : partW (y.okTo 0) .d = textW y.data := rfl
      rw [q6] at q1
      rw [q7] at q2
      simp only [List.length_append] at q1 q2 ⊢
      exact ⟨by omega, by omega⟩
  · obtain ⟨f1, f2⟩ := stepParts_fine ⟨f, hf⟩ h0
    simp only at f1 f2
    rw [partGo_op _ _ _ f2] at h2
    obtain ⟨a1, a2, a3⟩ := op_sound _ _ _ _ _ f1 f2 h2
    rw [zeroAll_st0] at a2
    have hkind : y.kind = (f : Int) + 1 := by
      have := congrArg St.kind a2
      rwa [kind_all] at this
    have hok : y.ok = 0 := by
      have := congrArg St.ok a2
      rwa [ok_all] at this
    have ht := tell_other y f hf h0
    rw [a2] at ht
    refine ⟨?_, ?_, fun p => ?_, ?_, ?_, ?_⟩
    · unfold goodL; rw [hkind, ht]; rfl
    · unfold wordsS; rw [hkind, ht, a1]; simp [joinW]
    · by_cases hp : p ∈ stepParts f
      · exact a3 p hp
      · rw [← get_all hp y, a2]
        cases p <;> exact inI0
    · rw [hkind]; exact inI_nat (by omega)
    · rw [hok]; exact inI0
    · have q1 := part_len a2 (p := .k) (.inr rfl)
      have q2 := part_len a2 (p := .d) (.inl rfl)
      have q3 := textW_len y.name
      have q4 := textW_len y.data
      have q6 : partW y .k = textW y.name := rfl
      have q7 : partW y .d = textW y.data := rfl
      rw [q6] at q1
      rw [q7] at q2
      have q5 : l1.length = (beh ((stepParts f).map (partW y))).length + r.length := by rw [a1]; simp
      simp only [List.length_append]
      exact ⟨by omega, by omega⟩
end Go.Proofs.YtnbfebjcfhbhiaaDoor.Sc
end
section
namespace Go.Proofs.YtnbfebjcfhbhiaaDoor.Sc
open Go.Proofs.YtnbfebjcfhbhiaaDoor.Bw Go.Proofs.YtnbfebjcfhbhiaaDoor.Lw
set_option linter.unusedVariables false
set_option linter.unusedSimpArgs false
theorem good_kind {y : St} (h : goodL y = true) : ∃ f : Nat, f < 15 ∧ y.kind = (f : Int) + 1 := by
  unfold goodL at h
  simp only [Bool.and_eq_true] at h
  obtain ⟨g, hg, e⟩ := tellF_some tellOps y.kind y stepFs h.1
  have := stepFs_f2 g hg
  exact ⟨(y.kind - 1).toNat, by omega, by omega⟩
theorem named_cod (w : By) : Cod (namedP w) (fun n => w ++ 32 :: numW n) inI where
  sound l x r h := by
    obtain ⟨i, l1, h1, k1⟩ := bnd_good_iff.1 h
    obtain ⟨_, l2, h2, k2⟩ := bnd_good_iff.1 k1
    obtain ⟨hi, rfl⟩ := one_sound h1
    have : i = 0 := by simpa using hi
    subst this
    obtain ⟨g1, g2⟩ := num_cod.sound _ _ _ k2
    refine ⟨?_, g2⟩
    rw [byte_good.1 h2, g1]; simp
  full x r hv hr := by
    show namedP w ((w ++ 32 :: numW x) ++ r) = _
    rw [List.append_assoc]
    refine bnd_good_iff.2 ⟨0, _, one_full (ws := [w]) (i := 0) (pf_one w) (by simp) (by simp) _, ?_⟩
    exact bnd_good_iff.2 ⟨(), _, byte_good.2 (List.cons_append ..), num_cod.full x r hv hr⟩
def cfgB (ws : List By) (c : List Int) : By := (ws.zip c).flatMap fun p => 32 :: (p.1 ++ 32 :: numW p.2)
theorem cfgGo_cod : ∀ ws : List By, Cod (cfgGo ws) (cfgB ws) (fun c => c.length = ws.length ∧ ∀ x ∈ c, inI x)
  | [] => {
    sound := fun l x r h => by
      injection h with h1 h2
      subst h1 h2
      exact ⟨rfl, rfl, fun _ h => by cases h⟩
    full := fun x r hv hr => by
      obtain ⟨h1, _⟩ := hv
      cases x with
      | nil => rfl
      | cons a x => simp at h1 }
  | w :: ws => {
    sound := fun l x r h => by
      rw [cfgGo] at h
      obtain ⟨_, l1, h1, h⟩ := bnd_good_iff.1 h
      obtain ⟨n, l2, h2, h⟩ := bnd_good_iff.1 h
      obtain ⟨y, l3, h3, h4⟩ := bnd_good_iff.1 h
      injection h4 with h4 h5
      subst h4 h5
      obtain ⟨g1, g2⟩ := (named_cod w).sound _ _ _ h2
      obtain ⟨k1, k2, k3⟩ := (cfgGo_cod ws).sound _ _ _ h3
      refine ⟨?_, by simp [k2], fun z hz => ?_⟩
      · rw [byte_good.1 h1, g1, k1]; simp [cfgB]
      · rcases List.mem_cons.1 hz with rfl | hz
        · exact g2
        · exact k3 z hz
    full := fun x r hv hr => by
      obtain ⟨h1, h2⟩ := hv
      cases x with
      | nil => simp at h1
      | cons n x =>
        have e : cfgB (w :: ws) (n :: x) ++ r = 32 :: ((w ++ 32 :: numW n) ++ (cfgB ws x ++ r)) := by simp [cfgB]
        have hb : Bd (cfgB ws x ++ r) := by
          unfold cfgB
          cases hz : ws.zip x with
          | nil => exact hr
          | cons p q => exact .cons _
        rw [e, cfgGo]
        refine bnd_good_iff.2 ⟨(), _, byte_good.2 rfl, ?_⟩
        refine bnd_good_iff.2 ⟨n, _, (named_cod w).full n _ (h2 n (.head _)) hb, ?_⟩
        exact bnd_good_iff.2 ⟨x, _, (cfgGo_cod ws).full x r ⟨by simpa using h1, fun z hz => h2 z (.tail _ hz)⟩ hr, rfl⟩ }
end Go.Proofs.YtnbfebjcfhbhiaaDoor.Sc
end
section
namespace Go.Proofs.YtnbfebjcfhbhiaaDoor.Sc
set_option linter.unusedVariables false
set_option linter.unusedSimpArgs false
end Go.Proofs.YtnbfebjcfhbhiaaDoor.Sc
end
section
namespace Go.Proofs.YtnbfebjcfhbhiaaDoor.Sc
open Go.Proofs.YtnbfebjcfhbhiaaDoor.Bw Go.Proofs.YtnbfebjcfhbhiaaDoor.Lw
set_option linter.unusedVariables false
set_option linter.unusedSimpArgs false
theorem addWs_true : ∀ (ws : List By) (t : By), addWs (t, true) ws = (t ++ beh ws, true)
  | [], t => by simp [addWs, beh]
  | w :: ws, t => by
    show addWs (addW (t, true) w) ws = _
    have : addW (t, true) w = (t ++ 32 :: w, true) := rfl
    rw [this, addWs_true ws, beh_cons]; simp
theorem addWs_false {ws : List By} (h : ws ≠ []) (t : By) : addWs (t, false) ws = (t ++ joinW ws, true) := by
  cases ws with
  | nil => exact absurd rfl h
  | cons w ws =>
    show addWs (addW (t, false) w) ws = _
    have : addW (t, false) w = (t ++ w, true) := rfl
    rw [this, addWs_true]; simp [joinW]
theorem cfg_words {c : List Int} (h : c.length = 10) : cfgTell c ≠ [] ∧ joinW (cfgTell c) = (cfgW0 ++ 32 :: numW (c.getD 0 0)) ++ cfgB cfgWs c.tail := by
  match c, h with
  | [a0, a1, a2, a3, a4, a5, a6, a7, a8, a9], _ =>
    refine ⟨by simp [cfgTell, cfgTellN, List.range_succ], ?_⟩
    simp [cfgTell, cfgTellN, List.range_succ, joinW, beh, cfgB, cfgWs, cfgW, cfgW0]
theorem cfg_cod : Cod cfgP (fun c => joinW (cfgTell c)) (fun c => c.length = 10 ∧ ∀ x ∈ c, inI x) where
  sound l x r h := by
    obtain ⟨n, l1, h1, k1⟩ := bnd_good_iff.1 h
    obtain ⟨y, l2, h2, k2⟩ := bnd_good_iff.1 k1
    injection k2 with h3 h4
    subst h3 h4
    obtain ⟨g1, g2⟩ := (named_cod cfgW0).sound _ _ _ h1
    obtain ⟨j1, j2, j3⟩ := (cfgGo_cod cfgWs).sound _ _ _ h2
    have hl : (n :: y).length = 10 := by rw [List.length_cons, j2]; rfl
    refine ⟨?_, hl, fun z hz => ?_⟩
    · rw [(cfg_words hl).2, g1, j1]; simp
    · rcases List.mem_cons.1 hz with rfl | hz
      · exact g2
      · exact j3 z hz
  full x r hv hr := by
    obtain ⟨h1, h2⟩ := hv
    show cfgP (joinW (cfgTell x) ++ r) = _
    rw [(cfg_words h1).2, List.append_assoc]
    cases x with
    | nil => simp at h1
    | cons n y =>
      have hb : Bd (cfgB cfgWs y ++ r) := by
        unfold cfgB
        cases hz : cfgWs.zip y with
        | nil => exact hr
        | cons p q => exact .cons _
      refine bnd_good_iff.2 ⟨n, _, (named_cod cfgW0).full n _ (h2 n (.head _)) hb, ?_⟩
      exact bnd_good_iff.2 ⟨y, _, (cfgGo_cod cfgWs).full y r ⟨(show y.length = 9 by simpa using h1), fun z hz => h2 z (.tail _ hz)⟩ hr, rfl⟩
/-- The text of steps. -/
def stepsT (l : List St) : By := l.flatMap fun x => joinW (wordsS x) ++ [10]
theorem words_ne {x : St} (h : goodL x = true) : ∃ w ws, wordsS x = w :: ws ∧ w ∈ stepWs := by
  obtain ⟨f, hf, hk⟩ := good_kind h
  have e := tellS_at tellOps x ⟨f, hf⟩
  have hw : wordsS x = stepWs.getD f [] :: (tellG tellOps (stepParts f) x).2.1 := by
    unfold wordsS
    rw [hk]
    exact congrArg (·.2.1) e
  refine ⟨_, _, hw, ?_⟩
  have hf2 : f < stepWs.length := hf
  rw [List.getD_eq_getElem?_getD, List.getElem?_eq_getElem hf2]
  exact List.getElem_mem hf2
theorem printGo_of : ∀ (l : List St) (t : By), (∀ x ∈ l, goodL x = true) → printGo l (t, false) = some (t ++ stepsT l, false)
  | [], t, h => by simp [printGo, stepsT]
  | x :: l, t, h => by
    have hg := h x (.head _)
    obtain ⟨w, ws, hw, _⟩ := words_ne hg
    have e : endL (addWs (t, false) (tellStep x.kind x).2.1) = (t ++ (joinW (wordsS x) ++ [10]), false) := by
      show endL (addWs (t, false) (wordsS x)) = _
      rw [addWs_false (by rw [hw]; simp)]; simp [endL]
    rw [printGo, if_pos hg, e, printGo_of l _ (fun y hy => h y (.tail _ hy))]
    simp [stepsT]
theorem cfgTS_eq {c : List Int} (h : c.length = 10) : cfgTS c = (joinW (cfgTell c) ++ [10], false) := by
  unfold cfgTS
  rw [addWs_false (cfg_words h).1]; simp [endL]
def NoNl (l : By) : Prop := ∀ c ∈ l, c ≠ 10
theorem NoNl.append {a b : By} (ha : NoNl a) (hb : NoNl b) : NoNl (a ++ b) := fun c hc => (List.mem_append.1 hc).elim (ha c) (hb c)
end Go.Proofs.YtnbfebjcfhbhiaaDoor.Sc
end
section
namespace Go.Proofs.YtnbfebjcfhbhiaaDoor.Sc
open Go Go.RowKit Go.Proofs.YtnbfebjcfhbhiaaDoor.P Go.Proofs.YtnbfebjcfhbhiaaDoor.Bw Go.Proofs.YtnbfebjcfhbhiaaDoor.Lw Go.Proofs.YtnbfebjcfhbhiaaDoorW.PrintWords
set_option linter.unusedVariables false
set_option linter.unusedSimpArgs false
end Go.Proofs.YtnbfebjcfhbhiaaDoor.Sc
end
section
namespace Go.Proofs.YtnbfebjcfhbhiaaDoor.Sc
open Go Go.RowKit Go.Proofs.YtnbfebjcfhbhiaaDoor.P Go.Proofs.YtnbfebjcfhbhiaaDoorW.PrintWords Go.Proofs.YtnbfebjcfhbhiaaDoorW.PrintLast Go.Proofs.YtnbfebjcfhbhiaaDoorW.PrintMore
set_option linter.unusedVariables false
set_option linter.unusedSimpArgs false
theorem alike_go (l : List S48) (hl : l.length ≤ 4611686018427387904) : ∀ n i : Nat, i + n = l.length → Ev (fun k => sluicelaw18_alike.l0 k l l (i : Int)) true := by
  intro n
  induction n with
  | zero =>
    intro i hi
    refine Ev.step (f := fun _ => some true) (fun k => ?_) (Ev.now _)
    rw [sluicelaw18_alike.l0, if_neg (by omega)]
  | succ n ih =>
    intro i hi
    have h := ih (i + 1) (by omega)
    have e : wrap64 ((i : Int) + 1) = ((i + 1 : Nat) : Int) := by rw [w64 (by omega) (by omega)]; omega
    refine Ev.step (fun k => ?_) h
    rw [sluicelaw18_alike.l0, if_pos (by omega), if_pos (by omega), if_pos (by omega), e]
    simp [sluicelaw18_same.f]
theorem alike_ev (l : List S48) (hl : l.length ≤ 4611686018427387904) : Ev (fun k => sluicelaw18_alike.f k l l) true := by
  have h := alike_go l hl l.length 0 (by omega)
  exact Ev.congr (fun k => by unfold sluicelaw18_alike.f; rw [if_pos rfl]; rfl) h
end Go.Proofs.YtnbfebjcfhbhiaaDoor.Sc
end
section
namespace Go.Proofs.YtnbfebjcfhbhiaaDoor.Bw
open Go Go.RowKit Go.Proofs.YtnbfebjcfhbhiaaDoor.P Go.Proofs.YtnbfebjcfhbhiaaDoor.Sc Go.Proofs.YtnbfebjcfhbhiaaDoor.Lw Go.Proofs.YtnbfebjcfhbhiaaDoorW.PrintWords Go.Proofs.YtnbfebjcfhbhiaaDoorW.PrintLast Go.Proofs.YtnbfebjcfhbhiaaDoorW.PrintMore
set_option linter.unusedVariables false
set_option linter.unusedSimpArgs false
theorem parse_ok (w : World) (s : ByteArray) (hV : VS w) (hC : VC w) (hs : s.size ≤ 4611686018427387904) {c : List Int} {l : List St} (ho : Sc.parse (bs s) = .ok c l) :
    Calls Tryd.prog 16 #[.string s] w fun e w' => ∃ A cp, e = .returned (.tuple #[.agg (cfc c), .slice A l.length cp, .int .i64 0, .int .i64 0, .int .i64 0]) ∧ l.length ≤ cp ∧ Kd.C k48 w' A l.length (l.map stS) ∧ Below w.heap.size w w' := by
  refine (parse_calls w s hV hC hs).mono ?_
  rintro e w' ⟨hP, hb⟩
  rw [ho] at hP
  obtain ⟨v, rfl, _, hR⟩ := hP
  obtain ⟨A, cp, rfl, hcp, hC⟩ := Kd.R_reads hR
  rw [List.length_map] at hcp hC ⊢
  exact ⟨A, cp, rfl, hcp, hC, hb⟩
theorem alike_calls (w : World) (l : List St) (A A2 : Option Addr) (cp cp2 : Nat) {K : Nat} (hK : sluicelaw18_alike.f K (l.map stS) (l.map stS) = some true) (h1 : Kd.C k48 w A l.length (l.map stS)) (k1 : l.length ≤ cp) (h2 : Kd.C k48 w A2 l.length (l.map stS)) (k2 : l.length ≤ cp2) :
    Calls Tryd.prog 17 #[.slice A l.length cp, .slice A2 l.length cp2] w fun e w' => e = .returned (.bool true) ∧ Below w.heap.size w w' := by
  have := sluicelaw18_alike.calls K A cp (l.map stS) A2 cp2 (l.map stS) true w (by rw [List.length_map]; exact h1) (by rw [List.length_map]; exact k1) (by rw [List.length_map]; exact h2) (by rw [List.length_map]; exact k2) hK
  rw [List.length_map] at this
  exact this
theorem ten {c : List Int} (h : c.length = 10) : ∃ a0 a1 a2 a3 a4 a5 a6 a7 a8 a9, c = [a0, a1, a2, a3, a4, a5, a6, a7, a8, a9] := by
  match c, h with
  | [a0, a1, a2, a3, a4, a5, a6, a7, a8, a9], _ => exact ⟨a0, a1, a2, a3, a4, a5, a6, a7, a8, a9, rfl⟩
end Go.Proofs.YtnbfebjcfhbhiaaDoor.Bw
end
section
namespace Go.Proofs.YtnbfebjcfhbhiaaDoor.Sc
open Go.Proofs.YtnbfebjcfhbhiaaDoor.Bw Go.Proofs.YtnbfebjcfhbhiaaDoor.Lw
set_option linter.unusedVariables false
set_option linter.unusedSimpArgs false
/-- A line that means nothing. -/
def Mute (t : By) : Prop := t = [] ∨ t.head? = some 35
instance (t : By) : Decidable (Mute t) := by unfold Mute; infer_instance
def meantT (ls : List (By × Bool)) : By := ls.flatMap fun p => if Mute p.1 then [] else p.1 ++ [10]
def fitS (m : Nat) (y : St) : Prop := (∀ p, inI (y.get p)) ∧ inI y.kind ∧ inI y.ok ∧ y.name.length ≤ m + 1 ∧ y.data.length ≤ m + 1
theorem lineE_ok {α : Type} {p : Rd α} {t : By} {w : Bool} {x : α} (h : lineE p t w = .ok x) : p t = .good x [] ∧ w = true := by
  unfold lineE at h
  split at h
  · rename_i y hp
    by_cases hw : w = true
    · rw [if_pos hw] at h
      injection h with h1
      subst h1
      exact ⟨hp, hw⟩
    · rw [if_neg hw] at h; cases h
  · cases h
  · cases h
theorem mute_go {t : By} (h : Mute t) (r : List (By × Bool)) (i : Nat) (cfg : Option (List Int)) (out : List St) : parseGo ((t, true) :: r) i cfg out = parseGo r (i + 1) cfg out := by
  rcases h with rfl | h
  · cases cfg <;> simp [parseGo]
  · cases cfg <;> simp [parseGo, h]
theorem one_go_some (m : Nat) (c0 : List Int) : ∀ (ls : List (By × Bool)) (i : Nat) (out : List St) (c : List Int) (l' : List St), (∀ p ∈ ls, p.1.length ≤ m) → parseGo ls i (some c0) out = .ok c l' →
    c = c0 ∧ ∃ l, l' = out ++ l ∧ l'.length ≤ 20000 ∧ meantT ls = stepsT l ∧ (∀ x ∈ l, goodL x = true ∧ fitS m x) ∧ (∀ p ∈ ls, ¬ Mute p.1 ∨ p.1.head? = some 35 → p.2 = true)
  | [], i, out, c, l', hm, h => by
    have h2 : (if 20000 < out.length then Out.long else .ok c0 out) = .ok c l' := h
    by_cases hl : 20000 < out.length
    · rw [if_pos hl] at h2; cases h2
    · rw [if_neg hl] at h2
      injection h2 with h3 h4
      subst h3 h4
      exact ⟨rfl, [], by simp, by omega, rfl, (fun _ h => by cases h), (fun _ h => by cases h)⟩
  | (t, w) :: r, i, out, c, l', hm, h => by
    have hm2 : ∀ p ∈ r, p.1.length ≤ m := fun p hp => hm p (.tail _ hp)
    by_cases h35 : t.head? = some 35
    · cases w with
      | false => simp [parseGo, h35] at h
      | true =>
        rw [mute_go (.inr h35)] at h
        obtain ⟨e, l, e1, e2, e3, e4, e5⟩ := one_go_some m c0 r _ out c l' hm2 h
        refine ⟨e, l, e1, e2, ?_, e4, fun p hp hq => ?_⟩
        · rw [← e3]; simp [meantT, show Mute t from .inr h35]
        · rcases List.mem_cons.1 hp with rfl | hp
          · rfl
          · exact e5 p hp hq
    · by_cases h0 : t = []
      · have e0 : parseGo ((t, w) :: r) i (some c0) out = parseGo r (i + 1) (some c0) out := by simp [parseGo, h0]
        rw [e0] at h
        obtain ⟨e, l, e1, e2, e3, e4, e5⟩ := one_go_some m c0 r _ out c l' hm2 h
        refine ⟨e, l, e1, e2, ?_, e4, fun p hp hq => ?_⟩
        · rw [← e3]; simp [meantT, show Mute t from .inl h0]
        · rcases List.mem_cons.1 hp with rfl | hp
          · rcases hq with hq | hq
            · exact absurd (.inl h0) hq
            · exact absurd hq h35
          · exact e5 p hp hq
      · rw [parseGo, if_neg h35, if_neg h0] at h
        cases hx : lineE stepP t w with
        | error k => rw [hx] at h; cases h
        | ok x =>
          rw [hx] at h
          obtain ⟨g1, g2⟩ := lineE_ok hx
          obtain ⟨s1, s2, s3, s4, s5, s6, s7⟩ := step_sound g1
          rw [List.append_nil] at s2
          obtain ⟨e, l, e1, e2, e3, e4, e5⟩ := one_go_some m c0 r _ (out ++ [x]) c l' hm2 h
          have ht := hm (t, w) (.head _)
          simp only at ht
          refine ⟨e, x :: l, by rw [e1]; simp, e2, ?_, fun y hy => ?_, fun p hp hq => ?_⟩
          · have hmu : ¬ Mute t := fun h => h.elim h0 h35
            have : meantT ((t, w) :: r) = t ++ 10 :: meantT r := by simp [meantT, hmu]
            rw [this, e3, s2]; simp [stepsT]
          · rcases List.mem_cons.1 hy with rfl | hy
            · exact ⟨s1, s3, s4, s5, by omega, by omega⟩
            · exact e4 y hy
          · rcases List.mem_cons.1 hp with rfl | hp
            · exact g2
            · exact e5 p hp hq
theorem one_go_none (m : Nat) : ∀ (ls : List (By × Bool)) (i : Nat) (c : List Int) (l : List St), (∀ p ∈ ls, p.1.length ≤ m) → parseGo ls i none [] = .ok c l →
    c.length = 10 ∧ (∀ x ∈ c, inI x) ∧ l.length ≤ 20000 ∧ meantT ls = (joinW (cfgTell c) ++ [10]) ++ stepsT l ∧ (∀ x ∈ l, goodL x = true ∧ fitS m x) ∧ (∀ p ∈ ls, ¬ Mute p.1 ∨ p.1.head? = some 35 → p.2 = true)
  | [], i, c, l, hm, h => by cases h
  | (t, w) :: r, i, c, l, hm, h => by
    have hm2 : ∀ p ∈ r, p.1.length ≤ m := fun p hp => hm p (.tail _ hp)
    by_cases h35 : t.head? = some 35
    · cases w with
      | false => simp [parseGo, h35] at h
      | true =>
        rw [mute_go (.inr h35)] at h
        obtain ⟨e, e1, e2, e3, e4, e5⟩ := one_go_none m r _ c l hm2 h
        refine ⟨e, e1, e2, ?_, e4, fun p hp hq => ?_⟩
        · rw [← e3]; simp [meantT, show Mute t from .inr h35]
        · rcases List.mem_cons.1 hp with rfl | hp
          · rfl
          · exact e5 p hp hq
    · by_cases h0 : t = []
      · have e0 : parseGo ((t, w) :: r) i none [] = parseGo r (i + 1) none [] := by simp [parseGo, h0]
        rw [e0] at h
        obtain ⟨e, e1, e2, e3, e4, e5⟩ := one_go_none m r _ c l hm2 h
        refine ⟨e, e1, e2, ?_, e4, fun p hp hq => ?_⟩
        · rw [← e3]; simp [meantT, show Mute t from .inl h0]
        · rcases List.mem_cons.1 hp with rfl | hp
          · rcases hq with hq | hq
            · exact absurd (.inl h0) hq
            · exact absurd hq h35
          · exact e5 p hp hq
      · rw [parseGo, if_neg h35, if_neg h0] at h
        cases hx : lineE cfgP t w with
        | error k => rw [hx] at h; cases h
        | ok c0 =>
          rw [hx] at h
          obtain ⟨g1, g2⟩ := lineE_ok hx
          obtain ⟨s1, s2, s3⟩ := cfg_cod.sound _ _ _ g1
          rw [List.append_nil] at s1
          obtain ⟨rfl, l2, e1, e2, e3, e4, e5⟩ := one_go_some m c0 r _ [] c l hm2 h
          rw [List.nil_append] at e1
          subst e1
          refine ⟨s2, s3, e2, ?_, e4, fun p hp hq => ?_⟩
          · have hmu : ¬ Mute t := fun h => h.elim h0 h35
            have : meantT ((t, w) :: r) = t ++ 10 :: meantT r := by simp [meantT, hmu]
            rw [this, e3, s1]; simp
          · rcases List.mem_cons.1 hp with rfl | hp
            · exact g2
            · exact e5 p hp hq
end Go.Proofs.YtnbfebjcfhbhiaaDoor.Sc
end
section
namespace Go.Proofs.YtnbfebjcfhbhiaaDoor.Sc
open Go Go.RowKit Go.Proofs.YtnbfebjcfhbhiaaDoor.P Go.Proofs.YtnbfebjcfhbhiaaDoor.Bw Go.Proofs.YtnbfebjcfhbhiaaDoor.Lw Go.Proofs.YtnbfebjcfhbhiaaDoorW.PrintWords
set_option linter.unusedVariables false
set_option linter.unusedSimpArgs false
def PW (M : Nat) (x : St) : Prop := ∀ p, (partW x p).length ≤ M
theorem signB_le (c : UInt8) : (signB c).length ≤ 3 := by unfold signB; split <;> simp
theorem flat_le : ∀ b : By, (b.flatMap signB).length ≤ 3 * b.length
  | [] => by simp
  | c :: b => by
    have h1 := signB_le c
    have h2 := flat_le b
    rw [List.flatMap_cons, List.length_append, List.length_cons]; omega
theorem textW_le (b : By) : (textW b).length ≤ 3 * b.length + 1 := by
  unfold textW
  split
  · simp
  · have := flat_le b; omega
theorem PW.of {M : Nat} {x : St} (h : sfit x) (hn : x.name.length ≤ M) (hd : x.data.length ≤ M) : PW (3 * M + 21) x := fun p => by
  have hg := numW_le (h.get p)
  cases p
  case d => have := textW_le x.data; show (textW x.data).length ≤ _; omega
  case k => have := textW_le x.name; show (textW x.name).length ≤ _; omega
  all_goals (refine Nat.le_trans ?_ (Nat.le_add_left 21 (3 * M)); exact hg)
theorem PW.zero {M : Nat} {x : St} (h : PW M x) (hM : 1 ≤ M) (p : Part) : PW M (x.zero p) := fun q => by
  by_cases hpq : p = q
  · subst hpq
    have h0 : (numW 0).length ≤ M := by
      have : (numW 0).length = 1 := by decide +kernel
      omega
    cases p
    case d => exact hM
    case k => exact hM
    all_goals exact h0
  · rw [partW_zero hpq]; exact h q
theorem PW.ok {M : Nat} {x : St} (h : PW M x) : PW M { x with ok := 0 } := fun q => by
  have := h q
  cases q <;> exact this
theorem tellG_len {M R : Nat} (hM : 1 ≤ M) (hMR : M + 1 ≤ R) {rec : St → Bool × List By × St} (hr : ∀ x, PW M x → lenW (rec x).2.1 ≤ R ∧ PW M (rec x).2.2) : ∀ (ps : List Part) (x : St), PW M x → lenW (tellG rec ps x).2.1 ≤ ps.length * R ∧ PW M (tellG rec ps x).2.2
  | [], x, h => ⟨Nat.zero_le _, h⟩
  | p :: ps, x, h => by
    rw [List.length_cons, Nat.add_mul, Nat.one_mul]
    by_cases hp : p = .o
    · subst hp
      obtain ⟨h1, h2⟩ := hr x h
      simp only [tellG]
      split
      · obtain ⟨h3, h4⟩ := tellG_len hM hMR hr ps _ h2.ok
        refine ⟨?_, h4⟩
        rw [lenW_append]; omega
      · exact ⟨by simp only []; omega, h2⟩
    · rw [tellG_cons rec p hp]
      obtain ⟨h3, h4⟩ := tellG_len hM hMR hr ps _ (h.zero hM p)
      refine ⟨?_, h4⟩
      have := h p
      simp only [lenW]; omega
theorem tellF_len {M R n : Nat} (hM : 1 ≤ M) (hMR : M + 1 ≤ R) {rec : St → Bool × List By × St} (hr : ∀ x, PW M x → lenW (rec x).2.1 ≤ R ∧ PW M (rec x).2.2) (k : Int) (x : St) (h : PW M x) : ∀ fs : List S153, (∀ f ∈ fs, (bs f.f0).length ≤ 11 ∧ (bs f.f1).length ≤ n) → lenW (tellF rec fs k x).2.1 ≤ 12 + n * R ∧ PW M (tellF rec fs k x).2.2
  | [], _ => ⟨Nat.zero_le _, h⟩
  | f :: fs, hf => by
    rw [tellF]
    split
    · obtain ⟨h1, h2⟩ := hf f (.head _)
      obtain ⟨h3, h4⟩ := tellG_len hM hMR hr ((bs f.f1).map partOf) x h
      refine ⟨?_, h4⟩
      rw [List.length_map] at h3
      have h5 := Nat.mul_le_mul_right R h2
      simp only [lenW]; omega
    · exact tellF_len hM hMR hr k x h fs (fun g hg => hf g (.tail _ hg))
theorem opFs_len : ∀ f ∈ opFs, (bs f.f0).length ≤ 11 ∧ (bs f.f1).length ≤ 3 := by
  have : (opFs.all fun f => (bs f.f0).length ≤ 11 && (bs f.f1).length ≤ 3) = true := by decide +kernel
  intro f hf
  simpa using List.all_eq_true.1 this f hf
theorem stepFs_len : ∀ f ∈ stepFs, (bs f.f0).length ≤ 11 ∧ (bs f.f1).length ≤ 4 := by
  have : (stepFs.all fun f => (bs f.f0).length ≤ 11 && (bs f.f1).length ≤ 4) = true := by decide +kernel
  intro f hf
  simpa using List.all_eq_true.1 this f hf
theorem step_len {M : Nat} (hM : 1 ≤ M) {x : St} (k : Int) (h : PW M x) : lenW (tellStep k x).2.1 ≤ 12 * M + 72 := by
  have h1 : ∀ y, PW M y → lenW (tellOps y).2.1 ≤ 12 + 3 * (M + 1) ∧ PW M (tellOps y).2.2 := fun y hy =>
    tellF_len hM (Nat.le_refl _) (rec := tell0) (fun z hz => ⟨Nat.zero_le _, hz⟩) y.ok y hy opFs opFs_len
  have h2 := (tellF_len (R := 12 + 3 * (M + 1)) hM (by omega) h1 k x h stepFs stepFs_len).1
  unfold tellStep
  omega
theorem lenL_le {M : Nat} : ∀ l : List St, (∀ x ∈ l, lenW (tellStep x.kind x).2.1 ≤ M) → lenL l ≤ l.length * (M + 1)
  | [], _ => Nat.zero_le _
  | x :: l, h => by
    have h1 := h x (.head _)
    have h2 := lenL_le l (fun y hy => h y (.tail _ hy))
    rw [List.length_cons, Nat.add_mul, Nat.one_mul]
    simp only [lenL]; omega
theorem cfgW_le10 : ∀ i : Fin 10, (cfgW i.val).length ≤ 10 := by decide +kernel
theorem cfgTellN_len {c : List Int} (hc : ∀ i < 10, inI (c.getD i 0)) : ∀ n, n ≤ 10 → lenW (cfgTellN c n) ≤ n * 33
  | 0, _ => Nat.zero_le _
  | n + 1, h => by
    have h1 := cfgTellN_len hc n (by omega)
    have h2 := cfgW_le10 ⟨n, by omega⟩
    have h3 := numW_le (hc n (by omega))
    rw [cfgTellN_succ, lenW_append]
    simp only [lenW] at *
    omega
theorem cfgTS_len {c : List Int} (hc : ∀ i < 10, inI (c.getD i 0)) : (cfgTS c).1.length ≤ 400 := by
  have h1 := cfgTellN_len hc 10 (Nat.le_refl _)
  have h2 := addWs_len (cfgTell c) ([], false)
  unfold cfgTS endL
  rw [List.length_append]
  simp only [List.length_nil, List.length_singleton] at *
  unfold cfgTell at *
  omega
/-- Within a bulk of 2^20 all fits. -/
theorem bulk_fits {c : List Int} (hc : ∀ i < 10, inI (c.getD i 0)) {l : List St} (hl : l.length ≤ 1048576) (hf : ∀ x ∈ l, sfit x ∧ x.name.length ≤ 1048577 ∧ x.data.length ≤ 1048577) : (cfgTS c).1.length + lenL l ≤ 140737488355328 := by
  have h1 := cfgTS_len hc
  have h2 := lenL_le (M := 12 * (3 * 1048577 + 21) + 72) l (fun x hx => by
    obtain ⟨g1, g2, g3⟩ := hf x hx
    exact step_len (by omega) x.kind (PW.of g1 g2 g3))
  have h3 := Nat.mul_le_mul_right (12 * (3 * 1048577 + 21) + 72 + 1) hl
  omega
end Go.Proofs.YtnbfebjcfhbhiaaDoor.Sc
end
section
namespace Go.Proofs.YtnbfebjcfhbhiaaDoor.Sc
open Go Go.RowKit Go.Proofs.YtnbfebjcfhbhiaaDoor.Bw Go.Proofs.YtnbfebjcfhbhiaaDoor.Lw
set_option linter.unusedVariables false
set_option linter.unusedSimpArgs false
theorem lines_empty : ∀ (t : By), ∀ p ∈ lines t, p.1 = [] → p.2 = true
  | [], p, h, _ => by cases h
  | c :: l, p, h, h0 => by
    have ih := lines_empty l
    rw [lines] at h
    by_cases hc : c = 10
    · rw [if_pos hc] at h
      rcases List.mem_cons.1 h with rfl | h
      · rfl
      · exact ih p h h0
    · rw [if_neg hc] at h
      cases hl : lines l with
      | nil => rw [hl] at h; simp only [List.mem_singleton] at h; subst h; simp at h0
      | cons q r =>
        obtain ⟨t, w⟩ := q
        rw [hl] at h
        rcases List.mem_cons.1 h with rfl | h
        · simp at h0
        · exact ih p (by rw [hl]; exact .tail _ h) h0
theorem lines_len : ∀ (t : By), ∀ p ∈ lines t, p.1.length ≤ t.length
  | [], p, h => by cases h
  | c :: l, p, h => by
    have ih := lines_len l
    rw [lines] at h
    rw [List.length_cons]
    by_cases hc : c = 10
    · rw [if_pos hc] at h
      rcases List.mem_cons.1 h with rfl | h
      · exact Nat.zero_le _
      · have := ih p h; omega
    · rw [if_neg hc] at h
      cases hl : lines l with
      | nil => rw [hl] at h; simp only [List.mem_singleton] at h; subst h; simp
      | cons q r =>
        obtain ⟨t, w⟩ := q
        rw [hl] at h ih
        rcases List.mem_cons.1 h with rfl | h
        · have := ih (t, w) (.head _); simp only [List.length_cons] at *; omega
        · have := ih p (.tail _ h); omega
/-- All lines have ends. -/
def Ends (t : By) : Prop := ∀ p ∈ lines t, p.2 = true
theorem Ends.app : ∀ (t b : By), Ends t → lines (t ++ b) = lines t ++ lines b
  | [], b, _ => rfl
  | c :: l, b, h => by
    unfold Ends at h
    rw [lines] at h
    show lines (c :: (l ++ b)) = _
    rw [lines, lines]
    by_cases hc : c = 10
    · rw [if_pos hc] at h ⊢
      rw [if_pos hc, Ends.app l b (fun p hp => h p (.tail _ hp))]
      rfl
    · rw [if_neg hc] at h ⊢
      rw [if_neg hc]
      cases hl : lines l with
      | nil => rw [hl] at h; have := h _ (.head _); cases this
      | cons q r =>
        obtain ⟨t, w⟩ := q
        rw [hl] at h
        have hE : Ends l := fun p hp => by
          rw [hl] at hp
          rcases List.mem_cons.1 hp with rfl | hp
          · exact h (c :: t, w) (.head _)
          · exact h _ (.tail _ hp)
        rw [Ends.app l b hE, hl]
        rfl
theorem Ends.join : ∀ (t : By), Ends t → (lines t).flatMap (fun p => p.1 ++ [10]) = t
  | [], _ => rfl
  | c :: l, h => by
    unfold Ends at h
    rw [lines] at h ⊢
    by_cases hc : c = 10
    · rw [if_pos hc] at h ⊢
      rw [List.flatMap_cons, Ends.join l (fun p hp => h p (.tail _ hp)), hc]
      rfl
    · rw [if_neg hc] at h ⊢
      cases hl : lines l with
      | nil => rw [hl] at h; have := h _ (.head _); cases this
      | cons q r =>
        obtain ⟨t, w⟩ := q
        rw [hl] at h
        have hE : Ends l := fun p hp => by
          rw [hl] at hp
          rcases List.mem_cons.1 hp with rfl | hp
          · exact h (c :: t, w) (.head _)
          · exact h _ (.tail _ hp)
        have ih := Ends.join l hE
        rw [hl] at ih
        rw [List.flatMap_cons] at ih ⊢
        conv => rhs; rw [← ih]
        rfl
theorem meantT_le : ∀ ls : List (By × Bool), (meantT ls).length ≤ (ls.flatMap (fun p => p.1 ++ [10])).length
  | [] => Nat.le_refl _
  | p :: ls => by
    have ih := meantT_le ls
    have e : meantT (p :: ls) = (if Mute p.1 then [] else p.1 ++ [10]) ++ meantT ls := by simp [meantT]
    rw [e, List.flatMap_cons, List.length_append, List.length_append]
    split
    · simp only [List.length_nil]; omega
    · omega
/-- WHAT IS READ IS PRINTED AS IT WAS. -/
theorem form_law {t : By} {c : List Int} {l : List St} (h : parse t = .ok c l) :
    t.length ≤ 1048576 ∧ Ends t ∧ c.length = 10 ∧ (∀ x ∈ c, inI x) ∧ l.length ≤ 20000 ∧ printR c l = (meantT (lines t), 0) ∧ (∀ x ∈ l, sfit x ∧ x.name.length ≤ 1048577 ∧ x.data.length ≤ 1048577) := by
  unfold parse at h
  by_cases hb : 1048576 < t.length
  · rw [if_pos hb] at h; cases h
  · rw [if_neg hb] at h
    obtain ⟨h1, h2, h3, h4, h5, h6⟩ := one_go_none 1048576 (lines t) 0 c l (fun p hp => Nat.le_trans (lines_len t p hp) (by omega)) h
    have hE : Ends t := fun p hp => by
      by_cases hm : Mute p.1
      · rcases hm with hm | hm
        · exact lines_empty t p hp hm
        · exact h6 p hp (.inr hm)
      · exact h6 p hp (.inl hm)
    refine ⟨by omega, hE, h1, h2, h3, ?_, fun x hx => ?_⟩
    · have hl := meantT_le (lines t)
      rw [hE.join] at hl
      unfold printR
      rw [if_neg (by omega), cfgTS_eq h1, printGo_of l _ (fun x hx => (h5 x hx).1)]
      simp only
      rw [← h4, if_neg (by omega)]
    · obtain ⟨_, g1, g2, g3, g4, g5⟩ := h5 x hx
      exact ⟨⟨g2, g1 .r, g1 .s, g1 .n, g3, g1 .a, g1 .b, g1 .i, g1 .j, by omega, by omega⟩, by omega, by omega⟩
theorem ok_more {m : List (By × Bool)} (hm : ∀ p ∈ m, Mute p.1 ∧ p.2 = true) {c : List Int} {l : List St} : ∀ (ls : List (By × Bool)) (i j : Nat) (cfg : Option (List Int)) (out : List St), parseGo ls i cfg out = .ok c l → parseGo (ls ++ m) j cfg out = .ok c l
  | [], i, j, cfg, out, h => by
    rw [List.nil_append]
    induction m generalizing j with
    | nil => cases cfg <;> first | exact h | cases h
    | cons p m ih =>
      obtain ⟨t, w⟩ := p
      obtain ⟨h1, h2⟩ := hm _ (.head _)
      simp only at h2
      subst h2
      rw [mute_go h1]
      exact ih (fun p hp => hm p (.tail _ hp)) _
  | (t, w) :: r, i, j, cfg, out, h => by
    rw [List.cons_append]
    rw [parseGo.eq_def] at h ⊢
    simp only at h ⊢
    by_cases h35 : t.head? = some 35
    · rw [if_pos h35] at h ⊢
      cases w with
      | false => simp at h
      | true => exact ok_more hm r _ _ cfg out h
    · rw [if_neg h35] at h ⊢
      by_cases h0 : t = []
      · rw [if_pos h0] at h ⊢
        exact ok_more hm r _ _ cfg out h
      · rw [if_neg h0] at h ⊢
        cases cfg with
        | some c0 =>
          simp only at h ⊢
          cases hx : lineE stepP t w with
          | error k => rw [hx] at h; cases h
          | ok x => rw [hx] at h; exact ok_more hm r _ _ _ _ h
        | none =>
          simp only at h ⊢
          cases hx : lineE cfgP t w with
          | error k => rw [hx] at h; cases h
          | ok x => rw [hx] at h; exact ok_more hm r _ _ _ _ h
def aheadB : By := [35, 10, 10, 35, 32, 109, 111, 114, 101, 58, 32, 99, 97, 108, 108, 10]
def behindB : By := [10, 35, 120, 10]
/-- MORE MUTE LINES CHANGE NOTHING. -/
theorem more_law {t : By} {c : List Int} {l : List St} (h : parse t = .ok c l) (ht : t.length ≤ 1000000) : parse (aheadB ++ t ++ behindB) = .ok c l := by
  obtain ⟨_, hE, _⟩ := form_law h
  unfold parse at h ⊢
  rw [if_neg (by omega)] at h
  have hl : (aheadB ++ t ++ behindB).length = 16 + t.length + 4 := by simp [aheadB, behindB]; omega
  rw [if_neg (by omega), List.append_assoc]
  have e1 : lines (aheadB ++ (t ++ behindB)) = ([35], true) :: ([], true) :: ([35, 32, 109, 111, 114, 101, 58, 32, 99, 97, 108, 108], true) :: (lines t ++ [([], true), ([35, 120], true)]) := by
    have e2 : lines (t ++ behindB) = lines t ++ [([], true), ([35, 120], true)] := by
      rw [Ends.app t behindB hE]
      congr 1
    rw [← e2]
    show lines ([35] ++ 10 :: ([] ++ 10 :: ([35, 32, 109, 111, 114, 101, 58, 32, 99, 97, 108, 108] ++ 10 :: (t ++ behindB)))) = _
    rw [lines_nl _ _ (by decide), lines_nl _ _ (by decide), lines_nl _ _ (by decide)]
  rw [e1, mute_go (.inr rfl), mute_go (.inl rfl), mute_go (.inr rfl)]
  exact ok_more (by decide) (lines t) 0 _ none [] h
end Go.Proofs.YtnbfebjcfhbhiaaDoor.Sc
end
