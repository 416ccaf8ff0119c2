/- texts that the proof needs, laid together by a program of this session. -/
import Derived.Test.YtnbfebjcfhbhiaaDoorRows
import Derived.WalkKit
import Derived.ProofKit
import Derived.OpenShut
import Derived.Deep.DeepHandedRow
import Derived.Lib.LaidTab
import Derived.Lib.LaidU8
import Derived.LaidLaws
import Derived.Deep.DeepWitnessRowRef
import Derived.Lib.LaidIn
import Derived.Test.YtnbfebjcfhbhiaaDoorKScriptPlace9
section
namespace Go.Proofs.YtnbfebjcfhbhiaaDoor.Lv
open Go Go.ChangeShapes Go.WideShapes Go.ChangeAt Go.RowKit Go.Proofs.YtnbfebjcfhbhiaaDoor.P Go.Proofs.YtnbfebjcfhbhiaaDoor.Sc Go.Proofs.YtnbfebjcfhbhiaaDoor.Lw Go.Proofs.YtnbfebjcfhbhiaaDoor.Bw Go.Proofs.YtnbfebjcfhbhiaaDoorW.PrintWords
set_option linter.unusedVariables false
set_option linter.unusedSimpArgs false
section
variable {H : Type} {enc : TypeId × Value → H} {w : World} {spare : Nat → Bool} {held : Bool}
def formD (p : S153) : DataW H := .agg [.lit (.string p.f0.data.toList), .lit (.string p.f1.data.toList), .lit (.int .i64 p.f2)]
theorem form_inj {p q : S153} (h : (formD p : DataW H) = formD q) : p = q := by
  unfold formD at h
  simp only [DataW.agg.injEq, List.cons.injEq, DataW.lit.injEq, Lit.string.injEq, Lit.int.injEq, and_true, true_and] at h
  obtain ⟨h0, h1, h2⟩ := h
  cases p; cases q
  simp only at h0 h1 h2
  rw [bs_inj h0, bs_inj h1, h2]
set_option maxRecDepth 100000 in
theorem form_open {fuel : Nat} {cs : List Value} {x : DataW H × List MemPlace} (h : DataW.trod enc Tryd.prog w 0 spare held fuel 153 cs = some x) : ∃ p : S153, cs = [.string p.f0, .string p.f1, .int .i64 p.f2] ∧ x.1 = formD p := by
  obtain ⟨ys, n, _, hx, hcl, hyl, hf⟩ := DataW.trod_struct Tryd.underlying153 h
  have hcl2 : cs.length = 3 := hcl.trans (by kernel_rfl)
  have hyl2 : ys.length = 3 := hyl
  match cs, hcl2 with
  | [c0, c1, c2], _ =>
    match ys, hyl2 with
    | [y0, y1, y2], _ =>
      have eint : Tryd.prog.cellsOf 3 = 1 := by kernel_rfl
      have estr : Tryd.prog.cellsOf 9 = 1 := by kernel_rfl
      have g0 : DataW.trod enc Tryd.prog w 0 spare held n 9 (List.take (Tryd.prog.cellsOf 9) (List.drop 0 [c0, c1, c2])) = some y0 := hf 0 _ rfl
      rw [estr] at g0
      replace g0 : DataW.trod enc Tryd.prog w 0 spare held n 9 [c0] = some y0 := g0
      obtain ⟨s0, q0, z0, _⟩ := DataW.trod_string Tryd.underlying9 g0
      have g1 : DataW.trod enc Tryd.prog w 0 spare held n 9 (List.take (Tryd.prog.cellsOf 9) (List.drop 1 [c0, c1, c2])) = some y1 := hf 1 _ rfl
      rw [estr] at g1
      replace g1 : DataW.trod enc Tryd.prog w 0 spare held n 9 [c1] = some y1 := g1
      obtain ⟨s1, q1, z1, _⟩ := DataW.trod_string Tryd.underlying9 g1
      have g2 : DataW.trod enc Tryd.prog w 0 spare held n 3 (List.take (Tryd.prog.cellsOf 3) (List.drop 2 [c0, c1, c2])) = some y2 := hf 2 _ rfl
      rw [eint] at g2
      replace g2 : DataW.trod enc Tryd.prog w 0 spare held n 3 [c2] = some y2 := g2
      obtain ⟨n2, q2, z2, _⟩ := DataW.trod_int Tryd.underlying3 g2
      simp only [List.cons.injEq, and_true] at q0 q1 q2
      exact ⟨⟨s0, s1, n2⟩, by rw [q0, q1, q2], by rw [hx, z0, z1, z2]; rfl⟩
theorem forms_open {fuel : Nat} {cs : List Value} {x : DataW H × List MemPlace} (h : DataW.trod enc Tryd.prog w 0 spare held fuel 102 cs = some x) (fs : List S153) (hne : fs ≠ []) (hd : ∃ sp, x.1 = .slice (fs.map formD) sp) :
    ∃ ad c, cs = [.slice (some ad) fs.length c] ∧ fs.length ≤ c ∧ Kd.C k153 w (some ad) fs.length fs := by
  obtain ⟨sp, hd⟩ := hd
  rcases DataW.trod_slice Tryd.underlying102 h with ⟨_, g⟩ | ⟨a, len, cap, elems, rest, n, _, hcs, hx, _, hlc, hcm, hel, hat, _, _⟩
  · rw [g] at hd; cases hd
  · rw [hx] at hd
    simp only [DataW.slice.injEq] at hd
    have hl : len = fs.length := by rw [← hel]; have := congrArg List.length hd.1; simpa using this
    subst hl
    have e3 : Tryd.prog.cellsOf 153 = 3 := by kernel_rfl
    refine ⟨a, cap, hcs, hlc, rfl, by simp only [maxLen] at hcm; omega, fun _ => ⟨a, rfl, fun j p hj => ?_⟩⟩
    obtain ⟨hj1, hj2⟩ := List.getElem?_eq_some_iff.1 hj
    have h1 := hat j hj1
    rw [e3] at h1
    have h2 : (elems.map (·.1))[j]? = some (formD p) := by rw [hd.1, List.getElem?_map, hj]; rfl
    rw [List.getElem?_map] at h2
    obtain ⟨y, hy, hy2⟩ := Option.map_eq_some_iff.1 h2
    rw [hy] at h1
    obtain ⟨c, hc1, hc2⟩ := Option.bind_eq_some_iff.1 h1
    obtain ⟨q, rfl, hq⟩ := form_open hc2
    have : q = p := form_inj (H := H) (hq.symm.trans hy2)
    subst this
    refine ⟨_, rfl, k153_mk w q, fun i u hu => ?_⟩
    obtain ⟨_, _, hat2⟩ := World.cells?_some hc1
    have hi3 : i < 3 := by have := (List.getElem?_eq_some_iff.1 hu).1; simpa using this
    rw [show a.add (j * k153.sz + i) = (a.add (j * 3)).add i from by rw [Go.Proofs.YtnbfebjcfhbhiaaDoorW.PrintWords.add_add]; rfl]
    exact (hat2 i hi3).trans hu
end
/-- A variable that reads lies in a block of its own, nothing of it frozen. -/
theorem var_block {w : World} {l : List (String × DataW Unit)} (h : laidMet Tryd.prog l w) {n : String} {d : DataW Unit} (hm : (n, d) ∈ l) : ∃ g t cs fuel p T, Tryd.prog.globalNamed n = some g ∧ (Tryd.prog.globals[g]?).map (·.type) = some t ∧ w.var? Tryd.prog n = some cs ∧ DataW.trod (fun _ => ()) Tryd.prog w 0 (fun _ => true) false fuel t cs.toList = some (d, p) ∧ (cs.size ≠ 0 → w.heap[g]? = some (.cells cs T (0, 0))) := by
  obtain ⟨ps, hv, _, hfz⟩ := h
  have : ∀ (l : List (String × DataW Unit)) ps, DataW.LaidVars Tryd.prog w l ps → (n, d) ∈ l → ∃ g t cs fuel p, Tryd.prog.globalNamed n = some g ∧ (Tryd.prog.globals[g]?).map (·.type) = some t ∧ w.var? Tryd.prog n = some cs ∧ DataW.trod (fun _ => ()) Tryd.prog w 0 (fun _ => true) false fuel t cs.toList = some (d, p) ∧ ∀ q ∈ MemPlace.row ⟨g, 0, none⟩ cs.size, q ∈ ps := by
    intro l
    induction l with
    | nil => intro ps _ h; cases h
    | cons x r ih =>
      intro ps h hm
      obtain ⟨n', d'⟩ := x
      obtain ⟨g, t, cs, fuel, p, q, h1, h2, h3, h4, h5, h6⟩ := h
      rcases List.mem_cons.1 hm with e | e
      · cases e
        exact ⟨g, t, cs, fuel, p, h1, h2, h3, h4, fun y hy => by rw [h6]; simp [hy]⟩
      · obtain ⟨g', t', cs', fuel', p', k1, k2, k3, k4, k5⟩ := ih q h5 e
        exact ⟨g', t', cs', fuel', p', k1, k2, k3, k4, fun y hy => by rw [h6]; simp [k5 y hy]⟩
  obtain ⟨g, t, cs, fuel, p, h1, h2, h3, h4, h5⟩ := this l ps hv hm
  unfold World.var? at h3
  rw [h1] at h3
  simp only [Option.bind_some] at h3
  cases ho : w.heap[g]? with
  | none => rw [ho] at h3; simp at h3
  | some o =>
    rw [ho] at h3
    cases o with
    | cells c T fr =>
      simp only [Option.some.injEq] at h3
      subst h3
      refine ⟨g, t, c, fuel, p, T, h1, h2, by unfold World.var?; rw [h1]; simp [ho], h4, fun hz => ?_⟩
      have hin : MemPlace.cell g 0 ∈ MemPlace.row ⟨g, 0, none⟩ c.size := by
        unfold MemPlace.row
        exact List.mem_map.2 ⟨0, List.mem_range.2 (by omega), rfl⟩
      obtain ⟨c2, T2, h6⟩ := (hfz g 0 (h5 _ hin)).1
      rw [ho] at h6
      simp only [Option.some.injEq, Obj.cells.injEq] at h6
      rw [ho, h6.2.2]
    | _ => simp at h3
theorem gOps : Tryd.prog.globalNamed "sluice/script.ops" = some 2 := by kernel_rfl
theorem gSteps : Tryd.prog.globalNamed "sluice/script.steps" = some 1 := by kernel_rfl
theorem gWords : Tryd.prog.globalNamed "sluice/script.configWords" = some 0 := by kernel_rfl
theorem gPow : Tryd.prog.globalNamed "internal/strconv.uint64pow10" = some 3 := by kernel_rfl
theorem gErr : Tryd.prog.globalNamed "strconv.ErrRange" = some 5 := by kernel_rfl
theorem yOps : (Tryd.prog.globals[2]?).map (·.type) = some 102 := by kernel_rfl
theorem ySteps : (Tryd.prog.globals[1]?).map (·.type) = some 102 := by kernel_rfl
theorem yWords : (Tryd.prog.globals[0]?).map (·.type) = some 99 := by kernel_rfl
theorem yErr : (Tryd.prog.globals[5]?).map (·.type) = some 150 := by kernel_rfl
theorem yPow : (Tryd.prog.globals[3]?).map (·.type) = some 203 := by kernel_rfl
theorem dOps : (Rows.laid_sluice_script_ops : DataW Unit) = .slice (opFs.map formD) [] := by rfl
theorem dSteps : (Rows.laid_sluice_script_steps : DataW Unit) = .slice (stepFs.map formD) [] := by rfl
theorem var_forms {W : World} {l : List (String × DataW Unit)} (h : laidMet Tryd.prog l W) {n : String} {d : DataW Unit} {g : Nat} (hm : (n, d) ∈ l) (hg : Tryd.prog.globalNamed n = some g) (hy : (Tryd.prog.globals[g]?).map (·.type) = some 102) (fs : List S153) (hne : fs ≠ []) (hd : d = .slice (fs.map formD) []) :
    ∃ ad c T, W.heap[g]? = some (.cells #[.slice (some ad) fs.length c] T (0, 0)) ∧ fs.length ≤ c ∧ Kd.C k153 W (some ad) fs.length fs := by
  obtain ⟨g', t, cs, fuel, p, T, h1, h2, h3, h4, h5⟩ := var_block h hm
  obtain rfl := Option.some.inj (h1.symm.trans hg)
  obtain rfl := Option.some.inj (h2.symm.trans hy)
  obtain ⟨ad, c, hcs, hlc, hC⟩ := forms_open h4 fs hne ⟨[], hd⟩
  have e : cs = #[.slice (some ad) fs.length c] := by cases cs; simp_all
  subst e
  exact ⟨ad, c, T, h5 (by simp), hlc, hC⟩
theorem dWords : (Rows.laid_sluice_script_configWords : DataW Unit) = .agg ((cfgW0 :: cfgWs).map fun x => .lit (.string x)) := by rfl
theorem dPow : (Rows.laid_internal_strconv_uint64pow10 : DataW Unit) = Lib.tabData .u64 Lib.pow10Tab := by rfl
theorem words_open {w : World} {fuel : Nat} {cs : List Value} {p : List MemPlace} (h : DataW.trod (fun _ => ()) Tryd.prog w 0 (fun _ => true) false fuel 99 cs = some (.agg ((cfgW0 :: cfgWs).map fun x => .lit (.string x)), p)) : cs = (cfgW0 :: cfgWs).map (fun x => Value.string (sb x)) := by
  obtain ⟨xs, m, _, hx, hcl, hxl, hat⟩ := DataW.trod_array Tryd.underlying99 h
  have e1 : Tryd.prog.cellsOf 9 = 1 := by kernel_rfl
  have e10 : Tryd.prog.cellsOf 99 = 10 := by kernel_rfl
  rw [e10] at hcl
  simp only [Prod.mk.injEq, DataW.agg.injEq] at hx
  apply List.ext_getElem?
  intro i
  by_cases hi : i < 10
  · have h1 := hat i hi
    rw [e1, Nat.mul_one] at h1
    have hc : i < cs.length := by omega
    rw [List.drop_eq_getElem_cons hc] at h1
    simp only [List.take_succ_cons, List.take_zero] at h1
    have hw : i < (cfgW0 :: cfgWs).length := hi
    have h2 : (xs.map (·.1))[i]? = some (.lit (.string ((cfgW0 :: cfgWs)[i]))) := by rw [← hx.1, List.getElem?_map, List.getElem?_eq_getElem hw]; rfl
    rw [List.getElem?_map] at h2
    obtain ⟨y, hy, hy2⟩ := Option.map_eq_some_iff.1 h2
    rw [hy] at h1
    obtain ⟨s, q, z, _⟩ := DataW.trod_string Tryd.underlying9 h1
    rw [z] at hy2
    simp only [DataW.lit.injEq, Lit.string.injEq] at hy2
    simp only [List.cons.injEq, and_true] at q
    rw [List.getElem?_eq_getElem hc, q, List.getElem?_map, List.getElem?_eq_getElem hw, ← hy2]
    show some (Value.string s) = some (Value.string (sb (bs s)))
    rw [sb_bs]
  · rw [List.getElem?_eq_none (by omega), List.getElem?_eq_none (by rw [List.length_map]; show 10 ≤ i; omega)]
theorem var_type {W : World} (hS : W.ShapedOpen Tryd.prog) {g : Nat} {cs : Array Value} {T t : TypeId} {fr : Nat × Nat} (hg : g < Tryd.prog.globals.size) (h : W.heap[g]? = some (.cells cs T fr)) (hb : (((begin Tryd.prog (fun _ _ => 0) default).world.heap[g]?).bind Obj.row?).map (·.2) = some t) : T = t := by
  obtain ⟨⟨z, t'⟩, h1, h2⟩ := Option.map_eq_some_iff.1 hb
  simp only at h2
  subst h2
  obtain ⟨cs', h3, _⟩ := hS.1 g z t' hg h1
  rw [h] at h3
  simp only [Option.some.injEq, Obj.cells.injEq] at h3
  exact h3.2.1
/-- WHAT THE LIST GIVES. -/
theorem vars_open {W : World} {l : List (String × DataW Unit)} (hS : W.ShapedOpen Tryd.prog) (h : laidMet Tryd.prog l W) (m1 : ("sluice/script.steps", Rows.laid_sluice_script_steps) ∈ l) (m2 : ("sluice/script.ops", Rows.laid_sluice_script_ops) ∈ l) (m3 : ("sluice/script.configWords", Rows.laid_sluice_script_configWords) ∈ l) (m4 : ("internal/strconv.uint64pow10", Rows.laid_internal_strconv_uint64pow10) ∈ l) (m5 : ("strconv.ErrRange", Rows.laid_strconv_ErrRange) ∈ l) : VS W ∧ VC W ∧ TB W := by
  obtain ⟨a1, c1, T1, k1, k2, k3⟩ := var_forms h m1 gSteps ySteps stepFs (by decide) dSteps
  obtain ⟨a2, c2, T2, j1, j2, j3⟩ := var_forms h m2 gOps yOps opFs (by decide) dOps
  have t1 : T1 = 102 := var_type hS (of_decide_eq_true (by kernel_rfl)) k1 (by kernel_rfl)
  have t2 : T2 = 102 := var_type hS (of_decide_eq_true (by kernel_rfl)) j1 (by kernel_rfl)
  subst t1
  subst t2
  refine ⟨⟨?_, ⟨a2, c2, j1, j2, j3⟩, ⟨a1, c1, k1, k2, k3⟩⟩, ?_, ?_⟩
  · obtain ⟨g', t, cs, fuel, p, T, h1, h2, h3, h4, h5⟩ := var_block h m5
    obtain rfl := Option.some.inj (h1.symm.trans gErr)
    obtain rfl := Option.some.inj (h2.symm.trans yErr)
    unfold VR
    rw [h3]
    obtain ⟨f2, u, v, hcs, _⟩ := iface_of_trod Tryd.underlying150 h4
    refine ⟨u, v, ?_⟩
    congr 1
    cases cs
    simp only at hcs
    rw [hcs]
  · obtain ⟨g', t, cs, fuel, p, T, h1, h2, h3, h4, h5⟩ := var_block h m3
    obtain rfl := Option.some.inj (h1.symm.trans gWords)
    obtain rfl := Option.some.inj (h2.symm.trans yWords)
    rw [dWords] at h4
    have h6 := words_open h4
    have e : cs = ((cfgW0 :: cfgWs).map (fun x => Value.string (sb x))).toArray := by rw [← h6]
    subst e
    exact ⟨T, h5 (by decide)⟩
  · obtain ⟨g', t, cs, fuel, p, T, h1, h2, h3, h4, h5⟩ := var_block h m4
    obtain rfl := Option.some.inj (h1.symm.trans gPow)
    obtain rfl := Option.some.inj (h2.symm.trans yPow)
    rw [dPow] at h4
    unfold TB Lib.TabIs
    rw [h3, ← Lib.cells_of_tab Tryd.underlying203 Tryd.underlying191 (by kernel_rfl) (by kernel_rfl) h4]
end Go.Proofs.YtnbfebjcfhbhiaaDoor.Lv
end
section
namespace Go.Proofs.YtnbfebjcfhbhiaaDoor.Lv
open Go Go.ChangeShapes Go.WideShapes Go.ChangeAt Go.RowKit Go.Lib Go.Proofs.YtnbfebjcfhbhiaaDoor.P Go.Proofs.YtnbfebjcfhbhiaaDoor.Sc Go.Proofs.YtnbfebjcfhbhiaaDoor.Lw Go.Proofs.YtnbfebjcfhbhiaaDoor.Bw Go.Proofs.YtnbfebjcfhbhiaaDoorW.PrintWords
set_option linter.unusedVariables false
set_option linter.unusedSimpArgs false
def formCells (l : List S153) : Array Value := (l.flatMap fun p => [Value.string p.f0, Value.string p.f1, Value.int .i64 p.f2]).toArray
def strS (l : List UInt8) : Value := .string ⟨l.toArray⟩
def agg8 : DataW Unit → List Int
  | .agg l => l.map fun | .lit (.int _ n) => n | _ => 0
  | _ => []
noncomputable def laidWorld (os : Os) : World :=
  let N := (World.settled Tryd.prog os).heap.size
  let w0 := World.holding Tryd.prog os ⟨#[
    .cells #[strS [118, 97, 108, 117, 101, 32, 111, 117, 116, 32, 111, 102, 32, 114, 97, 110, 103, 101]] 213,
    .cells #[strS [105, 110, 118, 97, 108, 105, 100, 32, 115, 121, 110, 116, 97, 120]] 213,
    .cells (formCells stepFs) 153,
    .cells (formCells opFs) 153], #[], []⟩
  let put (h : Array Obj) (g : Nat) (cs : Array Value) : Array Obj := h.modify g fun
    | .cells _ t frozen => .cells cs t frozen
    | o => o
  let h0 := put w0.heap 0 ((cfgW0 :: cfgWs).map strS).toArray
  let h1 := put h0 1 #[.slice (some ⟨N + 2, 0, none⟩) 15 15]
  let h2 := put h1 2 #[.slice (some ⟨N + 3, 0, none⟩) 11 11]
  let h3 := put h2 3 (Lib.pow10Tab.map fun z => Value.int .u64 z).toArray
  let h4 := put h3 4 #[.iface 211 (.pointer (some ⟨N + 1, 0, none⟩))]
  let h5 := put h4 5 #[.iface 211 (.pointer (some ⟨N, 0, none⟩))]
  let h6 := put h5 6 ((agg8 Rows.laid_math_bits_deBruijn32tab).map fun z => Value.int .u8 z).toArray
  let h7 := put h6 7 ((agg8 Rows.laid_math_bits_deBruijn64tab).map fun z => Value.int .u8 z).toArray
  { w0 with heap := h7 }
theorem laid_met (os : Os) (args : Array Value) : laidMet Tryd.prog Rows.scriptParseRow.laid ((laidWorld os).forCall (fun _ _ => 0) ⟨#[], args, []⟩).memory :=
  laidMet_of_run' 8 (by kernel_rfl) (by kernel_rfl)
end Go.Proofs.YtnbfebjcfhbhiaaDoor.Lv
end
section
namespace Go.Proofs.YtnbfebjcfhbhiaaDoor.P
open Go.RowKit Go.Proofs.YtnbfebjcfhbhiaaDoorW.PrintWords Go.Proofs.YtnbfebjcfhbhiaaDoorW.PrintLast Go.Proofs.YtnbfebjcfhbhiaaDoorW.PrintMore
attribute [local go_sem] max2_int min2_int max_two min_two max_three min_three max_four min_four   -- for this text's walks alone
set_option linter.unusedVariables false
set_option linter.unusedSimpArgs false

mutual
def sluicelaw18_offset.l0 : Nat → ByteArray → Int → Int → Int → Int → Option (Int)
  | 0, _, _, _, _, _ => none
  | k + 1, x0, x1, x2, x7, x8 => if x8 < (x0.size : Int) then (sluicelaw18_offset.j1 k x0 x1 x2 x7 x8 (decide (x1 > 1))) else (sluicelaw18_offset.j1 k x0 x1 x2 x7 x8 false)
def sluicelaw18_offset.j1 : Nat → ByteArray → Int → Int → Int → Int → Bool → Option (Int)
  | 0, _, _, _, _, _, _ => none
  | k + 1, x0, x1, x2, x7, x8, x16 => if x16 = true then (if 0 ≤ x8 then (if x8 < (x0.size : Int) then (if (bt x0 x8) = 10 then (sluicelaw18_offset.l0 k x0 (wrap64 (x1 - 1)) x2 (wrap64 (x8 + 1)) (wrap64 (x8 + 1))) else (sluicelaw18_offset.l0 k x0 x1 x2 x7 (wrap64 (x8 + 1)))) else (none)) else (none)) else (if x1 = 1 then (if x2 < 1 then (some (-1)) else (if (wrap64 ((wrap64 (x7 + x2)) - 1)) > (x0.size : Int) then (some (-1)) else (some (wrap64 ((wrap64 (x7 + x2)) - 1))))) else (some (-1)))
end
def sluicelaw18_offset.f (k : Nat) (a0 : ByteArray) (a1 : Int) (a2 : Int) : Option (Int) := sluicelaw18_offset.l0 k a0 a1 a2 0 0
set_option maxHeartbeats 8000000 in
set_option maxRecDepth 100000 in
theorem sluicelaw18_offset.calls (k : Nat) (a0 : ByteArray) (a1 : Int) (a2 : Int) (r : Int) (w : World) (h : sluicelaw18_offset.f k a0 a1 a2 = some r) :
    Calls Tryd.prog 19 #[.string a0, .int .i64 a1, .int .i64 a2] w fun e w' => e = .returned (.int .i64 r) ∧ Drawn0 w w' := by
  have H : (sluicelaw18_offset.l0 k a0 a1 a2 0 0) = some r := h
  clear h
  have H' := Aside0.mk H
  clear H
  go_enter Tryd.func19, Tryd.ntmps19
  go_wp2
  go_loopg [1, 7, 8] k (fun kq v1 v7 v8 w' => ∃ (x1_1 : Int) (x7_1 : Int) (x8_1 : Int), v1 = .int .i64 x1_1 ∧ v7 = .int .i64 x7_1 ∧ v8 = .int .i64 x8_1 ∧ Aside0 (sluicelaw18_offset.l0 kq a0 x1_1 a2 x7_1 x8_1 = some r) ∧ Aside0 (kq ≤ k) ∧ Drawn0 w w')
  case atStart => exact ⟨(a1), (0), (0), (by first | rfl | (simp; done) | (simp [*]; done)), (by first | rfl | (simp; done) | (simp [*]; done)), (by first | rfl | (simp; done) | (simp [*]; done)), H', ⟨Nat.le_refl _⟩, by repeat (first | exact Drawn0.refl _ | apply Drawn0.step)⟩
  case round =>
    clear H'
    try clear c1
    try clear p2
    obtain ⟨x1_1, x7_1, x8_1, rfl, rfl, rfl, HA, HK1, ⟨m1, rfl⟩⟩ := hrel
    cases gk with
    | zero => exact absurd HA.out (by simp [sluicelaw18_offset.l0])
    | succ k1 =>
      have H := HA.out
      clear HA
      simp only [sluicelaw18_offset.l0] at H
      have HC4 := Aside0.mk H
      clear H
      go_upto_region 3 with (fail)
      go_cut [16] (fun v16 wc => ∃ (kq : Nat) (x16_3 : Bool), v16 = .bool x16_3 ∧ Aside0 (sluicelaw18_offset.j1 kq a0 x1_1 a2 x7_1 x8_1 x16_3 = some r) ∧ Aside0 (kq ≤ k1) ∧ Drawn0 w wc)
      case first =>
        have H := HC4.out
        clear HC4
        by_cases c5 : x8_1 < (a0.size : Int)
        · rw [if_pos c5] at H
          have c5b0 : decide (x8_1 < (a0.size : Int)) = true := decide_eq_true c5
          clear c5
          (first | rw [c5b0] | (simp only [i64_w, i32_w]; rw [c5b0]) | skip)
          have H' := Aside0.mk H
          clear H
          go_wp2
          go_meet
          case rel => exact ⟨_, (decide (x1_1 > 1)), (by first | rfl | (simp; done) | (simp [*]; done)), H', ⟨by have := HK1.out; first | omega | exact Nat.le_refl _⟩, by repeat (first | exact Drawn0.refl _ | apply Drawn0.step)⟩
        · rw [if_neg c5] at H
          have c5b0 : decide (x8_1 < (a0.size : Int)) = false := decide_eq_false c5
          clear c5
          (first | rw [c5b0] | (simp only [i64_w, i32_w]; rw [c5b0]) | skip)
          have H' := Aside0.mk H
          clear H
          go_wp2
          go_meet
          case rel => exact ⟨_, (false), (by first | rfl | (simp; done) | (simp [*]; done)), H', ⟨by have := HK1.out; first | omega | exact Nat.le_refl _⟩, by repeat (first | exact Drawn0.refl _ | apply Drawn0.step)⟩
      case rest =>
        clear HC4
        try clear c1
        try clear p2
        try clear c5
        try clear c5b0
        try clear p2
        obtain ⟨kq, x16_3, rfl, HA, HJ3, ⟨mc3, rfl⟩⟩ := hcut
        cases kq with
        | zero => exact absurd HA.out (by simp [sluicelaw18_offset.j1])
        | succ kj3 =>
          have H := HA.out
          clear HA
          simp only [sluicelaw18_offset.j1] at H
          by_cases c6 : x16_3 = true
          · subst c6
            have H1 : (if 0 ≤ x8_1 then (if x8_1 < (a0.size : Int) then (if (bt a0 x8_1) = 10 then (sluicelaw18_offset.l0 kj3 a0 (wrap64 (x1_1 - 1)) a2 (wrap64 (x8_1 + 1)) (wrap64 (x8_1 + 1))) else (sluicelaw18_offset.l0 kj3 a0 x1_1 a2 x7_1 (wrap64 (x8_1 + 1)))) else (none)) else (none)) = some r := by rw [if_pos rfl] at H; exact H
            clear H
            have H := H1
            clear H1
            by_cases c7 : 0 ≤ x8_1
            · rw [if_pos c7] at H
              have c7b0 : decide (0 ≤ x8_1) = true := decide_eq_true c7
              clear c7
              by_cases c8 : x8_1 < (a0.size : Int)
              · rw [if_pos c8] at H
                have c8b0 : decide (x8_1 < (a0.size : Int)) = true := decide_eq_true c8
                clear c8
                by_cases c10 : (bt a0 x8_1) = 10
                · rw [if_pos c10] at H
                  have c10b0 : ((bt a0 x8_1) == 10) = true := beq_iff_eq.mpr c10
                  have c10b1 : ((bt a0 x8_1) != 10) = false := bne_eq_false_iff_eq.mpr c10
                  clear c10
                  have H' := Aside0.mk H
                  clear H
                  have p9 : 0 ≤ (x8_1 : Int) := of_decide_eq_true (by first | (with_reducible assumption) | assumption)
                  have q9 : x8_1 < (a0.size : Int) := of_decide_eq_true (by first | (with_reducible assumption) | assumption)
                  have hx9 := bt_at a0 x8_1
                  replace p9 := eq_true p9
                  replace q9 := eq_true q9
                  go_wp2
                  go_roundg kj3
                  case measure => have := HK1.out; have := HJ3.out; omega
                  case rel => exact ⟨(wrap64 (x1_1 - 1)), (wrap64 (x8_1 + 1)), (wrap64 (x8_1 + 1)), (by first | rfl | (simp; done) | (simp [*]; done)), (by first | rfl | (simp; done) | (simp [*]; done)), (by first | rfl | (simp; done) | (simp [*]; done)), H', ⟨by have := HK1.out; have := HJ3.out; omega⟩, by repeat (first | exact Drawn0.refl _ | apply Drawn0.step)⟩
                · rw [if_neg c10] at H
                  have c10b0 : ((bt a0 x8_1) == 10) = false := beq_eq_false_iff_ne.mpr c10
                  have c10b1 : ((bt a0 x8_1) != 10) = true := bne_iff_ne.mpr c10
                  have H' := Aside0.mk H
                  clear H
                  have p9 : 0 ≤ (x8_1 : Int) := of_decide_eq_true (by first | (with_reducible assumption) | assumption)
                  have q9 : x8_1 < (a0.size : Int) := of_decide_eq_true (by first | (with_reducible assumption) | assumption)
                  have hx9 := bt_at a0 x8_1
                  replace p9 := eq_true p9
                  replace q9 := eq_true q9
                  go_wp2
                  go_roundg kj3
                  case measure => have := HK1.out; have := HJ3.out; omega
                  case rel => exact ⟨(x1_1), (x7_1), (wrap64 (x8_1 + 1)), (by first | rfl | (simp; done) | (simp [*]; done)), (by first | rfl | (simp; done) | (simp [*]; done)), (by first | rfl | (simp; done) | (simp [*]; done)), H', ⟨by have := HK1.out; have := HJ3.out; omega⟩, by repeat (first | exact Drawn0.refl _ | apply Drawn0.step)⟩
              · rw [if_neg c8] at H
                exact absurd H (by simp)
            · rw [if_neg c7] at H
              exact absurd H (by simp)
          · replace c6 := Bool.eq_false_iff.mpr c6
            subst c6
            have H1 : (if x1_1 = 1 then (if a2 < 1 then (some (-1)) else (if (wrap64 ((wrap64 (x7_1 + a2)) - 1)) > (a0.size : Int) then (some (-1)) else (some (wrap64 ((wrap64 (x7_1 + a2)) - 1))))) else (some (-1))) = some r := by rw [if_neg (show ¬ (false = true) by decide)] at H; exact H
            clear H
            have H := H1
            clear H1
            by_cases c11 : x1_1 = 1
            · rw [if_pos c11] at H
              have c11b0 : (x1_1 == 1) = true := beq_iff_eq.mpr c11
              have c11b1 : (x1_1 != 1) = false := bne_eq_false_iff_eq.mpr c11
              clear c11
              by_cases c12 : a2 < 1
              · rw [if_pos c12] at H
                have c12b0 : decide (a2 < 1) = true := decide_eq_true c12
                clear c12
                obtain rfl := Option.some.inj H
                go_wp2
                go_ret
                exact ⟨by first | rfl | (simp; done) | (simp [*]; done), by repeat (first | exact Drawn0.refl _ | apply Drawn0.step)⟩
              · rw [if_neg c12] at H
                have c12b0 : decide (a2 < 1) = false := decide_eq_false c12
                clear c12
                by_cases c13 : (wrap64 ((wrap64 (x7_1 + a2)) - 1)) > (a0.size : Int)
                · rw [if_pos c13] at H
                  have c13b0 : decide ((a0.size : Int) < (wrap64 ((wrap64 (x7_1 + a2)) - 1))) = true := decide_eq_true c13
                  clear c13
                  obtain rfl := Option.some.inj H
                  go_wp2
                  go_ret
                  exact ⟨by first | rfl | (simp; done) | (simp [*]; done), by repeat (first | exact Drawn0.refl _ | apply Drawn0.step)⟩
                · rw [if_neg c13] at H
                  have c13b0 : decide ((a0.size : Int) < (wrap64 ((wrap64 (x7_1 + a2)) - 1))) = false := decide_eq_false c13
                  clear c13
                  obtain rfl := Option.some.inj H
                  go_wp2
                  go_ret
                  exact ⟨by first | rfl | (simp; done) | (simp [*]; done), by repeat (first | exact Drawn0.refl _ | apply Drawn0.step)⟩
            · rw [if_neg c11] at H
              have c11b0 : (x1_1 == 1) = false := beq_eq_false_iff_ne.mpr c11
              have c11b1 : (x1_1 != 1) = true := bne_iff_ne.mpr c11
              obtain rfl := Option.some.inj H
              go_wp2
              go_ret
              exact ⟨by first | rfl | (simp; done) | (simp [*]; done), by repeat (first | exact Drawn0.refl _ | apply Drawn0.step)⟩

end Go.Proofs.YtnbfebjcfhbhiaaDoor.P
end
section
namespace Go.Proofs.YtnbfebjcfhbhiaaDoor.Sc
set_option linter.unusedVariables false
set_option linter.unusedSimpArgs false
/-- Nothing is left. -/
def Done {α : Type} (r : R α) : Prop := r = .bad [] ∨ ∃ x, r = .good x []
/-- At t the reader's answer hangs on what it has read and the next byte alone. -/
def LocAt {α : Type} (p : Rd α) (t : By) : Prop := match p t with
  | .bad r => ∃ u, t = u ++ r ∧ (∀ c0 r0, r = c0 :: r0 → ∀ m, p (u ++ c0 :: m) = .bad (c0 :: m)) ∧ Done (p u)
  | .good x r => ∃ u, t = u ++ r ∧ (∀ c0 r0, r = c0 :: r0 → ∀ m, p (u ++ c0 :: m) = .good x (c0 :: m)) ∧ ∀ n, n ≤ u.length → Done (p (u.take n))
def Loc {α : Type} (p : Rd α) : Prop := ∀ t, LocAt p t
section
variable {α β : Type} {p : Rd α}
theorem LocAt.bad {t r : By} (h : LocAt p t) (e : p t = .bad r) : ∃ u, t = u ++ r ∧ (∀ c0 r0, r = c0 :: r0 → ∀ m, p (u ++ c0 :: m) = .bad (c0 :: m)) ∧ Done (p u) := by unfold LocAt at h; rw [e] at h; exact h
theorem LocAt.good {t r : By} {x : α} (h : LocAt p t) (e : p t = .good x r) : ∃ u, t = u ++ r ∧ (∀ c0 r0, r = c0 :: r0 → ∀ m, p (u ++ c0 :: m) = .good x (c0 :: m)) ∧ ∀ n, n ≤ u.length → Done (p (u.take n)) := by unfold LocAt at h; rw [e] at h; exact h
theorem LocAt.of_bad {t r u : By} (e : p t = .bad r) (h1 : t = u ++ r) (h2 : ∀ c0 r0, r = c0 :: r0 → ∀ m, p (u ++ c0 :: m) = .bad (c0 :: m)) (h3 : Done (p u)) : LocAt p t := by unfold LocAt; rw [e]; exact ⟨u, h1, h2, h3⟩
theorem LocAt.of_good {t r u : By} {x : α} (e : p t = .good x r) (h1 : t = u ++ r) (h2 : ∀ c0 r0, r = c0 :: r0 → ∀ m, p (u ++ c0 :: m) = .good x (c0 :: m)) (h3 : ∀ n, n ≤ u.length → Done (p (u.take n))) : LocAt p t := by unfold LocAt; rw [e]; exact ⟨u, h1, h2, h3⟩
theorem Loc.nil (h : Loc p) : Done (p []) := by
  cases e : p [] with
  | bad r =>
    obtain ⟨u, h1, _⟩ := (h []).bad e
    obtain ⟨rfl, rfl⟩ := List.append_eq_nil_iff.1 h1.symm
    exact .inl rfl
  | good x r =>
    obtain ⟨u, h1, _⟩ := (h []).good e
    obtain ⟨rfl, rfl⟩ := List.append_eq_nil_iff.1 h1.symm
    exact .inr ⟨x, rfl⟩
theorem Done.bnd {r : R α} {q : α → Rd β} (h : Done r) (hq : ∀ x, Loc (q x)) : Done (r.bnd q) := by
  rcases h with rfl | ⟨x, rfl⟩
  · exact .inl rfl
  · exact (hq x).nil
theorem LocAt.bnd {q : α → Rd β} {t : By} (hp : LocAt p t) (hq : ∀ x, Loc (q x)) : LocAt (fun l => (p l).bnd q) t := by
  cases e : p t with
  | bad r =>
    obtain ⟨u, h1, h2, h3⟩ := hp.bad e
    exact LocAt.of_bad (r := r) (u := u) (by simp only [e, R.bnd_bad]) h1 (fun c0 r0 hr m => by simp only [h2 c0 r0 hr m, R.bnd_bad]) (h3.bnd hq)
  | good x l =>
    obtain ⟨u, h1, h2, h3⟩ := hp.good e
    cases f : q x l with
    | bad r =>
      obtain ⟨v, k1, k2, k3⟩ := (hq x l).bad f
      refine LocAt.of_bad (u := u ++ v) (r := r) (by simp only [e, R.bnd_good, f]) (by rw [h1, k1, List.append_assoc]) (fun c0 r0 hr m => ?_) ?_
      · cases v with
        | nil =>
          rw [List.append_nil]
          simp only [h2 c0 r0 (by rw [k1, hr]; rfl) m, R.bnd_good]
          exact k2 c0 r0 hr m
        | cons v0 v1 =>
          rw [List.append_assoc, List.cons_append]
          simp only [h2 v0 (v1 ++ r) (by rw [k1]; rfl) _, R.bnd_good]
          exact k2 c0 r0 hr m
      · cases v with
        | nil =>
          rw [List.append_nil]
          have := h3 u.length (Nat.le_refl _)
          rw [List.take_length] at this
          exact this.bnd hq
        | cons v0 v1 =>
          show Done ((p (u ++ v0 :: v1)).bnd q)
          rw [h2 v0 (v1 ++ r) (by rw [k1]; rfl) v1, R.bnd_good]
          exact k3
    | good y r =>
      obtain ⟨v, k1, k2, k3⟩ := (hq x l).good f
      refine LocAt.of_good (u := u ++ v) (x := y) (r := r) (by simp only [e, R.bnd_good, f]) (by rw [h1, k1, List.append_assoc]) (fun c0 r0 hr m => ?_) (fun n hn => ?_)
      · cases v with
        | nil =>
          rw [List.append_nil]
          simp only [h2 c0 r0 (by rw [k1, hr]; rfl) m, R.bnd_good]
          exact k2 c0 r0 hr m
        | cons v0 v1 =>
          rw [List.append_assoc, List.cons_append]
          simp only [h2 v0 (v1 ++ r) (by rw [k1]; rfl) _, R.bnd_good]
          exact k2 c0 r0 hr m
      · by_cases hu : n ≤ u.length
        · rw [List.take_append_of_le_length hu]
          exact (h3 n hu).bnd hq
        · obtain ⟨d, hd⟩ : ∃ d, n = u.length + (d + 1) := ⟨n - u.length - 1, by omega⟩
          rw [hd, List.take_length_add_append]
          cases v with
          | nil => simp at hn; omega
          | cons v0 v1 =>
            show Done ((p (u ++ v0 :: v1.take d)).bnd q)
            rw [h2 v0 (v1 ++ r) (by rw [k1]; rfl) _, R.bnd_good]
            have := k3 (d + 1) (by simp at hn ⊢; omega)
            exact this
theorem Loc.bnd {q : α → Rd β} (hp : Loc p) (hq : ∀ x, Loc (q x)) : Loc (fun l => (p l).bnd q) := fun t => LocAt.bnd (hp t) hq
theorem Loc.one (x : α) : Loc (Sc.one x) := fun t => LocAt.of_good (u := []) rfl rfl (fun _ _ _ _ => rfl) (fun n hn => by
  have : n = 0 := by simpa using hn
  subst this
  exact .inr ⟨x, rfl⟩)
theorem Loc.stop : Loc (fun r => (R.bad r : R α)) := fun t => LocAt.of_bad (u := []) rfl rfl (fun _ _ _ _ => rfl) (.inl rfl)
theorem Loc.byte (c : UInt8) : Loc (byteP c) := by
  intro t
  match t with
  | [] => exact LocAt.of_bad (u := []) (r := []) rfl rfl (fun _ _ h => by cases h) (.inl rfl)
  | x :: l =>
    by_cases hx : x = c
    · subst hx
      refine LocAt.of_good (u := [x]) (r := l) (x := ()) (by simp [byteP]) rfl (fun c0 r0 _ m => by simp [byteP]) (fun n hn => ?_)
      match n, hn with
      | 0, _ => exact .inl rfl
      | 1, _ => exact .inr ⟨(), by simp [byteP]⟩
      | n + 2, h => simp at h
    · exact LocAt.of_bad (u := []) (r := x :: l) (by simp [byteP, hx]) rfl (fun c0 r0 h m => by cases h; simp [byteP, hx]) (.inl rfl)
/-- One byte decides which of two readers goes on. -/
theorem Loc.alt {q q' : Rd α} (c : UInt8) (hp : ∀ l, p l = if l.head? = some c then q l.tail else q' l) (hq : Loc q) (hq' : Loc q') : Loc p := by
  intro t
  have pn : Done (p []) := by rw [hp]; exact hq'.nil
  match t with
  | [] =>
    have e0 : p [] = q' [] := by rw [hp]; rfl
    cases e : q' [] with
    | bad r =>
      obtain ⟨u, h1, h2, h3⟩ := (hq' []).bad e
      obtain ⟨rfl, rfl⟩ := List.append_eq_nil_iff.1 h1.symm
      exact LocAt.of_bad (u := []) (e0.trans e) rfl (fun _ _ h => by cases h) pn
    | good x r =>
      obtain ⟨u, h1, h2, h3⟩ := (hq' []).good e
      obtain ⟨rfl, rfl⟩ := List.append_eq_nil_iff.1 h1.symm
      exact LocAt.of_good (u := []) (e0.trans e) rfl (fun _ _ h => by cases h) (fun n hn => by simpa using pn)
  | x :: l =>
    by_cases hx : x = c
    · subst hx
      have hh : ∀ m, p (x :: m) = q m := fun m => by rw [hp]; simp
      cases e : q l with
      | bad r =>
        obtain ⟨u, h1, h2, h3⟩ := (hq l).bad e
        exact LocAt.of_bad (u := x :: u) ((hh l).trans e) (by rw [h1]; rfl) (fun c0 r0 hr m => (hh _).trans (h2 c0 r0 hr m)) (by rw [hh]; exact h3)
      | good y r =>
        obtain ⟨u, h1, h2, h3⟩ := (hq l).good e
        refine LocAt.of_good (u := x :: u) ((hh l).trans e) (by rw [h1]; rfl) (fun c0 r0 hr m => (hh _).trans (h2 c0 r0 hr m)) (fun n hn => ?_)
        match n, hn with
        | 0, _ => exact pn
        | n + 1, hn => rw [List.take_succ_cons, hh]; exact h3 n (by simpa using hn)
    · have hh : ∀ m, p (x :: m) = q' (x :: m) := fun m => by rw [hp]; simp [hx]
      cases e : q' (x :: l) with
      | bad r =>
        obtain ⟨u, h1, h2, h3⟩ := (hq' (x :: l)).bad e
        cases u with
        | nil =>
          refine LocAt.of_bad (u := []) ((hh l).trans e) h1 (fun c0 r0 hr m => ?_) pn
          have : x = c0 := by rw [hr] at h1; simp at h1; exact h1.1
          subst this
          exact (hh m).trans (h2 x r0 hr m)
        | cons v u =>
          have : x = v := by simp at h1; exact h1.1
          subst this
          exact LocAt.of_bad (u := x :: u) ((hh l).trans e) h1 (fun c0 r0 hr m => (hh _).trans (h2 c0 r0 hr m)) (by rw [hh]; exact h3)
      | good y r =>
        obtain ⟨u, h1, h2, h3⟩ := (hq' (x :: l)).good e
        cases u with
        | nil =>
          refine LocAt.of_good (u := []) ((hh l).trans e) h1 (fun c0 r0 hr m => ?_) (fun n hn => by simpa using pn)
          have : x = c0 := by rw [hr] at h1; simp at h1; exact h1.1
          subst this
          exact (hh m).trans (h2 x r0 hr m)
        | cons v u =>
          have : x = v := by simp at h1; exact h1.1
          subst this
          refine LocAt.of_good (u := x :: u) ((hh l).trans e) h1 (fun c0 r0 hr m => (hh _).trans (h2 c0 r0 hr m)) (fun n hn => ?_)
          match n, hn with
          | 0, _ => exact pn
          | n + 1, hn => rw [List.take_succ_cons, hh, ← List.take_succ_cons]; exact h3 (n + 1) hn
end
end Go.Proofs.YtnbfebjcfhbhiaaDoor.Sc
end
section
namespace Go.Proofs.YtnbfebjcfhbhiaaDoor.Sc
set_option linter.unusedVariables false
set_option linter.unusedSimpArgs false
section
variable {α β : Type} {p : Rd α}
theorem LocAt.at_nil (h : Done (p [])) : LocAt p [] := by
  rcases h with e | ⟨x, e⟩
  · exact LocAt.of_bad (u := []) e rfl (fun _ _ h => by cases h) (.inl e)
  · exact LocAt.of_good (u := []) e rfl (fun _ _ h => by cases h) (fun n hn => by rw [List.take_nil]; exact .inr ⟨x, e⟩)
theorem LocAt.step {q : Rd α} {c : UInt8} {l : By} (h : ∀ m, p (c :: m) = q m) (h0 : Done (p [])) (hq : LocAt q l) : LocAt p (c :: l) := by
  cases e : q l with
  | bad r =>
    obtain ⟨u, h1, h2, h3⟩ := hq.bad e
    exact LocAt.of_bad (u := c :: u) ((h l).trans e) (by rw [h1]; rfl) (fun c0 r0 hr m => (h _).trans (h2 c0 r0 hr m)) (by rw [h]; exact h3)
  | good y r =>
    obtain ⟨u, h1, h2, h3⟩ := hq.good e
    refine LocAt.of_good (u := c :: u) ((h l).trans e) (by rw [h1]; rfl) (fun c0 r0 hr m => (h _).trans (h2 c0 r0 hr m)) (fun n hn => ?_)
    match n, hn with
    | 0, _ => exact h0
    | n + 1, hn => rw [List.take_succ_cons, h]; exact h3 n (by simpa using hn)
theorem LocAt.stay_bad {c : UInt8} {l : By} (h : ∀ m, p (c :: m) = .bad (c :: m)) (h0 : Done (p [])) : LocAt p (c :: l) :=
  LocAt.of_bad (u := []) (h l) rfl (fun c0 r0 hr m => by cases hr; exact h m) h0
theorem LocAt.stay_good {c : UInt8} {l : By} {x : α} (h : ∀ m, p (c :: m) = .good x (c :: m)) (h0 : Done (p [])) : LocAt p (c :: l) :=
  LocAt.of_good (u := []) (h l) rfl (fun c0 r0 hr m => by cases hr; exact h m) (fun n hn => by
    have : n = 0 := by simpa using hn
    subst this
    exact h0)
theorem Loc.congr {q : Rd α} (h : ∀ l, p l = q l) (hq : Loc q) : Loc p := by have : p = q := funext h; rw [this]; exact hq
end
theorem numGo_done (L m : Nat) : Done (numGo L m []) := .inr ⟨m, rfl⟩
theorem numGo_loc (L : Nat) : ∀ (t : By) (m : Nat), LocAt (numGo L m) t
  | [], m => LocAt.at_nil (numGo_done L m)
  | c :: l, m => by
    by_cases hd : isDig c = true
    · by_cases hb : L < 10 * m + (c.toNat - 48)
      · exact LocAt.stay_bad (fun k => by simp [numGo, hd, hb]) (numGo_done L m)
      · exact LocAt.step (q := numGo L (10 * m + (c.toNat - 48))) (fun k => by simp [numGo, hd, hb]) (numGo_done L m) (numGo_loc L l _)
    · exact LocAt.stay_good (x := m) (fun k => by simp [numGo, hd]) (numGo_done L m)
theorem natP_loc (L : Nat) (neg : Bool) : Loc (natP L neg)
  | [] => LocAt.at_nil (.inl rfl)
  | c :: l => by
    by_cases hd : isDig c = true
    · by_cases h0 : c.toNat = 48
      · cases neg with
        | true => exact LocAt.stay_bad (fun k => by simp [natP, hd, h0]) (.inl rfl)
        | false => exact LocAt.step (q := one 0) (fun k => by simp [natP, hd, h0, one]) (.inl rfl) (Loc.one 0 l)
      · exact LocAt.step (q := numGo L (c.toNat - 48)) (fun k => by simp [natP, hd, h0]) (.inl rfl) (numGo_loc L l _)
    · exact LocAt.stay_bad (fun k => by simp [natP, hd]) (.inl rfl)
theorem numP_loc : Loc numP :=
  Loc.alt 45 (q := fun l => (natP (maxI + 1) true l).bnd (fun m r => .good (-(m : Int)) r)) (q' := fun l => (natP maxI false l).bnd (fun m r => .good (m : Int) r)) (fun l => rfl)
    (Loc.bnd (natP_loc _ _) (fun m => Loc.one _)) (Loc.bnd (natP_loc _ _) (fun m => Loc.one _))
theorem textGo_done : Done (textGo []) := .inr ⟨[], rfl⟩
def hexG2 (a : Nat) : Rd By
  | [] => .bad []
  | k :: l2 => match hexV k with
    | none => .bad (k :: l2)
    | some b => if plainB (hexB a b) then .bad (k :: l2) else (textGo l2).bnd (fun x r => .good (hexB a b :: x) r)
def hexG1 : Rd By
  | [] => .bad []
  | h :: l1 => match hexV h with
    | none => .bad (h :: l1)
    | some a => hexG2 a l1
theorem textGo_hex {c : UInt8} (h : ¬ plainB c = true) (h2 : c.toNat = 37) (l : By) : textGo (c :: l) = hexG1 l := by
  match l with
  | [] => simp [textGo, h, h2, hexG1]
  | [x] => simp only [textGo, h, h2, hexG1, if_true, Bool.false_eq_true, if_false]; cases hexV x <;> rfl
  | x :: y :: l =>
    simp only [textGo, h, h2, hexG1, if_true, Bool.false_eq_true, if_false]
    cases hexV x with
    | none => rfl
    | some a =>
      simp only [hexG2]
      cases hexV y <;> rfl
theorem textGo_loc : ∀ (n : Nat) (t : By), t.length ≤ n → LocAt textGo t
  | _, [], _ => LocAt.at_nil textGo_done
  | 0, c :: l, h => by simp at h
  | n + 1, c :: l, hn => by
    by_cases hp : plainB c = true
    · exact LocAt.step (fun m => textGo_plain hp m) textGo_done (LocAt.bnd (textGo_loc n l (by simpa using hn)) (fun x => Loc.one _))
    · by_cases h2 : c.toNat = 37
      · refine LocAt.step (fun m => textGo_hex hp h2 m) textGo_done ?_
        match l, hn with
        | [], _ => exact LocAt.at_nil (.inl rfl)
        | h :: l1, hn =>
          cases hv : hexV h with
          | none => exact LocAt.stay_bad (fun m => by simp only [hexG1, hv]) (.inl rfl)
          | some a =>
            refine LocAt.step (q := hexG2 a) (fun m => by simp only [hexG1, hv]) (.inl rfl) ?_
            match l1, hn with
            | [], _ => exact LocAt.at_nil (.inl rfl)
            | k :: l2, hn =>
              cases hw : hexV k with
              | none => exact LocAt.stay_bad (fun m => by simp only [hexG2, hw]) (.inl rfl)
              | some b =>
                by_cases hb : plainB (hexB a b) = true
                · exact LocAt.stay_bad (fun m => by simp only [hexG2, hw, hb, if_true]) (.inl rfl)
                · refine LocAt.step (q := fun l2 => (textGo l2).bnd (fun x r => .good (hexB a b :: x) r)) (fun m => by simp only [hexG2, hw]; rw [if_neg hb]) (.inl rfl) ?_
                  exact LocAt.bnd (textGo_loc n l2 (by simp at hn; omega)) (fun x => Loc.one _)
      · exact LocAt.stay_good (fun m => textGo_stop hp h2 m) textGo_done
theorem textP_loc : Loc textP :=
  Loc.alt 45 (q := one []) (q' := fun l => (textGo l).bnd fun x r => if x = [] then .bad r else .good x r) (fun l => rfl) (Loc.one _)
    (Loc.bnd (fun t => textGo_loc t.length t (Nat.le_refl _)) (fun x => by
      by_cases hx : x = []
      · exact Loc.congr (fun l => by simp [hx]) Loc.stop
      · exact Loc.congr (q := one x) (fun l => by simp [hx, one]) (Loc.one x)))
theorem common_le_left : ∀ (l w : By), common l w ≤ l.length
  | [], _ => by simp [common]
  | _ :: _, [] => by simp [common]
  | x :: a, y :: b => by
    have := common_le_left a b
    by_cases h : x = y
    · simp [common, h]; omega
    · simp [common, h]
theorem common_pre : ∀ (l w : By), common l w = w.length ↔ w <+: l
  | l, [] => by cases l <;> simp [common]
  | [], _ :: _ => by simp [common]
  | x :: a, y :: b => by
    have := common_pre a b
    by_cases h : x = y
    · simp [common, h, List.cons_prefix_cons, this]
    · simp [common, h, List.cons_prefix_cons, Ne.symm h]
theorem common_ext : ∀ (l w m : By) (n : Nat), common l w < n → n ≤ l.length → common (l.take n ++ m) w = common l w
  | [], _, _, n, h1, h2 => by simp at h2; omega
  | x :: a, [], m, n, h1, h2 => by cases n <;> simp [common] at h1 ⊢
  | x :: a, y :: b, m, 0, h1, h2 => by omega
  | x :: a, y :: b, m, n + 1, h1, h2 => by
    by_cases h : x = y
    · simp [common, h] at h1 h2 ⊢
      exact common_ext a b m n h1 h2
    · simp [common, h]
theorem common_take : ∀ (l w : By) (n : Nat), common (l.take n) w = min (common l w) n
  | [], _, n => by simp [common]
  | x :: a, [], n => by cases n <;> simp [common]
  | x :: a, y :: b, 0 => by simp [common]
  | x :: a, y :: b, n + 1 => by
    by_cases h : x = y
    · simp [common, h, common_take a b n]
    · simp [common, h]
theorem common_pref {u w : By} (m : By) (h : w <+: u) : common (u ++ m) w = w.length := (common_pre _ _).2 (h.trans (List.prefix_append u m))
def maxC : List By → Nat → By → Nat
  | [], b, _ => b
  | w :: ws, b, l => maxC ws (max b (common l w)) l
theorem maxC_le (l : By) : ∀ (ws : List By) (b : Nat), b ≤ maxC ws b l
  | [], b => Nat.le_refl _
  | w :: ws, b => Nat.le_trans (Nat.le_max_left _ _) (maxC_le l ws _)
theorem maxC_mem (l : By) : ∀ (ws : List By) (b : Nat) (w : By), w ∈ ws → common l w ≤ maxC ws b l
  | [], b, w, h => by cases h
  | v :: ws, b, w, h => by
    rcases List.mem_cons.1 h with rfl | h
    · exact Nat.le_trans (Nat.le_max_right _ _) (maxC_le l ws _)
    · exact maxC_mem l ws _ w h
theorem maxC_len (l : By) : ∀ (ws : List By) (b : Nat), b ≤ l.length → maxC ws b l ≤ l.length
  | [], b, h => h
  | w :: ws, b, h => maxC_len l ws _ (Nat.max_le.2 ⟨h, common_le_left l w⟩)
theorem maxC_congr (l l' : By) : ∀ (ws : List By) (b : Nat), (∀ w ∈ ws, common l' w = common l w) → maxC ws b l' = maxC ws b l
  | [], b, h => rfl
  | w :: ws, b, h => by
    show maxC ws (max b (common l' w)) l' = maxC ws (max b (common l w)) l
    rw [h w (.head _)]
    exact maxC_congr l l' ws _ (fun v hv => h v (.tail _ hv))
theorem oneFrom_bad (l : By) : ∀ (ws : List By) (i b : Nat), (∀ w ∈ ws, common l w ≠ w.length) → oneFrom ws i b l = .bad (l.drop (maxC ws b l))
  | [], i, b, h => rfl
  | w :: ws, i, b, h => by
    simp only [oneFrom, if_neg (h w (.head _))]
    exact oneFrom_bad l ws _ _ (fun v hv => h v (.tail _ hv))
theorem oneFrom_good (l w : By) (hw : common l w = w.length) (ws2 : List By) : ∀ (ws1 : List By) (i b : Nat), (∀ v ∈ ws1, common l v ≠ v.length) → oneFrom (ws1 ++ w :: ws2) i b l = .good (i + ws1.length) (l.drop w.length)
  | [], i, b, h => by simp [oneFrom, hw]
  | v :: ws, i, b, h => by
    simp only [List.cons_append, oneFrom, if_neg (h v (.head _))]
    rw [oneFrom_good l w hw ws2 ws _ _ (fun v hv => h v (.tail _ hv))]
    simp; omega
theorem first_of (l : By) : ∀ (ws : List By), (∀ w ∈ ws, common l w ≠ w.length) ∨ ∃ ws1 w ws2, ws = ws1 ++ w :: ws2 ∧ common l w = w.length ∧ ∀ v ∈ ws1, common l v ≠ v.length
  | [] => .inl (fun _ h => by cases h)
  | w :: ws => by
    by_cases h : common l w = w.length
    · exact .inr ⟨[], w, ws, rfl, h, fun _ h => by cases h⟩
    · rcases first_of l ws with h2 | ⟨ws1, v, ws2, rfl, h3, h4⟩
      · exact .inl (fun v hv => by (rcases List.mem_cons.1 hv with rfl | hv); exact h; exact h2 v hv)
      · exact .inr ⟨w :: ws1, v, ws2, rfl, h3, fun x hx => by (rcases List.mem_cons.1 hx with rfl | hx); exact h; exact h4 x hx⟩
def PF (ws : List By) : Prop := ∀ w ∈ ws, ∀ v ∈ ws, w <+: v → w = v
theorem oneP_loc {ws : List By} (hf : PF ws) : Loc (oneP ws) := by
  intro t
  rcases first_of t ws with hb | ⟨ws1, w, ws2, rfl, hw, hb⟩
  · have hB : maxC ws 0 t ≤ t.length := maxC_len t ws 0 (Nat.zero_le _)
    refine LocAt.of_bad (u := t.take (maxC ws 0 t)) (oneFrom_bad t ws 0 0 hb) (List.take_append_drop _ t).symm (fun c0 r0 hr m => ?_) ?_
    · have hlt : maxC ws 0 t < t.length := by
        have := congrArg List.length hr
        simp at this; omega
      have hu : t.take (maxC ws 0 t) ++ c0 :: m = t.take (maxC ws 0 t + 1) ++ m := by
        rw [List.take_add_one, List.append_assoc]
        have : t[maxC ws 0 t]? = some c0 := by
          have := congrArg List.head? hr
          simpa [List.head?_drop] using this
        rw [this]; rfl
      have hc : ∀ v ∈ ws, common (t.take (maxC ws 0 t) ++ c0 :: m) v = common t v := fun v hv => by
        rw [hu]; exact common_ext t v m _ (Nat.lt_succ_of_le (maxC_mem t ws 0 v hv)) hlt
      show oneFrom ws 0 0 _ = _
      rw [oneFrom_bad _ ws 0 0 (fun v hv => by rw [hc v hv]; exact hb v hv), maxC_congr t _ ws 0 hc]
      congr 1
      rw [List.drop_append_of_le_length (by simp; omega), List.drop_take_self, List.nil_append]
    · have hc : ∀ v ∈ ws, common (t.take (maxC ws 0 t)) v = common t v := fun v hv => by
        rw [common_take]; exact Nat.min_eq_left (maxC_mem t ws 0 v hv)
      show Done (oneFrom ws 0 0 _)
      rw [oneFrom_bad _ ws 0 0 (fun v hv => by rw [hc v hv]; exact hb v hv), maxC_congr t _ ws 0 hc, List.drop_take_self]
      exact .inl rfl
  · obtain ⟨r, rfl⟩ := (common_pre t w).1 hw
    have hno : ∀ m, ∀ v ∈ ws1, common (w ++ m) v ≠ v.length := fun m v hv hc => by
      have h1 := (common_pre _ _).1 hc
      have h2 : w <+: w ++ m := List.prefix_append w m
      have hv' : v ∈ ws1 ++ w :: ws2 := List.mem_append.2 (.inl hv)
      have hw' : w ∈ ws1 ++ w :: ws2 := List.mem_append.2 (.inr (.head _))
      have : v = w := by
        rcases Nat.le_total v.length w.length with hl | hl
        · exact hf v hv' w hw' (List.prefix_of_prefix_length_le h1 h2 hl)
        · exact (hf w hw' v hv' (List.prefix_of_prefix_length_le h2 h1 hl)).symm
      subst this
      exact hb v hv hw
    have hg : ∀ m, oneP (ws1 ++ w :: ws2) (w ++ m) = .good (0 + ws1.length) m := fun m => by
      have := oneFrom_good (w ++ m) w (common_pref m (List.prefix_refl w)) ws2 ws1 0 0 (hno m)
      rw [List.drop_left] at this
      exact this
    refine LocAt.of_good (u := w) (hg r) rfl (fun c0 r0 hr m => hg _) (fun n hn => ?_)
    by_cases hlt : n = w.length
    · subst hlt
      rw [List.take_length]
      have := hg []
      rw [List.append_nil] at this
      exact .inr ⟨_, this⟩
    · show Done (oneFrom _ 0 0 _)
      have hw' : w ∈ ws1 ++ w :: ws2 := List.mem_append.2 (.inr (.head _))
      rw [oneFrom_bad (w.take n) (ws1 ++ w :: ws2) 0 0 (fun v hv hc => by
        have h1 := (common_pre _ _).1 hc
        have h2 := hf v hv w hw' (h1.trans (List.take_prefix n w))
        subst h2
        have := h1.length_le
        simp at this; omega)]
      left
      congr 1
      refine List.drop_eq_nil_of_le ?_
      have := maxC_mem (w.take n) (ws1 ++ w :: ws2) 0 w hw'
      rw [common_take, (common_pre w w).2 (List.prefix_refl w)] at this
      simp; omega
theorem pf_one (w : By) : PF [w] := fun a ha b hb _ => by simp at ha hb; rw [ha, hb]
theorem pf_step : PF stepWs := by unfold PF stepWs; decide +kernel
theorem pf_op : PF opWs := by unfold PF opWs; decide +kernel
theorem namedP_loc (w : By) : Loc (namedP w) := Loc.bnd (oneP_loc (pf_one w)) (fun _ => Loc.bnd (Loc.byte 32) (fun _ => numP_loc))
theorem cfgGo_loc : ∀ ws : List By, Loc (cfgGo ws)
  | [] => Loc.congr (fun l => by unfold cfgGo; rfl) (Loc.one [])
  | w :: ws => Loc.congr (fun l => by (conv => lhs; unfold cfgGo); rfl) (Loc.bnd (Loc.byte 32) (fun _ => Loc.bnd (namedP_loc w) (fun n => Loc.bnd (cfgGo_loc ws) (fun x => Loc.one (n :: x)))))
theorem cfgP_loc : Loc cfgP := Loc.bnd (namedP_loc _) (fun n => Loc.bnd (cfgGo_loc _) (fun x => Loc.one (n :: x)))
theorem wordP_loc (p : Part) (x : St) : Loc (wordP p x) := by
  cases p with
  | d => exact Loc.bnd textP_loc (fun t => Loc.one _)
  | k => exact Loc.bnd textP_loc (fun t => Loc.one _)
  | _ => exact Loc.bnd numP_loc (fun v => Loc.one _)
theorem opGo_loc : ∀ (ps : List Part) (x : St), Loc (opGo ps x)
  | [], x => Loc.congr (fun l => by unfold opGo; rfl) (Loc.one x)
  | p :: ps, x => Loc.congr (fun l => by conv => lhs; unfold opGo) (Loc.bnd (Loc.byte 32) (fun _ => Loc.bnd (wordP_loc p x) (fun y => opGo_loc ps y)))
theorem partGo_loc : ∀ (ps : List Part) (x : St), Loc (partGo ps x)
  | [], x => Loc.congr (fun l => by unfold partGo; rfl) (Loc.one x)
  | p :: ps, x => by
    have hw : ∀ q, Loc (fun l => (byteP 32 l).bnd fun _ l => (wordP q x l).bnd fun x l => partGo ps x l) := fun q => Loc.bnd (Loc.byte 32) (fun _ => Loc.bnd (wordP_loc q x) (fun y => partGo_loc ps y))
    cases p with
    | o => exact Loc.congr (fun l => by conv => lhs; unfold partGo) (Loc.bnd (Loc.byte 32) (fun _ => Loc.bnd (Loc.bnd (oneP_loc pf_op) (fun g => opGo_loc _ _)) (fun y => partGo_loc ps y)))
    | _ => exact Loc.congr (fun l => by conv => lhs; unfold partGo) (hw _)
theorem stepP_loc : Loc stepP := Loc.bnd (oneP_loc pf_step) (fun f => partGo_loc _ _)
end Go.Proofs.YtnbfebjcfhbhiaaDoor.Sc
end
section
namespace Go.Proofs.YtnbfebjcfhbhiaaDoor.Sc
set_option linter.unusedVariables false
set_option linter.unusedSimpArgs false
theorem take_len_left {α : Type} (a b : List α) : (a ++ b).take a.length = a := by simp
theorem take_len_more {α : Type} (a : List α) (c : α) (b : List α) : (a ++ c :: b).take (a.length + 1) = a ++ [c] := by rw [List.take_length_add_append]; rfl
theorem lineE_done {α : Type} {p : Rd α} {u : By} (h : Done (p u)) : lineE p u false = .error u.length := by
  rcases h with e | ⟨x, e⟩ <;> simp [lineE, e]
theorem lineE_cut {α : Type} {p : Rd α} (hp : Loc p) {t : By} {w : Bool} {k : Nat} (h : lineE p t w = .error k) :
    k ≤ t.length ∧ lineE p (t.take k) false = .error k ∧ (k < t.length → ∀ m w', lineE p (t.take (k + 1) ++ m) w' = .error k) := by
  unfold lineE at h
  cases e : p t with
  | bad r =>
    rw [e] at h
    obtain ⟨u, rfl, h2, h3⟩ := (hp t).bad e
    simp at h
    subst h
    refine ⟨by simp, by rw [take_len_left]; exact lineE_done h3, fun hl m w' => ?_⟩
    cases r with
    | nil => simp at hl
    | cons c r0 =>
      rw [take_len_more, List.append_assoc]
      have := h2 c r0 rfl m
      simp only [lineE, List.cons_append, List.nil_append, this]
      simp
  | good x r =>
    rw [e] at h
    obtain ⟨u, rfl, h2, h3⟩ := (hp t).good e
    have hd := h3 u.length (Nat.le_refl _)
    rw [List.take_length] at hd
    cases r with
    | nil =>
      cases w with
      | true => simp at h
      | false =>
        simp at h
        subst h
        refine ⟨by simp, by rw [take_len_left]; exact lineE_done hd, fun hl => by simp at hl⟩
    | cons c r0 =>
      simp at h
      have hk : k = u.length := by omega
      subst hk
      refine ⟨by simp, by rw [take_len_left]; exact lineE_done hd, fun hl m w' => ?_⟩
      rw [take_len_more, List.append_assoc]
      have := h2 c r0 rfl m
      simp only [lineE, List.cons_append, List.nil_append, this]
      simp
theorem nl_split (t : By) : (∀ c ∈ t, c ≠ 10) ∨ ∃ a b, t = a ++ 10 :: b ∧ ∀ c ∈ a, c ≠ 10 := by
  induction t with
  | nil => exact .inl (fun _ h => by cases h)
  | cons c t ih =>
    by_cases hc : c = 10
    · exact .inr ⟨[], t, by rw [hc]; rfl, fun _ h => by cases h⟩
    · rcases ih with h | ⟨a, b, rfl, h⟩
      · left; intro x hx
        rcases List.mem_cons.1 hx with rfl | hx
        · exact hc
        · exact h x hx
      · refine .inr ⟨c :: a, b, rfl, fun x hx => ?_⟩
        rcases List.mem_cons.1 hx with rfl | hx
        · exact hc
        · exact h x hx
/-- What begins with a piece of a line: its first line begins with that piece. -/
theorem lines_begin {a : By} (ha : a ≠ []) (hn : ∀ c ∈ a, c ≠ 10) (m : By) : ∃ m' w r, lines (a ++ m) = (a ++ m', w) :: r := by
  rcases nl_split m with h | ⟨x, y, rfl, h⟩
  · refine ⟨m, false, [], ?_⟩
    rw [lines_end _ (fun c hc => (List.mem_append.1 hc).elim (hn c) (h c)), if_neg (by simp [ha])]
  · refine ⟨x, true, lines y, ?_⟩
    rw [← List.append_assoc, lines_nl _ _ (fun c hc => (List.mem_append.1 hc).elim (hn c) (h c))]
def nl (a : By) : Nat := a.count 10
/-- The column's line: how it is read. -/
def rdE (cfg : Option (List Int)) (t : By) (w : Bool) : Option Nat := match cfg with
  | some _ => match lineE stepP t w with | .error k => some k | .ok _ => none
  | none => match lineE cfgP t w with | .error k => some k | .ok _ => none
theorem rdE_cut {cfg : Option (List Int)} {t : By} {w : Bool} {k : Nat} (h : rdE cfg t w = some k) :
    k ≤ t.length ∧ rdE cfg (t.take k) false = some k ∧ (k < t.length → ∀ m w', rdE cfg (t.take (k + 1) ++ m) w' = some k) := by
  cases cfg with
  | none =>
    cases e : lineE cfgP t w with
    | ok x => simp [rdE, e] at h
    | error j =>
      simp [rdE, e] at h
      subst h
      obtain ⟨h1, h2, h3⟩ := lineE_cut cfgP_loc e
      exact ⟨h1, by simp [rdE, h2], fun hl m w' => by simp [rdE, h3 hl m w']⟩
  | some c =>
    cases e : lineE stepP t w with
    | ok x => simp [rdE, e] at h
    | error j =>
      simp [rdE, e] at h
      subst h
      obtain ⟨h1, h2, h3⟩ := lineE_cut stepP_loc e
      exact ⟨h1, by simp [rdE, h2], fun hl m w' => by simp [rdE, h3 hl m w']⟩
theorem go_err {t : By} {w : Bool} {r : List (By × Bool)} {i k : Nat} {cfg : Option (List Int)} {out : List St} (h35 : ¬ t.head? = some 35) (h0 : t ≠ []) (h : rdE cfg t w = some k) :
    parseGo ((t, w) :: r) i cfg out = .place (i + 1) (k + 1) := by
  cases cfg with
  | none =>
    cases e : lineE cfgP t w with
    | ok x => simp [rdE, e] at h
    | error j =>
      simp [rdE, e] at h
      subst h
      simp [parseGo, h35, h0, e]
  | some c =>
    cases e : lineE stepP t w with
    | ok x => simp [rdE, e] at h
    | error j =>
      simp [rdE, e] at h
      subst h
      simp [parseGo, h35, h0, e]
theorem go_fine {t : By} {w : Bool} {i : Nat} {cfg : Option (List Int)} {out : List St} (h35 : ¬ t.head? = some 35) (h0 : t ≠ []) (h : rdE cfg t w = none) :
    ∃ cfg' out', ∀ r, parseGo ((t, w) :: r) i cfg out = parseGo r (i + 1) cfg' out' := by
  cases cfg with
  | none =>
    cases e : lineE cfgP t w with
    | ok x => exact ⟨some x, out, fun r => by simp [parseGo, h35, h0, e]⟩
    | error j => simp [rdE, e] at h
  | some c =>
    cases e : lineE stepP t w with
    | ok x => exact ⟨some c, out ++ [x], fun r => by simp [parseGo, h35, h0, e]⟩
    | error j => simp [rdE, e] at h
theorem rdE_false {cfg : Option (List Int)} {t : By} : rdE cfg t false ≠ none := by
  intro h
  have : ∀ {α : Type} (p : Rd α) (x : α), lineE p t false ≠ .ok x := fun p x h => by
    unfold lineE at h
    split at h <;> simp at h
  cases cfg with
  | none =>
    cases e : lineE cfgP t false with
    | ok x => exact this _ _ e
    | error j => simp [rdE, e] at h
  | some c =>
    cases e : lineE stepP t false with
    | ok x => exact this _ _ e
    | error j => simp [rdE, e] at h
/-- Fine, too long, or this place. -/
def Same (o : Out) (L C : Nat) : Prop := o = .place L C ∨ (∃ c l, o = .ok c l) ∨ o = .long
/-- A piece of the failing line, cut off where it fails. -/
theorem cut_line {t : By} {i k : Nat} {cfg : Option (List Int)} {out : List St} (hn : ∀ c ∈ t, c ≠ 10) (h35 : ¬ t.head? = some 35) {w : Bool} (h : rdE cfg t w = some k) :
    Same (parseGo (lines (t.take k)) i cfg out) (i + 1) (k + 1) := by
  obtain ⟨h1, h2, _⟩ := rdE_cut h
  have hn' : ∀ c ∈ t.take k, c ≠ 10 := fun c hc => hn c (List.mem_of_mem_take hc)
  rw [lines_end _ hn']
  by_cases h0 : t.take k = []
  · rw [if_pos h0]
    have hk : k = 0 := by
      have := congrArg List.length h0
      simp at this
      rcases this with h | h
      · exact h
      · subst h; simpa using h1
    subst hk
    cases cfg with
    | none => exact .inl rfl
    | some c =>
      show Same (if 20000 < out.length then .long else .ok c out) _ _
      by_cases hl : 20000 < out.length
      · rw [if_pos hl]; exact .inr (.inr rfl)
      · rw [if_neg hl]; exact .inr (.inl ⟨_, _, rfl⟩)
  · rw [if_neg h0]
    refine .inl (go_err ?_ h0 h2)
    intro hh
    cases t with
    | nil => simp at h0
    | cons c l => cases k with
      | zero => simp at h0
      | succ k => simp at hh h35; exact h35 hh
theorem more_line {t : By} {i k : Nat} {cfg : Option (List Int)} {out : List St} (hn : ∀ c ∈ t, c ≠ 10) (h35 : ¬ t.head? = some 35) {w : Bool} (h : rdE cfg t w = some k) (hk : k < t.length) (m : By) :
    parseGo (lines (t.take (k + 1) ++ m)) i cfg out = .place (i + 1) (k + 1) := by
  obtain ⟨_, _, h3⟩ := rdE_cut h
  have ht : t.take (k + 1) ≠ [] := by
    intro h0
    have := congrArg List.length h0
    simp at this; subst this; simp at hk
  obtain ⟨m', w', r, e⟩ := lines_begin ht (fun c hc => hn c (List.mem_of_mem_take hc)) m
  rw [e]
  refine go_err ?_ (by simp [ht]) (h3 hk m' w')
  cases t with
  | nil => simp at hk
  | cons c l => simpa using h35
theorem place_go : ∀ (n : Nat) (t : By) (i : Nat) (cfg : Option (List Int)) (out : List St) (L C : Nat), t.length ≤ n → parseGo (lines t) i cfg out = .place L C →
    ∃ a b k, t = a ++ b ∧ k ≤ b.length ∧ C = k + 1 ∧ L = i + nl a + 1 ∧ (a = [] ∨ a.getLast? = some 10) ∧ Same (parseGo (lines (a ++ b.take k)) i cfg out) L C ∧
      (k < b.length → ∀ m, parseGo (lines (a ++ b.take (k + 1) ++ m)) i cfg out = .place L C)
  | n, t, i, cfg, out, L, C, hn, h => by
    rcases nl_split t with hs | ⟨l, r, rfl, hs⟩
    · rw [lines_end t hs] at h
      by_cases h0 : t = []
      · rw [if_pos h0] at h
        subst h0
        cases cfg with
        | none =>
          have : Out.place (i + 1) 1 = .place L C := h
          injection this with h1 h2
          subst h1 h2
          exact ⟨[], [], 0, rfl, Nat.le_refl _, rfl, by simp [nl], .inl rfl, .inl rfl, fun h => by simp at h⟩
        | some c =>
          have : (if 20000 < out.length then Out.long else .ok c out) = .place L C := h
          split at this <;> cases this
      · rw [if_neg h0] at h
        by_cases h35 : t.head? = some 35
        · have e : parseGo [(t, false)] i cfg out = .place (i + 1) (t.length + 1) := by cases cfg <;> simp [parseGo, h35]
          rw [e] at h
          injection h with h1 h2
          subst h1 h2
          refine ⟨[], t, t.length, rfl, Nat.le_refl _, rfl, by simp [nl], .inl rfl, ?_, fun h => absurd h (Nat.lt_irrefl _)⟩
          rw [List.nil_append, List.take_length, lines_end t hs, if_neg h0, e]
          exact .inl rfl
        · cases er : rdE cfg t false with
          | none => exact absurd er rdE_false
          | some k =>
            rw [go_err h35 h0 er] at h
            injection h with h1 h2
            subst h1 h2
            exact ⟨[], t, k, rfl, (rdE_cut er).1, rfl, by simp [nl], .inl rfl, cut_line hs h35 er, fun hk m => more_line hs h35 er hk m⟩
    · have go : ∀ cfg' out', (∀ x, parseGo (lines (l ++ 10 :: x)) i cfg out = parseGo (lines x) (i + 1) cfg' out') → ∃ a b k, l ++ 10 :: r = a ++ b ∧ k ≤ b.length ∧ C = k + 1 ∧ L = i + nl a + 1 ∧ (a = [] ∨ a.getLast? = some 10) ∧ Same (parseGo (lines (a ++ b.take k)) i cfg out) L C ∧
          (k < b.length → ∀ m, parseGo (lines (a ++ b.take (k + 1) ++ m)) i cfg out = .place L C) := fun cfg' out' hF => by
        rw [hF] at h
        have hlt : r.length < n := by simp at hn; omega
        obtain ⟨a, b, k, rfl, hk, hC, hL, ha, hs1, hs2⟩ := place_go (n - 1) r (i + 1) cfg' out' L C (by omega) h
        refine ⟨l ++ 10 :: a, b, k, by simp, hk, hC, ?_, ?_, ?_, fun hkl m => ?_⟩
        · rw [hL]
          have : l.count 10 = 0 := List.count_eq_zero.2 (fun hm => hs 10 hm rfl)
          simp [nl, this]; omega
        · right
          rcases ha with rfl | ha
          · simp
          · rw [List.getLast?_append, List.getLast?_cons]
            rw [ha]; rfl
        · rw [List.append_assoc, List.cons_append, hF]; exact hs1
        · rw [List.append_assoc, List.append_assoc, List.cons_append, hF, ← List.append_assoc]; exact hs2 hkl m
      rw [lines_nl l r hs] at h
      by_cases h35 : l.head? = some 35
      · exact go cfg out (fun x => by rw [lines_nl l x hs]; cases cfg <;> simp [parseGo, h35])
      · by_cases h0 : l = []
        · exact go cfg out (fun x => by rw [lines_nl l x hs]; cases cfg <;> simp [parseGo, h0])
        · cases er : rdE cfg l true with
          | none =>
            obtain ⟨cfg', out', hF⟩ := go_fine (i := i) (out := out) h35 h0 er
            exact go cfg' out' (fun x => by rw [lines_nl l x hs]; exact hF _)
          | some k =>
            rw [go_err h35 h0 er] at h
            injection h with h1 h2
            subst h1 h2
            have hk := (rdE_cut er).1
            refine ⟨[], l ++ 10 :: r, k, rfl, by simp; omega, rfl, by simp [nl], .inl rfl, ?_, fun hkl m => ?_⟩
            · rw [List.nil_append, List.take_append_of_le_length hk]
              exact cut_line hs h35 er
            · rw [List.nil_append]
              by_cases hl : k < l.length
              · rw [List.take_append_of_le_length (by omega)]
                exact more_line hs h35 er hl m
              · have hkl : k = l.length := by omega
                subst hkl
                rw [take_len_more, List.append_assoc]
                show parseGo (lines (l ++ 10 :: m)) i cfg out = _
                rw [lines_nl l m hs]
                exact go_err h35 h0 er
theorem place_law {t : By} (ht : t.length ≤ 1048576) {L C : Nat} (h : parse t = .place L C) :
    ∃ a b k, t = a ++ b ∧ k ≤ b.length ∧ C = k + 1 ∧ L = nl a + 1 ∧ (a = [] ∨ a.getLast? = some 10) ∧ Same (parse (t.take (a.length + k))) L C ∧
      (k < b.length → ∀ m, t.length + m.length ≤ 1048576 → parse (t.take (a.length + k + 1) ++ m) = .place L C) := by
  unfold parse at h
  rw [if_neg (by omega)] at h
  obtain ⟨a, b, k, rfl, hk, hC, hL, ha, h1, h2⟩ := place_go t.length t 0 none [] L C (Nat.le_refl _) h
  refine ⟨a, b, k, rfl, hk, hC, by omega, ha, ?_, fun hkl m hm => ?_⟩
  · unfold parse
    rw [if_neg (by simp at ht ⊢; omega), List.take_length_add_append]
    exact h1
  · unfold parse
    rw [if_neg (by simp at ht hm ⊢; omega), Nat.add_assoc, List.take_length_add_append]
    exact h2 hkl m
end Go.Proofs.YtnbfebjcfhbhiaaDoor.Sc
end
section
namespace Go.Proofs.YtnbfebjcfhbhiaaDoor.Sc
open Go Go.RowKit Go.Proofs.YtnbfebjcfhbhiaaDoor.P Go.Proofs.YtnbfebjcfhbhiaaDoorW.PrintWords Go.Proofs.YtnbfebjcfhbhiaaDoorW.PrintLast Go.Proofs.YtnbfebjcfhbhiaaDoorW.PrintMore
set_option linter.unusedVariables false
set_option linter.unusedSimpArgs false
theorem off_go (s : ByteArray) (hs : s.size ≤ 4611686018427387904) (C : Nat) (hC : 1 ≤ C) : ∀ (a pre b : By) (x7 : Nat), bs s = pre ++ (a ++ b) → (a = [] ∨ a.getLast? = some 10) → (a = [] → x7 = pre.length) → pre.length + a.length + C - 1 ≤ s.size →
    Ev (fun k => sluicelaw18_offset.l0 k s ((nl a + 1 : Nat) : Int) (C : Int) (x7 : Int) (pre.length : Int)) ((pre.length + a.length + C - 1 : Nat) : Int)
  | [], pre, b, x7, he, _, h7, hle => by
    obtain rfl := h7 rfl
    have hC2 : C ≤ s.size + 1 := by simp at hle; omega
    refine Ev.step (f := fun k => sluicelaw18_offset.j1 k s ((nl [] + 1 : Nat) : Int) (C : Int) (pre.length : Int) (pre.length : Int) false) (fun k => ?_) (Ev.step (f := fun _ => some ((pre.length + 0 + C - 1 : Nat) : Int)) (fun k => ?_) (Ev.now _))
    · rw [sluicelaw18_offset.l0]
      by_cases h : (pre.length : Int) < (s.size : Int)
      · rw [if_pos h]; rfl
      · rw [if_neg h]
    · have hp : pre.length ≤ s.size := by rw [← bs_len, he]; simp
      rw [sluicelaw18_offset.j1, if_neg (by simp), if_pos (by simp [nl]), if_neg (by omega), w64 (n := (pre.length : Int) + (C : Int)) (by omega) (by omega), w64 (by omega) (by omega), if_neg (by simp at hle; omega)]
      congr 1
      omega
  | c :: a, pre, b, x7, he, hl, _, hle => by
    have hlt : pre.length < (bs s).length := by rw [he]; simp
    have hlt2 : pre.length < s.size := by rw [← bs_len]; exact hlt
    have hb := bt_bs s pre.length hlt
    have hget : (bs s)[pre.length]'hlt = c := by
      have : (bs s)[pre.length]? = some c := by rw [he]; simp
      rw [List.getElem?_eq_getElem hlt] at this
      exact Option.some.inj this
    rw [hget] at hb
    have hal : a = [] → c = 10 := fun h => by subst h; simpa using hl
    have hal2 : a = [] ∨ a.getLast? = some 10 := by
      by_cases h : a = []
      · exact .inl h
      · right
        rcases hl with hl | hl
        · cases hl
        · cases a with
          | nil => exact absurd rfl h
          | cons d a => rw [List.getLast?_cons_cons] at hl; exact hl
    have hn1 : 1 ≤ nl (c :: a) := by
      refine List.count_pos_iff.2 ?_
      rcases hl with hl | hl
      · cases hl
      · exact List.mem_of_getLast? hl
    have hnl : nl (c :: a) ≤ a.length + 1 := List.count_le_length
    have hsz : pre.length + (a.length + 1) + b.length = s.size := by
      rw [← bs_len, he]; simp; omega
    have e1 : ((pre.length : Int) + 1) = (((pre ++ [c]).length : Nat) : Int) := by simp
    have key : ∀ x7', (a = [] → x7' = (pre ++ [c]).length) → Ev (fun k => sluicelaw18_offset.l0 k s ((nl a + 1 : Nat) : Int) (C : Int) (x7' : Int) ((pre ++ [c]).length : Int)) ((pre.length + (c :: a).length + C - 1 : Nat) : Int) := fun x7' h7 => by
      have := off_go s hs C hC a (pre ++ [c]) b x7' (by rw [he]; simp) hal2 h7 (by simp at hle ⊢; omega)
      have e : (pre ++ [c]).length + a.length + C - 1 = pre.length + (c :: a).length + C - 1 := by simp; omega
      rw [e] at this
      exact this
    refine Ev.step (f := fun k => sluicelaw18_offset.j1 k s ((nl (c :: a) + 1 : Nat) : Int) (C : Int) (x7 : Int) (pre.length : Int) true) (fun k => ?_) ?_
    · rw [sluicelaw18_offset.l0, if_pos (by omega)]
      congr 1
      exact decide_eq_true (by omega)
    · by_cases hc : c = 10
      · have hk := key (pre ++ [c]).length (fun _ => rfl)
        refine Ev.step (fun k => ?_) hk
        rw [sluicelaw18_offset.j1, if_pos rfl, if_pos (by omega), if_pos (by omega), if_pos (by rw [hb, hc]; rfl), w64 (n := (pre.length : Int) + 1) (by omega) (by omega), w64 (by omega) (by omega), e1]
        congr 1
        have : nl (c :: a) = nl a + 1 := by simp [nl, hc]
        rw [this]; omega
      · have hk := key x7 (fun h => absurd (hal h) hc)
        refine Ev.step (fun k => ?_) hk
        rw [sluicelaw18_offset.j1, if_pos rfl, if_pos (by omega), if_pos (by omega), if_neg (by rw [hb]; intro h; exact hc (UInt8.toNat_inj.1 (by show c.toNat = 10; omega))), w64 (by omega) (by omega), e1]
        have : nl (c :: a) = nl a := by simp [nl, List.count_cons, hc]
        rw [this]
theorem off_ev (s : ByteArray) (hs : s.size ≤ 4611686018427387904) {a b : By} {k : Nat} (he : bs s = a ++ b) (hk : k ≤ b.length) (ha : a = [] ∨ a.getLast? = some 10) :
    Ev (fun n => sluicelaw18_offset.f n s ((nl a + 1 : Nat) : Int) ((k + 1 : Nat) : Int)) ((a.length + k : Nat) : Int) := by
  have hz : a.length + b.length = s.size := by rw [← bs_len, he]; simp
  have := off_go s hs (k + 1) (by omega) a [] b 0 he ha (fun _ => rfl) (by simp; omega)
  simpa [sluicelaw18_offset.f] using this
end Go.Proofs.YtnbfebjcfhbhiaaDoor.Sc
end
section
namespace Go.Proofs.YtnbfebjcfhbhiaaDoor.Bw
open Go Go.RowKit Go.Proofs.YtnbfebjcfhbhiaaDoor.P Go.Proofs.YtnbfebjcfhbhiaaDoor.Sc Go.Proofs.YtnbfebjcfhbhiaaDoor.Lw Go.Proofs.YtnbfebjcfhbhiaaDoorW.PrintWords Go.Proofs.YtnbfebjcfhbhiaaDoorW.PrintLast Go.Proofs.YtnbfebjcfhbhiaaDoorW.PrintMore
set_option linter.unusedVariables false
set_option linter.unusedSimpArgs false
/-- What Parse tells of an outcome: the line, the column, the error. -/
def tellsO : Out → Int × Int × Int
  | .long => (0, 0, 2)
  | .place l c => (l, c, 180)
  | .ok _ _ => (0, 0, 0)
theorem parse_tells (w : World) (s : ByteArray) (hV : VS w) (hC : VC w) (hs : s.size ≤ 4611686018427387904) {o : Out} (ho : Sc.parse (bs s) = o) :
    Calls Tryd.prog 16 #[.string s] w fun e w' => ∃ (c0 c1 c2 c3 c4 c5 c6 c7 c8 c9 : Int) (v : Value), e = .returned (.tuple #[.agg #[.int .i64 c0, .int .i64 c1, .int .i64 c2, .int .i64 c3, .int .i64 c4, .int .i64 c5, .int .i64 c6, .int .i64 c7, .int .i64 c8, .int .i64 c9], v, .int .i64 (tellsO o).1, .int .i64 (tellsO o).2.1, .int .i64 (tellsO o).2.2]) ∧ Below w.heap.size w w' := by
  refine (parse_calls w s hV hC hs).mono ?_
  rintro e w' ⟨hP, hb⟩
  rw [ho] at hP
  cases o with
  | long => exact ⟨_, _, _, _, _, _, _, _, _, _, _, hP, hb⟩
  | place l c => exact ⟨_, _, _, _, _, _, _, _, _, _, _, hP, hb⟩
  | ok c l =>
    obtain ⟨v, he, hc, _⟩ := hP
    match c, hc with
    | [a0, a1, a2, a3, a4, a5, a6, a7, a8, a9], _ => exact ⟨_, _, _, _, _, _, _, _, _, _, _, he, hb⟩
set_option maxHeartbeats 4000000 in
set_option maxRecDepth 100000 in
theorem place_fine (w : World) (a b : ByteArray) (hT : TB w) (hV : VS w) (hC : VC w) (ha : a.size ≤ 140737488355328) (hb : b.size ≤ 140737488355328) {o : Out} (ho : Sc.parse (bs a) = o) (hn : ∀ l c, o ≠ .place l c) :
    Calls Tryd.prog 8 #[.string a, .string b] w fun e w' => e = .returned (.bool true) ∧ Below w.heap.size w w' := by
  have HT := Aside0.mk hT
  have HV := Aside0.mk hV
  have HC := Aside0.mk hC
  have HO := Aside0.mk ho
  have HS : Aside0 (a.size ≤ 4611686018427387904) := ⟨by omega⟩
  have hs : (a.size : Int) ≤ 140737488355328 := by omega
  have hs2 : (b.size : Int) ≤ 140737488355328 := by omega
  have ha0 : 0 ≤ (a.size : Int) := by omega
  have hb0 : 0 ≤ (b.size : Int) := by omega
  have hE : ∃ E, tellsO o = (0, 0, E) ∧ (E = 0 ∨ E = 2) := by
    cases o with
    | long => exact ⟨2, rfl, .inr rfl⟩
    | place l c => exact absurd rfl (hn l c)
    | ok c l => exact ⟨0, rfl, .inl rfl⟩
  obtain ⟨E, hE, hE2⟩ := hE
  have HE := Aside0.mk hE
  clear hT hV hC ho hn ha hb hE
  go_enter Tryd.func8, Tryd.ntmps8
  rcases hE2 with rfl | rfl
  all_goals (
    go_wp2_with (first
      | (go_at_call 10; refine (alive_calls _ HT.out HV.out HC.out).mono ?_; rintro e w1 ⟨rfl, hb⟩; have HB1 := Aside0.mk hb; clear hb)
      | (go_at_call 16; refine (parse_tells _ _ (HV.out.below HB1.out) (HC.out.below HB1.out) HS.out HO.out).mono ?_; rw [HE.out]; rintro e w2 ⟨c0, c1, c2, c3, c4, c5, c6, c7, c8, c9, v, rfl, hb⟩; have HB2 := Aside0.mk hb; clear hb)
      | (go_at_call 15; refine (num_calls _ _).mono ?_; rintro e w' ⟨rfl, rfl⟩)))
  all_goals go_ret
  all_goals first
    | exact ⟨rfl, Below.refl _ _⟩
    | exact ⟨rfl, (HB1.out.trans (HB2.out.mono HB1.out.size)).alloc (Nat.le_trans HB1.out.size HB2.out.size) _⟩
set_option maxHeartbeats 16000000 in
set_option maxRecDepth 100000 in
theorem place_place (w : World) (a b : ByteArray) (hT : TB w) (hV : VS w) (hC : VC w) (hb : a.size + b.size ≤ 1000000) {l c n : Nat} (ho : Sc.parse (bs a) = .place l c) {K : Nat} (hk : sluicelaw18_offset.f K a l c = some (n : Int)) (hn : n ≤ a.size)
    {o2 : Out} (ho2 : Sc.parse (bs (a.extract 0 n)) = o2) (h2 : Same o2 l c) (h3 : n = a.size → o2 = .place l c) (h4 : n < a.size → Sc.parse (bs (a.extract 0 (n + 1) ++ b)) = .place l c) :
    Calls Tryd.prog 8 #[.string a, .string b] w fun e w' => e = .returned (.bool true) ∧ Below w.heap.size w w' := by
  have HT := Aside0.mk hT
  have HV := Aside0.mk hV
  have HC := Aside0.mk hC
  have HO := Aside0.mk ho
  have HO2 := Aside0.mk ho2
  have HK := Aside0.mk hk
  have HS : Aside0 (a.size ≤ 4611686018427387904) := ⟨by omega⟩
  have HS2 : Aside0 ((a.extract 0 n).size ≤ 4611686018427387904) := ⟨by rw [ByteArray.size_extract]; omega⟩
  have H3 := Aside0.mk h3
  have H4 := Aside0.mk h4
  have hs : (a.size : Int) + (b.size : Int) ≤ 1000000 := by omega
  have ha0 : 0 ≤ (a.size : Int) := by omega
  have hb0 : 0 ≤ (b.size : Int) := by omega
  have hn0 : 0 ≤ (n : Int) := by omega
  have hn1 : (n : Int) ≤ (a.size : Int) := by omega
  have hE : ∃ L C E, tellsO o2 = (L, C, E) ∧ ((E = 0 ∧ n < a.size) ∨ (E = 2 ∧ n < a.size) ∨ (L = l ∧ C = c ∧ E = 180)) := by
    rcases h2 with h2 | ⟨c2, l2, h2⟩ | h2
    · exact ⟨l, c, 180, by rw [h2]; rfl, .inr (.inr ⟨rfl, rfl, rfl⟩)⟩
    · refine ⟨0, 0, 0, by rw [h2]; rfl, .inl ⟨rfl, Nat.lt_of_le_of_ne hn fun h => ?_⟩⟩
      have := h3 h
      rw [h2] at this
      cases this
    · refine ⟨0, 0, 2, by rw [h2]; rfl, .inr (.inl ⟨rfl, Nat.lt_of_le_of_ne hn fun h => ?_⟩)⟩
      have := h3 h
      rw [h2] at this
      cases this
  obtain ⟨L, C, E, hE, hE2⟩ := hE
  have HE := Aside0.mk hE
  clear hT hV hC ho ho2 hk h2 h3 h4 hE
  go_enter Tryd.func8, Tryd.ntmps8
  go_upto_region 7 with (first
      | (go_at_call 10; refine (alive_calls _ HT.out HV.out HC.out).mono ?_; rintro e w1 ⟨rfl, hb⟩; have HB1 := Aside0.mk hb; clear hb)
      | (go_at_call 16; refine (parse_tells _ _ (HV.out.below HB1.out) (HC.out.below HB1.out) HS.out HO.out).mono ?_; simp only [tellsO]; rintro e w2 ⟨c0, c1, c2, c3, c4, c5, c6, c7, c8, c9, v, rfl, hb⟩; have HB2 := Aside0.mk hb; clear hb))
  obtain ⟨W2, hW2⟩ : ∃ W2, W2 = w2.alloc (.cells #[.int .i64 c0, .int .i64 c1, .int .i64 c2, .int .i64 c3, .int .i64 c4, .int .i64 c5, .int .i64 c6, .int .i64 c7, .int .i64 c8, .int .i64 c9] 25 (0, 0)) := ⟨_, rfl⟩
  have HW2 := Aside0.mk hW2
  have HBA : Aside0 (Below w.heap.size w W2) := ⟨by rw [hW2]; exact (HB1.out.trans (HB2.out.mono HB1.out.size)).alloc (Nat.le_trans HB1.out.size HB2.out.size) _⟩
  clear hW2
  rw [← HW2.out]
  clear HW2
  have HW2 : Aside0 (n + 1 ≤ 1000001) := ⟨by omega⟩
  go_upto_region 13 with (first
      | (go_at_call 15; refine (num_calls _ _).mono ?_; rintro e w' ⟨rfl, rfl⟩)
      | (go_at_call 19; refine (sluicelaw18_offset.calls K _ _ _ _ _ HK.out).mono ?_; rintro e w3 ⟨rfl, hd⟩; have HB3 := Aside0.mk (Drawn0.below hd); clear hd)
      | (go_at_call 16; refine (parse_tells _ _ (HV.out.below (HBA.out.trans (HB3.out.mono HBA.out.size))) (HC.out.below (HBA.out.trans (HB3.out.mono HBA.out.size))) HS2.out HO2.out).mono ?_; rw [HE.out]; rintro e w4 ⟨d0, d1, d2, d3, d4, d5, d6, d7, d8, d9, v2, rfl, hb⟩; have HB4 := Aside0.mk hb; clear hb))
  obtain ⟨W4, hW4⟩ : ∃ W4, W4 = w4.alloc (.cells #[.int .i64 d0, .int .i64 d1, .int .i64 d2, .int .i64 d3, .int .i64 d4, .int .i64 d5, .int .i64 d6, .int .i64 d7, .int .i64 d8, .int .i64 d9] 25 (0, 0)) := ⟨_, rfl⟩
  have HW4 := Aside0.mk hW4
  have HBC : Aside0 (Below w.heap.size w W4) := ⟨by
    have hb3 := HBA.out.trans (HB3.out.mono HBA.out.size)
    have hb4 := hb3.trans (HB4.out.mono hb3.size)
    rw [hW4]; exact hb4.alloc hb4.size _⟩
  clear hW4
  rw [← HW4.out]
  clear HW4
  by_cases hne : n = a.size
  · obtain ⟨rfl, rfl, rfl⟩ : L = l ∧ C = c ∧ E = 180 := by
      rcases hE2 with ⟨_, h⟩ | ⟨_, h⟩ | h
      · omega
      · omega
      · exact h
    subst hne
    clear hE2
    go_wp2_with (go_at_call 15; refine (num_calls _ _).mono ?_; rintro e w' ⟨rfl, rfl⟩)
    go_ret
    exact ⟨rfl, HBC.out⟩
  · have hlt : n < a.size := by omega
    have hlt2 : (n : Int) < (a.size : Int) := by omega
    have hlt3 : (n : Int) + 1 ≤ (a.size : Int) := by omega
    have hz : (a.extract 0 (n + 1)).size = n + 1 := by rw [ByteArray.size_extract]; omega
    have HS3 : Aside0 ((a.extract 0 (n + 1) ++ b).size ≤ 4611686018427387904) := ⟨by rw [ByteArray.size_append, hz]; omega⟩
    have HO3 := Aside0.mk (H4.out hlt)
    have hsl : ∀ W, (Instr.slice 9 (.string a) none (some (.int .i64 ((n : Int) + 1))) none).run Tryd.prog W = .ok (.string (a.extract 0 (n + 1))) W := fun W => run_slice_string_h (w := W) (t := 9) (s := a) Tryd.underlying9 .i64 ((n + 1 : Nat) : Int) (by omega) (by omega)
    have had : ∀ W, (Op.stringOp .add (a.extract 0 (n + 1)) b).run Tryd.prog W = .ok (.string (a.extract 0 (n + 1) ++ b)) W := fun W => run_string_add_sum W _ _ (by rw [hz]; omega)
    clear hz hlt
    rcases hE2 with ⟨rfl, _⟩ | ⟨rfl, _⟩ | ⟨rfl, rfl, rfl⟩
    all_goals (
      go_wp2_with (first
      | (go_at_call 15; refine (num_calls _ _).mono ?_; rintro e w' ⟨rfl, rfl⟩)
      | (go_at_call 16; refine (parse_tells _ _ (HV.out.below HBC.out) (HC.out.below HBC.out) HS3.out HO3.out).mono ?_; simp only [tellsO]; rintro e w6 ⟨e0, e1, e2, e3, e4, e5, e6, e7, e8, e9, v3, rfl, hb⟩; have HB6 := Aside0.mk hb; clear hb)))
    all_goals go_ret
    all_goals exact ⟨rfl, by
      have hb6 := HBC.out.trans (HB6.out.mono HBC.out.size)
      exact hb6.alloc hb6.size _⟩
set_option maxHeartbeats 4000000 in
theorem place_big (w : World) (a b : ByteArray) (ha : a.size ≤ 140737488355328) (hb : b.size ≤ 140737488355328) (hg : 1000000 < a.size + b.size) :
    Calls Tryd.prog 8 #[.string a, .string b] w fun e w' => e = .returned (.bool true) ∧ Below w.heap.size w w' := by
  have hs : (a.size : Int) ≤ 140737488355328 := by omega
  have hs2 : (b.size : Int) ≤ 140737488355328 := by omega
  have ha0 : 0 ≤ (a.size : Int) := by omega
  have hb0 : 0 ≤ (b.size : Int) := by omega
  have hg2 : 1000000 < (a.size : Int) + (b.size : Int) := by omega
  clear ha hb hg
  go_enter Tryd.func8, Tryd.ntmps8
  go_wp2_with fail
  go_ret
  exact ⟨rfl, Below.refl _ _⟩
theorem place_calls (w : World) (a b : ByteArray) (hT : TB w) (hV : VS w) (hC : VC w) (ha : a.size ≤ 140737488355328) (hb : b.size ≤ 140737488355328) :
    Calls Tryd.prog 8 #[.string a, .string b] w fun e w' => e = .returned (.bool true) ∧ Below w.heap.size w w' := by
  by_cases hg : 1000000 < a.size + b.size
  · exact place_big w a b ha hb hg
  · cases ho : Sc.parse (bs a) with
    | long => exact place_fine w a b hT hV hC ha hb ho (fun _ _ h => by cases h)
    | ok c l => exact place_fine w a b hT hV hC ha hb ho (fun _ _ h => by cases h)
    | place l c =>
      have la := bs_len a
      obtain ⟨x, y, k, he, hk, hCk, hL, hx, h1, h2⟩ := place_law (t := bs a) (by omega) ho
      obtain ⟨K, hK⟩ := (off_ev a (by omega) he hk hx).rounds
      rw [← hL, ← hCk] at hK
      have hz : x.length + y.length = a.size := by rw [← la, he]; simp
      have e1 : bs (a.extract 0 (x.length + k)) = (bs a).take (x.length + k) := by rw [bs_extract, List.drop_zero]
      refine place_place w a b hT hV hC (by omega) ho hK (by omega) rfl ?_ ?_ ?_
      · rw [e1]; exact h1
      · intro hn
        rw [e1, List.take_of_length_le (by omega)]
        exact ho
      · intro hn
        have := h2 (by omega) (bs b) (by rw [bs_len, bs_len]; omega)
        rw [bs_append, bs_extract, List.drop_zero]
        exact this
end Go.Proofs.YtnbfebjcfhbhiaaDoor.Bw
end
