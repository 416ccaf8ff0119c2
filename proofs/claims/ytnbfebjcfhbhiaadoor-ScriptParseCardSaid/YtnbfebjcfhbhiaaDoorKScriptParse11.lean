/- texts that the proof needs, laid together by a program of this session. -/
import Derived.Test.YtnbfebjcfhbhiaaDoorRows
import Derived.WalkKit
import Derived.ProofKit
import Derived.OpenShut
import Derived.Deep.DeepHandedRow
import Derived.Lib.LaidTab
import Derived.Lib.LaidU8
import Derived.LaidLaws
import Derived.Deep.DeepWitnessRowRef
import Derived.Lib.LaidIn
import Derived.Test.YtnbfebjcfhbhiaaDoorKScriptParse10
section
namespace Go.Proofs.YtnbfebjcfhbhiaaDoor.Lv
open Go Go.ChangeShapes Go.WideShapes Go.ChangeAt Go.RowKit Go.Proofs.YtnbfebjcfhbhiaaDoor.P Go.Proofs.YtnbfebjcfhbhiaaDoor.Sc Go.Proofs.YtnbfebjcfhbhiaaDoor.Lw Go.Proofs.YtnbfebjcfhbhiaaDoor.Bw Go.Proofs.YtnbfebjcfhbhiaaDoorW.PrintWords
set_option linter.unusedVariables false
set_option linter.unusedSimpArgs false
section
variable {H : Type} {enc : TypeId × Value → H} {w : World} {spare : Nat → Bool} {held : Bool}
def formD (p : S153) : DataW H := .agg [.lit (.string p.f0.data.toList), .lit (.string p.f1.data.toList), .lit (.int .i64 p.f2)]
theorem form_inj {p q : S153} (h : (formD p : DataW H) = formD q) : p = q := by
  unfold formD at h
  simp only [DataW.agg.injEq, List.cons.injEq, DataW.lit.injEq, Lit.string.injEq, Lit.int.injEq, and_true, true_and] at h
  obtain ⟨h0, h1, h2⟩ := h
  cases p; cases q
  simp only at h0 h1 h2
  rw [bs_inj h0, bs_inj h1, h2]
set_option maxRecDepth 100000 in
theorem form_open {fuel : Nat} {cs : List Value} {x : DataW H × List MemPlace} (h : DataW.trod enc Tryd.prog w 0 spare held fuel 153 cs = some x) : ∃ p : S153, cs = [.string p.f0, .string p.f1, .int .i64 p.f2] ∧ x.1 = formD p := by
  obtain ⟨ys, n, _, hx, hcl, hyl, hf⟩ := DataW.trod_struct Tryd.underlying153 h
  have hcl2 : cs.length = 3 := hcl.trans (by kernel_rfl)
  have hyl2 : ys.length = 3 := hyl
  match cs, hcl2 with
  | [c0, c1, c2], _ =>
    match ys, hyl2 with
    | [y0, y1, y2], _ =>
      have eint : Tryd.prog.cellsOf 3 = 1 := by kernel_rfl
      have estr : Tryd.prog.cellsOf 9 = 1 := by kernel_rfl
      have g0 : DataW.trod enc Tryd.prog w 0 spare held n 9 (List.take (Tryd.prog.cellsOf 9) (List.drop 0 [c0, c1, c2])) = some y0 := hf 0 _ rfl
      rw [estr] at g0
      replace g0 : DataW.trod enc Tryd.prog w 0 spare held n 9 [c0] = some y0 := g0
      obtain ⟨s0, q0, z0, _⟩ := DataW.trod_string Tryd.underlying9 g0
      have g1 : DataW.trod enc Tryd.prog w 0 spare held n 9 (List.take (Tryd.prog.cellsOf 9) (List.drop 1 [c0, c1, c2])) = some y1 := hf 1 _ rfl
      rw [estr] at g1
      replace g1 : DataW.trod enc Tryd.prog w 0 spare held n 9 [c1] = some y1 := g1
      obtain ⟨s1, q1, z1, _⟩ := DataW.trod_string Tryd.underlying9 g1
      have g2 : DataW.trod enc Tryd.prog w 0 spare held n 3 (List.take (Tryd.prog.cellsOf 3) (List.drop 2 [c0, c1, c2])) = some y2 := hf 2 _ rfl
      rw [eint] at g2
      replace g2 : DataW.trod enc Tryd.prog w 0 spare held n 3 [c2] = some y2 := g2
      obtain ⟨n2, q2, z2, _⟩ := DataW.trod_int Tryd.underlying3 g2
      simp only [List.cons.injEq, and_true] at q0 q1 q2
      exact ⟨⟨s0, s1, n2⟩, by rw [q0, q1, q2], by rw [hx, z0, z1, z2]; rfl⟩
theorem forms_open {fuel : Nat} {cs : List Value} {x : DataW H × List MemPlace} (h : DataW.trod enc Tryd.prog w 0 spare held fuel 102 cs = some x) (fs : List S153) (hne : fs ≠ []) (hd : ∃ sp, x.1 = .slice (fs.map formD) sp) :
    ∃ ad c, cs = [.slice (some ad) fs.length c] ∧ fs.length ≤ c ∧ Kd.C k153 w (some ad) fs.length fs := by
  obtain ⟨sp, hd⟩ := hd
  rcases DataW.trod_slice Tryd.underlying102 h with ⟨_, g⟩ | ⟨a, len, cap, elems, rest, n, _, hcs, hx, _, hlc, hcm, hel, hat, _, _⟩
  · rw [g] at hd; cases hd
  · rw [hx] at hd
    simp only [DataW.slice.injEq] at hd
    have hl : len = fs.length := by rw [← hel]; have := congrArg List.length hd.1; simpa using this
    subst hl
    have e3 : Tryd.prog.cellsOf 153 = 3 := by kernel_rfl
    refine ⟨a, cap, hcs, hlc, rfl, by simp only [maxLen] at hcm; omega, fun _ => ⟨a, rfl, fun j p hj => ?_⟩⟩
    obtain ⟨hj1, hj2⟩ := List.getElem?_eq_some_iff.1 hj
    have h1 := hat j hj1
    rw [e3] at h1
    have h2 : (elems.map (·.1))[j]? = some (formD p) := by rw [hd.1, List.getElem?_map, hj]; rfl
    rw [List.getElem?_map] at h2
    obtain ⟨y, hy, hy2⟩ := Option.map_eq_some_iff.1 h2
    rw [hy] at h1
    obtain ⟨c, hc1, hc2⟩ := Option.bind_eq_some_iff.1 h1
    obtain ⟨q, rfl, hq⟩ := form_open hc2
    have : q = p := form_inj (H := H) (hq.symm.trans hy2)
    subst this
    refine ⟨_, rfl, k153_mk w q, fun i u hu => ?_⟩
    obtain ⟨_, _, hat2⟩ := World.cells?_some hc1
    have hi3 : i < 3 := by have := (List.getElem?_eq_some_iff.1 hu).1; simpa using this
    rw [show a.add (j * k153.sz + i) = (a.add (j * 3)).add i from by rw [Go.Proofs.YtnbfebjcfhbhiaaDoorW.PrintWords.add_add]; rfl]
    exact (hat2 i hi3).trans hu
end
/-- A variable that reads lies in a block of its own, nothing of it frozen. -/
theorem var_block {w : World} {l : List (String × DataW Unit)} (h : laidMet Tryd.prog l w) {n : String} {d : DataW Unit} (hm : (n, d) ∈ l) : ∃ g t cs fuel p T, Tryd.prog.globalNamed n = some g ∧ (Tryd.prog.globals[g]?).map (·.type) = some t ∧ w.var? Tryd.prog n = some cs ∧ DataW.trod (fun _ => ()) Tryd.prog w 0 (fun _ => true) false fuel t cs.toList = some (d, p) ∧ (cs.size ≠ 0 → w.heap[g]? = some (.cells cs T (0, 0))) := by
  obtain ⟨ps, hv, _, hfz⟩ := h
  have : ∀ (l : List (String × DataW Unit)) ps, DataW.LaidVars Tryd.prog w l ps → (n, d) ∈ l → ∃ g t cs fuel p, Tryd.prog.globalNamed n = some g ∧ (Tryd.prog.globals[g]?).map (·.type) = some t ∧ w.var? Tryd.prog n = some cs ∧ DataW.trod (fun _ => ()) Tryd.prog w 0 (fun _ => true) false fuel t cs.toList = some (d, p) ∧ ∀ q ∈ MemPlace.row ⟨g, 0, none⟩ cs.size, q ∈ ps := by
    intro l
    induction l with
    | nil => intro ps _ h; cases h
    | cons x r ih =>
      intro ps h hm
      obtain ⟨n', d'⟩ := x
      obtain ⟨g, t, cs, fuel, p, q, h1, h2, h3, h4, h5, h6⟩ := h
      rcases List.mem_cons.1 hm with e | e
      · cases e
        exact ⟨g, t, cs, fuel, p, h1, h2, h3, h4, fun y hy => by rw [h6]; simp [hy]⟩
      · obtain ⟨g', t', cs', fuel', p', k1, k2, k3, k4, k5⟩ := ih q h5 e
        exact ⟨g', t', cs', fuel', p', k1, k2, k3, k4, fun y hy => by rw [h6]; simp [k5 y hy]⟩
  obtain ⟨g, t, cs, fuel, p, h1, h2, h3, h4, h5⟩ := this l ps hv hm
  unfold World.var? at h3
  rw [h1] at h3
  simp only [Option.bind_some] at h3
  cases ho : w.heap[g]? with
  | none => rw [ho] at h3; simp at h3
  | some o =>
    rw [ho] at h3
    cases o with
    | cells c T fr =>
      simp only [Option.some.injEq] at h3
      subst h3
      refine ⟨g, t, c, fuel, p, T, h1, h2, by unfold World.var?; rw [h1]; simp [ho], h4, fun hz => ?_⟩
      have hin : MemPlace.cell g 0 ∈ MemPlace.row ⟨g, 0, none⟩ c.size := by
        unfold MemPlace.row
        exact List.mem_map.2 ⟨0, List.mem_range.2 (by omega), rfl⟩
      obtain ⟨c2, T2, h6⟩ := (hfz g 0 (h5 _ hin)).1
      rw [ho] at h6
      simp only [Option.some.injEq, Obj.cells.injEq] at h6
      rw [ho, h6.2.2]
    | _ => simp at h3
theorem gOps : Tryd.prog.globalNamed "sluice/script.ops" = some 2 := by kernel_rfl
theorem gSteps : Tryd.prog.globalNamed "sluice/script.steps" = some 1 := by kernel_rfl
theorem gWords : Tryd.prog.globalNamed "sluice/script.configWords" = some 0 := by kernel_rfl
theorem gPow : Tryd.prog.globalNamed "internal/strconv.uint64pow10" = some 3 := by kernel_rfl
theorem gErr : Tryd.prog.globalNamed "strconv.ErrRange" = some 5 := by kernel_rfl
theorem yOps : (Tryd.prog.globals[2]?).map (·.type) = some 102 := by kernel_rfl
theorem ySteps : (Tryd.prog.globals[1]?).map (·.type) = some 102 := by kernel_rfl
theorem yWords : (Tryd.prog.globals[0]?).map (·.type) = some 99 := by kernel_rfl
theorem yErr : (Tryd.prog.globals[5]?).map (·.type) = some 150 := by kernel_rfl
theorem yPow : (Tryd.prog.globals[3]?).map (·.type) = some 203 := by kernel_rfl
theorem dOps : (Rows.laid_sluice_script_ops : DataW Unit) = .slice (opFs.map formD) [] := by rfl
theorem dSteps : (Rows.laid_sluice_script_steps : DataW Unit) = .slice (stepFs.map formD) [] := by rfl
theorem var_forms {W : World} {l : List (String × DataW Unit)} (h : laidMet Tryd.prog l W) {n : String} {d : DataW Unit} {g : Nat} (hm : (n, d) ∈ l) (hg : Tryd.prog.globalNamed n = some g) (hy : (Tryd.prog.globals[g]?).map (·.type) = some 102) (fs : List S153) (hne : fs ≠ []) (hd : d = .slice (fs.map formD) []) :
    ∃ ad c T, W.heap[g]? = some (.cells #[.slice (some ad) fs.length c] T (0, 0)) ∧ fs.length ≤ c ∧ Kd.C k153 W (some ad) fs.length fs := by
  obtain ⟨g', t, cs, fuel, p, T, h1, h2, h3, h4, h5⟩ := var_block h hm
  obtain rfl := Option.some.inj (h1.symm.trans hg)
  obtain rfl := Option.some.inj (h2.symm.trans hy)
  obtain ⟨ad, c, hcs, hlc, hC⟩ := forms_open h4 fs hne ⟨[], hd⟩
  have e : cs = #[.slice (some ad) fs.length c] := by cases cs; simp_all
  subst e
  exact ⟨ad, c, T, h5 (by simp), hlc, hC⟩
theorem dWords : (Rows.laid_sluice_script_configWords : DataW Unit) = .agg ((cfgW0 :: cfgWs).map fun x => .lit (.string x)) := by rfl
theorem dPow : (Rows.laid_internal_strconv_uint64pow10 : DataW Unit) = Lib.tabData .u64 Lib.pow10Tab := by rfl
theorem words_open {w : World} {fuel : Nat} {cs : List Value} {p : List MemPlace} (h : DataW.trod (fun _ => ()) Tryd.prog w 0 (fun _ => true) false fuel 99 cs = some (.agg ((cfgW0 :: cfgWs).map fun x => .lit (.string x)), p)) : cs = (cfgW0 :: cfgWs).map (fun x => Value.string (sb x)) := by
  obtain ⟨xs, m, _, hx, hcl, hxl, hat⟩ := DataW.trod_array Tryd.underlying99 h
  have e1 : Tryd.prog.cellsOf 9 = 1 := by kernel_rfl
  have e10 : Tryd.prog.cellsOf 99 = 10 := by kernel_rfl
  rw [e10] at hcl
  simp only [Prod.mk.injEq, DataW.agg.injEq] at hx
  apply List.ext_getElem?
  intro i
  by_cases hi : i < 10
  · have h1 := hat i hi
    rw [e1, Nat.mul_one] at h1
    have hc : i < cs.length := by omega
    rw [List.drop_eq_getElem_cons hc] at h1
    simp only [List.take_succ_cons, List.take_zero] at h1
    have hw : i < (cfgW0 :: cfgWs).length := hi
    have h2 : (xs.map (·.1))[i]? = some (.lit (.string ((cfgW0 :: cfgWs)[i]))) := by rw [← hx.1, List.getElem?_map, List.getElem?_eq_getElem hw]; rfl
    rw [List.getElem?_map] at h2
    obtain ⟨y, hy, hy2⟩ := Option.map_eq_some_iff.1 h2
    rw [hy] at h1
    obtain ⟨s, q, z, _⟩ := DataW.trod_string Tryd.underlying9 h1
    rw [z] at hy2
    simp only [DataW.lit.injEq, Lit.string.injEq] at hy2
    simp only [List.cons.injEq, and_true] at q
    rw [List.getElem?_eq_getElem hc, q, List.getElem?_map, List.getElem?_eq_getElem hw, ← hy2]
    show some (Value.string s) = some (Value.string (sb (bs s)))
    rw [sb_bs]
  · rw [List.getElem?_eq_none (by omega), List.getElem?_eq_none (by rw [List.length_map]; show 10 ≤ i; omega)]
theorem var_type {W : World} (hS : W.ShapedOpen Tryd.prog) {g : Nat} {cs : Array Value} {T t : TypeId} {fr : Nat × Nat} (hg : g < Tryd.prog.globals.size) (h : W.heap[g]? = some (.cells cs T fr)) (hb : (((begin Tryd.prog (fun _ _ => 0) default).world.heap[g]?).bind Obj.row?).map (·.2) = some t) : T = t := by
  obtain ⟨⟨z, t'⟩, h1, h2⟩ := Option.map_eq_some_iff.1 hb
  simp only at h2
  subst h2
  obtain ⟨cs', h3, _⟩ := hS.1 g z t' hg h1
  rw [h] at h3
  simp only [Option.some.injEq, Obj.cells.injEq] at h3
  exact h3.2.1
/-- WHAT THE LIST GIVES. -/
theorem vars_open {W : World} {l : List (String × DataW Unit)} (hS : W.ShapedOpen Tryd.prog) (h : laidMet Tryd.prog l W) (m1 : ("sluice/script.steps", Rows.laid_sluice_script_steps) ∈ l) (m2 : ("sluice/script.ops", Rows.laid_sluice_script_ops) ∈ l) (m3 : ("sluice/script.configWords", Rows.laid_sluice_script_configWords) ∈ l) (m4 : ("internal/strconv.uint64pow10", Rows.laid_internal_strconv_uint64pow10) ∈ l) (m5 : ("strconv.ErrRange", Rows.laid_strconv_ErrRange) ∈ l) : VS W ∧ VC W ∧ TB W := by
  obtain ⟨a1, c1, T1, k1, k2, k3⟩ := var_forms h m1 gSteps ySteps stepFs (by decide) dSteps
  obtain ⟨a2, c2, T2, j1, j2, j3⟩ := var_forms h m2 gOps yOps opFs (by decide) dOps
  have t1 : T1 = 102 := var_type hS (of_decide_eq_true (by kernel_rfl)) k1 (by kernel_rfl)
  have t2 : T2 = 102 := var_type hS (of_decide_eq_true (by kernel_rfl)) j1 (by kernel_rfl)
  subst t1
  subst t2
  refine ⟨⟨?_, ⟨a2, c2, j1, j2, j3⟩, ⟨a1, c1, k1, k2, k3⟩⟩, ?_, ?_⟩
  · obtain ⟨g', t, cs, fuel, p, T, h1, h2, h3, h4, h5⟩ := var_block h m5
    obtain rfl := Option.some.inj (h1.symm.trans gErr)
    obtain rfl := Option.some.inj (h2.symm.trans yErr)
    unfold VR
    rw [h3]
    obtain ⟨f2, u, v, hcs, _⟩ := iface_of_trod Tryd.underlying150 h4
    refine ⟨u, v, ?_⟩
    congr 1
    cases cs
    simp only at hcs
    rw [hcs]
  · obtain ⟨g', t, cs, fuel, p, T, h1, h2, h3, h4, h5⟩ := var_block h m3
    obtain rfl := Option.some.inj (h1.symm.trans gWords)
    obtain rfl := Option.some.inj (h2.symm.trans yWords)
    rw [dWords] at h4
    have h6 := words_open h4
    have e : cs = ((cfgW0 :: cfgWs).map (fun x => Value.string (sb x))).toArray := by rw [← h6]
    subst e
    exact ⟨T, h5 (by decide)⟩
  · obtain ⟨g', t, cs, fuel, p, T, h1, h2, h3, h4, h5⟩ := var_block h m4
    obtain rfl := Option.some.inj (h1.symm.trans gPow)
    obtain rfl := Option.some.inj (h2.symm.trans yPow)
    rw [dPow] at h4
    unfold TB Lib.TabIs
    rw [h3, ← Lib.cells_of_tab Tryd.underlying203 Tryd.underlying191 (by kernel_rfl) (by kernel_rfl) h4]
end Go.Proofs.YtnbfebjcfhbhiaaDoor.Lv
end
section
namespace Go.Proofs.YtnbfebjcfhbhiaaDoor.Lv
open Go Go.ChangeShapes Go.WideShapes Go.ChangeAt Go.RowKit Go.Lib Go.Proofs.YtnbfebjcfhbhiaaDoor.P Go.Proofs.YtnbfebjcfhbhiaaDoor.Sc Go.Proofs.YtnbfebjcfhbhiaaDoor.Lw Go.Proofs.YtnbfebjcfhbhiaaDoor.Bw Go.Proofs.YtnbfebjcfhbhiaaDoorW.PrintWords
set_option linter.unusedVariables false
set_option linter.unusedSimpArgs false
def formCells (l : List S153) : Array Value := (l.flatMap fun p => [Value.string p.f0, Value.string p.f1, Value.int .i64 p.f2]).toArray
def strS (l : List UInt8) : Value := .string ⟨l.toArray⟩
def agg8 : DataW Unit → List Int
  | .agg l => l.map fun | .lit (.int _ n) => n | _ => 0
  | _ => []
noncomputable def laidWorld (os : Os) : World :=
  let N := (World.settled Tryd.prog os).heap.size
  let w0 := World.holding Tryd.prog os ⟨#[
    .cells #[strS [118, 97, 108, 117, 101, 32, 111, 117, 116, 32, 111, 102, 32, 114, 97, 110, 103, 101]] 213,
    .cells #[strS [105, 110, 118, 97, 108, 105, 100, 32, 115, 121, 110, 116, 97, 120]] 213,
    .cells (formCells stepFs) 153,
    .cells (formCells opFs) 153], #[], []⟩
  let put (h : Array Obj) (g : Nat) (cs : Array Value) : Array Obj := h.modify g fun
    | .cells _ t frozen => .cells cs t frozen
    | o => o
  let h0 := put w0.heap 0 ((cfgW0 :: cfgWs).map strS).toArray
  let h1 := put h0 1 #[.slice (some ⟨N + 2, 0, none⟩) 15 15]
  let h2 := put h1 2 #[.slice (some ⟨N + 3, 0, none⟩) 11 11]
  let h3 := put h2 3 (Lib.pow10Tab.map fun z => Value.int .u64 z).toArray
  let h4 := put h3 4 #[.iface 211 (.pointer (some ⟨N + 1, 0, none⟩))]
  let h5 := put h4 5 #[.iface 211 (.pointer (some ⟨N, 0, none⟩))]
  let h6 := put h5 6 ((agg8 Rows.laid_math_bits_deBruijn32tab).map fun z => Value.int .u8 z).toArray
  let h7 := put h6 7 ((agg8 Rows.laid_math_bits_deBruijn64tab).map fun z => Value.int .u8 z).toArray
  { w0 with heap := h7 }
theorem laid_met (os : Os) (args : Array Value) : laidMet Tryd.prog Rows.scriptParseRow.laid ((laidWorld os).forCall (fun _ _ => 0) ⟨#[], args, []⟩).memory :=
  laidMet_of_run' 8 (by kernel_rfl) (by kernel_rfl)
end Go.Proofs.YtnbfebjcfhbhiaaDoor.Lv
end
section
namespace Go.Proofs.YtnbfebjcfhbhiaaDoor.Sc
set_option linter.unusedVariables false
set_option linter.unusedSimpArgs false
/-- Nothing is left. -/
def Done {α : Type} (r : R α) : Prop := r = .bad [] ∨ ∃ x, r = .good x []
/-- At t the reader's answer hangs on what it has read and the next byte alone. -/
def LocAt {α : Type} (p : Rd α) (t : By) : Prop := match p t with
  | .bad r => ∃ u, t = u ++ r ∧ (∀ c0 r0, r = c0 :: r0 → ∀ m, p (u ++ c0 :: m) = .bad (c0 :: m)) ∧ Done (p u)
  | .good x r => ∃ u, t = u ++ r ∧ (∀ c0 r0, r = c0 :: r0 → ∀ m, p (u ++ c0 :: m) = .good x (c0 :: m)) ∧ ∀ n, n ≤ u.length → Done (p (u.take n))
def Loc {α : Type} (p : Rd α) : Prop := ∀ t, LocAt p t
section
variable {α β : Type} {p : Rd α}
theorem LocAt.bad {t r : By} (h : LocAt p t) (e : p t = .bad r) : ∃ u, t = u ++ r ∧ (∀ c0 r0, r = c0 :: r0 → ∀ m, p (u ++ c0 :: m) = .bad (c0 :: m)) ∧ Done (p u) := by unfold LocAt at h; rw [e] at h; exact h
theorem LocAt.good {t r : By} {x : α} (h : LocAt p t) (e : p t = .good x r) : ∃ u, t = u ++ r ∧ (∀ c0 r0, r = c0 :: r0 → ∀ m, p (u ++ c0 :: m) = .good x (c0 :: m)) ∧ ∀ n, n ≤ u.length → Done (p (u.take n)) := by unfold LocAt at h; rw [e] at h; exact h
theorem LocAt.of_bad {t r u : By} (e : p t = .bad r) (h1 : t = u ++ r) (h2 : ∀ c0 r0, r = c0 :: r0 → ∀ m, p (u ++ c0 :: m) = .bad (c0 :: m)) (h3 : Done (p u)) : LocAt p t := by unfold LocAt; rw [e]; exact ⟨u, h1, h2, h3⟩
theorem LocAt.of_good {t r u : By} {x : α} (e : p t = .good x r) (h1 : t = u ++ r) (h2 : ∀ c0 r0, r = c0 :: r0 → ∀ m, p (u ++ c0 :: m) = .good x (c0 :: m)) (h3 : ∀ n, n ≤ u.length → Done (p (u.take n))) : LocAt p t := by unfold LocAt; rw [e]; exact ⟨u, h1, h2, h3⟩
theorem Loc.nil (h : Loc p) : Done (p []) := by
  cases e : p [] with
  | bad r =>
    obtain ⟨u, h1, _⟩ := (h []).bad e
    obtain ⟨rfl, rfl⟩ := List.append_eq_nil_iff.1 h1.symm
    exact .inl rfl
  | good x r =>
    obtain ⟨u, h1, _⟩ := (h []).good e
    obtain ⟨rfl, rfl⟩ := List.append_eq_nil_iff.1 h1.symm
    exact .inr ⟨x, rfl⟩
theorem Done.bnd {r : R α} {q : α → Rd β} (h : Done r) (hq : ∀ x, Loc (q x)) : Done (r.bnd q) := by
  rcases h with rfl | ⟨x, rfl⟩
  · exact .inl rfl
  · exact (hq x).nil
theorem LocAt.bnd {q : α → Rd β} {t : By} (hp : LocAt p t) (hq : ∀ x, Loc (q x)) : LocAt (fun l => (p l).bnd q) t := by
  cases e : p t with
  | bad r =>
    obtain ⟨u, h1, h2, h3⟩ := hp.bad e
    exact LocAt.of_bad (r := r) (u := u) (by simp only [e, R.bnd_bad]) h1 (fun c0 r0 hr m => by simp only [h2 c0 r0 hr m, R.bnd_bad]) (h3.bnd hq)
  | good x l =>
    obtain ⟨u, h1, h2, h3⟩ := hp.good e
    cases f : q x l with
    | bad r =>
      obtain ⟨v, k1, k2, k3⟩ := (hq x l).bad f
      refine LocAt.of_bad (u := u ++ v) (r := r) (by simp only [e, R.bnd_good, f]) (by rw [h1, k1, List.append_assoc]) (fun c0 r0 hr m => ?_) ?_
      · cases v with
        | nil =>
          rw [List.append_nil]
          simp only [h2 c0 r0 (by rw [k1, hr]; rfl) m, R.bnd_good]
          exact k2 c0 r0 hr m
        | cons v0 v1 =>
          rw [List.append_assoc, List.cons_append]
          simp only [h2 v0 (v1 ++ r) (by rw [k1]; rfl) _, R.bnd_good]
          exact k2 c0 r0 hr m
      · cases v with
        | nil =>
          rw [List.append_nil]
          have := h3 u.length (Nat.le_refl _)
          rw [List.take_length] at this
          exact this.bnd hq
        | cons v0 v1 =>
          show Done ((p (u ++ v0 :: v1)).bnd q)
          rw [h2 v0 (v1 ++ r) (by rw [k1]; rfl) v1, R.bnd_good]
          exact k3
    | good y r =>
      obtain ⟨v, k1, k2, k3⟩ := (hq x l).good f
      refine LocAt.of_good (u := u ++ v) (x := y) (r := r) (by simp only [e, R.bnd_good, f]) (by rw [h1, k1, List.append_assoc]) (fun c0 r0 hr m => ?_) (fun n hn => ?_)
      · cases v with
        | nil =>
          rw [List.append_nil]
          simp only [h2 c0 r0 (by rw [k1, hr]; rfl) m, R.bnd_good]
          exact k2 c0 r0 hr m
        | cons v0 v1 =>
          rw [List.append_assoc, List.cons_append]
          simp only [h2 v0 (v1 ++ r) (by rw [k1]; rfl) _, R.bnd_good]
          exact k2 c0 r0 hr m
      · by_cases hu : n ≤ u.length
        · rw [List.take_append_of_le_length hu]
          exact (h3 n hu).bnd hq
        · obtain ⟨d, hd⟩ : ∃ d, n = u.length + (d + 1) := ⟨n - u.length - 1, by omega⟩
          rw [hd, List.take_length_add_append]
          cases v with
          | nil => simp at hn; omega
          | cons v0 v1 =>
            show Done ((p (u ++ v0 :: v1.take d)).bnd q)
            rw [h2 v0 (v1 ++ r) (by rw [k1]; rfl) _, R.bnd_good]
            have := k3 (d + 1) (by simp at hn ⊢; omega)
            exact this
theorem Loc.bnd {q : α → Rd β} (hp : Loc p) (hq : ∀ x, Loc (q x)) : Loc (fun l => (p l).bnd q) := fun t => LocAt.bnd (hp t) hq
theorem Loc.one (x : α) : Loc (Sc.one x) := fun t => LocAt.of_good (u := []) rfl rfl (fun _ _ _ _ => rfl) (fun n hn => by
  have : n = 0 := by simpa using hn
  subst this
  exact .inr ⟨x, rfl⟩)
theorem Loc.stop : Loc (fun r => (R.bad r : R α)) := fun t => LocAt.of_bad (u := []) rfl rfl (fun _ _ _ _ => rfl) (.inl rfl)
theorem Loc.byte (c : UInt8) : Loc (byteP c) := by
  intro t
  match t with
  | [] => exact LocAt.of_bad (u := []) (r := []) rfl rfl (fun _ _ h => by cases h) (.inl rfl)
  | x :: l =>
    by_cases hx : x = c
    · subst hx
      refine LocAt.of_good (u := [x]) (r := l) (x := ()) (by simp [byteP]) rfl (fun c0 r0 _ m => by simp [byteP]) (fun n hn => ?_)
      match n, hn with
      | 0, _ => exact .inl rfl
      | 1, _ => exact .inr ⟨(), by simp [byteP]⟩
      | n + 2, h => simp at h
    · exact LocAt.of_bad (u := []) (r := x :: l) (by simp [byteP, hx]) rfl (fun c0 r0 h m => by cases h; simp [byteP, hx]) (.inl rfl)
/-- One byte decides which of two readers goes on. -/
theorem Loc.alt {q q' : Rd α} (c : UInt8) (hp : ∀ l, p l = if l.head? = some c then q l.tail else q' l) (hq : Loc q) (hq' : Loc q') : Loc p := by
  intro t
  have pn : Done (p []) := by rw [hp]; exact hq'.nil
  match t with
  | [] =>
    have e0 : p [] = q' [] := by rw [hp]; rfl
    cases e : q' [] with
    | bad r =>
      obtain ⟨u, h1, h2, h3⟩ := (hq' []).bad e
      obtain ⟨rfl, rfl⟩ := List.append_eq_nil_iff.1 h1.symm
      exact LocAt.of_bad (u := []) (e0.trans e) rfl (fun _ _ h => by cases h) pn
    | good x r =>
      obtain ⟨u, h1, h2, h3⟩ := (hq' []).good e
      obtain ⟨rfl, rfl⟩ := List.append_eq_nil_iff.1 h1.symm
      exact LocAt.of_good (u := []) (e0.trans e) rfl (fun _ _ h => by cases h) (fun n hn => by simpa using pn)
  | x :: l =>
    by_cases hx : x = c
    · subst hx
      have hh : ∀ m, p (x :: m) = q m := fun m => by rw [hp]; simp
      cases e : q l with
      | bad r =>
        obtain ⟨u, h1, h2, h3⟩ := (hq l).bad e
        exact LocAt.of_bad (u := x :: u) ((hh l).trans e) (by rw [h1]; rfl) (fun c0 r0 hr m => (hh _).trans (h2 c0 r0 hr m)) (by rw [hh]; exact h3)
      | good y r =>
        obtain ⟨u, h1, h2, h3⟩ := (hq l).good e
        refine LocAt.of_good (u := x :: u) ((hh l).trans e) (by rw [h1]; rfl) (fun c0 r0 hr m => (hh _).trans (h2 c0 r0 hr m)) (fun n hn => ?_)
        match n, hn with
        | 0, _ => exact pn
        | n + 1, hn => rw [List.take_succ_cons, hh]; exact h3 n (by simpa using hn)
    · have hh : ∀ m, p (x :: m) = q' (x :: m) := fun m => by rw [hp]; simp [hx]
      cases e : q' (x :: l) with
      | bad r =>
        obtain ⟨u, h1, h2, h3⟩ := (hq' (x :: l)).bad e
        cases u with
        | nil =>
          refine LocAt.of_bad (u := []) ((hh l).trans e) h1 (fun c0 r0 hr m => ?_) pn
          have : x = c0 := by rw [hr] at h1; simp at h1; exact h1.1
          subst this
          exact (hh m).trans (h2 x r0 hr m)
        | cons v u =>
          have : x = v := by simp at h1; exact h1.1
          subst this
          exact LocAt.of_bad (u := x :: u) ((hh l).trans e) h1 (fun c0 r0 hr m => (hh _).trans (h2 c0 r0 hr m)) (by rw [hh]; exact h3)
      | good y r =>
        obtain ⟨u, h1, h2, h3⟩ := (hq' (x :: l)).good e
        cases u with
        | nil =>
          refine LocAt.of_good (u := []) ((hh l).trans e) h1 (fun c0 r0 hr m => ?_) (fun n hn => by simpa using pn)
          have : x = c0 := by rw [hr] at h1; simp at h1; exact h1.1
          subst this
          exact (hh m).trans (h2 x r0 hr m)
        | cons v u =>
          have : x = v := by simp at h1; exact h1.1
          subst this
          refine LocAt.of_good (u := x :: u) ((hh l).trans e) h1 (fun c0 r0 hr m => (hh _).trans (h2 c0 r0 hr m)) (fun n hn => ?_)
          match n, hn with
          | 0, _ => exact pn
          | n + 1, hn => rw [List.take_succ_cons, hh, ← List.take_succ_cons]; exact h3 (n + 1) hn
end
end Go.Proofs.YtnbfebjcfhbhiaaDoor.Sc
end
section
namespace Go.Proofs.YtnbfebjcfhbhiaaDoor.Sc
set_option linter.unusedVariables false
set_option linter.unusedSimpArgs false
section
variable {α β : Type} {p : Rd α}
theorem LocAt.at_nil (h : Done (p [])) : LocAt p [] := by
  rcases h with e | ⟨x, e⟩
  · exact LocAt.of_bad (u := []) e rfl (fun _ _ h => by cases h) (.inl e)
  · exact LocAt.of_good (u := []) e rfl (fun _ _ h => by cases h) (fun n hn => by rw [List.take_nil]; exact .inr ⟨x, e⟩)
theorem LocAt.step {q : Rd α} {c : UInt8} {l : By} (h : ∀ m, p (c :: m) = q m) (h0 : Done (p [])) (hq : LocAt q l) : LocAt p (c :: l) := by
  cases e : q l with
  | bad r =>
    obtain ⟨u, h1, h2, h3⟩ := hq.bad e
    exact LocAt.of_bad (u := c :: u) ((h l).trans e) (by rw [h1]; rfl) (fun c0 r0 hr m => (h _).trans (h2 c0 r0 hr m)) (by rw [h]; exact h3)
  | good y r =>
    obtain ⟨u, h1, h2, h3⟩ := hq.good e
    refine LocAt.of_good (u := c :: u) ((h l).trans e) (by rw [h1]; rfl) (fun c0 r0 hr m => (h _).trans (h2 c0 r0 hr m)) (fun n hn => ?_)
    match n, hn with
    | 0, _ => exact h0
    | n + 1, hn => rw [List.take_succ_cons, h]; exact h3 n (by simpa using hn)
theorem LocAt.stay_bad {c : UInt8} {l : By} (h : ∀ m, p (c :: m) = .bad (c :: m)) (h0 : Done (p [])) : LocAt p (c :: l) :=
  LocAt.of_bad (u := []) (h l) rfl (fun c0 r0 hr m => by cases hr; exact h m) h0
theorem LocAt.stay_good {c : UInt8} {l : By} {x : α} (h : ∀ m, p (c :: m) = .good x (c :: m)) (h0 : Done (p [])) : LocAt p (c :: l) :=
  LocAt.of_good (u := []) (h l) rfl (fun c0 r0 hr m => by cases hr; exact h m) (fun n hn => by
    have : n = 0 := by simpa using hn
    subst this
    exact h0)
theorem Loc.congr {q : Rd α} (h : ∀ l, p l = q l) (hq : Loc q) : Loc p := by have : p = q := funext h; rw [this]; exact hq
end
theorem numGo_done (L m : Nat) : Done (numGo L m []) := .inr ⟨m, rfl⟩
theorem numGo_loc (L : Nat) : ∀ (t : By) (m : Nat), LocAt (numGo L m) t
  | [], m => LocAt.at_nil (numGo_done L m)
  | c :: l, m => by
    by_cases hd : isDig c = true
    · by_cases hb : L < 10 * m + (c.toNat - 48)
      · exact LocAt.stay_bad (fun k => by simp [numGo, hd, hb]) (numGo_done L m)
      · exact LocAt.step (q := numGo L (10 * m + (c.toNat - 48))) (fun k => by simp [numGo, hd, hb]) (numGo_done L m) (numGo_loc L l _)
    · exact LocAt.stay_good (x := m) (fun k => by simp [numGo, hd]) (numGo_done L m)
theorem natP_loc (L : Nat) (neg : Bool) : Loc (natP L neg)
  | [] => LocAt.at_nil (.inl rfl)
  | c :: l => by
    by_cases hd : isDig c = true
    · by_cases h0 : c.toNat = 48
      · cases neg with
        | true => exact LocAt.stay_bad (fun k => by simp [natP, hd, h0]) (.inl rfl)
        | false => exact LocAt.step (q := one 0) (fun k => by simp [natP, hd, h0, one]) (.inl rfl) (Loc.one 0 l)
      · exact LocAt.step (q := numGo L (c.toNat - 48)) (fun k => by simp [natP, hd, h0]) (.inl rfl) (numGo_loc L l _)
    · exact LocAt.stay_bad (fun k => by simp [natP, hd]) (.inl rfl)
theorem numP_loc : Loc numP :=
  Loc.alt 45 (q := fun l => (natP (maxI + 1) true l).bnd (fun m r => .good (-(m : Int)) r)) (q' := fun l => (natP maxI false l).bnd (fun m r => .good (m : Int) r)) (fun l => rfl)
    (Loc.bnd (natP_loc _ _) (fun m => Loc.one _)) (Loc.bnd (natP_loc _ _) (fun m => Loc.one _))
theorem textGo_done : Done (textGo []) := .inr ⟨[], rfl⟩
def hexG2 (a : Nat) : Rd By
  | [] => .bad []
  | k :: l2 => match hexV k with
    | none => .bad (k :: l2)
    | some b => if plainB (hexB a b) then .bad (k :: l2) else (textGo l2).bnd (fun x r => .good (hexB a b :: x) r)
def hexG1 : Rd By
  | [] => .bad []
  | h :: l1 => match hexV h with
    | none => .bad (h :: l1)
    | some a => hexG2 a l1
theorem textGo_hex {c : UInt8} (h : ¬ plainB c = true) (h2 : c.toNat = 37) (l : By) : textGo (c :: l) = hexG1 l := by
  match l with
  | [] => simp [textGo, h, h2, hexG1]
  | [x] => simp only [textGo, h, h2, hexG1, if_true, Bool.false_eq_true, if_false]; cases hexV x <;> rfl
  | x :: y :: l =>
    simp only [textGo, h, h2, hexG1, if_true, Bool.false_eq_true, if_false]
    cases hexV x with
    | none => rfl
    | some a =>
      simp only [hexG2]
      cases hexV y <;> rfl
theorem textGo_loc : ∀ (n : Nat) (t : By), t.length ≤ n → LocAt textGo t
  | _, [], _ => LocAt.at_nil textGo_done
  | 0, c :: l, h => by simp at h
  | n + 1, c :: l, hn => by
    by_cases hp : plainB c = true
    · exact LocAt.step (fun m => textGo_plain hp m) textGo_done (LocAt.bnd (textGo_loc n l (by simpa using hn)) (fun x => Loc.one _))
    · by_cases h2 : c.toNat = 37
      · refine LocAt.step (fun m => textGo_hex hp h2 m) textGo_done ?_
        match l, hn with
        | [], _ => exact LocAt.at_nil (.inl rfl)
        | h :: l1, hn =>
          cases hv : hexV h with
          | none => exact LocAt.stay_bad (fun m => by simp only [hexG1, hv]) (.inl rfl)
          | some a =>
            refine LocAt.step (q := hexG2 a) (fun m => by simp only [hexG1, hv]) (.inl rfl) ?_
            match l1, hn with
            | [], _ => exact LocAt.at_nil (.inl rfl)
            | k :: l2, hn =>
              cases hw : hexV k with
              | none => exact LocAt.stay_bad (fun m => by simp only [hexG2, hw]) (.inl rfl)
              | some b =>
                by_cases hb : plainB (hexB a b) = true
                · exact LocAt.stay_bad (fun m => by simp only [hexG2, hw, hb, if_true]) (.inl rfl)
                · refine LocAt.step (q := fun l2 => (textGo l2).bnd (fun x r => .good (hexB a b :: x) r)) (fun m => by simp only [hexG2, hw]; rw [if_neg hb]) (.inl rfl) ?_
                  exact LocAt.bnd (textGo_loc n l2 (by simp at hn; omega)) (fun x => Loc.one _)
      · exact LocAt.stay_good (fun m => textGo_stop hp h2 m) textGo_done
theorem textP_loc : Loc textP :=
  Loc.alt 45 (q := one []) (q' := fun l => (textGo l).bnd fun x r => if x = [] then .bad r else .good x r) (fun l => rfl) (Loc.one _)
    (Loc.bnd (fun t => textGo_loc t.length t (Nat.le_refl _)) (fun x => by
      by_cases hx : x = []
      · exact Loc.congr (fun l => by simp [hx]) Loc.stop
      · exact Loc.congr (q := one x) (fun l => by simp [hx, one]) (Loc.one x)))
theorem common_le_left : ∀ (l w : By), common l w ≤ l.length
  | [], _ => by simp [common]
  | _ :: _, [] => by simp [common]
  | x :: a, y :: b => by
    have := common_le_left a b
    by_cases h : x = y
    · simp [common, h]; omega
    · simp [common, h]
theorem common_pre : ∀ (l w : By), common l w = w.length ↔ w <+: l
  | l, [] => by cases l <;> simp [common]
  | [], _ :: _ => by simp [common]
  | x :: a, y :: b => by
    have := common_pre a b
    by_cases h : x = y
    · simp [common, h, List.cons_prefix_cons, this]
    · simp [common, h, List.cons_prefix_cons, Ne.symm h]
theorem common_ext : ∀ (l w m : By) (n : Nat), common l w < n → n ≤ l.length → common (l.take n ++ m) w = common l w
  | [], _, _, n, h1, h2 => by simp at h2; omega
  | x :: a, [], m, n, h1, h2 => by cases n <;> simp [common] at h1 ⊢
  | x :: a, y :: b, m, 0, h1, h2 => by omega
  | x :: a, y :: b, m, n + 1, h1, h2 => by
    by_cases h : x = y
    · simp [common, h] at h1 h2 ⊢
      exact common_ext a b m n h1 h2
    · simp [common, h]
theorem common_take : ∀ (l w : By) (n : Nat), common (l.take n) w = min (common l w) n
  | [], _, n => by simp [common]
  | x :: a, [], n => by cases n <;> simp [common]
  | x :: a, y :: b, 0 => by simp [common]
  | x :: a, y :: b, n + 1 => by
    by_cases h : x = y
    · simp [common, h, common_take a b n]
    · simp [common, h]
theorem common_pref {u w : By} (m : By) (h : w <+: u) : common (u ++ m) w = w.length := (common_pre _ _).2 (h.trans (List.prefix_append u m))
def maxC : List By → Nat → By → Nat
  | [], b, _ => b
  | w :: ws, b, l => maxC ws (max b (common l w)) l
theorem maxC_le (l : By) : ∀ (ws : List By) (b : Nat), b ≤ maxC ws b l
  | [], b => Nat.le_refl _
  | w :: ws, b => Nat.le_trans (Nat.le_max_left _ _) (maxC_le l ws _)
theorem maxC_mem (l : By) : ∀ (ws : List By) (b : Nat) (w : By), w ∈ ws → common l w ≤ maxC ws b l
  | [], b, w, h => by cases h
  | v :: ws, b, w, h => by
    rcases List.mem_cons.1 h with rfl | h
    · exact Nat.le_trans (Nat.le_max_right _ _) (maxC_le l ws _)
    · exact maxC_mem l ws _ w h
theorem maxC_len (l : By) : ∀ (ws : List By) (b : Nat), b ≤ l.length → maxC ws b l ≤ l.length
  | [], b, h => h
  | w :: ws, b, h => maxC_len l ws _ (Nat.max_le.2 ⟨h, common_le_left l w⟩)
theorem maxC_congr (l l' : By) : ∀ (ws : List By) (b : Nat), (∀ w ∈ ws, common l' w = common l w) → maxC ws b l' = maxC ws b l
  | [], b, h => rfl
  | w :: ws, b, h => by
    show maxC ws (max b (common l' w)) l' = maxC ws (max b (common l w)) l
    rw [h w (.head _)]
    exact maxC_congr l l' ws _ (fun v hv => h v (.tail _ hv))
theorem oneFrom_bad (l : By) : ∀ (ws : List By) (i b : Nat), (∀ w ∈ ws, common l w ≠ w.length) → oneFrom ws i b l = .bad (l.drop (maxC ws b l))
  | [], i, b, h => rfl
  | w :: ws, i, b, h => by
    simp only [oneFrom, if_neg (h w (.head _))]
    exact oneFrom_bad l ws _ _ (fun v hv => h v (.tail _ hv))
theorem oneFrom_good (l w : By) (hw : common l w = w.length) (ws2 : List By) : ∀ (ws1 : List By) (i b : Nat), (∀ v ∈ ws1, common l v ≠ v.length) → oneFrom (ws1 ++ w :: ws2) i b l = .good (i + ws1.length) (l.drop w.length)
  | [], i, b, h => by simp [oneFrom, hw]
  | v :: ws, i, b, h => by
    simp only [List.cons_append, oneFrom, if_neg (h v (.head _))]
    rw [oneFrom_good l w hw ws2 ws _ _ (fun v hv => h v (.tail _ hv))]
    simp; omega
theorem first_of (l : By) : ∀ (ws : List By), (∀ w ∈ ws, common l w ≠ w.length) ∨ ∃ ws1 w ws2, ws = ws1 ++ w :: ws2 ∧ common l w = w.length ∧ ∀ v ∈ ws1, common l v ≠ v.length
  | [] => .inl (fun _ h => by cases h)
  | w :: ws => by
    by_cases h : common l w = w.length
    · exact .inr ⟨[], w, ws, rfl, h, fun _ h => by cases h⟩
    · rcases first_of l ws with h2 | ⟨ws1, v, ws2, rfl, h3, h4⟩
      · exact .inl (fun v hv => by (rcases List.mem_cons.1 hv with rfl | hv); exact h; exact h2 v hv)
      · exact .inr ⟨w :: ws1, v, ws2, rfl, h3, fun x hx => by (rcases List.mem_cons.1 hx with rfl | hx); exact h; exact h4 x hx⟩
def PF (ws : List By) : Prop := ∀ w ∈ ws, ∀ v ∈ ws, w <+: v → w = v
theorem oneP_loc {ws : List By} (hf : PF ws) : Loc (oneP ws) := by
  intro t
  rcases first_of t ws with hb | ⟨ws1, w, ws2, rfl, hw, hb⟩
  · have hB : maxC ws 0 t ≤ t.length := maxC_len t ws 0 (Nat.zero_le _)
    refine LocAt.of_bad (u := t.take (maxC ws 0 t)) (oneFrom_bad t ws 0 0 hb) (List.take_append_drop _ t).symm (fun c0 r0 hr m => ?_) ?_
    · have hlt : maxC ws 0 t < t.length := by
        have := congrArg List.length hr
        simp at this; omega
      have hu : t.take (maxC ws 0 t) ++ c0 :: m = t.take (maxC ws 0 t + 1) ++ m := by
        rw [List.take_add_one, List.append_assoc]
        have : t[maxC ws 0 t]? = some c0 := by
          have := congrArg List.head? hr
          simpa [List.head?_drop] using this
        rw [this]; rfl
      have hc : ∀ v ∈ ws, common (t.take (maxC ws 0 t) ++ c0 :: m) v = common t v := fun v hv => by
        rw [hu]; exact common_ext t v m _ (Nat.lt_succ_of_le (maxC_mem t ws 0 v hv)) hlt
      show oneFrom ws 0 0 _ = _
      rw [oneFrom_bad _ ws 0 0 (fun v hv => by rw [hc v hv]; exact hb v hv), maxC_congr t _ ws 0 hc]
      congr 1
      rw [List.drop_append_of_le_length (by simp; omega), List.drop_take_self, List.nil_append]
    · have hc : ∀ v ∈ ws, common (t.take (maxC ws 0 t)) v = common t v := fun v hv => by
        rw [common_take]; exact Nat.min_eq_left (maxC_mem t ws 0 v hv)
      show Done (oneFrom ws 0 0 _)
      rw [oneFrom_bad _ ws 0 0 (fun v hv => by rw [hc v hv]; exact hb v hv), maxC_congr t _ ws 0 hc, List.drop_take_self]
      exact .inl rfl
  · obtain ⟨r, rfl⟩ := (common_pre t w).1 hw
    have hno : ∀ m, ∀ v ∈ ws1, common (w ++ m) v ≠ v.length := fun m v hv hc => by
      have h1 := (common_pre _ _).1 hc
      have h2 : w <+: w ++ m := List.prefix_append w m
      have hv' : v ∈ ws1 ++ w :: ws2 := List.mem_append.2 (.inl hv)
      have hw' : w ∈ ws1 ++ w :: ws2 := List.mem_append.2 (.inr (.head _))
      have : v = w := by
        rcases Nat.le_total v.length w.length with hl | hl
        · exact hf v hv' w hw' (List.prefix_of_prefix_length_le h1 h2 hl)
        · exact (hf w hw' v hv' (List.prefix_of_prefix_length_le h2 h1 hl)).symm
      subst this
      exact hb v hv hw
    have hg : ∀ m, oneP (ws1 ++ w :: ws2) (w ++ m) = .good (0 + ws1.length) m := fun m => by
      have := oneFrom_good (w ++ m) w (common_pref m (List.prefix_refl w)) ws2 ws1 0 0 (hno m)
      rw [List.drop_left] at this
      exact this
    refine LocAt.of_good (u := w) (hg r) rfl (fun c0 r0 hr m => hg _) (fun n hn => ?_)
    by_cases hlt : n = w.length
    · subst hlt
      rw [List.take_length]
      have := hg []
      rw [List.append_nil] at this
      exact .inr ⟨_, this⟩
    · show Done (oneFrom _ 0 0 _)
      have hw' : w ∈ ws1 ++ w :: ws2 := List.mem_append.2 (.inr (.head _))
      rw [oneFrom_bad (w.take n) (ws1 ++ w :: ws2) 0 0 (fun v hv hc => by
        have h1 := (common_pre _ _).1 hc
        have h2 := hf v hv w hw' (h1.trans (List.take_prefix n w))
        subst h2
        have := h1.length_le
        simp at this; omega)]
      left
      congr 1
      refine List.drop_eq_nil_of_le ?_
      have := maxC_mem (w.take n) (ws1 ++ w :: ws2) 0 w hw'
      rw [common_take, (common_pre w w).2 (List.prefix_refl w)] at this
      simp; omega
theorem pf_one (w : By) : PF [w] := fun a ha b hb _ => by simp at ha hb; rw [ha, hb]
theorem pf_step : PF stepWs := by unfold PF stepWs; decide +kernel
theorem pf_op : PF opWs := by unfold PF opWs; decide +kernel
theorem namedP_loc (w : By) : Loc (namedP w) := Loc.bnd (oneP_loc (pf_one w)) (fun _ => Loc.bnd (Loc.byte 32) (fun _ => numP_loc))
theorem cfgGo_loc : ∀ ws : List By, Loc (cfgGo ws)
  | [] => Loc.congr (fun l => by unfold cfgGo; rfl) (Loc.one [])
  | w :: ws => Loc.congr (fun l => by (conv => lhs; unfold cfgGo); rfl) (Loc.bnd (Loc.byte 32) (fun _ => Loc.bnd (namedP_loc w) (fun n => Loc.bnd (cfgGo_loc ws) (fun x => Loc.one (n :: x)))))
theorem cfgP_loc : Loc cfgP := Loc.bnd (namedP_loc _) (fun n => Loc.bnd (cfgGo_loc _) (fun x => Loc.one (n :: x)))
theorem wordP_loc (p : Part) (x : St) : Loc (wordP p x) := by
  cases p with
  | d => exact Loc.bnd textP_loc (fun t => Loc.one _)
  | k => exact Loc.bnd textP_loc (fun t => Loc.one _)
  | _ => exact Loc.bnd numP_loc (fun v => Loc.one _)
theorem opGo_loc : ∀ (ps : List Part) (x : St), Loc (opGo ps x)
  | [], x => Loc.congr (fun l => by unfold opGo; rfl) (Loc.one x)
  | p :: ps, x => Loc.congr (fun l => by conv => lhs; unfold opGo) (Loc.bnd (Loc.byte 32) (fun _ => Loc.bnd (wordP_loc p x) (fun y => opGo_loc ps y)))
theorem partGo_loc : ∀ (ps : List Part) (x : St), Loc (partGo ps x)
  | [], x => Loc.congr (fun l => by unfold partGo; rfl) (Loc.one x)
  | p :: ps, x => by
    have hw : ∀ q, Loc (fun l => (byteP 32 l).bnd fun _ l => (wordP q x l).bnd fun x l => partGo ps x l) := fun q => Loc.bnd (Loc.byte 32) (fun _ => Loc.bnd (wordP_loc q x) (fun y => partGo_loc ps y))
    cases p with
    | o => exact Loc.congr (fun l => by conv => lhs; unfold partGo) (Loc.bnd (Loc.byte 32) (fun _ => Loc.bnd (Loc.bnd (oneP_loc pf_op) (fun g => opGo_loc _ _)) (fun y => partGo_loc ps y)))
    | _ => exact Loc.congr (fun l => by conv => lhs; unfold partGo) (hw _)
theorem stepP_loc : Loc stepP := Loc.bnd (oneP_loc pf_step) (fun f => partGo_loc _ _)
end Go.Proofs.YtnbfebjcfhbhiaaDoor.Sc
end
section
namespace Go.Proofs.YtnbfebjcfhbhiaaDoor.Sc
set_option linter.unusedVariables false
set_option linter.unusedSimpArgs false
def No10 (l : By) : Prop := ∀ c ∈ l, c ≠ 10
def R.ext {α : Type} (r : R α) (z : By) : R α := match r with
  | .good x l => .good x (l ++ z)
  | .bad l => .bad (l ++ z)
def R.left {α : Type} (r : R α) : By := match r with
  | .good _ l => l
  | .bad l => l
theorem No10.drop {l : By} (h : No10 l) (n : Nat) : No10 (l.drop n) := fun c hc => h c (List.mem_of_mem_drop hc)
theorem No10.tail {c : UInt8} {l : By} (h : No10 (c :: l)) : No10 l := fun x hx => h x (.tail _ hx)
section
variable {α β : Type} {p : Rd α}
def NlAt (p : Rd α) (l : By) : Prop := (∀ z, p (l ++ 10 :: z) = (p l).ext (10 :: z)) ∧ No10 (p l).left
def Nl (p : Rd α) : Prop := ∀ l, No10 l → NlAt p l
theorem NlAt.bnd {q : α → Rd β} {l : By} (hp : NlAt p l) (hq : ∀ x, Nl (q x)) : NlAt (fun l => (p l).bnd q) l := by
  obtain ⟨h1, h2⟩ := hp
  cases e : p l with
  | good x r =>
    rw [e] at h2
    obtain ⟨k1, k2⟩ := hq x r h2
    refine ⟨fun z => ?_, ?_⟩
    · simp only [h1 z, e, R.ext, R.bnd_good]; exact k1 z
    · simp only [e, R.bnd_good]; exact k2
  | bad r =>
    rw [e] at h2
    refine ⟨fun z => ?_, ?_⟩
    · simp only [h1 z, e, R.ext, R.bnd_bad]
    · simp only [e, R.bnd_bad]; exact h2
theorem Nl.bnd {q : α → Rd β} (hp : Nl p) (hq : ∀ x, Nl (q x)) : Nl (fun l => (p l).bnd q) := fun l hl => (hp l hl).bnd hq
theorem Nl.one (x : α) : Nl (Sc.one x) := fun l hl => ⟨fun z => rfl, hl⟩
theorem Nl.stop : Nl (fun r => (R.bad r : R α)) := fun l hl => ⟨fun z => rfl, hl⟩
theorem Nl.congr {q : Rd α} (h : ∀ l, p l = q l) (hq : Nl q) : Nl p := by have : p = q := funext h; rw [this]; exact hq
theorem NlAt.at_nil_bad (h : ∀ m, p (10 :: m) = .bad (10 :: m)) (h0 : p [] = .bad []) : NlAt p [] := ⟨fun z => by rw [h0]; exact h z, by rw [h0]; intro c h; cases h⟩
theorem NlAt.at_nil_good {x : α} (h : ∀ m, p (10 :: m) = .good x (10 :: m)) (h0 : p [] = .good x []) : NlAt p [] := ⟨fun z => by rw [h0]; exact h z, by rw [h0]; intro c h; cases h⟩
theorem NlAt.step {q : Rd α} {c : UInt8} {l : By} (h : ∀ m, p (c :: m) = q m) (hq : NlAt q l) : NlAt p (c :: l) := by
  obtain ⟨h1, h2⟩ := hq
  refine ⟨fun z => ?_, by rw [h]; exact h2⟩
  rw [List.cons_append, h, h, h1]
theorem NlAt.stay_bad {c : UInt8} {l : By} (h : ∀ m, p (c :: m) = .bad (c :: m)) (hl : No10 (c :: l)) : NlAt p (c :: l) := ⟨fun z => by rw [List.cons_append, h, h]; rfl, by rw [h]; exact hl⟩
theorem NlAt.stay_good {c : UInt8} {l : By} {x : α} (h : ∀ m, p (c :: m) = .good x (c :: m)) (hl : No10 (c :: l)) : NlAt p (c :: l) := ⟨fun z => by rw [List.cons_append, h, h]; rfl, by rw [h]; exact hl⟩
end
theorem byte_nl {c : UInt8} (h : c ≠ 10) : Nl (byteP c)
  | [], _ => NlAt.at_nil_bad (fun m => by simp [byteP, Ne.symm h]) rfl
  | x :: l, hl => by
    by_cases hx : x = c
    · exact NlAt.step (q := Sc.one ()) (fun m => by simp [byteP, hx, Sc.one]) (Nl.one () l hl.tail)
    · exact NlAt.stay_bad (fun m => by simp [byteP, hx]) hl
theorem numGo_nl (L : Nat) : ∀ (l : By) (m : Nat), No10 l → NlAt (numGo L m) l
  | [], m, _ => NlAt.at_nil_good (fun k => by simp [numGo, isDig]) rfl
  | c :: l, m, hl => by
    by_cases hd : isDig c = true
    · by_cases hb : L < 10 * m + (c.toNat - 48)
      · exact NlAt.stay_bad (fun k => by simp [numGo, hd, hb]) hl
      · exact NlAt.step (q := numGo L (10 * m + (c.toNat - 48))) (fun k => by simp [numGo, hd, hb]) (numGo_nl L l _ hl.tail)
    · exact NlAt.stay_good (x := m) (fun k => by simp [numGo, hd]) hl
theorem natP_nl (L : Nat) (neg : Bool) : Nl (natP L neg)
  | [], _ => NlAt.at_nil_bad (fun m => by simp [natP, isDig]) rfl
  | c :: l, hl => by
    by_cases hd : isDig c = true
    · by_cases h0 : c.toNat = 48
      · cases neg with
        | true => exact NlAt.stay_bad (fun k => by simp [natP, hd, h0]) hl
        | false => exact NlAt.step (q := Sc.one 0) (fun k => by simp [natP, hd, h0, Sc.one]) (Nl.one 0 l hl.tail)
      · exact NlAt.step (q := numGo L (c.toNat - 48)) (fun k => by simp [natP, hd, h0]) (numGo_nl L l _ hl.tail)
    · exact NlAt.stay_bad (fun k => by simp [natP, hd]) hl
theorem alt_nl {α : Type} {p q q' : Rd α} (c : UInt8) (hc : c ≠ 10) (hp : ∀ l, p l = if l.head? = some c then q l.tail else q' l) (hq : Nl q) (hq' : Nl q') : Nl p := by
  intro l hl
  cases l with
  | nil =>
    obtain ⟨h1, h2⟩ := hq' [] hl
    refine ⟨fun z => ?_, ?_⟩
    · rw [hp, hp]
      simp only [List.nil_append, List.head?_cons, List.head?_nil, Option.some.injEq, reduceCtorEq, if_false]
      rw [if_neg (Ne.symm hc)]
      exact h1 z
    · rw [hp]; exact h2
  | cons x l =>
    by_cases hx : x = c
    · exact NlAt.step (q := q) (fun m => by rw [hp]; simp [hx]) (hq l hl.tail)
    · obtain ⟨h1, h2⟩ := hq' (x :: l) hl
      have hh : ∀ m, p (x :: m) = q' (x :: m) := fun m => by rw [hp]; simp [hx]
      refine ⟨fun z => ?_, by rw [hh]; exact h2⟩
      rw [List.cons_append, hh, hh]
      exact h1 z
theorem numP_nl : Nl numP :=
  alt_nl 45 (by decide) (q := fun l => (natP (maxI + 1) true l).bnd (fun m r => .good (-(m : Int)) r)) (q' := fun l => (natP maxI false l).bnd (fun m r => .good (m : Int) r)) (fun l => rfl)
    (Nl.bnd (natP_nl _ _) (fun m => Nl.one _)) (Nl.bnd (natP_nl _ _) (fun m => Nl.one _))
theorem textGo_nl : ∀ (n : Nat) (t : By), t.length ≤ n → No10 t → NlAt textGo t
  | _, [], _, _ => NlAt.at_nil_good (fun m => textGo_stop (by decide) (by decide) m) rfl
  | 0, c :: l, h, _ => by simp at h
  | n + 1, c :: l, hn, hl => by
    by_cases hp : plainB c = true
    · exact NlAt.step (fun m => textGo_plain hp m) (NlAt.bnd (textGo_nl n l (by simpa using hn) hl.tail) (fun x => Nl.one _))
    · by_cases h2 : c.toNat = 37
      · refine NlAt.step (fun m => textGo_hex hp h2 m) ?_
        match l, hn, hl.tail with
        | [], _, _ => exact NlAt.at_nil_bad (fun m => by simp [hexG1, hexV]) rfl
        | h :: l1, hn, hl => 
          cases hv : hexV h with
          | none => exact NlAt.stay_bad (fun m => by simp only [hexG1, hv]) hl
          | some a =>
            refine NlAt.step (q := hexG2 a) (fun m => by simp only [hexG1, hv]) ?_
            match l1, hn, hl.tail with
            | [], _, _ => exact NlAt.at_nil_bad (fun m => by simp [hexG2, hexV]) rfl
            | k :: l2, hn, hl =>
              cases hw : hexV k with
              | none => exact NlAt.stay_bad (fun m => by simp only [hexG2, hw]) hl
              | some b =>
                by_cases hb : plainB (hexB a b) = true
                · exact NlAt.stay_bad (fun m => by simp only [hexG2, hw, hb, if_true]) hl
                · refine NlAt.step (q := fun l2 => (textGo l2).bnd (fun x r => .good (hexB a b :: x) r)) (fun m => by simp only [hexG2, hw]; rw [if_neg hb]) ?_
                  exact NlAt.bnd (textGo_nl n l2 (by simp at hn; omega) hl.tail) (fun x => Nl.one _)
      · exact NlAt.stay_good (fun m => textGo_stop hp h2 m) hl
theorem textP_nl : Nl textP :=
  alt_nl 45 (by decide) (q := Sc.one []) (q' := fun l => (textGo l).bnd fun x r => if x = [] then .bad r else .good x r) (fun l => rfl) (Nl.one _)
    (Nl.bnd (fun t ht => textGo_nl t.length t (Nat.le_refl _) ht) (fun x => by
      by_cases hx : x = []
      · exact Nl.congr (fun l => by simp [hx]) Nl.stop
      · exact Nl.congr (q := Sc.one x) (fun l => by simp [hx, Sc.one]) (Nl.one x)))
theorem common_nl : ∀ (l w z : By), No10 w → common (l ++ 10 :: z) w = common l w
  | [], [], z, _ => by simp [common]
  | [], y :: w, z, h => by
    have : ¬ (10 : UInt8) = y := fun e => h y (.head _) e.symm
    simp [common, this]
  | x :: l, [], z, _ => by simp [common]
  | x :: l, y :: w, z, h => by
    simp only [List.cons_append, common]
    rw [common_nl l w z h.tail]
theorem oneFrom_nl (l : By) (hl : No10 l) : ∀ (ws : List By) (i b : Nat), (∀ w ∈ ws, No10 w) → b ≤ l.length → NlAt (oneFrom ws i b) l
  | [], i, b, _, hb => ⟨fun z => by simp only [oneFrom, R.ext]; rw [List.drop_append_of_le_length hb], hl.drop b⟩
  | w :: ws, i, b, h, hb => by
    have hc := common_le_left l w
    obtain ⟨h1, h2⟩ := oneFrom_nl l hl ws (i + 1) (max b (common l w)) (fun v hv => h v (.tail _ hv)) (by omega)
    refine ⟨fun z => ?_, ?_⟩
    · simp only [oneFrom]
      rw [common_nl l w z (h w (.head _))]
      by_cases e : common l w = w.length
      · rw [if_pos e, if_pos e, List.drop_append_of_le_length (by omega)]; rfl
      · rw [if_neg e, if_neg e]; exact h1 z
    · simp only [oneFrom]
      by_cases e : common l w = w.length
      · rw [if_pos e]; exact hl.drop _
      · rw [if_neg e]; exact h2
theorem oneP_nl {ws : List By} (h : ∀ w ∈ ws, No10 w) : Nl (oneP ws) := fun l hl => oneFrom_nl l hl ws 0 0 h (Nat.zero_le _)
instance (l : By) : Decidable (No10 l) := by unfold No10; infer_instance
theorem step_no10 : ∀ w ∈ stepWs, No10 w := by decide +kernel
theorem op_no10 : ∀ w ∈ opWs, No10 w := by decide +kernel
theorem cfg_no10 : ∀ w ∈ cfgW0 :: cfgWs, No10 w := by decide +kernel
theorem namedP_nl {w : By} (h : No10 w) : Nl (namedP w) := Nl.bnd (oneP_nl (by intro v hv; rw [List.mem_singleton.1 hv]; exact h)) (fun _ => Nl.bnd (byte_nl (by decide)) (fun _ => numP_nl))
theorem cfgGo_nl : ∀ ws : List By, (∀ w ∈ ws, No10 w) → Nl (cfgGo ws)
  | [], _ => Nl.congr (fun l => by unfold cfgGo; rfl) (Nl.one [])
  | w :: ws, h => Nl.congr (fun l => by (conv => lhs; unfold cfgGo); rfl) (Nl.bnd (byte_nl (by decide)) (fun _ => Nl.bnd (namedP_nl (h w (.head _))) (fun n => Nl.bnd (cfgGo_nl ws (fun v hv => h v (.tail _ hv))) (fun x => Nl.one (n :: x)))))
theorem cfgP_nl : Nl cfgP := Nl.bnd (namedP_nl (cfg_no10 _ (.head _))) (fun n => Nl.bnd (cfgGo_nl _ (fun w hw => cfg_no10 w (.tail _ hw))) (fun x => Nl.one (n :: x)))
theorem wordP_nl (p : Part) (x : St) : Nl (wordP p x) := by
  cases p with
  | d => exact Nl.bnd textP_nl (fun t => Nl.one _)
  | k => exact Nl.bnd textP_nl (fun t => Nl.one _)
  | _ => exact Nl.bnd numP_nl (fun v => Nl.one _)
theorem opGo_nl : ∀ (ps : List Part) (x : St), Nl (opGo ps x)
  | [], x => Nl.congr (fun l => by unfold opGo; rfl) (Nl.one x)
  | p :: ps, x => Nl.congr (fun l => by conv => lhs; unfold opGo) (Nl.bnd (byte_nl (by decide)) (fun _ => Nl.bnd (wordP_nl p x) (fun y => opGo_nl ps y)))
theorem partGo_nl : ∀ (ps : List Part) (x : St), Nl (partGo ps x)
  | [], x => Nl.congr (fun l => by unfold partGo; rfl) (Nl.one x)
  | p :: ps, x => by
    have hw : ∀ q, Nl (fun l => (byteP 32 l).bnd fun _ l => (wordP q x l).bnd fun x l => partGo ps x l) := fun q => Nl.bnd (byte_nl (by decide)) (fun _ => Nl.bnd (wordP_nl q x) (fun y => partGo_nl ps y))
    cases p with
    | o => exact Nl.congr (fun l => by conv => lhs; unfold partGo) (Nl.bnd (byte_nl (by decide)) (fun _ => Nl.bnd (Nl.bnd (oneP_nl op_no10) (fun g => opGo_nl _ _)) (fun y => partGo_nl ps y)))
    | _ => exact Nl.congr (fun l => by conv => lhs; unfold partGo) (hw _)
theorem stepP_nl : Nl stepP := Nl.bnd (oneP_nl step_no10) (fun f => partGo_nl _ _)
/-- A line with its end, read out of a whole text. -/
def endP {α : Type} (p : Rd α) : Rd α := fun l => (p l).bnd fun x l => (byteP 10 l).bnd fun _ l => .good x l
theorem loc_suf {α : Type} {p : Rd α} (hp : Loc p) (t : By) : (p t).left <:+ t := by
  cases e : p t with
  | bad r =>
    obtain ⟨u, h, _⟩ := (hp t).bad e
    exact ⟨u, h.symm⟩
  | good x r =>
    obtain ⟨u, h, _⟩ := (hp t).good e
    exact ⟨u, h.symm⟩
/-- READ AS A LINE OR OUT OF THE WHOLE TEXT: the same. -/
theorem lineE_whole {α : Type} {p : Rd α} (hp : Nl p) (hq : Loc p) {t : By} (ht : No10 t) (z : By) : (∀ x, lineE p t true = .ok x → endP p (t ++ 10 :: z) = .good x z) ∧ (∀ k, lineE p t true = .error k → endP p (t ++ 10 :: z) = .bad (t.drop k ++ 10 :: z) ∧ k ≤ t.length) := by
  obtain ⟨h1, h2⟩ := hp t ht
  have h3 := loc_suf hq t
  unfold lineE endP
  rw [h1 z]
  cases e : p t with
  | bad r =>
    rw [e] at h3
    simp only [R.left] at h3
    have h4 := List.suffix_iff_eq_drop.1 h3
    refine ⟨fun x h => by simp at h, fun k h => ?_⟩
    simp only [Except.error.injEq] at h
    subst h
    exact ⟨by rw [← h4]; rfl, Nat.sub_le _ _⟩
  | good x r =>
    rw [e] at h2 h3
    simp only [R.left] at h2 h3
    cases r with
    | nil =>
      refine ⟨fun y h => ?_, fun k h => by simp at h⟩
      simp only [if_true, Except.ok.injEq] at h
      subst h
      simp [R.ext, R.bnd, byteP]
    | cons c r =>
      have hc : c ≠ 10 := h2 c (.head _)
      have h4 := List.suffix_iff_eq_drop.1 h3
      refine ⟨fun y h => by simp at h, fun k h => ?_⟩
      simp only [Except.error.injEq] at h
      subst h
      exact ⟨by rw [← h4]; simp [R.ext, R.bnd, byteP, hc], Nat.sub_le _ _⟩
theorem lineE_open {α : Type} {p : Rd α} (hp : Nl p) (hq : Loc p) {t : By} (ht : No10 t) : ∃ k, lineE p t false = .error k ∧ endP p t = .bad (t.drop k) ∧ k ≤ t.length := by
  obtain ⟨h1, h2⟩ := hp t ht
  have h3 := loc_suf hq t
  unfold lineE endP
  cases e : p t with
  | bad r =>
    rw [e] at h3
    simp only [R.left] at h3
    have h4 := List.suffix_iff_eq_drop.1 h3
    exact ⟨_, rfl, by rw [← h4]; rfl, Nat.sub_le _ _⟩
  | good x r =>
    rw [e] at h2 h3
    simp only [R.left] at h2 h3
    cases r with
    | nil => exact ⟨t.length, by simp, by simp [R.bnd, byteP], Nat.le_refl _⟩
    | cons c r =>
      have hc : c ≠ 10 := h2 c (.head _)
      have h4 := List.suffix_iff_eq_drop.1 h3
      exact ⟨_, rfl, by rw [← h4]; simp [R.bnd, byteP, hc], Nat.sub_le _ _⟩
end Go.Proofs.YtnbfebjcfhbhiaaDoor.Sc
end
section
namespace Go.Proofs.YtnbfebjcfhbhiaaDoor.P
open Go.RowKit Go.Proofs.YtnbfebjcfhbhiaaDoorW.PrintWords Go.Proofs.YtnbfebjcfhbhiaaDoorW.PrintLast Go.Proofs.YtnbfebjcfhbhiaaDoorW.PrintMore
attribute [local go_sem] max2_int min2_int max_two min_two max_three min_three max_four min_four   -- for this text's walks alone
set_option linter.unusedVariables false
set_option linter.unusedSimpArgs false

mutual
def sluiceref18_reader_choose.l0 : Nat → List ByteArray → Int → Bool → ByteArray → Int → Bool → Option (Int × ByteArray × Int × Bool)
  | 0, _, _, _, _, _, _ => none
  | k + 1, x1, x5, x6, x1000, x1001, x1002 => if x6 = true then (sluiceref18_reader_choose.j1 k x1 x5 (decide (x1001 < (x1000.size : Int))) x1000 x1001 x1002) else (sluiceref18_reader_choose.j1 k x1 x5 false x1000 x1001 x1002)
def sluiceref18_reader_choose.j1 : Nat → List ByteArray → Int → Bool → ByteArray → Int → Bool → Option (Int × ByteArray × Int × Bool)
  | 0, _, _, _, _, _, _ => none
  | k + 1, x1, x5, x29, x1000, x1001, x1002 => if x29 = true then (sluiceref18_reader_choose.l1 k x1 x5 false 0 x1000 x1001 x1002) else (sluiceref18_reader_choose.l2 k x1 x5 0 x1000 x1001 x1002)
def sluiceref18_reader_choose.l1 : Nat → List ByteArray → Int → Bool → Int → ByteArray → Int → Bool → Option (Int × ByteArray × Int × Bool)
  | 0, _, _, _, _, _, _, _ => none
  | k + 1, x1, x5, x6, x7, x1000, x1001, x1002 => if x7 < (x1.length : Int) then (if 0 ≤ x7 then (if 0 ≤ x5 then (if x5 ≤ (wrap64 (x1001 + 1)) then (if (wrap64 (x1001 + 1)) ≤ (x1000.size : Int) then ((sluiceref18_begins.f (rdOf ByteArray.empty x1 x7) (x1000.extract (x5 : Int).toNat ((wrap64 (x1001 + 1)) : Int).toNat)).bind fun t218 => (if t218 = true then (sluiceref18_reader_choose.l1 k x1 x5 true (wrap64 (x7 + 1)) x1000 x1001 x1002) else (sluiceref18_reader_choose.l1 k x1 x5 x6 (wrap64 (x7 + 1)) x1000 x1001 x1002))) else (none)) else (none)) else (none)) else (none)) else (if x6 = true then (sluiceref18_reader_choose.l0 k x1 x5 x6 x1000 (wrap64 (x1001 + 1)) x1002) else (sluiceref18_reader_choose.l0 k x1 x5 x6 x1000 x1001 x1002))
def sluiceref18_reader_choose.l2 : Nat → List ByteArray → Int → Int → ByteArray → Int → Bool → Option (Int × ByteArray × Int × Bool)
  | 0, _, _, _, _, _, _ => none
  | k + 1, x1, x5, x8, x1000, x1001, x1002 => if x8 < (x1.length : Int) then (if 0 ≤ x8 then (if 0 ≤ x5 then (if x5 ≤ x1001 then (if x1001 ≤ (x1000.size : Int) then (if (rdOf ByteArray.empty x1 x8).toList = (x1000.extract (x5 : Int).toNat (x1001 : Int).toNat).toList then (some (x8, x1000, x1001, x1002)) else (sluiceref18_reader_choose.l2 k x1 x5 (wrap64 (x8 + 1)) x1000 x1001 x1002)) else (none)) else (none)) else (none)) else (none)) else (some (0, x1000, x1001, true))
end
def sluiceref18_reader_choose.f (k : Nat) (s0_0 : ByteArray) (s0_1 : Int) (s0_2 : Bool) (l1 : List ByteArray) : Option (Int × ByteArray × Int × Bool) := if s0_2 = true then (some (0, s0_0, s0_1, s0_2)) else (sluiceref18_reader_choose.l0 k l1 s0_1 true s0_0 s0_1 s0_2)
set_option maxHeartbeats 8000000 in
set_option maxRecDepth 100000 in
theorem sluiceref18_reader_choose.calls (k : Nat) (g : Nat) (s0_0 : ByteArray) (s0_1 : Int) (s0_2 : Bool) (A1 : Option Addr) (c1 : Nat) (l1 : List ByteArray) (r1 : Int) (r2 : ByteArray) (r3 : Int) (r4 : Bool) (w0 w : World) (hI : IsS122 w0 w g s0_0 s0_1 s0_2) (hB : Below w0.heap.size w0 w) (hr1 : Kd.C Kd.string w A1 l1.length l1) (hc1 : l1.length ≤ c1) (hf1 : ∀ ad, A1 = some ad → 0 < l1.length → ad.block ≠ g) (h : sluiceref18_reader_choose.f k s0_0 s0_1 s0_2 l1 = some (r1, r2, r3, r4)) :
    Calls Tryd.prog 65 #[.pointer (some ⟨g, 0, none⟩), .slice A1 l1.length c1] w fun e w' => e = .returned (.int .i64 r1) ∧ IsS122 w0 w' g r2 r3 r4 ∧ Below w0.heap.size w0 w' ∧ KeepBut w w' g none := by
  have HR1 := Aside0.mk hr1
  have HC1 := Aside0.mk hc1
  clear hr1 hc1
  have HI0 := Aside0.mk hI
  have HK := Aside0.mk (KeepBut.refl w g none)
  have HL := Aside0.mk hB.size
  clear hI
  have HW0 := Aside0.mk hB.size
  have HB := Aside0.mk hB
  clear hB
  have H : (if s0_2 = true then (some (0, s0_0, s0_1, s0_2)) else (sluiceref18_reader_choose.l0 k l1 s0_1 true s0_0 s0_1 s0_2)) = some (r1, r2, r3, r4) := h
  clear h
  by_cases c3 : s0_2 = true
  · subst c3
    have H1 : (some (0, s0_0, s0_1, true)) = some (r1, r2, r3, r4) := by rw [if_pos rfl] at H; exact H
    clear H
    have H := H1
    clear H1
    simp only [Option.some.injEq, Prod.mk.injEq] at H
    obtain ⟨rfl, rfl, rfl, rfl⟩ := H
    obtain ⟨HGz4, hgz4⟩ := HI0.out
    have hcz4_0 := cellS122_0 HGz4
    have hcz4_1 := cellS122_1 HGz4
    have hcz4_2 := cellS122_2 HGz4
    have hfz4_0 := blk_frozen HGz4 0
    have hfz4_1 := blk_frozen HGz4 1
    have hfz4_2 := blk_frozen HGz4 2
    clear HGz4 hgz4
    go_enter Tryd.func65, Tryd.ntmps65
    go_wp2
    repeat (go_quiet (fail); try go_wp2)
    go_ret
    exact ⟨by first | rfl | (simp [errW_none, errW_some] <;> rfl) | (simp [*, errW_none, errW_some] <;> rfl), by repeat (first | (with_reducible first | exact HI0.out | apply IsS122.alloc | apply IsS122.drewN | apply IsS122.drew | apply IsS122.set_0 | apply IsS122.set_1 | apply IsS122.set_2) | exact HI0.out), by repeat (first | (with_reducible first | exact HB.out | apply below_alloc | apply pw_below_drewN | apply below_drew1 | refine below_set ?_ (IsS122.ge HI0.out)) | exact HB.out), by repeat (first | (with_reducible first | exact HK.out | apply KeepBut.set_ | apply keep_drewN | apply keep_drew | apply keep_alloc) | exact HK.out)⟩
  · replace c3 := Bool.eq_false_iff.mpr c3
    subst c3
    have H1 : (sluiceref18_reader_choose.l0 k l1 s0_1 true s0_0 s0_1 false) = some (r1, r2, r3, r4) := by rw [if_neg (show ¬ (false = true) by decide)] at H; exact H
    clear H
    have H := H1
    clear H1
    have H' := Aside0.mk H
    clear H
    obtain ⟨HGz5, hgz5⟩ := HI0.out
    have hcz5_0 := cellS122_0 HGz5
    have hcz5_1 := cellS122_1 HGz5
    have hcz5_2 := cellS122_2 HGz5
    have hfz5_0 := blk_frozen HGz5 0
    have hfz5_1 := blk_frozen HGz5 1
    have hfz5_2 := blk_frozen HGz5 2
    clear HGz5 hgz5
    go_enter Tryd.func65, Tryd.ntmps65
    go_wp2
    repeat (go_quiet (fail); try go_wp2)
    go_loopg [6] k (fun kq v6 w' => ∃ (x6_1 : Bool) (x1001_1 : Int), v6 = .bool x6_1 ∧ Aside0 (sluiceref18_reader_choose.l0 kq l1 s0_1 x6_1 s0_0 x1001_1 false = some (r1, r2, r3, r4)) ∧ Aside0 (kq ≤ k) ∧ Aside0 (IsS122 w0 w' g s0_0 x1001_1 false) ∧ Aside0 (KeepBut w w' g none) ∧ Aside0 (Below w0.heap.size w0 w'))
    case atStart => exact ⟨(true), (s0_1), (by first | rfl | (simp; done) | (simp [*]; done)), H', ⟨Nat.le_refl _⟩, ⟨by repeat (first | (with_reducible first | exact HI0.out | apply IsS122.alloc | apply IsS122.drewN | apply IsS122.drew | apply IsS122.set_0 | apply IsS122.set_1 | apply IsS122.set_2) | exact HI0.out)⟩, ⟨by repeat (first | (with_reducible first | exact HK.out | apply KeepBut.set_ | apply keep_drewN | apply keep_drew | apply keep_alloc) | exact HK.out)⟩, ⟨by repeat (first | (with_reducible first | exact HB.out | apply below_alloc | apply pw_below_drewN | apply below_drew1 | refine below_set ?_ (IsS122.ge HI0.out)) | exact HB.out)⟩⟩
    case round =>
      clear H'
      try clear c1
      try clear p2
      try clear c3
      try clear hcz4_0
      try clear hcz4_1
      try clear hcz4_2
      try clear hcz5_0
      try clear hcz5_1
      try clear hcz5_2
      try clear hfz4_0
      try clear hfz4_1
      try clear hfz4_2
      try clear hfz5_0
      try clear hfz5_1
      try clear hfz5_2
      obtain ⟨x6_1, x1001_1, rfl, HA, HK1, HI0, HK, HB⟩ := hrel
      cases gk with
      | zero => exact absurd HA.out (by simp [sluiceref18_reader_choose.l0])
      | succ k1 =>
        have H := HA.out
        clear HA
        simp only [sluiceref18_reader_choose.l0] at H
        have HC6 := Aside0.mk H
        clear H
        go_upto_region 5 with (fail)
        repeat (go_quiet (fail); go_upto_region 5 with (fail))
        go_cut [29] (fun v29 wc => ∃ (kq : Nat) (x29_5 : Bool), v29 = .bool x29_5 ∧ Aside0 (sluiceref18_reader_choose.j1 kq l1 s0_1 x29_5 s0_0 x1001_1 false = some (r1, r2, r3, r4)) ∧ Aside0 (kq ≤ k1) ∧ Aside0 (IsS122 w0 wc g s0_0 x1001_1 false) ∧ Aside0 (KeepBut w wc g none) ∧ Aside0 (Below w0.heap.size w0 wc))
        case first =>
          have H := HC6.out
          clear HC6
          by_cases c7 : x6_1 = true
          · subst c7
            have H1 : (sluiceref18_reader_choose.j1 k1 l1 s0_1 (decide (x1001_1 < (s0_0.size : Int))) s0_0 x1001_1 false) = some (r1, r2, r3, r4) := by rw [if_pos rfl] at H; exact H
            clear H
            have H := H1
            clear H1
            have H' := Aside0.mk H
            clear H
            obtain ⟨HGz8, hgz8⟩ := HI0.out
            have hcz8_0 := cellS122_0 HGz8
            have hcz8_1 := cellS122_1 HGz8
            have hcz8_2 := cellS122_2 HGz8
            have hfz8_0 := blk_frozen HGz8 0
            have hfz8_1 := blk_frozen HGz8 1
            have hfz8_2 := blk_frozen HGz8 2
            clear HGz8 hgz8
            go_wp2
            repeat (go_quiet (fail); try go_wp2)
            go_meet
            case rel => exact ⟨_, (decide (x1001_1 < (s0_0.size : Int))), (by first | rfl | (simp; done) | (simp [*]; done)), H', ⟨by have := HK1.out; first | omega | exact Nat.le_refl _⟩, ⟨by repeat (first | (with_reducible first | exact HI0.out | apply IsS122.alloc | apply IsS122.drewN | apply IsS122.drew | apply IsS122.set_0 | apply IsS122.set_1 | apply IsS122.set_2) | exact HI0.out)⟩, ⟨by repeat (first | (with_reducible first | exact HK.out | apply KeepBut.set_ | apply keep_drewN | apply keep_drew | apply keep_alloc) | exact HK.out)⟩, ⟨by repeat (first | (with_reducible first | exact HB.out | apply below_alloc | apply pw_below_drewN | apply below_drew1 | refine below_set ?_ (IsS122.ge HI0.out)) | exact HB.out)⟩⟩
          · replace c7 := Bool.eq_false_iff.mpr c7
            subst c7
            have H1 : (sluiceref18_reader_choose.j1 k1 l1 s0_1 false s0_0 x1001_1 false) = some (r1, r2, r3, r4) := by rw [if_neg (show ¬ (false = true) by decide)] at H; exact H
            clear H
            have H := H1
            clear H1
            have H' := Aside0.mk H
            clear H
            go_wp2
            repeat (go_quiet (fail); try go_wp2)
            go_meet
            case rel => exact ⟨_, (false), (by first | rfl | (simp; done) | (simp [*]; done)), H', ⟨by have := HK1.out; first | omega | exact Nat.le_refl _⟩, ⟨by repeat (first | (with_reducible first | exact HI0.out | apply IsS122.alloc | apply IsS122.drewN | apply IsS122.drew | apply IsS122.set_0 | apply IsS122.set_1 | apply IsS122.set_2) | exact HI0.out)⟩, ⟨by repeat (first | (with_reducible first | exact HK.out | apply KeepBut.set_ | apply keep_drewN | apply keep_drew | apply keep_alloc) | exact HK.out)⟩, ⟨by repeat (first | (with_reducible first | exact HB.out | apply below_alloc | apply pw_below_drewN | apply below_drew1 | refine below_set ?_ (IsS122.ge HI0.out)) | exact HB.out)⟩⟩
        case rest =>
          clear HC6
          try clear c1
          try clear p2
          try clear c3
          try clear c6
          try clear c7
          try clear hcz4_0
          try clear hcz4_1
          try clear hcz4_2
          try clear hcz5_0
          try clear hcz5_1
          try clear hcz5_2
          try clear hcz8_0
          try clear hcz8_1
          try clear hcz8_2
          try clear hfz4_0
          try clear hfz4_1
          try clear hfz4_2
          try clear hfz5_0
          try clear hfz5_1
          try clear hfz5_2
          try clear hfz8_0
          try clear hfz8_1
          try clear hfz8_2
          try clear p2
          obtain ⟨kq, x29_5, rfl, HA, HJ5, HI0, HK, HB⟩ := hcut
          cases kq with
          | zero => exact absurd HA.out (by simp [sluiceref18_reader_choose.j1])
          | succ kj5 =>
            have H := HA.out
            clear HA
            simp only [sluiceref18_reader_choose.j1] at H
            by_cases c9 : x29_5 = true
            · subst c9
              have H1 : (sluiceref18_reader_choose.l1 kj5 l1 s0_1 false 0 s0_0 x1001_1 false) = some (r1, r2, r3, r4) := by rw [if_pos rfl] at H; exact H
              clear H
              have H := H1
              clear H1
              have H' := Aside0.mk H
              clear H
              go_wp2
              repeat (go_quiet (fail); try go_wp2)
              go_loopg [6, 7] kj5 (fun kq v6 v7 w' => ∃ (x6_3 : Bool) (x7_3 : Int), v6 = .bool x6_3 ∧ v7 = .int .i64 x7_3 ∧ Aside0 (sluiceref18_reader_choose.l1 kq l1 s0_1 x6_3 x7_3 s0_0 x1001_1 false = some (r1, r2, r3, r4)) ∧ Aside0 (kq ≤ kj5) ∧ Aside0 (IsS122 w0 w' g s0_0 x1001_1 false) ∧ Aside0 (KeepBut w w' g none) ∧ Aside0 (Below w0.heap.size w0 w'))
              case atStart => exact ⟨(false), (0), (by first | rfl | (simp; done) | (simp [*]; done)), (by first | rfl | (simp; done) | (simp [*]; done)), H', ⟨Nat.le_refl _⟩, ⟨by repeat (first | (with_reducible first | exact HI0.out | apply IsS122.alloc | apply IsS122.drewN | apply IsS122.drew | apply IsS122.set_0 | apply IsS122.set_1 | apply IsS122.set_2) | exact HI0.out)⟩, ⟨by repeat (first | (with_reducible first | exact HK.out | apply KeepBut.set_ | apply keep_drewN | apply keep_drew | apply keep_alloc) | exact HK.out)⟩, ⟨by repeat (first | (with_reducible first | exact HB.out | apply below_alloc | apply pw_below_drewN | apply below_drew1 | refine below_set ?_ (IsS122.ge HI0.out)) | exact HB.out)⟩⟩
              case round =>
                clear H'
                try clear c1
                try clear p2
                try clear c3
                try clear c6
                try clear c7
                try clear c9
                try clear hcz4_0
                try clear hcz4_1
                try clear hcz4_2
                try clear hcz5_0
                try clear hcz5_1
                try clear hcz5_2
                try clear hcz8_0
                try clear hcz8_1
                try clear hcz8_2
                try clear hfz4_0
                try clear hfz4_1
                try clear hfz4_2
                try clear hfz5_0
                try clear hfz5_1
                try clear hfz5_2
                try clear hfz8_0
                try clear hfz8_1
                try clear hfz8_2
                try clear p2
                obtain ⟨x6_3, x7_3, rfl, rfl, HA, HK3, HI0, HK, HB⟩ := hrel
                cases gk with
                | zero => exact absurd HA.out (by simp [sluiceref18_reader_choose.l1])
                | succ k3 =>
                  have H := HA.out
                  clear HA
                  simp only [sluiceref18_reader_choose.l1] at H
                  by_cases c10 : x7_3 < (l1.length : Int)
                  · rw [if_pos c10] at H
                    have c10b0 : decide (x7_3 < (l1.length : Int)) = true := decide_eq_true c10
                    clear c10
                    by_cases c11 : 0 ≤ x7_3
                    · rw [if_pos c11] at H
                      have c11b0 : decide (0 ≤ x7_3) = true := decide_eq_true c11
                      clear c11
                      by_cases c12 : 0 ≤ s0_1
                      · rw [if_pos c12] at H
                        have c12b0 := eq_true c12
                        have c12b1 : decide (0 ≤ s0_1) = true := decide_eq_true c12
                        clear c12
                        by_cases c13 : s0_1 ≤ (wrap64 (x1001_1 + 1))
                        · rw [if_pos c13] at H
                          have c13b0 := eq_true c13
                          have c13b1 : decide (s0_1 ≤ (wrap64 (x1001_1 + 1))) = true := decide_eq_true c13
                          by_cases c14 : (wrap64 (x1001_1 + 1)) ≤ (s0_0.size : Int)
                          · rw [if_pos c14] at H
                            have c14b0 := eq_true c14
                            have c14b1 : decide ((wrap64 (x1001_1 + 1)) ≤ (s0_0.size : Int)) = true := decide_eq_true c14
                            replace H := Option.bind_eq_some_iff.mp H
                            obtain ⟨t218, A150, H⟩ := H
                            replace H : (if t218 = true then (sluiceref18_reader_choose.l1 k3 l1 s0_1 true (wrap64 (x7_3 + 1)) s0_0 x1001_1 false) else (sluiceref18_reader_choose.l1 k3 l1 s0_1 x6_3 (wrap64 (x7_3 + 1)) s0_0 x1001_1 false)) = some (r1, r2, r3, r4) := H
                            have A15 := Aside0.mk A150
                            clear A150
                            by_cases c16 : t218 = true
                            · subst c16
                              have H1 : (sluiceref18_reader_choose.l1 k3 l1 s0_1 true (wrap64 (x7_3 + 1)) s0_0 x1001_1 false) = some (r1, r2, r3, r4) := by rw [if_pos rfl] at H; exact H
                              clear H
                              have H := H1
                              clear H1
                              have H' := Aside0.mk H
                              clear H
                              have p217 : 0 ≤ (x7_3 : Int) := of_decide_eq_true (by first | (with_reducible assumption) | assumption)
                              have q217 : x7_3 < (l1.length : Int) := of_decide_eq_true (by first | (with_reducible assumption) | assumption)
                              obtain ⟨ad217, e217, hx217_0⟩ := Kd.at_string HR1.out x7_3 p217 q217
                              cases e217
                              replace hx217_0 := keep_cell HK.out hx217_0 (by first | (rw [add_block]; exact hf1 _ rfl (by omega)) | exact hf1 _ rfl (by omega) | exact hf1 ad217 rfl (by omega))
                              replace p217 := eq_true p217
                              replace q217 := eq_true q217
                              obtain ⟨HGz17, hgz17⟩ := HI0.out
                              have hcz17_0 := cellS122_0 HGz17
                              have hcz17_1 := cellS122_1 HGz17
                              have hcz17_2 := cellS122_2 HGz17
                              have hfz17_0 := blk_frozen HGz17 0
                              have hfz17_1 := blk_frozen HGz17 1
                              have hfz17_2 := blk_frozen HGz17 2
                              clear HGz17 hgz17
                              go_wp2_with (first | (go_at_call 89; (with_reducible refine (sluiceref18_begins.calls (rdOf ByteArray.empty l1 x7_3) (s0_0.extract (s0_1 : Int).toNat ((wrap64 (x1001_1 + 1)) : Int).toNat) true _ A15.out).mono ?_); rintro e w' ⟨rfl, ⟨nd, rfl⟩⟩; (try first | exact ⟨rfl, _, World.drewN_drewN _ _ _⟩ | exact ⟨rfl, _, Eq.trans (World.drewN_drewN _ _ _) (congrArg (World.drewN _) (Nat.add_assoc _ _ _))⟩)))
                              repeat (go_quiet (first | (go_at_call 89; (with_reducible refine (sluiceref18_begins.calls (rdOf ByteArray.empty l1 x7_3) (s0_0.extract (s0_1 : Int).toNat ((wrap64 (x1001_1 + 1)) : Int).toNat) true _ A15.out).mono ?_); rintro e w' ⟨rfl, ⟨nd, rfl⟩⟩; (try first | exact ⟨rfl, _, World.drewN_drewN _ _ _⟩ | exact ⟨rfl, _, Eq.trans (World.drewN_drewN _ _ _) (congrArg (World.drewN _) (Nat.add_assoc _ _ _))⟩))); try go_wp2_with (first | (go_at_call 89; (with_reducible refine (sluiceref18_begins.calls (rdOf ByteArray.empty l1 x7_3) (s0_0.extract (s0_1 : Int).toNat ((wrap64 (x1001_1 + 1)) : Int).toNat) true _ A15.out).mono ?_); rintro e w' ⟨rfl, ⟨nd, rfl⟩⟩; (try first | exact ⟨rfl, _, World.drewN_drewN _ _ _⟩ | exact ⟨rfl, _, Eq.trans (World.drewN_drewN _ _ _) (congrArg (World.drewN _) (Nat.add_assoc _ _ _))⟩))))
                              go_roundg k3
                              case measure => have := HK1.out; have := HJ5.out; have := HK3.out; omega
                              case rel => exact ⟨(true), (wrap64 (x7_3 + 1)), (by first | rfl | (simp; done) | (simp [*]; done)), (by first | rfl | (simp; done) | (simp [*]; done)), H', ⟨by have := HK1.out; have := HJ5.out; have := HK3.out; omega⟩, ⟨by repeat (first | (with_reducible first | exact HI0.out | apply IsS122.alloc | apply IsS122.drewN | apply IsS122.drew | apply IsS122.set_0 | apply IsS122.set_1 | apply IsS122.set_2) | exact HI0.out)⟩, ⟨by repeat (first | (with_reducible first | exact HK.out | apply KeepBut.set_ | apply keep_drewN | apply keep_drew | apply keep_alloc) | exact HK.out)⟩, ⟨by repeat (first | (with_reducible first | exact HB.out | apply below_alloc | apply pw_below_drewN | apply below_drew1 | refine below_set ?_ (IsS122.ge HI0.out)) | exact HB.out)⟩⟩
                            · replace c16 := Bool.eq_false_iff.mpr c16
                              subst c16
                              have H1 : (sluiceref18_reader_choose.l1 k3 l1 s0_1 x6_3 (wrap64 (x7_3 + 1)) s0_0 x1001_1 false) = some (r1, r2, r3, r4) := by rw [if_neg (show ¬ (false = true) by decide)] at H; exact H
                              clear H
                              have H := H1
                              clear H1
                              have H' := Aside0.mk H
                              clear H
                              have p217 : 0 ≤ (x7_3 : Int) := of_decide_eq_true (by first | (with_reducible assumption) | assumption)
                              have q217 : x7_3 < (l1.length : Int) := of_decide_eq_true (by first | (with_reducible assumption) | assumption)
                              obtain ⟨ad217, e217, hx217_0⟩ := Kd.at_string HR1.out x7_3 p217 q217
                              cases e217
                              replace hx217_0 := keep_cell HK.out hx217_0 (by first | (rw [add_block]; exact hf1 _ rfl (by omega)) | exact hf1 _ rfl (by omega) | exact hf1 ad217 rfl (by omega))
                              replace p217 := eq_true p217
                              replace q217 := eq_true q217
                              obtain ⟨HGz18, hgz18⟩ := HI0.out
                              have hcz18_0 := cellS122_0 HGz18
                              have hcz18_1 := cellS122_1 HGz18
                              have hcz18_2 := cellS122_2 HGz18
                              have hfz18_0 := blk_frozen HGz18 0
                              have hfz18_1 := blk_frozen HGz18 1
                              have hfz18_2 := blk_frozen HGz18 2
                              clear HGz18 hgz18
                              go_wp2_with (first | (go_at_call 89; (with_reducible refine (sluiceref18_begins.calls (rdOf ByteArray.empty l1 x7_3) (s0_0.extract (s0_1 : Int).toNat ((wrap64 (x1001_1 + 1)) : Int).toNat) false _ A15.out).mono ?_); rintro e w' ⟨rfl, ⟨nd, rfl⟩⟩; (try first | exact ⟨rfl, _, World.drewN_drewN _ _ _⟩ | exact ⟨rfl, _, Eq.trans (World.drewN_drewN _ _ _) (congrArg (World.drewN _) (Nat.add_assoc _ _ _))⟩)))
                              repeat (go_quiet (first | (go_at_call 89; (with_reducible refine (sluiceref18_begins.calls (rdOf ByteArray.empty l1 x7_3) (s0_0.extract (s0_1 : Int).toNat ((wrap64 (x1001_1 + 1)) : Int).toNat) false _ A15.out).mono ?_); rintro e w' ⟨rfl, ⟨nd, rfl⟩⟩; (try first | exact ⟨rfl, _, World.drewN_drewN _ _ _⟩ | exact ⟨rfl, _, Eq.trans (World.drewN_drewN _ _ _) (congrArg (World.drewN _) (Nat.add_assoc _ _ _))⟩))); try go_wp2_with (first | (go_at_call 89; (with_reducible refine (sluiceref18_begins.calls (rdOf ByteArray.empty l1 x7_3) (s0_0.extract (s0_1 : Int).toNat ((wrap64 (x1001_1 + 1)) : Int).toNat) false _ A15.out).mono ?_); rintro e w' ⟨rfl, ⟨nd, rfl⟩⟩; (try first | exact ⟨rfl, _, World.drewN_drewN _ _ _⟩ | exact ⟨rfl, _, Eq.trans (World.drewN_drewN _ _ _) (congrArg (World.drewN _) (Nat.add_assoc _ _ _))⟩))))
                              go_roundg k3
                              case measure => have := HK1.out; have := HJ5.out; have := HK3.out; omega
                              case rel => exact ⟨(x6_3), (wrap64 (x7_3 + 1)), (by first | rfl | (simp; done) | (simp [*]; done)), (by first | rfl | (simp; done) | (simp [*]; done)), H', ⟨by have := HK1.out; have := HJ5.out; have := HK3.out; omega⟩, ⟨by repeat (first | (with_reducible first | exact HI0.out | apply IsS122.alloc | apply IsS122.drewN | apply IsS122.drew | apply IsS122.set_0 | apply IsS122.set_1 | apply IsS122.set_2) | exact HI0.out)⟩, ⟨by repeat (first | (with_reducible first | exact HK.out | apply KeepBut.set_ | apply keep_drewN | apply keep_drew | apply keep_alloc) | exact HK.out)⟩, ⟨by repeat (first | (with_reducible first | exact HB.out | apply below_alloc | apply pw_below_drewN | apply below_drew1 | refine below_set ?_ (IsS122.ge HI0.out)) | exact HB.out)⟩⟩
                          · rw [if_neg c14] at H
                            exact absurd H (by simp)
                        · rw [if_neg c13] at H
                          exact absurd H (by simp)
                      · rw [if_neg c12] at H
                        exact absurd H (by simp)
                    · rw [if_neg c11] at H
                      exact absurd H (by simp)
                  · rw [if_neg c10] at H
                    have c10b0 : decide (x7_3 < (l1.length : Int)) = false := decide_eq_false c10
                    clear c10
                    by_cases c19 : x6_3 = true
                    · subst c19
                      have H1 : (sluiceref18_reader_choose.l0 k3 l1 s0_1 true s0_0 (wrap64 (x1001_1 + 1)) false) = some (r1, r2, r3, r4) := by rw [if_pos rfl] at H; exact H
                      clear H
                      have H := H1
                      clear H1
                      have H' := Aside0.mk H
                      clear H
                      obtain ⟨HGz20, hgz20⟩ := HI0.out
                      have hcz20_0 := cellS122_0 HGz20
                      have hcz20_1 := cellS122_1 HGz20
                      have hcz20_2 := cellS122_2 HGz20
                      have hfz20_0 := blk_frozen HGz20 0
                      have hfz20_1 := blk_frozen HGz20 1
                      have hfz20_2 := blk_frozen HGz20 2
                      clear HGz20 hgz20
                      go_wp2
                      repeat (go_quiet (fail); try go_wp2)
                      go_roundg k3
                      case measure => have := HK1.out; have := HJ5.out; have := HK3.out; omega
                      case rel => exact ⟨(true), (wrap64 (x1001_1 + 1)), (by first | rfl | (simp; done) | (simp [*]; done)), H', ⟨by have := HK1.out; have := HJ5.out; have := HK3.out; omega⟩, ⟨by repeat (first | (with_reducible first | exact HI0.out | apply IsS122.alloc | apply IsS122.drewN | apply IsS122.drew | apply IsS122.set_0 | apply IsS122.set_1 | apply IsS122.set_2) | exact HI0.out)⟩, ⟨by repeat (first | (with_reducible first | exact HK.out | apply KeepBut.set_ | apply keep_drewN | apply keep_drew | apply keep_alloc) | exact HK.out)⟩, ⟨by repeat (first | (with_reducible first | exact HB.out | apply below_alloc | apply pw_below_drewN | apply below_drew1 | refine below_set ?_ (IsS122.ge HI0.out)) | exact HB.out)⟩⟩
                    · replace c19 := Bool.eq_false_iff.mpr c19
                      subst c19
                      have H1 : (sluiceref18_reader_choose.l0 k3 l1 s0_1 false s0_0 x1001_1 false) = some (r1, r2, r3, r4) := by rw [if_neg (show ¬ (false = true) by decide)] at H; exact H
                      clear H
                      have H := H1
                      clear H1
                      have H' := Aside0.mk H
                      clear H
                      go_wp2
                      repeat (go_quiet (fail); try go_wp2)
                      go_roundg k3
                      case measure => have := HK1.out; have := HJ5.out; have := HK3.out; omega
                      case rel => exact ⟨(false), (x1001_1), (by first | rfl | (simp; done) | (simp [*]; done)), H', ⟨by have := HK1.out; have := HJ5.out; have := HK3.out; omega⟩, ⟨by repeat (first | (with_reducible first | exact HI0.out | apply IsS122.alloc | apply IsS122.drewN | apply IsS122.drew | apply IsS122.set_0 | apply IsS122.set_1 | apply IsS122.set_2) | exact HI0.out)⟩, ⟨by repeat (first | (with_reducible first | exact HK.out | apply KeepBut.set_ | apply keep_drewN | apply keep_drew | apply keep_alloc) | exact HK.out)⟩, ⟨by repeat (first | (with_reducible first | exact HB.out | apply below_alloc | apply pw_below_drewN | apply below_drew1 | refine below_set ?_ (IsS122.ge HI0.out)) | exact HB.out)⟩⟩
            · replace c9 := Bool.eq_false_iff.mpr c9
              subst c9
              have H1 : (sluiceref18_reader_choose.l2 kj5 l1 s0_1 0 s0_0 x1001_1 false) = some (r1, r2, r3, r4) := by rw [if_neg (show ¬ (false = true) by decide)] at H; exact H
              clear H
              have H := H1
              clear H1
              have H' := Aside0.mk H
              clear H
              go_wp2
              repeat (go_quiet (fail); try go_wp2)
              go_loopg [8] kj5 (fun kq v8 w' => ∃ (x8_3 : Int), v8 = .int .i64 x8_3 ∧ Aside0 (sluiceref18_reader_choose.l2 kq l1 s0_1 x8_3 s0_0 x1001_1 false = some (r1, r2, r3, r4)) ∧ Aside0 (kq ≤ kj5) ∧ Aside0 (IsS122 w0 w' g s0_0 x1001_1 false) ∧ Aside0 (KeepBut w w' g none) ∧ Aside0 (Below w0.heap.size w0 w'))
              case atStart => exact ⟨(0), (by first | rfl | (simp; done) | (simp [*]; done)), H', ⟨Nat.le_refl _⟩, ⟨by repeat (first | (with_reducible first | exact HI0.out | apply IsS122.alloc | apply IsS122.drewN | apply IsS122.drew | apply IsS122.set_0 | apply IsS122.set_1 | apply IsS122.set_2) | exact HI0.out)⟩, ⟨by repeat (first | (with_reducible first | exact HK.out | apply KeepBut.set_ | apply keep_drewN | apply keep_drew | apply keep_alloc) | exact HK.out)⟩, ⟨by repeat (first | (with_reducible first | exact HB.out | apply below_alloc | apply pw_below_drewN | apply below_drew1 | refine below_set ?_ (IsS122.ge HI0.out)) | exact HB.out)⟩⟩
              case round =>
                clear H'
                try clear c1
                try clear p2
                try clear q2
                try clear hx2
                try clear c3
                try clear c6
                try clear p6
                try clear c7
                try clear c9
                try clear c10
                try clear c10b0
                try clear c11
                try clear c11b0
                try clear c12
                try clear c12b0
                try clear c12b1
                try clear c13
                try clear c13b0
                try clear c13b1
                try clear c14
                try clear c14b0
                try clear c14b1
                try clear c16
                try clear c19
                try clear hcz17_0
                try clear hcz17_1
                try clear hcz17_2
                try clear hcz18_0
                try clear hcz18_1
                try clear hcz18_2
                try clear hcz20_0
                try clear hcz20_1
                try clear hcz20_2
                try clear hcz4_0
                try clear hcz4_1
                try clear hcz4_2
                try clear hcz5_0
                try clear hcz5_1
                try clear hcz5_2
                try clear hcz8_0
                try clear hcz8_1
                try clear hcz8_2
                try clear hfz17_0
                try clear hfz17_1
                try clear hfz17_2
                try clear hfz18_0
                try clear hfz18_1
                try clear hfz18_2
                try clear hfz20_0
                try clear hfz20_1
                try clear hfz20_2
                try clear hfz4_0
                try clear hfz4_1
                try clear hfz4_2
                try clear hfz5_0
                try clear hfz5_1
                try clear hfz5_2
                try clear hfz8_0
                try clear hfz8_1
                try clear hfz8_2
                try clear hx217_0
                try clear p2
                try clear p217
                try clear q217
                obtain ⟨x8_3, rfl, HA, HK3, HI0, HK, HB⟩ := hrel
                cases gk with
                | zero => exact absurd HA.out (by simp [sluiceref18_reader_choose.l2])
                | succ k3 =>
                  have H := HA.out
                  clear HA
                  simp only [sluiceref18_reader_choose.l2] at H
                  by_cases c21 : x8_3 < (l1.length : Int)
                  · rw [if_pos c21] at H
                    have c21b0 : decide (x8_3 < (l1.length : Int)) = true := decide_eq_true c21
                    clear c21
                    by_cases c22 : 0 ≤ x8_3
                    · rw [if_pos c22] at H
                      have c22b0 : decide (0 ≤ x8_3) = true := decide_eq_true c22
                      clear c22
                      by_cases c23 : 0 ≤ s0_1
                      · rw [if_pos c23] at H
                        have c23b0 := eq_true c23
                        have c23b1 : decide (0 ≤ s0_1) = true := decide_eq_true c23
                        clear c23
                        by_cases c24 : s0_1 ≤ x1001_1
                        · rw [if_pos c24] at H
                          have c24b0 := eq_true c24
                          have c24b1 : decide (s0_1 ≤ x1001_1) = true := decide_eq_true c24
                          clear c24
                          by_cases c25 : x1001_1 ≤ (s0_0.size : Int)
                          · rw [if_pos c25] at H
                            have c25b0 := eq_true c25
                            have c25b1 : decide (x1001_1 ≤ (s0_0.size : Int)) = true := decide_eq_true c25
                            clear c25
                            by_cases c26 : (rdOf ByteArray.empty l1 x8_3).toList = (s0_0.extract (s0_1 : Int).toNat (x1001_1 : Int).toNat).toList
                            · rw [if_pos c26] at H
                              have c26b0 : ((rdOf ByteArray.empty l1 x8_3).toList == (s0_0.extract (s0_1 : Int).toNat (x1001_1 : Int).toNat).toList) = true := beq_iff_eq.mpr c26
                              have c26b1 : ((rdOf ByteArray.empty l1 x8_3).toList != (s0_0.extract (s0_1 : Int).toNat (x1001_1 : Int).toNat).toList) = false := bne_eq_false_iff_eq.mpr c26
                              clear c26
                              simp only [Option.some.injEq, Prod.mk.injEq] at H
                              obtain ⟨rfl, rfl, rfl, rfl⟩ := H
                              have p219 : 0 ≤ (x8_3 : Int) := of_decide_eq_true (by first | (with_reducible assumption) | assumption)
                              have q219 : x8_3 < (l1.length : Int) := of_decide_eq_true (by first | (with_reducible assumption) | assumption)
                              obtain ⟨ad219, e219, hx219_0⟩ := Kd.at_string HR1.out x8_3 p219 q219
                              cases e219
                              replace hx219_0 := keep_cell HK.out hx219_0 (by first | (rw [add_block]; exact hf1 _ rfl (by omega)) | exact hf1 _ rfl (by omega) | exact hf1 ad219 rfl (by omega))
                              replace p219 := eq_true p219
                              replace q219 := eq_true q219
                              obtain ⟨HGz27, hgz27⟩ := HI0.out
                              have hcz27_0 := cellS122_0 HGz27
                              have hcz27_1 := cellS122_1 HGz27
                              have hcz27_2 := cellS122_2 HGz27
                              have hfz27_0 := blk_frozen HGz27 0
                              have hfz27_1 := blk_frozen HGz27 1
                              have hfz27_2 := blk_frozen HGz27 2
                              clear HGz27 hgz27
                              go_wp2
                              repeat (go_quiet (fail); try go_wp2)
                              go_ret
                              exact ⟨by first | rfl | (simp [errW_none, errW_some] <;> rfl) | (simp [*, errW_none, errW_some] <;> rfl), by repeat (first | (with_reducible first | exact HI0.out | apply IsS122.alloc | apply IsS122.drewN | apply IsS122.drew | apply IsS122.set_0 | apply IsS122.set_1 | apply IsS122.set_2) | exact HI0.out), by repeat (first | (with_reducible first | exact HB.out | apply below_alloc | apply pw_below_drewN | apply below_drew1 | refine below_set ?_ (IsS122.ge HI0.out)) | exact HB.out), by repeat (first | (with_reducible first | exact HK.out | apply KeepBut.set_ | apply keep_drewN | apply keep_drew | apply keep_alloc) | exact HK.out)⟩
                            · rw [if_neg c26] at H
                              have c26b0 : ((rdOf ByteArray.empty l1 x8_3).toList == (s0_0.extract (s0_1 : Int).toNat (x1001_1 : Int).toNat).toList) = false := beq_eq_false_iff_ne.mpr c26
                              have c26b1 : ((rdOf ByteArray.empty l1 x8_3).toList != (s0_0.extract (s0_1 : Int).toNat (x1001_1 : Int).toNat).toList) = true := bne_iff_ne.mpr c26
                              have H' := Aside0.mk H
                              clear H
                              have p219 : 0 ≤ (x8_3 : Int) := of_decide_eq_true (by first | (with_reducible assumption) | assumption)
                              have q219 : x8_3 < (l1.length : Int) := of_decide_eq_true (by first | (with_reducible assumption) | assumption)
                              obtain ⟨ad219, e219, hx219_0⟩ := Kd.at_string HR1.out x8_3 p219 q219
                              cases e219
                              replace hx219_0 := keep_cell HK.out hx219_0 (by first | (rw [add_block]; exact hf1 _ rfl (by omega)) | exact hf1 _ rfl (by omega) | exact hf1 ad219 rfl (by omega))
                              replace p219 := eq_true p219
                              replace q219 := eq_true q219
                              obtain ⟨HGz28, hgz28⟩ := HI0.out
                              have hcz28_0 := cellS122_0 HGz28
                              have hcz28_1 := cellS122_1 HGz28
                              have hcz28_2 := cellS122_2 HGz28
                              have hfz28_0 := blk_frozen HGz28 0
                              have hfz28_1 := blk_frozen HGz28 1
                              have hfz28_2 := blk_frozen HGz28 2
                              clear HGz28 hgz28
                              go_wp2
                              repeat (go_quiet (fail); try go_wp2)
                              go_roundg k3
                              case measure => have := HK1.out; have := HJ5.out; have := HK3.out; omega
                              case rel => exact ⟨(wrap64 (x8_3 + 1)), (by first | rfl | (simp; done) | (simp [*]; done)), H', ⟨by have := HK1.out; have := HJ5.out; have := HK3.out; omega⟩, ⟨by repeat (first | (with_reducible first | exact HI0.out | apply IsS122.alloc | apply IsS122.drewN | apply IsS122.drew | apply IsS122.set_0 | apply IsS122.set_1 | apply IsS122.set_2) | exact HI0.out)⟩, ⟨by repeat (first | (with_reducible first | exact HK.out | apply KeepBut.set_ | apply keep_drewN | apply keep_drew | apply keep_alloc) | exact HK.out)⟩, ⟨by repeat (first | (with_reducible first | exact HB.out | apply below_alloc | apply pw_below_drewN | apply below_drew1 | refine below_set ?_ (IsS122.ge HI0.out)) | exact HB.out)⟩⟩
                          · rw [if_neg c25] at H
                            exact absurd H (by simp)
                        · rw [if_neg c24] at H
                          exact absurd H (by simp)
                      · rw [if_neg c23] at H
                        exact absurd H (by simp)
                    · rw [if_neg c22] at H
                      exact absurd H (by simp)
                  · rw [if_neg c21] at H
                    have c21b0 : decide (x8_3 < (l1.length : Int)) = false := decide_eq_false c21
                    clear c21
                    simp only [Option.some.injEq, Prod.mk.injEq] at H
                    obtain ⟨rfl, rfl, rfl, rfl⟩ := H
                    obtain ⟨HGz29, hgz29⟩ := HI0.out
                    have hcz29_0 := cellS122_0 HGz29
                    have hcz29_1 := cellS122_1 HGz29
                    have hcz29_2 := cellS122_2 HGz29
                    have hfz29_0 := blk_frozen HGz29 0
                    have hfz29_1 := blk_frozen HGz29 1
                    have hfz29_2 := blk_frozen HGz29 2
                    clear HGz29 hgz29
                    go_wp2
                    repeat (go_quiet (fail); try go_wp2)
                    go_ret
                    exact ⟨by first | rfl | (simp [errW_none, errW_some] <;> rfl) | (simp [*, errW_none, errW_some] <;> rfl), by repeat (first | (with_reducible first | exact HI0.out | apply IsS122.alloc | apply IsS122.drewN | apply IsS122.drew | apply IsS122.set_0 | apply IsS122.set_1 | apply IsS122.set_2) | exact HI0.out), by repeat (first | (with_reducible first | exact HB.out | apply below_alloc | apply pw_below_drewN | apply below_drew1 | refine below_set ?_ (IsS122.ge HI0.out)) | exact HB.out), by repeat (first | (with_reducible first | exact HK.out | apply KeepBut.set_ | apply keep_drewN | apply keep_drew | apply keep_alloc) | exact HK.out)⟩

end Go.Proofs.YtnbfebjcfhbhiaaDoor.P
end
