/- texts that the proof needs, laid together by a program of this session. -/
import Derived.Laws.Rows
import Derived.Laws.CopyOwn
import Derived.Deep.WholeRow
import Derived.Lib.AppendStr
import Derived.Lib.Builder
import Derived.Lib.UnsafeStr
import Derived.RegionTactic
import Derived.Deep.RegionHeld3
import Derived.Laws.Strings2
import Derived.Laws.BitsAllLaws
import Derived.Lib.LaidTab
import Derived.Lib.ConvBytes
import Derived.Laws.Concat
import Derived.Test.YtnbfebjcfhbhiaaDoorKScriptBack7
section
namespace Go.Proofs.YtnbfebjcfhbhiaaDoor.Lw
open Go Go.RowKit Go.Proofs.YtnbfebjcfhbhiaaDoor.P Go.Proofs.YtnbfebjcfhbhiaaDoor.Sc Go.Proofs.YtnbfebjcfhbhiaaDoorW.PrintWords Go.Proofs.YtnbfebjcfhbhiaaDoorW.PrintLast Go.Proofs.YtnbfebjcfhbhiaaDoorW.PrintMore
set_option linter.unusedVariables false
set_option linter.unusedSimpArgs false
theorem parts_zf : PartsC zf := parts_gen zf (fun c h => by simp [zf, bs] at h) (fun h => by simp [zf, bs] at h)
theorem parts_op (i : Nat) (x : S153) (h : opFs[i]? = some x) : PartsC x := parts_gen x (opFs_parts i x h).2.2.1 (fun hh => absurd (by rw [(opFs_parts i x h).1] at hh; exact hh) (opFs_parts i x h).2.2.2)
theorem parts_step (i : Nat) (x : S153) (h : stepFs[i]? = some x) : PartsC x := parts_gen x (stepFs_parts i x h).2.2 (fun _ => ⟨parts_op, parts_zf⟩)
theorem step_law {r2 r3 r4 : R Unit} {x4 : St} {fx : S153} (h1 : OnePost stepFs 0 0 r2 fx r3) (h2 : Pst (partGo ((bs fx.f1).map partOf) (st0 fx.f2)) r3 x4 r4) : Pst stepP r2 x4 r4 := by
  unfold OnePost at h1
  cases r2 with
  | bad l =>
    obtain ⟨rfl, _⟩ := h1
    exact h2
  | good u l =>
    simp only [List.drop_zero, stepFs_ws] at h1
    unfold Pst stepP
    simp only [oneP]
    cases hw : oneFrom stepWs 0 0 l with
    | bad l' =>
      rw [hw] at h1
      obtain ⟨rfl, _⟩ := h1
      exact h2
    | good j l' =>
      rw [hw] at h1
      obtain ⟨hj, rfl⟩ := h1
      obtain ⟨e1, e2, _⟩ := stepFs_parts j fx hj
      rw [e1, e2] at h2
      simp only [R.bnd_good]
      exact h2
theorem fx_step {r2 r3 : R Unit} {fx : S153} (h1 : OnePost stepFs 0 0 r2 fx r3) : PartsC fx := by
  unfold OnePost at h1
  cases r2 with
  | bad l => rw [h1.2]; exact parts_zf
  | good u l =>
    simp only [List.drop_zero, stepFs_ws] at h1
    cases hw : oneFrom stepWs 0 0 l with
    | bad l' => rw [hw] at h1; rw [h1.2]; exact parts_zf
    | good j l' => rw [hw] at h1; exact parts_step j fx h1.1
/-- How a line ends. -/
def EndP (t : ByteArray) (wh : Bool) (r : R Unit) (at' : Int) (bad' : Bool) : Prop := match r with
  | .good _ [] => if wh = true then bad' = false else bad' = true ∧ at' = (t.size : Int)
  | .good _ (c :: l) => bad' = true ∧ at' = (t.size : Int) - ((c :: l).length : Int)
  | .bad l => bad' = true ∧ at' = (t.size : Int) - (l.length : Int)
theorem ends_calls {w0 W wx : World} {g : Nat} {t : ByteArray} {wh : Bool} {r : R Unit} (h : LS w0 W wx g t wh r) :
    Calls Tryd.prog 37 #[.pointer (some ⟨g, 0, none⟩)] wx fun e w' => e = .returned (.tuple #[]) ∧ ∃ at' bad', IsS109 w0 w' g t at' wh bad' ∧ Below w0.heap.size w0 w' ∧ KeepBut wx w' g none ∧ EndP t wh r at' bad' := by
  obtain ⟨a, b, h1, h2, h3, h4, h5⟩ := h
  obtain ⟨at', bad', hf, hE⟩ := ends_f t r a wh b h2 (by omega)
  refine (script_line_ends.calls g t a wh b _ _ _ _ w0 wx h1 h3 hf).mono ?_
  rintro e w' ⟨he, k1, k2, k3⟩
  refine ⟨he, at', bad', k1, k2, k3, ?_⟩
  match r, h2, hE with
  | .good _ [], _, hE => exact hE
  | .good _ (c :: l), _, hE => exact hE
  | .bad l, _, hE => exact hE
/-- What a line's reader and its end say. -/
def LineP {α : Type} (p : Rd α) (t : ByteArray) (wh : Bool) (x : α) (at' : Int) (bad' : Bool) : Prop := match lineE p (bs t) wh with
  | .ok y => bad' = false ∧ x = y
  | .error k => bad' = true ∧ at' = (k : Int)
theorem line_end {α : Type} {p : Rd α} {t : ByteArray} {wh : Bool} {x : α} {r' : R Unit} {u : Unit} {at' : Int} {bad' : Bool} (hl : (left r').length ≤ t.size) (hP : Pst p (.good u (bs t)) x r') (hE : EndP t wh r' at' bad') : LineP p t wh x at' bad' := by
  have hb := bs_len t
  unfold LineP lineE
  unfold Pst at hP
  simp only at hP
  cases hp : p (bs t) with
  | bad l =>
    rw [hp] at hP
    obtain rfl := hP
    simp only [EndP, left] at hE hl ⊢
    exact ⟨hE.1, by omega⟩
  | good y l =>
    rw [hp] at hP
    obtain ⟨rfl, rfl⟩ := hP
    cases l with
    | nil =>
      simp only [EndP] at hE ⊢
      cases wh with
      | true => simpa using hE
      | false => simp at hE ⊢; exact ⟨hE.1, by omega⟩
    | cons c l =>
      simp only [EndP, left] at hE hl ⊢
      exact ⟨hE.1, by omega⟩
theorem setRow_blk {w : World} {g : Nat} {t : TypeId} {old : Array Value} (h : w.heap[g]? = some (.cells old t (0, 0))) (cs : Array Value) : (w.setRow g cs).heap[g]? = some (.cells cs t (0, 0)) := by
  simp [World.setRow, Array.getElem?_modify, h]
theorem setRow_far {w : World} {g k : Nat} (h : k ≠ g) (cs : Array Value) : (w.setRow g cs).heap[k]? = w.heap[k]? := by
  simp [World.setRow, Array.getElem?_modify, Ne.symm h]
theorem inf48 : (Tryd.prog.info? 48).map (·.size) = some 11 := by kernel_rfl
theorem stc_one (x : St) (A : Option Addr) (n c : Nat) : (stc x (.slice A n c)).all (·.oneCell') = true := by simp [stc, Value.oneCell']
set_option maxHeartbeats 8000000 in
set_option maxRecDepth 100000 in
theorem step_calls {w0 W wx : World} {g : Nat} {t : ByteArray} {wh : Bool} {r : R Unit} (hV : VS w0) (h : LS w0 W wx g t wh r) :
    Calls Tryd.prog 38 #[.pointer (some ⟨g, 0, none⟩)] wx fun e w' => ∃ x A c at' bad' r', e = .returned (.agg (stc x (.slice A x.data.length c))) ∧ Kd.R (Kd.int .u8) 5 w' wx.heap.size (fun _ => True) (.slice A x.data.length c) (nums x.data) ∧ IsS109 w0 w' g t at' wh bad' ∧ Below w0.heap.size w0 w' ∧ KeepBut wx w' g none ∧ Pst stepP r x r' ∧ EndP t wh r' at' bad' ∧ (left r').length ≤ t.size := by
  have HV := Aside0.mk hV
  have hu48 := Tryd.underlying48
  obtain ⟨wa, hwa⟩ : ∃ wa, wa = wx.alloc (.cells (stc (st0 0) (.slice none 0 0)) 48 (0, 0)) := ⟨_, rfl⟩
  have HWA := Aside0.mk hwa
  have HA : Aside0 (Below wx.heap.size wx wa ∧ wa.heap[wx.heap.size]? = some (.cells (stc (st0 0) (.slice none 0 0)) 48 (0, 0)) ∧ wa.heap.size = wx.heap.size + 1) := ⟨by rw [hwa]; exact ⟨(Below.refl _ _).alloc (Nat.le_refl _) _, heap_alloc_new wx _, by simp⟩⟩
  have HX := Aside0.mk (h.below HA.out.1).from_
  have HG : Aside0 (g < wx.heap.size ∧ w0.heap.size ≤ g) := ⟨by obtain ⟨_, _, hk, _, hg⟩ := h.blk; exact ⟨blk_lt hk, hg⟩⟩
  obtain ⟨ao, co, ko, hoc, hoC⟩ := (HV.out.below HX.out.bel).steps
  have q2 : wa.cell? ⟨1, 0, none⟩ = some (.slice (some ao) stepFs.length co) := (blk_cell ko 0).trans rfl
  have HOC : Aside0 (stepFs.length ≤ co ∧ ∀ W', KeepBut wa W' g none → Kd.C k153 W' (some ao) stepFs.length stepFs) := ⟨⟨hoc, by
    obtain ⟨ao', co', ko', hoc', hoC'⟩ := HV.out.steps
    have e := (HX.out.bel.block _ (blk_lt ko')).trans ko'
    rw [ko] at e
    obtain ⟨rfl, rfl⟩ : ao = ao' ∧ co = co' := by simpa using e
    exact Kd.C_foot_came heap_form hoC' HX.out.bel HG.out.2⟩⟩
  clear hV h hwa ko hoc hoC
  go_enter Tryd.func38, Tryd.ntmps38
  go_upto_region 1 with fail
  rw [show ((#[.int .i64 0, .int .i64 0, .int .i64 0, .int .i64 0, .int .i64 0, .string ⟨#[]⟩, .int .i64 0, .int .i64 0, .int .i64 0, .int .i64 0, .slice none 0 0] : Array Value)) = stc (st0 0) (.slice none 0 0) from rfl, ← HWA.out]
  go_upto_region 2 with (go_at_call 60; refine (one_calls HX.out (some ao) co stepFs (by decide) HOC.out.2 HOC.out.1).mono ?_; rintro e w1 ⟨fx, r1, rfl, h1, hP⟩; have HP1 := Aside0.mk hP; have HX1 := Aside0.mk h1; clear h1 hP q2)
  obtain ⟨w2, e2, hbx, hb2⟩ : ∃ w2, w2 = w1.alloc (.cells #[.string fx.f0, .string fx.f1, .int .i64 fx.f2] 153 (0, 0)) ∧ w2.heap[w1.heap.size]? = some (.cells #[.string fx.f0, .string fx.f1, .int .i64 fx.f2] 153 (0, 0)) ∧ Below w1.heap.size w1 w2 := ⟨_, rfl, heap_alloc_new w1 _, (Below.refl _ _).alloc (Nat.le_refl _) _⟩
  rw [← e2]
  have p0 : w2.cell? ⟨w1.heap.size, 2, none⟩ = some (.int .i64 fx.f2) := (blk_cell hbx 2).trans rfl
  have HBX := Aside0.mk hbx
  have HX2 := Aside0.mk (HX1.out.below hb2)
  have H2 : Aside0 (w2.heap[wx.heap.size]? = some (.cells (stc (st0 0) (.slice none 0 0)) 48 (0, 0)) ∧ wa.heap.size ≤ w1.heap.size ∧ w1.heap.size < w2.heap.size) := ⟨by
    have k1 := HX1.out.keep
    have k2 := HG.out.1
    have h0 : w1.heap[wx.heap.size]? = some (.cells (stc (st0 0) (.slice none 0 0)) 48 (0, 0)) := (k1.2 _ (blk_lt HA.out.2.1) (by omega) (by simp)).trans HA.out.2.1
    exact ⟨(hb2.block _ (blk_lt h0)).trans h0, k1.1, blk_lt hbx⟩⟩
  clear e2 hbx hb2
  go_upto_region 3 with fail
  obtain ⟨w3, e3, hst, hb3⟩ : ∃ w3, w3 = w2.alloc (.cells (stc (st0 fx.f2) (.slice none 0 0)) 48 (0, 0)) ∧ w3.heap[w2.heap.size]? = some (.cells (stc (st0 fx.f2) (.slice none 0 0)) 48 (0, 0)) ∧ Below w2.heap.size w2 w3 ∧ w2.heap.size < w3.heap.size := ⟨_, rfl, heap_alloc_new w2 _, (Below.refl _ _).alloc (Nat.le_refl _) _, by simp⟩
  have h3b := (HX2.out.below hb3.1).from_
  have HBX3 : Aside0 (w3.heap[w1.heap.size]? = some (.cells #[.string fx.f0, .string fx.f1, .int .i64 fx.f2] 153 (0, 0)) ∧ w3.heap[wx.heap.size]? = some (.cells (stc (st0 0) (.slice none 0 0)) 48 (0, 0))) := ⟨⟨(hb3.1.block _ (blk_lt HBX.out)).trans HBX.out, (hb3.1.block _ (blk_lt H2.out.1)).trans H2.out.1⟩⟩
  have HS : Aside0 (SX w0 w3.heap.size w3 w3 g w2.heap.size t wh r1 (st0 fx.f2)) := ⟨by
    have k1 := HX1.out.keep.1
    have k2 := H2.out
    have k3 := HG.out
    have k4 := HA.out.1.size
    refine ⟨h3b, ⟨_, hst, Kd.R_nil _ _ _ _ _⟩, ⟨by omega, hb3.2, by have := h3b.bel.size; omega, by omega⟩, KB.refl _ _ _, Nat.le_refl _⟩⟩
  have HSZ : Aside0 (wx.heap.size < w1.heap.size ∧ w1.heap.size < w2.heap.size ∧ w2.heap.size < w3.heap.size ∧ KeepBut wx w3 g none) := ⟨by
    have k1 := HX1.out.keep
    have k2 := H2.out
    have k4 := HA.out
    refine ⟨by omega, k2.2.2, hb3.2, ?_⟩
    exact (KeepBut.of_below HA.out.1 g none).trans (HX2.out.keep.trans (KeepBut.of_below hb3.1 g none) (.inl rfl)) (.inl rfl)⟩
  rw [show w2.alloc (.cells #[.int .i64 fx.f2, .int .i64 0, .int .i64 0, .int .i64 0, .int .i64 0, .string ⟨#[]⟩, .int .i64 0, .int .i64 0, .int .i64 0, .int .i64 0, .slice none 0 0] 48 (0, 0)) = w3 from e3.symm]
  have p5 : w3.cell? ⟨w1.heap.size, 0, none⟩ = some (.string fx.f0) := (blk_cell HBX3.out.1 0).trans rfl
  have p6 : w3.cell? ⟨w1.heap.size, 1, none⟩ = some (.string fx.f1) := (blk_cell HBX3.out.1 1).trans rfl
  have p7 : w3.cell? ⟨w1.heap.size, 2, none⟩ = some (.int .i64 fx.f2) := (blk_cell HBX3.out.1 2).trans rfl
  clear e3 hst hb3 h3b p0
  go_upto_region 4 with (go_at_call 61; refine (fx_step HP1.out HV.out HS.out).mono ?_; rintro e w4 ⟨rfl, r4, x4, h4, hP⟩; have HP4 := Aside0.mk (step_law HP1.out hP); have HX4 := Aside0.mk h4; clear h4 hP p5 p6 p7)
  obtain ⟨dv, hbk, hRd⟩ := HX4.out.st
  obtain ⟨Ad, cd, rfl⟩ := Kd.R_slice hRd
  have hln : (Sc.nums x4.data).length = x4.data.length := by simp [Sc.nums]
  rw [hln] at hbk hRd
  have HSB : Aside0 (w4.heap[w2.heap.size]? = some (.cells (stc x4 (.slice Ad x4.data.length cd)) 48 (0, 0)) ∧ w4.heap[wx.heap.size]? = some (.cells (stc (st0 0) (.slice none 0 0)) 48 (0, 0)) ∧ Kd.R (Kd.int .u8) 5 w4 w3.heap.size (fun _ => True) (.slice Ad x4.data.length cd) (Sc.nums x4.data)) := ⟨⟨hbk, by
    have k3 := HG.out
    have k4 := HSZ.out
    exact (HX4.out.kb.2 _ (blk_lt HBX3.out.2) (by omega) (by omega)).trans HBX3.out.2, hRd⟩⟩
  clear hbk hRd hln
  go_upto_region 5 with (go_at_call 37; refine (ends_calls HX4.out.ls).mono ?_; rintro e w5 ⟨rfl, at', bad', h5, h6, h7, h8⟩; have HE := Aside0.mk (And.intro h5 (And.intro h6 (And.intro h7 h8))); clear h5 h6 h7 h8)
  have HB5 : Aside0 (w5.heap[w2.heap.size]? = some (.cells (stc x4 (.slice Ad x4.data.length cd)) 48 (0, 0)) ∧ w5.heap[wx.heap.size]? = some (.cells (stc (st0 0) (.slice none 0 0)) 48 (0, 0)) ∧ Kd.R (Kd.int .u8) 5 w5 w3.heap.size (fun _ => True) (.slice Ad x4.data.length cd) (Sc.nums x4.data)) := ⟨by
    have k3 := HG.out
    have k4 := HSZ.out
    have k := HE.out.2.2.1
    refine ⟨(k.2 _ (blk_lt HSB.out.1) (by omega) (by simp)).trans HSB.out.1, (k.2 _ (blk_lt HSB.out.2.1) (by omega) (by simp)).trans HSB.out.2.1, ?_⟩
    exact Kd.R_mono (Kd.R_step (Kd.R_bound HSB.out.2.2) (fun i hi hlt => k.2 i hlt (by have := hi.2.1; omega) (by simp))) (fun _ _ => trivial)⟩
  go_wp2_with (first
    | ((with_reducible refine gate_dst (N := 16) rfl ?_); refine wpList_load_row rfl 48 (.tmp 4) rfl w2.heap.size (by rfl) 48 (stc x4 (.slice Ad x4.data.length cd)) (0, 0) _ HB5.out.1 hu48 rfl inf48 ?_)
    | (refine wpList_store_row rfl 48 (.tmp 2) (.tmp 16) rfl wx.heap.size (stc x4 (.slice Ad x4.data.length cd)) (by rfl) (by rfl) 48 _ HB5.out.2.1 inf48 rfl (stc_one _ _ _ _) ?_))
  refine bodyPost_ret (results_cell_row rfl _ _ wx.heap.size 48 (stc x4 (.slice Ad x4.data.length cd)) (0, 0) _ (by rfl) (setRow_blk HB5.out.2.1 _) hu48 rfl inf48) rfl ?_
  have k3 := HG.out
  have k4 := HSZ.out
  have kE := HE.out
  have kb4 := HX4.out.kb
  have hw0 : w0.heap.size ≤ wx.heap.size := by have := k3; omega
  refine ⟨x4, Ad, cd, at', bad', r4, rfl, ?_, ⟨(setRow_far (by omega) _).trans kE.1.1, kE.1.2⟩, below_setRow kE.2.1 hw0 _, ?_, HP4.out, kE.2.2.2, HX4.out.ls.size.2⟩
  · exact Kd.R_lower (Kd.R_mono (Kd.R_step (Kd.R_bound HB5.out.2.2) (fun i hi hlt => setRow_far (by have := hi.2.1; omega) _)) (fun _ _ => trivial)) (by omega)
  · refine ⟨?_, fun i hi hg hn => ?_⟩
    · have h1 := kE.2.2.1.1
      have h2 := kb4.1
      simp only [World.setRow, Array.size_modify]
      omega
    · rw [setRow_far (by omega), kE.2.2.1.2 i (by have := kb4.1; omega) hg (by simp), kb4.2 i (by omega) hg (by omega)]
      exact k4.2.2.2.2 i hi hg (by simp)
end Go.Proofs.YtnbfebjcfhbhiaaDoor.Lw
end
section
namespace Go.Proofs.YtnbfebjcfhbhiaaDoor.Bw
open Go Go.RowKit Go.Proofs.YtnbfebjcfhbhiaaDoor.P Go.Proofs.YtnbfebjcfhbhiaaDoor.Sc Go.Proofs.YtnbfebjcfhbhiaaDoorW.PrintWords Go.Proofs.YtnbfebjcfhbhiaaDoorW.PrintLast Go.Proofs.YtnbfebjcfhbhiaaDoorW.PrintMore
set_option linter.unusedVariables false
set_option linter.unusedSimpArgs false
/-- append(b, s...) of a row of one's own and a string: the row is the old one, or new. -/
theorem str_at {P : Program} (w : World) (base : Nat) (t u ty e : TypeId) (i : TypeInfo) (ht : P.underlying t = some (.slice e)) (hu : P.underlying u = some .string) (hi : P.info? e = some i) (hz : i.zero = some (.int .u8 0))
    (hsize : i.size = 1) (hby : i.bytes = 1) (v : Value) (n : Nat) (xs : List Value) (hown : w.ownsRow base e 1 v n xs) (s : ByteArray) (h63 : n + s.size ≤ maxLen) (hbytes : n + s.size ≤ 140737488355328) (v' : Value) (w' : World)
    (hr : (Builtin.append_ #[t, u] ty #[v, .string s]).run P w = .ok v' w') : v'.ownBlock = v.ownBlock ∨ ∃ b, v'.ownBlock = some b ∧ w.heap.size ≤ b := by
  have hsmall : n + s.size ≤ 9223372036854775807 := by simp only [maxLen] at h63; omega
  have hxl : xs.length = n := by simpa using hown.1
  rcases hown.2 with ⟨rfl, rfl⟩ | ⟨g, cap, cur, rfl, hbg, hg, hnc, hcm, hcs, htake⟩
  · obtain ⟨v2, w2, h1, h2, _, _⟩ := Lib.run_append_own_string (P := P) w w.heap.size t u ty e i ht hu hi hz hsize hby (.slice none 0 0) 0 xs ⟨hown.1, .inl ⟨rfl, rfl⟩⟩ s h63 hbytes (Nat.le_refl _)
    rw [h1] at hr
    obtain ⟨rfl, rfl⟩ := Result.ok.inj hr
    rcases h2.2 with ⟨rfl, _⟩ | ⟨g, _, _, rfl, hge, _⟩
    · exact .inl rfl
    · exact .inr ⟨g, rfl, hge⟩
  · by_cases hroom : n + s.size ≤ cap
    · have hcs' : cur.size = cap := by simpa using hcs
      rw [Lib.run_append_room_string (P := P) w t u ty e i ht hu hi hsize g n cap cur hg s hroom (by omega)] at hr
      obtain ⟨rfl, rfl⟩ := Result.ok.inj hr
      exact .inl rfl
    · have holds : ∀ j u, xs[j]? = some u → w.cell? ((⟨g, 0, none⟩ : Addr).add j) = some u := hown.cells (g := g) rfl
      rw [Lib.run_append_grow_string (P := P) w t u ty e i (.int .u8 0) ht hu hi hz ⟨g, 0, none⟩ n cap xs (by rw [hsize]; simpa using hxl) holds s (by omega) (by omega) (by rw [hby]; exact growslice_fits (by omega) (by omega))] at hr
      obtain ⟨rfl, rfl⟩ := Result.ok.inj hr
      exact .inr ⟨_, rfl, Nat.le_refl _⟩
section
variable {P : Program} {ops : Array Oper} {rest : List Oper} {o : Oper} {a : Act} {Q : Exit → Act → World → Prop}
theorem append_str {w0 W : World} (base : Nat) (hgd : o.guard = none) (s x : Operand) (t u e : TypeId)
    (ho : o.op = .call { callee := .builtin .append, args := #[s, x], argTypes := #[t, u] })
    (ht : P.underlying t = some (.slice e)) (hu : P.underlying u = some .string) (hinfo : (P.info? e).map (fun i => (i.zero, i.size, i.bytes)) = some (some (.int .u8 0), 1, 1))
    (v : Value) (xs : List Int) (y : ByteArray) (ok : Nat → Prop) (hs : a.eval s = v) (hx : a.eval x = .string y) (hfresh : ∀ k, W.heap.size ≤ k → ok k)
    (HO : Kd.R (Kd.int .u8) e W base ok v xs) (HB : Below base w0 W) (hbase : base ≤ W.heap.size) (hl : xs.length + y.size ≤ 140737488355328)
    (h : ∀ v1 w1, Kd.R (Kd.int .u8) e w1 base ok v1 (xs ++ bytesOf y) → Below base w0 w1 → W.grownBy w1 v.ownBlock → wpList P ops Q rest (a.put o.dst v1) w1) :
    wpList P ops Q (o :: rest) a W := by
  obtain ⟨i0, hi, hzz⟩ := Option.map_eq_some_iff.1 hinfo
  simp only [Prod.mk.injEq] at hzz
  obtain ⟨hz0, hz1, hz2⟩ := hzz
  have HOW := Kd.own_of_R (h1 := fun _ => rfl) HO
  refine wpList_plain hgd fun K hK => ?_
  obtain ⟨v', w', hr, h2, h3, h4⟩ := Lib.run_append_own_string (P := P) W base t u o.type e i0 ht hu hi hz0 hz1 hz2 v xs.length (Go.Proofs.YtnbfebjcfhbhiaaDoorW.PrintWords.nums .u8 xs) HOW y (by simp only [maxLen]; omega) hl hbase
  have hat := str_at W base t u o.type e i0 ht hu hi hz0 hz1 hz2 v xs.length (Go.Proofs.YtnbfebjcfhbhiaaDoorW.PrintWords.nums .u8 xs) HOW y (by simp only [maxLen]; omega) hl v' w' hr
  unfold Oper.wp execOp
  simp only [ho, resolve, invoke, builtin, Sem.run_bind, Sem.run_pure, Result.andThen_ok, List.map_toArray, List.map_cons, List.map_nil, hs, hx, hr]
  have hl2 : (xs ++ bytesOf y).length = xs.length + y.size := by rw [List.length_append, bytesOf_length]
  have hc : nums .u8 (xs ++ bytesOf y) = Go.Proofs.YtnbfebjcfhbhiaaDoorW.PrintWords.nums .u8 xs ++ Lib.strCells y := by
    rw [Go.Proofs.YtnbfebjcfhbhiaaDoorW.PrintWords.nums_append]
    congr 1
    simp [Go.Proofs.YtnbfebjcfhbhiaaDoorW.PrintWords.nums, bytesOf, Lib.strCells]
  refine hK _ _ (h v' w' (Kd.R_of_own (h1 := fun _ => rfl) (by rw [hl2]; show w'.ownsRow base e 1 v' _ (Go.Proofs.YtnbfebjcfhbhiaaDoorW.PrintWords.nums .u8 (xs ++ bytesOf y)); rw [hc]; exact h2) (fun k hk => ?_)) (HB.grown h3 hbase (own_base HOW)) h3)
  rcases hat with hat | ⟨b, hb, hle⟩
  · exact HO.1 k (hat ▸ hk)
  · rw [hb] at hk
    injection hk with hk
    exact hfresh k (by omega)
end
/-- A row is the old one, or new. -/
def RN (W : World) (r r' : Option Nat) : Prop := ∀ k, r' = some k → some k = r ∨ W.heap.size ≤ k
theorem RN.refl (W : World) (r : Option Nat) : RN W r r := fun k h => .inl h.symm
theorem RN.trans {W w : World} {r r1 r2 : Option Nat} (h : RN W r r1) (k : RN w r1 r2) (hs : W.heap.size ≤ w.heap.size) : RN W r r2 := fun i hi => by
  rcases k i hi with e | e
  · exact h i e.symm
  · exact .inr (Nat.le_trans hs e)
theorem RN.older {W w : World} {r r1 : Option Nat} (h : RN w r r1) (hs : W.heap.size ≤ w.heap.size) : RN W r r1 := fun i hi => (h i hi).imp id (fun e => Nat.le_trans hs e)
theorem RN.keep {W w w1 : World} {b : Nat} {r r1 : Option Nat} (h : RN W r r1) (k : KeepBut W w b r) (k1 : KeepBut w w1 b r1) : KeepBut W w1 b r :=
  ⟨Nat.le_trans k.1 k1.1, fun i hi hb hr => (k1.2 i (Nat.lt_of_lt_of_le hi k.1) hb (fun e => by
    rcases h i e.symm with e2 | e2
    · exact hr e2
    · omega)).trans (k.2 i hi hb hr)⟩
/-- What is asked of the type at whose head the builder stands. -/
structure TX (T : TypeId) (ex : List Value) : Prop where
  ne : T ≠ 5
  lies : liesAt Tryd.prog Tryd.prog.depth T ((ex.length + 2) / Tryd.prog.cellsOf T) 0 91 1 = true
def bcells (p v : Value) (ex : List Value) : Array Value := ⟨p :: v :: ex⟩
theorem bcells_set1 (p v u : Value) (ex : List Value) : (bcells p v ex).setIfInBounds 1 u = bcells p u ex := by simp [bcells]
theorem bcells_set0 (p v u : Value) (ex : List Value) : (bcells p v ex).setIfInBounds 0 u = bcells u v ex := by simp [bcells]
/-- The builder in block b, the field 'addr' p, its row in block row, its bytes t. -/
def BK (T : TypeId) (ex : List Value) (B b : Nat) (p : Value) (row : Option Nat) (t : By) (w : World) : Prop :=
  B ≤ b ∧ ∃ v, w.heap[b]? = some (.cells (bcells p v ex) T (0, 0)) ∧ Kd.R (Kd.int .u8) 5 w B (fun _ => True) v (nums t) ∧ v.ownBlock = row ∧ row ≠ some b
/-- .. fresh or used. -/
def BI (T : TypeId) (ex : List Value) (B b : Nat) (row : Option Nat) (t : By) (w : World) : Prop :=
  BK T ex B b (.pointer none) row t w ∨ BK T ex B b (.pointer (some ⟨b, 0, none⟩)) row t w
section
variable {T : TypeId} {ex : List Value} {B b : Nat} {p : Value} {row row' : Option Nat} {t : By} {w w' : World}
theorem BK.lt (h : BK T ex B b p row t w) : b < w.heap.size := by
  obtain ⟨_, v, hb, _⟩ := h
  exact blk_lt hb
theorem BI.any (h : BI T ex B b row t w) : ∃ p, (p = .pointer none ∨ p = .pointer (some ⟨b, 0, none⟩)) ∧ BK T ex B b p row t w := by
  rcases h with h | h
  · exact ⟨_, .inl rfl, h⟩
  · exact ⟨_, .inr rfl, h⟩
theorem BI.lt (h : BI T ex B b row t w) : b < w.heap.size := by obtain ⟨p, _, h⟩ := h.any; exact h.lt
theorem BI.base (h : BI T ex B b row t w) : B ≤ b := by obtain ⟨p, _, h⟩ := h.any; exact h.1
theorem BI.row_base (h : BI T ex B b row t w) : ∀ k, row = some k → B ≤ k ∧ k < w.heap.size ∧ k ≠ b ∧ ∃ cells, w.heap[k]? = some (.cells cells 5 (0, 0)) := by
  obtain ⟨p, _, hB, v, hb, hR, hv, hne⟩ := h.any
  intro k hk
  have hR2 := Kd.own_of_R (h1 := fun _ => rfl) hR
  have hk2 : v.ownBlock = some k := hv.trans hk
  exact ⟨own_base hR2 k hk2, own_lt hR2 k hk2, fun e => hne (by rw [hk, e]), own_typed hR2 k hk2⟩
theorem BI.of {p : Value} (hp : p = .pointer none ∨ p = .pointer (some ⟨b, 0, none⟩)) (h : BK T ex B b p row t w) : BI T ex B b row t w := by
  rcases hp with rfl | rfl
  · exact .inl h
  · exact .inr h
theorem BK.kept (h : BK T ex B b p row t w) (hk : w'.heap[b]? = w.heap[b]?) (hr : ∀ k, row = some k → w'.heap[k]? = w.heap[k]?) : BK T ex B b p row t w' := by
  obtain ⟨hB, v, hb, hR, hv, hne⟩ := h
  refine ⟨hB, v, hk.trans hb, ?_, hv, hne⟩
  have hR2 := Kd.own_of_R (h1 := fun _ => rfl) hR
  exact Kd.R_of_own (h1 := fun _ => rfl) (own_move hR2 (fun k hk => hr k (hv.symm.trans hk))) (fun _ _ => trivial)
theorem BI.kept (h : BI T ex B b row t w) (hk : w'.heap[b]? = w.heap[b]?) (hr : ∀ k, row = some k → w'.heap[k]? = w.heap[k]?) : BI T ex B b row t w' :=
  h.elim (fun x => .inl (x.kept hk hr)) (fun x => .inr (x.kept hk hr))
theorem BI.below (h : BI T ex B b row t w) (hb : Below w.heap.size w w') : BI T ex B b row t w' :=
  h.kept (hb.block b h.lt) (fun k hk => hb.block k (h.row_base k hk).2.1)
end
theorem BK.used {T : TypeId} {ex : List Value} {B b : Nat} {p q : Value} {row : Option Nat} {t : By} {w : World} (h : BK T ex B b p row t w) : BK T ex B b q row t (w.setCell ⟨b, 0, none⟩ q) := by
  obtain ⟨hB, v, hb, hR, hv, hne⟩ := h
  have hR2 := Kd.own_of_R (h1 := fun _ => rfl) hR
  exact ⟨hB, v, by rw [heap_setCell_same w b 0 _ _ q hb, bcells_set0], Kd.R_of_own (h1 := fun _ => rfl) (own_setCell hR2 (p := ⟨b, 0, none⟩) (by rw [hv]; exact Ne.symm hne) q) (fun _ _ => trivial), hv, hne⟩
theorem BK.put {T : TypeId} {ex : List Value} {B b : Nat} {p v v' : Value} {t : By} {w : World} (hB : B ≤ b) (hb : w.heap[b]? = some (.cells (bcells p v ex) T (0, 0))) (hR : Kd.R (Kd.int .u8) 5 w B (fun _ => True) v' (nums t)) (hT : TX T ex) : BK T ex B b p v'.ownBlock t (w.setCell ⟨b, 1, none⟩ v') := by
  have hR2 := Kd.own_of_R (h1 := fun _ => rfl) hR
  have hne := own_ne hR2 hb (Ne.symm hT.ne)
  exact ⟨hB, v', by rw [heap_setCell_same w b 1 _ _ v' hb, bcells_set1], Kd.R_of_own (h1 := fun _ => rfl) (own_setCell hR2 (p := ⟨b, 1, none⟩) hne v') (fun _ _ => trivial), rfl, Ne.symm hne⟩
theorem infB : (Tryd.prog.info? 91).map (·.size) = some 2 := by kernel_rfl
theorem infU8 : (Tryd.prog.info? 5).map (fun i => (i.zero, i.size, i.bytes)) = some (some (.int .u8 0), 1, 1) := by kernel_rfl
theorem size_some {T n : Nat} (h : (Tryd.prog.info? T).map (·.size) = some n) : ∃ j, Tryd.prog.info? T = some j ∧ j.size = n := Option.map_eq_some_iff.1 h
set_option maxHeartbeats 2000000 in
set_option maxRecDepth 100000 in
theorem copy_fresh {T : TypeId} {ex : List Value} {b : Nat} {v : Value} {w : World} (hT : TX T ex) (hbk : w.heap[b]? = some (.cells (bcells (.pointer none) v ex) T (0, 0))) :
    Calls Tryd.prog 83 #[.pointer (some ⟨b, 0, none⟩)] w fun e w' => e = .returned (.tuple #[]) ∧ w' = w.setCell ⟨b, 0, none⟩ (.pointer (some ⟨b, 0, none⟩)) := by
  obtain ⟨j, hj, hjs⟩ := size_some infB
  have hsh : w.shape? b = some (T, ex.length + 2) := by simp [World.shape?, hbk, bcells]
  have c0 : w.cell? ⟨b, 0, none⟩ = some (.pointer none) := (blk_cell hbk 0).trans rfl
  have f0 : w.frozen? ⟨b, 0, none⟩ = false := blk_frozen hbk 0
  have u0 := Lib.run_to_unsafe w ⟨b, 0, none⟩ Tryd.underlying89 Tryd.underlying183 hj (by rw [hjs]; decide) hsh (Nat.zero_lt_succ _)
  have u1 := Lib.run_from_unsafe w ⟨b, 0, none⟩ Tryd.underlying183 Tryd.underlying89 hj hsh hT.lies
  clear hbk hj hjs hsh hT
  go_enter Tryd.func83, Tryd.ntmps83
  go_wp2_with fail
  rw [run_callFunc_extern Tryd.func96 (by kernel_rfl) (by kernel_rfl) (by kernel_rfl) (e := Extern.AbiNoEscape.same) (by kernel_rfl)]
  rw [Lib.run_noEscape]
  simp only [Result.andThen]
  rw [Oper.upon_value]
  go_wp2_with fail
  go_end0
  exact ⟨rfl, rfl⟩
set_option maxHeartbeats 2000000 in
set_option maxRecDepth 100000 in
theorem copy_used {T : TypeId} {ex : List Value} {b : Nat} {v : Value} {w : World} (hbk : w.heap[b]? = some (.cells (bcells (.pointer (some ⟨b, 0, none⟩)) v ex) T (0, 0))) :
    Calls Tryd.prog 83 #[.pointer (some ⟨b, 0, none⟩)] w fun e w' => e = .returned (.tuple #[]) ∧ w' = w := by
  have c0 : w.cell? ⟨b, 0, none⟩ = some (.pointer (some ⟨b, 0, none⟩)) := (blk_cell hbk 0).trans rfl
  obtain ⟨j, hj, hjs⟩ := size_some infB
  have e0 := Lib.run_neq_ptr_same w (⟨b, 0, none⟩ : Addr) Tryd.underlying89 hj
  clear hbk hj hjs
  go_enter Tryd.func83, Tryd.ntmps83
  go_wp2_with fail
  go_end0
  exact ⟨rfl, rfl⟩
theorem copy_calls {T : TypeId} {ex : List Value} {B b : Nat} {row : Option Nat} {t : By} {w : World} (hT : TX T ex) (h : BI T ex B b row t w) :
    Calls Tryd.prog 83 #[.pointer (some ⟨b, 0, none⟩)] w fun e w' => e = .returned (.tuple #[]) ∧ BK T ex B b (.pointer (some ⟨b, 0, none⟩)) row t w' ∧ Below B w w' ∧ KeepBut w w' b row := by
  rcases h with h | h
  · obtain ⟨hB, v, hb, hR⟩ := id h
    refine (copy_fresh hT hb).mono ?_
    rintro e w' ⟨rfl, rfl⟩
    exact ⟨rfl, h.used, (Below.refl B w).setCell (p := ⟨b, 0, none⟩) hB _, (KeepBut.refl w b row).set_ 0 _⟩
  · obtain ⟨hB, v, hb, hR⟩ := id h
    refine (copy_used hb).mono ?_
    rintro e w' ⟨rfl, rfl⟩
    exact ⟨rfl, h, Below.refl B _, KeepBut.refl _ b row⟩
/-- What a writer leaves. -/
structure BW (T : TypeId) (ex : List Value) (B b : Nat) (row : Option Nat) (t : By) (w w' : World) : Prop where
  out : ∃ row', BI T ex B b row' t w' ∧ RN w row row'
  bl : Below B w w'
  kb : KeepBut w w' b row
theorem R_strong {w : World} {B e : Nat} {v : Value} {xs : List Int} (h : Kd.R (Kd.int .u8) e w B (fun _ => True) v xs) : Kd.R (Kd.int .u8) e w B (fun k => some k = v.ownBlock ∨ w.heap.size ≤ k) v xs :=
  Kd.R_of_own (h1 := fun _ => rfl) (Kd.own_of_R (h1 := fun _ => rfl) h) (fun k hk => .inl hk.symm)
theorem rn_of {w w1 : World} {B e : Nat} {v v1 : Value} {xs : List Int} (h : Kd.R (Kd.int .u8) e w1 B (fun k => some k = v.ownBlock ∨ w.heap.size ≤ k) v1 xs) : RN w v.ownBlock v1.ownBlock := h.1
set_option maxHeartbeats 2000000 in
set_option maxRecDepth 100000 in
theorem wbyte_calls {T : TypeId} {ex : List Value} {B b : Nat} {row : Option Nat} {t : By} {w : World} (hT : TX T ex) (h : BI T ex B b row t w) (c : UInt8) (hl : t.length + 1 ≤ 140737488355328) :
    Calls Tryd.prog 56 #[.pointer (some ⟨b, 0, none⟩), .int .u8 (c.toNat : Int)] w fun e w' => e = .returned .nilIface ∧ BW T ex B b row (t ++ [c]) w w' := by
  have HT := Aside0.mk hT
  have HI := Aside0.mk h
  have HL := Aside0.mk hl
  clear hT h hl
  go_enter Tryd.func56, Tryd.ntmps56
  go_upto_region 2 with (go_at_call 83; refine (copy_calls HT.out HI.out).mono ?_; rintro e w1 ⟨rfl, h1, h2, h3⟩; have HK := Aside0.mk h1; have HB1 := Aside0.mk h2; have HKB := Aside0.mk h3; clear h1 h2 h3)
  obtain ⟨hB, v, hbk, hR, hrow, hne⟩ := HK.out
  have HBK := Aside0.mk hbk
  have HR := Aside0.mk (R_strong hR)
  have HV := Aside0.mk hrow
  have HBB := Aside0.mk (And.intro hB hne)
  have c1 : w1.cell? ⟨b, 1, none⟩ = some v := (blk_cell hbk 1).trans rfl
  clear hB hbk hR hrow hne
  go_wp2_with (at_builtin; refine Kd.R_append (Kd.int .u8) (w0 := w1) (W := w1) B rfl (.tmp 11) (.tmp 13) 46 5 (.int .u8 0) 1 rfl Tryd.underlying46 infU8 rfl (by decide) (by decide) v (nums t) (c.toNat : Int) [.int .u8 (c.toNat : Int)] (fun k => some k = v.ownBlock ∨ w1.heap.size ≤ k) (fun _ => False) rfl rfl rfl (fun _ hk => hk.elim) (fun k hk => .inr hk) HR.out (Below.refl _ _) ?c8 ?c9 ?_)
  case c8 => exact Nat.le_trans (Nat.le_trans HBB.out.1 (Nat.le_of_lt HI.out.lt)) HB1.out.size
  case c9 => simp [Sc.nums]; have := HL.out; omega
  intro v1 w2 k1 k2 k3 k4
  have e1 : Sc.nums t ++ [(c.toNat : Int)] = Sc.nums (t ++ [c]) := by rw [Sc.nums_append]; rfl
  rw [e1] at k1
  have hb2 : w2.heap[b]? = some (.cells (bcells (.pointer (some ⟨b, 0, none⟩)) v ex) T (0, 0)) := (k3.block b (blk_lt HBK.out) (by rw [HV.out]; exact Ne.symm HBB.out.2)).trans HBK.out
  have d1 : w2.frozen? ⟨b, 1, none⟩ = false := blk_frozen hb2 1
  have d0 : w2.cell? ⟨b, 1, none⟩ = some v := (blk_cell hb2 1).trans rfl
  obtain ⟨A2, c2, rfl⟩ := Kd.R_slice k1
  have HO : Aside0 (BW T ex B b row (t ++ [c]) w (w2.setCell ⟨b, 1, none⟩ (.slice A2 (Sc.nums (t ++ [c])).length c2))) := ⟨by
    have hbB := HBB.out.1
    refine ⟨⟨_, .inr (BK.put hbB hb2 (Kd.R_mono k1 (fun _ _ => trivial)) HT.out), ?_⟩, ?_, ?_⟩
    · have := (rn_of k1).older HB1.out.size
      rw [HV.out] at this
      exact this
    · exact (HB1.out.trans k2).setCell (p := ⟨b, 1, none⟩) hbB _
    · have hk2 : KeepBut w1 w2 b row := by rw [← HV.out]; exact KeepBut.of_grown k3 b
      exact (HKB.out.trans hk2 (.inl rfl)).set_ 1 _⟩
  clear k1 k2 k3 k4 e1 hb2
  go_wp2_with fail
  go_ret
  exact ⟨rfl, HO.out⟩
theorem nums_bytesOf (s : ByteArray) : bytesOf s = Sc.nums (bs s) := rfl
set_option maxHeartbeats 2000000 in
set_option maxRecDepth 100000 in
theorem wstr_calls {T : TypeId} {ex : List Value} {B b : Nat} {row : Option Nat} {t : By} {w : World} (hT : TX T ex) (h : BI T ex B b row t w) (s : ByteArray) (hl : t.length + s.size ≤ 140737488355328) :
    Calls Tryd.prog 80 #[.pointer (some ⟨b, 0, none⟩), .string s] w fun e w' => e = .returned (.tuple #[.int .i64 s.size, .nilIface]) ∧ BW T ex B b row (t ++ bs s) w w' := by
  have HT := Aside0.mk hT
  have HI := Aside0.mk h
  have HL := Aside0.mk hl
  clear hT h hl
  go_enter Tryd.func80, Tryd.ntmps80
  go_upto_region 2 with (go_at_call 83; refine (copy_calls HT.out HI.out).mono ?_; rintro e w1 ⟨rfl, h1, h2, h3⟩; have HK := Aside0.mk h1; have HB1 := Aside0.mk h2; have HKB := Aside0.mk h3; clear h1 h2 h3)
  obtain ⟨hB, v, hbk, hR, hrow, hne⟩ := HK.out
  have HBK := Aside0.mk hbk
  have HR := Aside0.mk (R_strong hR)
  have HV := Aside0.mk hrow
  have HBB := Aside0.mk (And.intro hB hne)
  have c1 : w1.cell? ⟨b, 1, none⟩ = some v := (blk_cell hbk 1).trans rfl
  clear hB hbk hR hrow hne
  go_wp2_with (at_builtin; refine append_str (w0 := w1) (W := w1) B rfl (.tmp 12) (.tmp 13) 46 9 5 rfl Tryd.underlying46 Tryd.underlying9 infU8 v (Sc.nums t) s (fun k => some k = v.ownBlock ∨ w1.heap.size ≤ k) rfl rfl (fun k hk => .inr hk) HR.out (Below.refl _ _) ?c8 ?c9 ?_)
  case c8 => exact Nat.le_trans (Nat.le_trans HBB.out.1 (Nat.le_of_lt HI.out.lt)) HB1.out.size
  case c9 => simp [Sc.nums]; exact HL.out
  intro v1 w2 k1 k2 k3
  have e1 : Sc.nums t ++ bytesOf s = Sc.nums (t ++ bs s) := by rw [Sc.nums_append]; rfl
  rw [e1] at k1
  have hb2 : w2.heap[b]? = some (.cells (bcells (.pointer (some ⟨b, 0, none⟩)) v ex) T (0, 0)) := (k3.block b (blk_lt HBK.out) (by rw [HV.out]; exact Ne.symm HBB.out.2)).trans HBK.out
  have d1 : w2.frozen? ⟨b, 1, none⟩ = false := blk_frozen hb2 1
  have d0 : w2.cell? ⟨b, 1, none⟩ = some v := (blk_cell hb2 1).trans rfl
  have hrn : RN w v.ownBlock v1.ownBlock := (rn_of k1).older HB1.out.size
  obtain ⟨A2, c2, rfl⟩ := Kd.R_slice k1
  have HO : Aside0 (BW T ex B b row (t ++ bs s) w (w2.setCell ⟨b, 1, none⟩ (.slice A2 (Sc.nums (t ++ bs s)).length c2))) := ⟨by
    have hbB := HBB.out.1
    refine ⟨⟨_, .inr (BK.put hbB hb2 (Kd.R_mono k1 (fun _ _ => trivial)) HT.out), by rw [← HV.out]; exact hrn⟩, ?_, ?_⟩
    · exact (HB1.out.trans k2).setCell (p := ⟨b, 1, none⟩) hbB _
    · have hk2 : KeepBut w1 w2 b row := by rw [← HV.out]; exact KeepBut.of_grown k3 b
      exact (HKB.out.trans hk2 (.inl rfl)).set_ 1 _⟩
  clear k1 k2 k3 e1 hb2 hrn
  go_wp2_with fail
  go_ret2
  exact ⟨rfl, HO.out⟩
set_option maxHeartbeats 2000000 in
set_option maxRecDepth 100000 in
theorem len_calls {T : TypeId} {ex : List Value} {B b : Nat} {row : Option Nat} {t : By} {w : World} (h : BI T ex B b row t w) :
    Calls Tryd.prog 33 #[.pointer (some ⟨b, 0, none⟩)] w fun e w' => e = .returned (.int .i64 t.length) ∧ w' = w := by
  obtain ⟨p, _, hB, v, hbk, hR, _⟩ := h.any
  obtain ⟨A, c, rfl⟩ := Kd.R_slice hR
  have hl : (Sc.nums t).length = t.length := by simp [Sc.nums]
  rw [hl] at hbk
  have c1 : w.cell? ⟨b, 1, none⟩ = some (.slice A t.length c) := (blk_cell hbk 1).trans rfl
  clear hbk hR hB h hl
  go_enter Tryd.func33, Tryd.ntmps33
  go_wp2_with fail
  go_ret
  exact ⟨rfl, rfl⟩
theorem cells_u8 : Tryd.prog.cellsOf 5 = 1 := by kernel_rfl
set_option maxHeartbeats 2000000 in
set_option maxRecDepth 100000 in
theorem str_some {T : TypeId} {ex : List Value} {B b : Nat} {row : Option Nat} {t : By} {w : World} (h : BI T ex B b row t w) (h0 : t ≠ []) :
    Calls Tryd.prog 34 #[.pointer (some ⟨b, 0, none⟩)] w fun e w' => e = .returned (.string (sb t)) ∧ Below B w w' := by
  obtain ⟨p, _, hB, v, hbk, hR, _⟩ := h.any
  have hown := Kd.own_of_R (h1 := fun _ => rfl) hR
  have hl : (Sc.nums t).length = t.length := by simp [Sc.nums]
  have hl0 : t.length ≠ 0 := by simpa using h0
  have henc : encs (Value.int .u8) (Sc.nums t) = Lib.byteCells t := by simp [encs, Sc.nums, Lib.byteCells]
  rw [hl, henc] at hown
  obtain ⟨g, cap, cur, rfl, hbg, hg, hnc, hcm, hcs, htake⟩ : ∃ g cap cur, v = .slice (some ⟨g, 0, none⟩) t.length cap ∧ B ≤ g ∧ w.heap[g]? = some (.cells cur 5 (0, 0)) ∧ t.length ≤ cap ∧ cap ≤ maxLen ∧ cur.size = cap * 1 ∧ cur.toList.take (t.length * 1) = Lib.byteCells t := by
    rcases hown.2 with ⟨_, hz⟩ | ⟨g, cap, cur, hv, r⟩
    · exact absurd hz hl0
    · exact ⟨g, cap, cur, hv, r⟩
  have c1 : w.cell? ⟨b, 1, none⟩ = some (.slice (some ⟨g, 0, none⟩) t.length cap) := (blk_cell hbk 1).trans rfl
  have hSD : (Builtin.unsafeSliceData_ #[46] 155 #[.slice (some ⟨g, 0, none⟩) t.length cap]).run Tryd.prog w.drew = .ok (.pointer (some ⟨g, 0, none⟩)) w.drew :=
    Lib.run_unsafeSliceData_row _ _ _ _ _ _ (by omega)
  have hUS : (Builtin.unsafeString_ #[155, 3] 9 #[.pointer (some ⟨g, 0, none⟩), .int .i64 t.length]).run Tryd.prog w.drew = .ok (.string (sb t)) (w.drew.freeze ⟨g, 0, none⟩ t.length) := by
    refine Lib.run_unsafeString_row w.drew 155 3 9 5 Tryd.underlying155 cells_u8 g cur.size (by have hg' : w.drew.heap[g]? = some (.cells cur 5 (0, 0)) := hg; simp [World.shape?, hg']) t h0 (by omega) (by unfold maxLen at hcm; omega) ?_
    intro j x hx
    exact hown.cells (g := g) rfl j (.int .u8 x.toNat) (by simp [Lib.byteCells, hx])
  have HB : Aside0 (Below B w (w.drew.freeze ⟨g, 0, none⟩ t.length)) := ⟨Lib.below_freeze (below_drew (Below.refl B w)) (p := ⟨g, 0, none⟩) hbg _⟩
  clear hbk hR hB h hown hl h0 hl0 henc hbg hg hnc hcm hcs htake
  go_enter Tryd.func34, Tryd.ntmps34
  go_wp2_with fail
  go_region
  all_goals (go_wp2_with fail; go_ret; exact ⟨rfl, HB.out⟩)
end Go.Proofs.YtnbfebjcfhbhiaaDoor.Bw
end
section
namespace Go.Proofs.YtnbfebjcfhbhiaaDoor.Sc
set_option linter.unusedVariables false
def hexD (n : Nat) : UInt8 := UInt8.ofNat (if n < 10 then 48 + n else 55 + n)
def signB (c : UInt8) : By := if plainB c then [c] else [37, hexD (c.toNat / 16), hexD (c.toNat % 16)]
/-- a text word -/
def textW (b : By) : By := if b = [] then [45] else b.flatMap signB
def numW (n : Int) : By := Lib.itoa n
def St.get (x : St) : Part → Int
  | .r => x.rep | .s => x.ses | .n => x.id | .i => x.i | .j => x.j | .a => x.a | .b => x.b | _ => 0
def St.zero (x : St) : Part → St
  | .d => { x with data := [] } | .k => { x with name := [] } | p => x.set p 0
def partW (x : St) : Part → By
  | .d => textW x.data | .k => textW x.name | p => numW (x.get p)
end Go.Proofs.YtnbfebjcfhbhiaaDoor.Sc
end
section
namespace Go.Proofs.YtnbfebjcfhbhiaaDoor.Bw
open Go Go.RowKit Go.Proofs.YtnbfebjcfhbhiaaDoor.P Go.Proofs.YtnbfebjcfhbhiaaDoor.Sc Go.Proofs.YtnbfebjcfhbhiaaDoorW.PrintWords Go.Proofs.YtnbfebjcfhbhiaaDoorW.PrintLast Go.Proofs.YtnbfebjcfhbhiaaDoorW.PrintMore
set_option linter.unusedVariables false
set_option linter.unusedSimpArgs false
def hexS : ByteArray := ⟨#[48, 49, 50, 51, 52, 53, 54, 55, 56, 57, 65, 66, 67, 68, 69, 70]⟩
theorem hexS_at (n : Nat) (h : n < 16) : bs (hexS.extract n (n + 1)) = [hexD n] := by
  have : ∀ n : Fin 16, ((bs hexS).take (n.val + 1)).drop n.val = [hexD n.val] := by decide
  rw [bs_extract]
  exact this ⟨n, h⟩
theorem txB : TX 91 [] := ⟨by decide, by kernel_rfl⟩
theorem bs_append (a b : ByteArray) : bs (a ++ b) = bs a ++ bs b := by simp [bs, ByteArray.data_append]
theorem signB_len (c : UInt8) : (signB c).length ≤ 3 := by unfold signB; split <;> simp
theorem signs_len : ∀ d : By, (d.flatMap signB).length ≤ 3 * d.length
  | [] => by simp
  | c :: d => by
    have := signs_len d
    have := signB_len c
    simp only [List.flatMap_cons, List.length_append, List.length_cons]; omega
theorem plain_calls (c : UInt8) (w : World) : Calls Tryd.prog 82 #[.int .u8 (c.toNat : Int)] w fun e w' => e = .returned (.bool (plainB c)) ∧ Below w.heap.size w w' := by
  refine (script_plain.calls _ _ w (plain_f c)).mono ?_
  rintro e w' ⟨he, hd⟩
  exact ⟨he, hd.below⟩
theorem and15 (n : Nat) (h : n < 256) : bits .and .u8 (n : Int) 15 = ((n % 16 : Nat) : Int) := by
  have h2 := u8_and_nat n 15 h (by decide)
  rw [show ((15 : Nat) : Int) = 15 from rfl] at h2
  rw [h2, Nat.and_two_pow_sub_one_eq_mod n 4]
theorem cells_reads {w : World} {A : Option Addr} {d : By} (h : Kd.C (Kd.int .u8) w A d.length (Sc.nums d)) (i : Nat) (hi : i < d.length) : ∃ ad, A = some ad ∧ w.cell? (ad.add i) = some (.int .u8 ((d[i]).toNat : Int)) := by
  have hl : (Sc.nums d).length = d.length := by simp [Sc.nums]
  obtain ⟨ad, e, hc⟩ := Kd.at_int h (i : Int) (by omega) (by omega)
  refine ⟨ad, e, ?_⟩
  rw [Int.toNat_natCast] at hc
  rw [hc]
  congr 2
  unfold rd Sc.nums
  rw [Int.toNat_natCast, List.getD_eq_getElem?_getD, List.getElem?_map, List.getElem?_eq_getElem hi]
  rfl
set_option maxHeartbeats 4000000 in
set_option maxRecDepth 100000 in
theorem textWord_calls (d : By) (A : Option Addr) (c : Nat) (w : World) (hC : Kd.C (Kd.int .u8) w A d.length (Sc.nums d)) (hl : d.length ≤ 1099511627776) :
    Calls Tryd.prog 55 #[.slice A d.length c] w fun e w' => e = .returned (.string (sb (textW d))) ∧ Below w.heap.size w w' := by
  by_cases h0 : d = []
  · subst h0
    go_enter Tryd.func55, Tryd.ntmps55
    go_wp2_with fail
    go_ret
    exact ⟨rfl, Below.refl _ _⟩
  have hd0 : 0 < d.length := List.length_pos_iff.2 h0
  have hlI : (d.length : Int) ≤ 1099511627776 := by omega
  have hz : ((d.length : Int) == 0) = false := by simp; exact h0
  have HC := Aside0.mk hC
  have HD := Aside0.mk h0
  have HL := Aside0.mk hl
  obtain ⟨w1, hw1⟩ : ∃ w1, w1 = w.alloc (.cells #[.pointer none, .slice none 0 0] 91 (0, 0)) := ⟨_, rfl⟩
  have HS : Aside0 (BI 91 [] w.heap.size w.heap.size none ([] : By) w1 ∧ Below w.heap.size w w1) := ⟨by
    rw [hw1]
    exact ⟨.inl ⟨Nat.le_refl _, .slice none 0 0, heap_alloc_new w _, Kd.R_nil _ _ _ _ _, rfl, by simp⟩, (Below.refl _ _).alloc (Nat.le_refl _) _⟩⟩
  have HW1 := Aside0.mk hw1
  clear hC h0 hl hw1
  go_enter Tryd.func55, Tryd.ntmps55
  go_upto_region 4 with fail
  rw [← HW1.out]
  go_wp2_with fail
  go_loopw [5, 11] (fun _ s wr => ∃ i : Nat, s = .int .i64 i ∧ Aside0 (i ≤ d.length ∧ ∃ row, BI 91 [] w.heap.size w.heap.size row ((d.take i).flatMap signB) wr ∧ Below w.heap.size w wr)) (fun _ s _ => d.length - (intOf s).toNat)
  case atStart => exact ⟨0, rfl, ⟨Nat.zero_le _, none, HS.out⟩⟩
  case round =>
    obtain ⟨i, rfl, hP⟩ := hrel
    have HP := Aside0.mk hP.out
    clear hP
    by_cases hi : i < d.length
    · obtain ⟨hle, row, hB, hbl⟩ := HP.out
      have HB := Aside0.mk hB
      have HBL := Aside0.mk hbl
      obtain ⟨ad, rfl, hc⟩ := cells_reads (Kd.C_below HC.out hbl) i hi
      have HT : Aside0 ((d.take (i + 1)).flatMap signB = (d.take i).flatMap signB ++ signB d[i]) := ⟨by rw [List.take_succ_eq_append_getElem hi, List.flatMap_append]; simp⟩
      have HLN : Aside0 (((d.take i).flatMap signB).length ≤ 3298534883328) := ⟨by have := signs_len (d.take i); rw [List.length_take] at this; have := HL.out; omega⟩
      obtain ⟨x, hx⟩ : ∃ x, d[i] = x := ⟨_, rfl⟩
      rw [hx] at hc HT
      have hiI : (i : Int) < (d.length : Int) := by omega
      have HI := Aside0.mk hi
      have hxn : x.toNat < 256 := UInt8.toNat_lt x
      clear hle hB hbl HP hx hi
      by_cases hp : plainB x = true
      · have HPL := Aside0.mk hp
        clear hxn
        go_upto_region 8 with (go_at_call 82; refine (plain_calls x _).mono ?_; rintro e w2 ⟨rfl, hb⟩; have n0_ := Aside0.mk (HB.out.below hb); have n1_ := Aside0.mk (HBL.out.trans (hb.mono HBL.out.size)); clear HB HBL hb hc; have HB := n0_; have HBL := n1_; clear n0_ n1_)
        go_wp2_with (go_at_call 56; refine (wbyte_calls txB HB.out x (by have := HLN.out; omega)).mono ?_; rintro e w3 ⟨rfl, hw⟩; have HW := Aside0.mk hw; clear hw)
        go_roundw
        case rel =>
          obtain ⟨row', hB', _⟩ := HW.out.out
          refine ⟨i + 1, by go_num, ⟨HI.out, row', ?_, HBL.out.trans HW.out.bl⟩⟩
          rw [HT.out, show signB x = [x] by unfold signB; rw [if_pos HPL.out]]
          exact hB'
        case measure => simp [intOf]; have := HI.out; omega
      · have HPL := Aside0.mk hp
        have hp2 : plainB x = false := by simpa using hp
        obtain ⟨n, hn⟩ : ∃ n, x.toNat = n := ⟨_, rfl⟩
        have HN := Aside0.mk hn
        have hxn2 : n < 256 := by rw [← hn]; exact hxn
        clear hp hn hxn
        go_upto_region 9 with (go_at_call 82; refine (plain_calls x _).mono ?_; rintro e w2 ⟨rfl, hb⟩; have n0_ := Aside0.mk (HB.out.below hb); have n1_ := Aside0.mk (HBL.out.trans (hb.mono HBL.out.size)); clear HB HBL hb hc; have HB := n0_; have HBL := n1_; clear n0_ n1_)
        rw [HN.out]
        have ha := and15 n hxn2
        have hq : n / 16 < 16 := by omega
        have hr : n % 16 < 16 := by omega
        have HX : Aside0 (bs (hexS.extract (n / 16) (n / 16 + 1)) = [hexD (n / 16)] ∧ bs (hexS.extract (n % 16) (n % 16 + 1)) = [hexD (n % 16)]) := ⟨⟨hexS_at _ hq, hexS_at _ hr⟩⟩
        have s1 : ∀ W, (Instr.slice 9 (.string ⟨#[48, 49, 50, 51, 52, 53, 54, 55, 56, 57, 65, 66, 67, 68, 69, 70]⟩) (some (.int .u8 ((n : Int) / 16))) (some (.int .u8 ((n : Int) / 16 + 1))) none).run Tryd.prog W = .ok (.string (hexS.extract (n / 16) (n / 16 + 1))) W := fun W => run_slice_string W 9 hexS .u8 .u8 ((n / 16 : Nat) : Int) ((n / 16 + 1 : Nat) : Int) Tryd.underlying9 (by omega) (by omega) (by have : hexS.size = 16 := rfl; omega)
        have s2 : ∀ W, (Instr.slice 9 (.string ⟨#[48, 49, 50, 51, 52, 53, 54, 55, 56, 57, 65, 66, 67, 68, 69, 70]⟩) (some (.int .u8 ((n : Int) % 16))) (some (.int .u8 ((n : Int) % 16 + 1))) none).run Tryd.prog W = .ok (.string (hexS.extract (n % 16) (n % 16 + 1))) W := fun W => run_slice_string W 9 hexS .u8 .u8 ((n % 16 : Nat) : Int) ((n % 16 + 1 : Nat) : Int) Tryd.underlying9 (by omega) (by omega) (by have : hexS.size = 16 := rfl; omega)
        have HSZ : Aside0 ((⟨#[37]⟩ ++ hexS.extract (n / 16) (n / 16 + 1) ++ hexS.extract (n % 16) (n % 16 + 1) : ByteArray).size = 3) := ⟨by rw [← bs_len, bs_append, bs_append, HX.out.1, HX.out.2]; rfl⟩
        have e1 : IntKind.u8.wrap ((n : Int) / 16 + 1) = (n : Int) / 16 + 1 := by rw [IntKind.wrap_u8]; omega
        have e2 : IntKind.u8.wrap ((n : Int) % 16 + 1) = (n : Int) % 16 + 1 := by rw [IntKind.wrap_u8]; omega
        have HBD : Aside0 (((d.take i).flatMap signB).length + (⟨#[37]⟩ ++ hexS.extract (n / 16) (n / 16 + 1) ++ hexS.extract (n % 16) (n % 16 + 1) : ByteArray).size ≤ 140737488355328) := ⟨by have := HLN.out; have := HSZ.out; omega⟩
        have HB2 := Aside0.mk (HB.out.below (below_drew (Below.refl w2.heap.size w2)))
        have hs1 : (hexS.extract (n / 16) (n / 16 + 1)).size = 1 := by rw [← bs_len, HX.out.1]; rfl
        have hs2 : (hexS.extract (n % 16) (n % 16 + 1)).size = 1 := by rw [← bs_len, HX.out.2]; rfl
        have hs3 : ((⟨#[37]⟩ : ByteArray) ++ hexS.extract (n / 16) (n / 16 + 1)).size = 2 := by rw [← bs_len, bs_append, HX.out.1]; rfl
        have a1 : ∀ W, (Op.stringOp .add ⟨#[37]⟩ (hexS.extract (n / 16) (n / 16 + 1))).run Tryd.prog W = .ok (.string (⟨#[37]⟩ ++ hexS.extract (n / 16) (n / 16 + 1))) W := fun W => run_string_add_sum W _ _ (by rw [hs1]; decide)
        have a2 : ∀ W, (Op.stringOp .add (⟨#[37]⟩ ++ hexS.extract (n / 16) (n / 16 + 1)) (hexS.extract (n % 16) (n % 16 + 1))).run Tryd.prog W = .ok (.string (⟨#[37]⟩ ++ hexS.extract (n / 16) (n / 16 + 1) ++ hexS.extract (n % 16) (n % 16 + 1))) W := fun W => run_string_add_sum W _ _ (by rw [hs2, hs3]; decide)
        clear hs1 hs2 hs3
        go_region_held3 (fun _ => True) (exact trivial) (first
          | (go_at_call 80; (with_reducible refine (wstr_calls txB HB2.out (⟨#[37]⟩ ++ hexS.extract (n / 16) (n / 16 + 1) ++ hexS.extract (n % 16) (n % 16 + 1)) HBD.out).mono ?_); rintro e w3 ⟨rfl, hw⟩; have HW := Aside0.mk hw; clear hw))
        clear a1 a2 e1 e2 s1 s2 ha
        go_wp2_with fail
        go_roundw
        case rel =>
          obtain ⟨row', hB', _⟩ := HW.out.out
          refine ⟨i + 1, by go_num, ⟨HI.out, row', ?_, HBL.out.trans ((below_drew (Below.refl _ _)).trans HW.out.bl)⟩⟩
          rw [bs_append, bs_append, HX.out.1, HX.out.2] at hB'
          rw [HT.out, show signB x = [37, hexD (n / 16), hexD (n % 16)] by unfold signB; rw [if_neg HPL.out, HN.out]]
          exact hB'
        case measure => simp [intOf]; have := HI.out; omega
    · obtain ⟨hle, row, hB, hbl⟩ := HP.out
      have hge : ¬ (i : Int) < (d.length : Int) := by omega
      have hi2 : i = d.length := by omega
      subst hi2
      rw [List.take_length] at hB
      have HB := Aside0.mk hB
      have HBL := Aside0.mk hbl
      have HNE : Aside0 (d.flatMap signB ≠ []) := ⟨by
        have h0 := HD.out
        cases d with
        | nil => exact absurd rfl h0
        | cons x d => simp only [List.flatMap_cons, ne_eq, List.append_eq_nil_iff, not_and]; intro h; exfalso; revert h; unfold signB; split <;> simp⟩
      clear hB hbl HP hi hle
      go_wp2_with (go_at_call 34; refine (str_some HB.out HNE.out).mono ?_; rintro e w2 ⟨rfl, hb⟩; have HBE := Aside0.mk hb; clear hb)
      go_ret
      exact ⟨by unfold textW; rw [if_neg HD.out]; rfl, HBL.out.trans HBE.out⟩
end Go.Proofs.YtnbfebjcfhbhiaaDoor.Bw
end
section
namespace Go.Proofs.YtnbfebjcfhbhiaaDoor.Sc
set_option linter.unusedVariables false
/-- A text, and whether a word stands in its last line. -/
abbrev TS := By × Bool
def addW (s : TS) (w : By) : TS := (s.1 ++ (if s.2 then 32 :: w else w), true)
def addWs (s : TS) (ws : List By) : TS := ws.foldl addW s
def endL (s : TS) : TS := (s.1 ++ [10], false)
inductive Wd where
  | str (s : By) | int (n : Int) | err (n : Int) | bytes (d : By) | epoch (r k : Int) | rights (a b : Int) | call (a b : Int) | op (k : Int) (n : By) (a b : Int)
def epochW (r k : Int) : By := numW r ++ 58 :: numW k
def Wd.ws : Wd → List By
  | .str s => [s] | .int n => [numW n] | .err n => [numW n] | .bytes d => [textW d] | .epoch r k => [epochW r k] | .rights a b => [numW a, numW b] | .call a b => [numW a, numW b] | .op k n a b => [numW k, textW n, numW a, numW b]
def inI (n : Int) : Prop := -9223372036854775808 ≤ n ∧ n ≤ 9223372036854775807
/-- Its numbers are int64, its text is no longer than m. -/
def Wd.fit (m : Nat) : Wd → Prop
  | .str s => s.length ≤ m | .int n => inI n | .err n => inI n | .bytes d => d.length ≤ m | .epoch r k => inI r ∧ inI k | .rights a b => inI a ∧ inI b | .call a b => inI a ∧ inI b | .op k n a b => inI k ∧ n.length ≤ m ∧ inI a ∧ inI b
def wdsT (l : List Wd) : List By := l.flatMap Wd.ws
theorem addWs_append (s : TS) (a b : List By) : addWs s (a ++ b) = addWs (addWs s a) b := by simp [addWs, List.foldl_append]
theorem addW_len (s : TS) (w : By) : (addW s w).1.length ≤ s.1.length + w.length + 1 := by
  unfold addW; simp only; split <;> simp <;> omega
/-- How long a text gets at most. -/
def lenW : List By → Nat
  | [] => 0
  | w :: ws => w.length + 1 + lenW ws
theorem addWs_len : ∀ (ws : List By) (s : TS), (addWs s ws).1.length ≤ s.1.length + lenW ws
  | [], s => by simp [addWs, lenW]
  | w :: ws, s => by
    have h := addWs_len ws (addW s w)
    have h2 := addW_len s w
    show (addWs (addW s w) ws).1.length ≤ _
    simp only [lenW]; omega
theorem lenW_append : ∀ a b : List By, lenW (a ++ b) = lenW a + lenW b
  | [], b => by simp [lenW]
  | w :: a, b => by simp only [List.cons_append, lenW, lenW_append a b]; omega
end Go.Proofs.YtnbfebjcfhbhiaaDoor.Sc
end
section
namespace Go.Proofs.YtnbfebjcfhbhiaaDoor.Bw
open Go Go.RowKit Go.Proofs.YtnbfebjcfhbhiaaDoor.P Go.Proofs.YtnbfebjcfhbhiaaDoor.Sc Go.Proofs.YtnbfebjcfhbhiaaDoorW.PrintWords Go.Proofs.YtnbfebjcfhbhiaaDoorW.PrintLast Go.Proofs.YtnbfebjcfhbhiaaDoorW.PrintMore
set_option linter.unusedVariables false
set_option linter.unusedSimpArgs false
theorem txP (g : Bool) : TX 93 [.bool g] := ⟨by decide, by kernel_rfl⟩
/-- The printer lies at b, its text is s; beside it (and its row) nothing has turned since W. -/
structure PrS (w0 W wx : World) (b : Nat) (r0 row : Option Nat) (s : TS) : Prop where
  bd : BI 93 [.bool s.2] w0.heap.size b row s.1 wx
  bl : Below w0.heap.size w0 wx
  kb : KeepBut W wx b r0
  rn : RN W r0 row
section
variable {w0 W wx w1 : World} {b : Nat} {r0 r1 row : Option Nat} {s s' : TS}
theorem PrS.below (h : PrS w0 W wx b r0 row s) (hb : Below wx.heap.size wx w1) : PrS w0 W w1 b r0 row s :=
  ⟨h.bd.below hb, h.bl.trans (hb.mono h.bl.size), h.rn.keep h.kb (KeepBut.of_below hb b row), h.rn⟩
theorem PrS.from_ (h : PrS w0 W wx b r0 row s) : PrS w0 wx wx b row row s := ⟨h.bd, h.bl, KeepBut.refl _ _ _, RN.refl _ _⟩
theorem PrS.then_ (h : PrS w0 W wx b r0 row s) (k : PrS w0 wx w1 b row r1 s') : PrS w0 W w1 b r0 r1 s' :=
  ⟨k.bd, k.bl, h.rn.keep h.kb k.kb, h.rn.trans k.rn h.kb.1⟩
theorem PrS.wrote {t : By} (h : PrS w0 W wx b r0 row s) (k : BW 93 [.bool s.2] w0.heap.size b row t wx w1) : ∃ r1, PrS w0 W w1 b r0 r1 (t, s.2) := by
  obtain ⟨r1, h1, h2⟩ := k.out
  exact ⟨r1, h1, h.bl.trans k.bl, h.rn.keep h.kb k.kb, h.rn.trans h2 h.kb.1⟩
theorem PrS.blk (h : PrS w0 W wx b r0 row s) : ∃ p v, wx.heap[b]? = some (.cells (bcells p v [.bool s.2]) 93 (0, 0)) := by
  obtain ⟨p, _, hB, v, hb, _⟩ := h.bd.any
  exact ⟨p, v, hb⟩
theorem BK.flag {T : TypeId} {g g' : Bool} {B : Nat} {p : Value} {t : By} (h : BK T [.bool g] B b p row t wx) : BK T [.bool g'] B b p row t (wx.setCell ⟨b, 2, none⟩ (.bool g')) := by
  obtain ⟨hB, v, hb, hR, hv, hne⟩ := h
  have hR2 := Kd.own_of_R (h1 := fun _ => rfl) hR
  exact ⟨hB, v, by rw [heap_setCell_same wx b 2 _ _ _ hb]; simp [bcells], Kd.R_of_own (h1 := fun _ => rfl) (own_setCell hR2 (p := ⟨b, 2, none⟩) (by rw [hv]; exact Ne.symm hne) _) (fun _ _ => trivial), hv, hne⟩
theorem PrS.flag (h : PrS w0 W wx b r0 row s) (g : Bool) : PrS w0 W (wx.setCell ⟨b, 2, none⟩ (.bool g)) b r0 row (s.1, g) := by
  obtain ⟨p, hp, hk⟩ := h.bd.any
  exact ⟨BI.of hp hk.flag, h.bl.setCell (p := ⟨b, 2, none⟩) hk.1 _, h.kb.set_ 2 _, h.rn⟩
end
set_option maxHeartbeats 4000000 in
set_option maxRecDepth 100000 in
theorem word_calls {w0 W wx : World} {b : Nat} {r0 row : Option Nat} {s : TS} (h : PrS w0 W wx b r0 row s) (x : ByteArray) (hl : s.1.length + x.size + 1 ≤ 140737488355328) :
    Calls Tryd.prog 53 #[.pointer (some ⟨b, 0, none⟩), .string x] wx fun e w' => e = .returned (.tuple #[]) ∧ ∃ r1, PrS w0 W w' b r0 r1 (addW s (bs x)) := by
  have HX := Aside0.mk h
  obtain ⟨p, v, hb⟩ := h.blk
  obtain ⟨t, g⟩ := s
  have q2 : wx.cell? ⟨b, 2, none⟩ = some (.bool g) := (blk_cell hb 2).trans rfl
  have HL : Aside0 (t.length + x.size + 1 ≤ 140737488355328) := ⟨hl⟩
  clear h hb hl
  cases g with
  | true =>
    go_enter Tryd.func53, Tryd.ntmps53
    go_upto_region 2 with (go_at_call 56; refine (wbyte_calls (txP true) HX.out.bd 32 (by have := HL.out; show t.length + 1 ≤ 140737488355328; omega)).mono ?_; rintro e w1 ⟨rfl, hw⟩; obtain ⟨r1, h1⟩ := HX.out.wrote hw; clear HX hw q2; have HX := Aside0.mk h1; clear h1)
    go_upto_region 3 with (go_at_call 80; refine (wstr_calls (txP true) HX.out.bd x (by have := HL.out; show (t ++ [32]).length + x.size ≤ 140737488355328; rw [List.length_append]; simp only [List.length_singleton]; omega)).mono ?_; rintro e w2 ⟨rfl, hw⟩; obtain ⟨r2, h2⟩ := HX.out.wrote hw; clear HX hw; have HX := Aside0.mk h2; clear h2)
    obtain ⟨p2, v2, hb2⟩ := HX.out.blk
    have d2 : w2.cell? ⟨b, 2, none⟩ = some (.bool true) := (blk_cell hb2 2).trans rfl
    have f2 : w2.frozen? ⟨b, 2, none⟩ = false := blk_frozen hb2 2
    clear hb2
    go_wp2_with fail
    go_end0
    refine ⟨rfl, r2, ?_⟩
    have := HX.out.flag true
    simpa [addW] using this
  | false =>
    go_enter Tryd.func53, Tryd.ntmps53
    go_upto_region 3 with (go_at_call 80; refine (wstr_calls (txP false) HX.out.bd x (by have := HL.out; show t.length + x.size ≤ 140737488355328; omega)).mono ?_; rintro e w2 ⟨rfl, hw⟩; obtain ⟨r2, h2⟩ := HX.out.wrote hw; clear HX hw q2; have HX := Aside0.mk h2; clear h2)
    obtain ⟨p2, v2, hb2⟩ := HX.out.blk
    have d2 : w2.cell? ⟨b, 2, none⟩ = some (.bool false) := (blk_cell hb2 2).trans rfl
    have f2 : w2.frozen? ⟨b, 2, none⟩ = false := blk_frozen hb2 2
    clear hb2
    go_wp2_with fail
    go_end0
    refine ⟨rfl, r2, ?_⟩
    have := HX.out.flag true
    simpa [addW] using this
set_option maxHeartbeats 4000000 in
set_option maxRecDepth 100000 in
theorem end_calls {w0 W wx : World} {b : Nat} {r0 row : Option Nat} {s : TS} (h : PrS w0 W wx b r0 row s) (hl : s.1.length + 1 ≤ 140737488355328) :
    Calls Tryd.prog 31 #[.pointer (some ⟨b, 0, none⟩)] wx fun e w' => e = .returned (.tuple #[]) ∧ ∃ r1, PrS w0 W w' b r0 r1 (endL s) := by
  have HX := Aside0.mk h
  have HL := Aside0.mk hl
  clear h hl
  go_enter Tryd.func31, Tryd.ntmps31
  go_upto_region 1 with (go_at_call 56; refine (wbyte_calls (txP s.2) HX.out.bd 10 HL.out).mono ?_; rintro e w1 ⟨rfl, hw⟩; obtain ⟨r1, h1⟩ := HX.out.wrote hw; clear HX hw; have HX := Aside0.mk h1; clear h1)
  obtain ⟨p2, v2, hb2⟩ := HX.out.blk
  have d2 : w1.cell? ⟨b, 2, none⟩ = some (.bool s.2) := (blk_cell hb2 2).trans rfl
  have f2 : w1.frozen? ⟨b, 2, none⟩ = false := blk_frozen hb2 2
  clear hb2
  go_wp2_with fail
  go_end0
  refine ⟨rfl, r1, ?_⟩
  exact HX.out.flag false
end Go.Proofs.YtnbfebjcfhbhiaaDoor.Bw
end
section
namespace Go.Proofs.YtnbfebjcfhbhiaaDoor.Bw
open Go Go.RowKit Go.Proofs.YtnbfebjcfhbhiaaDoor.P Go.Proofs.YtnbfebjcfhbhiaaDoor.Sc Go.Proofs.YtnbfebjcfhbhiaaDoorW.PrintWords Go.Proofs.YtnbfebjcfhbhiaaDoorW.PrintLast Go.Proofs.YtnbfebjcfhbhiaaDoorW.PrintMore
set_option linter.unusedVariables false
set_option linter.unusedSimpArgs false
/-- The library's table of powers stands. -/
def TB (w : World) : Prop := Lib.TabIs Tryd.prog w "internal/strconv.uint64pow10" .u64 Lib.pow10Tab
theorem TB.below {w0 w : World} (h : TB w0) (hb : Below w0.heap.size w0 w) : TB w := by
  unfold TB Lib.TabIs World.var? at *
  cases hg : Tryd.prog.globalNamed "internal/strconv.uint64pow10" with
  | none => rw [hg] at h; simp at h
  | some g =>
    rw [hg] at h
    simp only [Option.bind_some] at h ⊢
    cases ho : w0.heap[g]? with
    | none => rw [ho] at h; simp at h
    | some o => rw [hb.block g (blk_lt ho), ho]; rw [ho] at h; exact h
theorem grow_below (w : World) (k : Nat) (os : Array Obj) : Below w.heap.size w (Sort.grow (w.drewN k) os) :=
  ⟨rfl, rfl, rfl, by simp [Sort.grow], fun i hi => by simp [Sort.grow, Array.getElem?_append, hi]⟩
theorem itoa_calls {w0 w : World} (hT : TB w0) (hb : Below w0.heap.size w0 w) (n : Int) (h : inI n) : Calls Tryd.prog 54 #[.int .i64 n] w fun e w' => e = .returned (.string (sb (numW n))) ∧ Below w.heap.size w w' := by
  refine (Tryd.strconv_Itoa n h.1 h.2 w (hT.below hb)).mono ?_
  rintro e w' ⟨he, k, os, rfl⟩
  exact ⟨he, grow_below _ _ _⟩
/-- A row of bytes that stays, whatever is put. -/
def BR (w : World) (b : Nat) (row : Option Nat) (A : Option Addr) (d : By) : Prop := ∀ W', KeepBut w W' b row → Kd.C (Kd.int .u8) W' A d.length (Sc.nums d)
/-- The value is the word. -/
def WV (w : World) (b : Nat) (row : Option Nat) : Wd → Value → Prop
  | .str s, v => v = .iface 9 (.string (sb s))
  | .int n, v => v = .iface 3 (.int .i64 n)
  | .err n, v => v = .iface 30 (.int .i64 n)
  | .bytes d, v => ∃ A c, v = .iface 46 (.slice A d.length c) ∧ BR w b row A d
  | .epoch r k, v => v = .iface 131 (.agg #[.int .i64 r, .int .i64 k])
  | .rights x y, v => v = .iface 134 (.agg #[.int .i64 x, .int .i64 y])
  | .call x y, v => v = .iface 43 (.agg #[.int .i64 x, .int .i64 y])
  | .op k n x y, v => v = .iface 45 (.agg #[.int .i64 k, .string (sb n), .int .i64 x, .int .i64 y])
theorem BR.keep {w w1 : World} {b : Nat} {row row1 : Option Nat} {A : Option Addr} {d : By} (h : BR w b row A d) (k : KeepBut w w1 b row) (hr : RN w row row1) : BR w1 b row1 A d :=
  fun W' hk => h W' (hr.keep k hk)
theorem BR.now {w : World} {b : Nat} {row : Option Nat} {A : Option Addr} {d : By} (h : BR w b row A d) : Kd.C (Kd.int .u8) w A d.length (Sc.nums d) := h w (KeepBut.refl _ _ _)
theorem WV.keep {w w1 : World} {b : Nat} {row row1 : Option Nat} {x : Wd} {v : Value} (h : WV w b row x v) (k : KeepBut w w1 b row) (hr : RN w row row1) : WV w1 b row1 x v := by
  cases x with
  | bytes d =>
    obtain ⟨A, c, rfl, hB⟩ := h
    exact ⟨A, c, rfl, hB.keep k hr⟩
  | _ => exact h
/-- A row of words that stays. -/
structure WVs (w : World) (b : Nat) (row : Option Nat) (A : Option Addr) (l : List Wd) : Prop where
  at_ : ∀ (i : Nat) x, l[i]? = some x → ∃ ad v, A = some ad ∧ WV w b row x v ∧ ∀ W', KeepBut w W' b row → W'.cell? (ad.add i) = some v
  len : l.length ≤ 9223372036854775807
theorem WVs.keep {w w1 : World} {b : Nat} {row row1 : Option Nat} {A : Option Addr} {l : List Wd} (h : WVs w b row A l) (k : KeepBut w w1 b row) (hr : RN w row row1) : WVs w1 b row1 A l :=
  ⟨fun i x hx => by
    obtain ⟨ad, v, e, hv, hc⟩ := h.at_ i x hx
    exact ⟨ad, v, e, hv.keep k hr, fun W' hk => hc W' (hr.keep k hk)⟩, h.len⟩
theorem WVs.drop {w : World} {b : Nat} {row : Option Nat} {A : Option Addr} {l : List Wd} (h : WVs w b row A l) {i : Nat} {x : Wd} (hx : l[i]? = some x) : ∃ ad v, A = some ad ∧ WV w b row x v ∧ w.cell? (ad.add i) = some v := by
  obtain ⟨ad, v, e, hv, hc⟩ := h.at_ i x hx
  exact ⟨ad, v, e, hv, hc w (KeepBut.refl _ _ _)⟩
/-- What has come from ahead of w0 stays. -/
theorem keep_came {w0 wx W' : World} {b : Nat} {row : Option Nat} (hb : Below w0.heap.size w0 wx) (h1 : w0.heap.size ≤ b) (h2 : ∀ k, row = some k → w0.heap.size ≤ k) (hk : KeepBut wx W' b row) : ∀ i, i < w0.heap.size → W'.heap[i]? = w0.heap[i]? :=
  fun i hi => (hk.2 i (Nat.lt_of_lt_of_le hi hb.size) (by omega) (fun e => by have := h2 i e.symm; omega)).trans (hb.block i hi)
theorem BR.came {w0 W wx : World} {b : Nat} {r0 row : Option Nat} {s : TS} {A : Option Addr} {d : By} (h : PrS w0 W wx b r0 row s) (hC : Kd.C (Kd.int .u8) w0 A d.length (Sc.nums d)) : BR wx b row A d :=
  fun W' hk => (Kd.heap_int .u8).C (keep_came h.bl h.bd.base (fun k hk => (h.bd.row_base k hk).1) hk) hC
/-- A new block stays. -/
theorem BR.made {wx w1 : World} {b : Nat} {row : Option Nat} {k : Nat} {d : By} (hk : wx.heap.size ≤ k) (hb : b < wx.heap.size) (hr : ∀ i, row = some i → i < wx.heap.size) (hC : Kd.C (Kd.int .u8) w1 (some ⟨k, 0, none⟩) d.length (Sc.nums d)) : BR w1 b row (some ⟨k, 0, none⟩) d := by
  intro W' hkk
  obtain ⟨h1, h2, h3⟩ := hC
  refine ⟨h1, h2, fun hn => ?_⟩
  obtain ⟨ad, e, h4⟩ := h3 hn
  refine ⟨ad, e, fun j p hj => ?_⟩
  obtain ⟨c, c1, c2, c3⟩ := h4 j p hj
  refine ⟨c, c1, c2, fun i u hu => ?_⟩
  obtain rfl := Option.some.inj e
  have hc := c3 i u hu
  rw [add_plain] at hc ⊢
  have hlt : k < w1.heap.size := World.block_lt_of_cell? w1 _ hc
  have e2 := hkk.2 k hlt (by omega) (fun e => by have := hr k e.symm; omega)
  unfold World.cell? at hc ⊢
  simp only at hc ⊢
  rw [e2]; exact hc
/-- A row of words that has just been built. -/
theorem WVs.made {w1 : World} {b : Nat} {row : Option Nat} {k T : Nat} {cs : Array Value} {l : List Wd} (hb : w1.heap[k]? = some (.cells cs T (0, 0))) (hkb : k ≠ b) (hkr : row ≠ some k) (hl : l.length ≤ 9223372036854775807) (h : ∀ (i : Nat) x, l[i]? = some x → ∃ v, cs[i]? = some v ∧ WV w1 b row x v) : WVs w1 b row (some ⟨k, 0, none⟩) l :=
  ⟨fun i x hx => by
    obtain ⟨v, h1, h2⟩ := h i x hx
    refine ⟨⟨k, 0, none⟩, v, rfl, h2, fun W' hk => ?_⟩
    rw [add_plain]
    exact (blk_cell ((hk.2 k (blk_lt hb) hkb (fun e => hkr e.symm)).trans hb) i).trans h1, hl⟩
end Go.Proofs.YtnbfebjcfhbhiaaDoor.Bw
end
section
namespace Go.Proofs.YtnbfebjcfhbhiaaDoor.Bw
open Go Go.RowKit Go.Proofs.YtnbfebjcfhbhiaaDoor.P Go.Proofs.YtnbfebjcfhbhiaaDoor.Sc Go.Proofs.YtnbfebjcfhbhiaaDoorW.PrintWords Go.Proofs.YtnbfebjcfhbhiaaDoorW.PrintLast Go.Proofs.YtnbfebjcfhbhiaaDoorW.PrintMore
set_option linter.unusedVariables false
set_option linter.unusedSimpArgs false
theorem ta_0_0 (v : Value) (W : World) : (Instr.typeAssert (.iface 9 v) 20 9 true).run Tryd.prog W = .ok (.tuple #[v, .bool true]) W := by kernel_rfl
theorem ta_1_0 (v : Value) (W : World) : (Instr.typeAssert (.iface 3 v) 20 9 true).run Tryd.prog W = .ok (.tuple #[.string ⟨#[]⟩, .bool false]) W := by kernel_rfl
theorem ta_1_1 (v : Value) (W : World) : (Instr.typeAssert (.iface 3 v) 20 3 true).run Tryd.prog W = .ok (.tuple #[v, .bool true]) W := by kernel_rfl
theorem ta_2_0 (v : Value) (W : World) : (Instr.typeAssert (.iface 30 v) 20 9 true).run Tryd.prog W = .ok (.tuple #[.string ⟨#[]⟩, .bool false]) W := by kernel_rfl
theorem ta_2_1 (v : Value) (W : World) : (Instr.typeAssert (.iface 30 v) 20 3 true).run Tryd.prog W = .ok (.tuple #[.int .i64 0, .bool false]) W := by kernel_rfl
theorem ta_2_2 (v : Value) (W : World) : (Instr.typeAssert (.iface 30 v) 20 30 true).run Tryd.prog W = .ok (.tuple #[v, .bool true]) W := by kernel_rfl
theorem ta_3_0 (v : Value) (W : World) : (Instr.typeAssert (.iface 46 v) 20 9 true).run Tryd.prog W = .ok (.tuple #[.string ⟨#[]⟩, .bool false]) W := by kernel_rfl
theorem ta_3_1 (v : Value) (W : World) : (Instr.typeAssert (.iface 46 v) 20 3 true).run Tryd.prog W = .ok (.tuple #[.int .i64 0, .bool false]) W := by kernel_rfl
theorem ta_3_2 (v : Value) (W : World) : (Instr.typeAssert (.iface 46 v) 20 30 true).run Tryd.prog W = .ok (.tuple #[.int .i64 0, .bool false]) W := by kernel_rfl
theorem ta_3_3 (v : Value) (W : World) : (Instr.typeAssert (.iface 46 v) 20 46 true).run Tryd.prog W = .ok (.tuple #[v, .bool true]) W := by kernel_rfl
theorem ta_4_0 (v : Value) (W : World) : (Instr.typeAssert (.iface 131 v) 20 9 true).run Tryd.prog W = .ok (.tuple #[.string ⟨#[]⟩, .bool false]) W := by kernel_rfl
theorem ta_4_1 (v : Value) (W : World) : (Instr.typeAssert (.iface 131 v) 20 3 true).run Tryd.prog W = .ok (.tuple #[.int .i64 0, .bool false]) W := by kernel_rfl
theorem ta_4_2 (v : Value) (W : World) : (Instr.typeAssert (.iface 131 v) 20 30 true).run Tryd.prog W = .ok (.tuple #[.int .i64 0, .bool false]) W := by kernel_rfl
theorem ta_4_3 (v : Value) (W : World) : (Instr.typeAssert (.iface 131 v) 20 46 true).run Tryd.prog W = .ok (.tuple #[.slice none 0 0, .bool false]) W := by kernel_rfl
theorem ta_4_4 (v : Value) (W : World) : (Instr.typeAssert (.iface 131 v) 20 131 true).run Tryd.prog W = .ok (.tuple #[v, .bool true]) W := by kernel_rfl
theorem ta_5_0 (v : Value) (W : World) : (Instr.typeAssert (.iface 134 v) 20 9 true).run Tryd.prog W = .ok (.tuple #[.string ⟨#[]⟩, .bool false]) W := by kernel_rfl
theorem ta_5_1 (v : Value) (W : World) : (Instr.typeAssert (.iface 134 v) 20 3 true).run Tryd.prog W = .ok (.tuple #[.int .i64 0, .bool false]) W := by kernel_rfl
theorem ta_5_2 (v : Value) (W : World) : (Instr.typeAssert (.iface 134 v) 20 30 true).run Tryd.prog W = .ok (.tuple #[.int .i64 0, .bool false]) W := by kernel_rfl
theorem ta_5_3 (v : Value) (W : World) : (Instr.typeAssert (.iface 134 v) 20 46 true).run Tryd.prog W = .ok (.tuple #[.slice none 0 0, .bool false]) W := by kernel_rfl
theorem ta_5_4 (v : Value) (W : World) : (Instr.typeAssert (.iface 134 v) 20 131 true).run Tryd.prog W = .ok (.tuple #[.agg #[.int .i64 0, .int .i64 0], .bool false]) W := by kernel_rfl
theorem ta_5_5 (v : Value) (W : World) : (Instr.typeAssert (.iface 134 v) 20 134 true).run Tryd.prog W = .ok (.tuple #[v, .bool true]) W := by kernel_rfl
theorem ta_6_0 (v : Value) (W : World) : (Instr.typeAssert (.iface 43 v) 20 9 true).run Tryd.prog W = .ok (.tuple #[.string ⟨#[]⟩, .bool false]) W := by kernel_rfl
theorem ta_6_1 (v : Value) (W : World) : (Instr.typeAssert (.iface 43 v) 20 3 true).run Tryd.prog W = .ok (.tuple #[.int .i64 0, .bool false]) W := by kernel_rfl
theorem ta_6_2 (v : Value) (W : World) : (Instr.typeAssert (.iface 43 v) 20 30 true).run Tryd.prog W = .ok (.tuple #[.int .i64 0, .bool false]) W := by kernel_rfl
theorem ta_6_3 (v : Value) (W : World) : (Instr.typeAssert (.iface 43 v) 20 46 true).run Tryd.prog W = .ok (.tuple #[.slice none 0 0, .bool false]) W := by kernel_rfl
theorem ta_6_4 (v : Value) (W : World) : (Instr.typeAssert (.iface 43 v) 20 131 true).run Tryd.prog W = .ok (.tuple #[.agg #[.int .i64 0, .int .i64 0], .bool false]) W := by kernel_rfl
theorem ta_6_5 (v : Value) (W : World) : (Instr.typeAssert (.iface 43 v) 20 134 true).run Tryd.prog W = .ok (.tuple #[.agg #[.int .i64 0, .int .i64 0], .bool false]) W := by kernel_rfl
theorem ta_6_6 (v : Value) (W : World) : (Instr.typeAssert (.iface 43 v) 20 43 true).run Tryd.prog W = .ok (.tuple #[v, .bool true]) W := by kernel_rfl
theorem ta_7_0 (v : Value) (W : World) : (Instr.typeAssert (.iface 45 v) 20 9 true).run Tryd.prog W = .ok (.tuple #[.string ⟨#[]⟩, .bool false]) W := by kernel_rfl
theorem ta_7_1 (v : Value) (W : World) : (Instr.typeAssert (.iface 45 v) 20 3 true).run Tryd.prog W = .ok (.tuple #[.int .i64 0, .bool false]) W := by kernel_rfl
theorem ta_7_2 (v : Value) (W : World) : (Instr.typeAssert (.iface 45 v) 20 30 true).run Tryd.prog W = .ok (.tuple #[.int .i64 0, .bool false]) W := by kernel_rfl
theorem ta_7_3 (v : Value) (W : World) : (Instr.typeAssert (.iface 45 v) 20 46 true).run Tryd.prog W = .ok (.tuple #[.slice none 0 0, .bool false]) W := by kernel_rfl
theorem ta_7_4 (v : Value) (W : World) : (Instr.typeAssert (.iface 45 v) 20 131 true).run Tryd.prog W = .ok (.tuple #[.agg #[.int .i64 0, .int .i64 0], .bool false]) W := by kernel_rfl
theorem ta_7_5 (v : Value) (W : World) : (Instr.typeAssert (.iface 45 v) 20 134 true).run Tryd.prog W = .ok (.tuple #[.agg #[.int .i64 0, .int .i64 0], .bool false]) W := by kernel_rfl
theorem ta_7_6 (v : Value) (W : World) : (Instr.typeAssert (.iface 45 v) 20 43 true).run Tryd.prog W = .ok (.tuple #[.agg #[.int .i64 0, .int .i64 0], .bool false]) W := by kernel_rfl
theorem ta_7_7 (v : Value) (W : World) : (Instr.typeAssert (.iface 45 v) 20 45 true).run Tryd.prog W = .ok (.tuple #[v, .bool true]) W := by kernel_rfl
def wflat : Wd → Prop
  | .str _ | .int _ | .bytes _ | .epoch _ _ => True
  | _ => False
/-- What a call of put promises. -/
def PutC (l : List Wd) : Prop := ∀ {w0 wx : World} {b : Nat} {row : Option Nat} {s : TS} {A : Option Addr} {c : Nat}, TB w0 → PrS w0 wx wx b row row s → WVs wx b row A l → (∀ x ∈ l, x.fit 1099511627776) → s.1.length + lenW (wdsT l) ≤ 140737488355328 →
  Calls Tryd.prog 30 #[.pointer (some ⟨b, 0, none⟩), .slice A l.length c] wx fun e w' => e = .returned (.tuple #[]) ∧ ∃ r1, PrS w0 wx w' b row r1 (addWs s (wdsT l))
/-- put of a row that has just been built. -/
theorem nest {w0 W wx w1 : World} {b k T : Nat} {r0 row : Option Nat} {S : TS} {l : List Wd} {cs : Array Value} {c : Nat} (hP : PutC l) (hT : TB w0) (hX : PrS w0 W wx b r0 row S) (hb1 : Below wx.heap.size wx w1) (hk : wx.heap.size ≤ k) (hc : w1.heap[k]? = some (.cells cs T (0, 0))) (hl : l.length ≤ 9223372036854775807)
    (hv : ∀ (i : Nat) x, l[i]? = some x → ∃ v, cs[i]? = some v ∧ WV w1 b row x v) (hf : ∀ x ∈ l, x.fit 1099511627776) (hbd : S.1.length + lenW (wdsT l) ≤ 140737488355328) :
    Calls Tryd.prog 30 #[.pointer (some ⟨b, 0, none⟩), .slice (some ⟨k, 0, none⟩) l.length c] w1 fun e w' => e = .returned (.tuple #[]) ∧ ∃ r1, PrS w0 wx w' b row r1 (addWs S (wdsT l)) := by
  have h1 := hX.below hb1
  refine (hP hT h1.from_ (WVs.made hc (fun e => ?_) (fun e => ?_) hl hv) hf hbd).mono ?_
  · have := hX.bd.lt; omega
  · have := (hX.bd.row_base k e).2.1; omega
  rintro e w' ⟨he, r1, h2⟩
  exact ⟨he, r1, (hX.from_.below hb1).then_ h2⟩
theorem vs1 {w1 : World} {b : Nat} {row : Option Nat} {x : Wd} {v : Value} (h : WV w1 b row x v) : ∀ (i : Nat) y, [x][i]? = some y → ∃ u, (#[v] : Array Value)[i]? = some u ∧ WV w1 b row y u := by
  intro i y hy
  match i, hy with
  | 0, hy => obtain rfl := Option.some.inj hy; exact ⟨_, rfl, h⟩
  | i + 1, hy => simp at hy
theorem vs2 {w1 : World} {b : Nat} {row : Option Nat} {x x2 : Wd} {v v2 : Value} (h : WV w1 b row x v) (h2 : WV w1 b row x2 v2) : ∀ (i : Nat) y, [x, x2][i]? = some y → ∃ u, (#[v, v2] : Array Value)[i]? = some u ∧ WV w1 b row y u := by
  intro i y hy
  match i, hy with
  | 0, hy => obtain rfl := Option.some.inj hy; exact ⟨_, rfl, h⟩
  | 1, hy => obtain rfl := Option.some.inj hy; exact ⟨_, rfl, h2⟩
  | i + 2, hy => simp at hy
theorem vs4 {w1 : World} {b : Nat} {row : Option Nat} {x x2 x3 x4 : Wd} {v v2 v3 v4 : Value} (h : WV w1 b row x v) (h2 : WV w1 b row x2 v2) (h3 : WV w1 b row x3 v3) (h4 : WV w1 b row x4 v4) : ∀ (i : Nat) y, [x, x2, x3, x4][i]? = some y → ∃ u, (#[v, v2, v3, v4] : Array Value)[i]? = some u ∧ WV w1 b row y u := by
  intro i y hy
  match i, hy with
  | 0, hy => obtain rfl := Option.some.inj hy; exact ⟨_, rfl, h⟩
  | 1, hy => obtain rfl := Option.some.inj hy; exact ⟨_, rfl, h2⟩
  | 2, hy => obtain rfl := Option.some.inj hy; exact ⟨_, rfl, h3⟩
  | 3, hy => obtain rfl := Option.some.inj hy; exact ⟨_, rfl, h4⟩
  | i + 4, hy => simp at hy
theorem cell_kb {W w1 : World} {b : Nat} {row : Option Nat} {a : Addr} {v : Value} (h : W.cell? a = some v) (k : KeepBut W w1 b row) (hb : a.block ≠ b) (hr : some a.block ≠ row) : w1.cell? a = some v := by
  have hlt := World.block_lt_of_cell? W a h
  have e2 := k.2 a.block hlt hb hr
  unfold World.cell? at h ⊢
  rw [e2]; exact h
theorem new2 (w : World) (o1 o2 : Obj) : ((w.alloc o1).alloc o2).heap[w.heap.size + 1]? = some o2 := by
  have := heap_alloc_new (w.alloc o1) o2
  simpa using this
theorem bel2 (w : World) (o1 o2 : Obj) : Below w.heap.size w ((w.alloc o1).alloc o2) := ((Below.refl _ _).alloc (Nat.le_refl _) _).alloc (by simp) _
theorem nest_op {w0 W wx wa : World} {b T : Nat} {r0 row : Option Nat} {S : TS} {k p q : Int} {n : By} {c cc ka : Nat} (hka : ka = wa.heap.size) (hP : PutC [.int k, .bytes n, .int p, .int q]) (hT : TB w0) (hX : PrS w0 W wx b r0 row S) (hwa : Below wx.heap.size wx wa) (hf : (Wd.op k n p q).fit 1099511627776) (hbd : S.1.length + lenW (Wd.op k n p q).ws ≤ 140737488355328) :
    Calls Tryd.prog 30 #[.pointer (some ⟨b, 0, none⟩), .slice (some ⟨(Lib.bytesWorld wa 5 (sb n)).heap.size, 0, none⟩) 4 c] ((Lib.bytesWorld wa 5 (sb n)).alloc (.cells #[.iface 3 (.int .i64 k), .iface 46 (.slice (some ⟨ka, 0, none⟩) (sb n).size cc), .iface 3 (.int .i64 p), .iface 3 (.int .i64 q)] T (0, 0))) fun e w' => e = .returned (.tuple #[]) ∧ ∃ r1, PrS w0 wx w' b row r1 (addWs S (Wd.op k n p q).ws) := by
  subst hka
  have h1 : Below wx.heap.size wx (Lib.bytesWorld wa 5 (sb n)) := bytes_below hwa hwa.size _ _
  have h2 := h1.alloc h1.size (.cells #[.iface 3 (.int .i64 k), .iface 46 (.slice (some ⟨wa.heap.size, 0, none⟩) (sb n).size cc), .iface 3 (.int .i64 p), .iface 3 (.int .i64 q)] T (0, 0))
  have hn : n.length ≤ 1099511627776 := hf.2.1
  have hC : Kd.C (Kd.int .u8) (Lib.bytesWorld wa 5 (sb n)) (some ⟨wa.heap.size, 0, none⟩) n.length (Sc.nums n) := by
    have := bytes_reads wa 5 (sb n) (by rw [← bs_len, bs_sb]; omega)
    rw [nums_bytesOf, bs_sb, ← bs_len, bs_sb] at this
    exact Kd.C_of_reads (h1 := fun _ => rfl) this
  refine nest (l := [.int k, .bytes n, .int p, .int q]) hP hT hX h2 h1.size (heap_alloc_new _ _) (by simp) (vs4 rfl ⟨_, _, rfl, BR.made hwa.size hX.bd.lt (fun i hi => (hX.bd.row_base i hi).2.1) (Kd.C_below hC ((Below.refl _ _).alloc (Nat.le_refl _) _))⟩ rfl rfl) ?_ hbd
  intro x hx
  simp only [List.mem_cons, List.not_mem_nil, or_false] at hx
  rcases hx with rfl | rfl | rfl | rfl
  · exact hf.1
  · exact hf.2.1
  · exact hf.2.2.1
  · exact hf.2.2.2
theorem put_done {w0 wx wr w2 : World} {b i : Nat} {row r1 r2 : Option Nat} {s : TS} {A : Option Addr} {l : List Wd} {x : Wd} (hx : l[i]? = some x) (hX : PrS w0 wx wr b row r1 (addWs s (wdsT (l.take i)))) (hV : WVs wr b r1 A l) (h2 : PrS w0 wr w2 b r1 r2 (addWs (addWs s (wdsT (l.take i))) x.ws)) :
    i + 1 ≤ l.length ∧ ∃ r, PrS w0 wx w2 b row r (addWs s (wdsT (l.take (i + 1)))) ∧ WVs w2 b r A l := by
  obtain ⟨hi, e⟩ := List.getElem?_eq_some_iff.1 hx
  refine ⟨hi, r2, ?_, hV.keep h2.kb h2.rn⟩
  rw [List.take_succ_eq_append_getElem hi, e, show wdsT (l.take i ++ [x]) = wdsT (l.take i) ++ x.ws by simp [wdsT], addWs_append]
  exact hX.then_ h2
theorem put_bound {s : TS} {l : List Wd} {x : Wd} {i : Nat} (hx : l[i]? = some x) (h : s.1.length + lenW (wdsT l) ≤ 140737488355328) : (addWs s (wdsT (l.take i))).1.length + lenW x.ws ≤ 140737488355328 := by
  obtain ⟨hi, e⟩ := List.getElem?_eq_some_iff.1 hx
  have h1 := addWs_len (wdsT (l.take i)) s
  have h2 : wdsT l = wdsT (l.take i) ++ (x.ws ++ wdsT (l.drop (i + 1))) := by
    conv => lhs; rw [← List.take_append_drop i l, List.drop_eq_getElem_cons hi, e]
    simp [wdsT]
  rw [h2, lenW_append, lenW_append] at h
  omega
set_option maxHeartbeats 16000000 in
set_option maxRecDepth 100000 in
theorem put_gen (l : List Wd) (hrec : ∀ x ∈ l, ¬ wflat x → ∀ l' : List Wd, (∀ y ∈ l', wflat y) → PutC l') : PutC l := by
  intro w0 wx b row s A c hT hX hV hF hB
  have HT := Aside0.mk hT
  have HX0 := Aside0.mk hX
  have HV0 := Aside0.mk hV
  have HF := Aside0.mk hF
  have HB := Aside0.mk hB
  have HR := Aside0.mk hrec
  have hln : (l.length : Int) ≤ 9223372036854775807 := by have := hV.len; omega
  clear hT hX hV hF hB hrec
  go_enter Tryd.func30, Tryd.ntmps30
  go_wp2_with fail
  go_loopw [5, 6, 7, 8, 9, 10, 11, 12, 13, 16] (fun _ _ _ _ _ _ _ _ _ s16 wr => ∃ i : Nat, s16 = .int .i64 i ∧ Aside0 (i ≤ l.length ∧ ∃ r1, PrS w0 wx wr b row r1 (addWs s (wdsT (l.take i))) ∧ WVs wr b r1 A l)) (fun _ _ _ _ _ _ _ _ _ s16 _ => l.length - (intOf s16).toNat)
  case atStart => exact ⟨0, rfl, ⟨Nat.zero_le _, row, HX0.out, HV0.out⟩⟩
  case round =>
    obtain ⟨i, rfl, hP⟩ := hrel
    obtain ⟨hi, r1, hX, hV⟩ := hP.out
    have HX := Aside0.mk hX
    have HV := Aside0.mk hV
    have HI := Aside0.mk hi
    clear hP hX hV hi HX0 HV0
    by_cases hlt : i < l.length
    · obtain ⟨x, hx⟩ : ∃ x, l[i]? = some x := ⟨_, List.getElem?_eq_getElem hlt⟩
      obtain ⟨ad, v, rfl, hv, hc⟩ := HV.out.drop hx
      have HXX := Aside0.mk hx
      have HFX : Aside0 (x.fit 1099511627776) := ⟨HF.out x (List.mem_of_getElem? hx)⟩
      have HBD := Aside0.mk (put_bound (s := s) hx HB.out)
      have HRX : Aside0 (¬ wflat x → ∀ l' : List Wd, (∀ y ∈ l', wflat y) → PutC l') := ⟨HR.out x (List.mem_of_getElem? hx)⟩
      have hltI : (i : Int) < (l.length : Int) := by omega
      have HLT := Aside0.mk hlt
      clear hx hlt
      cases x with
      | str t =>
        subst hv
        have f0 := ta_0_0 (.string (sb t))
        clear HRX
        have HY := Aside0.mk HX.out.from_
        have HBX : Aside0 ((addWs s (wdsT (l.take i))).1.length + (sb t).size + 1 ≤ 140737488355328) := ⟨by have := HBD.out; simp only [Wd.ws, lenW] at this; rw [← bs_len, bs_sb]; omega⟩
        go_wp2_with (go_at_call 53; refine (word_calls HY.out (sb t) HBX.out).mono ?_; rintro e w9 ⟨rfl, r9, h9⟩; have H2 : Aside0 (PrS w0 wr w9 b r1 r9 (addWs (addWs s (wdsT (l.take i))) (Wd.str t).ws)) := ⟨by simpa [bs_sb, Wd.ws, addWs] using h9⟩; clear h9 HY)
        go_roundw
        case rel => exact ⟨i + 1, by go_num, ⟨put_done HXX.out HX.out HV.out H2.out⟩⟩
        case measure => simp [intOf]; have := HLT.out; omega
      | int n =>
        subst hv
        have f0 := ta_1_0 (.int .i64 n)
        have f1 := ta_1_1 (.int .i64 n)
        clear HRX
        have HY := Aside0.mk HX.out.from_
        have HBX : Aside0 ((addWs s (wdsT (l.take i))).1.length + (sb (numW n)).size + 1 ≤ 140737488355328) := ⟨by have := HBD.out; simp only [Wd.ws, lenW] at this; rw [← bs_len, bs_sb]; omega⟩
        go_wp2_with (first
          | (go_at_call 54; refine (itoa_calls HT.out HY.out.bl n HFX.out).mono ?_; rintro e w7 ⟨rfl, hb⟩; have n0_ := Aside0.mk (HY.out.below hb); clear HY hb; have HY := n0_; clear n0_)
          | (go_at_call 53; refine (word_calls HY.out (sb (numW n)) HBX.out).mono ?_; rintro e w9 ⟨rfl, r9, h9⟩; have H2 : Aside0 (PrS w0 wr w9 b r1 r9 (addWs (addWs s (wdsT (l.take i))) (Wd.int n).ws)) := ⟨by simpa [bs_sb, Wd.ws, addWs] using h9⟩; clear h9 HY))
        go_roundw
        case rel => exact ⟨i + 1, by go_num, ⟨put_done HXX.out HX.out HV.out H2.out⟩⟩
        case measure => simp [intOf]; have := HLT.out; omega
      | err n =>
        subst hv
        have f0 := ta_2_0 (.int .i64 n)
        have f1 := ta_2_1 (.int .i64 n)
        have f2 := ta_2_2 (.int .i64 n)
        have HY := Aside0.mk HX.out.from_
        go_wp2_with (go_at_call 30; refine (nest (l := [.int n]) (HRX.out (fun h => h) _ (by simp [wflat])) HT.out HY.out ((Below.refl _ _).alloc (Nat.le_refl _) _) (Nat.le_refl _) (heap_alloc_new _ _) (by simp) (vs1 rfl) (by intro x hx; rw [List.mem_singleton.1 hx]; exact HFX.out) HBD.out).mono ?_; rintro e w9 ⟨rfl, r9, h9⟩; have H2 : Aside0 (PrS w0 wr w9 b r1 r9 (addWs (addWs s (wdsT (l.take i))) (Wd.err n).ws)) := ⟨h9⟩; clear h9 HY)
        go_roundw
        case rel => exact ⟨i + 1, by go_num, ⟨put_done HXX.out HX.out HV.out H2.out⟩⟩
        case measure => simp [intOf]; have := HLT.out; omega
      | bytes d =>
        obtain ⟨A2, c2, rfl, hbr⟩ := hv
        have f0 := ta_3_0 (.slice A2 d.length c2)
        have f1 := ta_3_1 (.slice A2 d.length c2)
        have f2 := ta_3_2 (.slice A2 d.length c2)
        have f3 := ta_3_3 (.slice A2 d.length c2)
        clear HRX
        have HBR := Aside0.mk hbr.now
        have HY := Aside0.mk HX.out.from_
        have HBX : Aside0 ((addWs s (wdsT (l.take i))).1.length + (sb (textW d)).size + 1 ≤ 140737488355328) := ⟨by have := HBD.out; simp only [Wd.ws, lenW] at this; rw [← bs_len, bs_sb]; omega⟩
        clear hbr
        go_wp2_with (first
          | (go_at_call 55; refine (textWord_calls d A2 c2 _ HBR.out HFX.out).mono ?_; rintro e w7 ⟨rfl, hb⟩; have n0_ := Aside0.mk (HY.out.below hb); clear HY hb; have HY := n0_; clear n0_)
          | (go_at_call 53; refine (word_calls HY.out (sb (textW d)) HBX.out).mono ?_; rintro e w9 ⟨rfl, r9, h9⟩; have H2 : Aside0 (PrS w0 wr w9 b r1 r9 (addWs (addWs s (wdsT (l.take i))) (Wd.bytes d).ws)) := ⟨by simpa [bs_sb, Wd.ws, addWs] using h9⟩; clear h9 HY))
        go_roundw
        case rel => exact ⟨i + 1, by go_num, ⟨put_done HXX.out HX.out HV.out H2.out⟩⟩
        case measure => simp [intOf]; have := HLT.out; omega
      | epoch q p =>
        subst hv
        have f0 := ta_4_0 (.agg #[.int .i64 q, .int .i64 p])
        have f1 := ta_4_1 (.agg #[.int .i64 q, .int .i64 p])
        have f2 := ta_4_2 (.agg #[.int .i64 q, .int .i64 p])
        have f3 := ta_4_3 (.agg #[.int .i64 q, .int .i64 p])
        have f4 := ta_4_4 (.agg #[.int .i64 q, .int .i64 p])
        clear HRX
        obtain ⟨wa, hwa⟩ : ∃ wa, wa = wr.alloc (.cells #[.int .i64 q, .int .i64 p] 131 (0, 0)) := ⟨_, rfl⟩
        have hba : Below wr.heap.size wr wa := by rw [hwa]; exact (Below.refl _ _).alloc (Nat.le_refl _) _
        have hbk : wa.heap[wr.heap.size]? = some (.cells #[.int .i64 q, .int .i64 p] 131 (0, 0)) := by rw [hwa]; exact heap_alloc_new _ _
        have HY := Aside0.mk (HX.out.from_.below hba)
        have HBK := Aside0.mk hbk
        have HWA := Aside0.mk hwa
        have HBX : Aside0 ((addWs s (wdsT (l.take i))).1.length + (sb (epochW q p)).size + 1 ≤ 140737488355328) := ⟨by have := HBD.out; simp only [Wd.ws, lenW] at this; rw [← bs_len, bs_sb]; omega⟩
        clear hba hbk hwa
        go_upto_region 18 with fail
        rw [← HWA.out]
        have q0 : wa.drew.cell? ⟨wr.heap.size, 0, none⟩ = some (.int .i64 q) := (blk_cell HBK.out 0).trans rfl
        have q1 : wa.drew.cell? ⟨wr.heap.size, 1, none⟩ = some (.int .i64 p) := (blk_cell HBK.out 1).trans rfl
        have n0_ := Aside0.mk (HY.out.below (below_drew (Below.refl wa.heap.size wa)))
        clear HY
        have HY := n0_
        clear n0_
        have HNB : Aside0 (wr.heap.size ≠ b ∧ some wr.heap.size ≠ r1) := ⟨⟨fun e => by have := HX.out.bd.lt; omega, fun e => by have := (HX.out.bd.row_base _ e.symm).2.1; omega⟩⟩
        have HFQ : Aside0 (inI q ∧ inI p) := ⟨HFX.out⟩
        have HE : Aside0 (sb (numW q) ++ ⟨#[58]⟩ ++ sb (numW p) = sb (epochW q p)) := ⟨by apply bs_inj; rw [bs_append, bs_append, bs_sb, bs_sb, bs_sb]; simp [epochW, bs]⟩
        have HBX2 : Aside0 ((addWs s (wdsT (l.take i))).1.length + (sb (numW q) ++ ⟨#[58]⟩ ++ sb (numW p)).size + 1 ≤ 140737488355328) := ⟨by rw [HE.out]; exact HBX.out⟩
        have a1 : ∀ W, (Op.stringOp .add (sb (numW q)) ⟨#[58]⟩).run Tryd.prog W = .ok (.string (sb (numW q) ++ ⟨#[58]⟩)) W := fun W => run_string_add_sum W _ _ (by have := HBX2.out; simp only [ByteArray.size_append] at this ⊢; omega)
        have a2 : ∀ W, (Op.stringOp .add (sb (numW q) ++ ⟨#[58]⟩) (sb (numW p))).run Tryd.prog W = .ok (.string (sb (numW q) ++ ⟨#[58]⟩ ++ sb (numW p))) W := fun W => run_string_add_sum W _ _ (by have := HBX2.out; simp only [ByteArray.size_append] at this ⊢; omega)
        go_region_held3 (fun w' => w'.cell? ⟨wr.heap.size, 0, none⟩ = some (.int .i64 q) ∧ w'.cell? ⟨wr.heap.size, 1, none⟩ = some (.int .i64 p)) (first | exact ⟨q0, q1⟩) (first
          | (go_at_call 54; (with_reducible refine (itoa_calls HT.out HY.out.bl _ (by first | exact HFQ.out.1 | exact HFQ.out.2)).mono ?_); rintro e w7 ⟨rfl, hb⟩; have n0_ := Aside0.mk (HY.out.below hb); have n1_ := pw_cell_below hb q0; have n2_ := pw_cell_below hb q1; clear HY hb q0 q1; have HY := n0_; have q0 := n1_; have q1 := n2_; clear n0_ n1_ n2_)
          | (go_at_call 53; (with_reducible refine (word_calls HY.out.from_ (sb (numW q) ++ ⟨#[58]⟩ ++ sb (numW p)) HBX2.out).mono ?_); rintro e w9 ⟨rfl, r9, h9⟩; have n1_ := cell_kb q0 h9.kb HNB.out.1 HNB.out.2; have n2_ := cell_kb q1 h9.kb HNB.out.1 HNB.out.2; clear q0 q1; have q0 := n1_; have q1 := n2_; clear n1_ n2_; have H2 : Aside0 (PrS w0 wr w9 b r1 r9 (addWs (addWs s (wdsT (l.take i))) (Wd.epoch q p).ws)) := ⟨by have h8 := HY.out.then_ h9; rw [HE.out] at h8; simpa [bs_sb, Wd.ws, addWs] using h8⟩; clear h9 HY))
        all_goals (clear a1 a2; go_wp2_with fail)
        all_goals
          go_roundw
          case rel => exact ⟨i + 1, by go_num, ⟨put_done HXX.out HX.out HV.out H2.out⟩⟩
          case measure => simp [intOf]; have := HLT.out; omega
      | rights p q =>
        subst hv
        have f0 := ta_5_0 (.agg #[.int .i64 p, .int .i64 q])
        have f1 := ta_5_1 (.agg #[.int .i64 p, .int .i64 q])
        have f2 := ta_5_2 (.agg #[.int .i64 p, .int .i64 q])
        have f3 := ta_5_3 (.agg #[.int .i64 p, .int .i64 q])
        have f4 := ta_5_4 (.agg #[.int .i64 p, .int .i64 q])
        have f5 := ta_5_5 (.agg #[.int .i64 p, .int .i64 q])
        have HY := Aside0.mk HX.out.from_
        go_wp2_with (go_at_call 30; refine (nest (l := [.int p, .int q]) (HRX.out (fun h => h) _ (by simp [wflat])) HT.out HY.out (bel2 _ _ _) (Nat.le_succ _) (new2 _ _ _) (by simp) (vs2 rfl rfl) (by intro x hx; simp only [List.mem_cons, List.not_mem_nil, or_false] at hx; rcases hx with rfl | rfl; exact HFX.out.1; exact HFX.out.2) HBD.out).mono ?_; rintro e w9 ⟨rfl, r9, h9⟩; have H2 : Aside0 (PrS w0 wr w9 b r1 r9 (addWs (addWs s (wdsT (l.take i))) (Wd.rights p q).ws)) := ⟨h9⟩; clear h9 HY)
        go_roundw
        case rel => exact ⟨i + 1, by go_num, ⟨put_done HXX.out HX.out HV.out H2.out⟩⟩
        case measure => simp [intOf]; have := HLT.out; omega
      | call p q =>
        subst hv
        have f0 := ta_6_0 (.agg #[.int .i64 p, .int .i64 q])
        have f1 := ta_6_1 (.agg #[.int .i64 p, .int .i64 q])
        have f2 := ta_6_2 (.agg #[.int .i64 p, .int .i64 q])
        have f3 := ta_6_3 (.agg #[.int .i64 p, .int .i64 q])
        have f4 := ta_6_4 (.agg #[.int .i64 p, .int .i64 q])
        have f5 := ta_6_5 (.agg #[.int .i64 p, .int .i64 q])
        have f6 := ta_6_6 (.agg #[.int .i64 p, .int .i64 q])
        have HY := Aside0.mk HX.out.from_
        go_wp2_with (go_at_call 30; refine (nest (l := [.int p, .int q]) (HRX.out (fun h => h) _ (by simp [wflat])) HT.out HY.out (bel2 _ _ _) (Nat.le_succ _) (new2 _ _ _) (by simp) (vs2 rfl rfl) (by intro x hx; simp only [List.mem_cons, List.not_mem_nil, or_false] at hx; rcases hx with rfl | rfl; exact HFX.out.1; exact HFX.out.2) HBD.out).mono ?_; rintro e w9 ⟨rfl, r9, h9⟩; have H2 : Aside0 (PrS w0 wr w9 b r1 r9 (addWs (addWs s (wdsT (l.take i))) (Wd.call p q).ws)) := ⟨h9⟩; clear h9 HY)
        go_roundw
        case rel => exact ⟨i + 1, by go_num, ⟨put_done HXX.out HX.out HV.out H2.out⟩⟩
        case measure => simp [intOf]; have := HLT.out; omega
      | op k n p q =>
        subst hv
        have f0 := ta_7_0 (.agg #[.int .i64 k, .string (sb n), .int .i64 p, .int .i64 q])
        have f1 := ta_7_1 (.agg #[.int .i64 k, .string (sb n), .int .i64 p, .int .i64 q])
        have f2 := ta_7_2 (.agg #[.int .i64 k, .string (sb n), .int .i64 p, .int .i64 q])
        have f3 := ta_7_3 (.agg #[.int .i64 k, .string (sb n), .int .i64 p, .int .i64 q])
        have f4 := ta_7_4 (.agg #[.int .i64 k, .string (sb n), .int .i64 p, .int .i64 q])
        have f5 := ta_7_5 (.agg #[.int .i64 k, .string (sb n), .int .i64 p, .int .i64 q])
        have f6 := ta_7_6 (.agg #[.int .i64 k, .string (sb n), .int .i64 p, .int .i64 q])
        have f7 := ta_7_7 (.agg #[.int .i64 k, .string (sb n), .int .i64 p, .int .i64 q])
        have HY := Aside0.mk HX.out.from_
        have kb := fun W => print_bytes (P := Tryd.prog) 9 46 5 Tryd.underlying9 Tryd.underlying46 Tryd.underlying5 (sb n) W
        obtain ⟨wa, hwa⟩ : ∃ wa, wa = wr.alloc (.cells #[.int .i64 k, .string (sb n), .int .i64 p, .int .i64 q] 45 (0, 0)) := ⟨_, rfl⟩
        have hba : Below wr.heap.size wr wa := by rw [hwa]; exact (Below.refl _ _).alloc (Nat.le_refl _) _
        have hbk : (Lib.bytesWorld wa 5 (sb n)).heap[wr.heap.size]? = some (.cells #[.int .i64 k, .string (sb n), .int .i64 p, .int .i64 q] 45 (0, 0)) := by
          have h1 : wa.heap[wr.heap.size]? = some (.cells #[.int .i64 k, .string (sb n), .int .i64 p, .int .i64 q] 45 (0, 0)) := by rw [hwa]; exact heap_alloc_new _ _
          exact (Lib.bytesWorld_at_old wa _ _ _ (blk_lt h1)).trans h1
        have c2 : (Lib.bytesWorld wa 5 (sb n)).cell? ⟨wr.heap.size, 2, none⟩ = some (.int .i64 p) := (blk_cell hbk 2).trans rfl
        have c3 : (Lib.bytesWorld wa 5 (sb n)).cell? ⟨wr.heap.size, 3, none⟩ = some (.int .i64 q) := (blk_cell hbk 3).trans rfl
        have HBA := Aside0.mk hba
        have HWA := Aside0.mk hwa
        clear hba hbk
        rw [hwa] at c2 c3
        clear hwa
        go_wp2_with (go_at_call 30; refine (nest_op (ka := wr.heap.size + 1) (by simp) (HRX.out (fun h => h) _ (by simp [wflat])) HT.out HY.out ((Below.refl _ _).alloc (Nat.le_refl _) _) HFX.out HBD.out).mono ?_; rintro e w9 ⟨rfl, r9, h9⟩; have H2 : Aside0 (PrS w0 wr w9 b r1 r9 (addWs (addWs s (wdsT (l.take i))) (Wd.op k n p q).ws)) := ⟨h9⟩; clear h9 HY)
        go_roundw
        case rel => exact ⟨i + 1, by go_num, ⟨put_done HXX.out HX.out HV.out H2.out⟩⟩
        case measure => simp [intOf]; have := HLT.out; omega
    · have HE : Aside0 (wdsT (l.take i) = wdsT l) := ⟨by rw [List.take_of_length_le (by omega)]⟩
      have hge : ¬ (i : Int) < (l.length : Int) := by omega
      clear hlt
      go_wp2_with fail
      first | go_end0 | ((try simp only [Exit.inBlock, Exit.then]); refine bodyPost_ret (results_none rfl _ _ _) rfl ?_)
      exact ⟨rfl, r1, by rw [← HE.out]; exact HX.out⟩
theorem put_flat (l : List Wd) (h : ∀ x ∈ l, wflat x) : PutC l := put_gen l (fun x hx hn => absurd (h x hx) hn)
theorem put_any (l : List Wd) : PutC l := put_gen l (fun _ _ _ l' h => put_flat l' h)
end Go.Proofs.YtnbfebjcfhbhiaaDoor.Bw
end
section
namespace Go.Proofs.YtnbfebjcfhbhiaaDoor.Bw
open Go Go.RowKit Go.Proofs.YtnbfebjcfhbhiaaDoor.P Go.Proofs.YtnbfebjcfhbhiaaDoor.Sc Go.Proofs.YtnbfebjcfhbhiaaDoor.Lw Go.Proofs.YtnbfebjcfhbhiaaDoorW.PrintWords Go.Proofs.YtnbfebjcfhbhiaaDoorW.PrintLast Go.Proofs.YtnbfebjcfhbhiaaDoorW.PrintMore
set_option linter.unusedVariables false
set_option linter.unusedSimpArgs false
/-- The words of parts; rec: those of an op. -/
def tellG (rec : St → Bool × List By × St) : List Part → St → Bool × List By × St
  | [], x => (true, [], x)
  | .o :: ps, x => if (rec x).1 then ((tellG rec ps { (rec x).2.2 with ok := 0 }).1, (rec x).2.1 ++ (tellG rec ps { (rec x).2.2 with ok := 0 }).2.1, (tellG rec ps { (rec x).2.2 with ok := 0 }).2.2) else (false, (rec x).2.1, (rec x).2.2)
  | p :: ps, x => ((tellG rec ps (x.zero p)).1, partW x p :: (tellG rec ps (x.zero p)).2.1, (tellG rec ps (x.zero p)).2.2)
def tellF (rec : St → Bool × List By × St) : List S153 → Int → St → Bool × List By × St
  | [], _, x => (false, [], x)
  | f :: fs, k, x => if f.f2 = k then ((tellG rec ((bs f.f1).map partOf) x).1, bs f.f0 :: (tellG rec ((bs f.f1).map partOf) x).2.1, (tellG rec ((bs f.f1).map partOf) x).2.2) else tellF rec fs k x
def tell0 (x : St) : Bool × List By × St := (false, [], x)
def tellOps (x : St) : Bool × List By × St := tellF tell0 opFs x.ok x
def tellStep (k : Int) (x : St) : Bool × List By × St := tellF tellOps stepFs k x
theorem tellG_cons (rec : St → Bool × List By × St) (p : Part) (hp : p ≠ .o) (ps : List Part) (x : St) : tellG rec (p :: ps) x = ((tellG rec ps (x.zero p)).1, partW x p :: (tellG rec ps (x.zero p)).2.1, (tellG rec ps (x.zero p)).2.2) := by
  cases p <;> first | rfl | exact absurd rfl hp
/-- A step's numbers and texts fit. -/
def sfit (x : St) : Prop := inI x.kind ∧ inI x.rep ∧ inI x.ses ∧ inI x.id ∧ inI x.ok ∧ inI x.a ∧ inI x.b ∧ inI x.i ∧ inI x.j ∧ x.name.length ≤ 1099511627776 ∧ x.data.length ≤ 1099511627776
theorem inI0 : inI 0 := ⟨by decide, by decide⟩
theorem sfit.zero {x : St} (h : sfit x) (p : Part) : sfit (x.zero p) := by
  obtain ⟨h1, h2, h3, h4, h5, h6, h7, h8, h9, h10, h11⟩ := h
  cases p <;> simp only [St.zero, St.set] <;> first | exact ⟨h1, h2, h3, h4, h5, h6, h7, h8, h9, h10, h11⟩ | exact ⟨h1, inI0, h3, h4, h5, h6, h7, h8, h9, h10, h11⟩ | exact ⟨h1, h2, inI0, h4, h5, h6, h7, h8, h9, h10, h11⟩ | exact ⟨h1, h2, h3, inI0, h5, h6, h7, h8, h9, h10, h11⟩ | exact ⟨h1, h2, h3, h4, h5, inI0, h7, h8, h9, h10, h11⟩ | exact ⟨h1, h2, h3, h4, h5, h6, inI0, h8, h9, h10, h11⟩ | exact ⟨h1, h2, h3, h4, h5, h6, h7, inI0, h9, h10, h11⟩ | exact ⟨h1, h2, h3, h4, h5, h6, h7, h8, inI0, h10, h11⟩ | exact ⟨h1, h2, h3, h4, h5, h6, h7, h8, h9, Nat.zero_le _, h11⟩ | exact ⟨h1, h2, h3, h4, h5, h6, h7, h8, h9, h10, Nat.zero_le _⟩
theorem sfit.ok {x : St} (h : sfit x) : sfit { x with ok := 0 } := by
  obtain ⟨h1, h2, h3, h4, h5, h6, h7, h8, h9, h10, h11⟩ := h
  exact ⟨h1, h2, h3, h4, inI0, h6, h7, h8, h9, h10, h11⟩
theorem sfit.get {x : St} (h : sfit x) (p : Part) : inI (x.get p) := by
  obtain ⟨h1, h2, h3, h4, h5, h6, h7, h8, h9, h10, h11⟩ := h
  cases p <;> simp only [St.get] <;> first | assumption | exact inI0
theorem tellG_fit {rec : St → Bool × List By × St} (hr : ∀ x, sfit x → sfit (rec x).2.2) : ∀ (ps : List Part) (x : St), sfit x → sfit (tellG rec ps x).2.2
  | [], x, h => h
  | p :: ps, x, h => by
    by_cases hp : p = .o
    · subst hp
      simp only [tellG]
      split
      · exact tellG_fit hr ps _ ((hr x h).ok)
      · exact hr x h
    · rw [tellG_cons rec p hp]
      exact tellG_fit hr ps _ (h.zero p)
theorem tellF_fit {rec : St → Bool × List By × St} (hr : ∀ x, sfit x → sfit (rec x).2.2) : ∀ (fs : List S153) (k : Int) (x : St), sfit x → sfit (tellF rec fs k x).2.2
  | [], k, x, h => h
  | f :: fs, k, x, h => by
    simp only [tellF]
    split
    · exact tellG_fit hr _ _ h
    · exact tellF_fit hr fs k x h
theorem tellOps_fit (x : St) (h : sfit x) : sfit (tellOps x).2.2 := tellF_fit (fun _ h => h) _ _ _ h
/-- The printer at b (text s), the step x at X; its data have come from ahead of w0. -/
structure PX (w0 W wx : World) (b X : Nat) (r0 row : Option Nat) (s : TS) (x : St) : Prop where
  pr : PrS w0 wx wx b row row s
  st : ∃ A c, wx.heap[X]? = some (.cells (stc x (.slice A x.data.length c)) 48 (0, 0)) ∧ Kd.C (Kd.int .u8) w0 A x.data.length (Sc.nums x.data)
  pl : X ≠ b ∧ w0.heap.size ≤ X
  kp : Kept W wx (fun k => k = b ∨ some k = r0 ∨ k = X)
  rn : RN W r0 row
section
variable {w0 W wx w1 : World} {b X : Nat} {r0 r1 row : Option Nat} {s s' : TS} {x x' : St}
theorem PX.lt (h : PX w0 W wx b X r0 row s x) : X < wx.heap.size := by
  obtain ⟨A, c, h1, _⟩ := h.st
  exact blk_lt h1
theorem PX.row_ne (h : PX w0 W wx b X r0 row s x) : row ≠ some X := by
  intro e
  obtain ⟨A, c, h1, _⟩ := h.st
  obtain ⟨_, _, _, cells, h2⟩ := h.pr.bd.row_base X e
  rw [h1] at h2
  have h3 := (Obj.cells.inj (Option.some.inj h2)).2.1
  revert h3; decide
theorem PX.from_ (h : PX w0 W wx b X r0 row s x) : PX w0 wx wx b X row row s x := ⟨h.pr, h.st, h.pl, Kept.refl _ _, RN.refl _ _⟩
theorem PX.then_ (h : PX w0 W wx b X r0 row s x) (k : PX w0 wx w1 b X row r1 s' x') : PX w0 W w1 b X r0 r1 s' x' :=
  ⟨k.pr, k.st, h.pl, h.kp.then_ k.kp (fun i hi => by
    rcases hi with hi | hi | hi
    · exact .inl (.inl hi)
    · rcases h.rn i hi.symm with e | e
      · exact .inl (.inr (.inl e))
      · exact .inr e
    · exact .inl (.inr (.inr hi))), h.rn.trans k.rn h.kp.1⟩
/-- A call of the printer. -/
theorem PX.call (h : PX w0 W wx b X r0 row s x) (k : PrS w0 wx w1 b row r1 s') : PX w0 W w1 b X r0 r1 s' x := by
  obtain ⟨A, c, h1, h2⟩ := h.st
  have e : w1.heap[X]? = wx.heap[X]? := k.kb.2 X (blk_lt h1) h.pl.1 (Ne.symm h.row_ne)
  exact h.then_ ⟨k.from_, ⟨A, c, e.trans h1, h2⟩, h.pl, ⟨k.kb.1, fun i hi hn => k.kb.2 i hi (fun e => hn (.inl e)) (fun e => hn (.inr (.inl e)))⟩, k.rn⟩
theorem PX.below (h : PX w0 W wx b X r0 row s x) (hb : Below wx.heap.size wx w1) : PX w0 W w1 b X r0 row s x := by
  have h2 := h.call (h.pr.below hb)
  exact h2
/-- The step turns. -/
theorem PX.put (h : PX w0 W wx b X r0 row s x) (h0 : w1.heap.size = wx.heap.size) (hb : Below w0.heap.size w0 w1) (ho : ∀ i, i ≠ X → w1.heap[i]? = wx.heap[i]?) (hx : ∃ A c, w1.heap[X]? = some (.cells (stc x' (.slice A x'.data.length c)) 48 (0, 0)) ∧ Kd.C (Kd.int .u8) w0 A x'.data.length (Sc.nums x'.data)) : PX w0 W w1 b X r0 row s x' := by
  have hbd := h.pr.bd.kept (w' := w1) (ho b (Ne.symm h.pl.1)) (fun k hk => ho k (fun e => h.row_ne (by rw [hk, e])))
  exact h.then_ ⟨⟨hbd, hb, KeepBut.refl _ _ _, RN.refl _ _⟩, hx, h.pl, ⟨by omega, fun i hi hn => ho i (fun e => hn (.inr (.inr e)))⟩, RN.refl _ _⟩
theorem PX.set (h : PX w0 W wx b X r0 row s x) (j : Nat) (v : Value) (hd : x'.data = x.data) (hc : ∀ dv, (stc x dv).setIfInBounds j v = stc x' dv) : PX w0 W (wx.setCell ⟨X, j, none⟩ v) b X r0 row s x' := by
  obtain ⟨A, c, h1, h2⟩ := h.st
  refine h.put (by simp [World.setCell]) (h.pr.bl.setCell (p := ⟨X, j, none⟩) h.pl.2 v) (fun i hi => Below.heap_setCell wx ⟨X, j, none⟩ v i hi) ⟨A, c, ?_, by rw [hd]; exact h2⟩
  rw [heap_setCell_same wx X j _ _ v h1, hc, hd]
theorem PX.nodata (h : PX w0 W wx b X r0 row s x) : PX w0 W (wx.setCell ⟨X, 10, none⟩ (.slice none 0 0)) b X r0 row s { x with data := [] } := by
  obtain ⟨A, c, h1, h2⟩ := h.st
  refine h.put (by simp [World.setCell]) (h.pr.bl.setCell (p := ⟨X, 10, none⟩) h.pl.2 _) (fun i hi => Below.heap_setCell wx ⟨X, 10, none⟩ _ i hi) ⟨none, 0, ?_, ?_⟩
  · rw [heap_setCell_same wx X 10 _ _ _ h1]; rfl
  · exact ⟨rfl, Nat.zero_le _, fun h => absurd h (Nat.lt_irrefl 0)⟩
end
/-- In the loop over the parts: the iterator in block k at pos. -/
structure PKX (w0 W wr : World) (b X k : Nat) (t : ByteArray) (pos : Nat) (r0 row : Option Nat) (s : TS) (x : St) : Prop where
  le : pos ≤ t.size
  it : wr.heap[k]? = some (.stringIter t pos)
  kk : k ≠ b ∧ k ≠ X ∧ w0.heap.size ≤ k ∧ W.heap.size ≤ k
  px : PX w0 W wr b X r0 row s x
section
variable {w0 W wr w1 : World} {b X k pos : Nat} {t : ByteArray} {r0 r1 row : Option Nat} {s s' : TS} {x x' : St}
theorem PKX.row_ne (h : PKX w0 W wr b X k t pos r0 row s x) : row ≠ some k := by
  intro e
  obtain ⟨_, _, _, cells, h2⟩ := h.px.pr.bd.row_base k e
  rw [h.it] at h2; cases h2
theorem PKX.call (h : PKX w0 W wr b X k t pos r0 row s x) (c : PrS w0 wr w1 b row r1 s') : PKX w0 W w1 b X k t pos r0 r1 s' x :=
  ⟨h.le, (c.kb.2 k (blk_lt h.it) h.kk.1 (Ne.symm h.row_ne)).trans h.it, h.kk, h.px.call c⟩
theorem PKX.below (h : PKX w0 W wr b X k t pos r0 row s x) (hb : Below wr.heap.size wr w1) : PKX w0 W w1 b X k t pos r0 row s x :=
  ⟨h.le, (hb.block k (blk_lt h.it)).trans h.it, h.kk, h.px.below hb⟩
theorem PKX.inner (h : PKX w0 W wr b X k t pos r0 row s x) (c : PX w0 wr w1 b X row r1 s' x') : PKX w0 W w1 b X k t pos r0 r1 s' x' :=
  ⟨h.le, (c.kp.2 k (blk_lt h.it) (fun e => by
    rcases e with e | e | e
    · exact h.kk.1 e
    · exact h.row_ne e.symm
    · exact h.kk.2.1 e)).trans h.it, h.kk, h.px.then_ c⟩
theorem PKX.set (h : PKX w0 W wr b X k t pos r0 row s x) (j : Nat) (v : Value) (hd : x'.data = x.data) (hc : ∀ dv, (stc x dv).setIfInBounds j v = stc x' dv) : PKX w0 W (wr.setCell ⟨X, j, none⟩ v) b X k t pos r0 row s x' :=
  ⟨h.le, (Below.heap_setCell wr ⟨X, j, none⟩ v k h.kk.2.1).trans h.it, h.kk, h.px.set j v hd hc⟩
theorem PKX.nodata (h : PKX w0 W wr b X k t pos r0 row s x) : PKX w0 W (wr.setCell ⟨X, 10, none⟩ (.slice none 0 0)) b X k t pos r0 row s { x with data := [] } :=
  ⟨h.le, (Below.heap_setCell wr ⟨X, 10, none⟩ _ k h.kk.2.1).trans h.it, h.kk, h.px.nodata⟩
theorem PKX.iter (h : PKX w0 W wr b X k t pos r0 row s x) (hp : pos < t.size) : PKX w0 W (wr.iterAt k t (pos + 1)) b X k t (pos + 1) r0 row s x := by
  have hh : ∀ i, i ≠ k → (wr.iterAt k t (pos + 1)).heap[i]? = wr.heap[i]? := fun i hi => Lib.iterAt_other wr k i t (pos + 1) hi
  have hsz : (wr.iterAt k t (pos + 1)).heap.size = wr.heap.size := Lib.iterAt_size wr k t (pos + 1)
  obtain ⟨A, c, h1, h2⟩ := h.px.st
  have hbl := Lib.below_iterAt h.px.pr.bl h.kk.2.2.1 t (pos + 1)
  refine ⟨by omega, Lib.iterAt_heap wr k t pos (pos + 1) h.it, h.kk, ⟨⟨h.px.pr.bd.kept (hh b (Ne.symm h.kk.1)) (fun i hi => hh i (fun e => h.row_ne (by rw [hi, e]))), hbl, KeepBut.refl _ _ _, RN.refl _ _⟩, ⟨A, c, (hh X (Ne.symm h.kk.2.1)).trans h1, h2⟩, h.px.pl, ⟨by rw [hsz]; exact h.px.kp.1, fun i hi hn => (hh i (by have := h.kk.2.2.2; omega)).trans (h.px.kp.2 i hi hn)⟩, h.px.rn⟩⟩
end
end Go.Proofs.YtnbfebjcfhbhiaaDoor.Bw
end
