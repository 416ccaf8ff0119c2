/- texts that the proof needs, laid together by a program of this session. -/
import Derived.Lib.OthersKept
import Derived.Laws.IdiomStrings
import Derived.Laws.Rows
import Derived.Laws.CopyOwn
import Derived.Deep.WholeRow
import Derived.Lib.AppendStr
import Derived.Lib.Builder
import Derived.Lib.UnsafeStr
import Derived.RegionTactic
import Derived.Deep.RegionHeld3
import Derived.Laws.Strings2
import Derived.Laws.BitsAllLaws
import Derived.Lib.LaidTab
import Derived.Test.YtnbfebjcfhbhiaaDoorKScriptParse7
section
namespace Go.Proofs.YtnbfebjcfhbhiaaDoor.Lw
open Go Go.RowKit Go.Proofs.YtnbfebjcfhbhiaaDoor.P Go.Proofs.YtnbfebjcfhbhiaaDoor.Sc Go.Proofs.YtnbfebjcfhbhiaaDoorW.PrintWords Go.Proofs.YtnbfebjcfhbhiaaDoorW.PrintLast Go.Proofs.YtnbfebjcfhbhiaaDoorW.PrintMore
set_option linter.unusedVariables false
set_option linter.unusedSimpArgs false
theorem heap_form : Kd.Heap k153 := Kd.heap_iso _ (Kd.heap_pair Kd.heap_string (Kd.heap_pair Kd.heap_string (Kd.heap_int .i64)))
/-- What the package's variables hold. -/
structure VS (w : World) : Prop where
  err : VR w
  ops : ∃ ad c, w.heap[2]? = some (.cells #[.slice (some ad) opFs.length c] 102 (0, 0)) ∧ opFs.length ≤ c ∧ Kd.C k153 w (some ad) opFs.length opFs
  steps : ∃ ad c, w.heap[1]? = some (.cells #[.slice (some ad) stepFs.length c] 102 (0, 0)) ∧ stepFs.length ≤ c ∧ Kd.C k153 w (some ad) stepFs.length stepFs
theorem VS.below {w0 w : World} (h : VS w0) (hb : Below w0.heap.size w0 w) : VS w := by
  obtain ⟨h1, ⟨a, c, k1, k2, k3⟩, ⟨a', c', k1', k2', k3'⟩⟩ := h
  exact ⟨h1.below hb, ⟨a, c, (hb.block _ (blk_lt k1)).trans k1, k2, Kd.C_below k3 hb⟩, ⟨a', c', (hb.block _ (blk_lt k1')).trans k1', k2', Kd.C_below k3' hb⟩⟩
def partStep (p : Part) (x : St) : Rd St := fun l => match p with
  | .o => (oneP opWs l).bnd fun g l => opGo (opParts g) { x with ok := (g : Int) + 1 } l
  | p => wordP p x l
theorem partGo_cons (p : Part) (ps : List Part) (x : St) (l : By) : partGo (p :: ps) x l = (byteP 32 l).bnd fun _ l => (partStep p x l).bnd fun x l => partGo ps x l := by cases p <;> rfl
theorem opGo_eq : ∀ (ps : List Part) (x : St) (l : By), .o ∉ ps → opGo ps x l = partGo ps x l
  | [], x, l, _ => rfl
  | p :: ps, x, l, h => by
    have h1 : p ≠ .o := fun e => h (by simp [e])
    have ih : ∀ x l, opGo ps x l = partGo ps x l := fun x l => opGo_eq ps x l (fun hh => h (by simp [hh]))
    rw [partGo_cons]
    show (byteP 32 l).bnd (fun _ l => (wordP p x l).bnd fun x l => opGo ps x l) = _
    have : partStep p x = wordP p x := by cases p <;> first | rfl | exact absurd rfl h1
    rw [this]
    simp only [ih]
/-- What a call of 'parts' promises. -/
def PartsC (fm : S153) : Prop := ∀ {w0 : World} {N : Nat} {wx : World} {g b : Nat} {t : ByteArray} {wh : Bool} {r : R Unit} {x : St}, VS w0 → SX w0 N wx wx g b t wh r x →
  Calls Tryd.prog 61 #[.pointer (some ⟨g, 0, none⟩), .pointer (some ⟨b, 0, none⟩), .agg #[.string fm.f0, .string fm.f1, .int .i64 fm.f2]] wx fun e w' => e = .returned (.tuple #[]) ∧ ∃ r' x', SX w0 N wx w' g b t wh r' x' ∧ Pst (partGo ((bs fm.f1).map partOf) x) r x' r'
theorem SX.from_ {w0 W wx : World} {N g b : Nat} {t : ByteArray} {wh : Bool} {r : R Unit} {x : St} (h : SX w0 N W wx g b t wh r x) : SX w0 N wx wx g b t wh r x := ⟨h.ls, h.st, h.pl, KB.refl _ _ _, Nat.le_trans h.nw h.kb.1⟩
theorem SX.then_ {w0 W wx w1 : World} {N g b : Nat} {t : ByteArray} {wh : Bool} {r r' : R Unit} {x x' : St} (h : SX w0 N W wx g b t wh r x) (k : SX w0 N wx w1 g b t wh r' x') : SX w0 N W w1 g b t wh r' x' := ⟨k.ls, k.st, k.pl, h.kb.trans k.kb, h.nw⟩
/-- The state in the loop: the iterator in block k at pos, beside it the step. -/
structure PK (w0 : World) (N : Nat) (wx wr : World) (g b k : Nat) (t : ByteArray) (wh : Bool) (s : ByteArray) (pos : Nat) (r : R Unit) (x : St) : Prop where
  le : pos ≤ s.size
  it : wr.heap[k]? = some (.stringIter s pos)
  kk : wx.heap.size ≤ k ∧ k ≠ g ∧ k ≠ b ∧ w0.heap.size ≤ k
  sx : SX w0 N wx wr g b t wh r x
section
variable {w0 wx wr w1 : World} {N g b k pos : Nat} {t s : ByteArray} {wh : Bool} {r r' : R Unit} {x x' : St}
theorem PK.call (h : PK w0 N wx wr g b k t wh s pos r x) (c : LS w0 wr w1 g t wh r') : PK w0 N wx w1 g b k t wh s pos r' x :=
  ⟨h.le, (c.keep.2 k (blk_lt h.it) h.kk.2.1 (by simp)).trans h.it, h.kk, h.sx.call c⟩
theorem PK.below (h : PK w0 N wx wr g b k t wh s pos r x) (hb : Below wr.heap.size wr w1) : PK w0 N wx w1 g b k t wh s pos r x :=
  ⟨h.le, (hb.block k (blk_lt h.it)).trans h.it, h.kk, h.sx.below hb⟩
theorem PK.set (h : PK w0 N wx wr g b k t wh s pos r x) (j : Nat) (v : Value) (x' : St) (hd : x'.data = x.data) (hc : ∀ dv, (stc x dv).setIfInBounds j v = stc x' dv) : PK w0 N wx (wr.setCell ⟨b, j, none⟩ v) g b k t wh s pos r x' :=
  ⟨h.le, (Below.heap_setCell wr ⟨b, j, none⟩ v k h.kk.2.2.1).trans h.it, h.kk, h.sx.set j v x' hd hc⟩
theorem PK.data (h : PK w0 N wx wr g b k t wh s pos r x) (v : Value) (d : By) (hv : Kd.R (Kd.int .u8) 5 wr N (fun _ => True) v (nums d)) : PK w0 N wx (wr.setCell ⟨b, 10, none⟩ v) g b k t wh s pos r { x with data := d } :=
  ⟨h.le, (Below.heap_setCell wr ⟨b, 10, none⟩ v k h.kk.2.2.1).trans h.it, h.kk, h.sx.data v d hv⟩
theorem PK.inner (h : PK w0 N wx wr g b k t wh s pos r x) (c : SX w0 N wr w1 g b t wh r' x') : PK w0 N wx w1 g b k t wh s pos r' x' :=
  ⟨h.le, (c.kb.2 k (blk_lt h.it) h.kk.2.1 h.kk.2.2.1).trans h.it, h.kk, h.sx.then_ c⟩
theorem PK.iter (h : PK w0 N wx wr g b k t wh s pos r x) (hp : pos < s.size) : PK w0 N wx (wr.iterAt k s (pos + 1)) g b k t wh s (pos + 1) r x := by
  have hh : ∀ i, i ≠ k → (wr.iterAt k s (pos + 1)).heap[i]? = wr.heap[i]? := fun i hi => by
    simp only [World.iterAt, Array.getElem?_setIfInBounds]
    rw [if_neg (fun e => hi e.symm)]
  have hsz : (wr.iterAt k s (pos + 1)).heap.size = wr.heap.size := by simp [World.iterAt]
  have hx := h.sx
  obtain ⟨dv, h1, h2⟩ := hx.st
  have hg := h.kk
  refine ⟨by omega, Lib.iterAt_heap wr k s pos (pos + 1) h.it, h.kk, ?_, ⟨dv, (hh b (Ne.symm hg.2.2.1)).trans h1, ?_⟩, hx.pl, ?_, hx.nw⟩
  · obtain ⟨a, bd, k1, k2, k3, k4, k5⟩ := hx.ls
    refine ⟨a, bd, ⟨(hh g (Ne.symm hg.2.1)).trans k1.1, k1.2⟩, k2, ?_, KeepBut.refl _ _ _, k5⟩
    have hkl := hg.2.2.2
    exact ⟨k3.os, k3.tape, k3.output, by rw [hsz]; exact k3.size, fun i hi => (hh i (by omega)).trans (k3.block i hi)⟩
  · refine Kd.R_mono (Kd.R_step (Kd.R_bound h2) (fun i hi hlt => hh i (fun e => ?_))) (fun _ _ => trivial)
    obtain ⟨q, _, cells, hc⟩ := hi.2.2.2
    rw [e, h.it] at hc
    cases hc
  · exact ⟨by rw [hsz]; exact hx.kb.1, fun i hi hig hib => (hh i (by omega)).trans (hx.kb.2 i hi hig hib)⟩
end
theorem cont_step {p : Part} {ps : List Part} {r1 r2 r3 r' : R Unit} {x1 x3 x' : St} (h1 : Pst (byteP 32) r1 () r2) (h2 : Pst (partStep p x1) r2 x3 r3) (h3 : Pst (partGo ps x3) r3 x' r') : Pst (partGo (p :: ps) x1) r1 x' r' := by
  have h := h1.bnd (q := fun _ l => (partStep p x1 l).bnd fun x l => partGo ps x l) (h2.bnd (q := fun x l => partGo ps x l) h3)
  have e : (fun l => (byteP 32 l).bnd fun _ l => (partStep p x1 l).bnd fun x l => partGo ps x l) = partGo (p :: ps) x1 := by funext l; rw [partGo_cons]
  rw [← e]; exact h
theorem step_num {p : Part} {r2 r3 : R Unit} {x : St} {v : Int} (h0 : p ≠ .d ∧ p ≠ .k ∧ p ≠ .o) (h : Pst numP r2 v r3) : Pst (partStep p x) r2 (x.set p v) r3 := by
  have h1 := h.bnd (q := fun v l => R.good (x.set p v) l) (Pst.ret (x.set p v) r3)
  have e : (fun l => (numP l).bnd fun v l => R.good (x.set p v) l) = partStep p x := by
    funext l
    cases p <;> first | rfl | exact absurd rfl h0.1 | exact absurd rfl h0.2.1 | exact absurd rfl h0.2.2
  rw [← e]; exact h1
theorem step_d {r2 r3 : R Unit} {x : St} {d : By} (h : Pst textP r2 d r3) : Pst (partStep .d x) r2 { x with data := d } r3 := by
  have h1 := h.bnd (q := fun d l => R.good ({ x with data := d } : St) l) (Pst.ret ({ x with data := d } : St) r3)
  exact h1
theorem step_k {r2 r3 : R Unit} {x : St} {d : By} (h : Pst textP r2 d r3) : Pst (partStep .k x) r2 { x with name := d } r3 := by
  have h1 := h.bnd (q := fun d l => R.good ({ x with name := d } : St) l) (Pst.ret ({ x with name := d } : St) r3)
  exact h1
theorem set_cell {p : Part} (h0 : p ≠ .d ∧ p ≠ .k ∧ p ≠ .o) (x : St) (v : Int) : (x.set p v).data = x.data ∧ (∀ dv, (stc x dv).setIfInBounds (cellOf p) (.int .i64 v) = stc (x.set p v) dv) ∧ ∀ dv, ∃ u, (stc x dv)[cellOf p]? = some u := by
  cases p <;> first | exact ⟨rfl, fun _ => rfl, fun _ => ⟨_, rfl⟩⟩ | exact absurd rfl h0.1 | exact absurd rfl h0.2.1 | exact absurd rfl h0.2.2
theorem step_o {r2 r3 r4 : R Unit} {x x4 : St} {fx : S153} (h1 : OnePost opFs 0 0 r2 fx r3) (h2 : Pst (partGo ((bs fx.f1).map partOf) { x with ok := fx.f2 }) r3 x4 r4) : Pst (partStep .o x) r2 x4 r4 := by
  unfold OnePost at h1
  cases r2 with
  | bad l =>
    obtain ⟨rfl, _⟩ := h1
    exact h2
  | good u l =>
    simp only [List.drop_zero, opFs_ws] at h1
    unfold Pst partStep
    simp only [oneP]
    cases hw : oneFrom opWs 0 0 l with
    | bad l' =>
      rw [hw] at h1
      obtain ⟨rfl, _⟩ := h1
      exact h2
    | good j l' =>
      rw [hw] at h1
      obtain ⟨hj, rfl⟩ := h1
      obtain ⟨e1, e2, _, e4⟩ := opFs_parts j fx hj
      rw [e1, e2] at h2
      simp only [R.bnd_good]
      rw [opGo_eq _ _ _ e4]
      exact h2
theorem fx_parts {r2 r3 : R Unit} {fx : S153} (h1 : OnePost opFs 0 0 r2 fx r3) (h : (∀ (i : Nat) x, opFs[i]? = some x → PartsC x) ∧ PartsC zf) : PartsC fx := by
  unfold OnePost at h1
  cases r2 with
  | bad l => rw [h1.2]; exact h.2
  | good u l =>
    simp only [List.drop_zero, opFs_ws] at h1
    cases hw : oneFrom opWs 0 0 l with
    | bad l' => rw [hw] at h1; rw [h1.2]; exact h.2
    | good j l' => rw [hw] at h1; exact h.1 j fx h1.1
/-- bytes to a string. -/
theorem conv_row {w : World} {base : Nat} {ok : Nat → Prop} {v : Value} {d : By} (h : Kd.R (Kd.int .u8) 5 w base ok v (Sc.nums d)) : (convert 46 9 v).run Tryd.prog w = .ok (.string (sb d)) w := by
  obtain ⟨A, c, rfl, hc, hC⟩ := Kd.R_reads h
  have hl : (Sc.nums d).length = d.length := by simp [Sc.nums]
  have hC2 := hC
  rw [hl] at hc hC ⊢
  cases d with
  | nil =>
    cases A with
    | none =>
      rw [show ([] : By).length = 0 from rfl, run_convert_bytes_string w 46 9 5 none 0 c Tryd.underlying46 Tryd.underlying5 Tryd.underlying9]
      simp [Conv.bytesToString, loadCells, Sem.run, sb]
      rfl
    | some ad => exact run_convert_bytes_back w _ _ 5 ad c [] Tryd.underlying46 Tryd.underlying5 Tryd.underlying9 (fun j hj => by simp at hj)
  | cons x d =>
    obtain ⟨ad, hA, _⟩ := Kd.at_int hC2 0 (by omega) (by rw [hl]; simp)
    subst hA
    refine run_convert_bytes_back w _ _ 5 ad c (x :: d) Tryd.underlying46 Tryd.underlying5 Tryd.underlying9 (fun j hj => ?_)
    obtain ⟨ad2, hA2, hcell⟩ := Kd.at_int hC2 (j : Int) (by omega) (by rw [hl]; omega)
    obtain rfl := Option.some.inj hA2
    rw [Int.toNat_natCast] at hcell
    rw [hcell]
    congr 2
    unfold rd Sc.nums
    rw [Int.toNat_natCast, List.getD_eq_getElem?_getD, List.getElem?_map, List.getElem?_eq_getElem hj]
    rfl
/-- The same, and what is still to be read. -/
def PL (w0 : World) (N : Nat) (wx wr : World) (g b k : Nat) (t : ByteArray) (wh : Bool) (s : ByteArray) (r0 : R Unit) (x0 : St) (pos : Nat) : Prop :=
  ∃ r x, PK w0 N wx wr g b k t wh s pos r x ∧ ∀ r' x', Pst (partGo (((bs s).map partOf).drop pos) x) r x' r' → Pst (partGo ((bs s).map partOf) x0) r0 x' r'
set_option maxHeartbeats 8000000 in
set_option maxRecDepth 100000 in
theorem parts_gen (fm : S153) (hasc : ∀ c ∈ bs fm.f1, c.toNat < 128) (hrec : .o ∈ (bs fm.f1).map partOf → (∀ (i : Nat) x, opFs[i]? = some x → PartsC x) ∧ PartsC zf) : PartsC fm := by
  intro w0 N wx g b t wh r x hV hS
  have HV := Aside0.mk hV
  have HA := Aside0.mk hasc
  have HRC := Aside0.mk hrec
  have hgb : g < wx.heap.size ∧ b < wx.heap.size := by
    obtain ⟨_, _, hk, _⟩ := hS.ls.blk
    obtain ⟨dv, hk2, _⟩ := hS.st
    exact ⟨blk_lt hk, blk_lt hk2⟩
  obtain ⟨s, hs⟩ : ∃ s, fm.f1 = s := ⟨_, rfl⟩
  have HS : Aside0 (PL w0 N wx ((wx.alloc (.cells #[.string fm.f0, .string s, .int .i64 fm.f2] 153 (0, 0))).iter s 0) g b (wx.heap.size + 1) t wh s r x 0) := ⟨by
    have hsz := hS.ls.bel.size
    refine ⟨r, x, ⟨Nat.zero_le _, ?_, ⟨by omega, by omega, by omega, by omega⟩, (hS.below ?_)⟩, fun r' x' h => by simpa using h⟩
    · have h5 := World.iter_heap (wx.alloc (.cells #[.string fm.f0, .string s, .int .i64 fm.f2] 153 (0, 0))) s 0
      simpa using h5
    · exact ((Below.refl _ wx).alloc (Nat.le_refl _) _).alloc (by simp) _⟩
  rw [hs] at HA HRC ⊢
  clear hV hS hasc hrec hs hgb
  go_enter Tryd.func61, Tryd.ntmps61
  go_wp2_with fail
  go_loopw [7, 8] (fun _ _ wr => Aside0 (∃ pos, PL w0 N wx wr g b (wx.heap.size + 1) t wh s r x pos)) (fun _ _ wr => s.size - wr.iterPos (wx.heap.size + 1))
  case atStart => exact ⟨0, HS.out⟩
  case round =>
    obtain ⟨pos, r1, x1, hK, hC⟩ := hrel.out
    have HK := Aside0.mk hK
    have HC := Aside0.mk hC
    have hmu : wr.iterPos (wx.heap.size + 1) = pos := by simp [World.iterPos, hK.it]
    have HMU := Aside0.mk hmu
    clear hrel HS
    by_cases hp : pos < s.size
    · have h128 : (s[pos]'hp).toNat < 128 := by
        have := HA.out (s[pos]'hp) (by unfold bs; exact Array.mem_toList_iff.2 (Array.getElem_mem _))
        exact this
      have hnext : ∀ ty, (Instr.next (.pointer (some ⟨wx.heap.size + 1, 0, none⟩)) true ty).run Tryd.prog wr = _ := fun ty => Lib.run_next_ascii_at wr (wx.heap.size + 1) s pos ty hK.it hp h128
      have HX := Aside0.mk (hK.iter hp)
      have hnp : (wr.iterAt (wx.heap.size + 1) s (pos + 1)).iterPos (wx.heap.size + 1) = pos + 1 := by simp [World.iterPos, HX.out.it]
      obtain ⟨c, hc⟩ : ∃ c, s[pos]'hp = c := ⟨_, rfl⟩
      have HDR : Aside0 (((bs s).map partOf).drop pos = partOf c :: ((bs s).map partOf).drop (pos + 1)) := ⟨by
        have hl : pos < ((bs s).map partOf).length := by rw [List.length_map, bs_len]; exact hp
        rw [List.drop_eq_getElem_cons hl]
        congr 1
        rw [List.getElem_map, ← hc]; rfl⟩
      have HMEM : Aside0 (c ∈ bs s) := ⟨by rw [← hc]; unfold bs; exact Array.mem_toList_iff.2 (Array.getElem_mem _)⟩
      rw [hc] at hnext
      have HP := Aside0.mk hp
      clear hnp hK hC hmu hc h128 hp HK
      generalize wr.iterAt (wx.heap.size + 1) s (pos + 1) = W1 at hnext HX
      go_upto_region 5 with (go_at_call 62; refine (blank_calls HX.out.sx.ls).mono ?_; rintro e w2 ⟨rfl, r2, h2, hP⟩; have HP2 := Aside0.mk hP; have n0_ := Aside0.mk (HX.out.call h2); clear HX h2 hP hnext; have HX := n0_; clear n0_)
      obtain ⟨n, hn⟩ : ∃ n, c.toNat = n := ⟨_, rfl⟩
      have HN := Aside0.mk hn
      by_cases h111 : n = 111
      · subst h111
        have hd : partOf c = .o := by unfold partOf; rw [hn]; rfl
        have HD := Aside0.mk hd
        have HR2 := Aside0.mk (HRC.out (by rw [← hd]; exact List.mem_map.2 ⟨c, HMEM.out, rfl⟩))
        obtain ⟨ao, co, ko, hoc, hoC⟩ := (HV.out.below HX.out.sx.ls.bel).ops
        have q2 : w2.cell? ⟨2, 0, none⟩ = some (.slice (some ao) opFs.length co) := (blk_cell ko 0).trans rfl
        have HOC : Aside0 (opFs.length ≤ co ∧ ∀ W', KeepBut w2 W' g none → Kd.C k153 W' (some ao) opFs.length opFs) := ⟨⟨hoc, by
          obtain ⟨ao', co', ko', hoc', hoC'⟩ := HV.out.ops
          have e := (HX.out.sx.ls.bel.block _ (blk_lt ko')).trans ko'
          rw [ko] at e
          obtain ⟨rfl, rfl⟩ : ao = ao' ∧ co = co' := by simpa using e
          obtain ⟨_, _, _, _, hgN⟩ := HX.out.sx.ls.blk
          exact Kd.C_foot_came heap_form hoC' HX.out.sx.ls.bel hgN⟩⟩
        rw [hn]
        clear hd ko hoc hoC
        go_upto_region 9 with (go_at_call 60; refine (one_calls HX.out.sx.ls (some ao) co opFs (by decide) HOC.out.2 HOC.out.1).mono ?_; rintro e w3 ⟨fx, r3, rfl, h3, hP⟩; have HP3 := Aside0.mk hP; have n0_ := Aside0.mk (HX.out.call h3); clear HX h3 hP q2; have HX := n0_; clear n0_)
        have q8 : ∃ w4, w4 = w3.alloc (.cells #[.string fx.f0, .string fx.f1, .int .i64 fx.f2] 153 (0, 0)) ∧ w4.heap[w3.heap.size]? = some (.cells #[.string fx.f0, .string fx.f1, .int .i64 fx.f2] 153 (0, 0)) ∧ Below w3.heap.size w3 w4 := ⟨_, rfl, heap_alloc_new w3 _, (Below.refl _ _).alloc (Nat.le_refl _) _⟩
        obtain ⟨w4, e4, hbx, hb4⟩ := q8
        rw [← e4]
        have HBX := Aside0.mk hbx
        have HX4 := Aside0.mk (HX.out.below hb4)
        have HS4 := Aside0.mk (HX4.out.set 4 (.int .i64 fx.f2) { x1 with ok := fx.f2 } rfl (fun _ => rfl))
        have hne : w3.heap.size ≠ b := by
          obtain ⟨dv, h1, _⟩ := HX.out.sx.st
          have := blk_lt h1; omega
        have HB5 : Aside0 ((w4.setCell ⟨b, 4, none⟩ (.int .i64 fx.f2)).heap[w3.heap.size]? = some (.cells #[.string fx.f0, .string fx.f1, .int .i64 fx.f2] 153 (0, 0))) := ⟨(Below.heap_setCell w4 ⟨b, 4, none⟩ _ _ hne).trans hbx⟩
        obtain ⟨dv, hbk, _⟩ := HX4.out.sx.st
        have p0 : w4.cell? ⟨w3.heap.size, 2, none⟩ = some (.int .i64 fx.f2) := (blk_cell hbx 2).trans rfl
        have p1 := (blk_cell hbk 4).trans rfl
        have p2 := blk_frozen hbk 4
        have p5 : (w4.setCell ⟨b, 4, none⟩ (.int .i64 fx.f2)).cell? ⟨w3.heap.size, 0, none⟩ = some (.string fx.f0) := (blk_cell HB5.out 0).trans rfl
        have p6 : (w4.setCell ⟨b, 4, none⟩ (.int .i64 fx.f2)).cell? ⟨w3.heap.size, 1, none⟩ = some (.string fx.f1) := (blk_cell HB5.out 1).trans rfl
        have p7 : (w4.setCell ⟨b, 4, none⟩ (.int .i64 fx.f2)).cell? ⟨w3.heap.size, 2, none⟩ = some (.int .i64 fx.f2) := (blk_cell HB5.out 2).trans rfl
        clear e4 hbx hb4 hne hbk HX
        go_wp2_with (go_at_call 61; refine (fx_parts HP3.out HR2.out HV.out HS4.out.sx.from_).mono ?_; rintro e w5 ⟨rfl, r4, x4, h4, hP⟩; have HP4 := Aside0.mk hP; have HX := Aside0.mk (HS4.out.inner h4); clear h4 hP)
        go_roundw
        case rel => exact ⟨pos + 1, r4, x4, HX.out, fun r' x' h => HC.out r' x' (by rw [HDR.out, HD.out]; exact cont_step HP2.out (step_o HP3.out HP4.out) h)⟩
        case measure =>
          have hh : w5.iterPos (wx.heap.size + 1) = pos + 1 := by simp [World.iterPos, HX.out.it]
          rw [hh, HMU.out]; have := HP.out; omega
      by_cases h107 : n = 107
      · subst h107
        have hd : partOf c = .k := by unfold partOf; rw [hn]; rfl
        have HD := Aside0.mk hd
        rw [hn]
        clear h111 hd
        go_wp2_with (go_at_call 86; refine (bytes_calls HX.out.sx.ls).mono ?_; rintro e w3 ⟨v, d, r3, rfl, hR, h3, hP⟩; have hcv := conv_row hR; obtain ⟨Ad, cd, rfl⟩ := Kd.R_slice hR; have HP3 := Aside0.mk hP; have n0_ := Aside0.mk (HX.out.call h3); clear HX h3 hP hR; have HX := n0_; clear n0_; obtain ⟨dv, hbk, _⟩ := HX.out.sx.st; have p1 := (blk_cell hbk 5).trans rfl; have p2 := blk_frozen hbk 5; clear hbk)
        go_roundw
        case rel => exact ⟨pos + 1, r3, { x1 with name := d }, HX.out.set 5 _ _ rfl (fun _ => rfl), fun r' x' h => HC.out r' x' (by rw [HDR.out, HD.out]; exact cont_step HP2.out (step_k HP3.out) h)⟩
        case measure =>
          have := (HX.out.set 5 (.string (sb d)) { x1 with name := d } rfl (fun _ => rfl)).it
          have hh : (w3.setCell ⟨b, 5, none⟩ (.string (sb d))).iterPos (wx.heap.size + 1) = pos + 1 := by simp [World.iterPos, this]
          rw [hh, HMU.out]; have := HP.out; omega
      by_cases h100 : n = 100
      · subst h100
        have hd : partOf c = .d := by unfold partOf; rw [hn]; rfl
        have HD := Aside0.mk hd
        rw [hn]
        clear h111 h107 hd
        go_wp2_with (go_at_call 86; refine (bytes_calls HX.out.sx.ls).mono ?_; rintro e w3 ⟨v, d, r3, rfl, hR, h3, hP⟩; obtain ⟨Ad, cd, rfl⟩ := Kd.R_slice hR; have HP3 := Aside0.mk hP; have HR : Aside0 (Kd.R (Kd.int .u8) 5 w3 N (fun _ => True) (.slice Ad (nums d).length cd) (nums d)) := ⟨Kd.R_lower hR (Nat.le_trans HX.out.sx.nw HX.out.sx.kb.1)⟩; have n0_ := Aside0.mk (HX.out.call h3); clear HX h3 hP hR; have HX := n0_; clear n0_; obtain ⟨dv, hbk, _⟩ := HX.out.sx.st; have p1 := (blk_cell hbk 10).trans rfl; have p2 := blk_frozen hbk 10; clear hbk)
        go_roundw
        case rel => exact ⟨pos + 1, r3, _, HX.out.data _ d HR.out, fun r' x' h => HC.out r' x' (by rw [HDR.out, HD.out]; exact cont_step HP2.out (step_d HP3.out) h)⟩
        case measure =>
          have := (HX.out.data _ d HR.out).it
          have hh : (w3.setCell ⟨b, 10, none⟩ (.slice Ad (nums d).length cd)).iterPos (wx.heap.size + 1) = pos + 1 := by simp [World.iterPos, this]
          rw [hh, HMU.out]; have := HP.out; omega
      · have hp0 : partOf c ≠ .d ∧ partOf c ≠ .k ∧ partOf c ≠ .o := by
          unfold partOf; rw [hn]
          refine ⟨?_, ?_, ?_⟩ <;> (repeat' split) <;> simp_all
        have HP0 := Aside0.mk hp0
        have e1 : ((n : Int) == 111) = false := by simp; omega
        have e2 : ((n : Int) == 107) = false := by simp; omega
        have e3 : ((n : Int) == 100) = false := by simp; omega
        rw [hn]
        obtain ⟨q, hq⟩ : ∃ q, partOf c = q := ⟨_, rfl⟩
        have HQ := Aside0.mk hq
        clear h111 h107 h100 hp0 hq hn
        go_wp2_with (first
          | (go_at_call 57; rw [← HN.out]; refine (field_calls _ b c).mono ?_; rintro e w3 ⟨rfl, hb⟩; rw [HQ.out]; have n0_ := Aside0.mk (HX.out.below hb); clear HX hb; have HX := n0_; clear n0_)
          | (go_at_call 63; refine (number_calls HX.out.sx.ls HV.out.err).mono ?_; rintro e w4 ⟨v, r3, rfl, h3, hP⟩; have HP3 := Aside0.mk hP; have n0_ := Aside0.mk (HX.out.call h3); clear HX h3 hP; have HX := n0_; clear n0_; have HSC := Aside0.mk (set_cell (HQ.out ▸ HP0.out) x1 v); obtain ⟨dv, hbk, _⟩ := HX.out.sx.st; obtain ⟨u, hu⟩ := HSC.out.2.2 dv; have p1 := (blk_cell hbk (cellOf q)).trans hu; have p2 := blk_frozen hbk (cellOf q); clear hbk hu))
        go_roundw
        case rel => exact ⟨pos + 1, r3, _, HX.out.set (cellOf q) _ (x1.set q v) HSC.out.1 HSC.out.2.1, fun r' x' h => HC.out r' x' (by rw [HDR.out, HQ.out]; exact cont_step HP2.out (step_num (HQ.out ▸ HP0.out) HP3.out) h)⟩
        case measure =>
          have := (HX.out.set (cellOf q) (.int .i64 v) (x1.set q v) HSC.out.1 HSC.out.2.1).it
          have hh : (w4.setCell ⟨b, cellOf q, none⟩ (.int .i64 v)).iterPos (wx.heap.size + 1) = pos + 1 := by simp [World.iterPos, this]
          rw [hh, HMU.out]; have := HP.out; omega
    · have hnext : ∀ ty, (Instr.next (.pointer (some ⟨wx.heap.size + 1, 0, none⟩)) true ty).run Tryd.prog wr = _ := fun ty => Lib.run_next_end_at wr (wx.heap.size + 1) s pos ty hK.it hp
      have HE : Aside0 (((bs s).map partOf).drop pos = []) := ⟨List.drop_eq_nil_of_le (by rw [List.length_map, bs_len]; omega)⟩
      clear hK hC hmu
      go_wp2_with fail
      first | go_end0 | ((try simp only [Exit.inBlock, Exit.then]); refine bodyPost_ret (results_none rfl _ _ _) rfl ?_)
      refine ⟨rfl, r1, x1, HK.out.sx, HC.out r1 x1 ?_⟩
      rw [HE.out]
      exact Pst.ret x1 r1
end Go.Proofs.YtnbfebjcfhbhiaaDoor.Lw
end
section
namespace Go.Proofs.YtnbfebjcfhbhiaaDoor.Lw
open Go Go.RowKit Go.Proofs.YtnbfebjcfhbhiaaDoor.P Go.Proofs.YtnbfebjcfhbhiaaDoor.Sc Go.Proofs.YtnbfebjcfhbhiaaDoorW.PrintWords Go.Proofs.YtnbfebjcfhbhiaaDoorW.PrintLast Go.Proofs.YtnbfebjcfhbhiaaDoorW.PrintMore
set_option linter.unusedVariables false
set_option linter.unusedSimpArgs false
theorem parts_zf : PartsC zf := parts_gen zf (fun c h => by simp [zf, bs] at h) (fun h => by simp [zf, bs] at h)
theorem parts_op (i : Nat) (x : S153) (h : opFs[i]? = some x) : PartsC x := parts_gen x (opFs_parts i x h).2.2.1 (fun hh => absurd (by rw [(opFs_parts i x h).1] at hh; exact hh) (opFs_parts i x h).2.2.2)
theorem parts_step (i : Nat) (x : S153) (h : stepFs[i]? = some x) : PartsC x := parts_gen x (stepFs_parts i x h).2.2 (fun _ => ⟨parts_op, parts_zf⟩)
theorem step_law {r2 r3 r4 : R Unit} {x4 : St} {fx : S153} (h1 : OnePost stepFs 0 0 r2 fx r3) (h2 : Pst (partGo ((bs fx.f1).map partOf) (st0 fx.f2)) r3 x4 r4) : Pst stepP r2 x4 r4 := by
  unfold OnePost at h1
  cases r2 with
  | bad l =>
    obtain ⟨rfl, _⟩ := h1
    exact h2
  | good u l =>
    simp only [List.drop_zero, stepFs_ws] at h1
    unfold Pst stepP
    simp only [oneP]
    cases hw : oneFrom stepWs 0 0 l with
    | bad l' =>
      rw [hw] at h1
      obtain ⟨rfl, _⟩ := h1
      exact h2
    | good j l' =>
      rw [hw] at h1
      obtain ⟨hj, rfl⟩ := h1
      obtain ⟨e1, e2, _⟩ := stepFs_parts j fx hj
      rw [e1, e2] at h2
      simp only [R.bnd_good]
      exact h2
theorem fx_step {r2 r3 : R Unit} {fx : S153} (h1 : OnePost stepFs 0 0 r2 fx r3) : PartsC fx := by
  unfold OnePost at h1
  cases r2 with
  | bad l => rw [h1.2]; exact parts_zf
  | good u l =>
    simp only [List.drop_zero, stepFs_ws] at h1
    cases hw : oneFrom stepWs 0 0 l with
    | bad l' => rw [hw] at h1; rw [h1.2]; exact parts_zf
    | good j l' => rw [hw] at h1; exact parts_step j fx h1.1
/-- How a line ends. -/
def EndP (t : ByteArray) (wh : Bool) (r : R Unit) (at' : Int) (bad' : Bool) : Prop := match r with
  | .good _ [] => if wh = true then bad' = false else bad' = true ∧ at' = (t.size : Int)
  | .good _ (c :: l) => bad' = true ∧ at' = (t.size : Int) - ((c :: l).length : Int)
  | .bad l => bad' = true ∧ at' = (t.size : Int) - (l.length : Int)
theorem ends_calls {w0 W wx : World} {g : Nat} {t : ByteArray} {wh : Bool} {r : R Unit} (h : LS w0 W wx g t wh r) :
    Calls Tryd.prog 37 #[.pointer (some ⟨g, 0, none⟩)] wx fun e w' => e = .returned (.tuple #[]) ∧ ∃ at' bad', IsS109 w0 w' g t at' wh bad' ∧ Below w0.heap.size w0 w' ∧ KeepBut wx w' g none ∧ EndP t wh r at' bad' := by
  obtain ⟨a, b, h1, h2, h3, h4, h5⟩ := h
  obtain ⟨at', bad', hf, hE⟩ := ends_f t r a wh b h2 (by omega)
  refine (script_line_ends.calls g t a wh b _ _ _ _ w0 wx h1 h3 hf).mono ?_
  rintro e w' ⟨he, k1, k2, k3⟩
  refine ⟨he, at', bad', k1, k2, k3, ?_⟩
  match r, h2, hE with
  | .good _ [], _, hE => exact hE
  | .good _ (c :: l), _, hE => exact hE
  | .bad l, _, hE => exact hE
/-- What a line's reader and its end say. -/
def LineP {α : Type} (p : Rd α) (t : ByteArray) (wh : Bool) (x : α) (at' : Int) (bad' : Bool) : Prop := match lineE p (bs t) wh with
  | .ok y => bad' = false ∧ x = y
  | .error k => bad' = true ∧ at' = (k : Int)
theorem line_end {α : Type} {p : Rd α} {t : ByteArray} {wh : Bool} {x : α} {r' : R Unit} {u : Unit} {at' : Int} {bad' : Bool} (hl : (left r').length ≤ t.size) (hP : Pst p (.good u (bs t)) x r') (hE : EndP t wh r' at' bad') : LineP p t wh x at' bad' := by
  have hb := bs_len t
  unfold LineP lineE
  unfold Pst at hP
  simp only at hP
  cases hp : p (bs t) with
  | bad l =>
    rw [hp] at hP
    obtain rfl := hP
    simp only [EndP, left] at hE hl ⊢
    exact ⟨hE.1, by omega⟩
  | good y l =>
    rw [hp] at hP
    obtain ⟨rfl, rfl⟩ := hP
    cases l with
    | nil =>
      simp only [EndP] at hE ⊢
      cases wh with
      | true => simpa using hE
      | false => simp at hE ⊢; exact ⟨hE.1, by omega⟩
    | cons c l =>
      simp only [EndP, left] at hE hl ⊢
      exact ⟨hE.1, by omega⟩
theorem setRow_blk {w : World} {g : Nat} {t : TypeId} {old : Array Value} (h : w.heap[g]? = some (.cells old t (0, 0))) (cs : Array Value) : (w.setRow g cs).heap[g]? = some (.cells cs t (0, 0)) := by
  simp [World.setRow, Array.getElem?_modify, h]
theorem setRow_far {w : World} {g k : Nat} (h : k ≠ g) (cs : Array Value) : (w.setRow g cs).heap[k]? = w.heap[k]? := by
  simp [World.setRow, Array.getElem?_modify, Ne.symm h]
theorem inf48 : (Tryd.prog.info? 48).map (·.size) = some 11 := by kernel_rfl
theorem stc_one (x : St) (A : Option Addr) (n c : Nat) : (stc x (.slice A n c)).all (·.oneCell') = true := by simp [stc, Value.oneCell']
set_option maxHeartbeats 8000000 in
set_option maxRecDepth 100000 in
theorem step_calls {w0 W wx : World} {g : Nat} {t : ByteArray} {wh : Bool} {r : R Unit} (hV : VS w0) (h : LS w0 W wx g t wh r) :
    Calls Tryd.prog 38 #[.pointer (some ⟨g, 0, none⟩)] wx fun e w' => ∃ x A c at' bad' r', e = .returned (.agg (stc x (.slice A x.data.length c))) ∧ Kd.R (Kd.int .u8) 5 w' wx.heap.size (fun _ => True) (.slice A x.data.length c) (nums x.data) ∧ IsS109 w0 w' g t at' wh bad' ∧ Below w0.heap.size w0 w' ∧ KeepBut wx w' g none ∧ Pst stepP r x r' ∧ EndP t wh r' at' bad' ∧ (left r').length ≤ t.size := by
  have HV := Aside0.mk hV
  have hu48 := Tryd.underlying48
  obtain ⟨wa, hwa⟩ : ∃ wa, wa = wx.alloc (.cells (stc (st0 0) (.slice none 0 0)) 48 (0, 0)) := ⟨_, rfl⟩
  have HWA := Aside0.mk hwa
  have HA : Aside0 (Below wx.heap.size wx wa ∧ wa.heap[wx.heap.size]? = some (.cells (stc (st0 0) (.slice none 0 0)) 48 (0, 0)) ∧ wa.heap.size = wx.heap.size + 1) := ⟨by rw [hwa]; exact ⟨(Below.refl _ _).alloc (Nat.le_refl _) _, heap_alloc_new wx _, by simp⟩⟩
  have HX := Aside0.mk (h.below HA.out.1).from_
  have HG : Aside0 (g < wx.heap.size ∧ w0.heap.size ≤ g) := ⟨by obtain ⟨_, _, hk, _, hg⟩ := h.blk; exact ⟨blk_lt hk, hg⟩⟩
  obtain ⟨ao, co, ko, hoc, hoC⟩ := (HV.out.below HX.out.bel).steps
  have q2 : wa.cell? ⟨1, 0, none⟩ = some (.slice (some ao) stepFs.length co) := (blk_cell ko 0).trans rfl
  have HOC : Aside0 (stepFs.length ≤ co ∧ ∀ W', KeepBut wa W' g none → Kd.C k153 W' (some ao) stepFs.length stepFs) := ⟨⟨hoc, by
    obtain ⟨ao', co', ko', hoc', hoC'⟩ := HV.out.steps
    have e := (HX.out.bel.block _ (blk_lt ko')).trans ko'
    rw [ko] at e
    obtain ⟨rfl, rfl⟩ : ao = ao' ∧ co = co' := by simpa using e
    exact Kd.C_foot_came heap_form hoC' HX.out.bel HG.out.2⟩⟩
  clear hV h hwa ko hoc hoC
  go_enter Tryd.func38, Tryd.ntmps38
  go_upto_region 1 with fail
  rw [show ((#[.int .i64 0, .int .i64 0, .int .i64 0, .int .i64 0, .int .i64 0, .string ⟨#[]⟩, .int .i64 0, .int .i64 0, .int .i64 0, .int .i64 0, .slice none 0 0] : Array Value)) = stc (st0 0) (.slice none 0 0) from rfl, ← HWA.out]
  go_upto_region 2 with (go_at_call 60; refine (one_calls HX.out (some ao) co stepFs (by decide) HOC.out.2 HOC.out.1).mono ?_; rintro e w1 ⟨fx, r1, rfl, h1, hP⟩; have HP1 := Aside0.mk hP; have HX1 := Aside0.mk h1; clear h1 hP q2)
  obtain ⟨w2, e2, hbx, hb2⟩ : ∃ w2, w2 = w1.alloc (.cells #[.string fx.f0, .string fx.f1, .int .i64 fx.f2] 153 (0, 0)) ∧ w2.heap[w1.heap.size]? = some (.cells #[.string fx.f0, .string fx.f1, .int .i64 fx.f2] 153 (0, 0)) ∧ Below w1.heap.size w1 w2 := ⟨_, rfl, heap_alloc_new w1 _, (Below.refl _ _).alloc (Nat.le_refl _) _⟩
  rw [← e2]
  have p0 : w2.cell? ⟨w1.heap.size, 2, none⟩ = some (.int .i64 fx.f2) := (blk_cell hbx 2).trans rfl
  have HBX := Aside0.mk hbx
  have HX2 := Aside0.mk (HX1.out.below hb2)
  have H2 : Aside0 (w2.heap[wx.heap.size]? = some (.cells (stc (st0 0) (.slice none 0 0)) 48 (0, 0)) ∧ wa.heap.size ≤ w1.heap.size ∧ w1.heap.size < w2.heap.size) := ⟨by
    have k1 := HX1.out.keep
    have k2 := HG.out.1
    have h0 : w1.heap[wx.heap.size]? = some (.cells (stc (st0 0) (.slice none 0 0)) 48 (0, 0)) := (k1.2 _ (blk_lt HA.out.2.1) (by omega) (by simp)).trans HA.out.2.1
    exact ⟨(hb2.block _ (blk_lt h0)).trans h0, k1.1, blk_lt hbx⟩⟩
  clear e2 hbx hb2
  go_upto_region 3 with fail
  obtain ⟨w3, e3, hst, hb3⟩ : ∃ w3, w3 = w2.alloc (.cells (stc (st0 fx.f2) (.slice none 0 0)) 48 (0, 0)) ∧ w3.heap[w2.heap.size]? = some (.cells (stc (st0 fx.f2) (.slice none 0 0)) 48 (0, 0)) ∧ Below w2.heap.size w2 w3 ∧ w2.heap.size < w3.heap.size := ⟨_, rfl, heap_alloc_new w2 _, (Below.refl _ _).alloc (Nat.le_refl _) _, by simp⟩
  have h3b := (HX2.out.below hb3.1).from_
  have HBX3 : Aside0 (w3.heap[w1.heap.size]? = some (.cells #[.string fx.f0, .string fx.f1, .int .i64 fx.f2] 153 (0, 0)) ∧ w3.heap[wx.heap.size]? = some (.cells (stc (st0 0) (.slice none 0 0)) 48 (0, 0))) := ⟨⟨(hb3.1.block _ (blk_lt HBX.out)).trans HBX.out, (hb3.1.block _ (blk_lt H2.out.1)).trans H2.out.1⟩⟩
  have HS : Aside0 (SX w0 w3.heap.size w3 w3 g w2.heap.size t wh r1 (st0 fx.f2)) := ⟨by
    have k1 := HX1.out.keep.1
    have k2 := H2.out
    have k3 := HG.out
    have k4 := HA.out.1.size
    refine ⟨h3b, ⟨_, hst, Kd.R_nil _ _ _ _ _⟩, ⟨by omega, hb3.2, by have := h3b.bel.size; omega, by omega⟩, KB.refl _ _ _, Nat.le_refl _⟩⟩
  have HSZ : Aside0 (wx.heap.size < w1.heap.size ∧ w1.heap.size < w2.heap.size ∧ w2.heap.size < w3.heap.size ∧ KeepBut wx w3 g none) := ⟨by
    have k1 := HX1.out.keep
    have k2 := H2.out
    have k4 := HA.out
    refine ⟨by omega, k2.2.2, hb3.2, ?_⟩
    exact (KeepBut.of_below HA.out.1 g none).trans (HX2.out.keep.trans (KeepBut.of_below hb3.1 g none) (.inl rfl)) (.inl rfl)⟩
  rw [show w2.alloc (.cells #[.int .i64 fx.f2, .int .i64 0, .int .i64 0, .int .i64 0, .int .i64 0, .string ⟨#[]⟩, .int .i64 0, .int .i64 0, .int .i64 0, .int .i64 0, .slice none 0 0] 48 (0, 0)) = w3 from e3.symm]
  have p5 : w3.cell? ⟨w1.heap.size, 0, none⟩ = some (.string fx.f0) := (blk_cell HBX3.out.1 0).trans rfl
  have p6 : w3.cell? ⟨w1.heap.size, 1, none⟩ = some (.string fx.f1) := (blk_cell HBX3.out.1 1).trans rfl
  have p7 : w3.cell? ⟨w1.heap.size, 2, none⟩ = some (.int .i64 fx.f2) := (blk_cell HBX3.out.1 2).trans rfl
  clear e3 hst hb3 h3b p0
  go_upto_region 4 with (go_at_call 61; refine (fx_step HP1.out HV.out HS.out).mono ?_; rintro e w4 ⟨rfl, r4, x4, h4, hP⟩; have HP4 := Aside0.mk (step_law HP1.out hP); have HX4 := Aside0.mk h4; clear h4 hP p5 p6 p7)
  obtain ⟨dv, hbk, hRd⟩ := HX4.out.st
  obtain ⟨Ad, cd, rfl⟩ := Kd.R_slice hRd
  have hln : (Sc.nums x4.data).length = x4.data.length := by simp [Sc.nums]
  rw [hln] at hbk hRd
  have HSB : Aside0 (w4.heap[w2.heap.size]? = some (.cells (stc x4 (.slice Ad x4.data.length cd)) 48 (0, 0)) ∧ w4.heap[wx.heap.size]? = some (.cells (stc (st0 0) (.slice none 0 0)) 48 (0, 0)) ∧ Kd.R (Kd.int .u8) 5 w4 w3.heap.size (fun _ => True) (.slice Ad x4.data.length cd) (Sc.nums x4.data)) := ⟨⟨hbk, by
    have k3 := HG.out
    have k4 := HSZ.out
    exact (HX4.out.kb.2 _ (blk_lt HBX3.out.2) (by omega) (by omega)).trans HBX3.out.2, hRd⟩⟩
  clear hbk hRd hln
  go_upto_region 5 with (go_at_call 37; refine (ends_calls HX4.out.ls).mono ?_; rintro e w5 ⟨rfl, at', bad', h5, h6, h7, h8⟩; have HE := Aside0.mk (And.intro h5 (And.intro h6 (And.intro h7 h8))); clear h5 h6 h7 h8)
  have HB5 : Aside0 (w5.heap[w2.heap.size]? = some (.cells (stc x4 (.slice Ad x4.data.length cd)) 48 (0, 0)) ∧ w5.heap[wx.heap.size]? = some (.cells (stc (st0 0) (.slice none 0 0)) 48 (0, 0)) ∧ Kd.R (Kd.int .u8) 5 w5 w3.heap.size (fun _ => True) (.slice Ad x4.data.length cd) (Sc.nums x4.data)) := ⟨by
    have k3 := HG.out
    have k4 := HSZ.out
    have k := HE.out.2.2.1
    refine ⟨(k.2 _ (blk_lt HSB.out.1) (by omega) (by simp)).trans HSB.out.1, (k.2 _ (blk_lt HSB.out.2.1) (by omega) (by simp)).trans HSB.out.2.1, ?_⟩
    exact Kd.R_mono (Kd.R_step (Kd.R_bound HSB.out.2.2) (fun i hi hlt => k.2 i hlt (by have := hi.2.1; omega) (by simp))) (fun _ _ => trivial)⟩
  go_wp2_with (first
    | ((with_reducible refine gate_dst (N := 16) rfl ?_); refine wpList_load_row rfl 48 (.tmp 4) rfl w2.heap.size (by rfl) 48 (stc x4 (.slice Ad x4.data.length cd)) (0, 0) _ HB5.out.1 hu48 rfl inf48 ?_)
    | (refine wpList_store_row rfl 48 (.tmp 2) (.tmp 16) rfl wx.heap.size (stc x4 (.slice Ad x4.data.length cd)) (by rfl) (by rfl) 48 _ HB5.out.2.1 inf48 rfl (stc_one _ _ _ _) ?_))
  refine bodyPost_ret (results_cell_row rfl _ _ wx.heap.size 48 (stc x4 (.slice Ad x4.data.length cd)) (0, 0) _ (by rfl) (setRow_blk HB5.out.2.1 _) hu48 rfl inf48) rfl ?_
  have k3 := HG.out
  have k4 := HSZ.out
  have kE := HE.out
  have kb4 := HX4.out.kb
  have hw0 : w0.heap.size ≤ wx.heap.size := by have := k3; omega
  refine ⟨x4, Ad, cd, at', bad', r4, rfl, ?_, ⟨(setRow_far (by omega) _).trans kE.1.1, kE.1.2⟩, below_setRow kE.2.1 hw0 _, ?_, HP4.out, kE.2.2.2, HX4.out.ls.size.2⟩
  · exact Kd.R_lower (Kd.R_mono (Kd.R_step (Kd.R_bound HB5.out.2.2) (fun i hi hlt => setRow_far (by have := hi.2.1; omega) _)) (fun _ _ => trivial)) (by omega)
  · refine ⟨?_, fun i hi hg hn => ?_⟩
    · have h1 := kE.2.2.1.1
      have h2 := kb4.1
      simp only [World.setRow, Array.size_modify]
      omega
    · rw [setRow_far (by omega), kE.2.2.1.2 i (by have := kb4.1; omega) hg (by simp), kb4.2 i (by omega) hg (by omega)]
      exact k4.2.2.2.2 i hi hg (by simp)
end Go.Proofs.YtnbfebjcfhbhiaaDoor.Lw
end
section
namespace Go.Proofs.YtnbfebjcfhbhiaaDoor.Bw
open Go Go.RowKit Go.Proofs.YtnbfebjcfhbhiaaDoor.P Go.Proofs.YtnbfebjcfhbhiaaDoor.Sc Go.Proofs.YtnbfebjcfhbhiaaDoorW.PrintWords Go.Proofs.YtnbfebjcfhbhiaaDoorW.PrintLast Go.Proofs.YtnbfebjcfhbhiaaDoorW.PrintMore
set_option linter.unusedVariables false
set_option linter.unusedSimpArgs false
/-- append(b, s...) of a row of one's own and a string: the row is the old one, or new. -/
theorem str_at {P : Program} (w : World) (base : Nat) (t u ty e : TypeId) (i : TypeInfo) (ht : P.underlying t = some (.slice e)) (hu : P.underlying u = some .string) (hi : P.info? e = some i) (hz : i.zero = some (.int .u8 0))
    (hsize : i.size = 1) (hby : i.bytes = 1) (v : Value) (n : Nat) (xs : List Value) (hown : w.ownsRow base e 1 v n xs) (s : ByteArray) (h63 : n + s.size ≤ maxLen) (hbytes : n + s.size ≤ 140737488355328) (v' : Value) (w' : World)
    (hr : (Builtin.append_ #[t, u] ty #[v, .string s]).run P w = .ok v' w') : v'.ownBlock = v.ownBlock ∨ ∃ b, v'.ownBlock = some b ∧ w.heap.size ≤ b := by
  have hsmall : n + s.size ≤ 9223372036854775807 := by simp only [maxLen] at h63; omega
  have hxl : xs.length = n := by simpa using hown.1
  rcases hown.2 with ⟨rfl, rfl⟩ | ⟨g, cap, cur, rfl, hbg, hg, hnc, hcm, hcs, htake⟩
  · obtain ⟨v2, w2, h1, h2, _, _⟩ := Lib.run_append_own_string (P := P) w w.heap.size t u ty e i ht hu hi hz hsize hby (.slice none 0 0) 0 xs ⟨hown.1, .inl ⟨rfl, rfl⟩⟩ s h63 hbytes (Nat.le_refl _)
    rw [h1] at hr
    obtain ⟨rfl, rfl⟩ := Result.ok.inj hr
    rcases h2.2 with ⟨rfl, _⟩ | ⟨g, _, _, rfl, hge, _⟩
    · exact .inl rfl
    · exact .inr ⟨g, rfl, hge⟩
  · by_cases hroom : n + s.size ≤ cap
    · have hcs' : cur.size = cap := by simpa using hcs
      rw [Lib.run_append_room_string (P := P) w t u ty e i ht hu hi hsize g n cap cur hg s hroom (by omega)] at hr
      obtain ⟨rfl, rfl⟩ := Result.ok.inj hr
      exact .inl rfl
    · have holds : ∀ j u, xs[j]? = some u → w.cell? ((⟨g, 0, none⟩ : Addr).add j) = some u := hown.cells (g := g) rfl
      rw [Lib.run_append_grow_string (P := P) w t u ty e i (.int .u8 0) ht hu hi hz ⟨g, 0, none⟩ n cap xs (by rw [hsize]; simpa using hxl) holds s (by omega) (by omega) (by rw [hby]; exact growslice_fits (by omega) (by omega))] at hr
      obtain ⟨rfl, rfl⟩ := Result.ok.inj hr
      exact .inr ⟨_, rfl, Nat.le_refl _⟩
section
variable {P : Program} {ops : Array Oper} {rest : List Oper} {o : Oper} {a : Act} {Q : Exit → Act → World → Prop}
theorem append_str {w0 W : World} (base : Nat) (hgd : o.guard = none) (s x : Operand) (t u e : TypeId)
    (ho : o.op = .call { callee := .builtin .append, args := #[s, x], argTypes := #[t, u] })
    (ht : P.underlying t = some (.slice e)) (hu : P.underlying u = some .string) (hinfo : (P.info? e).map (fun i => (i.zero, i.size, i.bytes)) = some (some (.int .u8 0), 1, 1))
    (v : Value) (xs : List Int) (y : ByteArray) (ok : Nat → Prop) (hs : a.eval s = v) (hx : a.eval x = .string y) (hfresh : ∀ k, W.heap.size ≤ k → ok k)
    (HO : Kd.R (Kd.int .u8) e W base ok v xs) (HB : Below base w0 W) (hbase : base ≤ W.heap.size) (hl : xs.length + y.size ≤ 140737488355328)
    (h : ∀ v1 w1, Kd.R (Kd.int .u8) e w1 base ok v1 (xs ++ bytesOf y) → Below base w0 w1 → W.grownBy w1 v.ownBlock → wpList P ops Q rest (a.put o.dst v1) w1) :
    wpList P ops Q (o :: rest) a W := by
  obtain ⟨i0, hi, hzz⟩ := Option.map_eq_some_iff.1 hinfo
  simp only [Prod.mk.injEq] at hzz
  obtain ⟨hz0, hz1, hz2⟩ := hzz
  have HOW := Kd.own_of_R (h1 := fun _ => rfl) HO
  refine wpList_plain hgd fun K hK => ?_
  obtain ⟨v', w', hr, h2, h3, h4⟩ := Lib.run_append_own_string (P := P) W base t u o.type e i0 ht hu hi hz0 hz1 hz2 v xs.length (Go.Proofs.YtnbfebjcfhbhiaaDoorW.PrintWords.nums .u8 xs) HOW y (by simp only [maxLen]; omega) hl hbase
  have hat := str_at W base t u o.type e i0 ht hu hi hz0 hz1 hz2 v xs.length (Go.Proofs.YtnbfebjcfhbhiaaDoorW.PrintWords.nums .u8 xs) HOW y (by simp only [maxLen]; omega) hl v' w' hr
  unfold Oper.wp execOp
  simp only [ho, resolve, invoke, builtin, Sem.run_bind, Sem.run_pure, Result.andThen_ok, List.map_toArray, List.map_cons, List.map_nil, hs, hx, hr]
  have hl2 : (xs ++ bytesOf y).length = xs.length + y.size := by rw [List.length_append, bytesOf_length]
  have hc : nums .u8 (xs ++ bytesOf y) = Go.Proofs.YtnbfebjcfhbhiaaDoorW.PrintWords.nums .u8 xs ++ Lib.strCells y := by
    rw [Go.Proofs.YtnbfebjcfhbhiaaDoorW.PrintWords.nums_append]
    congr 1
    simp [Go.Proofs.YtnbfebjcfhbhiaaDoorW.PrintWords.nums, bytesOf, Lib.strCells]
  refine hK _ _ (h v' w' (Kd.R_of_own (h1 := fun _ => rfl) (by rw [hl2]; show w'.ownsRow base e 1 v' _ (Go.Proofs.YtnbfebjcfhbhiaaDoorW.PrintWords.nums .u8 (xs ++ bytesOf y)); rw [hc]; exact h2) (fun k hk => ?_)) (HB.grown h3 hbase (own_base HOW)) h3)
  rcases hat with hat | ⟨b, hb, hle⟩
  · exact HO.1 k (hat ▸ hk)
  · rw [hb] at hk
    injection hk with hk
    exact hfresh k (by omega)
end
/-- A row is the old one, or new. -/
def RN (W : World) (r r' : Option Nat) : Prop := ∀ k, r' = some k → some k = r ∨ W.heap.size ≤ k
theorem RN.refl (W : World) (r : Option Nat) : RN W r r := fun k h => .inl h.symm
theorem RN.trans {W w : World} {r r1 r2 : Option Nat} (h : RN W r r1) (k : RN w r1 r2) (hs : W.heap.size ≤ w.heap.size) : RN W r r2 := fun i hi => by
  rcases k i hi with e | e
  · exact h i e.symm
  · exact .inr (Nat.le_trans hs e)
theorem RN.older {W w : World} {r r1 : Option Nat} (h : RN w r r1) (hs : W.heap.size ≤ w.heap.size) : RN W r r1 := fun i hi => (h i hi).imp id (fun e => Nat.le_trans hs e)
theorem RN.keep {W w w1 : World} {b : Nat} {r r1 : Option Nat} (h : RN W r r1) (k : KeepBut W w b r) (k1 : KeepBut w w1 b r1) : KeepBut W w1 b r :=
  ⟨Nat.le_trans k.1 k1.1, fun i hi hb hr => (k1.2 i (Nat.lt_of_lt_of_le hi k.1) hb (fun e => by
    rcases h i e.symm with e2 | e2
    · exact hr e2
    · omega)).trans (k.2 i hi hb hr)⟩
/-- What is asked of the type at whose head the builder stands. -/
structure TX (T : TypeId) (ex : List Value) : Prop where
  ne : T ≠ 5
  lies : liesAt Tryd.prog Tryd.prog.depth T ((ex.length + 2) / Tryd.prog.cellsOf T) 0 91 1 = true
def bcells (p v : Value) (ex : List Value) : Array Value := ⟨p :: v :: ex⟩
theorem bcells_set1 (p v u : Value) (ex : List Value) : (bcells p v ex).setIfInBounds 1 u = bcells p u ex := by simp [bcells]
theorem bcells_set0 (p v u : Value) (ex : List Value) : (bcells p v ex).setIfInBounds 0 u = bcells u v ex := by simp [bcells]
/-- The builder in block b, the field 'addr' p, its row in block row, its bytes t. -/
def BK (T : TypeId) (ex : List Value) (B b : Nat) (p : Value) (row : Option Nat) (t : By) (w : World) : Prop :=
  B ≤ b ∧ ∃ v, w.heap[b]? = some (.cells (bcells p v ex) T (0, 0)) ∧ Kd.R (Kd.int .u8) 5 w B (fun _ => True) v (nums t) ∧ v.ownBlock = row ∧ row ≠ some b
/-- .. fresh or used. -/
def BI (T : TypeId) (ex : List Value) (B b : Nat) (row : Option Nat) (t : By) (w : World) : Prop :=
  BK T ex B b (.pointer none) row t w ∨ BK T ex B b (.pointer (some ⟨b, 0, none⟩)) row t w
section
variable {T : TypeId} {ex : List Value} {B b : Nat} {p : Value} {row row' : Option Nat} {t : By} {w w' : World}
theorem BK.lt (h : BK T ex B b p row t w) : b < w.heap.size := by
  obtain ⟨_, v, hb, _⟩ := h
  exact blk_lt hb
theorem BI.any (h : BI T ex B b row t w) : ∃ p, (p = .pointer none ∨ p = .pointer (some ⟨b, 0, none⟩)) ∧ BK T ex B b p row t w := by
  rcases h with h | h
  · exact ⟨_, .inl rfl, h⟩
  · exact ⟨_, .inr rfl, h⟩
theorem BI.lt (h : BI T ex B b row t w) : b < w.heap.size := by obtain ⟨p, _, h⟩ := h.any; exact h.lt
theorem BI.base (h : BI T ex B b row t w) : B ≤ b := by obtain ⟨p, _, h⟩ := h.any; exact h.1
theorem BI.row_base (h : BI T ex B b row t w) : ∀ k, row = some k → B ≤ k ∧ k < w.heap.size ∧ k ≠ b ∧ ∃ cells, w.heap[k]? = some (.cells cells 5 (0, 0)) := by
  obtain ⟨p, _, hB, v, hb, hR, hv, hne⟩ := h.any
  intro k hk
  have hR2 := Kd.own_of_R (h1 := fun _ => rfl) hR
  have hk2 : v.ownBlock = some k := hv.trans hk
  exact ⟨own_base hR2 k hk2, own_lt hR2 k hk2, fun e => hne (by rw [hk, e]), own_typed hR2 k hk2⟩
theorem BI.of {p : Value} (hp : p = .pointer none ∨ p = .pointer (some ⟨b, 0, none⟩)) (h : BK T ex B b p row t w) : BI T ex B b row t w := by
  rcases hp with rfl | rfl
  · exact .inl h
  · exact .inr h
theorem BK.kept (h : BK T ex B b p row t w) (hk : w'.heap[b]? = w.heap[b]?) (hr : ∀ k, row = some k → w'.heap[k]? = w.heap[k]?) : BK T ex B b p row t w' := by
  obtain ⟨hB, v, hb, hR, hv, hne⟩ := h
  refine ⟨hB, v, hk.trans hb, ?_, hv, hne⟩
  have hR2 := Kd.own_of_R (h1 := fun _ => rfl) hR
  exact Kd.R_of_own (h1 := fun _ => rfl) (own_move hR2 (fun k hk => hr k (hv.symm.trans hk))) (fun _ _ => trivial)
theorem BI.kept (h : BI T ex B b row t w) (hk : w'.heap[b]? = w.heap[b]?) (hr : ∀ k, row = some k → w'.heap[k]? = w.heap[k]?) : BI T ex B b row t w' :=
  h.elim (fun x => .inl (x.kept hk hr)) (fun x => .inr (x.kept hk hr))
theorem BI.below (h : BI T ex B b row t w) (hb : Below w.heap.size w w') : BI T ex B b row t w' :=
  h.kept (hb.block b h.lt) (fun k hk => hb.block k (h.row_base k hk).2.1)
end
theorem BK.used {T : TypeId} {ex : List Value} {B b : Nat} {p q : Value} {row : Option Nat} {t : By} {w : World} (h : BK T ex B b p row t w) : BK T ex B b q row t (w.setCell ⟨b, 0, none⟩ q) := by
  obtain ⟨hB, v, hb, hR, hv, hne⟩ := h
  have hR2 := Kd.own_of_R (h1 := fun _ => rfl) hR
  exact ⟨hB, v, by rw [heap_setCell_same w b 0 _ _ q hb, bcells_set0], Kd.R_of_own (h1 := fun _ => rfl) (own_setCell hR2 (p := ⟨b, 0, none⟩) (by rw [hv]; exact Ne.symm hne) q) (fun _ _ => trivial), hv, hne⟩
theorem BK.put {T : TypeId} {ex : List Value} {B b : Nat} {p v v' : Value} {t : By} {w : World} (hB : B ≤ b) (hb : w.heap[b]? = some (.cells (bcells p v ex) T (0, 0))) (hR : Kd.R (Kd.int .u8) 5 w B (fun _ => True) v' (nums t)) (hT : TX T ex) : BK T ex B b p v'.ownBlock t (w.setCell ⟨b, 1, none⟩ v') := by
  have hR2 := Kd.own_of_R (h1 := fun _ => rfl) hR
  have hne := own_ne hR2 hb (Ne.symm hT.ne)
  exact ⟨hB, v', by rw [heap_setCell_same w b 1 _ _ v' hb, bcells_set1], Kd.R_of_own (h1 := fun _ => rfl) (own_setCell hR2 (p := ⟨b, 1, none⟩) hne v') (fun _ _ => trivial), rfl, Ne.symm hne⟩
theorem infB : (Tryd.prog.info? 91).map (·.size) = some 2 := by kernel_rfl
theorem infU8 : (Tryd.prog.info? 5).map (fun i => (i.zero, i.size, i.bytes)) = some (some (.int .u8 0), 1, 1) := by kernel_rfl
theorem size_some {T n : Nat} (h : (Tryd.prog.info? T).map (·.size) = some n) : ∃ j, Tryd.prog.info? T = some j ∧ j.size = n := Option.map_eq_some_iff.1 h
set_option maxHeartbeats 2000000 in
set_option maxRecDepth 100000 in
theorem copy_fresh {T : TypeId} {ex : List Value} {b : Nat} {v : Value} {w : World} (hT : TX T ex) (hbk : w.heap[b]? = some (.cells (bcells (.pointer none) v ex) T (0, 0))) :
    Calls Tryd.prog 83 #[.pointer (some ⟨b, 0, none⟩)] w fun e w' => e = .returned (.tuple #[]) ∧ w' = w.setCell ⟨b, 0, none⟩ (.pointer (some ⟨b, 0, none⟩)) := by
  obtain ⟨j, hj, hjs⟩ := size_some infB
  have hsh : w.shape? b = some (T, ex.length + 2) := by simp [World.shape?, hbk, bcells]
  have c0 : w.cell? ⟨b, 0, none⟩ = some (.pointer none) := (blk_cell hbk 0).trans rfl
  have f0 : w.frozen? ⟨b, 0, none⟩ = false := blk_frozen hbk 0
  have u0 := Lib.run_to_unsafe w ⟨b, 0, none⟩ Tryd.underlying89 Tryd.underlying183 hj (by rw [hjs]; decide) hsh (Nat.zero_lt_succ _)
  have u1 := Lib.run_from_unsafe w ⟨b, 0, none⟩ Tryd.underlying183 Tryd.underlying89 hj hsh hT.lies
  clear hbk hj hjs hsh hT
  go_enter Tryd.func83, Tryd.ntmps83
  go_wp2_with fail
  rw [run_callFunc_extern Tryd.func96 (by kernel_rfl) (by kernel_rfl) (by kernel_rfl) (e := Extern.AbiNoEscape.same) (by kernel_rfl)]
  rw [Lib.run_noEscape]
  simp only [Result.andThen]
  rw [Oper.upon_value]
  go_wp2_with fail
  go_end0
  exact ⟨rfl, rfl⟩
set_option maxHeartbeats 2000000 in
set_option maxRecDepth 100000 in
theorem copy_used {T : TypeId} {ex : List Value} {b : Nat} {v : Value} {w : World} (hbk : w.heap[b]? = some (.cells (bcells (.pointer (some ⟨b, 0, none⟩)) v ex) T (0, 0))) :
    Calls Tryd.prog 83 #[.pointer (some ⟨b, 0, none⟩)] w fun e w' => e = .returned (.tuple #[]) ∧ w' = w := by
  have c0 : w.cell? ⟨b, 0, none⟩ = some (.pointer (some ⟨b, 0, none⟩)) := (blk_cell hbk 0).trans rfl
  obtain ⟨j, hj, hjs⟩ := size_some infB
  have e0 := Lib.run_neq_ptr_same w (⟨b, 0, none⟩ : Addr) Tryd.underlying89 hj
  clear hbk hj hjs
  go_enter Tryd.func83, Tryd.ntmps83
  go_wp2_with fail
  go_end0
  exact ⟨rfl, rfl⟩
theorem copy_calls {T : TypeId} {ex : List Value} {B b : Nat} {row : Option Nat} {t : By} {w : World} (hT : TX T ex) (h : BI T ex B b row t w) :
    Calls Tryd.prog 83 #[.pointer (some ⟨b, 0, none⟩)] w fun e w' => e = .returned (.tuple #[]) ∧ BK T ex B b (.pointer (some ⟨b, 0, none⟩)) row t w' ∧ Below B w w' ∧ KeepBut w w' b row := by
  rcases h with h | h
  · obtain ⟨hB, v, hb, hR⟩ := id h
    refine (copy_fresh hT hb).mono ?_
    rintro e w' ⟨rfl, rfl⟩
    exact ⟨rfl, h.used, (Below.refl B w).setCell (p := ⟨b, 0, none⟩) hB _, (KeepBut.refl w b row).set_ 0 _⟩
  · obtain ⟨hB, v, hb, hR⟩ := id h
    refine (copy_used hb).mono ?_
    rintro e w' ⟨rfl, rfl⟩
    exact ⟨rfl, h, Below.refl B _, KeepBut.refl _ b row⟩
/-- What a writer leaves. -/
structure BW (T : TypeId) (ex : List Value) (B b : Nat) (row : Option Nat) (t : By) (w w' : World) : Prop where
  out : ∃ row', BI T ex B b row' t w' ∧ RN w row row'
  bl : Below B w w'
  kb : KeepBut w w' b row
theorem R_strong {w : World} {B e : Nat} {v : Value} {xs : List Int} (h : Kd.R (Kd.int .u8) e w B (fun _ => True) v xs) : Kd.R (Kd.int .u8) e w B (fun k => some k = v.ownBlock ∨ w.heap.size ≤ k) v xs :=
  Kd.R_of_own (h1 := fun _ => rfl) (Kd.own_of_R (h1 := fun _ => rfl) h) (fun k hk => .inl hk.symm)
theorem rn_of {w w1 : World} {B e : Nat} {v v1 : Value} {xs : List Int} (h : Kd.R (Kd.int .u8) e w1 B (fun k => some k = v.ownBlock ∨ w.heap.size ≤ k) v1 xs) : RN w v.ownBlock v1.ownBlock := h.1
set_option maxHeartbeats 2000000 in
set_option maxRecDepth 100000 in
theorem wbyte_calls {T : TypeId} {ex : List Value} {B b : Nat} {row : Option Nat} {t : By} {w : World} (hT : TX T ex) (h : BI T ex B b row t w) (c : UInt8) (hl : t.length + 1 ≤ 140737488355328) :
    Calls Tryd.prog 56 #[.pointer (some ⟨b, 0, none⟩), .int .u8 (c.toNat : Int)] w fun e w' => e = .returned .nilIface ∧ BW T ex B b row (t ++ [c]) w w' := by
  have HT := Aside0.mk hT
  have HI := Aside0.mk h
  have HL := Aside0.mk hl
  clear hT h hl
  go_enter Tryd.func56, Tryd.ntmps56
  go_upto_region 2 with (go_at_call 83; refine (copy_calls HT.out HI.out).mono ?_; rintro e w1 ⟨rfl, h1, h2, h3⟩; have HK := Aside0.mk h1; have HB1 := Aside0.mk h2; have HKB := Aside0.mk h3; clear h1 h2 h3)
  obtain ⟨hB, v, hbk, hR, hrow, hne⟩ := HK.out
  have HBK := Aside0.mk hbk
  have HR := Aside0.mk (R_strong hR)
  have HV := Aside0.mk hrow
  have HBB := Aside0.mk (And.intro hB hne)
  have c1 : w1.cell? ⟨b, 1, none⟩ = some v := (blk_cell hbk 1).trans rfl
  clear hB hbk hR hrow hne
  go_wp2_with (at_builtin; refine Kd.R_append (Kd.int .u8) (w0 := w1) (W := w1) B rfl (.tmp 11) (.tmp 13) 46 5 (.int .u8 0) 1 rfl Tryd.underlying46 infU8 rfl (by decide) (by decide) v (nums t) (c.toNat : Int) [.int .u8 (c.toNat : Int)] (fun k => some k = v.ownBlock ∨ w1.heap.size ≤ k) (fun _ => False) rfl rfl rfl (fun _ hk => hk.elim) (fun k hk => .inr hk) HR.out (Below.refl _ _) ?c8 ?c9 ?_)
  case c8 => exact Nat.le_trans (Nat.le_trans HBB.out.1 (Nat.le_of_lt HI.out.lt)) HB1.out.size
  case c9 => simp [Sc.nums]; have := HL.out; omega
  intro v1 w2 k1 k2 k3 k4
  have e1 : Sc.nums t ++ [(c.toNat : Int)] = Sc.nums (t ++ [c]) := by rw [Sc.nums_append]; rfl
  rw [e1] at k1
  have hb2 : w2.heap[b]? = some (.cells (bcells (.pointer (some ⟨b, 0, none⟩)) v ex) T (0, 0)) := (k3.block b (blk_lt HBK.out) (by rw [HV.out]; exact Ne.symm HBB.out.2)).trans HBK.out
  have d1 : w2.frozen? ⟨b, 1, none⟩ = false := blk_frozen hb2 1
  have d0 : w2.cell? ⟨b, 1, none⟩ = some v := (blk_cell hb2 1).trans rfl
  obtain ⟨A2, c2, rfl⟩ := Kd.R_slice k1
  have HO : Aside0 (BW T ex B b row (t ++ [c]) w (w2.setCell ⟨b, 1, none⟩ (.slice A2 (Sc.nums (t ++ [c])).length c2))) := ⟨by
    have hbB := HBB.out.1
    refine ⟨⟨_, .inr (BK.put hbB hb2 (Kd.R_mono k1 (fun _ _ => trivial)) HT.out), ?_⟩, ?_, ?_⟩
    · have := (rn_of k1).older HB1.out.size
      rw [HV.out] at this
      exact this
    · exact (HB1.out.trans k2).setCell (p := ⟨b, 1, none⟩) hbB _
    · have hk2 : KeepBut w1 w2 b row := by rw [← HV.out]; exact KeepBut.of_grown k3 b
      exact (HKB.out.trans hk2 (.inl rfl)).set_ 1 _⟩
  clear k1 k2 k3 k4 e1 hb2
  go_wp2_with fail
  go_ret
  exact ⟨rfl, HO.out⟩
theorem nums_bytesOf (s : ByteArray) : bytesOf s = Sc.nums (bs s) := rfl
set_option maxHeartbeats 2000000 in
set_option maxRecDepth 100000 in
theorem wstr_calls {T : TypeId} {ex : List Value} {B b : Nat} {row : Option Nat} {t : By} {w : World} (hT : TX T ex) (h : BI T ex B b row t w) (s : ByteArray) (hl : t.length + s.size ≤ 140737488355328) :
    Calls Tryd.prog 80 #[.pointer (some ⟨b, 0, none⟩), .string s] w fun e w' => e = .returned (.tuple #[.int .i64 s.size, .nilIface]) ∧ BW T ex B b row (t ++ bs s) w w' := by
  have HT := Aside0.mk hT
  have HI := Aside0.mk h
  have HL := Aside0.mk hl
  clear hT h hl
  go_enter Tryd.func80, Tryd.ntmps80
  go_upto_region 2 with (go_at_call 83; refine (copy_calls HT.out HI.out).mono ?_; rintro e w1 ⟨rfl, h1, h2, h3⟩; have HK := Aside0.mk h1; have HB1 := Aside0.mk h2; have HKB := Aside0.mk h3; clear h1 h2 h3)
  obtain ⟨hB, v, hbk, hR, hrow, hne⟩ := HK.out
  have HBK := Aside0.mk hbk
  have HR := Aside0.mk (R_strong hR)
  have HV := Aside0.mk hrow
  have HBB := Aside0.mk (And.intro hB hne)
  have c1 : w1.cell? ⟨b, 1, none⟩ = some v := (blk_cell hbk 1).trans rfl
  clear hB hbk hR hrow hne
  go_wp2_with (at_builtin; refine append_str (w0 := w1) (W := w1) B rfl (.tmp 12) (.tmp 13) 46 9 5 rfl Tryd.underlying46 Tryd.underlying9 infU8 v (Sc.nums t) s (fun k => some k = v.ownBlock ∨ w1.heap.size ≤ k) rfl rfl (fun k hk => .inr hk) HR.out (Below.refl _ _) ?c8 ?c9 ?_)
  case c8 => exact Nat.le_trans (Nat.le_trans HBB.out.1 (Nat.le_of_lt HI.out.lt)) HB1.out.size
  case c9 => simp [Sc.nums]; exact HL.out
  intro v1 w2 k1 k2 k3
  have e1 : Sc.nums t ++ bytesOf s = Sc.nums (t ++ bs s) := by rw [Sc.nums_append]; rfl
  rw [e1] at k1
  have hb2 : w2.heap[b]? = some (.cells (bcells (.pointer (some ⟨b, 0, none⟩)) v ex) T (0, 0)) := (k3.block b (blk_lt HBK.out) (by rw [HV.out]; exact Ne.symm HBB.out.2)).trans HBK.out
  have d1 : w2.frozen? ⟨b, 1, none⟩ = false := blk_frozen hb2 1
  have d0 : w2.cell? ⟨b, 1, none⟩ = some v := (blk_cell hb2 1).trans rfl
  have hrn : RN w v.ownBlock v1.ownBlock := (rn_of k1).older HB1.out.size
  obtain ⟨A2, c2, rfl⟩ := Kd.R_slice k1
  have HO : Aside0 (BW T ex B b row (t ++ bs s) w (w2.setCell ⟨b, 1, none⟩ (.slice A2 (Sc.nums (t ++ bs s)).length c2))) := ⟨by
    have hbB := HBB.out.1
    refine ⟨⟨_, .inr (BK.put hbB hb2 (Kd.R_mono k1 (fun _ _ => trivial)) HT.out), by rw [← HV.out]; exact hrn⟩, ?_, ?_⟩
    · exact (HB1.out.trans k2).setCell (p := ⟨b, 1, none⟩) hbB _
    · have hk2 : KeepBut w1 w2 b row := by rw [← HV.out]; exact KeepBut.of_grown k3 b
      exact (HKB.out.trans hk2 (.inl rfl)).set_ 1 _⟩
  clear k1 k2 k3 e1 hb2 hrn
  go_wp2_with fail
  go_ret2
  exact ⟨rfl, HO.out⟩
set_option maxHeartbeats 2000000 in
set_option maxRecDepth 100000 in
theorem len_calls {T : TypeId} {ex : List Value} {B b : Nat} {row : Option Nat} {t : By} {w : World} (h : BI T ex B b row t w) :
    Calls Tryd.prog 33 #[.pointer (some ⟨b, 0, none⟩)] w fun e w' => e = .returned (.int .i64 t.length) ∧ w' = w := by
  obtain ⟨p, _, hB, v, hbk, hR, _⟩ := h.any
  obtain ⟨A, c, rfl⟩ := Kd.R_slice hR
  have hl : (Sc.nums t).length = t.length := by simp [Sc.nums]
  rw [hl] at hbk
  have c1 : w.cell? ⟨b, 1, none⟩ = some (.slice A t.length c) := (blk_cell hbk 1).trans rfl
  clear hbk hR hB h hl
  go_enter Tryd.func33, Tryd.ntmps33
  go_wp2_with fail
  go_ret
  exact ⟨rfl, rfl⟩
theorem cells_u8 : Tryd.prog.cellsOf 5 = 1 := by kernel_rfl
set_option maxHeartbeats 2000000 in
set_option maxRecDepth 100000 in
theorem str_some {T : TypeId} {ex : List Value} {B b : Nat} {row : Option Nat} {t : By} {w : World} (h : BI T ex B b row t w) (h0 : t ≠ []) :
    Calls Tryd.prog 34 #[.pointer (some ⟨b, 0, none⟩)] w fun e w' => e = .returned (.string (sb t)) ∧ Below B w w' := by
  obtain ⟨p, _, hB, v, hbk, hR, _⟩ := h.any
  have hown := Kd.own_of_R (h1 := fun _ => rfl) hR
  have hl : (Sc.nums t).length = t.length := by simp [Sc.nums]
  have hl0 : t.length ≠ 0 := by simpa using h0
  have henc : encs (Value.int .u8) (Sc.nums t) = Lib.byteCells t := by simp [encs, Sc.nums, Lib.byteCells]
  rw [hl, henc] at hown
  obtain ⟨g, cap, cur, rfl, hbg, hg, hnc, hcm, hcs, htake⟩ : ∃ g cap cur, v = .slice (some ⟨g, 0, none⟩) t.length cap ∧ B ≤ g ∧ w.heap[g]? = some (.cells cur 5 (0, 0)) ∧ t.length ≤ cap ∧ cap ≤ maxLen ∧ cur.size = cap * 1 ∧ cur.toList.take (t.length * 1) = Lib.byteCells t := by
    rcases hown.2 with ⟨_, hz⟩ | ⟨g, cap, cur, hv, r⟩
    · exact absurd hz hl0
    · exact ⟨g, cap, cur, hv, r⟩
  have c1 : w.cell? ⟨b, 1, none⟩ = some (.slice (some ⟨g, 0, none⟩) t.length cap) := (blk_cell hbk 1).trans rfl
  have hSD : (Builtin.unsafeSliceData_ #[46] 155 #[.slice (some ⟨g, 0, none⟩) t.length cap]).run Tryd.prog w.drew = .ok (.pointer (some ⟨g, 0, none⟩)) w.drew :=
    Lib.run_unsafeSliceData_row _ _ _ _ _ _ (by omega)
  have hUS : (Builtin.unsafeString_ #[155, 3] 9 #[.pointer (some ⟨g, 0, none⟩), .int .i64 t.length]).run Tryd.prog w.drew = .ok (.string (sb t)) (w.drew.freeze ⟨g, 0, none⟩ t.length) := by
    refine Lib.run_unsafeString_row w.drew 155 3 9 5 Tryd.underlying155 cells_u8 g cur.size (by have hg' : w.drew.heap[g]? = some (.cells cur 5 (0, 0)) := hg; simp [World.shape?, hg']) t h0 (by omega) (by unfold maxLen at hcm; omega) ?_
    intro j x hx
    exact hown.cells (g := g) rfl j (.int .u8 x.toNat) (by simp [Lib.byteCells, hx])
  have HB : Aside0 (Below B w (w.drew.freeze ⟨g, 0, none⟩ t.length)) := ⟨Lib.below_freeze (below_drew (Below.refl B w)) (p := ⟨g, 0, none⟩) hbg _⟩
  clear hbk hR hB h hown hl h0 hl0 henc hbg hg hnc hcm hcs htake
  go_enter Tryd.func34, Tryd.ntmps34
  go_wp2_with fail
  go_region
  all_goals (go_wp2_with fail; go_ret; exact ⟨rfl, HB.out⟩)
end Go.Proofs.YtnbfebjcfhbhiaaDoor.Bw
end
section
namespace Go.Proofs.YtnbfebjcfhbhiaaDoor.Sc
set_option linter.unusedVariables false
def hexD (n : Nat) : UInt8 := UInt8.ofNat (if n < 10 then 48 + n else 55 + n)
def signB (c : UInt8) : By := if plainB c then [c] else [37, hexD (c.toNat / 16), hexD (c.toNat % 16)]
/-- a text word -/
def textW (b : By) : By := if b = [] then [45] else b.flatMap signB
def numW (n : Int) : By := Lib.itoa n
def St.get (x : St) : Part → Int
  | .r => x.rep | .s => x.ses | .n => x.id | .i => x.i | .j => x.j | .a => x.a | .b => x.b | _ => 0
def St.zero (x : St) : Part → St
  | .d => { x with data := [] } | .k => { x with name := [] } | p => x.set p 0
def partW (x : St) : Part → By
  | .d => textW x.data | .k => textW x.name | p => numW (x.get p)
end Go.Proofs.YtnbfebjcfhbhiaaDoor.Sc
end
section
namespace Go.Proofs.YtnbfebjcfhbhiaaDoor.Bw
open Go Go.RowKit Go.Proofs.YtnbfebjcfhbhiaaDoor.P Go.Proofs.YtnbfebjcfhbhiaaDoor.Sc Go.Proofs.YtnbfebjcfhbhiaaDoorW.PrintWords Go.Proofs.YtnbfebjcfhbhiaaDoorW.PrintLast Go.Proofs.YtnbfebjcfhbhiaaDoorW.PrintMore
set_option linter.unusedVariables false
set_option linter.unusedSimpArgs false
def hexS : ByteArray := ⟨#[48, 49, 50, 51, 52, 53, 54, 55, 56, 57, 65, 66, 67, 68, 69, 70]⟩
theorem hexS_at (n : Nat) (h : n < 16) : bs (hexS.extract n (n + 1)) = [hexD n] := by
  have : ∀ n : Fin 16, ((bs hexS).take (n.val + 1)).drop n.val = [hexD n.val] := by decide
  rw [bs_extract]
  exact this ⟨n, h⟩
theorem txB : TX 91 [] := ⟨by decide, by kernel_rfl⟩
theorem bs_append (a b : ByteArray) : bs (a ++ b) = bs a ++ bs b := by simp [bs, ByteArray.data_append]
theorem signB_len (c : UInt8) : (signB c).length ≤ 3 := by unfold signB; split <;> simp
theorem signs_len : ∀ d : By, (d.flatMap signB).length ≤ 3 * d.length
  | [] => by simp
  | c :: d => by
    have := signs_len d
    have := signB_len c
    simp only [List.flatMap_cons, List.length_append, List.length_cons]; omega
theorem plain_calls (c : UInt8) (w : World) : Calls Tryd.prog 82 #[.int .u8 (c.toNat : Int)] w fun e w' => e = .returned (.bool (plainB c)) ∧ Below w.heap.size w w' := by
  refine (script_plain.calls _ _ w (plain_f c)).mono ?_
  rintro e w' ⟨he, hd⟩
  exact ⟨he, hd.below⟩
theorem and15 (n : Nat) (h : n < 256) : bits .and .u8 (n : Int) 15 = ((n % 16 : Nat) : Int) := by
  have h2 := u8_and_nat n 15 h (by decide)
  rw [show ((15 : Nat) : Int) = 15 from rfl] at h2
  rw [h2, Nat.and_two_pow_sub_one_eq_mod n 4]
theorem cells_reads {w : World} {A : Option Addr} {d : By} (h : Kd.C (Kd.int .u8) w A d.length (Sc.nums d)) (i : Nat) (hi : i < d.length) : ∃ ad, A = some ad ∧ w.cell? (ad.add i) = some (.int .u8 ((d[i]).toNat : Int)) := by
  have hl : (Sc.nums d).length = d.length := by simp [Sc.nums]
  obtain ⟨ad, e, hc⟩ := Kd.at_int h (i : Int) (by omega) (by omega)
  refine ⟨ad, e, ?_⟩
  rw [Int.toNat_natCast] at hc
  rw [hc]
  congr 2
  unfold rd Sc.nums
  rw [Int.toNat_natCast, List.getD_eq_getElem?_getD, List.getElem?_map, List.getElem?_eq_getElem hi]
  rfl
set_option maxHeartbeats 4000000 in
set_option maxRecDepth 100000 in
theorem textWord_calls (d : By) (A : Option Addr) (c : Nat) (w : World) (hC : Kd.C (Kd.int .u8) w A d.length (Sc.nums d)) (hl : d.length ≤ 1099511627776) :
    Calls Tryd.prog 55 #[.slice A d.length c] w fun e w' => e = .returned (.string (sb (textW d))) ∧ Below w.heap.size w w' := by
  by_cases h0 : d = []
  · subst h0
    go_enter Tryd.func55, Tryd.ntmps55
    go_wp2_with fail
    go_ret
    exact ⟨rfl, Below.refl _ _⟩
  have hd0 : 0 < d.length := List.length_pos_iff.2 h0
  have hlI : (d.length : Int) ≤ 1099511627776 := by omega
  have hz : ((d.length : Int) == 0) = false := by simp; exact h0
  have HC := Aside0.mk hC
  have HD := Aside0.mk h0
  have HL := Aside0.mk hl
  obtain ⟨w1, hw1⟩ : ∃ w1, w1 = w.alloc (.cells #[.pointer none, .slice none 0 0] 91 (0, 0)) := ⟨_, rfl⟩
  have HS : Aside0 (BI 91 [] w.heap.size w.heap.size none ([] : By) w1 ∧ Below w.heap.size w w1) := ⟨by
    rw [hw1]
    exact ⟨.inl ⟨Nat.le_refl _, .slice none 0 0, heap_alloc_new w _, Kd.R_nil _ _ _ _ _, rfl, by simp⟩, (Below.refl _ _).alloc (Nat.le_refl _) _⟩⟩
  have HW1 := Aside0.mk hw1
  clear hC h0 hl hw1
  go_enter Tryd.func55, Tryd.ntmps55
  go_upto_region 4 with fail
  rw [← HW1.out]
  go_wp2_with fail
  go_loopw [5, 11] (fun _ s wr => ∃ i : Nat, s = .int .i64 i ∧ Aside0 (i ≤ d.length ∧ ∃ row, BI 91 [] w.heap.size w.heap.size row ((d.take i).flatMap signB) wr ∧ Below w.heap.size w wr)) (fun _ s _ => d.length - (intOf s).toNat)
  case atStart => exact ⟨0, rfl, ⟨Nat.zero_le _, none, HS.out⟩⟩
  case round =>
    obtain ⟨i, rfl, hP⟩ := hrel
    have HP := Aside0.mk hP.out
    clear hP
    by_cases hi : i < d.length
    · obtain ⟨hle, row, hB, hbl⟩ := HP.out
      have HB := Aside0.mk hB
      have HBL := Aside0.mk hbl
      obtain ⟨ad, rfl, hc⟩ := cells_reads (Kd.C_below HC.out hbl) i hi
      have HT : Aside0 ((d.take (i + 1)).flatMap signB = (d.take i).flatMap signB ++ signB d[i]) := ⟨by rw [List.take_succ_eq_append_getElem hi, List.flatMap_append]; simp⟩
      have HLN : Aside0 (((d.take i).flatMap signB).length ≤ 3298534883328) := ⟨by have := signs_len (d.take i); rw [List.length_take] at this; have := HL.out; omega⟩
      obtain ⟨x, hx⟩ : ∃ x, d[i] = x := ⟨_, rfl⟩
      rw [hx] at hc HT
      have hiI : (i : Int) < (d.length : Int) := by omega
      have HI := Aside0.mk hi
      have hxn : x.toNat < 256 := UInt8.toNat_lt x
      clear hle hB hbl HP hx hi
      by_cases hp : plainB x = true
      · have HPL := Aside0.mk hp
        clear hxn
        go_upto_region 8 with (go_at_call 82; refine (plain_calls x _).mono ?_; rintro e w2 ⟨rfl, hb⟩; have n0_ := Aside0.mk (HB.out.below hb); have n1_ := Aside0.mk (HBL.out.trans (hb.mono HBL.out.size)); clear HB HBL hb hc; have HB := n0_; have HBL := n1_; clear n0_ n1_)
        go_wp2_with (go_at_call 56; refine (wbyte_calls txB HB.out x (by have := HLN.out; omega)).mono ?_; rintro e w3 ⟨rfl, hw⟩; have HW := Aside0.mk hw; clear hw)
        go_roundw
        case rel =>
          obtain ⟨row', hB', _⟩ := HW.out.out
          refine ⟨i + 1, by go_num, ⟨HI.out, row', ?_, HBL.out.trans HW.out.bl⟩⟩
          rw [HT.out, show signB x = [x] by unfold signB; rw [if_pos HPL.out]]
          exact hB'
        case measure => simp [intOf]; have := HI.out; omega
      · have HPL := Aside0.mk hp
        have hp2 : plainB x = false := by simpa using hp
        obtain ⟨n, hn⟩ : ∃ n, x.toNat = n := ⟨_, rfl⟩
        have HN := Aside0.mk hn
        have hxn2 : n < 256 := by rw [← hn]; exact hxn
        clear hp hn hxn
        go_upto_region 9 with (go_at_call 82; refine (plain_calls x _).mono ?_; rintro e w2 ⟨rfl, hb⟩; have n0_ := Aside0.mk (HB.out.below hb); have n1_ := Aside0.mk (HBL.out.trans (hb.mono HBL.out.size)); clear HB HBL hb hc; have HB := n0_; have HBL := n1_; clear n0_ n1_)
        rw [HN.out]
        have ha := and15 n hxn2
        have hq : n / 16 < 16 := by omega
        have hr : n % 16 < 16 := by omega
        have HX : Aside0 (bs (hexS.extract (n / 16) (n / 16 + 1)) = [hexD (n / 16)] ∧ bs (hexS.extract (n % 16) (n % 16 + 1)) = [hexD (n % 16)]) := ⟨⟨hexS_at _ hq, hexS_at _ hr⟩⟩
        have s1 : ∀ W, (Instr.slice 9 (.string ⟨#[48, 49, 50, 51, 52, 53, 54, 55, 56, 57, 65, 66, 67, 68, 69, 70]⟩) (some (.int .u8 ((n : Int) / 16))) (some (.int .u8 ((n : Int) / 16 + 1))) none).run Tryd.prog W = .ok (.string (hexS.extract (n / 16) (n / 16 + 1))) W := fun W => run_slice_string W 9 hexS .u8 .u8 ((n / 16 : Nat) : Int) ((n / 16 + 1 : Nat) : Int) Tryd.underlying9 (by omega) (by omega) (by have : hexS.size = 16 := rfl; omega)
        have s2 : ∀ W, (Instr.slice 9 (.string ⟨#[48, 49, 50, 51, 52, 53, 54, 55, 56, 57, 65, 66, 67, 68, 69, 70]⟩) (some (.int .u8 ((n : Int) % 16))) (some (.int .u8 ((n : Int) % 16 + 1))) none).run Tryd.prog W = .ok (.string (hexS.extract (n % 16) (n % 16 + 1))) W := fun W => run_slice_string W 9 hexS .u8 .u8 ((n % 16 : Nat) : Int) ((n % 16 + 1 : Nat) : Int) Tryd.underlying9 (by omega) (by omega) (by have : hexS.size = 16 := rfl; omega)
        have HSZ : Aside0 ((⟨#[37]⟩ ++ hexS.extract (n / 16) (n / 16 + 1) ++ hexS.extract (n % 16) (n % 16 + 1) : ByteArray).size = 3) := ⟨by rw [← bs_len, bs_append, bs_append, HX.out.1, HX.out.2]; rfl⟩
        have e1 : IntKind.u8.wrap ((n : Int) / 16 + 1) = (n : Int) / 16 + 1 := by rw [IntKind.wrap_u8]; omega
        have e2 : IntKind.u8.wrap ((n : Int) % 16 + 1) = (n : Int) % 16 + 1 := by rw [IntKind.wrap_u8]; omega
        have HBD : Aside0 (((d.take i).flatMap signB).length + (⟨#[37]⟩ ++ hexS.extract (n / 16) (n / 16 + 1) ++ hexS.extract (n % 16) (n % 16 + 1) : ByteArray).size ≤ 140737488355328) := ⟨by have := HLN.out; have := HSZ.out; omega⟩
        have HB2 := Aside0.mk (HB.out.below (below_drew (Below.refl w2.heap.size w2)))
        have hs1 : (hexS.extract (n / 16) (n / 16 + 1)).size = 1 := by rw [← bs_len, HX.out.1]; rfl
        have hs2 : (hexS.extract (n % 16) (n % 16 + 1)).size = 1 := by rw [← bs_len, HX.out.2]; rfl
        have hs3 : ((⟨#[37]⟩ : ByteArray) ++ hexS.extract (n / 16) (n / 16 + 1)).size = 2 := by rw [← bs_len, bs_append, HX.out.1]; rfl
        have a1 : ∀ W, (Op.stringOp .add ⟨#[37]⟩ (hexS.extract (n / 16) (n / 16 + 1))).run Tryd.prog W = .ok (.string (⟨#[37]⟩ ++ hexS.extract (n / 16) (n / 16 + 1))) W := fun W => run_string_add_sum W _ _ (by rw [hs1]; decide)
        have a2 : ∀ W, (Op.stringOp .add (⟨#[37]⟩ ++ hexS.extract (n / 16) (n / 16 + 1)) (hexS.extract (n % 16) (n % 16 + 1))).run Tryd.prog W = .ok (.string (⟨#[37]⟩ ++ hexS.extract (n / 16) (n / 16 + 1) ++ hexS.extract (n % 16) (n % 16 + 1))) W := fun W => run_string_add_sum W _ _ (by rw [hs2, hs3]; decide)
        clear hs1 hs2 hs3
        go_region_held3 (fun _ => True) (exact trivial) (first
          | (go_at_call 80; (with_reducible refine (wstr_calls txB HB2.out (⟨#[37]⟩ ++ hexS.extract (n / 16) (n / 16 + 1) ++ hexS.extract (n % 16) (n % 16 + 1)) HBD.out).mono ?_); rintro e w3 ⟨rfl, hw⟩; have HW := Aside0.mk hw; clear hw))
        clear a1 a2 e1 e2 s1 s2 ha
        go_wp2_with fail
        go_roundw
        case rel =>
          obtain ⟨row', hB', _⟩ := HW.out.out
          refine ⟨i + 1, by go_num, ⟨HI.out, row', ?_, HBL.out.trans ((below_drew (Below.refl _ _)).trans HW.out.bl)⟩⟩
          rw [bs_append, bs_append, HX.out.1, HX.out.2] at hB'
          rw [HT.out, show signB x = [37, hexD (n / 16), hexD (n % 16)] by unfold signB; rw [if_neg HPL.out, HN.out]]
          exact hB'
        case measure => simp [intOf]; have := HI.out; omega
    · obtain ⟨hle, row, hB, hbl⟩ := HP.out
      have hge : ¬ (i : Int) < (d.length : Int) := by omega
      have hi2 : i = d.length := by omega
      subst hi2
      rw [List.take_length] at hB
      have HB := Aside0.mk hB
      have HBL := Aside0.mk hbl
      have HNE : Aside0 (d.flatMap signB ≠ []) := ⟨by
        have h0 := HD.out
        cases d with
        | nil => exact absurd rfl h0
        | cons x d => simp only [List.flatMap_cons, ne_eq, List.append_eq_nil_iff, not_and]; intro h; exfalso; revert h; unfold signB; split <;> simp⟩
      clear hB hbl HP hi hle
      go_wp2_with (go_at_call 34; refine (str_some HB.out HNE.out).mono ?_; rintro e w2 ⟨rfl, hb⟩; have HBE := Aside0.mk hb; clear hb)
      go_ret
      exact ⟨by unfold textW; rw [if_neg HD.out]; rfl, HBL.out.trans HBE.out⟩
end Go.Proofs.YtnbfebjcfhbhiaaDoor.Bw
end
section
namespace Go.Proofs.YtnbfebjcfhbhiaaDoor.Sc
set_option linter.unusedVariables false
/-- A text, and whether a word stands in its last line. -/
abbrev TS := By × Bool
def addW (s : TS) (w : By) : TS := (s.1 ++ (if s.2 then 32 :: w else w), true)
def addWs (s : TS) (ws : List By) : TS := ws.foldl addW s
def endL (s : TS) : TS := (s.1 ++ [10], false)
inductive Wd where
  | str (s : By) | int (n : Int) | err (n : Int) | bytes (d : By) | epoch (r k : Int) | rights (a b : Int) | call (a b : Int) | op (k : Int) (n : By) (a b : Int)
def epochW (r k : Int) : By := numW r ++ 58 :: numW k
def Wd.ws : Wd → List By
  | .str s => [s] | .int n => [numW n] | .err n => [numW n] | .bytes d => [textW d] | .epoch r k => [epochW r k] | .rights a b => [numW a, numW b] | .call a b => [numW a, numW b] | .op k n a b => [numW k, textW n, numW a, numW b]
def inI (n : Int) : Prop := -9223372036854775808 ≤ n ∧ n ≤ 9223372036854775807
/-- Its numbers are int64, its text is no longer than m. -/
def Wd.fit (m : Nat) : Wd → Prop
  | .str s => s.length ≤ m | .int n => inI n | .err n => inI n | .bytes d => d.length ≤ m | .epoch r k => inI r ∧ inI k | .rights a b => inI a ∧ inI b | .call a b => inI a ∧ inI b | .op k n a b => inI k ∧ n.length ≤ m ∧ inI a ∧ inI b
def wdsT (l : List Wd) : List By := l.flatMap Wd.ws
theorem addWs_append (s : TS) (a b : List By) : addWs s (a ++ b) = addWs (addWs s a) b := by simp [addWs, List.foldl_append]
theorem addW_len (s : TS) (w : By) : (addW s w).1.length ≤ s.1.length + w.length + 1 := by
  unfold addW; simp only; split <;> simp <;> omega
/-- How long a text gets at most. -/
def lenW : List By → Nat
  | [] => 0
  | w :: ws => w.length + 1 + lenW ws
theorem addWs_len : ∀ (ws : List By) (s : TS), (addWs s ws).1.length ≤ s.1.length + lenW ws
  | [], s => by simp [addWs, lenW]
  | w :: ws, s => by
    have h := addWs_len ws (addW s w)
    have h2 := addW_len s w
    show (addWs (addW s w) ws).1.length ≤ _
    simp only [lenW]; omega
theorem lenW_append : ∀ a b : List By, lenW (a ++ b) = lenW a + lenW b
  | [], b => by simp [lenW]
  | w :: a, b => by simp only [List.cons_append, lenW, lenW_append a b]; omega
end Go.Proofs.YtnbfebjcfhbhiaaDoor.Sc
end
section
namespace Go.Proofs.YtnbfebjcfhbhiaaDoor.Bw
open Go Go.RowKit Go.Proofs.YtnbfebjcfhbhiaaDoor.P Go.Proofs.YtnbfebjcfhbhiaaDoor.Sc Go.Proofs.YtnbfebjcfhbhiaaDoorW.PrintWords Go.Proofs.YtnbfebjcfhbhiaaDoorW.PrintLast Go.Proofs.YtnbfebjcfhbhiaaDoorW.PrintMore
set_option linter.unusedVariables false
set_option linter.unusedSimpArgs false
theorem txP (g : Bool) : TX 93 [.bool g] := ⟨by decide, by kernel_rfl⟩
/-- The printer lies at b, its text is s; beside it (and its row) nothing has turned since W. -/
structure PrS (w0 W wx : World) (b : Nat) (r0 row : Option Nat) (s : TS) : Prop where
  bd : BI 93 [.bool s.2] w0.heap.size b row s.1 wx
  bl : Below w0.heap.size w0 wx
  kb : KeepBut W wx b r0
  rn : RN W r0 row
section
variable {w0 W wx w1 : World} {b : Nat} {r0 r1 row : Option Nat} {s s' : TS}
theorem PrS.below (h : PrS w0 W wx b r0 row s) (hb : Below wx.heap.size wx w1) : PrS w0 W w1 b r0 row s :=
  ⟨h.bd.below hb, h.bl.trans (hb.mono h.bl.size), h.rn.keep h.kb (KeepBut.of_below hb b row), h.rn⟩
theorem PrS.from_ (h : PrS w0 W wx b r0 row s) : PrS w0 wx wx b row row s := ⟨h.bd, h.bl, KeepBut.refl _ _ _, RN.refl _ _⟩
theorem PrS.then_ (h : PrS w0 W wx b r0 row s) (k : PrS w0 wx w1 b row r1 s') : PrS w0 W w1 b r0 r1 s' :=
  ⟨k.bd, k.bl, h.rn.keep h.kb k.kb, h.rn.trans k.rn h.kb.1⟩
theorem PrS.wrote {t : By} (h : PrS w0 W wx b r0 row s) (k : BW 93 [.bool s.2] w0.heap.size b row t wx w1) : ∃ r1, PrS w0 W w1 b r0 r1 (t, s.2) := by
  obtain ⟨r1, h1, h2⟩ := k.out
  exact ⟨r1, h1, h.bl.trans k.bl, h.rn.keep h.kb k.kb, h.rn.trans h2 h.kb.1⟩
theorem PrS.blk (h : PrS w0 W wx b r0 row s) : ∃ p v, wx.heap[b]? = some (.cells (bcells p v [.bool s.2]) 93 (0, 0)) := by
  obtain ⟨p, _, hB, v, hb, _⟩ := h.bd.any
  exact ⟨p, v, hb⟩
theorem BK.flag {T : TypeId} {g g' : Bool} {B : Nat} {p : Value} {t : By} (h : BK T [.bool g] B b p row t wx) : BK T [.bool g'] B b p row t (wx.setCell ⟨b, 2, none⟩ (.bool g')) := by
  obtain ⟨hB, v, hb, hR, hv, hne⟩ := h
  have hR2 := Kd.own_of_R (h1 := fun _ => rfl) hR
  exact ⟨hB, v, by rw [heap_setCell_same wx b 2 _ _ _ hb]; simp [bcells], Kd.R_of_own (h1 := fun _ => rfl) (own_setCell hR2 (p := ⟨b, 2, none⟩) (by rw [hv]; exact Ne.symm hne) _) (fun _ _ => trivial), hv, hne⟩
theorem PrS.flag (h : PrS w0 W wx b r0 row s) (g : Bool) : PrS w0 W (wx.setCell ⟨b, 2, none⟩ (.bool g)) b r0 row (s.1, g) := by
  obtain ⟨p, hp, hk⟩ := h.bd.any
  exact ⟨BI.of hp hk.flag, h.bl.setCell (p := ⟨b, 2, none⟩) hk.1 _, h.kb.set_ 2 _, h.rn⟩
end
set_option maxHeartbeats 4000000 in
set_option maxRecDepth 100000 in
theorem word_calls {w0 W wx : World} {b : Nat} {r0 row : Option Nat} {s : TS} (h : PrS w0 W wx b r0 row s) (x : ByteArray) (hl : s.1.length + x.size + 1 ≤ 140737488355328) :
    Calls Tryd.prog 53 #[.pointer (some ⟨b, 0, none⟩), .string x] wx fun e w' => e = .returned (.tuple #[]) ∧ ∃ r1, PrS w0 W w' b r0 r1 (addW s (bs x)) := by
  have HX := Aside0.mk h
  obtain ⟨p, v, hb⟩ := h.blk
  obtain ⟨t, g⟩ := s
  have q2 : wx.cell? ⟨b, 2, none⟩ = some (.bool g) := (blk_cell hb 2).trans rfl
  have HL : Aside0 (t.length + x.size + 1 ≤ 140737488355328) := ⟨hl⟩
  clear h hb hl
  cases g with
  | true =>
    go_enter Tryd.func53, Tryd.ntmps53
    go_upto_region 2 with (go_at_call 56; refine (wbyte_calls (txP true) HX.out.bd 32 (by have := HL.out; show t.length + 1 ≤ 140737488355328; omega)).mono ?_; rintro e w1 ⟨rfl, hw⟩; obtain ⟨r1, h1⟩ := HX.out.wrote hw; clear HX hw q2; have HX := Aside0.mk h1; clear h1)
    go_upto_region 3 with (go_at_call 80; refine (wstr_calls (txP true) HX.out.bd x (by have := HL.out; show (t ++ [32]).length + x.size ≤ 140737488355328; rw [List.length_append]; simp only [List.length_singleton]; omega)).mono ?_; rintro e w2 ⟨rfl, hw⟩; obtain ⟨r2, h2⟩ := HX.out.wrote hw; clear HX hw; have HX := Aside0.mk h2; clear h2)
    obtain ⟨p2, v2, hb2⟩ := HX.out.blk
    have d2 : w2.cell? ⟨b, 2, none⟩ = some (.bool true) := (blk_cell hb2 2).trans rfl
    have f2 : w2.frozen? ⟨b, 2, none⟩ = false := blk_frozen hb2 2
    clear hb2
    go_wp2_with fail
    go_end0
    refine ⟨rfl, r2, ?_⟩
    have := HX.out.flag true
    simpa [addW] using this
  | false =>
    go_enter Tryd.func53, Tryd.ntmps53
    go_upto_region 3 with (go_at_call 80; refine (wstr_calls (txP false) HX.out.bd x (by have := HL.out; show t.length + x.size ≤ 140737488355328; omega)).mono ?_; rintro e w2 ⟨rfl, hw⟩; obtain ⟨r2, h2⟩ := HX.out.wrote hw; clear HX hw q2; have HX := Aside0.mk h2; clear h2)
    obtain ⟨p2, v2, hb2⟩ := HX.out.blk
    have d2 : w2.cell? ⟨b, 2, none⟩ = some (.bool false) := (blk_cell hb2 2).trans rfl
    have f2 : w2.frozen? ⟨b, 2, none⟩ = false := blk_frozen hb2 2
    clear hb2
    go_wp2_with fail
    go_end0
    refine ⟨rfl, r2, ?_⟩
    have := HX.out.flag true
    simpa [addW] using this
set_option maxHeartbeats 4000000 in
set_option maxRecDepth 100000 in
theorem end_calls {w0 W wx : World} {b : Nat} {r0 row : Option Nat} {s : TS} (h : PrS w0 W wx b r0 row s) (hl : s.1.length + 1 ≤ 140737488355328) :
    Calls Tryd.prog 31 #[.pointer (some ⟨b, 0, none⟩)] wx fun e w' => e = .returned (.tuple #[]) ∧ ∃ r1, PrS w0 W w' b r0 r1 (endL s) := by
  have HX := Aside0.mk h
  have HL := Aside0.mk hl
  clear h hl
  go_enter Tryd.func31, Tryd.ntmps31
  go_upto_region 1 with (go_at_call 56; refine (wbyte_calls (txP s.2) HX.out.bd 10 HL.out).mono ?_; rintro e w1 ⟨rfl, hw⟩; obtain ⟨r1, h1⟩ := HX.out.wrote hw; clear HX hw; have HX := Aside0.mk h1; clear h1)
  obtain ⟨p2, v2, hb2⟩ := HX.out.blk
  have d2 : w1.cell? ⟨b, 2, none⟩ = some (.bool s.2) := (blk_cell hb2 2).trans rfl
  have f2 : w1.frozen? ⟨b, 2, none⟩ = false := blk_frozen hb2 2
  clear hb2
  go_wp2_with fail
  go_end0
  refine ⟨rfl, r1, ?_⟩
  exact HX.out.flag false
end Go.Proofs.YtnbfebjcfhbhiaaDoor.Bw
end
section
namespace Go.Proofs.YtnbfebjcfhbhiaaDoor.Bw
open Go Go.RowKit Go.Proofs.YtnbfebjcfhbhiaaDoor.P Go.Proofs.YtnbfebjcfhbhiaaDoor.Sc Go.Proofs.YtnbfebjcfhbhiaaDoorW.PrintWords Go.Proofs.YtnbfebjcfhbhiaaDoorW.PrintLast Go.Proofs.YtnbfebjcfhbhiaaDoorW.PrintMore
set_option linter.unusedVariables false
set_option linter.unusedSimpArgs false
/-- The library's table of powers stands. -/
def TB (w : World) : Prop := Lib.TabIs Tryd.prog w "internal/strconv.uint64pow10" .u64 Lib.pow10Tab
theorem TB.below {w0 w : World} (h : TB w0) (hb : Below w0.heap.size w0 w) : TB w := by
  unfold TB Lib.TabIs World.var? at *
  cases hg : Tryd.prog.globalNamed "internal/strconv.uint64pow10" with
  | none => rw [hg] at h; simp at h
  | some g =>
    rw [hg] at h
    simp only [Option.bind_some] at h ⊢
    cases ho : w0.heap[g]? with
    | none => rw [ho] at h; simp at h
    | some o => rw [hb.block g (blk_lt ho), ho]; rw [ho] at h; exact h
theorem grow_below (w : World) (k : Nat) (os : Array Obj) : Below w.heap.size w (Sort.grow (w.drewN k) os) :=
  ⟨rfl, rfl, rfl, by simp [Sort.grow], fun i hi => by simp [Sort.grow, Array.getElem?_append, hi]⟩
theorem itoa_calls {w0 w : World} (hT : TB w0) (hb : Below w0.heap.size w0 w) (n : Int) (h : inI n) : Calls Tryd.prog 54 #[.int .i64 n] w fun e w' => e = .returned (.string (sb (numW n))) ∧ Below w.heap.size w w' := by
  refine (Tryd.strconv_Itoa n h.1 h.2 w (hT.below hb)).mono ?_
  rintro e w' ⟨he, k, os, rfl⟩
  exact ⟨he, grow_below _ _ _⟩
/-- A row of bytes that stays, whatever is put. -/
def BR (w : World) (b : Nat) (row : Option Nat) (A : Option Addr) (d : By) : Prop := ∀ W', KeepBut w W' b row → Kd.C (Kd.int .u8) W' A d.length (Sc.nums d)
/-- The value is the word. -/
def WV (w : World) (b : Nat) (row : Option Nat) : Wd → Value → Prop
  | .str s, v => v = .iface 9 (.string (sb s))
  | .int n, v => v = .iface 3 (.int .i64 n)
  | .err n, v => v = .iface 30 (.int .i64 n)
  | .bytes d, v => ∃ A c, v = .iface 46 (.slice A d.length c) ∧ BR w b row A d
  | .epoch r k, v => v = .iface 131 (.agg #[.int .i64 r, .int .i64 k])
  | .rights x y, v => v = .iface 134 (.agg #[.int .i64 x, .int .i64 y])
  | .call x y, v => v = .iface 43 (.agg #[.int .i64 x, .int .i64 y])
  | .op k n x y, v => v = .iface 45 (.agg #[.int .i64 k, .string (sb n), .int .i64 x, .int .i64 y])
theorem BR.keep {w w1 : World} {b : Nat} {row row1 : Option Nat} {A : Option Addr} {d : By} (h : BR w b row A d) (k : KeepBut w w1 b row) (hr : RN w row row1) : BR w1 b row1 A d :=
  fun W' hk => h W' (hr.keep k hk)
theorem BR.now {w : World} {b : Nat} {row : Option Nat} {A : Option Addr} {d : By} (h : BR w b row A d) : Kd.C (Kd.int .u8) w A d.length (Sc.nums d) := h w (KeepBut.refl _ _ _)
theorem WV.keep {w w1 : World} {b : Nat} {row row1 : Option Nat} {x : Wd} {v : Value} (h : WV w b row x v) (k : KeepBut w w1 b row) (hr : RN w row row1) : WV w1 b row1 x v := by
  cases x with
  | bytes d =>
    obtain ⟨A, c, rfl, hB⟩ := h
    exact ⟨A, c, rfl, hB.keep k hr⟩
  | _ => exact h
/-- A row of words that stays. -/
structure WVs (w : World) (b : Nat) (row : Option Nat) (A : Option Addr) (l : List Wd) : Prop where
  at_ : ∀ (i : Nat) x, l[i]? = some x → ∃ ad v, A = some ad ∧ WV w b row x v ∧ ∀ W', KeepBut w W' b row → W'.cell? (ad.add i) = some v
  len : l.length ≤ 9223372036854775807
theorem WVs.keep {w w1 : World} {b : Nat} {row row1 : Option Nat} {A : Option Addr} {l : List Wd} (h : WVs w b row A l) (k : KeepBut w w1 b row) (hr : RN w row row1) : WVs w1 b row1 A l :=
  ⟨fun i x hx => by
    obtain ⟨ad, v, e, hv, hc⟩ := h.at_ i x hx
    exact ⟨ad, v, e, hv.keep k hr, fun W' hk => hc W' (hr.keep k hk)⟩, h.len⟩
theorem WVs.drop {w : World} {b : Nat} {row : Option Nat} {A : Option Addr} {l : List Wd} (h : WVs w b row A l) {i : Nat} {x : Wd} (hx : l[i]? = some x) : ∃ ad v, A = some ad ∧ WV w b row x v ∧ w.cell? (ad.add i) = some v := by
  obtain ⟨ad, v, e, hv, hc⟩ := h.at_ i x hx
  exact ⟨ad, v, e, hv, hc w (KeepBut.refl _ _ _)⟩
/-- What has come from ahead of w0 stays. -/
theorem keep_came {w0 wx W' : World} {b : Nat} {row : Option Nat} (hb : Below w0.heap.size w0 wx) (h1 : w0.heap.size ≤ b) (h2 : ∀ k, row = some k → w0.heap.size ≤ k) (hk : KeepBut wx W' b row) : ∀ i, i < w0.heap.size → W'.heap[i]? = w0.heap[i]? :=
  fun i hi => (hk.2 i (Nat.lt_of_lt_of_le hi hb.size) (by omega) (fun e => by have := h2 i e.symm; omega)).trans (hb.block i hi)
theorem BR.came {w0 W wx : World} {b : Nat} {r0 row : Option Nat} {s : TS} {A : Option Addr} {d : By} (h : PrS w0 W wx b r0 row s) (hC : Kd.C (Kd.int .u8) w0 A d.length (Sc.nums d)) : BR wx b row A d :=
  fun W' hk => (Kd.heap_int .u8).C (keep_came h.bl h.bd.base (fun k hk => (h.bd.row_base k hk).1) hk) hC
/-- A new block stays. -/
theorem BR.made {wx w1 : World} {b : Nat} {row : Option Nat} {k : Nat} {d : By} (hk : wx.heap.size ≤ k) (hb : b < wx.heap.size) (hr : ∀ i, row = some i → i < wx.heap.size) (hC : Kd.C (Kd.int .u8) w1 (some ⟨k, 0, none⟩) d.length (Sc.nums d)) : BR w1 b row (some ⟨k, 0, none⟩) d := by
  intro W' hkk
  obtain ⟨h1, h2, h3⟩ := hC
  refine ⟨h1, h2, fun hn => ?_⟩
  obtain ⟨ad, e, h4⟩ := h3 hn
  refine ⟨ad, e, fun j p hj => ?_⟩
  obtain ⟨c, c1, c2, c3⟩ := h4 j p hj
  refine ⟨c, c1, c2, fun i u hu => ?_⟩
  obtain rfl := Option.some.inj e
  have hc := c3 i u hu
  rw [add_plain] at hc ⊢
  have hlt : k < w1.heap.size := World.block_lt_of_cell? w1 _ hc
  have e2 := hkk.2 k hlt (by omega) (fun e => by have := hr k e.symm; omega)
  unfold World.cell? at hc ⊢
  simp only at hc ⊢
  rw [e2]; exact hc
/-- A row of words that has just been built. -/
theorem WVs.made {w1 : World} {b : Nat} {row : Option Nat} {k T : Nat} {cs : Array Value} {l : List Wd} (hb : w1.heap[k]? = some (.cells cs T (0, 0))) (hkb : k ≠ b) (hkr : row ≠ some k) (hl : l.length ≤ 9223372036854775807) (h : ∀ (i : Nat) x, l[i]? = some x → ∃ v, cs[i]? = some v ∧ WV w1 b row x v) : WVs w1 b row (some ⟨k, 0, none⟩) l :=
  ⟨fun i x hx => by
    obtain ⟨v, h1, h2⟩ := h i x hx
    refine ⟨⟨k, 0, none⟩, v, rfl, h2, fun W' hk => ?_⟩
    rw [add_plain]
    exact (blk_cell ((hk.2 k (blk_lt hb) hkb (fun e => hkr e.symm)).trans hb) i).trans h1, hl⟩
end Go.Proofs.YtnbfebjcfhbhiaaDoor.Bw
end
