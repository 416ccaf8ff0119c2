/- texts that the proof needs, laid together by a program of this session. -/
import Derived.BigRegion
import Derived.Laws.Rows
import Derived.Laws.CopyOwn
import Derived.Deep.WholeRow
import Derived.Laws.RangeAny
import Derived.Lib.RuneCount
import Derived.Deep.AppendLies
import Derived.Lib.OthersKept
import Derived.Laws.Strings2
import Derived.Laws.ResultCell
import Derived.Test.YtnbfebjcfhbhiaaDoorKScriptBack8
section
namespace Go.Proofs.YtnbfebjcfhbhiaaDoor.Bw
open Go Go.RowKit Go.Proofs.YtnbfebjcfhbhiaaDoor.P Go.Proofs.YtnbfebjcfhbhiaaDoor.Sc Go.Proofs.YtnbfebjcfhbhiaaDoor.Lw Go.Proofs.YtnbfebjcfhbhiaaDoorW.PrintWords Go.Proofs.YtnbfebjcfhbhiaaDoorW.PrintLast Go.Proofs.YtnbfebjcfhbhiaaDoorW.PrintMore
set_option linter.unusedVariables false
set_option linter.unusedSimpArgs false
/-- In the loop over the parts. -/
def IL (w0 wx : World) (b X k : Nat) (row : Option Nat) (sA : TS) (t : ByteArray) (rec : St → Bool × List By × St) (x : St) (wr : World) (pos : Nat) (r1 : Option Nat) (s1 : TS) (x1 : St) : Prop :=
  PKX w0 wx wr b X k t pos row r1 s1 x1 ∧ sfit x1 ∧ ∃ done, s1 = addWs sA done ∧ tellG rec ((bs t).map partOf) x = ((tellG rec (((bs t).map partOf).drop pos) x1).1, done ++ (tellG rec (((bs t).map partOf).drop pos) x1).2.1, (tellG rec (((bs t).map partOf).drop pos) x1).2.2)
section
variable {w0 wx wr w1 : World} {b X k pos : Nat} {row r1 r2 : Option Nat} {sA s1 s2 : TS} {t : ByteArray} {rec : St → Bool × List By × St} {x x1 x2 : St} {p : Part}
theorem IL.word (h : IL w0 wx b X k row sA t rec x wr pos r1 s1 x1) (hd : ((bs t).map partOf).drop pos = p :: ((bs t).map partOf).drop (pos + 1)) (hp : p ≠ .o) (hk : PKX w0 wx w1 b X k t (pos + 1) row r2 s2 x2) (hs : s2 = addWs s1 [partW x1 p]) (hx : x2 = x1.zero p) : IL w0 wx b X k row sA t rec x w1 (pos + 1) r2 s2 x2 := by
  obtain ⟨_, hf, done, h1, h2⟩ := h
  subst hx
  refine ⟨hk, hf.zero p, done ++ [partW x1 p], by rw [hs, h1, addWs_append], ?_⟩
  rw [h2, hd, tellG_cons rec p hp]
  simp
theorem IL.op (h : IL w0 wx b X k row sA t rec x wr pos r1 s1 x1) (hr : ∀ x, sfit x → sfit (rec x).2.2) (hd : ((bs t).map partOf).drop pos = .o :: ((bs t).map partOf).drop (pos + 1)) (hk : PKX w0 wx w1 b X k t (pos + 1) row r2 s2 x2) (ht : (rec x1).1 = true) (hs : s2 = addWs s1 (rec x1).2.1) (hx : x2 = { (rec x1).2.2 with ok := 0 }) : IL w0 wx b X k row sA t rec x w1 (pos + 1) r2 s2 x2 := by
  obtain ⟨_, hf, done, h1, h2⟩ := h
  subst hx
  refine ⟨hk, (hr x1 hf).ok, done ++ (rec x1).2.1, by rw [hs, h1, addWs_append], ?_⟩
  rw [h2, hd]
  simp only [tellG, ht, if_true, List.append_assoc]
theorem IL.fail (h : IL w0 wx b X k row sA t rec x wr pos r1 s1 x1) (hd : ((bs t).map partOf).drop pos = .o :: ((bs t).map partOf).drop (pos + 1)) (ht : (rec x1).1 = false) (hs : s2 = addWs s1 (rec x1).2.1) : (tellG rec ((bs t).map partOf) x).1 = false ∧ s2 = addWs sA (tellG rec ((bs t).map partOf) x).2.1 ∧ (rec x1).2.2 = (tellG rec ((bs t).map partOf) x).2.2 := by
  obtain ⟨_, hf, done, h1, h2⟩ := h
  rw [h2, hd]
  simp only [tellG, ht, Bool.false_eq_true, if_false]
  exact ⟨trivial, by rw [hs, h1, addWs_append], trivial⟩
theorem IL.done (h : IL w0 wx b X k row sA t rec x wr pos r1 s1 x1) (hd : ((bs t).map partOf).drop pos = []) : (tellG rec ((bs t).map partOf) x).1 = true ∧ s1 = addWs sA (tellG rec ((bs t).map partOf) x).2.1 ∧ x1 = (tellG rec ((bs t).map partOf) x).2.2 := by
  obtain ⟨_, hf, done, h1, h2⟩ := h
  rw [h2, hd]
  simp only [tellG]
  exact ⟨trivial, by rw [h1, List.append_nil], trivial⟩
theorem IL.bound (h : IL w0 wx b X k row sA t rec x wr pos r1 s1 x1) {l r : List By} (hd : (tellG rec (((bs t).map partOf).drop pos) x1).2.1 = l ++ r) (hB : sA.1.length + lenW (tellG rec ((bs t).map partOf) x).2.1 ≤ 140737488355328) : s1.1.length + lenW l ≤ 140737488355328 := by
  obtain ⟨_, hf, done, h1, h2⟩ := h
  rw [h2] at hB
  simp only [hd, lenW_append] at hB
  have := addWs_len done sA
  rw [h1]; omega
end
theorem get_cell {p : Part} (h0 : p ≠ .d ∧ p ≠ .k ∧ p ≠ .o) (x : St) : (∀ dv, (stc x dv)[cellOf p]? = some (.int .i64 (x.get p))) ∧ (∀ dv, (stc x dv).setIfInBounds (cellOf p) (.int .i64 0) = stc (x.zero p) dv) ∧ (x.zero p).data = x.data ∧ partW x p = numW (x.get p) := by
  cases p <;> first | exact ⟨fun _ => rfl, fun _ => rfl, rfl, rfl⟩ | exact absurd rfl h0.1 | exact absurd rfl h0.2.1 | exact absurd rfl h0.2.2
/-- put of a text that is made bytes. -/
theorem nest_name {w0 W wx : World} {b T : Nat} {r0 row : Option Nat} {S : TS} {n : By} {c cc : Nat} (hT : TB w0) (hX : PrS w0 W wx b r0 row S) (hf : n.length ≤ 1099511627776) (hbd : S.1.length + lenW [textW n] ≤ 140737488355328) :
    Calls Tryd.prog 30 #[.pointer (some ⟨b, 0, none⟩), .slice (some ⟨(Lib.bytesWorld wx 5 (sb n)).heap.size, 0, none⟩) 1 c] ((Lib.bytesWorld wx 5 (sb n)).alloc (.cells #[.iface 46 (.slice (some ⟨wx.heap.size, 0, none⟩) (sb n).size cc)] T (0, 0))) fun e w' => e = .returned (.tuple #[]) ∧ ∃ r1, PrS w0 wx w' b row r1 (addWs S [textW n]) := by
  have h1 : Below wx.heap.size wx (Lib.bytesWorld wx 5 (sb n)) := bytes_below (Below.refl _ _) (Nat.le_refl _) _ _
  have h2 := h1.alloc h1.size (.cells #[.iface 46 (.slice (some ⟨wx.heap.size, 0, none⟩) (sb n).size cc)] T (0, 0))
  have hC : Kd.C (Kd.int .u8) (Lib.bytesWorld wx 5 (sb n)) (some ⟨wx.heap.size, 0, none⟩) n.length (Sc.nums n) := by
    have := bytes_reads wx 5 (sb n) (by rw [← bs_len, bs_sb]; omega)
    rw [nums_bytesOf, bs_sb, ← bs_len, bs_sb] at this
    exact Kd.C_of_reads (h1 := fun _ => rfl) this
  exact nest (l := [.bytes n]) (put_any _) hT hX h2 h1.size (heap_alloc_new _ _) (by simp) (vs1 ⟨_, _, rfl, BR.made (Nat.le_refl _) hX.bd.lt (fun i hi => (hX.bd.row_base i hi).2.1) (Kd.C_below hC ((Below.refl _ _).alloc (Nat.le_refl _) _))⟩) (by intro x hx; rw [List.mem_singleton.1 hx]; exact hf) hbd
theorem nest_data {w0 W wx : World} {b T : Nat} {r0 row : Option Nat} {S : TS} {d : By} {A : Option Addr} {c cc : Nat} (hT : TB w0) (hX : PrS w0 W wx b r0 row S) (hC : Kd.C (Kd.int .u8) w0 A d.length (Sc.nums d)) (hf : d.length ≤ 1099511627776) (hbd : S.1.length + lenW [textW d] ≤ 140737488355328) :
    Calls Tryd.prog 30 #[.pointer (some ⟨b, 0, none⟩), .slice (some ⟨wx.heap.size, 0, none⟩) 1 c] (wx.alloc (.cells #[.iface 46 (.slice A d.length cc)] T (0, 0))) fun e w' => e = .returned (.tuple #[]) ∧ ∃ r1, PrS w0 wx w' b row r1 (addWs S [textW d]) := by
  have h2 : Below wx.heap.size wx (wx.alloc (.cells #[.iface 46 (.slice A d.length cc)] T (0, 0))) := (Below.refl _ _).alloc (Nat.le_refl _) _
  exact nest (l := [.bytes d]) (put_any _) hT hX h2 (Nat.le_refl _) (heap_alloc_new _ _) (by simp) (vs1 ⟨_, _, rfl, BR.came (hX.below h2) hC⟩) (by intro x hx; rw [List.mem_singleton.1 hx]; exact hf) hbd
theorem nest_num {w0 W wx : World} {b T : Nat} {r0 row : Option Nat} {S : TS} {n : Int} {c : Nat} (hT : TB w0) (hX : PrS w0 W wx b r0 row S) (hf : inI n) (hbd : S.1.length + lenW [numW n] ≤ 140737488355328) :
    Calls Tryd.prog 30 #[.pointer (some ⟨b, 0, none⟩), .slice (some ⟨wx.heap.size, 0, none⟩) 1 c] (wx.alloc (.cells #[.iface 3 (.int .i64 n)] T (0, 0))) fun e w' => e = .returned (.tuple #[]) ∧ ∃ r1, PrS w0 wx w' b row r1 (addWs S [numW n]) := by
  exact nest (l := [.int n]) (put_any _) hT hX ((Below.refl _ _).alloc (Nat.le_refl _) _) (Nat.le_refl _) (heap_alloc_new _ _) (by simp) (vs1 rfl) (by intro x hx; rw [List.mem_singleton.1 hx]; exact hf) hbd
theorem nest_str {w0 W wx : World} {b T k : Nat} {r0 row : Option Nat} {S : TS} {n : ByteArray} {c : Nat} (hk : k = wx.heap.size) (hT : TB w0) (hX : PrS w0 W wx b r0 row S) (hf : (bs n).length ≤ 1099511627776) (hbd : S.1.length + lenW [bs n] ≤ 140737488355328) :
    Calls Tryd.prog 30 #[.pointer (some ⟨b, 0, none⟩), .slice (some ⟨k, 0, none⟩) 1 c] (wx.alloc (.cells #[.iface 9 (.string n)] T (0, 0))) fun e w' => e = .returned (.tuple #[]) ∧ ∃ r1, PrS w0 wx w' b row r1 (addWs S [bs n]) := by
  subst hk
  exact nest (l := [.str (bs n)]) (put_any _) hT hX ((Below.refl _ _).alloc (Nat.le_refl _) _) (Nat.le_refl _) (heap_alloc_new _ _) (by simp) (vs1 (by show _ = _; rw [sb_bs])) (by intro x hx; rw [List.mem_singleton.1 hx]; exact hf) hbd
theorem zero_ok (x : St) (p : Part) : (x.zero p).ok = x.ok := by cases p <;> rfl
theorem tellG0_ok : ∀ (ps : List Part) (x : St), (tellG tell0 ps x).2.2.ok = x.ok
  | [], x => rfl
  | p :: ps, x => by
    by_cases hp : p = .o
    · subst hp; rfl
    · rw [tellG_cons _ p hp]
      exact (tellG0_ok ps _).trans (zero_ok x p)
theorem tellF0_ok : ∀ (fs : List S153) (k : Int) (x : St), (tellF tell0 fs k x).2.2.ok = x.ok
  | [], k, x => rfl
  | f :: fs, k, x => by
    simp only [tellF]
    split
    · exact tellG0_ok _ _
    · exact tellF0_ok fs k x
/-- What a call of parts promises. -/
def PpC (rec : St → Bool × List By × St) (fs : List S153) : Prop := ∀ {w0 wx : World} {b X : Nat} {row : Option Nat} {s : TS} {x : St} {ad : Addr} {c : Nat} {kind : Int}, TB w0 → VS w0 → PX w0 wx wx b X row row s x → Kd.C k153 w0 (some ad) fs.length fs → sfit x → s.1.length + lenW (tellF rec fs kind x).2.1 ≤ 140737488355328 →
  Calls Tryd.prog 32 #[.pointer (some ⟨b, 0, none⟩), .pointer (some ⟨X, 0, none⟩), .int .i64 kind, .slice (some ad) fs.length c] wx fun e w' => e = .returned (.bool (tellF rec fs kind x).1) ∧ ∃ r1, PX w0 wx w' b X row r1 (addWs s (tellF rec fs kind x).2.1) (tellF rec fs kind x).2.2
theorem tellF_hit {rec : St → Bool × List By × St} {fs : List S153} {k : Int} {x : St} {i : Nat} {f : S153} (hx : fs[i]? = some f) (hk : f.f2 = k) : tellF rec (fs.drop i) k x = ((tellG rec ((bs f.f1).map partOf) x).1, bs f.f0 :: (tellG rec ((bs f.f1).map partOf) x).2.1, (tellG rec ((bs f.f1).map partOf) x).2.2) := by
  obtain ⟨hi, e⟩ := List.getElem?_eq_some_iff.1 hx
  rw [List.drop_eq_getElem_cons hi, e, tellF, if_pos hk]
theorem tellF_miss {rec : St → Bool × List By × St} {fs : List S153} {k : Int} {x : St} {i : Nat} {f : S153} (hx : fs[i]? = some f) (hk : ¬ f.f2 = k) : tellF rec (fs.drop i) k x = tellF rec (fs.drop (i + 1)) k x := by
  obtain ⟨hi, e⟩ := List.getElem?_eq_some_iff.1 hx
  rw [List.drop_eq_getElem_cons hi, e, tellF, if_neg hk]
set_option maxHeartbeats 32000000 in
set_option maxRecDepth 100000 in
theorem pp_gen (rec : St → Bool × List By × St) (fs : List S153) (hfl : fs.length ≤ 1000) (hasc : ∀ f ∈ fs, (∀ c ∈ bs f.f1, c.toNat < 128) ∧ (bs f.f0).length ≤ 1000) (hrf : ∀ x, sfit x → sfit (rec x).2.2) (hrec : ∀ f ∈ fs, .o ∈ (bs f.f1).map partOf → rec = tellOps ∧ PpC tell0 opFs) : PpC rec fs := by
  intro w0 wx b X row s x ad c kind hT hV hX hC hF hB
  have HT := Aside0.mk hT
  have HV := Aside0.mk hV
  have HX0 := Aside0.mk hX
  have HC := Aside0.mk hC
  have HF := Aside0.mk hF
  have HB := Aside0.mk hB
  have HA := Aside0.mk hasc
  have HRF := Aside0.mk hrf
  have HRC := Aside0.mk hrec
  have hln : (fs.length : Int) ≤ 1000 := by omega
  clear hT hV hX hC hF hB hasc hrf hrec hfl
  go_enter Tryd.func32, Tryd.ntmps32
  go_wp2_with fail
  go_loopw [10, 12, 13, 16] (fun _ _ _ s16 wr => ∃ i : Nat, s16 = .int .i64 i ∧ Aside0 (i ≤ fs.length ∧ (∃ r1, PX w0 wx wr b X row r1 s x) ∧ tellF rec fs kind x = tellF rec (fs.drop i) kind x)) (fun _ _ _ s16 _ => fs.length - (intOf s16).toNat)
  case atStart => exact ⟨0, rfl, ⟨Nat.zero_le _, ⟨row, HX0.out⟩, rfl⟩⟩
  case round =>
    obtain ⟨wo, rfl⟩ : ∃ wo : World, wo = wr := ⟨_, rfl⟩
    obtain ⟨i, rfl, hP⟩ := hrel
    obtain ⟨hi, ⟨r1, hX⟩, hE⟩ := hP.out
    have HX := Aside0.mk hX
    have HI := Aside0.mk hi
    have HE := Aside0.mk hE
    clear hP hX hi hE HX0
    by_cases hlt : i < fs.length
    · obtain ⟨f, hf⟩ : ∃ f, fs[i]? = some f := ⟨_, List.getElem?_eq_getElem hlt⟩
      have HFI := Aside0.mk hf
      have HMEM : Aside0 (f ∈ fs) := ⟨List.mem_of_getElem? hf⟩
      obtain ⟨ad', e, c0, c1, c2⟩ := at_T153 (Kd.C_below HC.out HX.out.pr.bl) (i : Int) (by omega) (by omega)
      obtain rfl := Option.some.inj e
      have hrd : rd_T153 fs (i : Int) = f := by unfold rd_T153; rw [Int.toNat_natCast, List.getD_eq_getElem?_getD, hf]; rfl
      rw [hrd, Int.toNat_natCast] at c0 c1 c2
      have hltI : (i : Int) < (fs.length : Int) := by omega
      have HLT := Aside0.mk hlt
      clear hf hrd e hlt
      obtain ⟨wa, hwa⟩ : ∃ wa, wa = wo.alloc (.cells #[.string f.f0, .string f.f1, .int .i64 f.f2] 153 (0, 0)) := ⟨_, rfl⟩
      have HWA := Aside0.mk hwa
      have HBA : Aside0 (Below wo.heap.size wo wa ∧ wa.heap[wo.heap.size]? = some (.cells #[.string f.f0, .string f.f1, .int .i64 f.f2] 153 (0, 0)) ∧ wa.heap.size = wo.heap.size + 1) := ⟨by rw [hwa]; exact ⟨(Below.refl _ _).alloc (Nat.le_refl _) _, heap_alloc_new _ _, by simp⟩⟩
      clear hwa
      by_cases hk : f.f2 = kind
      · have HK := Aside0.mk (tellF_hit (rec := rec) (x := x) HFI.out hk)
        subst hk
        go_upto_region 5 with fail
        rw [← HWA.out]
        have q0 : wa.cell? ⟨wo.heap.size, 0, none⟩ = some (.string f.f0) := (blk_cell HBA.out.2.1 0).trans rfl
        have HXA := Aside0.mk (HX.out.below HBA.out.1).from_
        have HBD0 : Aside0 (s.1.length + lenW (bs f.f0 :: (tellG rec ((bs f.f1).map partOf) x).2.1) ≤ 140737488355328) := ⟨by have := HB.out; rw [HE.out, HK.out] at this; exact this⟩
        have HS1 : Aside0 ((bs f.f0).length ≤ 1099511627776) := ⟨by have := (HA.out f HMEM.out).2; omega⟩
        have HS2 : Aside0 (s.1.length + lenW [bs f.f0] ≤ 140737488355328) := ⟨by have := HBD0.out; simp only [lenW] at this ⊢; omega⟩
        go_upto_region 6 with (go_at_call 30; (with_reducible refine (nest_str rfl HT.out HXA.out.pr HS1.out HS2.out).mono ?_); rintro e w2 ⟨rfl, r2, h2⟩; have H2 := Aside0.mk h2; clear h2 q0)
        have hb2 : w2.heap[wo.heap.size]? = some (.cells #[.string f.f0, .string f.f1, .int .i64 f.f2] 153 (0, 0)) := (H2.out.kb.2 _ (blk_lt HBA.out.2.1) (fun e => by have := HX.out.pr.bd.lt; omega) (fun e => by have := (HX.out.pr.bd.row_base _ e.symm).2.1; omega)).trans HBA.out.2.1
        have q1 : w2.cell? ⟨wo.heap.size, 1, none⟩ = some (.string f.f1) := (blk_cell hb2 1).trans rfl
        have HX2 := Aside0.mk ((HX.out.below HBA.out.1).call H2.out)
        have HIL : Aside0 (IL w0 wx b X w2.heap.size row (addWs s [bs f.f0]) f.f1 rec x (w2.iter f.f1 0) 0 r2 (addWs s [bs f.f0]) x) := ⟨by
          refine ⟨⟨Nat.zero_le _, World.iter_heap w2 f.f1 0, ⟨fun e => by have := HX2.out.pr.bd.lt; omega, fun e => by have := HX2.out.lt; omega, HX2.out.pr.bl.size, HX2.out.kp.1⟩, HX2.out.below ((Below.refl _ _).alloc (Nat.le_refl _) _)⟩, HF.out, [], rfl, rfl⟩⟩
        have HBD : Aside0 ((addWs s [bs f.f0]).1.length + lenW (tellG rec ((bs f.f1).map partOf) x).2.1 ≤ 140737488355328) := ⟨by have h1 := HBD0.out; have h2 := addWs_len [bs f.f0] s; simp only [lenW] at h1 h2; omega⟩
        have HFIN : Aside0 ((tellF rec fs f.f2 x).1 = (tellG rec ((bs f.f1).map partOf) x).1 ∧ addWs s (tellF rec fs f.f2 x).2.1 = addWs (addWs s [bs f.f0]) (tellG rec ((bs f.f1).map partOf) x).2.1 ∧ (tellF rec fs f.f2 x).2.2 = (tellG rec ((bs f.f1).map partOf) x).2.2) := ⟨by rw [HE.out, HK.out]; exact ⟨rfl, rfl, rfl⟩⟩
        have HRO : Aside0 (.o ∈ (bs f.f1).map partOf → rec = tellOps ∧ PpC tell0 opFs) := ⟨HRC.out f HMEM.out⟩
        have HAF : Aside0 (∀ c ∈ bs f.f1, c.toNat < 128) := ⟨(HA.out f HMEM.out).1⟩
        clear hb2 HX2 HXA H2 HX c0 c1 c2
        obtain ⟨t, ht⟩ : ∃ t, f.f1 = t := ⟨_, rfl⟩
        rw [ht] at q1 HIL HBD HFIN HRO HAF
        clear ht
        go_wp2_with fail
        go_loopw [12, 13] (fun _ _ wr => Aside0 (∃ pos r3 s3 x3, IL w0 wx b X w2.heap.size row (addWs s [bs f.f0]) t rec x wr pos r3 s3 x3)) (fun _ _ wr => t.size - wr.iterPos w2.heap.size)
        case atStart => exact ⟨0, r2, _, x, HIL.out⟩
        case round =>
          obtain ⟨pos, r3, s3, x3, hL⟩ := hrel.out
          have HL := Aside0.mk hL
          have hmu : wr.iterPos w2.heap.size = pos := by simp [World.iterPos, hL.1.it]
          have HMU := Aside0.mk hmu
          clear hrel HIL hmu
          by_cases hp : pos < t.size
          · have h128 : (t[pos]'hp).toNat < 128 := HAF.out (t[pos]'hp) (by unfold bs; exact Array.mem_toList_iff.2 (Array.getElem_mem _))
            have hnext : ∀ ty, (Instr.next (.pointer (some ⟨w2.heap.size, 0, none⟩)) true ty).run Tryd.prog wr = _ := fun ty => Lib.run_next_ascii_at wr w2.heap.size t pos ty hL.1.it hp h128
            have HX := Aside0.mk (hL.1.iter hp)
            obtain ⟨c1, hc⟩ : ∃ c, t[pos]'hp = c := ⟨_, rfl⟩
            have HDR : Aside0 (((bs t).map partOf).drop pos = partOf c1 :: ((bs t).map partOf).drop (pos + 1)) := ⟨by
              have hl : pos < ((bs t).map partOf).length := by rw [List.length_map, bs_len]; exact hp
              rw [List.drop_eq_getElem_cons hl]
              congr 1
              rw [List.getElem_map, ← hc]; rfl⟩
            have HMC : Aside0 (c1 ∈ bs t) := ⟨by rw [← hc]; unfold bs; exact Array.mem_toList_iff.2 (Array.getElem_mem _)⟩
            rw [hc] at hnext
            have HP := Aside0.mk hp
            clear hL hc h128 hp
            generalize wr.iterAt w2.heap.size t (pos + 1) = W1 at hnext HX
            obtain ⟨n, hn⟩ : ∃ n, c1.toNat = n := ⟨_, rfl⟩
            have HN := Aside0.mk hn
            rw [hn] at hnext
            obtain ⟨A3, c3, hb3, hC3⟩ := HX.out.px.st
            have HC3 := Aside0.mk hC3
            have HB3 := Aside0.mk hb3
            clear hb3 hC3
            by_cases h111 : n = 111
            · subst h111
              have hd : partOf c1 = .o := by unfold partOf; rw [hn]; rfl
              have HD : Aside0 (((bs t).map partOf).drop pos = .o :: ((bs t).map partOf).drop (pos + 1)) := ⟨by rw [HDR.out, hd]⟩
              have HR2 := Aside0.mk (HRO.out (by rw [← hd]; exact List.mem_map.2 ⟨c1, HMC.out, rfl⟩))
              have HRQ : Aside0 (rec x3 = tellF tell0 opFs x3.ok x3) := ⟨by rw [HR2.out.1]; rfl⟩
              obtain ⟨ao, co, ko, hoc, hoC⟩ := HV.out.ops
              have HOC := Aside0.mk hoC
              have HKO := Aside0.mk ko
              have q2 : W1.drew.cell? ⟨2, 0, none⟩ = some (.slice (some ao) opFs.length co) := (blk_cell ((HX.out.px.pr.bl.block _ (blk_lt ko)).trans ko) 0).trans rfl
              have q3 : W1.drew.cell? ⟨X, 4, none⟩ = some (.int .i64 x3.ok) := (blk_cell HB3.out 4).trans rfl
              have HXD := Aside0.mk (HX.out.below (below_drew (Below.refl W1.heap.size W1)))
              have HF3 : Aside0 (sfit x3) := ⟨HL.out.2.1⟩
              obtain ⟨ok, hok⟩ : ∃ ok, (tellF tell0 opFs x3.ok x3).1 = ok := ⟨_, rfl⟩
              have HOK := Aside0.mk hok
              have HBO : Aside0 (s3.1.length + lenW (tellF tell0 opFs x3.ok x3).2.1 ≤ 140737488355328) := ⟨by
                rw [← HRQ.out]
                cases ok with
                | true => exact HL.out.bound (r := (tellG rec (((bs t).map partOf).drop (pos + 1)) { (rec x3).2.2 with ok := 0 }).2.1) (by rw [HD.out]; simp only [tellG]; rw [HRQ.out, hok]; rfl) HBD.out
                | false => exact HL.out.bound (r := []) (by rw [HD.out]; simp only [tellG]; rw [HRQ.out, hok]; simp) HBD.out⟩
              clear hn hd ko hoc hoC hok
              have HCL := Aside0.mk (HR2.out.2 (kind := x3.ok) (c := co) HT.out HV.out HXD.out.px.from_ HOC.out HF3.out HBO.out)
              go_upto_region 14 with fail
              go_region_held3 (fun w' => w'.cell? ⟨X, 4, none⟩ = some (.int .i64 x3.ok) ∧ w'.cell? ⟨2, 0, none⟩ = some (.slice (some ao) opFs.length co)) (first | exact ⟨q3, q2⟩) (first
                | (go_at_call 32; (with_reducible refine HCL.out.mono ?_); rintro e w5 ⟨rfl, r5, h5⟩; have HY := Aside0.mk (HXD.out.inner h5); clear h5 q2 q3; have q2 : w5.cell? ⟨2, 0, none⟩ = some (.slice (some ao) opFs.length co) := (blk_cell ((HY.out.px.pr.bl.block _ (blk_lt HKO.out)).trans HKO.out) 0).trans rfl; obtain ⟨A5, c5, hb5, _⟩ := HY.out.px.st; have q3 : w5.cell? ⟨X, 4, none⟩ = some (.int .i64 x3.ok) := (blk_cell hb5 4).trans (congrArg (fun n => some (Value.int .i64 n)) (tellF0_ok opFs x3.ok x3)); clear hb5))
              clear q2 q3
              rw [HOK.out]
              cases ok with
              | true =>
                obtain ⟨A5, c5, hb5, _⟩ := HY.out.px.st
                have p1 := (blk_cell hb5 4).trans rfl
                have p2 := blk_frozen hb5 4
                clear hb5
                go_wp2_with fail
                go_roundw
                case rel => exact ⟨pos + 1, r5, _, _, HL.out.op HRF.out HD.out (HY.out.set (x' := ({ (tellF tell0 opFs x3.ok x3).2.2 with ok := 0 } : St)) 4 (.int .i64 0) rfl (fun _ => rfl)) (by rw [HRQ.out]; exact HOK.out) (by rw [HRQ.out]) (by rw [HRQ.out])⟩
                case measure =>
                  have hh : (w5.setCell ⟨X, 4, none⟩ (.int .i64 0)).iterPos w2.heap.size = pos + 1 := by simp [World.iterPos, (HY.out.set (x' := ({ (tellF tell0 opFs x3.ok x3).2.2 with ok := 0 } : St)) 4 (.int .i64 0) rfl (fun _ => rfl)).it]
                  rw [hh, HMU.out]; have := HP.out; omega
              | false =>
                go_wp2_with fail
                go_ret
                obtain ⟨g1, g2, g3⟩ := HL.out.fail HD.out (by rw [HRQ.out]; exact HOK.out) rfl
                rw [HRQ.out] at g2 g3
                refine ⟨?_, r5, ?_⟩
                · rw [HFIN.out.1, g1]; rfl
                · rw [HFIN.out.2.1, HFIN.out.2.2, ← g2, ← g3]; exact HY.out.px
            by_cases h107 : n = 107
            · subst h107
              have hd : partOf c1 = .k := by unfold partOf; rw [hn]; rfl
              have HD : Aside0 (((bs t).map partOf).drop pos = .k :: ((bs t).map partOf).drop (pos + 1)) := ⟨by rw [HDR.out, hd]⟩
              have q5 : W1.cell? ⟨X, 5, none⟩ = some (.string (sb x3.name)) := (blk_cell HB3.out 5).trans rfl
              have HBW : Aside0 (s3.1.length + lenW [textW x3.name] ≤ 140737488355328) := ⟨HL.out.bound (l := [textW x3.name]) (r := (tellG rec (((bs t).map partOf).drop (pos + 1)) (x3.zero .k)).2.1) (by rw [HD.out]; rfl) HBD.out⟩
              have HFN : Aside0 (x3.name.length ≤ 1099511627776) := ⟨by obtain ⟨_, _, _, _, _, _, _, _, _, h, _⟩ := HL.out.2.1; exact h⟩
              have kb := fun W => print_bytes (P := Tryd.prog) 9 46 5 Tryd.underlying9 Tryd.underlying46 Tryd.underlying5 (sb x3.name) W
              clear h111 hd hn
              go_wp2_with (go_at_call 30; (with_reducible refine (nest_name HT.out HX.out.px.pr HFN.out HBW.out).mono ?_); rintro e w3 ⟨rfl, r5, h5⟩; have HY := Aside0.mk (HX.out.call h5); clear h5 q5; obtain ⟨A5, c5, hb5, _⟩ := HY.out.px.st; have p1 := (blk_cell hb5 5).trans rfl; have p2 := blk_frozen hb5 5; clear hb5)
              go_roundw
              case rel => exact ⟨pos + 1, r5, _, _, HL.out.word HD.out (by decide) (HY.out.set (x' := x3.zero .k) 5 (.string ⟨#[]⟩) rfl (fun _ => rfl)) rfl rfl⟩
              case measure =>
                have hh : (w3.setCell ⟨X, 5, none⟩ (.string ⟨#[]⟩)).iterPos w2.heap.size = pos + 1 := by simp [World.iterPos, (HY.out.set (x' := x3.zero .k) 5 (.string ⟨#[]⟩) rfl (fun _ => rfl)).it]
                rw [hh, HMU.out]; have := HP.out; omega
            by_cases h100 : n = 100
            · subst h100
              have hd : partOf c1 = .d := by unfold partOf; rw [hn]; rfl
              have HD : Aside0 (((bs t).map partOf).drop pos = .d :: ((bs t).map partOf).drop (pos + 1)) := ⟨by rw [HDR.out, hd]⟩
              have q5 : W1.cell? ⟨X, 10, none⟩ = some (.slice A3 x3.data.length c3) := (blk_cell HB3.out 10).trans rfl
              have HBW : Aside0 (s3.1.length + lenW [textW x3.data] ≤ 140737488355328) := ⟨HL.out.bound (l := [textW x3.data]) (r := (tellG rec (((bs t).map partOf).drop (pos + 1)) (x3.zero .d)).2.1) (by rw [HD.out]; rfl) HBD.out⟩
              have HFN : Aside0 (x3.data.length ≤ 1099511627776) := ⟨by obtain ⟨_, _, _, _, _, _, _, _, _, _, h⟩ := HL.out.2.1; exact h⟩
              clear h111 h107 hd hn
              go_wp2_with (go_at_call 30; (with_reducible refine (nest_data HT.out HX.out.px.pr HC3.out HFN.out HBW.out).mono ?_); rintro e w3 ⟨rfl, r5, h5⟩; have HY := Aside0.mk (HX.out.call h5); clear h5 q5; obtain ⟨A5, c5, hb5, _⟩ := HY.out.px.st; have p1 := (blk_cell hb5 10).trans rfl; have p2 := blk_frozen hb5 10; clear hb5)
              go_roundw
              case rel => exact ⟨pos + 1, r5, _, _, HL.out.word HD.out (by decide) HY.out.nodata rfl rfl⟩
              case measure =>
                have hh : (w3.setCell ⟨X, 10, none⟩ (.slice none 0 0)).iterPos w2.heap.size = pos + 1 := by simp [World.iterPos, HY.out.nodata.it]
                rw [hh, HMU.out]; have := HP.out; omega
            · have hp0 : partOf c1 ≠ .d ∧ partOf c1 ≠ .k ∧ partOf c1 ≠ .o := by
                unfold partOf; rw [hn]
                refine ⟨?_, ?_, ?_⟩ <;> (repeat' split) <;> simp_all
              have e1 : ((n : Int) == 111) = false := by simp; omega
              have e2 : ((n : Int) == 107) = false := by simp; omega
              have e3 : ((n : Int) == 100) = false := by simp; omega
              obtain ⟨q, hq⟩ : ∃ q, partOf c1 = q := ⟨_, rfl⟩
              have HQ := Aside0.mk hq
              rw [hq] at hp0
              have HQ0 := Aside0.mk hp0
              have HG := Aside0.mk (get_cell hp0 x3)
              have HD : Aside0 (((bs t).map partOf).drop pos = q :: ((bs t).map partOf).drop (pos + 1)) := ⟨by rw [HDR.out, hq]⟩
              have HBW : Aside0 (s3.1.length + lenW [numW (x3.get q)] ≤ 140737488355328) := ⟨HL.out.bound (l := [numW (x3.get q)]) (r := (tellG rec (((bs t).map partOf).drop (pos + 1)) (x3.zero q)).2.1) (by rw [HD.out, tellG_cons rec q hp0.2.2, HG.out.2.2.2]; rfl) HBD.out⟩
              have HFN : Aside0 (inI (x3.get q)) := ⟨HL.out.2.1.get q⟩
              clear h111 h107 h100 hq hn hp0
              go_wp2_with (first
                | (go_at_call 57; rw [← HN.out]; refine (field_calls _ X c1).mono ?_; rintro e w3 ⟨rfl, hb⟩; rw [HQ.out]; have n0_ := Aside0.mk (HX.out.below hb); have q6 : w3.cell? ⟨X, cellOf q, none⟩ = some (.int .i64 (x3.get q)) := (blk_cell ((hb.block X (blk_lt HB3.out)).trans HB3.out) (cellOf q)).trans (HG.out.1 _); clear HX hb; have HX := n0_; clear n0_)
                | (go_at_call 30; (with_reducible refine (nest_num HT.out HX.out.px.pr HFN.out HBW.out).mono ?_); rintro e w4 ⟨rfl, r5, h5⟩; have HY := Aside0.mk (HX.out.call h5); clear h5 q6; obtain ⟨A5, c5, hb5, _⟩ := HY.out.px.st; have p1 := (blk_cell hb5 (cellOf q)).trans (HG.out.1 _); have p2 := blk_frozen hb5 (cellOf q); clear hb5))
              go_roundw
              case rel => exact ⟨pos + 1, r5, _, _, HL.out.word HD.out HQ0.out.2.2 (HY.out.set (x' := x3.zero q) (cellOf q) (.int .i64 0) HG.out.2.2.1 HG.out.2.1) (by rw [HG.out.2.2.2]) rfl⟩
              case measure =>
                have hh : (w4.setCell ⟨X, cellOf q, none⟩ (.int .i64 0)).iterPos w2.heap.size = pos + 1 := by simp [World.iterPos, (HY.out.set (x' := x3.zero q) (cellOf q) (.int .i64 0) HG.out.2.2.1 HG.out.2.1).it]
                rw [hh, HMU.out]; have := HP.out; omega
          · have hnext : ∀ ty, (Instr.next (.pointer (some ⟨w2.heap.size, 0, none⟩)) true ty).run Tryd.prog wr = _ := fun ty => Lib.run_next_end_at wr w2.heap.size t pos ty hL.1.it hp
            have HEN : Aside0 (((bs t).map partOf).drop pos = []) := ⟨List.drop_eq_nil_of_le (by rw [List.length_map, bs_len]; omega)⟩
            clear hL
            go_wp2_with fail
            go_ret
            obtain ⟨g1, g2, g3⟩ := HL.out.done HEN.out
            refine ⟨?_, r3, ?_⟩
            · rw [HFIN.out.1, g1]; rfl
            · rw [HFIN.out.2.1, HFIN.out.2.2, ← g2, ← g3]; exact HL.out.1.px
      · have HM := Aside0.mk (tellF_miss (rec := rec) (x := x) HFI.out hk)
        have hkI : (f.f2 != kind) = true := by simp; exact hk
        clear hk
        go_upto_region 4 with fail
        rw [← HWA.out]
        have q2 : wa.cell? ⟨wo.heap.size, 2, none⟩ = some (.int .i64 f.f2) := (blk_cell HBA.out.2.1 2).trans rfl
        go_wp2_with fail
        go_roundw
        case rel => exact ⟨i + 1, by go_num, ⟨HLT.out, ⟨r1, HX.out.below HBA.out.1⟩, by rw [HE.out, HM.out]⟩⟩
        case measure => simp [intOf]; have := HLT.out; omega
    · have hge : ¬ (i : Int) < (fs.length : Int) := by omega
      have HZ : Aside0 (tellF rec fs kind x = (false, [], x)) := ⟨by rw [HE.out, List.drop_eq_nil_of_le (by omega)]; rfl⟩
      clear hlt
      go_wp2_with fail
      go_ret
      refine ⟨?_, r1, ?_⟩
      · rw [HZ.out]; rfl
      · rw [HZ.out]; exact HX.out
theorem opFs_ok : ∀ f ∈ opFs, (∀ c ∈ bs f.f1, c.toNat < 128) ∧ (bs f.f0).length ≤ 1000 := by
  intro f hf
  obtain ⟨i, hi, e⟩ := List.getElem_of_mem hf
  refine ⟨(opFs_parts i f (by rw [List.getElem?_eq_getElem hi, e])).2.2.1, ?_⟩
  have h1 : bs f.f0 ∈ wordsOf opFs := List.mem_map.2 ⟨f, hf, rfl⟩
  rw [opFs_ws] at h1
  exact (by decide : ∀ w ∈ opWs, w.length ≤ 1000) _ h1
theorem stepFs_ok : ∀ f ∈ stepFs, (∀ c ∈ bs f.f1, c.toNat < 128) ∧ (bs f.f0).length ≤ 1000 := by
  intro f hf
  obtain ⟨i, hi, e⟩ := List.getElem_of_mem hf
  refine ⟨(stepFs_parts i f (by rw [List.getElem?_eq_getElem hi, e])).2.2, ?_⟩
  have h1 : bs f.f0 ∈ wordsOf stepFs := List.mem_map.2 ⟨f, hf, rfl⟩
  rw [stepFs_ws] at h1
  exact (by decide : ∀ w ∈ stepWs, w.length ≤ 1000) _ h1
theorem parts_ops : PpC tell0 opFs := pp_gen tell0 opFs (by decide) opFs_ok (fun _ h => h) (fun f hf ho => by
  obtain ⟨i, hi, e⟩ := List.getElem_of_mem hf
  have h := opFs_parts i f (by rw [List.getElem?_eq_getElem hi, e])
  rw [h.1] at ho
  exact absurd ho h.2.2.2)
theorem parts_steps : PpC tellOps stepFs := pp_gen tellOps stepFs (by decide) stepFs_ok tellOps_fit (fun _ _ _ => ⟨rfl, parts_ops⟩)
end Go.Proofs.YtnbfebjcfhbhiaaDoor.Bw
end
section
namespace Go.Proofs.YtnbfebjcfhbhiaaDoor.Lw
open Go Go.RowKit Go.Proofs.YtnbfebjcfhbhiaaDoor.P Go.Proofs.YtnbfebjcfhbhiaaDoor.Sc Go.Proofs.YtnbfebjcfhbhiaaDoorW.PrintWords Go.Proofs.YtnbfebjcfhbhiaaDoorW.PrintLast Go.Proofs.YtnbfebjcfhbhiaaDoorW.PrintMore
set_option linter.unusedVariables false
set_option linter.unusedSimpArgs false
def nump (b : Nat) (i : Nat) : Value := .pointer (some ⟨b, i, none⟩)
def numps (b : Nat) : Array Value := #[nump b 0, nump b 1, nump b 2, nump b 3, nump b 4, nump b 5, nump b 6, nump b 7, nump b 8, nump b 9]
set_option maxHeartbeats 4000000 in
set_option maxRecDepth 100000 in
theorem cfgnums_calls (w : World) (b : Nat) : Calls Tryd.prog 29 #[.pointer (some ⟨b, 0, none⟩)] w fun e w' => ∃ G T, e = .returned (.slice (some ⟨G, 0, none⟩) 10 10) ∧ w.heap.size ≤ G ∧ w'.heap[G]? = some (.cells (numps b) T (0, 0)) ∧ Below w.heap.size w w' := by
  have hu25 := Tryd.underlying25
  go_enter Tryd.func29, Tryd.ntmps29
  go_upto_region 1 with fail
  go_region
  go_wp2_with fail
  go_ret
  exact ⟨w.heap.size, _, rfl, Nat.le_refl _, heap_alloc_new w (.cells (numps b) _ (0, 0)), pw_below_drewN ((Below.refl _ w).alloc (Nat.le_refl _) _) 1⟩
end Go.Proofs.YtnbfebjcfhbhiaaDoor.Lw
end
section
namespace Go.Proofs.YtnbfebjcfhbhiaaDoor.Lw
open Go Go.RowKit Go.Proofs.YtnbfebjcfhbhiaaDoor.P Go.Proofs.YtnbfebjcfhbhiaaDoor.Sc Go.Proofs.YtnbfebjcfhbhiaaDoorW.PrintWords Go.Proofs.YtnbfebjcfhbhiaaDoorW.PrintLast Go.Proofs.YtnbfebjcfhbhiaaDoorW.PrintMore
set_option linter.unusedVariables false
set_option linter.unusedSimpArgs false
def cfl (c : List Int) : List Int := c ++ List.replicate (10 - c.length) 0
def cfc (c : List Int) : Array Value := ((cfl c).map (Value.int .i64)).toArray
theorem cfl_len {c : List Int} (h : c.length ≤ 10) : (cfl c).length = 10 := by simp [cfl]; omega
theorem cfc_size {c : List Int} (h : c.length ≤ 10) : (cfc c).size = 10 := by simp [cfc, cfl_len h]
theorem cfl_set (c : List Int) (v : Int) (h : c.length < 10) : (cfl c).set c.length v = cfl (c ++ [v]) := by
  unfold cfl
  rw [List.set_append_right _ _ (Nat.le_refl _), Nat.sub_self, List.append_assoc]
  congr 1
  rw [List.length_append, List.length_singleton, show 10 - c.length = (10 - (c.length + 1)) + 1 by omega, List.replicate_succ]
  rfl
theorem cfc_set (c : List Int) (v : Int) (h : c.length < 10) : (cfc c).setIfInBounds c.length (.int .i64 v) = cfc (c ++ [v]) := by
  unfold cfc
  rw [← cfl_set c v h, List.map_set]
  simp
theorem cfc_at {c : List Int} {i : Nat} (hc : c.length ≤ 10) (h : i < 10) : ∃ u, (cfc c)[i]? = some (.int .i64 u) := by
  have : i < (cfl c).length := by rw [cfl_len hc]; exact h
  exact ⟨(cfl c)[i], by simp [cfc, this]⟩
/-- The i-th word. -/
def cfgW (i : Nat) : By := (cfgW0 :: cfgWs).getD i []
def cfgFrom : Nat → Rd (List Int)
  | 0 => cfgP
  | i + 1 => cfgGo (cfgWs.drop i)
theorem cfgFrom_s (i : Nat) (h : i < 9) (l : By) : cfgFrom (i + 1) l = (byteP 32 l).bnd fun _ l => (namedP (cfgW (i + 1)) l).bnd fun n l => (cfgFrom (i + 2) l).bnd fun x l => .good (n :: x) l := by
  have hl : i < cfgWs.length := h
  show cfgGo (cfgWs.drop i) l = _
  rw [List.drop_eq_getElem_cons hl]
  have : cfgW (i + 1) = cfgWs[i] := by
    unfold cfgW
    rw [List.getD_cons_succ, List.getD_eq_getElem?_getD, List.getElem?_eq_getElem hl]; rfl
  rw [this]
  rfl
theorem pst_cfg_0 {r r1 r' : R Unit} {v : Int} {x : List Int} (h : Pst (namedP (cfgW 0)) r v r1) (h2 : Pst (cfgFrom 1) r1 x r') : Pst (cfgFrom 0) r (v :: x) r' := by
  have h1 := h.bnd (q := fun n l => (cfgFrom 1 l).bnd fun x l => .good (n :: x) l) (h2.bnd (q := fun x l => R.good (v :: x) l) (Pst.ret _ _))
  exact h1
theorem pst_cfg_s {i : Nat} {r r1 r2 r' : R Unit} {v : Int} {x : List Int} (hi : i < 9) (h0 : Pst (byteP 32) r () r1) (h : Pst (namedP (cfgW (i + 1))) r1 v r2) (h2 : Pst (cfgFrom (i + 2)) r2 x r') : Pst (cfgFrom (i + 1)) r (v :: x) r' := by
  have h1 := h0.bnd (q := fun _ l => (namedP (cfgW (i + 1)) l).bnd fun n l => (cfgFrom (i + 2) l).bnd fun x l => .good (n :: x) l) (h.bnd (q := fun n l => (cfgFrom (i + 2) l).bnd fun x l => .good (n :: x) l) (h2.bnd (q := fun x l => R.good (v :: x) l) (Pst.ret _ _)))
  have e : (fun l => (byteP 32 l).bnd fun _ l => (namedP (cfgW (i + 1)) l).bnd fun n l => (cfgFrom (i + 2) l).bnd fun x l => .good (n :: x) l) = cfgFrom (i + 1) := by funext l; rw [cfgFrom_s i hi]
  rw [← e]; exact h1
theorem pst_one {s a : ByteArray} {n : Int} {r r' : R Unit} {x : S153} (h : OnePost [⟨s, a, n⟩] 0 0 r x r') : ∃ j, Pst (oneP [bs s]) r j r' := by
  unfold OnePost at h
  cases r with
  | bad l => exact ⟨0, h.1⟩
  | good u l =>
    simp only [List.drop_zero, wordsOf, List.map_cons, List.map_nil] at h
    cases hw : oneFrom [bs s] 0 0 l with
    | bad l' => rw [hw] at h; exact ⟨0, by unfold Pst; simp only [oneP, hw]; exact h.1⟩
    | good j l' => rw [hw] at h; exact ⟨j, by unfold Pst; simp only [oneP, hw]; exact ⟨trivial, h.2⟩⟩
theorem pst_named {w : By} {r r1 r2 r3 : R Unit} {j : Nat} {v : Int} (h1 : Pst (oneP [w]) r j r1) (h2 : Pst (byteP 32) r1 () r2) (h3 : Pst numP r2 v r3) : Pst (namedP w) r v r3 :=
  h1.bnd (q := fun _ l => (byteP 32 l).bnd fun _ l => numP l) (h2.bnd (q := fun _ l => numP l) h3)
/-- What the words' variable holds. -/
def VC (w : World) : Prop := ∃ T, w.heap[0]? = some (.cells (((cfgW0 :: cfgWs).map (fun x => Value.string (sb x))).toArray) T (0, 0))
theorem VC.below {w0 w : World} (h : VC w0) (hb : Below w0.heap.size w0 w) : VC w := by
  obtain ⟨T, h⟩ := h
  exact ⟨T, (hb.block _ (blk_lt h)).trans h⟩
theorem VC.cell {w : World} (h : VC w) {i : Nat} (hi : i < 10) : w.cell? ⟨0, i, none⟩ = some (.string (sb (cfgW i))) := by
  obtain ⟨T, h⟩ := h
  refine (blk_cell h i).trans ?_
  have hl : i < (cfgW0 :: cfgWs).length := hi
  unfold cfgW
  rw [List.getD_eq_getElem?_getD, List.getElem?_eq_getElem hl]
  simp only [List.getElem?_toArray, List.getElem?_map, List.getElem?_eq_getElem hl, Option.map_some, Option.getD_some]
theorem form_one {w : World} {k T : Nat} {s a : ByteArray} {n : Int} (h : w.heap[k]? = some (.cells #[.string s, .string a, .int .i64 n] T (0, 0))) : Kd.C k153 w (some ⟨k, 0, none⟩) [(⟨s, a, n⟩ : S153)].length [(⟨s, a, n⟩ : S153)] := by
  refine ⟨rfl, by simp, fun _ => ⟨_, rfl, fun j p hj => ?_⟩⟩
  have hj0 : j = 0 := by
    rcases j with _ | j
    · rfl
    · simp at hj
  subst hj0
  obtain rfl : _ = p := by simpa using hj
  refine ⟨_, rfl, k153_mk w _, fun i u hu => ?_⟩
  have e : (⟨k, 0, none⟩ : Addr).add i = ⟨k, i, none⟩ := by unfold Addr.add; split <;> simp_all
  rw [Nat.zero_mul, Nat.zero_add, e]
  refine (blk_cell h _).trans ?_
  simpa using hu
structure CK (w0 wx wr : World) (g b G q : Nat) (t : ByteArray) (wh : Bool) (r : R Unit) (c : List Int) : Prop where
  ls : LS w0 wr wr g t wh r
  cf : wr.heap[b]? = some (.cells (cfc c) 25 (0, 0))
  gp : ∃ T, wr.heap[G]? = some (.cells (numps b) T (0, 0))
  rv : wr.heap[q]? = some (.cells (cfc []) 25 (0, 0))
  pl : g < wx.heap.size ∧ wx.heap.size ≤ q ∧ q < b ∧ b < G
  kb : KeepBut wx wr g none
section
variable {w0 wx wr w1 : World} {g b G q : Nat} {t : ByteArray} {wh : Bool} {r r' : R Unit} {c : List Int}
theorem CK.call (h : CK w0 wx wr g b G q t wh r c) (k : LS w0 wr w1 g t wh r') : CK w0 wx w1 g b G q t wh r' c := by
  obtain ⟨T, h3⟩ := h.gp
  have hp := h.pl
  have hk := k.keep.2
  refine ⟨k.from_, (hk b (blk_lt h.cf) (by omega) (by simp)).trans h.cf, ⟨T, (hk G (blk_lt h3) (by omega) (by simp)).trans h3⟩, (hk q (blk_lt h.rv) (by omega) (by simp)).trans h.rv, hp, h.kb.trans k.keep (.inl rfl)⟩
theorem CK.below (h : CK w0 wx wr g b G q t wh r c) (hb : Below wr.heap.size wr w1) : CK w0 wx w1 g b G q t wh r c := h.call (h.ls.below hb)
theorem CK.gcell (h : CK w0 wx wr g b G q t wh r c) {i : Nat} (hi : i < 10) : wr.cell? ⟨G, i, none⟩ = some (.pointer (some ⟨b, i, none⟩)) := by
  obtain ⟨T, h3⟩ := h.gp
  refine (blk_cell h3 i).trans ?_
  match i, hi with
  | 0, _ => rfl | 1, _ => rfl | 2, _ => rfl | 3, _ => rfl | 4, _ => rfl | 5, _ => rfl | 6, _ => rfl | 7, _ => rfl | 8, _ => rfl | 9, _ => rfl
theorem CK.set (h : CK w0 wx wr g b G q t wh r c) (hc : c.length < 10) (v : Int) : CK w0 wx (wr.setCell ⟨b, c.length, none⟩ (.int .i64 v)) g b G q t wh r (c ++ [v]) := by
  obtain ⟨T, h3⟩ := h.gp
  have hp := h.pl
  have hsz := h.ls.bel.size
  have hk := fun i (hi : i ≠ b) => Below.heap_setCell wr ⟨b, c.length, none⟩ (.int .i64 v) i hi
  obtain ⟨a, bd, k1, k2, k3, k4, k5⟩ := h.ls
  have hw0 : w0.heap.size ≤ b := by have := k1.2; omega
  refine ⟨⟨a, bd, ⟨(hk g (by omega)).trans k1.1, k1.2⟩, k2, k3.setCell (p := ⟨b, c.length, none⟩) hw0 _, KeepBut.refl _ _ _, k5⟩, ?_, ⟨T, (hk G (by omega)).trans h3⟩, (hk q (by omega)).trans h.rv, hp, ?_⟩
  · rw [heap_setCell_same wr b c.length _ _ _ h.cf, cfc_set c v hc]
  · exact ⟨by simpa [World.setCell] using h.kb.1, fun i hi hg hn => (hk i (by omega)).trans (h.kb.2 i hi hg hn)⟩
end
end Go.Proofs.YtnbfebjcfhbhiaaDoor.Lw
end
section
namespace Go.Proofs.YtnbfebjcfhbhiaaDoor.Lw
open Go Go.RowKit Go.Proofs.YtnbfebjcfhbhiaaDoor.P Go.Proofs.YtnbfebjcfhbhiaaDoor.Sc Go.Proofs.YtnbfebjcfhbhiaaDoorW.PrintWords Go.Proofs.YtnbfebjcfhbhiaaDoorW.PrintLast Go.Proofs.YtnbfebjcfhbhiaaDoorW.PrintMore
set_option linter.unusedVariables false
set_option linter.unusedSimpArgs false
theorem inf25 : (Tryd.prog.info? 25).map (·.size) = some 10 := by kernel_rfl
theorem inf25c {c : List Int} (h : c.length ≤ 10) : (Tryd.prog.info? 25).map (·.size) = some (cfc c).size := by rw [cfc_size h]; exact inf25
theorem cfc_one (c : List Int) : (cfc c).all (·.oneCell') = true := by simp [cfc, Value.oneCell', Array.all_eq_true]
theorem one_cfg {w0 wx wr : World} {g b G q T i : Nat} {t : ByteArray} {wh : Bool} {r : R Unit} {c : List Int} (h : CK w0 wx wr g b G q t wh r c) :
    Calls Tryd.prog 60 #[.pointer (some ⟨g, 0, none⟩), .slice (some ⟨wr.heap.size, 0, none⟩) 1 1] (wr.alloc (.cells #[.string (sb (cfgW i)), .string ⟨#[]⟩, .int .i64 0] T (0, 0))) fun e w' => ∃ (x : S153) (r' : R Unit) (j : Nat), e = .returned (.agg #[.string x.f0, .string x.f1, .int .i64 x.f2]) ∧ CK w0 wx w' g b G q t wh r' c ∧ Pst (oneP [cfgW i]) r j r' := by
  have h2 := h.below ((Below.refl _ wr).alloc (Nat.le_refl _) (.cells #[.string (sb (cfgW i)), .string ⟨#[]⟩, .int .i64 0] T (0, 0)))
  have hg : g < wr.heap.size := by have := h.pl; have := h.kb.1; omega
  refine (one_calls (fs := [(⟨sb (cfgW i), ⟨#[]⟩, 0⟩ : S153)]) h2.ls (some ⟨wr.heap.size, 0, none⟩) 1 (by simp) (Kd.C_foot_ne (fun h => h) (form_one (heap_alloc_new wr _)) (fun ad e _ => by cases e; show wr.heap.size ≠ g; omega)) (by simp)).mono ?_
  rintro e w' ⟨x, r', he, hl, hP⟩
  obtain ⟨j, hj⟩ := pst_one hP
  rw [bs_sb] at hj
  exact ⟨x, r', j, he, h2.call hl, hj⟩
/-- Ahead of a word stands a blank, but for the first. -/
def Pre (i : Nat) (r r' : R Unit) : Prop := if i = 0 then r' = r else Pst (byteP 32) r () r'
theorem pst_pre {i : Nat} {r r1 r2 r' : R Unit} {v : Int} {x : List Int} (hi : i < 10) (h0 : Pre i r r1) (h : Pst (namedP (cfgW i)) r1 v r2) (h2 : Pst (cfgFrom (i + 1)) r2 x r') : Pst (cfgFrom i) r (v :: x) r' := by
  cases i with
  | zero => obtain rfl : r1 = r := h0; exact pst_cfg_0 h h2
  | succ i => exact pst_cfg_s (by omega) h0 h h2
def CP (w0 wx : World) (g b G q : Nat) (t : ByteArray) (wh : Bool) (r0 : R Unit) (i : Nat) (wr : World) : Prop := i ≤ 10 ∧ ∃ r c, c.length = i ∧ CK w0 wx wr g b G q t wh r c ∧ ∀ r' x', Pst (cfgFrom i) r x' r' → Pst cfgP r0 (c ++ x') r'
set_option maxHeartbeats 8000000 in
set_option maxRecDepth 100000 in
theorem config_calls {w0 W wx : World} {g : Nat} {t : ByteArray} {wh : Bool} {r : R Unit} (hV : VS w0) (hC : VC w0) (h : LS w0 W wx g t wh r) :
    Calls Tryd.prog 39 #[.pointer (some ⟨g, 0, none⟩)] wx fun e w' => ∃ x at' bad' r', e = .returned (.agg (cfc x)) ∧ x.length = 10 ∧ IsS109 w0 w' g t at' wh bad' ∧ Below w0.heap.size w0 w' ∧ KeepBut wx w' g none ∧ Pst cfgP r x r' ∧ EndP t wh r' at' bad' ∧ (left r').length ≤ t.size := by
  have HV := Aside0.mk hV
  have HC := Aside0.mk hC
  have hu25 := Tryd.underlying25
  have HX := Aside0.mk h.from_
  have HG : Aside0 (g < wx.heap.size ∧ w0.heap.size ≤ g) := ⟨by obtain ⟨_, _, hk, _, hg⟩ := h.blk; exact ⟨blk_lt hk, hg⟩⟩
  obtain ⟨wa, hwa⟩ : ∃ wa, wa = (wx.alloc (.cells (cfc []) 25 (0, 0))).alloc (.cells (cfc []) 25 (0, 0)) := ⟨_, rfl⟩
  have HWA := Aside0.mk hwa
  have HA : Aside0 (Below wx.heap.size wx wa ∧ wa.heap[wx.heap.size]? = some (.cells (cfc []) 25 (0, 0)) ∧ wa.heap[wx.heap.size + 1]? = some (.cells (cfc []) 25 (0, 0)) ∧ wa.heap.size = wx.heap.size + 2) := ⟨by
    rw [hwa]
    refine ⟨((Below.refl _ _).alloc (Nat.le_refl _) _).alloc (by simp) _, ?_, ?_, by simp⟩
    · rw [heap_alloc_old _ _ (by simp)]; exact heap_alloc_new wx _
    · have := heap_alloc_new (wx.alloc (.cells (cfc []) 25 (0, 0))) (.cells (cfc []) 25 (0, 0))
      simpa using this⟩
  clear hV h hwa hC
  go_enter Tryd.func39, Tryd.ntmps39
  go_upto_region 2 with fail
  rw [show ((#[.int .i64 0, .int .i64 0, .int .i64 0, .int .i64 0, .int .i64 0, .int .i64 0, .int .i64 0, .int .i64 0, .int .i64 0, .int .i64 0] : Array Value)) = cfc [] from rfl, ← HWA.out]
  go_wp2_with (go_at_call 29; refine (cfgnums_calls _ _).mono ?_; rintro e w1 ⟨G, T, rfl, hG, hGc, hb⟩; have HK : Aside0 (CP w0 wx g (wx.heap.size + 1) G wx.heap.size t wh r 0 w1) := ⟨⟨by omega, r, [], rfl, ⟨(HX.out.below (HA.out.1.trans (hb.mono (by have := HA.out.2.2.2; omega)))).from_, (hb.block _ (by have := HA.out.2.2.2; omega)).trans HA.out.2.2.1, ⟨T, hGc⟩, (hb.block _ (by have := HA.out.2.2.2; omega)).trans HA.out.2.1, ⟨HG.out.1, Nat.le_refl _, Nat.lt_succ_self _, by have := HA.out.2.2.2; omega⟩, KeepBut.of_below (HA.out.1.trans (hb.mono (by have := HA.out.2.2.2; omega))) g none⟩, fun r' x' hh => hh⟩⟩)
  go_loopw [4, 5, 8] (fun _ _ s wr => ∃ i : Nat, s = .int .i64 i ∧ Aside0 (CP w0 wx g (wx.heap.size + 1) G wx.heap.size t wh r i wr)) (fun _ _ s _ => 10 - (intOf s).toNat)
  case atStart => exact ⟨0, rfl, HK⟩
  case round =>
    obtain ⟨i, rfl, hP⟩ := hrel
    obtain ⟨hi10, r1, c1, hcl, hK, hCo⟩ := hP.out
    have HX1 := Aside0.mk hK
    have HCO := Aside0.mk hCo
    have HCL := Aside0.mk hcl
    clear hP hK hCo hcl HK
    by_cases hi : i < 10
    · have HI := Aside0.mk hi
      have q0 := HX1.out.gcell hi
      have q1 := (HC.out.below HX1.out.ls.bel).cell hi
      rcases Nat.eq_zero_or_pos i with h0 | h0
      · have HPre : Aside0 (Pre i r1 r1) := ⟨by unfold Pre; rw [if_pos h0]⟩
        have HX := HX1
        clear HX1
        subst h0
        go_upto_region 7 with fail
        go_wp2_with (first
          | (go_at_call 60; refine (one_cfg HX.out).mono ?_; rintro e w3 ⟨fx, r3, j, rfl, h3, hP⟩; have HJ := Aside0.mk hP; have n0_ := Aside0.mk h3; clear HX h3 hP q1; have HX := n0_; clear n0_)
          | (go_at_call 62; refine (blank_calls HX.out.ls).mono ?_; rintro e w4 ⟨rfl, r4, h4, hP⟩; have HB := Aside0.mk hP; have n0_ := Aside0.mk (HX.out.call h4); clear HX h4 hP; have HX := n0_; clear n0_)
          | (go_at_call 63; refine (number_calls HX.out.ls HV.out.err).mono ?_; rintro e w5 ⟨v, r5, rfl, h5, hP⟩; have HN := Aside0.mk hP; have n0_ := Aside0.mk (HX.out.call h5); clear HX h5 hP; have HX := n0_; clear n0_; obtain ⟨u, hu⟩ := cfc_at (c := c1) (i := 0) (by have := HCL.out; omega) HI.out; have p1 := (blk_cell HX.out.cf 0).trans hu; have p2 := blk_frozen HX.out.cf 0; clear hu))
        go_roundw
        case rel => exact ⟨0 + 1, by go_num, ⟨by have := HI.out; omega, r5, c1 ++ [v], by rw [List.length_append, HCL.out]; rfl, by have h := HX.out.set (by rw [HCL.out]; exact HI.out) v; rw [HCL.out] at h; exact h, fun r' x' h => by rw [List.append_assoc]; exact HCO.out r' (v :: x') (pst_pre HI.out HPre.out (pst_named HJ.out HB.out HN.out) h)⟩⟩
        case measure => simp [intOf]
      · go_upto_region 7 with (go_at_call 62; refine (blank_calls HX1.out.ls).mono ?_; rintro e w2 ⟨rfl, r2, h2, hP⟩; have HPre : Aside0 (Pre i r1 r2) := ⟨by unfold Pre; rw [if_neg (by omega)]; exact hP⟩; have HX := Aside0.mk (HX1.out.call h2); have q2 := (HC.out.below HX.out.ls.bel).cell hi; clear HX1 h2 hP q0 q1)
        go_wp2_with (first
          | (go_at_call 60; refine (one_cfg HX.out).mono ?_; rintro e w3 ⟨fx, r3, j, rfl, h3, hP⟩; have HJ := Aside0.mk hP; have n0_ := Aside0.mk h3; clear HX h3 hP q2; have HX := n0_; clear n0_)
          | (go_at_call 62; refine (blank_calls HX.out.ls).mono ?_; rintro e w4 ⟨rfl, r4, h4, hP⟩; have HB := Aside0.mk hP; have n0_ := Aside0.mk (HX.out.call h4); clear HX h4 hP; have HX := n0_; clear n0_)
          | (go_at_call 63; refine (number_calls HX.out.ls HV.out.err).mono ?_; rintro e w5 ⟨v, r5, rfl, h5, hP⟩; have HN := Aside0.mk hP; have n0_ := Aside0.mk (HX.out.call h5); clear HX h5 hP; have HX := n0_; clear n0_; obtain ⟨u, hu⟩ := cfc_at (c := c1) (i := i) (by have := HCL.out; omega) HI.out; have p1 := (blk_cell HX.out.cf i).trans hu; have p2 := blk_frozen HX.out.cf i; clear hu))
        go_roundw
        case rel => exact ⟨i + 1, by go_num, ⟨by have := HI.out; omega, r5, c1 ++ [v], by rw [List.length_append, HCL.out]; rfl, by have h := HX.out.set (by rw [HCL.out]; exact HI.out) v; rw [HCL.out] at h; exact h, fun r' x' h => by rw [List.append_assoc]; exact HCO.out r' (v :: x') (pst_pre HI.out HPre.out (pst_named HJ.out HB.out HN.out) h)⟩⟩
        case measure => simp [intOf]; have := HI.out; omega
    · obtain rfl : i = 10 := by omega
      have HP1 := Aside0.mk (HCO.out r1 [] (Pst.ret [] r1))
      go_upto_region 12 with (go_at_call 37; refine (ends_calls HX1.out.ls).mono ?_; rintro e w5 ⟨rfl, at', bad', h5, h6, h7, h8⟩; have HE := Aside0.mk (And.intro h5 (And.intro h6 (And.intro h7 h8))); clear h5 h6 h7 h8)
      have HB5 : Aside0 (w5.heap[wx.heap.size + 1]? = some (.cells (cfc c1) 25 (0, 0)) ∧ w5.heap[wx.heap.size]? = some (.cells (cfc []) 25 (0, 0))) := ⟨by
        have k := HE.out.2.2.1
        have hp := HX1.out.pl
        exact ⟨(k.2 _ (blk_lt HX1.out.cf) (by omega) (by simp)).trans HX1.out.cf, (k.2 _ (blk_lt HX1.out.rv) (by omega) (by simp)).trans HX1.out.rv⟩⟩
      go_wp2_with (first
        | ((with_reducible refine gate_dst (N := 33) rfl ?_); refine wpList_load_row rfl 25 (.tmp 3) rfl (wx.heap.size + 1) (by rfl) 25 (cfc c1) (0, 0) _ HB5.out.1 hu25 rfl (inf25c (by rw [HCL.out]; decide)) ?_)
        | (refine wpList_store_row rfl 25 (.tmp 2) (.tmp 33) rfl wx.heap.size (cfc c1) (by rfl) (by rfl) 25 _ HB5.out.2 (inf25c (by rw [HCL.out]; decide)) (by rw [cfc_size (by decide), cfc_size (by rw [HCL.out]; decide)]) (cfc_one _) ?_))
      refine bodyPost_ret (results_cell_row rfl _ _ wx.heap.size 25 (cfc c1) (0, 0) _ (by rfl) (setRow_blk HB5.out.2 _) hu25 rfl (inf25c (by rw [HCL.out]; decide))) rfl ?_
      have kE := HE.out
      have hp := HX1.out.pl
      have hg := HG.out
      have hw0 : w0.heap.size ≤ wx.heap.size := by have := hg.1; have := hg.2; omega
      refine ⟨c1, at', bad', r1, rfl, HCL.out, ⟨(setRow_far (by omega) _).trans kE.1.1, kE.1.2⟩, below_setRow kE.2.1 hw0 _, ?_, by simpa using HP1.out, kE.2.2.2, HX1.out.ls.size.2⟩
      refine ⟨?_, fun i hi hg hn => ?_⟩
      · have h1 := kE.2.2.1.1
        have h2 := HX1.out.kb.1
        simp only [World.setRow, Array.size_modify]
        omega
      · rw [setRow_far (by omega), kE.2.2.1.2 i (by have := HX1.out.kb.1; omega) hg (by simp)]
        exact HX1.out.kb.2 i hi hg (by simp)
end Go.Proofs.YtnbfebjcfhbhiaaDoor.Lw
end
section
namespace Go.Proofs.YtnbfebjcfhbhiaaDoor.Sc
open Go
set_option linter.unusedVariables false
theorem lines_nl : ∀ (a b : By), (∀ c ∈ a, c ≠ 10) → lines (a ++ 10 :: b) = (a, true) :: lines b
  | [], b, _ => by simp [lines]
  | c :: a, b, h => by
    have ih := lines_nl a b (fun x hx => h x (by simp [hx]))
    show lines (c :: (a ++ 10 :: b)) = _
    rw [lines, if_neg (h c (by simp)), ih]
theorem lines_end : ∀ (a : By), (∀ c ∈ a, c ≠ 10) → lines a = if a = [] then [] else [(a, false)]
  | [], _ => by simp [lines]
  | c :: a, h => by
    have ih := lines_end a (fun x hx => h x (by simp [hx]))
    rw [lines, if_neg (h c (by simp)), ih]
    cases a <;> simp
theorem get_bs (s : ByteArray) (j : Nat) (h : j < s.size) : s.get! j = (bs s)[j]'(by rw [bs_len]; exact h) := by
  have := get_at s j h
  simp only [Nat.add_zero] at this
  rw [this]; rfl
/-- A rune: it is the line's end, or none of its bytes is one. -/
theorem decode_nl (s : ByteArray) (pos : Nat) (h : pos < s.size) : ((s[pos]'h).toNat = 10 → Utf8.decode s pos = (10, 1)) ∧ ((s[pos]'h).toNat ≠ 10 → (Utf8.decode s pos).1 ≠ 10 ∧ pos + (Utf8.decode s pos).2 ≤ s.size ∧ ∀ j, pos ≤ j → j < pos + (Utf8.decode s pos).2 → (s.get! j).toNat ≠ 10) := by
  have hg := get_at s pos h
  simp only [Nat.add_zero] at hg
  refine ⟨fun e => by rw [decode_ascii s pos h (by omega), e], fun e => ?_⟩
  by_cases ha : (s[pos]'h).toNat < 128
  · rw [decode_ascii s pos h ha]
    refine ⟨e, by omega, fun j h1 h2 => ?_⟩
    obtain rfl : j = pos := by simp only at h2; omega
    rw [hg]; exact e
  · have h1 := decode_high s pos h (by omega)
    refine ⟨by omega, ?_⟩
    have hn : ¬ (s.get! (pos + 0)).toNat < 128 := by rw [Nat.add_zero, hg]; exact ha
    have key : ∀ n, n ≤ 4 → pos + n ≤ s.size → (∀ k, 1 ≤ k → k < n → (s.get! (pos + k)).toNat / 64 = 2) → (pos + n ≤ s.size ∧ ∀ j, pos ≤ j → j < pos + n → (s.get! j).toNat ≠ 10) := by
      intro n hn4 hsz hk
      refine ⟨hsz, fun j h1 h2 => ?_⟩
      by_cases hj : j = pos
      · subst hj; rw [hg]; exact e
      · have := hk (j - pos) (by omega) (by omega)
        rw [show pos + (j - pos) = j by omega] at this
        omega
    have k1 := key 1 (by omega) (by omega) (fun k a b => by omega)
    unfold Utf8.decode
    simp only [if_neg hn]
    repeat' split
    all_goals first
      | exact k1
      | (rename_i hc _; simp only [Bool.and_eq_true, decide_eq_true_eq, beq_iff_eq] at hc
         refine key _ (by simp) (by simp only; omega) (fun k a b => ?_)
         simp only at b
         obtain rfl | rfl | rfl : k = 1 ∨ k = 2 ∨ k = 3 := by omega
         all_goals first | omega | exact hc.2.2 | exact hc.1.2.2 | exact hc.1.1.2.2)
/-- What has been read: the lines that are whole, and where the next begins. -/
def Pos (s : ByteArray) (ls : List (By × Bool)) (f pos : Nat) : Prop := f ≤ pos ∧ pos ≤ s.size ∧ (∀ j, f ≤ j → j < pos → (s.get! j).toNat ≠ 10) ∧ lines (bs s) = ls ++ lines ((bs s).drop f)
theorem Pos.zero (s : ByteArray) : Pos s [] 0 0 := ⟨Nat.le_refl _, Nat.zero_le _, fun j h1 h2 => by omega, rfl⟩
theorem Pos.no (s : ByteArray) {ls : List (By × Bool)} {f pos : Nat} (h : Pos s ls f pos) : ∀ c ∈ ((bs s).take pos).drop f, c ≠ 10 := by
  obtain ⟨h1, h2, h3, h4⟩ := h
  intro c hc hc10
  obtain ⟨j, hj, e⟩ := List.getElem_of_mem hc
  have hl := bs_len s
  simp only [List.length_drop, List.length_take] at hj
  simp only [List.getElem_drop, List.getElem_take] at e
  have := h3 (f + j) (by omega) (by omega)
  rw [get_bs s (f + j) (by omega), e, hc10] at this
  exact this rfl
theorem Pos.cut (s : ByteArray) {ls : List (By × Bool)} {f pos : Nat} (h : Pos s ls f pos) : (bs s).drop f = ((bs s).take pos).drop f ++ (bs s).drop pos := by
  have h1 := h.1
  have := List.take_append_drop pos (bs s)
  conv => lhs; rw [← this]
  rw [List.drop_append, List.length_take]
  have hl := bs_len s
  have h2 := h.2.1
  rw [show f - min pos (bs s).length = 0 by omega, List.drop_zero]
theorem Pos.skip {s : ByteArray} {ls : List (By × Bool)} {f pos : Nat} (h : Pos s ls f pos) (hp : pos < s.size) (hn : (s[pos]'hp).toNat ≠ 10) : Pos s ls f (pos + (Utf8.decode s pos).2) := by
  obtain ⟨k1, k2, k3⟩ := (decode_nl s pos hp).2 hn
  obtain ⟨h1, h2, h3, h4⟩ := h
  exact ⟨by omega, k2, fun j a b => if hj : j < pos then h3 j a hj else k3 j (by omega) b, h4⟩
theorem Pos.line {s : ByteArray} {ls : List (By × Bool)} {f pos : Nat} (h : Pos s ls f pos) (hp : pos < s.size) (hn : (s[pos]'hp).toNat = 10) : Pos s (ls ++ [(bs (s.extract f pos), true)]) (pos + 1) (pos + 1) := by
  have hno := h.no
  have hcut := h.cut
  obtain ⟨h1, h2, h3, h4⟩ := h
  refine ⟨Nat.le_refl _, by omega, fun j a b => by omega, ?_⟩
  have hl : pos < (bs s).length := by rw [bs_len]; exact hp
  have hd : (bs s).drop pos = 10 :: (bs s).drop (pos + 1) := by
    rw [List.drop_eq_getElem_cons hl]
    congr 1
    have : (bs s)[pos] = s[pos]'hp := rfl
    rw [this]
    exact UInt8.toNat_inj.1 hn
  rw [h4, hcut, hd, lines_nl _ _ hno, bs_extract, List.append_assoc]
  rfl
theorem Pos.done {s : ByteArray} {ls : List (By × Bool)} {f pos : Nat} (h : Pos s ls f pos) (hp : ¬ pos < s.size) : lines (bs s) = ls ++ (if f < s.size then [(bs (s.extract f s.size), false)] else []) := by
  have hno := h.no
  have hcut := h.cut
  obtain ⟨h1, h2, h3, h4⟩ := h
  obtain rfl : pos = s.size := by omega
  have hl := bs_len s
  rw [List.drop_eq_nil_of_le (by omega : (bs s).length ≤ s.size), List.append_nil] at hcut
  rw [h4, hcut, lines_end _ hno, bs_extract]
  congr 1
  by_cases hf : f < s.size
  · rw [if_pos hf, if_neg]
    intro e
    have := congrArg List.length e
    simp at this
    omega
  · rw [if_neg hf, if_pos]
    exact List.drop_eq_nil_of_le (by rw [List.length_take]; omega)
end Go.Proofs.YtnbfebjcfhbhiaaDoor.Sc
end
section
namespace Go.Proofs.YtnbfebjcfhbhiaaDoor.Lw
open Go Go.RowKit Go.Proofs.YtnbfebjcfhbhiaaDoor.P Go.Proofs.YtnbfebjcfhbhiaaDoor.Sc Go.Proofs.YtnbfebjcfhbhiaaDoorW.PrintWords Go.Proofs.YtnbfebjcfhbhiaaDoorW.PrintLast Go.Proofs.YtnbfebjcfhbhiaaDoorW.PrintMore
set_option linter.unusedVariables false
set_option linter.unusedSimpArgs false
/-- append of one element that has just been laid. -/
theorem wpList_app1 {P : Program} {w : World} {ops : Array Oper} {rest : List Oper} {o : Oper} {a : Act} {Q : Exit → Act → World → Prop} (hgd : o.guard = none) (s x : Operand) (t : TypeId)
    (ho : o.op = .call { callee := .builtin .append, args := #[s, x], argTypes := #[t, t] })
    (base : Nat) (e : TypeId) (z : Value) (size bytes : Nat) (ht : P.underlying t = some (.slice e)) (hinfo : (P.info? e).map (fun i => (i.zero, i.size, i.bytes)) = some (some z, size, bytes))
    (hzs : z.cells.size = size) (hsz : 0 < size) (hb0 : 0 < bytes) (v : Value) (n : Nat) (xs : List Value) (hs : a.eval s = v) (hown : w.ownsRow base e size v n xs)
    (B c : Nat) (news : Array Value) (hx : a.eval x = .slice (some ⟨B, 0, none⟩) 1 c) (hB : w.heap[B]? = some (.cells news e (0, 0))) (hl : news.size = 1 * size) (h1 : ∀ u ∈ news.toList, u.oneCell' = true)
    (hbytes : (n + 1) * bytes ≤ 140737488355328) (hbase : base ≤ w.heap.size)
    (h : ∀ v' w', w'.ownsRow base e size v' (n + 1) (xs ++ news.toList) → w.grownBy w' v.ownBlock → wpList P ops Q rest (a.put o.dst v') w') : wpList P ops Q (o :: rest) a w := by
  obtain ⟨i, hi, hzz⟩ := Option.map_eq_some_iff.1 hinfo
  simp only [Prod.mk.injEq] at hzz
  obtain ⟨hz0, hz1, hz2⟩ := hzz
  have hle : n + 1 ≤ 140737488355328 := Nat.le_trans (Nat.le_mul_of_pos_right _ hb0) hbytes
  exact wpList_append_own w hgd s x t ho base e i z size bytes ht hi hz0 hz1 hz2 hzs hsz v n xs hs hown ⟨B, 0, none⟩ 1 c news.toList hx (by simpa using hl) (World.news_of_block hB) h1 (by simp only [maxLen]; omega) hbytes hbase (fun v' w' k1 k2 _ => h v' w' k1 k2)
def lc (x : By × Bool) : Array Value := #[.string (sb x.1), .int .i64 0, .bool x.2, .bool false]
def pt (k : Nat) : Value := .pointer (some ⟨k, 0, none⟩)
structure LN (w : World) (base : Nat) (v : Value) (ks : List Nat) (ls : List (By × Bool)) : Prop where
  own : w.ownsRow base 107 1 v ks.length (ks.map pt)
  len : ks.length = ls.length
  at_ : ∀ (j k : Nat) (x : By × Bool), ks[j]? = some k → ls[j]? = some x → w.heap[k]? = some (.cells (lc x) 109 (0, 0)) ∧ base ≤ k
  nd : ks.Nodup
section
variable {w w1 w' : World} {base : Nat} {v v' : Value} {ks : List Nat} {ls : List (By × Bool)} {x : By × Bool}
theorem LN.nil (w : World) (base : Nat) : LN w base (.slice none 0 0) [] [] := ⟨World.ownsRow_nil _ _ _ _, rfl, fun j k x h _ => by simp at h, List.nodup_nil⟩
theorem LN.move (h : LN w base v ks ls) (hm : ∀ k, base ≤ k → k < w.heap.size → w1.heap[k]? = w.heap[k]?) : LN w1 base v ks ls := by
  refine ⟨own_move h.own (fun k hk => ?_), h.len, fun j k x h1 h2 => ?_, h.nd⟩
  · obtain ⟨cells, hc⟩ := own_typed h.own k hk
    refine hm k ?_ (blk_lt hc)
    rcases h.own.2 with ⟨rfl, _⟩ | ⟨g, cap, cur, rfl, hg, _⟩
    · simp [Value.ownBlock] at hk
    · simp [Value.ownBlock] at hk; omega
  · obtain ⟨k1, k2⟩ := h.at_ j k x h1 h2
    exact ⟨(hm k k2 (blk_lt k1)).trans k1, k2⟩
theorem LN.below (h : LN w base v ks ls) (hb : Below w.heap.size w w1) : LN w1 base v ks ls := h.move (fun k _ hk => hb.block k hk)
theorem LN.lt (h : LN w base v ks ls) : ∀ k ∈ ks, k < w.heap.size := by
  intro k hk
  obtain ⟨j, hj, e⟩ := List.getElem_of_mem hk
  have hl := h.len
  exact blk_lt (h.at_ j k (ls[j]'(by omega)) (by rw [List.getElem?_eq_getElem hj, e]) (List.getElem?_eq_getElem _)).1
theorem LN.app (h : LN w base v ks ls) {k0 : Nat} (hk : w.heap[k0]? = some (.cells (lc x) 109 (0, 0))) (hb : base ≤ k0) (hn : k0 ∉ ks)
    (ho : w'.ownsRow base 107 1 v' (ks.length + 1) (ks.map pt ++ [pt k0])) (hg : w.grownBy w' v.ownBlock) : LN w' base v' (ks ++ [k0]) (ls ++ [x]) := by
  have hne : ∀ (k : Nat) (cells : Array Value), w.heap[k]? = some (Obj.cells cells 109 (0, 0)) → w'.heap[k]? = w.heap[k]? := fun k cells hc => hg.block k (blk_lt hc) (fun e => by
    obtain ⟨c2, hc2⟩ := own_typed h.own k e.symm
    rw [hc] at hc2
    simp at hc2)
  refine ⟨by simpa using ho, by simp [h.len], fun j k y h1 h2 => ?_, ?_⟩
  · by_cases hj : j < ks.length
    · rw [List.getElem?_append_left hj] at h1
      rw [List.getElem?_append_left (by have := h.len; omega)] at h2
      obtain ⟨q1, q2⟩ := h.at_ j k y h1 h2
      exact ⟨(hne k _ q1).trans q1, q2⟩
    · have hj2 : j = ks.length := by
        have := (List.getElem?_eq_some_iff.1 h1).1
        simp at this; omega
      subst hj2
      rw [List.getElem?_append_right (Nat.le_refl _)] at h1
      rw [h.len, List.getElem?_append_right (Nat.le_refl _)] at h2
      simp only [Nat.sub_self, List.getElem?_cons_zero, Option.some.injEq] at h1 h2
      subst h1; subst h2
      exact ⟨(hne _ _ hk).trans hk, hb⟩
  · rw [List.nodup_append]
    exact ⟨h.nd, by simp, fun a ha b hb2 => by simp at hb2; subst hb2; exact fun e => hn (e ▸ ha)⟩
theorem LN.grown (h : LN w base v ks ls) {B : Nat} (hB : B ≤ base) (hbs : base ≤ w.heap.size) (hg : w.grownBy w' v.ownBlock) {a : World} (hb : Below B a w) : Below B a w' :=
  hb.grown hg (by omega) (fun k hk => by
    rcases h.own.2 with ⟨rfl, _⟩ | ⟨g, cap, cur, rfl, hg, _⟩
    · simp [Value.ownBlock] at hk
    · simp [Value.ownBlock] at hk; omega)
end
def lv (t : ByteArray) (b : Bool) : Array Value := #[.string t, .int .i64 0, .bool b, .bool false]
theorem lv_lc (t : ByteArray) (b : Bool) : lv t b = lc (bs t, b) := by unfold lv lc; rw [sb_bs]
/-- What stands ahead of the append of a line. -/
theorem app_line {W1 : World} {base : Nat} {v : Value} {ks : List Nat} {ls : List (By × Bool)} (h : LN W1 base v ks ls) (hb : base ≤ W1.heap.size) (t : ByteArray) (b : Bool) (W3 : World) (hW : W3 = (W1.alloc (.cells (lv t b) 109 (0, 0))).alloc (.cells #[pt W1.heap.size] 107 (0, 0))) :
    W3.ownsRow base 107 1 v ks.length (ks.map pt) ∧ W3.heap[W1.heap.size + 1]? = some (.cells #[pt W1.heap.size] 107 (0, 0)) ∧ base ≤ W3.heap.size ∧ Below W1.heap.size W1 W3 ∧
    ∀ v' w', w'.ownsRow base 107 1 v' (ks.length + 1) (ks.map pt ++ [pt W1.heap.size]) → W3.grownBy w' v.ownBlock → LN w' base v' (ks ++ [W1.heap.size]) (ls ++ [(bs t, b)]) ∧ ∀ B a, B ≤ base → Below B a W1 → Below B a w' := by
  have hbl : Below W1.heap.size W1 W3 := by rw [hW]; exact ((Below.refl _ _).alloc (Nat.le_refl _) _).alloc (by simp) _
  have h3 := h.below hbl
  have hsz : W3.heap.size = W1.heap.size + 2 := by rw [hW]; simp
  have h0 : W3.heap[W1.heap.size]? = some (.cells (lv t b) 109 (0, 0)) := by
    rw [hW, heap_alloc_old _ _ (by simp)]; exact heap_alloc_new W1 _
  refine ⟨h3.own, ?_, by omega, hbl, fun v' w' k1 k2 => ⟨?_, fun B a hB ha => ?_⟩⟩
  · rw [hW]
    have := heap_alloc_new (W1.alloc (.cells (lv t b) 109 (0, 0))) (.cells #[pt W1.heap.size] 107 (0, 0))
    simpa using this
  · exact h3.app (x := (bs t, b)) (by rw [← lv_lc]; exact h0) hb (fun hh => Nat.lt_irrefl _ (h.lt _ hh)) k1 k2
  · exact h3.grown hB (by omega) k2 (ha.trans (hbl.mono (by omega)))
/-- In the loop: the iterator in block k. -/
structure LK (w0 wr : World) (s : ByteArray) (v : Value) (pos f : Nat) (ks : List Nat) (ls : List (By × Bool)) : Prop where
  ps : Pos s ls f pos
  it : wr.heap[w0.heap.size]? = some (.stringIter s pos)
  ln : LN wr (w0.heap.size + 1) v ks ls
  bl : Below w0.heap.size w0 wr
  nl : ls.length ≤ f
section
variable {w0 wr w1 : World} {s : ByteArray} {v : Value} {pos f : Nat} {ks : List Nat} {ls : List (By × Bool)}
theorem iterAt_other (w : World) (k : Nat) (s : ByteArray) (p i : Nat) (hi : i ≠ k) : (w.iterAt k s p).heap[i]? = w.heap[i]? := by
  simp only [World.iterAt, Array.getElem?_setIfInBounds]
  rw [if_neg (fun e => hi e.symm)]
/-- The iterator has gone on; what has been read is told anew. -/
theorem LK.iter (h : LK w0 wr s v pos f ks ls) (p2 : Nat) : (wr.iterAt w0.heap.size s p2).heap[w0.heap.size]? = some (.stringIter s p2) ∧ LN (wr.iterAt w0.heap.size s p2) (w0.heap.size + 1) v ks ls ∧ Below w0.heap.size w0 (wr.iterAt w0.heap.size s p2) := by
  refine ⟨Lib.iterAt_heap wr _ s pos p2 h.it, h.ln.move (fun k hk _ => iterAt_other wr _ s p2 k (by omega)), ?_⟩
  have hsz : (wr.iterAt w0.heap.size s p2).heap.size = wr.heap.size := by simp [World.iterAt]
  exact ⟨h.bl.os, h.bl.tape, h.bl.output, by rw [hsz]; exact h.bl.size, fun i hi => (iterAt_other wr _ s p2 i (by omega)).trans (h.bl.block i hi)⟩
end
end Go.Proofs.YtnbfebjcfhbhiaaDoor.Lw
end
section
namespace Go.Proofs.YtnbfebjcfhbhiaaDoor.Lw
open Go Go.RowKit Go.Proofs.YtnbfebjcfhbhiaaDoor.P Go.Proofs.YtnbfebjcfhbhiaaDoor.Sc Go.Proofs.YtnbfebjcfhbhiaaDoorW.PrintWords Go.Proofs.YtnbfebjcfhbhiaaDoorW.PrintLast Go.Proofs.YtnbfebjcfhbhiaaDoorW.PrintMore
set_option linter.unusedVariables false
set_option linter.unusedSimpArgs false
theorem inf107 : (Tryd.prog.info? 107).map (fun i => (i.zero, i.size, i.bytes)) = some (some (.pointer none), 1, 8) := by kernel_rfl
set_option maxHeartbeats 8000000 in
set_option maxRecDepth 100000 in
theorem lines_calls (w : World) (s : ByteArray) (hs : s.size ≤ 1048576) :
    Calls Tryd.prog 35 #[.string s] w fun e w' => ∃ v ks, e = .returned v ∧ LN w' w.heap.size v ks (Sc.lines (bs s)) ∧ Below w.heap.size w w' := by
  have HS := Aside0.mk hs
  have HL : Aside0 (LK w (w.iter s 0) s (.slice none 0 0) 0 0 [] []) := ⟨⟨Pos.zero s, World.iter_heap w s 0, LN.nil _ _, (Below.refl _ _).alloc (Nat.le_refl _) _, Nat.zero_le _⟩⟩
  clear hs
  go_enter Tryd.func35, Tryd.ntmps35
  go_wp2_with fail
  go_loopw [3, 4, 5, 6] (fun v3 v4 _ _ wr => Aside0 (∃ pos f : Nat, ∃ ks ls, v4 = .int .i64 f ∧ LK w wr s v3 pos f ks ls)) (fun _ _ _ _ wr => s.size - wr.iterPos w.heap.size)
  case atStart => exact ⟨0, 0, [], [], rfl, HL.out⟩
  case round =>
    obtain ⟨pos, f, ks, ls, rfl, hK⟩ := hrel.out
    have HK := Aside0.mk hK
    have hmu : wr.iterPos w.heap.size = pos := by simp [World.iterPos, hK.it]
    have HMU := Aside0.mk hmu
    clear hrel HL
    by_cases hp : pos < s.size
    · have hnext : ∀ ty, (Instr.next (.pointer (some ⟨w.heap.size, 0, none⟩)) true ty).run Tryd.prog wr = _ := fun ty => Lib.run_next_any_at wr w.heap.size s pos ty hK.it hp
      have hit := fun p2 => hK.iter p2
      by_cases hn : (s[pos]'hp).toNat = 10
      · have hd := (decode_nl s pos hp).1 hn
        rw [hd] at hnext
        have hi := hit (pos + 1)
        have HI := Aside0.mk hi
        have HP : Aside0 (Pos s (ls ++ [(bs (s.extract f pos), true)]) (pos + 1) (pos + 1)) := ⟨hK.ps.line hp hn⟩
        have h1 : (f : Int) ≤ (pos : Int) := by have := hK.ps.1; omega
        have h2 : (pos : Int) < (s.size : Int) := by omega
        have h3 : (s.size : Int) ≤ 1048576 := by have := HS.out; omega
        have h4 : (pos : Int) ≤ (s.size : Int) := by omega
        have hsl : (Instr.slice 9 (.string s) (some (.int .i64 (f : Int))) (some (.int .i64 (pos : Int))) none).run Tryd.prog (wr.iterAt w.heap.size s (pos + 1)) = .ok (.string (s.extract f pos)) (wr.iterAt w.heap.size s (pos + 1)) := run_slice_string _ 9 s .i64 .i64 f pos Tryd.underlying9 (by omega) h1 h4
        have hnl := hK.nl
        have hlen := hK.ln.len
        have H4 : Aside0 (ks.length + 1 ≤ 1048576 + 1) := ⟨by omega⟩
        clear hK hit hmu hn hd hi hnl hlen
        generalize wr.iterAt w.heap.size s (pos + 1) = W1 at hnext HI
        obtain ⟨W3, hW3⟩ : ∃ W3, W3 = (W1.alloc (.cells (lv (s.extract f pos) true) 109 (0, 0))).alloc (.cells #[pt W1.heap.size] 107 (0, 0)) := ⟨_, rfl⟩
        have HW3 := Aside0.mk hW3
        have HA := Aside0.mk (app_line HI.out.2.1 (by have := blk_lt HI.out.1; omega) (s.extract f pos) true W3 hW3)
        clear hW3
        have HNL : Aside0 (ls.length + 1 ≤ pos + 1) := ⟨by have := HK.out.nl; have := HK.out.ps.1; omega⟩
        go_wp2_with (at_builtin; rw [show (W1.alloc (.cells #[.string (s.extract f pos), .int .i64 0, .bool true, .bool false] 109)).alloc (.cells #[.pointer (some ⟨W1.heap.size, 0, none⟩)] 107) = W3 from HW3.out.symm]; refine wpList_app1 rfl _ _ 105 rfl (w.heap.size + 1) 107 (.pointer none) 1 8 Tryd.underlying105 inf107 rfl (by decide) (by decide) u3 _ _ (by rfl) HA.out.1 (W1.heap.size + 1) 1 #[pt W1.heap.size] (by rfl) HA.out.2.1 (by rfl) (by simp [pt, Value.oneCell']) (by have := H4.out; omega) HA.out.2.2.1 ?_; intro v' w' k1 k2; have HA2 := Aside0.mk (HA.out.2.2.2.2 v' w' k1 k2); clear k1 k2)
        have hit2 : w'.heap[w.heap.size]? = some (.stringIter s (pos + 1)) := ((HA2.out.2 _ _ (Nat.le_refl _) (Below.refl _ W1)).block _ (Nat.lt_succ_self _)).trans HI.out.1
        refine ⟨⟨pos + 1, pos + 1, _, _, by simp, ⟨HP.out, hit2, HA2.out.1, HA2.out.2 _ _ (by omega) HI.out.2.2, by rw [List.length_append]; exact HNL.out⟩⟩, ?_⟩
        have hh : w'.iterPos w.heap.size = pos + 1 := by simp [World.iterPos, hit2]
        rw [hh, HMU.out]; have := HP.out.2.1; omega
      · obtain ⟨h1, h2, h3⟩ := (decode_nl s pos hp).2 hn
        have HP : Aside0 (Pos s ls f (pos + (Utf8.decode s pos).2)) := ⟨hK.ps.skip hp hn⟩
        have hi := hit (pos + (Utf8.decode s pos).2)
        have HI := Aside0.mk hi
        have h0 := decode_le s pos
        have hw := Lib.decode_width_pos s pos hp
        obtain ⟨c, hc⟩ : ∃ c, Utf8.decode s pos = c := ⟨_, rfl⟩
        rw [hc] at hnext HP HI h1 h0 hw
        have he : (((c.1 : Nat) : Int) == 10) = false := by simp; omega
        have HN := Aside0.mk hK.nl
        have HW := Aside0.mk hw
        have HPP := Aside0.mk hp
        clear hK hit hmu hn hi h2 h3 hc hw hp
        generalize wr.iterAt w.heap.size s (pos + c.2) = W1 at hnext HI
        go_wp2_with fail
        go_roundw
        case rel => exact ⟨_, f, ks, ls, rfl, ⟨HP.out, HI.out.1, HI.out.2.1, HI.out.2.2, HN.out⟩⟩
        case measure =>
          have hh : W1.iterPos w.heap.size = pos + c.2 := by simp [World.iterPos, HI.out.1]
          rw [hh, HMU.out]; have := HPP.out; have := HW.out; omega
    · have hnext : ∀ ty, (Instr.next (.pointer (some ⟨w.heap.size, 0, none⟩)) true ty).run Tryd.prog wr = _ := fun ty => Lib.run_next_end_at wr w.heap.size s pos ty hK.it hp
      have HD := Aside0.mk (hK.ps.done hp)
      have h0 : (0 : Int) ≤ (f : Int) := by omega
      have h3 : (s.size : Int) ≤ 1048576 := by have := HS.out; omega
      have H4 : Aside0 (ks.length + 1 ≤ 1048576 + 1) := ⟨by have h1 := hK.nl; have h2 := hK.ln.len; have h3 := hK.ps.1; have h4 := hK.ps.2.1; have := HS.out; omega⟩
      have HB : Aside0 (w.heap.size + 1 ≤ wr.heap.size) := ⟨blk_lt hK.it⟩
      clear hK hmu
      by_cases hf : f < s.size
      · have h1 : (f : Int) < (s.size : Int) := by omega
        have hsl : (Instr.slice 9 (.string s) (some (.int .i64 (f : Int))) none none).run Tryd.prog wr = .ok (.string (s.extract f s.size)) wr := run_slice_string_l _ 9 s Tryd.underlying9 .i64 f (by omega) (by omega)
        obtain ⟨W3, hW3⟩ : ∃ W3, W3 = (wr.alloc (.cells (lv (s.extract f s.size) false) 109 (0, 0))).alloc (.cells #[pt wr.heap.size] 107 (0, 0)) := ⟨_, rfl⟩
        have HW3 := Aside0.mk hW3
        have HA := Aside0.mk (app_line HK.out.ln HB.out (s.extract f s.size) false W3 hW3)
        clear hW3
        go_wp2_with (at_builtin; rw [show (wr.alloc (.cells #[.string (s.extract f s.size), .int .i64 0, .bool false, .bool false] 109)).alloc (.cells #[.pointer (some ⟨wr.heap.size, 0, none⟩)] 107) = W3 from HW3.out.symm]; refine wpList_app1 rfl _ _ 105 rfl (w.heap.size + 1) 107 (.pointer none) 1 8 Tryd.underlying105 inf107 rfl (by decide) (by decide) u3 _ _ (by rfl) HA.out.1 (wr.heap.size + 1) 1 #[pt wr.heap.size] (by rfl) HA.out.2.1 (by rfl) (by simp [pt, Value.oneCell']) (by have := H4.out; omega) HA.out.2.2.1 ?_; intro v' w' k1 k2; have HA2 := Aside0.mk (HA.out.2.2.2.2 v' w' k1 k2); clear k1 k2)
        go_ret
        refine ⟨v', ks ++ [wr.heap.size], rfl, ?_, HA2.out.2 _ _ (by omega) HK.out.bl⟩
        rw [HD.out, if_pos hf]
        have := HA2.out.1
        exact ⟨own_weaken this.own (by omega), this.len, fun j k x a b => ⟨(this.at_ j k x a b).1, by have := (this.at_ j k x a b).2; omega⟩, this.nd⟩
      · have h1 : (s.size : Int) ≤ (f : Int) := by omega
        go_wp2_with fail
        go_ret
        refine ⟨u3, ks, rfl, ?_, HK.out.bl⟩
        rw [HD.out, if_neg hf, List.append_nil]
        have := HK.out.ln
        exact ⟨own_weaken this.own (by omega), this.len, fun j k x a b => ⟨(this.at_ j k x a b).1, by have := (this.at_ j k x a b).2; omega⟩, this.nd⟩
end Go.Proofs.YtnbfebjcfhbhiaaDoor.Lw
end
section
namespace Go.Proofs.YtnbfebjcfhbhiaaDoor.Lw
open Go Go.RowKit Go.Proofs.YtnbfebjcfhbhiaaDoor.P Go.Proofs.YtnbfebjcfhbhiaaDoor.Sc Go.Proofs.YtnbfebjcfhbhiaaDoorW.PrintWords Go.Proofs.YtnbfebjcfhbhiaaDoorW.PrintLast Go.Proofs.YtnbfebjcfhbhiaaDoorW.PrintMore
set_option linter.unusedVariables false
set_option linter.unusedSimpArgs false
def stS (x : St) : S48 := ⟨x.kind, x.rep, ⟨x.ses, x.id⟩, ⟨x.ok, sb x.name, x.a, x.b⟩, x.i, x.j, nums x.data⟩
theorem st_M {W : World} {base : Nat} {ok : Nat → Prop} {x : St} {dv : Value} (h : Kd.R (Kd.int .u8) 5 W base ok dv (nums x.data)) : Kd.M k48 W base ok (stS x) (stc x dv).toList := k48_mkM W base ok (stS x) h
theorem lines_len : ∀ l : By, (Sc.lines l).length ≤ l.length
  | [] => Nat.le_refl _
  | c :: l => by
    have ih := lines_len l
    rw [Sc.lines]
    split
    · simpa using ih
    · split
      · simp
      · rename_i h; rw [h] at ih; simp at ih ⊢; omega
theorem lines_le : ∀ (l : By) (x : By × Bool), x ∈ Sc.lines l → x.1.length ≤ l.length
  | [], x, h => by simp [Sc.lines] at h
  | c :: l, x, h => by
    have ih := lines_le l
    rw [Sc.lines] at h
    split at h
    · rcases List.mem_cons.1 h with rfl | h
      · simp
      · have := ih x h; simp; omega
    · split at h
      · simp at h; subst h; simp
      · rename_i t w r hr
        rw [hr] at ih
        rcases List.mem_cons.1 h with rfl | h
        · have := ih (t, w) (by simp); simp at this ⊢; omega
        · have := ih x (by simp [h]); simp; omega
structure PS (w wr : World) (Ls : List (By × Bool)) (v : Value) (ks : List Nat) (i : Nat) (cfg : Option (List Int)) (out : List St) (vo : Value) : Prop where
  row : wr.ownsRow w.heap.size 107 1 v ks.length (ks.map pt)
  len : ks.length = Ls.length
  at_ : ∀ (j k : Nat) (x : By × Bool), i ≤ j → ks[j]? = some k → Ls[j]? = some x → wr.heap[k]? = some (.cells (lc x) 109 (0, 0)) ∧ w.heap.size ≤ k
  nd : ks.Nodup
  cf : wr.heap[w.heap.size + 1]? = some (.cells (cfc (cfg.getD [])) 25 (0, 0))
  rv : wr.heap[w.heap.size]? = some (.cells (cfc []) 25 (0, 0))
  out_ : Kd.R k48 48 wr w.heap.size (fun _ => True) vo (out.map stS)
  bl : Below w.heap.size w wr
  ol : out.length ≤ i
  cl : ∀ c, cfg = some c → c.length = 10
section
variable {w wr w1 : World} {Ls : List (By × Bool)} {v vo vo' : Value} {ks : List Nat} {i g : Nat} {cfg : Option (List Int)} {out : List St} {x : By × Bool}
theorem PS.below (h : PS w wr Ls v ks i cfg out vo) (hb : Below wr.heap.size wr w1) : PS w w1 Ls v ks i cfg out vo := by
  refine ⟨own_move h.row (fun k hk => ?_), h.len, fun j k x a b c => ?_, h.nd, (hb.block _ (blk_lt h.cf)).trans h.cf, (hb.block _ (blk_lt h.rv)).trans h.rv, Kd.R_below h.out_ hb, h.bl.trans (hb.mono h.bl.size), h.ol, h.cl⟩
  · obtain ⟨cells, hc⟩ := own_typed h.row k hk
    exact hb.block _ (blk_lt hc)
  · obtain ⟨k1, k2⟩ := h.at_ j k x a b c
    exact ⟨(hb.block _ (blk_lt k1)).trans k1, k2⟩
/-- The line at hand. -/
theorem PS.line (h : PS w wr Ls v ks i cfg out vo) (hk : ks[i]? = some g) (hx : Ls[i]? = some x) : wr.heap[g]? = some (.cells (lc x) 109 (0, 0)) ∧ w.heap.size ≤ g := h.at_ i g x (Nat.le_refl _) hk hx
theorem PS.next (h : PS w wr Ls v ks i cfg out vo) (hk : ks[i]? = some g) (hx : Ls[i]? = some x) (hb : KeepBut wr w1 g none) (hw : Below w.heap.size w w1) : PS w w1 Ls v ks (i + 1) cfg out vo := by
  obtain ⟨hg, hgw⟩ := h.line hk hx
  have mv : ∀ (k : Nat) (cells : Array Value) (T : Nat), T ≠ 109 → wr.heap[k]? = some (Obj.cells cells T (0, 0)) → w1.heap[k]? = wr.heap[k]? := fun k cells T hT hc => hb.2 k (blk_lt hc) (fun e => by subst e; rw [hg] at hc; simp at hc; exact hT hc.2.symm) (by simp)
  refine ⟨own_move h.row (fun k hk => ?_), h.len, fun j k x a b c => ?_, h.nd, (mv _ _ _ (by decide) h.cf).trans h.cf, (mv _ _ _ (by decide) h.rv).trans h.rv, ?_, hw, Nat.le_succ_of_le h.ol, h.cl⟩
  · obtain ⟨cells, hc⟩ := own_typed h.row k hk
    exact mv _ _ _ (by decide) hc
  · obtain ⟨k1, k2⟩ := h.at_ j k x (by omega) b c
    refine ⟨(hb.2 k (blk_lt k1) (fun e => ?_) (by simp)).trans k1, k2⟩
    subst e
    obtain ⟨hi, ei⟩ := List.getElem?_eq_some_iff.1 hk
    obtain ⟨hj, ej⟩ := List.getElem?_eq_some_iff.1 b
    have := (List.getElem_inj h.nd).1 (ei.trans ej.symm)
    omega
  · exact Kd.R_mono (Kd.R_keep (Kd.R_types h.out_ hg (by decide)) hb (fun k hk => hk.2)) (fun _ _ => trivial)
theorem PS.skip (h : PS w wr Ls v ks i cfg out vo) : PS w wr Ls v ks (i + 1) cfg out vo :=
  ⟨h.row, h.len, fun j k x a b c => h.at_ j k x (by omega) b c, h.nd, h.cf, h.rv, h.out_, h.bl, Nat.le_succ_of_le h.ol, h.cl⟩
theorem PS.cfg_ (h : PS w wr Ls v ks i none out vo) (c : List Int) (hc : c.length = 10) : PS w (wr.setRow (w.heap.size + 1) (cfc c)) Ls v ks i (some c) out vo := by
  have mv : ∀ (k : Nat) (cells : Array Value) (T : Nat), T ≠ 25 → wr.heap[k]? = some (Obj.cells cells T (0, 0)) → (wr.setRow (w.heap.size + 1) (cfc c)).heap[k]? = wr.heap[k]? := fun k cells T hT hq => setRow_far (fun e => by subst e; rw [h.cf] at hq; simp at hq; exact hT hq.2.symm) _
  refine ⟨own_move h.row (fun k hk => ?_), h.len, fun j k x a b cc => ?_, h.nd, setRow_blk h.cf _, (setRow_far (by omega) _).trans h.rv, ?_, below_setRow h.bl (by omega) _, h.ol, fun c' e => by cases e; exact hc⟩
  · obtain ⟨cells, hq⟩ := own_typed h.row k hk
    exact mv _ _ _ (by decide) hq
  · obtain ⟨k1, k2⟩ := h.at_ j k x (by omega) b cc
    exact ⟨(mv _ _ _ (by decide) k1).trans k1, k2⟩
  · exact Kd.R_mono (Kd.R_step (Kd.R_types h.out_ h.cf (by decide)) (fun k hk _ => setRow_far hk.2 _)) (fun _ _ => trivial)
theorem PS.app {y : St} (h : PS w wr Ls v ks i cfg out vo) (hi : out.length < i) (hr : Kd.R k48 48 w1 w.heap.size (fun _ => True) vo' (out.map stS ++ [stS y])) (hb : Below w.heap.size w w1) (hg : wr.grownBy w1 vo.ownBlock) : PS w w1 Ls v ks i cfg (out ++ [y]) vo' := by
  have mv : ∀ (k : Nat) (cells : Array Value) (T : Nat), T ≠ 48 → wr.heap[k]? = some (Obj.cells cells T (0, 0)) → w1.heap[k]? = wr.heap[k]? := fun k cells T hT hq => hg.block k (blk_lt hq) (fun e => by
    obtain ⟨c2, hc2⟩ := Kd.R_typed h.out_ k e.symm
    rw [hq] at hc2; simp at hc2; exact hT hc2.2)
  refine ⟨own_move h.row (fun k hk => ?_), h.len, fun j k x a b cc => ?_, h.nd, (mv _ _ _ (by decide) h.cf).trans h.cf, (mv _ _ _ (by decide) h.rv).trans h.rv, by simpa using hr, hb, by simp; omega, h.cl⟩
  · obtain ⟨cells, hq⟩ := own_typed h.row k hk
    exact mv _ _ _ (by decide) hq
  · obtain ⟨k1, k2⟩ := h.at_ j k x (by omega) b cc
    exact ⟨(mv _ _ _ (by decide) k1).trans k1, k2⟩
end
/-- What Parse promises. -/
def ParseP (w w' : World) (o : Out) (e : Ending) : Prop := match o with
  | .long => e = .returned (.tuple #[.agg (cfc []), .slice none 0 0, .int .i64 0, .int .i64 0, .int .i64 2])
  | .place l c => e = .returned (.tuple #[.agg (cfc []), .slice none 0 0, .int .i64 l, .int .i64 c, .int .i64 180])
  | .ok c l => ∃ v, e = .returned (.tuple #[.agg (cfc c), v, .int .i64 0, .int .i64 0, .int .i64 0]) ∧ c.length = 10 ∧ Kd.R k48 48 w' w.heap.size (fun _ => True) v (l.map stS)
theorem results_cell5 {P : Program} {fn : Func} {p a b c d : Tmp} {ty : TypeId} (h : fn.results = #[.cell p ty, .tmp a, .tmp b, .tmp c, .tmp d]) (tmps : Array Value) (w : World) (g : Nat) (t : TypeId) (cs : Array Value) (fr : Nat × Nat) (dd : TypeDesc)
    (hp : tmps.getD p undef = .pointer (some ⟨g, 0, none⟩)) (hg : w.heap[g]? = some (.cells cs t fr))
    (hu : P.underlying ty = some dd) (hd : (match dd with | .struct _ | .array _ _ => true | _ => false) = true) (hi : (P.info? ty).map (·.size) = some cs.size) :
    (results fn tmps).run P w = .ok (.tuple #[.agg cs, tmps.getD a undef, tmps.getD b undef, tmps.getD c undef, tmps.getD d undef]) w := by
  have hp' : tmps[p]?.getD undef = .pointer (some ⟨g, 0, none⟩) := by simpa using hp
  simp [results, h, hp', asAddr, run_loadVar_row w g t ty cs fr dd hg hu hd hi]
end Go.Proofs.YtnbfebjcfhbhiaaDoor.Lw
end
section
namespace Go.Proofs.YtnbfebjcfhbhiaaDoor.Bw
open Go Go.RowKit Go.Proofs.YtnbfebjcfhbhiaaDoor.P Go.Proofs.YtnbfebjcfhbhiaaDoor.Sc Go.Proofs.YtnbfebjcfhbhiaaDoor.Lw Go.Proofs.YtnbfebjcfhbhiaaDoorW.PrintWords Go.Proofs.YtnbfebjcfhbhiaaDoorW.PrintLast Go.Proofs.YtnbfebjcfhbhiaaDoorW.PrintMore
set_option linter.unusedVariables false
set_option linter.unusedSimpArgs false
def cfgTellN (c : List Int) (i : Nat) : List By := (List.range i).flatMap fun j => [cfgW j, numW (c.getD j 0)]
def cfgTell (c : List Int) : List By := cfgTellN c 10
theorem cfgTellN_succ (c : List Int) (i : Nat) : cfgTellN c (i + 1) = cfgTellN c i ++ [cfgW i, numW (c.getD i 0)] := by simp [cfgTellN, List.range_succ]
theorem cfgTellN_le (c : List Int) : ∀ (d i : Nat), lenW (cfgTellN c i) ≤ lenW (cfgTellN c (i + d))
  | 0, i => Nat.le_refl _
  | d + 1, i => by
    have := cfgTellN_le c d i
    rw [← Nat.add_assoc, cfgTellN_succ, lenW_append]; omega
/-- Nothing is left to be told. -/
def blank (y : St) : Bool := y.rep == 0 && (y.ses == 0 && y.id == 0) && (y.ok == 0 && y.name == [] && y.a == 0 && y.b == 0) && y.i == 0 && y.j == 0 && y.data == []
theorem blank_iff (y : St) : blank y = true ↔ y.rep = 0 ∧ y.ses = 0 ∧ y.id = 0 ∧ y.ok = 0 ∧ (sb y.name).toList = [] ∧ y.a = 0 ∧ y.b = 0 ∧ y.i = 0 ∧ y.j = 0 ∧ ¬ 0 < y.data.length := by
  rw [toList_bs, bs_sb, Nat.not_lt, Nat.le_zero_eq, List.length_eq_zero_iff]
  simp only [blank, Bool.and_eq_true, beq_iff_eq]
  constructor
  · rintro ⟨⟨⟨⟨⟨a, b, c⟩, ⟨⟨d, e⟩, f⟩, g⟩, h⟩, i⟩, j⟩; exact ⟨a, b, c, d, e, f, g, h, i, j⟩
  · rintro ⟨a, b, c, d, e, f, g, h, i, j⟩; exact ⟨⟨⟨⟨⟨a, b, c⟩, ⟨⟨d, e⟩, f⟩, g⟩, h⟩, i⟩, j⟩
def goodL (x : St) : Bool := (tellStep x.kind x).1 && blank (tellStep x.kind x).2.2
def printGo : List St → TS → Option TS
  | [], s => some s
  | x :: l, s => if goodL x then printGo l (endL (addWs s (tellStep x.kind x).2.1)) else none
def cfgTS (c : List Int) : TS := endL (addWs ([], false) (cfgTell c))
/-- The text, or the error. -/
def printR (c : List Int) (l : List St) : By × Int := if 20000 < l.length then ([], 2) else match printGo l (cfgTS c) with
  | none => ([], 1)
  | some s => if 1048576 < s.1.length then ([], 2) else (s.1, 0)
def lenL : List St → Nat
  | [] => 0
  | x :: l => lenW (tellStep x.kind x).2.1 + 1 + lenL l
theorem addW_len' (s : TS) (w : By) : s.1.length + w.length ≤ (addW s w).1.length ∧ (s.2 = true → (addW s w).1.length = s.1.length + w.length + 1) := by
  unfold addW
  simp only
  constructor
  · split <;> simp
  · intro h; rw [if_pos h]; simp; omega
theorem addWs_len' : ∀ (ws : List By) (s : TS), s.1.length + lenW ws ≤ (addWs s ws).1.length + 1
  | [], s => by simp [addWs, lenW]
  | w :: ws, s => by
    have h1 := addW_len' s w
    have h2 : (addW s w).2 = true := rfl
    show s.1.length + lenW (w :: ws) ≤ (addWs (addW s w) ws).1.length + 1
    have h3 : ∀ (ws : List By) (s : TS), s.2 = true → s.1.length + lenW ws = (addWs s ws).1.length := by
      intro ws
      induction ws with
      | nil => intro s _; simp [addWs, lenW]
      | cons w ws ih =>
        intro s hs
        have h4 := (addW_len' s w).2 hs
        have h5 := ih (addW s w) rfl
        show s.1.length + lenW (w :: ws) = (addWs (addW s w) ws).1.length
        simp only [lenW]; omega
    have h4 := h3 ws (addW s w) rfl
    simp only [lenW]; omega
theorem endL_ne (s : TS) : (endL s).1 ≠ [] := by simp [endL]
theorem endL_len (s : TS) : (endL s).1.length = s.1.length + 1 := by simp [endL]
theorem step_cells {w : World} {A : Option Addr} {n i : Nat} {l : List St} {x : St} (h : Kd.C k48 w A n (l.map stS)) (hx : l[i]? = some x) : ∃ ad Ad cd, A = some ad ∧ w.cell? (ad.add (i * 11)) = some (.int .i64 x.kind) ∧ w.cell? ⟨(ad.add (i * 11)).block, (ad.add (i * 11)).off + 1, none⟩ = some (.int .i64 x.rep) ∧ w.cell? ⟨(ad.add (i * 11)).block, (ad.add (i * 11)).off + 2, none⟩ = some (.int .i64 x.ses) ∧ w.cell? ⟨(ad.add (i * 11)).block, (ad.add (i * 11)).off + 3, none⟩ = some (.int .i64 x.id) ∧ w.cell? ⟨(ad.add (i * 11)).block, (ad.add (i * 11)).off + 4, none⟩ = some (.int .i64 x.ok) ∧ w.cell? ⟨(ad.add (i * 11)).block, (ad.add (i * 11)).off + 5, none⟩ = some (.string (sb x.name)) ∧ w.cell? ⟨(ad.add (i * 11)).block, (ad.add (i * 11)).off + 6, none⟩ = some (.int .i64 x.a) ∧ w.cell? ⟨(ad.add (i * 11)).block, (ad.add (i * 11)).off + 7, none⟩ = some (.int .i64 x.b) ∧ w.cell? ⟨(ad.add (i * 11)).block, (ad.add (i * 11)).off + 8, none⟩ = some (.int .i64 x.i) ∧ w.cell? ⟨(ad.add (i * 11)).block, (ad.add (i * 11)).off + 9, none⟩ = some (.int .i64 x.j) ∧ w.cell? ⟨(ad.add (i * 11)).block, (ad.add (i * 11)).off + 10, none⟩ = some (.slice Ad x.data.length cd) ∧ Kd.C (Kd.int .u8) w Ad x.data.length (Sc.nums x.data) := by
  have hi := (List.getElem?_eq_some_iff.1 hx).1
  have hn : n = l.length := by have := h.1; simpa using this.symm
  obtain ⟨ad, A10, c10, e, h0, h1, h2, h3, h4, h5, h6, h7, h8, h9, h10, _, hC⟩ := at_T48 h (i : Int) (by omega) (by omega)
  have hrd : rd_T48 (l.map stS) (i : Int) = stS x := by
    unfold rd_T48
    rw [Int.toNat_natCast, List.getD_eq_getElem?_getD, List.getElem?_map, hx]; rfl
  rw [hrd] at h0 h1 h2 h3 h4 h5 h6 h7 h8 h9 h10 hC
  rw [Int.toNat_natCast] at h0 h1 h2 h3 h4 h5 h6 h7 h8 h9 h10
  have hl : (stS x).f6.length = x.data.length := by simp [stS, Sc.nums]
  rw [hl] at h10 hC
  exact ⟨ad, A10, c10, e, h0, h1, h2, h3, h4, h5, h6, h7, h8, h9, h10, hC⟩
theorem cfcI {c : List Int} (h : c.length = 10) {i : Nat} (hi : i < 10) : (cfc c)[i]? = some (.int .i64 (c.getD i 0)) := by
  have h2 : i < c.length := by omega
  have h3 : cfl c = c := by simp [cfl, h]
  unfold cfc
  rw [h3]
  simp [List.getD_eq_getElem?_getD, h2]
/-- In Print: the printer at pb, the config at cb. -/
structure PG (w w2 wr : World) (pb cb G : Nat) (r0 row : Option Nat) (c : List Int) (s : TS) : Prop where
  pr : PrS w w2 wr pb r0 row s
  cf : wr.heap[cb]? = some (.cells (cfc c) 25 (0, 0))
  gp : ∃ T, wr.heap[G]? = some (.cells (numps cb) T (0, 0))
  ne : cb ≠ pb ∧ G ≠ pb ∧ row ≠ some cb ∧ row ≠ some G ∧ cb < w2.heap.size ∧ G < w2.heap.size
theorem PG.call {w w2 wr w1 : World} {pb cb G : Nat} {r0 row r1 : Option Nat} {c : List Int} {s s' : TS} (h : PG w w2 wr pb cb G r0 row c s) (k : PrS w wr w1 pb row r1 s') : PG w w2 w1 pb cb G r0 r1 c s' := by
  obtain ⟨T, hg⟩ := h.gp
  have h1 := h.ne
  have hs := h.pr.kb.1
  refine ⟨h.pr.then_ k, (k.kb.2 cb (blk_lt h.cf) h1.1 (Ne.symm h1.2.2.1)).trans h.cf, ⟨T, (k.kb.2 G (blk_lt hg) h1.2.1 (Ne.symm h1.2.2.2.1)).trans hg⟩, ⟨h1.1, h1.2.1, fun e => ?_, fun e => ?_, h1.2.2.2.2⟩⟩
  · rcases k.rn cb e with e2 | e2
    · exact h1.2.2.1 e2.symm
    · omega
  · rcases k.rn G e with e2 | e2
    · exact h1.2.2.2.1 e2.symm
    · omega
theorem PG.gcell {w w2 wr : World} {pb cb G : Nat} {r0 row : Option Nat} {c : List Int} {s : TS} (h : PG w w2 wr pb cb G r0 row c s) {i : Nat} (hi : i < 10) : wr.cell? ⟨G, i, none⟩ = some (.pointer (some ⟨cb, i, none⟩)) := by
  obtain ⟨T, h3⟩ := h.gp
  refine (blk_cell h3 i).trans ?_
  match i, hi with
  | 0, _ => rfl | 1, _ => rfl | 2, _ => rfl | 3, _ => rfl | 4, _ => rfl | 5, _ => rfl | 6, _ => rfl | 7, _ => rfl | 8, _ => rfl | 9, _ => rfl
theorem nest_kv {w0 W wx : World} {b T : Nat} {r0 row : Option Nat} {S : TS} {n : By} {v : Int} {c : Nat} (hT : TB w0) (hX : PrS w0 W wx b r0 row S) (hf : n.length ≤ 1099511627776) (hv : inI v) (hbd : S.1.length + lenW [n, numW v] ≤ 140737488355328) :
    Calls Tryd.prog 30 #[.pointer (some ⟨b, 0, none⟩), .slice (some ⟨wx.heap.size, 0, none⟩) 2 c] (wx.alloc (.cells #[.iface 9 (.string (sb n)), .iface 3 (.int .i64 v)] T (0, 0))) fun e w' => e = .returned (.tuple #[]) ∧ ∃ r1, PrS w0 wx w' b row r1 (addWs S [n, numW v]) := by
  exact nest (l := [.str n, .int v]) (put_any _) hT hX ((Below.refl _ _).alloc (Nat.le_refl _) _) (Nat.le_refl _) (heap_alloc_new _ _) (by simp) (vs2 rfl rfl) (by intro x hx; simp only [List.mem_cons, List.not_mem_nil, or_false] at hx; rcases hx with rfl | rfl; exact hf; exact hv) hbd
theorem nest_kvd {w0 W wx : World} {b T : Nat} {r0 row : Option Nat} {S : TS} {n : By} {v : Int} {c : Nat} (hT : TB w0) (hX : PrS w0 W wx b r0 row S) (hf : n.length ≤ 1099511627776) (hv : inI v) (hbd : S.1.length + lenW [n, numW v] ≤ 140737488355328) :
    Calls Tryd.prog 30 #[.pointer (some ⟨b, 0, none⟩), .slice (some ⟨wx.heap.size, 0, none⟩) 2 c] (wx.alloc (.cells #[.iface 9 (.string (sb n)), .iface 3 (.int .i64 v)] T (0, 0))).drew fun e w' => e = .returned (.tuple #[]) ∧ ∃ r1, PrS w0 wx w' b row r1 (addWs S [n, numW v]) := by
  exact nest (l := [.str n, .int v]) (put_any _) hT hX (below_drew ((Below.refl _ _).alloc (Nat.le_refl _) _)) (Nat.le_refl _) (heap_alloc_new _ _) (by simp) (vs2 rfl rfl) (by intro x hx; simp only [List.mem_cons, List.not_mem_nil, or_false] at hx; rcases hx with rfl | rfl; exact hf; exact hv) hbd
theorem cell_ad {w : World} {a : Addr} {v : Value} {o : Obj} (h : w.cell? a = some v) : (w.alloc o).drew.cell? a = some v := pw_cell_below (below_drew ((Below.refl _ _).alloc (Nat.le_refl _) _)) h
theorem cfgW_le {i : Nat} (h : i < 10) : (cfgW i).length ≤ 1099511627776 := by
  have : ∀ i : Fin 10, (cfgW i.val).length ≤ 1099511627776 := by decide
  exact this ⟨i, h⟩
set_option maxHeartbeats 32000000 in
set_option maxRecDepth 100000 in
theorem print_calls (w : World) (c : List Int) (l : List St) (A : Option Addr) (cp : Nat) (hT : TB w) (hV : VS w) (hVC : VC w) (hc : c.length = 10) (hci : ∀ i < 10, inI (c.getD i 0)) (hC : Kd.C k48 w A l.length (l.map stS)) (hf : ∀ x ∈ l, sfit x) (hB : (cfgTS c).1.length + lenL l ≤ 140737488355328) :
    Calls Tryd.prog 14 #[.agg (cfc c), .slice A l.length cp] w fun e w' => e = .returned (.tuple #[.string (sb (printR c l).1), .int .i64 (printR c l).2]) ∧ Below w.heap.size w w' := by
  have HT := Aside0.mk hT
  have HV := Aside0.mk hV
  have HVC := Aside0.mk hVC
  have HC := Aside0.mk hC
  have HF := Aside0.mk hf
  have HB := Aside0.mk hB
  have HCI := Aside0.mk hci
  have HCL := Aside0.mk hc
  have hlm : (l.length : Int) ≤ 9223372036854775807 := by have := hC.2.1; omega
  clear hT hV hVC hC hf hB hci hc
  by_cases h20 : 20000 < l.length
  · have h21 : (20000 : Int) < (l.length : Int) := by omega
    have HQ : Aside0 (printR c l = ([], 2)) := ⟨by unfold printR; rw [if_pos h20]⟩
    clear h20
    go_enter Tryd.func14, Tryd.ntmps14
    go_wp2_with fail
    go_ret2
    rw [HQ.out]
    exact ⟨rfl, (Below.refl _ _).alloc (Nat.le_refl _) _⟩
  · have h21 : ¬ (20000 : Int) < (l.length : Int) := by omega
    have HL20 := Aside0.mk h20
    clear h20
    go_enter Tryd.func14, Tryd.ntmps14
    go_upto_region 4 with fail
    obtain ⟨w1, hw1⟩ : ∃ w1, w1 = (w.alloc (.cells (cfc c) 25 (0, 0))).alloc (.cells #[.pointer none, .slice none 0 0, .bool false] 93 (0, 0)) := ⟨_, rfl⟩
    have HW1 := Aside0.mk hw1
    have HA : Aside0 (Below w.heap.size w w1 ∧ w1.heap[w.heap.size]? = some (.cells (cfc c) 25 (0, 0)) ∧ w1.heap[w.heap.size + 1]? = some (.cells (bcells (.pointer none) (.slice none 0 0) [.bool false]) 93 (0, 0)) ∧ w1.heap.size = w.heap.size + 2) := ⟨by
      rw [hw1]; exact ⟨bel2 _ _ _, heap_alloc2_old _ _ _, new2 _ _ _, by simp⟩⟩
    rw [← HW1.out]
    clear hw1
    go_wp2_with (go_at_call 29; refine (cfgnums_calls _ _).mono ?_; rintro e w2 ⟨G, T, rfl, hG, hGc, hb⟩; have HPG : Aside0 (PG w w2 w2 (w.heap.size + 1) w.heap.size G none none c ([], false)) := ⟨by
      have h1 := HA.out
      refine ⟨⟨.inl ⟨Nat.le_succ _, _, (hb.block _ (by omega)).trans h1.2.2.1, Kd.R_nil _ _ _ _ _, rfl, by simp⟩, h1.1.trans (hb.mono (by omega)), KeepBut.refl _ _ _, RN.refl _ _⟩, (hb.block _ (by omega)).trans h1.2.1, ⟨T, hGc⟩, ⟨by omega, by omega, by simp, by simp, by have := hb.size; omega, blk_lt hGc⟩⟩⟩; clear hGc hb hG)
    go_loopw [7, 8, 19] (fun _ _ s wr => ∃ i : Nat, s = .int .i64 i ∧ Aside0 (i ≤ 10 ∧ ∃ row, PG w w2 wr (w.heap.size + 1) w.heap.size G none row c (addWs ([], false) (cfgTellN c i)))) (fun _ _ s _ => 10 - (intOf s).toNat)
    case atStart => exact ⟨0, rfl, ⟨by omega, none, HPG.out⟩⟩
    case round =>
      obtain ⟨i, rfl, hP⟩ := hrel
      obtain ⟨hi, row, hX⟩ := hP.out
      have HX := Aside0.mk hX
      clear hP HPG
      by_cases hlt : i < 10
      · have q0 := HX.out.gcell hlt
        have HLT := Aside0.mk hlt
        obtain ⟨v, hv⟩ : ∃ v, c.getD i 0 = v := ⟨_, rfl⟩
        have HVV := Aside0.mk hv
        have p0 : wr.cell? ⟨0, i, none⟩ = some (.string (sb (cfgW i))) := (HVC.out.below HX.out.pr.bl).cell hlt
        have p1 : wr.cell? ⟨w.heap.size, i, none⟩ = some (.int .i64 v) := by rw [← hv]; exact (blk_cell HX.out.cf i).trans (cfcI HCL.out hlt)
        have HFI : Aside0 (inI v ∧ (cfgW i).length ≤ 1099511627776) := ⟨⟨by rw [← hv]; exact HCI.out i hlt, cfgW_le hlt⟩⟩
        have HBD : Aside0 ((addWs ([], false) (cfgTellN c i)).1.length + lenW [cfgW i, numW v] ≤ 140737488355328) := ⟨by
          have h1 := addWs_len (cfgTellN c i) ([], false)
          have h2 := cfgTellN_le c (10 - (i + 1)) (i + 1)
          rw [show i + 1 + (10 - (i + 1)) = 10 by omega, cfgTellN_succ, lenW_append, hv] at h2
          have h3 := HB.out
          have h4 := addWs_len' (cfgTell c) ([], false)
          have h5 := endL_len (addWs ([], false) (cfgTell c))
          unfold cfgTS at h3
          unfold cfgTell at h3 h4 h5
          simp only [List.length_nil] at h1 h4
          omega⟩
        have HNB : Aside0 ((0 ≠ w.heap.size + 1 ∧ some 0 ≠ row) ∧ w.heap.size ≠ w.heap.size + 1 ∧ some w.heap.size ≠ row) := ⟨by
          obtain ⟨T0, h0⟩ := HVC.out
          have h1 := blk_lt h0
          exact ⟨⟨by omega, fun e => by have := (HX.out.pr.bd.row_base _ e.symm).1; omega⟩, by omega, Ne.symm HX.out.ne.2.2.1⟩⟩
        have hiI : (i : Int) < 10 := by omega
        clear hX hi hlt hv
        go_upto_region 7 with fail
        go_region_held3 (fun w' => w'.cell? ⟨0, i, none⟩ = some (.string (sb (cfgW i))) ∧ w'.cell? ⟨w.heap.size, i, none⟩ = some (.int .i64 v)) (first | exact ⟨p0, p1⟩ | exact ⟨cell_ad p0, cell_ad p1⟩) (first
          | (go_at_call 30; (with_reducible refine (nest_kvd HT.out HX.out.pr HFI.out.2 HFI.out.1 HBD.out).mono ?_); rintro e w9 ⟨rfl, r9, h9⟩; have n1_ := cell_kb p0 h9.kb HNB.out.1.1 HNB.out.1.2; have n2_ := cell_kb p1 h9.kb HNB.out.2.1 HNB.out.2.2; clear p0 p1; have p0 := n1_; have p1 := n2_; clear n1_ n2_; have HY := Aside0.mk (HX.out.call h9); clear h9))
        clear p0 p1
        go_wp2_with fail
        go_roundw
        case rel => exact ⟨i + 1, by go_num, ⟨HLT.out, r9, by have := HY.out; rw [cfgTellN_succ, HVV.out, addWs_append]; exact this⟩⟩
        case measure => simp [intOf]; have := HLT.out; omega
      · obtain rfl : i = 10 := by omega
        clear hi hlt hX
        have HE0 : Aside0 ((addWs ([], false) (cfgTellN c 10)).1.length + 1 ≤ 140737488355328) := ⟨by have h3 := HB.out; have h5 := endL_len (addWs ([], false) (cfgTell c)); unfold cfgTS at h3; unfold cfgTell at h3 h5; omega⟩
        go_upto_region 10 with (go_at_call 31; (with_reducible refine (end_calls HX.out.pr.from_ HE0.out).mono ?_); rintro e w3 ⟨rfl, r3, h3⟩; have HP3 : Aside0 (∃ row, PrS w w3 w3 (w.heap.size + 1) row row (cfgTS c)) := ⟨⟨r3, h3.from_⟩⟩; clear h3 HX)
        go_wp2_with fail
        go_loopw [10, 11, 40] (fun _ _ s wr => ∃ i : Nat, s = .int .i64 i ∧ Aside0 (i ≤ l.length ∧ ∃ row s, PrS w wr wr (w.heap.size + 1) row row s ∧ printGo l (cfgTS c) = printGo (l.drop i) s ∧ s.1.length + lenL (l.drop i) ≤ 140737488355328 ∧ s.1 ≠ [])) (fun _ _ s _ => l.length - (intOf s).toNat)
        case atStart => exact ⟨0, rfl, ⟨Nat.zero_le _, by obtain ⟨row, h⟩ := HP3.out; exact ⟨row, _, h, rfl, HB.out, endL_ne _⟩⟩⟩
        case round =>
          obtain ⟨i, rfl, hP⟩ := hrel
          obtain ⟨hi, row, s, hX, hG, hS, hN⟩ := hP.out
          have HNE := Aside0.mk hN
          have HX := Aside0.mk hX
          have HG := Aside0.mk hG
          have HS := Aside0.mk hS
          clear hP HP3 hX hG hS hN
          by_cases hlt : i < l.length
          · obtain ⟨x, hx⟩ : ∃ x, l[i]? = some x := ⟨_, List.getElem?_eq_getElem hlt⟩
            have HDR : Aside0 (l.drop i = x :: l.drop (i + 1)) := ⟨by rw [List.drop_eq_getElem_cons hlt]; congr 1; exact (List.getElem?_eq_some_iff.1 hx).2⟩
            have HFX : Aside0 (sfit x) := ⟨HF.out x (List.mem_of_getElem? hx)⟩
            have hbl := HX.out.bl
            obtain ⟨ad, Ad, cd, rfl, c0, c1, c2, c3, c4, c5, c6, c7, c8, c9, c10, hCd⟩ := step_cells HC.out hx
            have HCD := Aside0.mk hCd
            replace c0 := pw_cell_below hbl c0
            replace c1 := pw_cell_below hbl c1
            replace c2 := pw_cell_below hbl c2
            replace c3 := pw_cell_below hbl c3
            replace c4 := pw_cell_below hbl c4
            replace c5 := pw_cell_below hbl c5
            replace c6 := pw_cell_below hbl c6
            replace c7 := pw_cell_below hbl c7
            replace c8 := pw_cell_below hbl c8
            replace c9 := pw_cell_below hbl c9
            replace c10 := pw_cell_below hbl c10
            obtain ⟨wa, hwa⟩ : ∃ wa, wa = wr.alloc (.cells (stc x (.slice Ad x.data.length cd)) 48 (0, 0)) := ⟨_, rfl⟩
            have HWA := Aside0.mk hwa
            have HBA : Aside0 (Below wr.heap.size wr wa ∧ wa.heap[wr.heap.size]? = some (.cells (stc x (.slice Ad x.data.length cd)) 48 (0, 0))) := ⟨by rw [hwa]; exact ⟨(Below.refl _ _).alloc (Nat.le_refl _) _, heap_alloc_new _ _⟩⟩
            have hltI : (i : Int) < (l.length : Int) := by omega
            have HLT := Aside0.mk hlt
            clear hx hbl hCd hwa hlt hi
            go_upto_region 13 with fail
            rw [show wr.alloc (.cells #[.int .i64 x.kind, .int .i64 x.rep, .int .i64 x.ses, .int .i64 x.id, .int .i64 x.ok, .string (sb x.name), .int .i64 x.a, .int .i64 x.b, .int .i64 x.i, .int .i64 x.j, .slice Ad x.data.length cd] 48 (0, 0)) = wa from HWA.out.symm]
            clear c0 c1 c2 c3 c4 c5 c6 c7 c8 c9 c10
            have HPX : Aside0 (PX w wa wa (w.heap.size + 1) wr.heap.size row row s x) := ⟨by
              have h1 := HX.out.below HBA.out.1
              exact ⟨h1.from_, ⟨Ad, cd, HBA.out.2, HCD.out⟩, ⟨fun e => by have := HX.out.bd.lt; omega, HX.out.bl.size⟩, Kept.refl _ _, RN.refl _ _⟩⟩
            obtain ⟨ao, co, ko, hoc, hoC⟩ := HV.out.steps
            have HOC := Aside0.mk hoC
            have q0 : wa.cell? ⟨wr.heap.size, 0, none⟩ = some (.int .i64 x.kind) := (blk_cell HBA.out.2 0).trans rfl
            have q1 : wa.cell? ⟨1, 0, none⟩ = some (.slice (some ao) stepFs.length co) := (blk_cell ((HPX.out.pr.bl.block _ (blk_lt ko)).trans ko) 0).trans rfl
            obtain ⟨ok, ws, y, ht⟩ : ∃ ok ws y, tellStep x.kind x = (ok, ws, y) := ⟨_, _, _, rfl⟩
            have HT0 := Aside0.mk ht
            have HGO : Aside0 (printGo (l.drop i) s = if goodL x then printGo (l.drop (i + 1)) (endL (addWs s ws)) else none) := ⟨by rw [HDR.out, printGo, ht]⟩
            have HLL : Aside0 (s.1.length + (lenW ws + 1 + lenL (l.drop (i + 1))) ≤ 140737488355328) := ⟨by have := HS.out; rw [HDR.out, lenL, ht] at this; exact this⟩
            have HB1 : Aside0 (s.1.length + lenW (tellF tellOps stepFs x.kind x).2.1 ≤ 140737488355328) := ⟨by rw [show tellF tellOps stepFs x.kind x = (ok, ws, y) from ht]; have := HLL.out; simp only; omega⟩
            have HB2 : Aside0 ((addWs s ws).1.length + 1 ≤ 140737488355328) := ⟨by have := HLL.out; have := addWs_len ws s; omega⟩
            have HCL2 := Aside0.mk (parts_steps (kind := x.kind) (c := co) HT.out HV.out HPX.out HOC.out HFX.out HB1.out)
            have HTF : Aside0 (tellF tellOps stepFs x.kind x = (ok, ws, y)) := ⟨ht⟩
            clear ko hoc hoC ht
            go_upto_region 14 with (go_at_call 32; (with_reducible refine HCL2.out.mono ?_); rintro e w5 ⟨rfl, r5, h5⟩; rw [HTF.out] at h5 ⊢; have HY := Aside0.mk h5; clear h5 q0 q1)
            go_upto_region 15 with (go_at_call 31; (with_reducible refine (end_calls HY.out.pr HB2.out).mono ?_); rintro e w6 ⟨rfl, r6, h6⟩; have HZ := Aside0.mk (HY.out.call h6); clear h6 HY)
            obtain ⟨A6, c6, hb6, hC6⟩ := HZ.out.st
            have d1 : w6.cell? ⟨wr.heap.size, 1, none⟩ = some (.int .i64 y.rep) := (blk_cell hb6 1).trans rfl
            have d2 : w6.cell? ⟨wr.heap.size, 2, none⟩ = some (.int .i64 y.ses) := (blk_cell hb6 2).trans rfl
            have d3 : w6.cell? ⟨wr.heap.size, 3, none⟩ = some (.int .i64 y.id) := (blk_cell hb6 3).trans rfl
            have d4 : w6.cell? ⟨wr.heap.size, 4, none⟩ = some (.int .i64 y.ok) := (blk_cell hb6 4).trans rfl
            have d5 : w6.cell? ⟨wr.heap.size, 5, none⟩ = some (.string (sb y.name)) := (blk_cell hb6 5).trans rfl
            have d6 : w6.cell? ⟨wr.heap.size, 6, none⟩ = some (.int .i64 y.a) := (blk_cell hb6 6).trans rfl
            have d7 : w6.cell? ⟨wr.heap.size, 7, none⟩ = some (.int .i64 y.b) := (blk_cell hb6 7).trans rfl
            have d8 : w6.cell? ⟨wr.heap.size, 8, none⟩ = some (.int .i64 y.i) := (blk_cell hb6 8).trans rfl
            have d9 : w6.cell? ⟨wr.heap.size, 9, none⟩ = some (.int .i64 y.j) := (blk_cell hb6 9).trans rfl
            have d10 : w6.cell? ⟨wr.heap.size, 10, none⟩ = some (.slice A6 y.data.length c6) := (blk_cell hb6 10).trans rfl
            have HBL : Aside0 (Below w.heap.size w w6) := ⟨HZ.out.pr.bl⟩
            clear hb6 hC6
            cases ok with
            | false =>
              have HQ : Aside0 (printR c l = ([], 1)) := ⟨by unfold printR; rw [if_neg HL20.out, HG.out, HGO.out, if_neg (by unfold goodL; rw [HT0.out]; simp)]⟩
              go_wp2_with fail
              go_ret2
              rw [HQ.out]
              exact ⟨rfl, HBL.out⟩
            | true =>
              go_wp2_with fail
              all_goals first
                | (go_ret2
                   have HQ : printR c l = ([], 1) := by
                     unfold printR
                     rw [if_neg HL20.out, HG.out, HGO.out, if_neg ?_]
                     intro hg
                     unfold goodL at hg
                     rw [HT0.out] at hg
                     obtain ⟨z1, z2, z3, z4, z5, z6, z7, z8, z9, z10⟩ := (blank_iff y).1 (by simpa using hg)
                     contradiction
                   rw [HQ]
                   exact ⟨rfl, HBL.out⟩)
                | (have HGD : Aside0 (goodL x = true) := ⟨by
                     unfold goodL
                     rw [HT0.out]
                     rw [Bool.true_and]
                     exact (blank_iff y).2 ⟨by assumption, by assumption, by assumption, by assumption, by assumption, by assumption, by assumption, by assumption, by assumption, by assumption⟩⟩
                   go_roundw
                   case rel => exact ⟨i + 1, by go_num, ⟨HLT.out, r6, _, HZ.out.pr, by rw [HG.out, HGO.out, if_pos HGD.out], by have := HLL.out; have := addWs_len ws s; have := endL_len (addWs s ws); omega, endL_ne _⟩⟩
                   case measure => simp [intOf]; have := HLT.out; omega)
          · have HZ0 : Aside0 (printGo l (cfgTS c) = some s) := ⟨by rw [HG.out, List.drop_eq_nil_of_le (by omega)]; rfl⟩
            have HLL : Aside0 (s.1.length ≤ 140737488355328) := ⟨by have := HS.out; omega⟩
            have hge : ¬ (i : Int) < (l.length : Int) := by omega
            clear hlt hi
            by_cases hbig : 1048576 < s.1.length
            · have hbI : (1048576 : Int) < (s.1.length : Int) := by omega
              have HQ : Aside0 (printR c l = ([], 2)) := ⟨by unfold printR; rw [if_neg HL20.out, HZ0.out]; simp only; rw [if_pos hbig]⟩
              clear hbig
              go_wp2_with (go_at_call 33; refine (len_calls HX.out.bd).mono ?_; rintro e w' ⟨rfl, rfl⟩)
              go_ret2
              rw [HQ.out]
              exact ⟨rfl, HX.out.bl⟩
            · have hbI : ¬ (1048576 : Int) < (s.1.length : Int) := by omega
              have HQ : Aside0 (printR c l = (s.1, 0)) := ⟨by unfold printR; rw [if_neg HL20.out, HZ0.out]; simp only; rw [if_neg hbig]⟩
              clear hbig
              go_wp2_with (first
                | (go_at_call 33; refine (len_calls HX.out.bd).mono ?_; rintro e w' ⟨rfl, rfl⟩)
                | (go_at_call 34; refine (str_some HX.out.bd HNE.out).mono ?_; rintro e w' ⟨rfl, hb⟩; have HBE := Aside0.mk hb; clear hb))
              go_ret2
              rw [HQ.out]
              exact ⟨rfl, HX.out.bl.trans HBE.out⟩
end Go.Proofs.YtnbfebjcfhbhiaaDoor.Bw
end
