/- texts that the proof needs, laid together by a program of this session. -/
import Derived.Lib.ItoaLen
import Derived.Lib.ItoaMem
import Derived.BigRegion
import Derived.Test.YtnbfebjcfhbhiaaDoorRows
import Derived.WalkKit
import Derived.ProofKit
import Derived.OpenShut
import Derived.Deep.DeepHandedRow
import Derived.Lib.LaidTab
import Derived.Lib.LaidU8
import Derived.LaidLaws
import Derived.Deep.DeepWitnessRowRef
import Derived.Lib.LaidIn
import Derived.Test.YtnbfebjcfhbhiaaDoorKScriptBack9
section
namespace Go.Proofs.YtnbfebjcfhbhiaaDoor.Bw
open Go Go.RowKit Go.Proofs.YtnbfebjcfhbhiaaDoor.P Go.Proofs.YtnbfebjcfhbhiaaDoor.Sc Go.Proofs.YtnbfebjcfhbhiaaDoor.Lw Go.Proofs.YtnbfebjcfhbhiaaDoorW.PrintWords Go.Proofs.YtnbfebjcfhbhiaaDoorW.PrintLast Go.Proofs.YtnbfebjcfhbhiaaDoorW.PrintMore
set_option linter.unusedVariables false
set_option linter.unusedSimpArgs false
set_option maxHeartbeats 4000000 in
set_option maxRecDepth 100000 in
theorem line_any (l : List Wd) {w0 wx : World} {b : Nat} {row : Option Nat} {s : TS} {A : Option Addr} {c : Nat} (hT : TB w0) (hX : PrS w0 wx wx b row row s) (hV : WVs wx b row A l) (hf : ∀ x ∈ l, x.fit 1099511627776) (hB : s.1.length + lenW (wdsT l) + 1 ≤ 140737488355328) :
    Calls Tryd.prog 41 #[.pointer (some ⟨b, 0, none⟩), .slice A l.length c] wx fun e w' => e = .returned (.tuple #[]) ∧ ∃ r1, PrS w0 wx w' b row r1 (endL (addWs s (wdsT l))) := by
  have HT := Aside0.mk hT
  have HX := Aside0.mk hX
  have HV := Aside0.mk hV
  have HF := Aside0.mk hf
  have HB : Aside0 (s.1.length + lenW (wdsT l) ≤ 140737488355328 ∧ (addWs s (wdsT l)).1.length + 1 ≤ 140737488355328) := ⟨⟨by omega, by have := addWs_len (wdsT l) s; omega⟩⟩
  clear hT hX hV hf hB
  go_enter Tryd.func41, Tryd.ntmps41
  go_wp2_with (first
    | (go_at_call 30; refine (put_any l HT.out HX.out HV.out HF.out HB.out.1).mono ?_; rintro e w1 ⟨rfl, r1, h1⟩; have H1 := Aside0.mk h1; clear h1)
    | (go_at_call 31; refine (end_calls H1.out.from_ HB.out.2).mono ?_; rintro e w2 ⟨rfl, r2, h2⟩; have H2 := Aside0.mk h2; clear h2))
  go_end0
  exact ⟨rfl, r2, H1.out.then_ H2.out⟩
/-- line of a row that has just been built. -/
theorem nestL {w0 W wx w1 : World} {b k T : Nat} {r0 row : Option Nat} {S : TS} {l : List Wd} {cs : Array Value} {c : Nat} (hT : TB w0) (hX : PrS w0 W wx b r0 row S) (hb1 : Below wx.heap.size wx w1) (hk : wx.heap.size ≤ k) (hc : w1.heap[k]? = some (.cells cs T (0, 0))) (hl : l.length ≤ 9223372036854775807)
    (hv : ∀ (i : Nat) x, l[i]? = some x → ∃ v, cs[i]? = some v ∧ WV w1 b row x v) (hf : ∀ x ∈ l, x.fit 1099511627776) (hbd : S.1.length + lenW (wdsT l) + 1 ≤ 140737488355328) :
    Calls Tryd.prog 41 #[.pointer (some ⟨b, 0, none⟩), .slice (some ⟨k, 0, none⟩) l.length c] w1 fun e w' => e = .returned (.tuple #[]) ∧ ∃ r1, PrS w0 wx w' b row r1 (endL (addWs S (wdsT l))) := by
  have h1 := hX.below hb1
  refine (line_any l hT h1.from_ (WVs.made hc (fun e => ?_) (fun e => ?_) hl hv) hf hbd).mono ?_
  · have := hX.bd.lt; omega
  · have := (hX.bd.row_base k e).2.1; omega
  rintro e w' ⟨he, r1, h2⟩
  exact ⟨he, r1, (hX.from_.below hb1).then_ h2⟩
theorem numW_le {n : Int} (h : inI n) : (numW n).length ≤ 21 := Lib.itoa_length_le n h.1 h.2
theorem numW_dig (n : Nat) (h : n < 10) : numW (n : Int) = [UInt8.ofNat (48 + n)] := by
  unfold numW
  rw [Lib.itoa_nonneg, Lib.decDigits, dif_pos h]
set_option maxHeartbeats 4000000 in
set_option maxRecDepth 100000 in
/-- A sight of nothing. -/
theorem sight_none {w0 wx : World} {b : Nat} {row : Option Nat} {s : TS} (hX : PrS w0 wx wx b row row s) (n d : Value) (s1 s2 s3 s4 : Value) (c : Nat) (A : Option Addr) :
    Calls Tryd.prog 42 #[.pointer (some ⟨b, 0, none⟩), .agg #[n, s1, s2, s3, .slice A 0 c, s4, d]] wx fun e w' => e = .returned (.tuple #[]) ∧ PrS w0 wx w' b row row s := by
  have HX := Aside0.mk hX
  clear hX
  go_enter Tryd.func42, Tryd.ntmps42
  go_wp2_with fail
  first | go_end0 | ((try simp only [Exit.inBlock, Exit.then]); refine bodyPost_ret (results_none rfl _ _ _) rfl ?_)
  exact ⟨rfl, HX.out.below ((Below.refl _ _).alloc (Nat.le_refl _) _)⟩
def aliveT : By := [49, 32, 48, 10, 114, 101, 112, 108, 121, 32, 50, 32, 49, 32, 48, 32, 51, 10]
set_option maxHeartbeats 16000000 in
set_option maxRecDepth 100000 in
theorem pa_calls (w : World) (ka kr c : Nat) (hT : TB w) (ha : w.heap[ka]? = some (.cells #[.int .i64 0, .slice (some ⟨kr, 0, none⟩) 1 1, .int .i64 0, .slice none 0 0, .slice none 0 0, .slice none 0 0, .slice none 0 0, .slice none 0 0, .int .i64 0, .slice none 0 0, .slice none 0 0, .slice none 0 0, .bool false] 66 (0, 0))) (hr : w.heap[kr]? = some (.cells #[.int .i64 2, .int .i64 1, .int .i64 0, .int .i64 3] 54 (0, 0))) :
    Calls Tryd.prog 21 #[.slice (some ⟨ka, 0, none⟩) 1 c] w fun e w' => e = .returned (.string (sb aliveT)) ∧ Below w.heap.size w w' := by
  have HT := Aside0.mk hT
  have HKA := Aside0.mk ha
  have HKR := Aside0.mk hr
  clear hT ha hr
  go_enter Tryd.func21, Tryd.ntmps21
  go_upto_region 2 with fail
  obtain ⟨w1, hw1⟩ : ∃ w1, w1 = w.alloc (.cells #[.pointer none, .slice none 0 0, .bool false] 93 (0, 0)) := ⟨_, rfl⟩
  have HW1 := Aside0.mk hw1
  have HA : Aside0 (PrS w w1 w1 w.heap.size none none ([], false)) := ⟨by
    rw [hw1]
    exact ⟨.inl ⟨Nat.le_refl _, _, heap_alloc_new w _, Kd.R_nil _ _ _ _ _, rfl, by simp⟩, (Below.refl _ _).alloc (Nat.le_refl _) _, KeepBut.refl _ _ _, RN.refl _ _⟩⟩
  rw [← HW1.out]
  clear hw1
  go_wp2_with fail
  refine wp_loop_rounds 2 ?_
  rw [rounds_succ]
  have hbl := HA.out.bl
  have a0 : w1.cell? ⟨ka, 0, none⟩ = some (.int .i64 0) := (blk_cell ((hbl.block _ (blk_lt HKA.out)).trans HKA.out) 0).trans rfl
  have a1 : w1.cell? ⟨ka, 1, none⟩ = some (.slice (some ⟨kr, 0, none⟩) 1 1) := (blk_cell ((hbl.block _ (blk_lt HKA.out)).trans HKA.out) 1).trans rfl
  have a2 : w1.cell? ⟨ka, 2, none⟩ = some (.int .i64 0) := (blk_cell ((hbl.block _ (blk_lt HKA.out)).trans HKA.out) 2).trans rfl
  have a3 : w1.cell? ⟨ka, 3, none⟩ = some (.slice none 0 0) := (blk_cell ((hbl.block _ (blk_lt HKA.out)).trans HKA.out) 3).trans rfl
  have a4 : w1.cell? ⟨ka, 4, none⟩ = some (.slice none 0 0) := (blk_cell ((hbl.block _ (blk_lt HKA.out)).trans HKA.out) 4).trans rfl
  have a5 : w1.cell? ⟨ka, 5, none⟩ = some (.slice none 0 0) := (blk_cell ((hbl.block _ (blk_lt HKA.out)).trans HKA.out) 5).trans rfl
  have a6 : w1.cell? ⟨ka, 6, none⟩ = some (.slice none 0 0) := (blk_cell ((hbl.block _ (blk_lt HKA.out)).trans HKA.out) 6).trans rfl
  have a7 : w1.cell? ⟨ka, 7, none⟩ = some (.slice none 0 0) := (blk_cell ((hbl.block _ (blk_lt HKA.out)).trans HKA.out) 7).trans rfl
  have a8 : w1.cell? ⟨ka, 8, none⟩ = some (.int .i64 0) := (blk_cell ((hbl.block _ (blk_lt HKA.out)).trans HKA.out) 8).trans rfl
  have a9 : w1.cell? ⟨ka, 9, none⟩ = some (.slice none 0 0) := (blk_cell ((hbl.block _ (blk_lt HKA.out)).trans HKA.out) 9).trans rfl
  have a10 : w1.cell? ⟨ka, 10, none⟩ = some (.slice none 0 0) := (blk_cell ((hbl.block _ (blk_lt HKA.out)).trans HKA.out) 10).trans rfl
  have a11 : w1.cell? ⟨ka, 11, none⟩ = some (.slice none 0 0) := (blk_cell ((hbl.block _ (blk_lt HKA.out)).trans HKA.out) 11).trans rfl
  have a12 : w1.cell? ⟨ka, 12, none⟩ = some (.bool false) := (blk_cell ((hbl.block _ (blk_lt HKA.out)).trans HKA.out) 12).trans rfl
  clear hbl
  go_upto_region 5 with fail
  obtain ⟨wb, hwb⟩ : ∃ wb, wb = w1.alloc (.cells #[.int .i64 0, .slice (some ⟨kr, 0, none⟩) 1 1, .int .i64 0, .slice none 0 0, .slice none 0 0, .slice none 0 0, .slice none 0 0, .slice none 0 0, .int .i64 0, .slice none 0 0, .slice none 0 0, .slice none 0 0, .bool false] 66 (0, 0)) := ⟨_, rfl⟩
  have HWB := Aside0.mk hwb
  have HBB : Aside0 (Below w1.heap.size w1 wb ∧ wb.heap[w1.heap.size]? = some (.cells #[.int .i64 0, .slice (some ⟨kr, 0, none⟩) 1 1, .int .i64 0, .slice none 0 0, .slice none 0 0, .slice none 0 0, .slice none 0 0, .slice none 0 0, .int .i64 0, .slice none 0 0, .slice none 0 0, .slice none 0 0, .bool false] 66 (0, 0))) := ⟨by rw [hwb]; exact ⟨(Below.refl _ _).alloc (Nat.le_refl _) _, heap_alloc_new _ _⟩⟩
  rw [← HWB.out]
  clear hwb a0 a1 a2 a3 a4 a5 a6 a7 a8 a9 a10 a11 a12
  have b0 : wb.cell? ⟨w1.heap.size, 0, none⟩ = some (.int .i64 0) := (blk_cell HBB.out.2 0).trans rfl
  have HX := Aside0.mk (HA.out.below HBB.out.1).from_
  have hd1 : numW 1 = [49] := numW_dig 1 (by decide)
  have hd0 : numW 0 = [48] := numW_dig 0 (by decide)
  have hd2 : numW 2 = [50] := numW_dig 2 (by decide)
  have hd3 : numW 3 = [51] := numW_dig 3 (by decide)
  have HD := Aside0.mk (And.intro hd0 (And.intro hd1 (And.intro hd2 hd3)))
  have HBD1 : Aside0 ((([], false) : TS).1.length + lenW (wdsT [.int 1, .err 0]) + 1 ≤ 140737488355328) := ⟨by simp [wdsT, Wd.ws, lenW, hd1, hd0]⟩
  clear hd0 hd1 hd2 hd3
  go_upto_region 6 with (go_at_call 41; refine (nestL (l := [.int 1, .err 0]) HT.out HX.out ((Below.refl _ _).alloc (Nat.le_refl _) _) (Nat.le_refl _) (heap_alloc_new _ _) (by simp) (vs2 rfl rfl) (by intro x hx; simp only [List.mem_cons, List.not_mem_nil, or_false] at hx; rcases hx with rfl | rfl <;> exact ⟨by decide, by decide⟩) HBD1.out).mono ?_; rintro e w2 ⟨rfl, r2, h2⟩; have H2 := Aside0.mk h2; clear h2 b0)
  have HB2 : Aside0 (w2.heap[w1.heap.size]? = some (.cells #[.int .i64 0, .slice (some ⟨kr, 0, none⟩) 1 1, .int .i64 0, .slice none 0 0, .slice none 0 0, .slice none 0 0, .slice none 0 0, .slice none 0 0, .int .i64 0, .slice none 0 0, .slice none 0 0, .slice none 0 0, .bool false] 66 (0, 0)) ∧ w1.heap.size ≠ w.heap.size) := ⟨by
    have h0 := HA.out.bd.lt
    exact ⟨(H2.out.kb.2 _ (blk_lt HBB.out.2) (by omega) (by simp)).trans HBB.out.2, by omega⟩⟩
  have b1 : w2.cell? ⟨w1.heap.size, 1, none⟩ = some (.slice (some ⟨kr, 0, none⟩) 1 1) := (blk_cell HB2.out.1 1).trans rfl
  go_wp2_with fail
  refine wp_loop_rounds 2 ?_
  rw [rounds_succ]
  have hkr : w2.heap[kr]? = some (.cells #[.int .i64 2, .int .i64 1, .int .i64 0, .int .i64 3] 54 (0, 0)) := (H2.out.bl.block _ (blk_lt HKR.out)).trans HKR.out
  have e0 : w2.cell? ⟨kr, 0, none⟩ = some (.int .i64 2) := (blk_cell hkr 0).trans rfl
  have e1 : w2.cell? ⟨kr, 1, none⟩ = some (.int .i64 1) := (blk_cell hkr 1).trans rfl
  have e2 : w2.cell? ⟨kr, 2, none⟩ = some (.int .i64 0) := (blk_cell hkr 2).trans rfl
  have e3 : w2.cell? ⟨kr, 3, none⟩ = some (.int .i64 3) := (blk_cell hkr 3).trans rfl
  clear hkr
  go_upto_region 9 with fail
  obtain ⟨wc, hwc⟩ : ∃ wc, wc = w2.alloc (.cells #[.int .i64 2, .int .i64 1, .int .i64 0, .int .i64 3] 54 (0, 0)) := ⟨_, rfl⟩
  have HWC := Aside0.mk hwc
  have HBC : Aside0 (Below w2.heap.size w2 wc ∧ wc.heap[w2.heap.size]? = some (.cells #[.int .i64 2, .int .i64 1, .int .i64 0, .int .i64 3] 54 (0, 0))) := ⟨by rw [hwc]; exact ⟨(Below.refl _ _).alloc (Nat.le_refl _) _, heap_alloc_new _ _⟩⟩
  rw [← HWC.out]
  clear hwc e0 e1 e2 e3 b1
  have f0 : wc.cell? ⟨w2.heap.size, 0, none⟩ = some (.int .i64 2) := (blk_cell HBC.out.2 0).trans rfl
  have f1 : wc.cell? ⟨w2.heap.size, 1, none⟩ = some (.int .i64 1) := (blk_cell HBC.out.2 1).trans rfl
  have f2 : wc.cell? ⟨w2.heap.size, 2, none⟩ = some (.int .i64 0) := (blk_cell HBC.out.2 2).trans rfl
  have f3 : wc.cell? ⟨w2.heap.size, 3, none⟩ = some (.int .i64 3) := (blk_cell HBC.out.2 3).trans rfl
  have HX2 := Aside0.mk (H2.out.below HBC.out.1).from_
  have HBD2 : Aside0 ((endL (addWs ([], false) (wdsT [.int 1, .err 0]))).1.length + lenW (wdsT [.str [114, 101, 112, 108, 121], .call 2 1, .err 0, .int 3]) + 1 ≤ 140737488355328) := ⟨by simp [wdsT, Wd.ws, lenW, HD.out.1, HD.out.2.1, HD.out.2.2.1, HD.out.2.2.2, endL, addWs, addW]⟩
  go_wp2_with (go_at_call 41; refine (nestL (l := [.str [114, 101, 112, 108, 121], .call 2 1, .err 0, .int 3]) HT.out HX2.out ((Below.refl _ _).alloc (Nat.le_refl _) _) (Nat.le_refl _) (heap_alloc_new _ _) (by simp) (vs4 rfl rfl rfl rfl) (by intro x hx; simp only [List.mem_cons, List.not_mem_nil, or_false] at hx; rcases hx with rfl | rfl | rfl | rfl; exact (show (5 : Nat) ≤ _ by decide); exact ⟨⟨by decide, by decide⟩, ⟨by decide, by decide⟩⟩; exact ⟨by decide, by decide⟩; exact ⟨by decide, by decide⟩) HBD2.out).mono ?_; rintro e w3 ⟨rfl, r3, h3⟩; have H3 := Aside0.mk h3; clear h3 f0 f1 f2 f3)
  have HB3 : Aside0 (w3.heap[w1.heap.size]? = some (.cells #[.int .i64 0, .slice (some ⟨kr, 0, none⟩) 1 1, .int .i64 0, .slice none 0 0, .slice none 0 0, .slice none 0 0, .slice none 0 0, .slice none 0 0, .int .i64 0, .slice none 0 0, .slice none 0 0, .slice none 0 0, .bool false] 66 (0, 0)) ∧ r3 ≠ some w1.heap.size) := ⟨by
    have h1 := blk_lt HBB.out.2
    have h2 := H2.out.kb.1
    have h4 := HBC.out.1.size
    have h5 : r2 ≠ some w1.heap.size := fun e => by
      rcases H2.out.rn _ e with e2 | e2
      · cases e2
      · omega
    refine ⟨(H3.out.kb.2 _ (by omega) HB2.out.2 (Ne.symm h5)).trans ((HBC.out.1.block _ (by omega)).trans HB2.out.1), fun e => ?_⟩
    rcases H3.out.rn _ e with e2 | e2
    · exact h5 e2.symm
    · omega⟩
  have g2 : w3.cell? ⟨w1.heap.size, 2, none⟩ = some (.int .i64 0) := (blk_cell HB3.out.1 2).trans rfl
  have g3 : w3.cell? ⟨w1.heap.size, 3, none⟩ = some (.slice none 0 0) := (blk_cell HB3.out.1 3).trans rfl
  have g4 : w3.cell? ⟨w1.heap.size, 4, none⟩ = some (.slice none 0 0) := (blk_cell HB3.out.1 4).trans rfl
  have g5 : w3.cell? ⟨w1.heap.size, 5, none⟩ = some (.slice none 0 0) := (blk_cell HB3.out.1 5).trans rfl
  have g6 : w3.cell? ⟨w1.heap.size, 6, none⟩ = some (.slice none 0 0) := (blk_cell HB3.out.1 6).trans rfl
  have g7 : w3.cell? ⟨w1.heap.size, 7, none⟩ = some (.slice none 0 0) := (blk_cell HB3.out.1 7).trans rfl
  have g8 : w3.cell? ⟨w1.heap.size, 8, none⟩ = some (.int .i64 0) := (blk_cell HB3.out.1 8).trans rfl
  have g9 : w3.cell? ⟨w1.heap.size, 9, none⟩ = some (.slice none 0 0) := (blk_cell HB3.out.1 9).trans rfl
  have g10 : w3.cell? ⟨w1.heap.size, 10, none⟩ = some (.slice none 0 0) := (blk_cell HB3.out.1 10).trans rfl
  have g11 : w3.cell? ⟨w1.heap.size, 11, none⟩ = some (.slice none 0 0) := (blk_cell HB3.out.1 11).trans rfl
  have g12 : w3.cell? ⟨w1.heap.size, 12, none⟩ = some (.bool false) := (blk_cell HB3.out.1 12).trans rfl
  rw [rounds_succ]
  go_upto_region 14 with (go_at_call 42; refine (sight_none H3.out.from_ _ _ _ _ _ _ _ _).mono ?_; rintro e w4 ⟨rfl, h4⟩; have H4 := Aside0.mk h4; clear h4 g2 g3 g4 g5 g6 g7 g8 g9 g10 g11 g12)
  have HB4 : Aside0 (w4.heap[w1.heap.size]? = some (.cells #[.int .i64 0, .slice (some ⟨kr, 0, none⟩) 1 1, .int .i64 0, .slice none 0 0, .slice none 0 0, .slice none 0 0, .slice none 0 0, .slice none 0 0, .int .i64 0, .slice none 0 0, .slice none 0 0, .slice none 0 0, .bool false] 66 (0, 0))) := ⟨(H4.out.kb.2 _ (blk_lt HB3.out.1) HB2.out.2 (Ne.symm HB3.out.2)).trans HB3.out.1⟩
  have k9 : w4.cell? ⟨w1.heap.size, 9, none⟩ = some (.slice none 0 0) := (blk_cell HB4.out 9).trans rfl
  have k10 : w4.cell? ⟨w1.heap.size, 10, none⟩ = some (.slice none 0 0) := (blk_cell HB4.out 10).trans rfl
  have k11 : w4.cell? ⟨w1.heap.size, 11, none⟩ = some (.slice none 0 0) := (blk_cell HB4.out 11).trans rfl
  go_wp2_with fail
  refine wp_loop_rounds 1 ?_
  rw [rounds_succ]
  go_wp2_with fail
  refine wp_loop_rounds 1 ?_
  rw [rounds_succ]
  go_wp2_with fail
  clear k9 k10 k11
  have HE : Aside0 ((endL (addWs (endL (addWs ([], false) (wdsT [.int 1, .err 0]))) (wdsT [.str [114, 101, 112, 108, 121], .call 2 1, .err 0, .int 3]))).1 = aliveT) := ⟨by
    simp [wdsT, Wd.ws, HD.out.1, HD.out.2.1, HD.out.2.2.1, HD.out.2.2.2, endL, addWs, addW, aliveT]⟩
  rw [rounds_succ]
  go_wp2_with (go_at_call 34; refine (str_some H4.out.bd (by rw [HE.out]; decide)).mono ?_; rintro e w5 ⟨rfl, hb⟩; have HB5 := Aside0.mk hb; clear hb)
  go_ret
  refine ⟨?_, H4.out.bl.trans HB5.out⟩
  rw [← HE.out]; rfl
end Go.Proofs.YtnbfebjcfhbhiaaDoor.Bw
end
section
namespace Go.Proofs.YtnbfebjcfhbhiaaDoor.Bw
open Go Go.RowKit Go.Proofs.YtnbfebjcfhbhiaaDoor.P Go.Proofs.YtnbfebjcfhbhiaaDoor.Sc Go.Proofs.YtnbfebjcfhbhiaaDoor.Lw Go.Proofs.YtnbfebjcfhbhiaaDoorW.PrintWords Go.Proofs.YtnbfebjcfhbhiaaDoorW.PrintLast Go.Proofs.YtnbfebjcfhbhiaaDoorW.PrintMore
set_option linter.unusedVariables false
set_option linter.unusedSimpArgs false
def aliveX : By := [114, 101, 112, 108, 105, 99, 97, 115, 32, 50, 32, 119, 105, 110, 100, 111, 119, 32, 50, 32, 114, 101, 115, 101, 110, 100, 32, 50, 32, 116, 105, 109, 101, 111, 117, 116, 32, 50, 48, 32, 113, 117, 101, 117, 101, 32, 52, 32, 99, 97, 99, 104, 101, 32, 50, 32, 99, 111, 117, 110, 116, 101, 114, 115, 32, 50, 32, 104, 111, 108, 100, 115, 32, 50, 32, 115, 101, 115, 115, 105, 111, 110, 115, 32, 52, 32, 98, 97, 103, 32, 53, 48, 10, 99, 97, 108, 108, 32, 48, 32, 50, 32, 49, 32, 99, 114, 101, 97, 116, 101, 32, 107, 37, 50, 48, 32, 49, 48, 32, 52, 10]
def aliveC : List Int := [2, 2, 2, 20, 4, 2, 2, 2, 4, 50]
def aliveS : St := ⟨1, 0, 2, 1, 1, [107, 32], 10, 4, 0, 0, []⟩
theorem alive_parse : Sc.parse aliveX = .ok aliveC [aliveS] := by rfl
theorem alive_print : printR aliveC [aliveS] = (aliveX, 0) := by decide +kernel
end Go.Proofs.YtnbfebjcfhbhiaaDoor.Bw
end
section
namespace Go.Proofs.YtnbfebjcfhbhiaaDoor.Lw
open Go Go.RowKit Go.Proofs.YtnbfebjcfhbhiaaDoor.P Go.Proofs.YtnbfebjcfhbhiaaDoor.Sc Go.Proofs.YtnbfebjcfhbhiaaDoorW.PrintWords Go.Proofs.YtnbfebjcfhbhiaaDoorW.PrintLast Go.Proofs.YtnbfebjcfhbhiaaDoorW.PrintMore
set_option linter.unusedVariables false
set_option linter.unusedSimpArgs false
theorem hash_iff (t : By) : bs ⟨#[35]⟩ <+: bs (sb t) ↔ t.head? = some 35 := by
  rw [bs_sb]
  show [35] <+: t ↔ _
  cases t with
  | nil => simp
  | cons c t => simp [List.cons_prefix_cons, eq_comm]
theorem hash_yes {t : By} (h : t.head? = some 35) (w : World) : Calls Tryd.prog 36 #[.string (sb t), .string ⟨#[35]⟩] w fun e w' => e = .returned (.bool true) ∧ Below w.heap.size w w' := by
  have := prefix_calls (sb t) ⟨#[35]⟩ w
  rwa [decide_eq_true ((hash_iff t).2 h)] at this
theorem hash_no {t : By} (h : ¬ t.head? = some 35) (w : World) : Calls Tryd.prog 36 #[.string (sb t), .string ⟨#[35]⟩] w fun e w' => e = .returned (.bool false) ∧ Below w.heap.size w w' := by
  have := prefix_calls (sb t) ⟨#[35]⟩ w
  rwa [decide_eq_false (fun hh => h ((hash_iff t).1 hh))] at this
theorem lineE_le {α : Type} (p : Rd α) (t : By) (wh : Bool) {k : Nat} (h : lineE p t wh = .error k) : k ≤ t.length := by
  unfold lineE at h
  split at h
  · split at h
    · cases h
    · injection h with h; omega
  · injection h with h; omega
  · injection h with h; omega
/-- Behind a line: how it stands with what Parse has to say. -/
def Spec (Ls : List (By × Bool)) (i : Nat) (cfg : Option (List Int)) (out : List St) (at' : Int) (bad' : Bool) : Prop :=
  if bad' = true then ∃ k : Nat, at' = (k : Int) ∧ k ≤ 1048576 ∧ parseGo Ls 0 none [] = .place (i + 1) (k + 1) else parseGo Ls 0 none [] = parseGo (Ls.drop (i + 1)) (i + 1) cfg out
section
variable {Ls : List (By × Bool)} {i : Nat} {cfg : Option (List Int)} {out : List St} {at' : Int} {bad' : Bool} {t : By} {wh : Bool}
theorem drop_line (hx : Ls[i]? = some (t, wh)) : Ls.drop i = (t, wh) :: Ls.drop (i + 1) := by
  obtain ⟨hi, e⟩ := List.getElem?_eq_some_iff.1 hx
  rw [List.drop_eq_getElem_cons hi, e]
theorem go_hash (r : List (By × Bool)) (h : t.head? = some 35) : parseGo ((t, wh) :: r) i cfg out = if wh then parseGo r (i + 1) cfg out else .place (i + 1) (t.length + 1) := by
  cases cfg <;> rw [parseGo, if_pos h]
theorem go_none (r : List (By × Bool)) : parseGo (([], wh) :: r) i cfg out = parseGo r (i + 1) cfg out := by
  cases cfg <;> rw [parseGo, if_neg (by simp), if_pos rfl]
theorem spec_hash (hS : parseGo Ls 0 none [] = parseGo (Ls.drop i) i cfg out) (hx : Ls[i]? = some (t, wh)) (ht : t.length ≤ 1048576) (h : t.head? = some 35) (hE : EndP (sb t) wh (.good () []) at' bad') : Spec Ls i cfg out at' bad' := by
  rw [drop_line hx, go_hash _ h] at hS
  unfold Spec
  unfold EndP at hE
  simp only at hE
  cases wh with
  | true =>
    simp only [if_true] at hE hS
    subst hE
    simpa using hS
  | false =>
    simp only [Bool.false_eq_true, if_false] at hE hS
    obtain ⟨rfl, rfl⟩ := hE
    rw [if_pos rfl]
    exact ⟨t.length, by rw [← bs_len, bs_sb], ht, hS⟩
theorem spec_none (hS : parseGo Ls 0 none [] = parseGo (Ls.drop i) i cfg out) (hx : Ls[i]? = some ([], wh)) : Spec Ls i cfg out 0 false := by
  rw [drop_line hx, go_none] at hS
  unfold Spec
  simpa using hS
theorem spec_step {c : List Int} {x : St} (hS : parseGo Ls 0 none [] = parseGo (Ls.drop i) i (some c) out) (hx : Ls[i]? = some (t, wh)) (ht : t.length ≤ 1048576) (h : ¬ t.head? = some 35) (h0 : ¬ t = []) (hP : LineP stepP (sb t) wh x at' bad') : Spec Ls i (some c) (out ++ [x]) at' bad' := by
  rw [drop_line hx, parseGo, if_neg h, if_neg h0] at hS
  unfold Spec
  unfold LineP at hP
  rw [bs_sb] at hP
  cases hl : lineE stepP t wh with
  | ok y =>
    rw [hl] at hP hS
    obtain ⟨rfl, rfl⟩ := hP
    simpa using hS
  | error k =>
    rw [hl] at hP hS
    obtain ⟨rfl, rfl⟩ := hP
    rw [if_pos rfl]
    exact ⟨k, rfl, Nat.le_trans (lineE_le _ _ _ hl) ht, hS⟩
theorem spec_cfg {x : List Int} (hS : parseGo Ls 0 none [] = parseGo (Ls.drop i) i none out) (hx : Ls[i]? = some (t, wh)) (ht : t.length ≤ 1048576) (h : ¬ t.head? = some 35) (h0 : ¬ t = []) (hP : LineP cfgP (sb t) wh x at' bad') : Spec Ls i (some x) out at' bad' := by
  rw [drop_line hx, parseGo, if_neg h, if_neg h0] at hS
  unfold Spec
  unfold LineP at hP
  rw [bs_sb] at hP
  cases hl : lineE cfgP t wh with
  | ok y =>
    rw [hl] at hP hS
    obtain ⟨rfl, rfl⟩ := hP
    simpa using hS
  | error k =>
    rw [hl] at hP hS
    obtain ⟨rfl, rfl⟩ := hP
    rw [if_pos rfl]
    exact ⟨k, rfl, Nat.le_trans (lineE_le _ _ _ hl) ht, hS⟩
end
section
variable {w wr : World} {Ls : List (By × Bool)} {v vo : Value} {ks : List Nat} {i g : Nat} {cfg : Option (List Int)} {out : List St} {t : By} {wh : Bool}
theorem PS.lsr (h : PS w wr Ls v ks i cfg out vo) (hk : ks[i]? = some g) (hx : Ls[i]? = some (t, wh)) (ht : t.length ≤ 1048576) : LS w wr wr g (sb t) wh (.good () (bs (sb t))) := by
  obtain ⟨h1, h2⟩ := h.line hk hx
  exact ⟨0, false, ⟨h1, h2⟩, ⟨rfl, [], rfl, rfl⟩, h.bl, KeepBut.refl _ _ _, by rw [← bs_len, bs_sb]; omega⟩
theorem PS.lsh (h : PS w wr Ls v ks i cfg out vo) (hk : ks[i]? = some g) (hx : Ls[i]? = some (t, wh)) (ht : t.length ≤ 1048576) : LS w wr (wr.setCell ⟨g, 1, none⟩ (.int .i64 (sb t).size)) g (sb t) wh (.good () []) := by
  obtain ⟨h1, h2⟩ := h.line hk hx
  have hi : IsS109 w wr g (sb t) 0 wh false := ⟨h1, h2⟩
  refine ⟨(sb t).size, false, hi.set_1 _, ⟨rfl, bs (sb t), by simp, by rw [bs_len]⟩, h.bl.setCell (p := ⟨g, 1, none⟩) h2 _, (KeepBut.refl _ _ _).set_ 1 _, by rw [← bs_len, bs_sb]; omega⟩
theorem own_form {w : World} {base e n : Nat} {v : Value} {xs : List Value} (h : w.ownsRow base e 1 v n xs) : ∃ A c, v = .slice A n c ∧ n ≤ 9223372036854775807 := by
  rcases h.2 with ⟨rfl, rfl⟩ | ⟨G, cap, cur, rfl, _, _, h1, h2, _⟩
  · exact ⟨_, _, rfl, by omega⟩
  · refine ⟨_, _, rfl, ?_⟩
    simp only [maxLen] at h2; omega
theorem own_get {w : World} {base e n m c : Nat} {A : Option Addr} {xs : List Value} (h : w.ownsRow base e 1 (.slice A m c) n xs) {i : Nat} (hi : i < n) : ∃ ad, A = some ad ∧ ∀ j u, xs[j]? = some u → w.cell? (ad.add j) = some u := by
  have h0 := h
  rcases h.2 with ⟨_, rfl⟩ | ⟨G, cap, cur, e, _⟩
  · omega
  · injection e with e1 e2 e3
    subst e1 e2 e3
    exact ⟨_, rfl, h0.cells (g := G) rfl⟩
end
theorem setCell_idem {w : World} {b j T : Nat} {cs : Array Value} {v : Value} (h : w.heap[b]? = some (.cells cs T (0, 0))) (hv : cs[j]? = some v) : w.setCell ⟨b, j, none⟩ v = w := by
  have e : cs.setIfInBounds j v = cs := by
    apply Array.ext_getElem?
    intro k
    by_cases hk : k = j
    · subst hk
      have : k < cs.size := by rw [Array.getElem?_eq_some_iff] at hv; exact hv.1
      rw [hv, Array.getElem?_setIfInBounds_self_of_lt this]
    · rw [Array.getElem?_setIfInBounds_ne (Ne.symm hk)]
  have h1 : (w.setCell ⟨b, j, none⟩ v).heap = w.heap := by
    apply Array.ext_getElem?
    intro i
    by_cases hi : i = b
    · subst hi
      rw [heap_setCell_same w i j _ _ v h, h, e]
    · exact Below.heap_setCell w ⟨b, j, none⟩ v i hi
  unfold World.setCell at h1 ⊢
  cases w
  simp only at h1 ⊢
  rw [h1]
theorem PS.far {w wr w1 : World} {Ls : List (By × Bool)} {v vo : Value} {ks : List Nat} {i g : Nat} {cfg : Option (List Int)} {out : List St} {cs : Array Value} (h : PS w wr Ls v ks i cfg out vo) (hg : wr.grownBy w1 vo.ownBlock) (hb : wr.heap[g]? = some (.cells cs 109 (0, 0))) : w1.heap[g]? = some (.cells cs 109 (0, 0)) :=
  (hg.block g (blk_lt hb) (fun e => by
    obtain ⟨c2, hc2⟩ := Kd.R_typed h.out_ g e.symm
    rw [hb] at hc2; simp at hc2)).trans hb
/-- The steps so far and the step that has come. -/
theorem PS.push {w w2 : World} {Ls : List (By × Bool)} {v vo dv : Value} {ks : List Nat} {i b0 : Nat} {cfg : Option (List Int)} {out : List St} {x : St} (h : PS w w2 Ls v ks i cfg out vo) (hR : Kd.R (Kd.int .u8) 5 w2 b0 (fun _ => True) dv (nums x.data)) (hb : w.heap.size ≤ b0) (hv : ∀ k, vo.ownBlock = some k → k < b0) :
    Kd.M k48 w2 w.heap.size (fun k => b0 ≤ k) (stS x) (stc x dv).toList ∧ ∀ k, b0 ≤ k → True ∧ some k ≠ vo.ownBlock :=
  ⟨st_M (Kd.R_lower (Kd.R_mono (Kd.R_bound hR) (fun k hk => hk.2.1)) hb), fun k hk => ⟨trivial, fun e => by have := hv k e.symm; omega⟩⟩
theorem z48 : (Tryd.prog.info? 48).map (fun i => (i.zero, i.size, i.bytes)) = some (some (.agg #[.int .i64 0, .int .i64 0, .int .i64 0, .int .i64 0, .int .i64 0, .string ⟨#[]⟩, .int .i64 0, .int .i64 0, .int .i64 0, .int .i64 0, .slice none 0 0]), 11, 112) := by kernel_rfl
end Go.Proofs.YtnbfebjcfhbhiaaDoor.Lw
end
section
namespace Go.Proofs.YtnbfebjcfhbhiaaDoor.Lw
open Go Go.RowKit Go.Proofs.YtnbfebjcfhbhiaaDoor.P Go.Proofs.YtnbfebjcfhbhiaaDoor.Sc Go.Proofs.YtnbfebjcfhbhiaaDoorW.PrintWords Go.Proofs.YtnbfebjcfhbhiaaDoorW.PrintLast Go.Proofs.YtnbfebjcfhbhiaaDoorW.PrintMore
set_option linter.unusedVariables false
set_option linter.unusedSimpArgs false
def PR (w : World) (Ls : List (By × Bool)) (v : Value) (ks : List Nat) (s8 s9 s21 : Value) (wr : World) : Prop := ∃ (i : Nat) (cfg : Option (List Int)) (out : List St), s21 = .int .i64 i ∧ s9 = .bool cfg.isSome ∧ i ≤ Ls.length ∧ PS w wr Ls v ks i cfg out s8 ∧ parseGo Ls 0 none [] = parseGo (Ls.drop i) i cfg out
set_option maxHeartbeats 16000000 in
set_option maxRecDepth 100000 in
theorem parse_calls (w : World) (s : ByteArray) (hV : VS w) (hC : VC w) (hs : s.size ≤ 4611686018427387904) :
    Calls Tryd.prog 16 #[.string s] w fun e w' => ParseP w w' (Sc.parse (bs s)) e ∧ Below w.heap.size w w' := by
  have HV := Aside0.mk hV
  have HC := Aside0.mk hC
  have hu25 := Tryd.underlying25
  obtain ⟨wa, hwa⟩ : ∃ wa, wa = w.alloc (.cells (cfc []) 25 (0, 0)) := ⟨_, rfl⟩
  have HWA := Aside0.mk hwa
  have HA : Aside0 (Below w.heap.size w wa ∧ wa.heap[w.heap.size]? = some (.cells (cfc []) 25 (0, 0)) ∧ wa.heap.size = w.heap.size + 1) := ⟨by
    rw [hwa]
    exact ⟨(Below.refl _ _).alloc (Nat.le_refl _) _, heap_alloc_new w _, by simp⟩⟩
  have h0 : (s.size : Int) ≤ 4611686018427387904 := by omega
  have HLEN := Aside0.mk (bs_len s)
  clear hV hwa hC
  go_enter Tryd.func16, Tryd.ntmps16
  go_upto_region 1 with fail
  rw [show ((#[.int .i64 0, .int .i64 0, .int .i64 0, .int .i64 0, .int .i64 0, .int .i64 0, .int .i64 0, .int .i64 0, .int .i64 0, .int .i64 0] : Array Value)) = cfc [] from rfl, ← HWA.out]
  by_cases hl : 1048576 < s.size
  · have h1 : (1048576 : Int) < (s.size : Int) := by omega
    have HL := Aside0.mk hl
    clear hl
    go_wp2_with (refine wpList_store_row rfl 25 (.tmp 2) (.tmp 16) rfl w.heap.size (cfc []) (by rfl) (by rfl) 25 _ HA.out.2.1 (inf25c (by decide)) rfl (cfc_one _) ?_)
    refine bodyPost_ret (results_cell5 rfl _ _ w.heap.size 25 (cfc []) (0, 0) _ (by rfl) (setRow_blk HA.out.2.1 _) hu25 rfl (inf25c (by decide))) rfl ?_
    have hp : Sc.parse (bs s) = .long := by unfold Sc.parse; rw [HLEN.out, if_pos HL.out]
    rw [hp]
    exact ⟨rfl, below_setRow HA.out.1 (Nat.le_refl _) _⟩
  · have h1 : (s.size : Int) ≤ 1048576 := by omega
    have HS : Aside0 (s.size ≤ 1048576) := ⟨by omega⟩
    have HPA : Aside0 (Sc.parse (bs s) = parseGo (Sc.lines (bs s)) 0 none []) := ⟨by unfold Sc.parse; rw [HLEN.out, if_neg hl]⟩
    clear hl h0
    obtain ⟨wb, hwb⟩ : ∃ wb, wb = wa.alloc (.cells (cfc []) 25 (0, 0)) := ⟨_, rfl⟩
    have HWB := Aside0.mk hwb
    have HB : Aside0 (Below w.heap.size w wb ∧ wb.heap[w.heap.size]? = some (.cells (cfc []) 25 (0, 0)) ∧ wb.heap[w.heap.size + 1]? = some (.cells (cfc []) 25 (0, 0)) ∧ wb.heap.size = w.heap.size + 2) := ⟨by
      have hsz := HA.out.2.2
      rw [hwb]
      refine ⟨HA.out.1.alloc (by omega) _, (heap_alloc_old wa _ (by omega)).trans HA.out.2.1, ?_, by simp [hsz]⟩
      rw [← hsz]; exact heap_alloc_new wa _⟩
    have hsz := HA.out.2.2
    clear hwb
    go_upto_region 5 with fail
    rw [show ((#[.int .i64 0, .int .i64 0, .int .i64 0, .int .i64 0, .int .i64 0, .int .i64 0, .int .i64 0, .int .i64 0, .int .i64 0, .int .i64 0] : Array Value)) = cfc [] from rfl, ← HWB.out]
    clear hsz
    go_upto_region 6 with (go_at_call 35; refine (lines_calls _ s HS.out).mono ?_; rintro e wc ⟨v, ks, rfl, hLN, hb⟩; have HN := Aside0.mk hLN; have HBC := Aside0.mk hb; clear hLN hb)
    obtain ⟨A, c, rfl, hmax⟩ := own_form HN.out.own
    obtain ⟨Ls, hLs⟩ : ∃ Ls, Ls = Sc.lines (bs s) := ⟨_, rfl⟩
    have HK : Aside0 (PS w wc Ls (.slice A ks.length c) ks 0 none [] (.slice none 0 0) ∧ (∀ x ∈ Ls, x.1.length ≤ 1048576) ∧ Ls.length ≤ 1048576) := ⟨by
      have hn := HN.out
      have hb := HBC.out
      have hB := HB.out
      rw [← hLs] at hn
      have h1 := HS.out
      have h2 := HLEN.out
      refine ⟨⟨own_weaken hn.own (by omega), hn.len, fun j k x _ a b => ⟨(hn.at_ j k x a b).1, by have := (hn.at_ j k x a b).2; omega⟩, hn.nd, (hb.block _ (by omega)).trans hB.2.2.1, (hb.block _ (by omega)).trans hB.2.1, Kd.R_nil _ _ _ _ _, hB.1.trans (hb.mono (by omega)), Nat.le_refl _, fun _ e => by cases e⟩, fun x hx => ?_, ?_⟩
      · rw [hLs] at hx
        have := lines_le _ _ hx; omega
      · rw [hLs]; have := lines_len (bs s); omega⟩
    have HLs := Aside0.mk hLs
    have HKL : Aside0 (ks.length = Ls.length) := ⟨HK.out.1.len⟩
    have hkm : (ks.length : Int) ≤ 1048576 := by have := HK.out.2.2; have := HKL.out; omega
    clear hLs hmax HN HBC h1
    go_wp2_with fail
    go_loopw [8, 9, 21] (fun s8 s9 s21 wr => Aside0 (PR w Ls (.slice A ks.length c) ks s8 s9 s21 wr)) (fun _ _ s21 _ => Ls.length - (intOf s21).toNat)
    case atStart => exact ⟨0, none, [], rfl, rfl, Nat.zero_le _, HK.out.1, rfl⟩
    case round =>
      obtain ⟨i, cfg, out, rfl, rfl, hi, hP, hS⟩ := hrel.out
      have HX := Aside0.mk hP
      have HSP := Aside0.mk hS
      have HI := Aside0.mk hi
      clear hrel hP hS hi
      by_cases hlt : i < ks.length
      · have hil : i < Ls.length := by have := HKL.out; omega
        have hk : ks[i]? = some (ks[i]'hlt) := List.getElem?_eq_getElem hlt
        have hx : Ls[i]? = some (Ls[i]'hil) := List.getElem?_eq_getElem hil
        have hmem : (Ls[i]'hil) ∈ Ls := List.getElem_mem hil
        generalize ks[i]'hlt = g at hk
        obtain ⟨⟨t, wh⟩, hx1⟩ : ∃ x, Ls[i]'hil = x := ⟨_, rfl⟩
        rw [hx1] at hx hmem
        have HT : Aside0 (ks[i]? = some g ∧ Ls[i]? = some (t, wh) ∧ t.length ≤ 1048576) := ⟨⟨hk, hx, HK.out.2.1 _ hmem⟩⟩
        obtain ⟨ad, rfl, hat⟩ := own_get HX.out.row hlt
        have q0 : wr.cell? (ad.add i) = some (.pointer (some ⟨g, 0, none⟩)) := hat i _ (by rw [List.getElem?_map, hk]; rfl)
        obtain ⟨hln, hlw⟩ := HX.out.line hk hx
        have q1 : wr.cell? ⟨g, 0, none⟩ = some (.string (sb t)) := (blk_cell hln 0).trans rfl
        have HIL := Aside0.mk hil
        have hlt2 : (i : Int) < (ks.length : Int) := by omega
        have HPL : Aside0 (parseGo Ls 0 none [] = Sc.parse (bs s)) := ⟨by rw [HPA.out, HLs.out]⟩
        clear hat hk hx hmem hx1 hil hln hlw hlt
        by_cases hh : t.head? = some 35
        · have HH := Aside0.mk hh
          clear hh
          go_upto_region 11 with (go_at_call 36; refine (hash_yes HH.out _).mono ?_; rintro e w1 ⟨rfl, hb⟩; have n0_ := Aside0.mk (HX.out.below hb); clear HX hb q0 q1; have HX := n0_; clear n0_; have hln := (HX.out.line HT.out.1 HT.out.2.1).1; have p0 : w1.cell? ⟨g, 0, none⟩ = some (.string (sb t)) := (blk_cell hln 0).trans rfl; have p1 : w1.cell? ⟨g, 1, none⟩ = some (.int .i64 0) := (blk_cell hln 1).trans rfl; have p2 : w1.frozen? ⟨g, 1, none⟩ = false := blk_frozen hln 1; clear hln)
          have HL := Aside0.mk (HX.out.lsh HT.out.1 HT.out.2.1 HT.out.2.2)
          go_upto_region 16 with (go_at_call 37; refine (ends_calls HL.out).mono ?_; rintro e w2 ⟨rfl, atv, bdv, k1, k2, k3, k4⟩; have hc1 : w2.cell? ⟨g, 1, none⟩ = some (.int .i64 atv) := (blk_cell k1.1 1).trans rfl; have hc3 : w2.cell? ⟨g, 3, none⟩ = some (.bool bdv) := (blk_cell k1.1 3).trans rfl; have hpx := HX.out.next HT.out.1 HT.out.2.1 (((KeepBut.refl w1 g none).set_ 1 _).trans k3 (.inl rfl)) k2; have hsx := spec_hash HSP.out HT.out.2.1 HT.out.2.2 HH.out k4; clear k1 k2 k3 k4 p0 p1 p2 HX HL)
          have HPX := Aside0.mk hpx
          have HSX := Aside0.mk hsx
          clear hpx hsx
          cases bdv with
          | true =>
            obtain ⟨k, rfl, hk, hres⟩ : ∃ k : Nat, atv = (k : Int) ∧ k ≤ 1048576 ∧ parseGo Ls 0 none [] = .place (i + 1) (k + 1) := by have := HSX.out; unfold Spec at this; simpa using this
            have HR := Aside0.mk hres
            have hk2 : (k : Int) ≤ 1048576 := by omega
            have hrv := HPX.out.rv
            have z0 : w2.cell? ⟨w.heap.size, 0, none⟩ = some (.int .i64 0) := (blk_cell hrv 0).trans rfl
            have y0 : w2.frozen? ⟨w.heap.size, 0, none⟩ = false := blk_frozen hrv 0
            have x0 : w2.setCell ⟨w.heap.size, 0, none⟩ (.int .i64 0) = w2 := setCell_idem hrv rfl
            have z1 : w2.cell? ⟨w.heap.size, 1, none⟩ = some (.int .i64 0) := (blk_cell hrv 1).trans rfl
            have y1 : w2.frozen? ⟨w.heap.size, 1, none⟩ = false := blk_frozen hrv 1
            have x1 : w2.setCell ⟨w.heap.size, 1, none⟩ (.int .i64 0) = w2 := setCell_idem hrv rfl
            have z2 : w2.cell? ⟨w.heap.size, 2, none⟩ = some (.int .i64 0) := (blk_cell hrv 2).trans rfl
            have y2 : w2.frozen? ⟨w.heap.size, 2, none⟩ = false := blk_frozen hrv 2
            have x2 : w2.setCell ⟨w.heap.size, 2, none⟩ (.int .i64 0) = w2 := setCell_idem hrv rfl
            have z3 : w2.cell? ⟨w.heap.size, 3, none⟩ = some (.int .i64 0) := (blk_cell hrv 3).trans rfl
            have y3 : w2.frozen? ⟨w.heap.size, 3, none⟩ = false := blk_frozen hrv 3
            have x3 : w2.setCell ⟨w.heap.size, 3, none⟩ (.int .i64 0) = w2 := setCell_idem hrv rfl
            have z4 : w2.cell? ⟨w.heap.size, 4, none⟩ = some (.int .i64 0) := (blk_cell hrv 4).trans rfl
            have y4 : w2.frozen? ⟨w.heap.size, 4, none⟩ = false := blk_frozen hrv 4
            have x4 : w2.setCell ⟨w.heap.size, 4, none⟩ (.int .i64 0) = w2 := setCell_idem hrv rfl
            have z5 : w2.cell? ⟨w.heap.size, 5, none⟩ = some (.int .i64 0) := (blk_cell hrv 5).trans rfl
            have y5 : w2.frozen? ⟨w.heap.size, 5, none⟩ = false := blk_frozen hrv 5
            have x5 : w2.setCell ⟨w.heap.size, 5, none⟩ (.int .i64 0) = w2 := setCell_idem hrv rfl
            have z6 : w2.cell? ⟨w.heap.size, 6, none⟩ = some (.int .i64 0) := (blk_cell hrv 6).trans rfl
            have y6 : w2.frozen? ⟨w.heap.size, 6, none⟩ = false := blk_frozen hrv 6
            have x6 : w2.setCell ⟨w.heap.size, 6, none⟩ (.int .i64 0) = w2 := setCell_idem hrv rfl
            have z7 : w2.cell? ⟨w.heap.size, 7, none⟩ = some (.int .i64 0) := (blk_cell hrv 7).trans rfl
            have y7 : w2.frozen? ⟨w.heap.size, 7, none⟩ = false := blk_frozen hrv 7
            have x7 : w2.setCell ⟨w.heap.size, 7, none⟩ (.int .i64 0) = w2 := setCell_idem hrv rfl
            have z8 : w2.cell? ⟨w.heap.size, 8, none⟩ = some (.int .i64 0) := (blk_cell hrv 8).trans rfl
            have y8 : w2.frozen? ⟨w.heap.size, 8, none⟩ = false := blk_frozen hrv 8
            have x8 : w2.setCell ⟨w.heap.size, 8, none⟩ (.int .i64 0) = w2 := setCell_idem hrv rfl
            have z9 : w2.cell? ⟨w.heap.size, 9, none⟩ = some (.int .i64 0) := (blk_cell hrv 9).trans rfl
            have y9 : w2.frozen? ⟨w.heap.size, 9, none⟩ = false := blk_frozen hrv 9
            have x9 : w2.setCell ⟨w.heap.size, 9, none⟩ (.int .i64 0) = w2 := setCell_idem hrv rfl
            clear hres hk hrv
            go_upto_region 17 with fail
            go_region
            go_wp2_with fail
            refine bodyPost_ret (results_cell5 rfl _ _ w.heap.size 25 (cfc []) (0, 0) _ (by rfl) HPX.out.rv hu25 rfl (inf25c (by decide))) rfl ?_
            rw [← HPL.out, HR.out]
            exact ⟨by simp [ParseP], pw_below_drewN HPX.out.bl 1⟩
          | false =>
            have hres : parseGo Ls 0 none [] = parseGo (Ls.drop (i + 1)) (i + 1) cfg out := by have := HSX.out; unfold Spec at this; simpa using this
            have HR := Aside0.mk hres
            clear hres
            go_wp2_with fail
            go_roundw
            case rel => exact ⟨i + 1, cfg, out, by go_num, rfl, HIL.out, HPX.out, HR.out⟩
            case measure => simp [intOf]; have := HIL.out; omega
        have HH := Aside0.mk hh
        clear hh
        by_cases ht0 : t = []
        · subst ht0
          go_upto_region 13 with (go_at_call 36; refine (hash_no HH.out _).mono ?_; rintro e w1 ⟨rfl, hb⟩; have n0_ := Aside0.mk (HX.out.below hb); clear HX hb q0 q1; have HX := n0_; clear n0_; have hln := (HX.out.line HT.out.1 HT.out.2.1).1; have p0 : w1.cell? ⟨g, 0, none⟩ = some (.string ⟨#[]⟩) := (blk_cell hln 0).trans rfl; have p3 : w1.cell? ⟨g, 3, none⟩ = some (.bool false) := (blk_cell hln 3).trans rfl; clear hln)
          have HPX := Aside0.mk HX.out.skip
          have HSX := Aside0.mk (spec_none HSP.out HT.out.2.1)
          have hres : parseGo Ls 0 none [] = parseGo (Ls.drop (i + 1)) (i + 1) cfg out := by have := HSX.out; unfold Spec at this; simpa using this
          have HR := Aside0.mk hres
          clear hres
          go_wp2_with fail
          go_roundw
          case rel => exact ⟨i + 1, cfg, out, by go_num, rfl, HIL.out, HPX.out, HR.out⟩
          case measure => simp [intOf]; have := HIL.out; omega
        have h01 : (sb t).toList.isEmpty = false := by rw [toList_bs, bs_sb]; cases t <;> first | rfl | exact absurd rfl ht0
        have HT0 := Aside0.mk ht0
        clear ht0
        cases cfg with
        | some cf =>
          go_upto_region 15 with (go_at_call 36; refine (hash_no HH.out _).mono ?_; rintro e w1 ⟨rfl, hb⟩; have n0_ := Aside0.mk (HX.out.below hb); clear HX hb q0 q1; have HX := n0_; clear n0_; have hln := (HX.out.line HT.out.1 HT.out.2.1).1; have p0 : w1.cell? ⟨g, 0, none⟩ = some (.string (sb t)) := (blk_cell hln 0).trans rfl; clear hln)
          have HL := Aside0.mk (HX.out.lsr HT.out.1 HT.out.2.1 HT.out.2.2)
          have HKM : Aside0 ((ks.length : Int) ≤ 1048576) := ⟨hkm⟩
          have HVO : Aside0 (∀ k, u8.ownBlock = some k → k < w1.heap.size) := ⟨Kd.R_lt HX.out.out_⟩
          have HWL : Aside0 (w.heap.size ≤ w1.heap.size) := ⟨HX.out.bl.size⟩
          have HOI : Aside0 (out.length ≤ i) := ⟨HX.out.ol⟩
          have HOL : Aside0 ((out.map stS).length ≤ 1048576) := ⟨by have h1 := HX.out.ol; have h2 := HIL.out; have h3 := HK.out.2.2; rw [List.length_map]; omega⟩
          go_upto_region 16 with (first
            | (go_at_call 38; refine (step_calls HV.out HL.out).mono ?_; rintro e w2 ⟨x, A2, c2, atv, bdv, r', rfl, hR, k1, k2, k3, kP, kE, kL⟩; have HP0 := Aside0.mk (HX.out.next HT.out.1 HT.out.2.1 k3 k2); have HPU := Aside0.mk (HP0.out.push hR HWL.out HVO.out); have HK1 := Aside0.mk k1.1; have HSX := Aside0.mk (spec_step HSP.out HT.out.2.1 HT.out.2.2 HH.out HT0.out (line_end kL kP kE)); clear hR k1 k2 k3 kP kE kL p0 HX HL; unfold stc)
            | (at_builtin; rw [show (#[.int .i64 x.kind, .int .i64 x.rep, .int .i64 x.ses, .int .i64 x.id, .int .i64 x.ok, .string (sb x.name), .int .i64 x.a, .int .i64 x.b, .int .i64 x.i, .int .i64 x.j, .slice A2 x.data.length c2] : Array Value) = (stc x (.slice A2 x.data.length c2)).toList.toArray from rfl]; refine Kd.R_append k48 (w0 := w) (W := w2) w.heap.size rfl (.tmp 52) (.tmp 55) 26 48 (.agg #[.int .i64 0, .int .i64 0, .int .i64 0, .int .i64 0, .int .i64 0, .string ⟨#[]⟩, .int .i64 0, .int .i64 0, .int .i64 0, .int .i64 0, .slice none 0 0]) 112 rfl Tryd.underlying26 z48 rfl (by decide) (by decide) u8 (out.map stS) (stS x) (stc x (.slice A2 x.data.length c2)).toList (fun _ => True) (fun k => w1.heap.size ≤ k) rfl rfl HPU.out.1 HPU.out.2 (fun _ _ => trivial) HP0.out.out_ HP0.out.bl HP0.out.bl.size (by have := HOL.out; omega) ?_; intro v1 w3 k1 k2 k3 _; have hpx := HP0.out.app (by have := HOI.out; omega) k1 k2 k3; have hc1 : w3.cell? ⟨g, 1, none⟩ = some (.int .i64 atv) := (blk_cell (HP0.out.far k3 HK1.out) 1).trans rfl; have hc3 : w3.cell? ⟨g, 3, none⟩ = some (.bool bdv) := (blk_cell (HP0.out.far k3 HK1.out) 3).trans rfl; have hsx := HSX.out; clear HP0 k1 k2 k3 HPU HK1 HSX))
          have HPX := Aside0.mk hpx
          have HSX := Aside0.mk hsx
          clear hpx hsx
          cases bdv with
          | true =>
            obtain ⟨k, rfl, hk, hres⟩ : ∃ k : Nat, atv = (k : Int) ∧ k ≤ 1048576 ∧ parseGo Ls 0 none [] = .place (i + 1) (k + 1) := by have := HSX.out; unfold Spec at this; simpa using this
            have HR := Aside0.mk hres
            have hk2 : (k : Int) ≤ 1048576 := by omega
            have hrv := HPX.out.rv
            have z0 : w3.cell? ⟨w.heap.size, 0, none⟩ = some (.int .i64 0) := (blk_cell hrv 0).trans rfl
            have y0 : w3.frozen? ⟨w.heap.size, 0, none⟩ = false := blk_frozen hrv 0
            have x0 : w3.setCell ⟨w.heap.size, 0, none⟩ (.int .i64 0) = w3 := setCell_idem hrv rfl
            have z1 : w3.cell? ⟨w.heap.size, 1, none⟩ = some (.int .i64 0) := (blk_cell hrv 1).trans rfl
            have y1 : w3.frozen? ⟨w.heap.size, 1, none⟩ = false := blk_frozen hrv 1
            have x1 : w3.setCell ⟨w.heap.size, 1, none⟩ (.int .i64 0) = w3 := setCell_idem hrv rfl
            have z2 : w3.cell? ⟨w.heap.size, 2, none⟩ = some (.int .i64 0) := (blk_cell hrv 2).trans rfl
            have y2 : w3.frozen? ⟨w.heap.size, 2, none⟩ = false := blk_frozen hrv 2
            have x2 : w3.setCell ⟨w.heap.size, 2, none⟩ (.int .i64 0) = w3 := setCell_idem hrv rfl
            have z3 : w3.cell? ⟨w.heap.size, 3, none⟩ = some (.int .i64 0) := (blk_cell hrv 3).trans rfl
            have y3 : w3.frozen? ⟨w.heap.size, 3, none⟩ = false := blk_frozen hrv 3
            have x3 : w3.setCell ⟨w.heap.size, 3, none⟩ (.int .i64 0) = w3 := setCell_idem hrv rfl
            have z4 : w3.cell? ⟨w.heap.size, 4, none⟩ = some (.int .i64 0) := (blk_cell hrv 4).trans rfl
            have y4 : w3.frozen? ⟨w.heap.size, 4, none⟩ = false := blk_frozen hrv 4
            have x4 : w3.setCell ⟨w.heap.size, 4, none⟩ (.int .i64 0) = w3 := setCell_idem hrv rfl
            have z5 : w3.cell? ⟨w.heap.size, 5, none⟩ = some (.int .i64 0) := (blk_cell hrv 5).trans rfl
            have y5 : w3.frozen? ⟨w.heap.size, 5, none⟩ = false := blk_frozen hrv 5
            have x5 : w3.setCell ⟨w.heap.size, 5, none⟩ (.int .i64 0) = w3 := setCell_idem hrv rfl
            have z6 : w3.cell? ⟨w.heap.size, 6, none⟩ = some (.int .i64 0) := (blk_cell hrv 6).trans rfl
            have y6 : w3.frozen? ⟨w.heap.size, 6, none⟩ = false := blk_frozen hrv 6
            have x6 : w3.setCell ⟨w.heap.size, 6, none⟩ (.int .i64 0) = w3 := setCell_idem hrv rfl
            have z7 : w3.cell? ⟨w.heap.size, 7, none⟩ = some (.int .i64 0) := (blk_cell hrv 7).trans rfl
            have y7 : w3.frozen? ⟨w.heap.size, 7, none⟩ = false := blk_frozen hrv 7
            have x7 : w3.setCell ⟨w.heap.size, 7, none⟩ (.int .i64 0) = w3 := setCell_idem hrv rfl
            have z8 : w3.cell? ⟨w.heap.size, 8, none⟩ = some (.int .i64 0) := (blk_cell hrv 8).trans rfl
            have y8 : w3.frozen? ⟨w.heap.size, 8, none⟩ = false := blk_frozen hrv 8
            have x8 : w3.setCell ⟨w.heap.size, 8, none⟩ (.int .i64 0) = w3 := setCell_idem hrv rfl
            have z9 : w3.cell? ⟨w.heap.size, 9, none⟩ = some (.int .i64 0) := (blk_cell hrv 9).trans rfl
            have y9 : w3.frozen? ⟨w.heap.size, 9, none⟩ = false := blk_frozen hrv 9
            have x9 : w3.setCell ⟨w.heap.size, 9, none⟩ (.int .i64 0) = w3 := setCell_idem hrv rfl
            clear hres hk hrv
            go_upto_region 17 with fail
            go_region
            go_wp2_with fail
            refine bodyPost_ret (results_cell5 rfl _ _ w.heap.size 25 (cfc []) (0, 0) _ (by rfl) HPX.out.rv hu25 rfl (inf25c (by decide))) rfl ?_
            rw [← HPL.out, HR.out]
            exact ⟨by simp [ParseP], pw_below_drewN HPX.out.bl 1⟩
          | false =>
            have hres : parseGo Ls 0 none [] = parseGo (Ls.drop (i + 1)) (i + 1) (some cf) (out ++ [x]) := by have := HSX.out; unfold Spec at this; simpa using this
            have HR := Aside0.mk hres
            clear hres
            go_wp2_with fail
            go_roundw
            case rel => exact ⟨i + 1, (some cf), (out ++ [x]), by go_num, rfl, HIL.out, HPX.out, HR.out⟩
            case measure => simp [intOf]; have := HIL.out; omega
        | none =>
          go_upto_region 9 with (go_at_call 36; refine (hash_no HH.out _).mono ?_; rintro e w1 ⟨rfl, hb⟩; have n0_ := Aside0.mk (HX.out.below hb); clear HX hb q0 q1; have HX := n0_; clear n0_; have hln := (HX.out.line HT.out.1 HT.out.2.1).1; have p0 : w1.cell? ⟨g, 0, none⟩ = some (.string (sb t)) := (blk_cell hln 0).trans rfl; clear hln)
          have HL := Aside0.mk (HX.out.lsr HT.out.1 HT.out.2.1 HT.out.2.2)
          go_upto_region 16 with (first
            | (go_at_call 39; refine (config_calls HV.out HC.out HL.out).mono ?_; rintro e w2 ⟨x, atv, bdv, r', rfl, hx10, k1, k2, k3, kP, kE, kL⟩; have HP0 := Aside0.mk (HX.out.next HT.out.1 HT.out.2.1 k3 k2); have HX10 := Aside0.mk hx10; have HK1 := Aside0.mk k1.1; have HSX := Aside0.mk (spec_cfg HSP.out HT.out.2.1 HT.out.2.2 HH.out HT0.out (line_end kL kP kE)); clear hx10 k1 k2 k3 kP kE kL p0 HX HL)
            | (refine wpList_store_row rfl 25 (.tmp 7) (.tmp 27) rfl (w.heap.size + 1) (cfc x) (by rfl) (by rfl) 25 _ HP0.out.cf (inf25c (by rw [HX10.out]; decide)) (by rw [cfc_size (by decide), cfc_size (by rw [HX10.out]; decide)]) (cfc_one _) ?_; have hpx := HP0.out.cfg_ x HX10.out; have hgf : g ≠ w.heap.size + 1 := (fun e => by have h1 := HK1.out; have h2 := HP0.out.cf; rw [e, h2] at h1; simp at h1); have hc1 : (w2.setRow (w.heap.size + 1) (cfc x)).cell? ⟨g, 1, none⟩ = some (.int .i64 atv) := (blk_cell ((setRow_far hgf _).trans HK1.out) 1).trans rfl; have hc3 : (w2.setRow (w.heap.size + 1) (cfc x)).cell? ⟨g, 3, none⟩ = some (.bool bdv) := (blk_cell ((setRow_far hgf _).trans HK1.out) 3).trans rfl; have hsx := HSX.out; clear hgf HP0 HK1 HSX; generalize w2.setRow (w.heap.size + 1) (cfc x) = w3 at hpx hc1 hc3 ⊢))
          have HPX := Aside0.mk hpx
          have HSX := Aside0.mk hsx
          clear hpx hsx
          cases bdv with
          | true =>
            obtain ⟨k, rfl, hk, hres⟩ : ∃ k : Nat, atv = (k : Int) ∧ k ≤ 1048576 ∧ parseGo Ls 0 none [] = .place (i + 1) (k + 1) := by have := HSX.out; unfold Spec at this; simpa using this
            have HR := Aside0.mk hres
            have hk2 : (k : Int) ≤ 1048576 := by omega
            have hrv := HPX.out.rv
            have z0 : w3.cell? ⟨w.heap.size, 0, none⟩ = some (.int .i64 0) := (blk_cell hrv 0).trans rfl
            have y0 : w3.frozen? ⟨w.heap.size, 0, none⟩ = false := blk_frozen hrv 0
            have x0 : w3.setCell ⟨w.heap.size, 0, none⟩ (.int .i64 0) = w3 := setCell_idem hrv rfl
            have z1 : w3.cell? ⟨w.heap.size, 1, none⟩ = some (.int .i64 0) := (blk_cell hrv 1).trans rfl
            have y1 : w3.frozen? ⟨w.heap.size, 1, none⟩ = false := blk_frozen hrv 1
            have x1 : w3.setCell ⟨w.heap.size, 1, none⟩ (.int .i64 0) = w3 := setCell_idem hrv rfl
            have z2 : w3.cell? ⟨w.heap.size, 2, none⟩ = some (.int .i64 0) := (blk_cell hrv 2).trans rfl
            have y2 : w3.frozen? ⟨w.heap.size, 2, none⟩ = false := blk_frozen hrv 2
            have x2 : w3.setCell ⟨w.heap.size, 2, none⟩ (.int .i64 0) = w3 := setCell_idem hrv rfl
            have z3 : w3.cell? ⟨w.heap.size, 3, none⟩ = some (.int .i64 0) := (blk_cell hrv 3).trans rfl
            have y3 : w3.frozen? ⟨w.heap.size, 3, none⟩ = false := blk_frozen hrv 3
            have x3 : w3.setCell ⟨w.heap.size, 3, none⟩ (.int .i64 0) = w3 := setCell_idem hrv rfl
            have z4 : w3.cell? ⟨w.heap.size, 4, none⟩ = some (.int .i64 0) := (blk_cell hrv 4).trans rfl
            have y4 : w3.frozen? ⟨w.heap.size, 4, none⟩ = false := blk_frozen hrv 4
            have x4 : w3.setCell ⟨w.heap.size, 4, none⟩ (.int .i64 0) = w3 := setCell_idem hrv rfl
            have z5 : w3.cell? ⟨w.heap.size, 5, none⟩ = some (.int .i64 0) := (blk_cell hrv 5).trans rfl
            have y5 : w3.frozen? ⟨w.heap.size, 5, none⟩ = false := blk_frozen hrv 5
            have x5 : w3.setCell ⟨w.heap.size, 5, none⟩ (.int .i64 0) = w3 := setCell_idem hrv rfl
            have z6 : w3.cell? ⟨w.heap.size, 6, none⟩ = some (.int .i64 0) := (blk_cell hrv 6).trans rfl
            have y6 : w3.frozen? ⟨w.heap.size, 6, none⟩ = false := blk_frozen hrv 6
            have x6 : w3.setCell ⟨w.heap.size, 6, none⟩ (.int .i64 0) = w3 := setCell_idem hrv rfl
            have z7 : w3.cell? ⟨w.heap.size, 7, none⟩ = some (.int .i64 0) := (blk_cell hrv 7).trans rfl
            have y7 : w3.frozen? ⟨w.heap.size, 7, none⟩ = false := blk_frozen hrv 7
            have x7 : w3.setCell ⟨w.heap.size, 7, none⟩ (.int .i64 0) = w3 := setCell_idem hrv rfl
            have z8 : w3.cell? ⟨w.heap.size, 8, none⟩ = some (.int .i64 0) := (blk_cell hrv 8).trans rfl
            have y8 : w3.frozen? ⟨w.heap.size, 8, none⟩ = false := blk_frozen hrv 8
            have x8 : w3.setCell ⟨w.heap.size, 8, none⟩ (.int .i64 0) = w3 := setCell_idem hrv rfl
            have z9 : w3.cell? ⟨w.heap.size, 9, none⟩ = some (.int .i64 0) := (blk_cell hrv 9).trans rfl
            have y9 : w3.frozen? ⟨w.heap.size, 9, none⟩ = false := blk_frozen hrv 9
            have x9 : w3.setCell ⟨w.heap.size, 9, none⟩ (.int .i64 0) = w3 := setCell_idem hrv rfl
            clear hres hk hrv
            go_upto_region 17 with fail
            go_region
            go_wp2_with fail
            refine bodyPost_ret (results_cell5 rfl _ _ w.heap.size 25 (cfc []) (0, 0) _ (by rfl) HPX.out.rv hu25 rfl (inf25c (by decide))) rfl ?_
            rw [← HPL.out, HR.out]
            exact ⟨by simp [ParseP], pw_below_drewN HPX.out.bl 1⟩
          | false =>
            have hres : parseGo Ls 0 none [] = parseGo (Ls.drop (i + 1)) (i + 1) (some x) out := by have := HSX.out; unfold Spec at this; simpa using this
            have HR := Aside0.mk hres
            clear hres
            go_wp2_with fail
            go_roundw
            case rel => exact ⟨i + 1, (some x), out, by go_num, rfl, HIL.out, HPX.out, HR.out⟩
            case measure => simp [intOf]; have := HIL.out; omega
      · have HI2 : Aside0 (i = Ls.length ∧ i = ks.length) := ⟨by have h1 := HI.out; have h2 := HKL.out; omega⟩
        have HPL : Aside0 (Sc.parse (bs s) = parseGo [] i cfg out) := ⟨by rw [HPA.out, ← HLs.out, HSP.out, HI2.out.1, List.drop_eq_nil_of_le (Nat.le_refl _)]⟩
        have hge : ¬ (i : Int) < (ks.length : Int) := by omega
        clear hlt
        cases cfg with
        | none =>
          go_wp2_with (refine wpList_store_row rfl 25 (.tmp 2) (.tmp 73) rfl w.heap.size (cfc []) (by rfl) (by rfl) 25 _ HX.out.rv (inf25c (by decide)) rfl (cfc_one _) ?_)
          refine bodyPost_ret (results_cell5 rfl _ _ w.heap.size 25 (cfc []) (0, 0) _ (by rfl) (setRow_blk HX.out.rv _) hu25 rfl (inf25c (by decide))) rfl ?_
          rw [HPL.out, HI2.out.2]
          refine ⟨?_, below_setRow HX.out.bl (Nat.le_refl _) _⟩
          simp only [parseGo, ParseP]
          rfl
        | some cf =>
          have hlm : (out.map stS).length = out.length := List.length_map _
          obtain ⟨A2, c2, hu8⟩ := Kd.R_slice HX.out.out_
          rw [hlm] at hu8
          subst hu8
          have hol : (out.length : Int) ≤ 1048576 := by have h1 := HX.out.ol; have h2 := HK.out.2.2; have h3 := HI2.out.1; omega
          have HCL := Aside0.mk (HX.out.cl cf rfl)
          clear hlm
          by_cases h20 : 20000 < out.length
          · have h21 : (20000 : Int) < (out.length : Int) := by omega
            have HQ : Aside0 (Sc.parse (bs s) = .long) := ⟨by rw [HPL.out, parseGo, if_pos h20]⟩
            clear h20
            go_wp2_with (refine wpList_store_row rfl 25 (.tmp 2) (.tmp 81) rfl w.heap.size (cfc []) (by rfl) (by rfl) 25 _ HX.out.rv (inf25c (by decide)) rfl (cfc_one _) ?_)
            refine bodyPost_ret (results_cell5 rfl _ _ w.heap.size 25 (cfc []) (0, 0) _ (by rfl) (setRow_blk HX.out.rv _) hu25 rfl (inf25c (by decide))) rfl ?_
            rw [HQ.out]
            exact ⟨rfl, below_setRow HX.out.bl (Nat.le_refl _) _⟩
          · have h21 : ¬ (20000 : Int) < (out.length : Int) := by omega
            have HQ : Aside0 (Sc.parse (bs s) = .ok cf out) := ⟨by rw [HPL.out, parseGo, if_neg h20]⟩
            clear h20
            go_wp2_with (first
              | ((with_reducible refine gate_dst (N := 82) rfl ?_); refine wpList_load_row rfl 25 (.tmp 7) rfl (w.heap.size + 1) (by rfl) 25 (cfc cf) (0, 0) _ HX.out.cf hu25 rfl (inf25c (by rw [HCL.out]; decide)) ?_)
              | (refine wpList_store_row rfl 25 (.tmp 2) (.tmp 82) rfl w.heap.size (cfc cf) (by rfl) (by rfl) 25 _ HX.out.rv (inf25c (by rw [HCL.out]; decide)) (by rw [cfc_size (by decide), cfc_size (by rw [HCL.out]; decide)]) (cfc_one _) ?_))
            refine bodyPost_ret (results_cell5 rfl _ _ w.heap.size 25 (cfc cf) (0, 0) _ (by rfl) (setRow_blk HX.out.rv _) hu25 rfl (inf25c (by rw [HCL.out]; decide))) rfl ?_
            rw [HQ.out]
            exact ⟨⟨_, rfl, HCL.out, Kd.R_mono (Kd.R_step (Kd.R_types HX.out.out_ HX.out.rv (by decide)) (fun k hk _ => setRow_far hk.2 _)) (fun _ _ => trivial)⟩, below_setRow HX.out.bl (Nat.le_refl _) _⟩
end Go.Proofs.YtnbfebjcfhbhiaaDoor.Lw
end
section
namespace Go.Proofs.YtnbfebjcfhbhiaaDoor.Bw
open Go Go.RowKit Go.Proofs.YtnbfebjcfhbhiaaDoor.P Go.Proofs.YtnbfebjcfhbhiaaDoor.Sc Go.Proofs.YtnbfebjcfhbhiaaDoor.Lw Go.Proofs.YtnbfebjcfhbhiaaDoorW.PrintWords Go.Proofs.YtnbfebjcfhbhiaaDoorW.PrintLast Go.Proofs.YtnbfebjcfhbhiaaDoorW.PrintMore
set_option linter.unusedVariables false
set_option linter.unusedSimpArgs false
theorem alive_lit : (⟨(([114, 101, 112, 108, 105, 99, 97, 115, 32, 50, 32, 119, 105, 110, 100, 111, 119, 32, 50, 32, 114, 101, 115, 101, 110, 100, 32, 50, 32, 116, 105, 109, 101, 111, 117, 116, 32, 50, 48, 32, 113, 117, 101, 117, 101, 32, 52, 32, 99, 97, 99, 104, 101, 32, 50, 32, 99, 111, 117, 110] : List UInt8).append [116, 101, 114, 115, 32, 50, 32, 104, 111, 108, 100, 115, 32, 50, 32, 115, 101, 115, 115, 105, 111, 110, 115, 32, 52, 32, 98, 97, 103, 32, 53, 48, 10, 99, 97, 108, 108, 32, 48, 32, 50, 32, 49, 32, 99, 114, 101, 97, 116, 101, 32, 107, 37, 50, 48, 32, 49, 48, 32, 52, 10]).toArray⟩ : ByteArray) = sb aliveX := rfl
set_option maxHeartbeats 4000000 in
theorem num_calls (e : Int) (w : World) : Calls Tryd.prog 15 #[.int .i64 e] w fun r w' => r = .returned (.int .i64 e) ∧ w' = w := by
  go_enter Tryd.func15, Tryd.ntmps15
  go_wp2_with fail
  go_ret
  exact ⟨rfl, rfl⟩
theorem parse_alive (w : World) (hV : VS w) (hC : VC w) : Calls Tryd.prog 16 #[.string (sb aliveX)] w fun e w' => ∃ A c, e = .returned (.tuple #[.agg #[.int .i64 2, .int .i64 2, .int .i64 2, .int .i64 20, .int .i64 4, .int .i64 2, .int .i64 2, .int .i64 2, .int .i64 4, .int .i64 50], .slice A 1 c, .int .i64 0, .int .i64 0, .int .i64 0]) ∧ Kd.C k48 w' A [aliveS].length ([aliveS].map stS) ∧ Below w.heap.size w w' := by
  refine (parse_calls w (sb aliveX) hV hC (by decide)).mono ?_
  rintro e w' ⟨hP, hb⟩
  rw [bs_sb, alive_parse] at hP
  obtain ⟨v, rfl, _, hR⟩ := hP
  obtain ⟨A, c, rfl, _, hC⟩ := Kd.R_reads hR
  exact ⟨A, c, rfl, hC, hb⟩
theorem print_alive (w : World) (A : Option Addr) (cp : Nat) (hT : TB w) (hV : VS w) (hVC : VC w) (hC : Kd.C k48 w A [aliveS].length ([aliveS].map stS)) : Calls Tryd.prog 14 #[.agg #[.int .i64 2, .int .i64 2, .int .i64 2, .int .i64 20, .int .i64 4, .int .i64 2, .int .i64 2, .int .i64 2, .int .i64 4, .int .i64 50], .slice A 1 cp] w fun e w' => e = .returned (.tuple #[.string (sb aliveX), .int .i64 0]) ∧ Below w.heap.size w w' := by
  refine (print_calls w aliveC [aliveS] A cp hT hV hVC (by rfl) ?_ hC ?_ (by decide +kernel)).mono ?_
  · have : ∀ i : Fin 10, -9223372036854775808 ≤ aliveC.getD i.val 0 ∧ aliveC.getD i.val 0 ≤ 9223372036854775807 := by decide
    exact fun i hi => this ⟨i, hi⟩
  · intro x hx
    rw [List.mem_singleton.1 hx]
    simp [sfit, inI, aliveS]
  · rintro e w' ⟨he, hb⟩
    rw [alive_print] at he
    exact ⟨he, hb⟩
theorem pa_alive (w : World) (ka kr c : Nat) (hT : TB w) (ha : w.heap[ka]? = some (.cells #[.int .i64 0, .slice (some ⟨kr, 0, none⟩) 1 1, .int .i64 0, .slice none 0 0, .slice none 0 0, .slice none 0 0, .slice none 0 0, .slice none 0 0, .int .i64 0, .slice none 0 0, .slice none 0 0, .slice none 0 0, .bool false] 66 (0, 0))) (hr : w.heap[kr]? = some (.cells #[.int .i64 2, .int .i64 1, .int .i64 0, .int .i64 3] 54 (0, 0))) :
    Calls Tryd.prog 21 #[.slice (some ⟨ka, 0, none⟩) 1 c] w fun e w' => e = .returned (.string ⟨#[49, 32, 48, 10, 114, 101, 112, 108, 121, 32, 50, 32, 49, 32, 48, 32, 51, 10]⟩) ∧ Below w.heap.size w w' := pa_calls w ka kr c hT ha hr
set_option maxHeartbeats 16000000 in
set_option maxRecDepth 100000 in
theorem alive_calls (w : World) (hT : TB w) (hV : VS w) (hC : VC w) : Calls Tryd.prog 10 #[] w fun e w' => e = .returned (.bool true) ∧ Below w.heap.size w w' := by
  have HT := Aside0.mk hT
  have HV := Aside0.mk hV
  have HC := Aside0.mk hC
  clear hT hV hC
  go_enter Tryd.func10, Tryd.ntmps10
  go_upto_region 2 with fail
  rw [alive_lit]
  go_upto_region 3 with (go_at_call 16; refine (parse_alive _ HV.out HC.out).mono ?_; rintro e w1 ⟨A, c, rfl, hCs, hb⟩; have HCS := Aside0.mk hCs; have HB1 := Aside0.mk hb; clear hCs hb)
  obtain ⟨w2, hw2⟩ : ∃ w2, w2 = w1.alloc (.cells #[.int .i64 2, .int .i64 2, .int .i64 2, .int .i64 20, .int .i64 4, .int .i64 2, .int .i64 2, .int .i64 2, .int .i64 4, .int .i64 50] 25 (0, 0)) := ⟨_, rfl⟩
  have HW2 := Aside0.mk hw2
  have H2 : Aside0 (Below w.heap.size w w2 ∧ w2.heap[w1.heap.size]? = some (.cells #[.int .i64 2, .int .i64 2, .int .i64 2, .int .i64 20, .int .i64 4, .int .i64 2, .int .i64 2, .int .i64 2, .int .i64 4, .int .i64 50] 25 (0, 0)) ∧ Kd.C k48 w2 A [aliveS].length ([aliveS].map stS)) := ⟨by
    rw [hw2]; exact ⟨HB1.out.alloc HB1.out.size _, heap_alloc_new _ _, Kd.C_below HCS.out ((Below.refl _ _).alloc (Nat.le_refl _) _)⟩⟩
  rw [← HW2.out]
  clear hw2
  go_upto_region 3 with fail
  have c0 : w2.cell? ⟨w1.heap.size, 0, none⟩ = some (.int .i64 2) := (blk_cell H2.out.2.1 0).trans rfl
  have c1 : w2.cell? ⟨w1.heap.size, 1, none⟩ = some (.int .i64 2) := (blk_cell H2.out.2.1 1).trans rfl
  have c2 : w2.cell? ⟨w1.heap.size, 2, none⟩ = some (.int .i64 2) := (blk_cell H2.out.2.1 2).trans rfl
  have c3 : w2.cell? ⟨w1.heap.size, 3, none⟩ = some (.int .i64 20) := (blk_cell H2.out.2.1 3).trans rfl
  have c4 : w2.cell? ⟨w1.heap.size, 4, none⟩ = some (.int .i64 4) := (blk_cell H2.out.2.1 4).trans rfl
  have c5 : w2.cell? ⟨w1.heap.size, 5, none⟩ = some (.int .i64 2) := (blk_cell H2.out.2.1 5).trans rfl
  have c6 : w2.cell? ⟨w1.heap.size, 6, none⟩ = some (.int .i64 2) := (blk_cell H2.out.2.1 6).trans rfl
  have c7 : w2.cell? ⟨w1.heap.size, 7, none⟩ = some (.int .i64 2) := (blk_cell H2.out.2.1 7).trans rfl
  have c8 : w2.cell? ⟨w1.heap.size, 8, none⟩ = some (.int .i64 4) := (blk_cell H2.out.2.1 8).trans rfl
  have c9 : w2.cell? ⟨w1.heap.size, 9, none⟩ = some (.int .i64 50) := (blk_cell H2.out.2.1 9).trans rfl
  go_upto_region 4 with (go_at_call 14; refine (print_alive _ A c (HT.out.below H2.out.1) (HV.out.below H2.out.1) (HC.out.below H2.out.1) H2.out.2.2).mono ?_; rintro e w3 ⟨rfl, hb⟩; have HB3 := Aside0.mk hb; clear hb c0 c1 c2 c3 c4 c5 c6 c7 c8 c9)
  have HR3 : Aside0 (((w3.alloc (.cells #[.int .i64 2, .int .i64 1, .int .i64 0, .int .i64 3] 54 (0, 0))).alloc (.cells #[.int .i64 0, .slice (some ⟨w3.heap.size, 0, none⟩) 1 1, .int .i64 0, .slice none 0 0, .slice none 0 0, .slice none 0 0, .slice none 0 0, .slice none 0 0, .int .i64 0, .slice none 0 0, .slice none 0 0, .slice none 0 0, .bool false] 66 (0, 0))).heap[w3.heap.size]? = some (.cells #[.int .i64 2, .int .i64 1, .int .i64 0, .int .i64 3] 54 (0, 0))) := ⟨heap_alloc2_old _ _ _⟩
  have HBW : Aside0 (Below w.heap.size w w3) := ⟨H2.out.1.trans (HB3.out.mono H2.out.1.size)⟩
  go_upto_region 5 with (go_at_call 21; refine (pa_alive _ _ _ _ (HT.out.below (HBW.out.trans ((bel2 w3 _ _).mono HBW.out.size))) (new2 _ _ _) HR3.out).mono ?_; rintro e w4 ⟨rfl, hb⟩; have HB4 : Aside0 (Below w3.heap.size w3 w4) := ⟨(bel2 w3 _ _).trans (hb.mono (by simp; omega))⟩; clear hb)
  have HBF : Aside0 (Below w2.heap.size w2 w4) := ⟨HB3.out.trans (HB4.out.mono HB3.out.size)⟩
  have HBG : Aside0 (Below w.heap.size w w4) := ⟨H2.out.1.trans (HBF.out.mono H2.out.1.size)⟩
  have d9 : w4.cell? ⟨w1.heap.size, 9, none⟩ = some (.int .i64 50) := (blk_cell ((HBF.out.block _ (blk_lt H2.out.2.1)).trans H2.out.2.1) 9).trans rfl
  obtain ⟨ad, Ad, cd, rfl, _, _, _, _, _, d5, _⟩ := step_cells (i := 0) (x := aliveS) (Kd.C_below H2.out.2.2 HBF.out) rfl
  have e0 : ad.add (0 * 11) = ad := by simp [Addr.add]
  rw [e0] at d5
  clear e0
  have d5a : w4.cell? ⟨ad.block, ad.off + 5, none⟩ = some (.string ⟨#[107, 32]⟩) := d5
  have d5b : w4.cell? ⟨ad.block, ad.off + 4 + 1, none⟩ = some (.string ⟨#[107, 32]⟩) := d5
  clear d5
  go_wp2_with (go_at_call 15; refine (num_calls _ _).mono ?_; rintro e w' ⟨rfl, rfl⟩)
  go_ret
  exact ⟨rfl, HBG.out⟩
end Go.Proofs.YtnbfebjcfhbhiaaDoor.Bw
end
section
namespace Go.Proofs.YtnbfebjcfhbhiaaDoor.Lv
open Go Go.ChangeShapes Go.WideShapes Go.ChangeAt Go.RowKit Go.Proofs.YtnbfebjcfhbhiaaDoor.P Go.Proofs.YtnbfebjcfhbhiaaDoor.Sc Go.Proofs.YtnbfebjcfhbhiaaDoor.Lw Go.Proofs.YtnbfebjcfhbhiaaDoor.Bw Go.Proofs.YtnbfebjcfhbhiaaDoorW.PrintWords
set_option linter.unusedVariables false
set_option linter.unusedSimpArgs false
section
variable {H : Type} {enc : TypeId × Value → H} {w : World} {spare : Nat → Bool} {held : Bool}
def formD (p : S153) : DataW H := .agg [.lit (.string p.f0.data.toList), .lit (.string p.f1.data.toList), .lit (.int .i64 p.f2)]
theorem form_inj {p q : S153} (h : (formD p : DataW H) = formD q) : p = q := by
  unfold formD at h
  simp only [DataW.agg.injEq, List.cons.injEq, DataW.lit.injEq, Lit.string.injEq, Lit.int.injEq, and_true, true_and] at h
  obtain ⟨h0, h1, h2⟩ := h
  cases p; cases q
  simp only at h0 h1 h2
  rw [bs_inj h0, bs_inj h1, h2]
set_option maxRecDepth 100000 in
theorem form_open {fuel : Nat} {cs : List Value} {x : DataW H × List MemPlace} (h : DataW.trod enc Tryd.prog w 0 spare held fuel 153 cs = some x) : ∃ p : S153, cs = [.string p.f0, .string p.f1, .int .i64 p.f2] ∧ x.1 = formD p := by
  obtain ⟨ys, n, _, hx, hcl, hyl, hf⟩ := DataW.trod_struct Tryd.underlying153 h
  have hcl2 : cs.length = 3 := hcl.trans (by kernel_rfl)
  have hyl2 : ys.length = 3 := hyl
  match cs, hcl2 with
  | [c0, c1, c2], _ =>
    match ys, hyl2 with
    | [y0, y1, y2], _ =>
      have eint : Tryd.prog.cellsOf 3 = 1 := by kernel_rfl
      have estr : Tryd.prog.cellsOf 9 = 1 := by kernel_rfl
      have g0 : DataW.trod enc Tryd.prog w 0 spare held n 9 (List.take (Tryd.prog.cellsOf 9) (List.drop 0 [c0, c1, c2])) = some y0 := hf 0 _ rfl
      rw [estr] at g0
      replace g0 : DataW.trod enc Tryd.prog w 0 spare held n 9 [c0] = some y0 := g0
      obtain ⟨s0, q0, z0, _⟩ := DataW.trod_string Tryd.underlying9 g0
      have g1 : DataW.trod enc Tryd.prog w 0 spare held n 9 (List.take (Tryd.prog.cellsOf 9) (List.drop 1 [c0, c1, c2])) = some y1 := hf 1 _ rfl
      rw [estr] at g1
      replace g1 : DataW.trod enc Tryd.prog w 0 spare held n 9 [c1] = some y1 := g1
      obtain ⟨s1, q1, z1, _⟩ := DataW.trod_string Tryd.underlying9 g1
      have g2 : DataW.trod enc Tryd.prog w 0 spare held n 3 (List.take (Tryd.prog.cellsOf 3) (List.drop 2 [c0, c1, c2])) = some y2 := hf 2 _ rfl
      rw [eint] at g2
      replace g2 : DataW.trod enc Tryd.prog w 0 spare held n 3 [c2] = some y2 := g2
      obtain ⟨n2, q2, z2, _⟩ := DataW.trod_int Tryd.underlying3 g2
      simp only [List.cons.injEq, and_true] at q0 q1 q2
      exact ⟨⟨s0, s1, n2⟩, by rw [q0, q1, q2], by rw [hx, z0, z1, z2]; rfl⟩
theorem forms_open {fuel : Nat} {cs : List Value} {x : DataW H × List MemPlace} (h : DataW.trod enc Tryd.prog w 0 spare held fuel 102 cs = some x) (fs : List S153) (hne : fs ≠ []) (hd : ∃ sp, x.1 = .slice (fs.map formD) sp) :
    ∃ ad c, cs = [.slice (some ad) fs.length c] ∧ fs.length ≤ c ∧ Kd.C k153 w (some ad) fs.length fs := by
  obtain ⟨sp, hd⟩ := hd
  rcases DataW.trod_slice Tryd.underlying102 h with ⟨_, g⟩ | ⟨a, len, cap, elems, rest, n, _, hcs, hx, _, hlc, hcm, hel, hat, _, _⟩
  · rw [g] at hd; cases hd
  · rw [hx] at hd
    simp only [DataW.slice.injEq] at hd
    have hl : len = fs.length := by rw [← hel]; have := congrArg List.length hd.1; simpa using this
    subst hl
    have e3 : Tryd.prog.cellsOf 153 = 3 := by kernel_rfl
    refine ⟨a, cap, hcs, hlc, rfl, by simp only [maxLen] at hcm; omega, fun _ => ⟨a, rfl, fun j p hj => ?_⟩⟩
    obtain ⟨hj1, hj2⟩ := List.getElem?_eq_some_iff.1 hj
    have h1 := hat j hj1
    rw [e3] at h1
    have h2 : (elems.map (·.1))[j]? = some (formD p) := by rw [hd.1, List.getElem?_map, hj]; rfl
    rw [List.getElem?_map] at h2
    obtain ⟨y, hy, hy2⟩ := Option.map_eq_some_iff.1 h2
    rw [hy] at h1
    obtain ⟨c, hc1, hc2⟩ := Option.bind_eq_some_iff.1 h1
    obtain ⟨q, rfl, hq⟩ := form_open hc2
    have : q = p := form_inj (H := H) (hq.symm.trans hy2)
    subst this
    refine ⟨_, rfl, k153_mk w q, fun i u hu => ?_⟩
    obtain ⟨_, _, hat2⟩ := World.cells?_some hc1
    have hi3 : i < 3 := by have := (List.getElem?_eq_some_iff.1 hu).1; simpa using this
    rw [show a.add (j * k153.sz + i) = (a.add (j * 3)).add i from by rw [Go.Proofs.YtnbfebjcfhbhiaaDoorW.PrintWords.add_add]; rfl]
    exact (hat2 i hi3).trans hu
end
/-- A variable that reads lies in a block of its own, nothing of it frozen. -/
theorem var_block {w : World} {l : List (String × DataW Unit)} (h : laidMet Tryd.prog l w) {n : String} {d : DataW Unit} (hm : (n, d) ∈ l) : ∃ g t cs fuel p T, Tryd.prog.globalNamed n = some g ∧ (Tryd.prog.globals[g]?).map (·.type) = some t ∧ w.var? Tryd.prog n = some cs ∧ DataW.trod (fun _ => ()) Tryd.prog w 0 (fun _ => true) false fuel t cs.toList = some (d, p) ∧ (cs.size ≠ 0 → w.heap[g]? = some (.cells cs T (0, 0))) := by
  obtain ⟨ps, hv, _, hfz⟩ := h
  have : ∀ (l : List (String × DataW Unit)) ps, DataW.LaidVars Tryd.prog w l ps → (n, d) ∈ l → ∃ g t cs fuel p, Tryd.prog.globalNamed n = some g ∧ (Tryd.prog.globals[g]?).map (·.type) = some t ∧ w.var? Tryd.prog n = some cs ∧ DataW.trod (fun _ => ()) Tryd.prog w 0 (fun _ => true) false fuel t cs.toList = some (d, p) ∧ ∀ q ∈ MemPlace.row ⟨g, 0, none⟩ cs.size, q ∈ ps := by
    intro l
    induction l with
    | nil => intro ps _ h; cases h
    | cons x r ih =>
      intro ps h hm
      obtain ⟨n', d'⟩ := x
      obtain ⟨g, t, cs, fuel, p, q, h1, h2, h3, h4, h5, h6⟩ := h
      rcases List.mem_cons.1 hm with e | e
      · cases e
        exact ⟨g, t, cs, fuel, p, h1, h2, h3, h4, fun y hy => by rw [h6]; simp [hy]⟩
      · obtain ⟨g', t', cs', fuel', p', k1, k2, k3, k4, k5⟩ := ih q h5 e
        exact ⟨g', t', cs', fuel', p', k1, k2, k3, k4, fun y hy => by rw [h6]; simp [k5 y hy]⟩
  obtain ⟨g, t, cs, fuel, p, h1, h2, h3, h4, h5⟩ := this l ps hv hm
  unfold World.var? at h3
  rw [h1] at h3
  simp only [Option.bind_some] at h3
  cases ho : w.heap[g]? with
  | none => rw [ho] at h3; simp at h3
  | some o =>
    rw [ho] at h3
    cases o with
    | cells c T fr =>
      simp only [Option.some.injEq] at h3
      subst h3
      refine ⟨g, t, c, fuel, p, T, h1, h2, by unfold World.var?; rw [h1]; simp [ho], h4, fun hz => ?_⟩
      have hin : MemPlace.cell g 0 ∈ MemPlace.row ⟨g, 0, none⟩ c.size := by
        unfold MemPlace.row
        exact List.mem_map.2 ⟨0, List.mem_range.2 (by omega), rfl⟩
      obtain ⟨c2, T2, h6⟩ := (hfz g 0 (h5 _ hin)).1
      rw [ho] at h6
      simp only [Option.some.injEq, Obj.cells.injEq] at h6
      rw [ho, h6.2.2]
    | _ => simp at h3
theorem gOps : Tryd.prog.globalNamed "sluice/script.ops" = some 2 := by kernel_rfl
theorem gSteps : Tryd.prog.globalNamed "sluice/script.steps" = some 1 := by kernel_rfl
theorem gWords : Tryd.prog.globalNamed "sluice/script.configWords" = some 0 := by kernel_rfl
theorem gPow : Tryd.prog.globalNamed "internal/strconv.uint64pow10" = some 3 := by kernel_rfl
theorem gErr : Tryd.prog.globalNamed "strconv.ErrRange" = some 5 := by kernel_rfl
theorem yOps : (Tryd.prog.globals[2]?).map (·.type) = some 102 := by kernel_rfl
theorem ySteps : (Tryd.prog.globals[1]?).map (·.type) = some 102 := by kernel_rfl
theorem yWords : (Tryd.prog.globals[0]?).map (·.type) = some 99 := by kernel_rfl
theorem yErr : (Tryd.prog.globals[5]?).map (·.type) = some 150 := by kernel_rfl
theorem yPow : (Tryd.prog.globals[3]?).map (·.type) = some 203 := by kernel_rfl
theorem dOps : (Rows.laid_sluice_script_ops : DataW Unit) = .slice (opFs.map formD) [] := by rfl
theorem dSteps : (Rows.laid_sluice_script_steps : DataW Unit) = .slice (stepFs.map formD) [] := by rfl
theorem var_forms {W : World} {l : List (String × DataW Unit)} (h : laidMet Tryd.prog l W) {n : String} {d : DataW Unit} {g : Nat} (hm : (n, d) ∈ l) (hg : Tryd.prog.globalNamed n = some g) (hy : (Tryd.prog.globals[g]?).map (·.type) = some 102) (fs : List S153) (hne : fs ≠ []) (hd : d = .slice (fs.map formD) []) :
    ∃ ad c T, W.heap[g]? = some (.cells #[.slice (some ad) fs.length c] T (0, 0)) ∧ fs.length ≤ c ∧ Kd.C k153 W (some ad) fs.length fs := by
  obtain ⟨g', t, cs, fuel, p, T, h1, h2, h3, h4, h5⟩ := var_block h hm
  obtain rfl := Option.some.inj (h1.symm.trans hg)
  obtain rfl := Option.some.inj (h2.symm.trans hy)
  obtain ⟨ad, c, hcs, hlc, hC⟩ := forms_open h4 fs hne ⟨[], hd⟩
  have e : cs = #[.slice (some ad) fs.length c] := by cases cs; simp_all
  subst e
  exact ⟨ad, c, T, h5 (by simp), hlc, hC⟩
theorem dWords : (Rows.laid_sluice_script_configWords : DataW Unit) = .agg ((cfgW0 :: cfgWs).map fun x => .lit (.string x)) := by rfl
theorem dPow : (Rows.laid_internal_strconv_uint64pow10 : DataW Unit) = Lib.tabData .u64 Lib.pow10Tab := by rfl
theorem words_open {w : World} {fuel : Nat} {cs : List Value} {p : List MemPlace} (h : DataW.trod (fun _ => ()) Tryd.prog w 0 (fun _ => true) false fuel 99 cs = some (.agg ((cfgW0 :: cfgWs).map fun x => .lit (.string x)), p)) : cs = (cfgW0 :: cfgWs).map (fun x => Value.string (sb x)) := by
  obtain ⟨xs, m, _, hx, hcl, hxl, hat⟩ := DataW.trod_array Tryd.underlying99 h
  have e1 : Tryd.prog.cellsOf 9 = 1 := by kernel_rfl
  have e10 : Tryd.prog.cellsOf 99 = 10 := by kernel_rfl
  rw [e10] at hcl
  simp only [Prod.mk.injEq, DataW.agg.injEq] at hx
  apply List.ext_getElem?
  intro i
  by_cases hi : i < 10
  · have h1 := hat i hi
    rw [e1, Nat.mul_one] at h1
    have hc : i < cs.length := by omega
    rw [List.drop_eq_getElem_cons hc] at h1
    simp only [List.take_succ_cons, List.take_zero] at h1
    have hw : i < (cfgW0 :: cfgWs).length := hi
    have h2 : (xs.map (·.1))[i]? = some (.lit (.string ((cfgW0 :: cfgWs)[i]))) := by rw [← hx.1, List.getElem?_map, List.getElem?_eq_getElem hw]; rfl
    rw [List.getElem?_map] at h2
    obtain ⟨y, hy, hy2⟩ := Option.map_eq_some_iff.1 h2
    rw [hy] at h1
    obtain ⟨s, q, z, _⟩ := DataW.trod_string Tryd.underlying9 h1
    rw [z] at hy2
    simp only [DataW.lit.injEq, Lit.string.injEq] at hy2
    simp only [List.cons.injEq, and_true] at q
    rw [List.getElem?_eq_getElem hc, q, List.getElem?_map, List.getElem?_eq_getElem hw, ← hy2]
    show some (Value.string s) = some (Value.string (sb (bs s)))
    rw [sb_bs]
  · rw [List.getElem?_eq_none (by omega), List.getElem?_eq_none (by rw [List.length_map]; show 10 ≤ i; omega)]
theorem var_type {W : World} (hS : W.ShapedOpen Tryd.prog) {g : Nat} {cs : Array Value} {T t : TypeId} {fr : Nat × Nat} (hg : g < Tryd.prog.globals.size) (h : W.heap[g]? = some (.cells cs T fr)) (hb : (((begin Tryd.prog (fun _ _ => 0) default).world.heap[g]?).bind Obj.row?).map (·.2) = some t) : T = t := by
  obtain ⟨⟨z, t'⟩, h1, h2⟩ := Option.map_eq_some_iff.1 hb
  simp only at h2
  subst h2
  obtain ⟨cs', h3, _⟩ := hS.1 g z t' hg h1
  rw [h] at h3
  simp only [Option.some.injEq, Obj.cells.injEq] at h3
  exact h3.2.1
/-- WHAT THE LIST GIVES. -/
theorem vars_open {W : World} {l : List (String × DataW Unit)} (hS : W.ShapedOpen Tryd.prog) (h : laidMet Tryd.prog l W) (m1 : ("sluice/script.steps", Rows.laid_sluice_script_steps) ∈ l) (m2 : ("sluice/script.ops", Rows.laid_sluice_script_ops) ∈ l) (m3 : ("sluice/script.configWords", Rows.laid_sluice_script_configWords) ∈ l) (m4 : ("internal/strconv.uint64pow10", Rows.laid_internal_strconv_uint64pow10) ∈ l) (m5 : ("strconv.ErrRange", Rows.laid_strconv_ErrRange) ∈ l) : VS W ∧ VC W ∧ TB W := by
  obtain ⟨a1, c1, T1, k1, k2, k3⟩ := var_forms h m1 gSteps ySteps stepFs (by decide) dSteps
  obtain ⟨a2, c2, T2, j1, j2, j3⟩ := var_forms h m2 gOps yOps opFs (by decide) dOps
  have t1 : T1 = 102 := var_type hS (of_decide_eq_true (by kernel_rfl)) k1 (by kernel_rfl)
  have t2 : T2 = 102 := var_type hS (of_decide_eq_true (by kernel_rfl)) j1 (by kernel_rfl)
  subst t1
  subst t2
  refine ⟨⟨?_, ⟨a2, c2, j1, j2, j3⟩, ⟨a1, c1, k1, k2, k3⟩⟩, ?_, ?_⟩
  · obtain ⟨g', t, cs, fuel, p, T, h1, h2, h3, h4, h5⟩ := var_block h m5
    obtain rfl := Option.some.inj (h1.symm.trans gErr)
    obtain rfl := Option.some.inj (h2.symm.trans yErr)
    unfold VR
    rw [h3]
    obtain ⟨f2, u, v, hcs, _⟩ := iface_of_trod Tryd.underlying150 h4
    refine ⟨u, v, ?_⟩
    congr 1
    cases cs
    simp only at hcs
    rw [hcs]
  · obtain ⟨g', t, cs, fuel, p, T, h1, h2, h3, h4, h5⟩ := var_block h m3
    obtain rfl := Option.some.inj (h1.symm.trans gWords)
    obtain rfl := Option.some.inj (h2.symm.trans yWords)
    rw [dWords] at h4
    have h6 := words_open h4
    have e : cs = ((cfgW0 :: cfgWs).map (fun x => Value.string (sb x))).toArray := by rw [← h6]
    subst e
    exact ⟨T, h5 (by decide)⟩
  · obtain ⟨g', t, cs, fuel, p, T, h1, h2, h3, h4, h5⟩ := var_block h m4
    obtain rfl := Option.some.inj (h1.symm.trans gPow)
    obtain rfl := Option.some.inj (h2.symm.trans yPow)
    rw [dPow] at h4
    unfold TB Lib.TabIs
    rw [h3, ← Lib.cells_of_tab Tryd.underlying203 Tryd.underlying191 (by kernel_rfl) (by kernel_rfl) h4]
end Go.Proofs.YtnbfebjcfhbhiaaDoor.Lv
end
section
namespace Go.Proofs.YtnbfebjcfhbhiaaDoor.Lv
open Go Go.ChangeShapes Go.WideShapes Go.ChangeAt Go.RowKit Go.Lib Go.Proofs.YtnbfebjcfhbhiaaDoor.P Go.Proofs.YtnbfebjcfhbhiaaDoor.Sc Go.Proofs.YtnbfebjcfhbhiaaDoor.Lw Go.Proofs.YtnbfebjcfhbhiaaDoor.Bw Go.Proofs.YtnbfebjcfhbhiaaDoorW.PrintWords
set_option linter.unusedVariables false
set_option linter.unusedSimpArgs false
def formCells (l : List S153) : Array Value := (l.flatMap fun p => [Value.string p.f0, Value.string p.f1, Value.int .i64 p.f2]).toArray
def strS (l : List UInt8) : Value := .string ⟨l.toArray⟩
def agg8 : DataW Unit → List Int
  | .agg l => l.map fun | .lit (.int _ n) => n | _ => 0
  | _ => []
noncomputable def laidWorld (os : Os) : World :=
  let N := (World.settled Tryd.prog os).heap.size
  let w0 := World.holding Tryd.prog os ⟨#[
    .cells #[strS [118, 97, 108, 117, 101, 32, 111, 117, 116, 32, 111, 102, 32, 114, 97, 110, 103, 101]] 213,
    .cells #[strS [105, 110, 118, 97, 108, 105, 100, 32, 115, 121, 110, 116, 97, 120]] 213,
    .cells (formCells stepFs) 153,
    .cells (formCells opFs) 153], #[], []⟩
  let put (h : Array Obj) (g : Nat) (cs : Array Value) : Array Obj := h.modify g fun
    | .cells _ t frozen => .cells cs t frozen
    | o => o
  let h0 := put w0.heap 0 ((cfgW0 :: cfgWs).map strS).toArray
  let h1 := put h0 1 #[.slice (some ⟨N + 2, 0, none⟩) 15 15]
  let h2 := put h1 2 #[.slice (some ⟨N + 3, 0, none⟩) 11 11]
  let h3 := put h2 3 (Lib.pow10Tab.map fun z => Value.int .u64 z).toArray
  let h4 := put h3 4 #[.iface 211 (.pointer (some ⟨N + 1, 0, none⟩))]
  let h5 := put h4 5 #[.iface 211 (.pointer (some ⟨N, 0, none⟩))]
  let h6 := put h5 6 ((agg8 Rows.laid_math_bits_deBruijn32tab).map fun z => Value.int .u8 z).toArray
  let h7 := put h6 7 ((agg8 Rows.laid_math_bits_deBruijn64tab).map fun z => Value.int .u8 z).toArray
  { w0 with heap := h7 }
theorem laid_met (os : Os) (args : Array Value) : laidMet Tryd.prog Rows.scriptParseRow.laid ((laidWorld os).forCall (fun _ _ => 0) ⟨#[], args, []⟩).memory :=
  laidMet_of_run' 8 (by kernel_rfl) (by kernel_rfl)
end Go.Proofs.YtnbfebjcfhbhiaaDoor.Lv
end
section
namespace Go.Proofs.YtnbfebjcfhbhiaaDoor.Sc
set_option linter.unusedVariables false
set_option linter.unusedSimpArgs false
/-- Nothing is left. -/
def Done {α : Type} (r : R α) : Prop := r = .bad [] ∨ ∃ x, r = .good x []
/-- At t the reader's answer hangs on what it has read and the next byte alone. -/
def LocAt {α : Type} (p : Rd α) (t : By) : Prop := match p t with
  | .bad r => ∃ u, t = u ++ r ∧ (∀ c0 r0, r = c0 :: r0 → ∀ m, p (u ++ c0 :: m) = .bad (c0 :: m)) ∧ Done (p u)
  | .good x r => ∃ u, t = u ++ r ∧ (∀ c0 r0, r = c0 :: r0 → ∀ m, p (u ++ c0 :: m) = .good x (c0 :: m)) ∧ ∀ n, n ≤ u.length → Done (p (u.take n))
section
variable {α β : Type} {p : Rd α}
theorem LocAt.good {t r : By} {x : α} (h : LocAt p t) (e : p t = .good x r) : ∃ u, t = u ++ r ∧ (∀ c0 r0, r = c0 :: r0 → ∀ m, p (u ++ c0 :: m) = .good x (c0 :: m)) ∧ ∀ n, n ≤ u.length → Done (p (u.take n)) := by unfold LocAt at h; rw [e] at h; exact h
end
end Go.Proofs.YtnbfebjcfhbhiaaDoor.Sc
end
section
namespace Go.Proofs.YtnbfebjcfhbhiaaDoor.Sc
set_option linter.unusedVariables false
set_option linter.unusedSimpArgs false
section
variable {α β : Type} {p : Rd α}
end
def hexG2 (a : Nat) : Rd By
  | [] => .bad []
  | k :: l2 => match hexV k with
    | none => .bad (k :: l2)
    | some b => if plainB (hexB a b) then .bad (k :: l2) else (textGo l2).bnd (fun x r => .good (hexB a b :: x) r)
def hexG1 : Rd By
  | [] => .bad []
  | h :: l1 => match hexV h with
    | none => .bad (h :: l1)
    | some a => hexG2 a l1
theorem textGo_hex {c : UInt8} (h : ¬ plainB c = true) (h2 : c.toNat = 37) (l : By) : textGo (c :: l) = hexG1 l := by
  match l with
  | [] => simp [textGo, h, h2, hexG1]
  | [x] => simp only [textGo, h, h2, hexG1, if_true, Bool.false_eq_true, if_false]; cases hexV x <;> rfl
  | x :: y :: l =>
    simp only [textGo, h, h2, hexG1, if_true, Bool.false_eq_true, if_false]
    cases hexV x with
    | none => rfl
    | some a =>
      simp only [hexG2]
      cases hexV y <;> rfl
theorem common_pre : ∀ (l w : By), common l w = w.length ↔ w <+: l
  | l, [] => by cases l <;> simp [common]
  | [], _ :: _ => by simp [common]
  | x :: a, y :: b => by
    have := common_pre a b
    by_cases h : x = y
    · simp [common, h, List.cons_prefix_cons, this]
    · simp [common, h, List.cons_prefix_cons, Ne.symm h]
theorem common_pref {u w : By} (m : By) (h : w <+: u) : common (u ++ m) w = w.length := (common_pre _ _).2 (h.trans (List.prefix_append u m))
def maxC : List By → Nat → By → Nat
  | [], b, _ => b
  | w :: ws, b, l => maxC ws (max b (common l w)) l
theorem oneFrom_bad (l : By) : ∀ (ws : List By) (i b : Nat), (∀ w ∈ ws, common l w ≠ w.length) → oneFrom ws i b l = .bad (l.drop (maxC ws b l))
  | [], i, b, h => rfl
  | w :: ws, i, b, h => by
    simp only [oneFrom, if_neg (h w (.head _))]
    exact oneFrom_bad l ws _ _ (fun v hv => h v (.tail _ hv))
theorem oneFrom_good (l w : By) (hw : common l w = w.length) (ws2 : List By) : ∀ (ws1 : List By) (i b : Nat), (∀ v ∈ ws1, common l v ≠ v.length) → oneFrom (ws1 ++ w :: ws2) i b l = .good (i + ws1.length) (l.drop w.length)
  | [], i, b, h => by simp [oneFrom, hw]
  | v :: ws, i, b, h => by
    simp only [List.cons_append, oneFrom, if_neg (h v (.head _))]
    rw [oneFrom_good l w hw ws2 ws _ _ (fun v hv => h v (.tail _ hv))]
    simp; omega
theorem first_of (l : By) : ∀ (ws : List By), (∀ w ∈ ws, common l w ≠ w.length) ∨ ∃ ws1 w ws2, ws = ws1 ++ w :: ws2 ∧ common l w = w.length ∧ ∀ v ∈ ws1, common l v ≠ v.length
  | [] => .inl (fun _ h => by cases h)
  | w :: ws => by
    by_cases h : common l w = w.length
    · exact .inr ⟨[], w, ws, rfl, h, fun _ h => by cases h⟩
    · rcases first_of l ws with h2 | ⟨ws1, v, ws2, rfl, h3, h4⟩
      · exact .inl (fun v hv => by (rcases List.mem_cons.1 hv with rfl | hv); exact h; exact h2 v hv)
      · exact .inr ⟨w :: ws1, v, ws2, rfl, h3, fun x hx => by (rcases List.mem_cons.1 hx with rfl | hx); exact h; exact h4 x hx⟩
def PF (ws : List By) : Prop := ∀ w ∈ ws, ∀ v ∈ ws, w <+: v → w = v
theorem pf_one (w : By) : PF [w] := fun a ha b hb _ => by simp at ha hb; rw [ha, hb]
theorem pf_step : PF stepWs := by unfold PF stepWs; decide +kernel
theorem pf_op : PF opWs := by unfold PF opWs; decide +kernel
end Go.Proofs.YtnbfebjcfhbhiaaDoor.Sc
end
section
namespace Go.Proofs.YtnbfebjcfhbhiaaDoor.Sc
set_option linter.unusedVariables false
set_option linter.unusedSimpArgs false
/-- What may stand behind a word. -/
def Bd (r : By) : Prop := r = [] ∨ ∃ m, r = 32 :: m
theorem Bd.nil : Bd [] := .inl rfl
theorem Bd.cons (m : By) : Bd (32 :: m) := .inr ⟨m, rfl⟩
structure Cod {α : Type} (p : Rd α) (e : α → By) (v : α → Prop) : Prop where
  sound : ∀ l x r, p l = .good x r → l = e x ++ r ∧ v x
  full : ∀ x r, v x → Bd r → p (e x ++ r) = .good x r
theorem bnd_good_iff {α β : Type} {r : R α} {f : α → By → R β} {y : β} {s : By} : r.bnd f = .good y s ↔ ∃ x l, r = .good x l ∧ f x l = .good y s := by
  cases r with
  | good x l => exact ⟨fun h => ⟨x, l, rfl, h⟩, fun ⟨x', l', h, h2⟩ => by injection h with h1 h3; subst h1 h3; exact h2⟩
  | bad l => exact ⟨fun h => by simp [R.bnd_bad] at h, fun ⟨x', l', h, h2⟩ => by cases h⟩
theorem byte_good {c : UInt8} {l r : By} {u : Unit} : byteP c l = .good u r ↔ l = c :: r := by
  cases l with
  | nil => simp [byteP]
  | cons x l =>
    by_cases h : x = c
    · simp [byteP, h]
    · simp [byteP, h]
theorem dec_snoc {m d : Nat} (hm : 1 ≤ m) (hd : d < 10) : Lib.decDigits (10 * m + d) = Lib.decDigits m ++ [UInt8.ofNat (48 + d)] := by
  rw [Lib.decDigits, dif_neg (by omega), show (10 * m + d) / 10 = m by omega, show (10 * m + d) % 10 = d by omega]
theorem dig_back {c : UInt8} (h : isDig c = true) : UInt8.ofNat (48 + (c.toNat - 48)) = c ∧ c.toNat - 48 < 10 := by
  simp [isDig] at h
  refine ⟨?_, by omega⟩
  rw [show 48 + (c.toNat - 48) = c.toNat by omega]
  exact UInt8.ofNat_toNat
theorem dig_of {d : Nat} (h : d < 10) : (UInt8.ofNat (48 + d)).toNat = 48 + d ∧ isDig (UInt8.ofNat (48 + d)) = true := by
  have : (UInt8.ofNat (48 + d)).toNat = 48 + d := by simp; omega
  refine ⟨this, ?_⟩
  simp [isDig, this]; omega
theorem numGo_sound {L k : Nat} {r : By} : ∀ (l : By) (m : Nat), 1 ≤ m → m ≤ L → numGo L m l = .good k r → Lib.decDigits m ++ l = Lib.decDigits k ++ r ∧ k ≤ L ∧ 1 ≤ k
  | [], m, h1, h2, h => by
    simp [numGo] at h
    obtain ⟨rfl, rfl⟩ := h
    exact ⟨rfl, h2, h1⟩
  | c :: l, m, h1, h2, h => by
    by_cases hd : isDig c = true
    · by_cases hb : L < 10 * m + (c.toNat - 48)
      · simp [numGo, hd, hb] at h
      · have e : numGo L (10 * m + (c.toNat - 48)) l = .good k r := by simpa [numGo, hd, hb] using h
        obtain ⟨e1, e2⟩ := dig_back hd
        obtain ⟨g1, g2⟩ := numGo_sound l _ (by omega) (by omega) e
        refine ⟨?_, g2⟩
        rw [← g1, dec_snoc h1 e2, e1]
        simp
    · simp [numGo, hd] at h
      obtain ⟨rfl, rfl⟩ := h
      exact ⟨rfl, h2, h1⟩
theorem numGo_end {L k : Nat} {r : By} (hr : ∀ c, r.head? = some c → isDig c = false) : numGo L k r = .good k r := by
  cases r with
  | nil => rfl
  | cons c r => simp [numGo, hr c rfl]
theorem natP_go (L : Nat) (neg : Bool) (k : Nat) : ∀ (r : By), 1 ≤ k → k ≤ L → natP L neg (Lib.decDigits k ++ r) = numGo L k r := by
  induction k using Nat.strongRecOn with
  | ind k ih =>
    intro r h1 h2
    by_cases hk : k < 10
    · rw [Lib.decDigits_one hk]
      obtain ⟨e1, e2⟩ := dig_of hk
      show natP L neg (UInt8.ofNat (48 + k) :: r) = _
      simp only [natP, e2, e1, if_true]
      rw [if_neg (by omega), show 48 + k - 48 = k by omega]
    · have hd : k % 10 < 10 := Nat.mod_lt _ (by decide)
      obtain ⟨e1, e2⟩ := dig_of hd
      have e : Lib.decDigits k = Lib.decDigits (k / 10) ++ [UInt8.ofNat (48 + k % 10)] := by
        have := dec_snoc (m := k / 10) (d := k % 10) (by omega) hd
        rw [← this]; congr 1; omega
      rw [e, List.append_assoc, ih (k / 10) (by omega) _ (by omega) (by omega)]
      show numGo L (k / 10) (UInt8.ofNat (48 + k % 10) :: r) = _
      simp only [numGo, e2, e1, if_true]
      have e3 : 10 * (k / 10) + (48 + k % 10 - 48) = k := by omega
      rw [e3, if_neg (by omega)]
theorem natP_sound {L m : Nat} {neg : Bool} {l r : By} (h9 : 9 ≤ L) (h : natP L neg l = .good m r) : l = Lib.decDigits m ++ r ∧ m ≤ L ∧ (neg = true → m ≠ 0) := by
  cases l with
  | nil => simp [natP] at h
  | cons c l =>
    by_cases hd : isDig c = true
    · obtain ⟨e1, e2⟩ := dig_back hd
      by_cases h0 : c.toNat = 48
      · cases neg with
        | true => simp [natP, hd, h0] at h
        | false =>
          simp [natP, hd, h0] at h
          obtain ⟨rfl, rfl⟩ := h
          refine ⟨?_, Nat.zero_le _, fun h => by cases h⟩
          rw [Lib.decDigits_one (by decide)]
          have : c = 48 := UInt8.toNat_inj.1 h0
          rw [this]; rfl
      · have hd2 := hd
        simp [isDig] at hd2
        have hL : c.toNat - 48 ≤ L := by omega
        · have e : numGo L (c.toNat - 48) l = .good m r := by simpa [natP, hd, h0] using h
          obtain ⟨g1, g2, g3⟩ := numGo_sound l _ (by omega) hL e
          refine ⟨?_, g2, fun _ => by omega⟩
          rw [← g1, Lib.decDigits_one e2, e1]; rfl
    · simp [natP, hd] at h
theorem bd_nodig {r : By} (h : Bd r) : ∀ c, r.head? = some c → isDig c = false := by
  rcases h with rfl | ⟨m, rfl⟩
  · intro c h; cases h
  · intro c h; cases h; rfl
theorem natP_full {L m : Nat} {neg : Bool} {r : By} (hm : m ≤ L) (hn : neg = true → m ≠ 0) (hr : Bd r) : natP L neg (Lib.decDigits m ++ r) = .good m r := by
  by_cases h0 : m = 0
  · subst h0
    cases neg with
    | true => exact absurd rfl (hn rfl)
    | false => rw [Lib.decDigits_one (by decide)]; rfl
  · rw [natP_go L neg m r (by omega) hm, numGo_end (bd_nodig hr)]
theorem dec_head (m : Nat) (r : By) : (Lib.decDigits m ++ r).head? ≠ some 45 ∧ (Lib.decDigits m) ≠ [] := by
  have key : ∀ m, ∃ d, d < 10 ∧ ∃ t, Lib.decDigits m = UInt8.ofNat (48 + d) :: t := by
    intro m
    induction m using Nat.strongRecOn with
    | ind k ih =>
      by_cases hk : k < 10
      · exact ⟨k, hk, [], Lib.decDigits_one hk⟩
      · obtain ⟨d, hd, t, ht⟩ := ih (k / 10) (by omega)
        have := dec_snoc (m := k / 10) (d := k % 10) (by omega) (Nat.mod_lt _ (by decide))
        rw [show 10 * (k / 10) + k % 10 = k by omega, ht] at this
        exact ⟨d, hd, _, this⟩
  obtain ⟨d, hd, t, ht⟩ := key m
  refine ⟨fun h => ?_, by rw [ht]; simp⟩
  rw [ht] at h
  simp only [List.cons_append, List.head?_cons, Option.some.injEq] at h
  have := (dig_of hd).1
  rw [h] at this
  have h45 : (45 : UInt8).toNat = 45 := rfl
  omega
theorem num_cod : Cod numP numW inI where
  sound l x r h := by
    unfold numP at h
    by_cases h45 : l.head? = some 45
    · rw [if_pos h45] at h
      obtain ⟨m, l', h1, h2⟩ := bnd_good_iff.1 h
      injection h2 with h3 h4
      subst h3 h4
      obtain ⟨g1, g2, g3⟩ := natP_sound (by decide) h1
      have g4 := g3 rfl
      cases l with
      | nil => cases h45
      | cons c l =>
        cases h45
        simp only [List.tail_cons] at g1
        refine ⟨?_, ?_⟩
        · rw [g1]
          unfold numW
          rw [Lib.itoa_neg m (by omega)]; rfl
        · unfold maxI at g2; constructor <;> omega
    · rw [if_neg h45] at h
      obtain ⟨m, l', h1, h2⟩ := bnd_good_iff.1 h
      injection h2 with h3 h4
      subst h3 h4
      obtain ⟨g1, g2, g3⟩ := natP_sound (by decide) h1
      refine ⟨?_, ?_⟩
      · rw [g1]
        unfold numW
        rw [Lib.itoa_nonneg]
      · unfold maxI at g2; constructor <;> omega
  full x r hv hr := by
    unfold inI at hv
    unfold numP numW
    by_cases hx : x < 0
    · obtain ⟨m, rfl⟩ : ∃ m : Nat, x = -(m : Int) := ⟨x.natAbs, by omega⟩
      rw [Lib.itoa_neg m (by omega)]
      rw [if_pos (by rfl)]
      show (natP (maxI + 1) true (Lib.decDigits m ++ r)).bnd _ = _
      rw [natP_full (by unfold maxI; omega) (fun _ => by omega) hr]; rfl
    · obtain ⟨m, rfl⟩ : ∃ m : Nat, x = (m : Int) := ⟨x.toNat, by omega⟩
      rw [Lib.itoa_nonneg, if_neg (dec_head m r).1, natP_full (by unfold maxI; omega) (fun h => by cases h) hr]; rfl
theorem hex_back : ∀ n : Fin 256, ∀ a, hexV (UInt8.ofNat n.val) = some a → hexD a = UInt8.ofNat n.val ∧ a < 16 := by
  intro n a h
  have key : ∀ n : Fin 256, ((hexV (UInt8.ofNat n.val)).all fun a => decide (hexD a = UInt8.ofNat n.val) && decide (a < 16)) = true := by decide +kernel
  have := key n
  rw [h] at this
  simpa using this
theorem hexV_back {h : UInt8} {a : Nat} (e : hexV h = some a) : hexD a = h ∧ a < 16 := by
  have := hex_back ⟨h.toNat, h.toNat_lt⟩ a (by simp only [UInt8.ofNat_toNat]; exact e)
  simpa only [UInt8.ofNat_toNat] using this
theorem hexV_D : ∀ n : Fin 16, hexV (hexD n.val) = some n.val := by decide +kernel
theorem hexB_nat {a b : Nat} (ha : a < 16) (hb : b < 16) : (hexB a b).toNat = 16 * a + b := by unfold hexB; simp; omega
theorem sign_hex {a b : Nat} (ha : a < 16) (hb : b < 16) (hp : ¬ plainB (hexB a b) = true) : signB (hexB a b) = [37, hexD a, hexD b] := by
  unfold signB
  rw [if_neg hp, hexB_nat ha hb, show (16 * a + b) / 16 = a by omega, show (16 * a + b) % 16 = b by omega]
theorem textGo_sound : ∀ (n : Nat) (l x r : By), l.length ≤ n → textGo l = .good x r → l = x.flatMap signB ++ r
  | _, [], x, r, _, h => by
    simp [textGo] at h
    obtain ⟨rfl, rfl⟩ := h
    rfl
  | 0, c :: l, x, r, hn, h => by simp at hn
  | n + 1, c :: l, x, r, hn, h => by
    by_cases hp : plainB c = true
    · rw [textGo_plain hp] at h
      obtain ⟨y, l', h1, h2⟩ := bnd_good_iff.1 h
      injection h2 with h3 h4
      subst h3 h4
      have := textGo_sound n l y l' (by simpa using hn) h1
      rw [this]
      simp [signB, hp]
    · by_cases h37 : c.toNat = 37
      · rw [textGo_hex hp h37] at h
        have hc : c = 37 := UInt8.toNat_inj.1 h37
        subst hc
        cases l with
        | nil => simp [hexG1] at h
        | cons d l =>
          cases e1 : hexV d with
          | none => simp [hexG1, e1] at h
          | some a =>
            simp only [hexG1, e1] at h
            cases l with
            | nil => simp [hexG2] at h
            | cons k l =>
              cases e2 : hexV k with
              | none => simp [hexG2, e2] at h
              | some b =>
                simp only [hexG2, e2] at h
                by_cases hb : plainB (hexB a b) = true
                · rw [if_pos hb] at h; cases h
                · rw [if_neg hb] at h
                  obtain ⟨y, l', h1, h2⟩ := bnd_good_iff.1 h
                  injection h2 with h3 h4
                  subst h3 h4
                  have := textGo_sound n l y l' (by simp at hn; omega) h1
                  obtain ⟨f1, f2⟩ := hexV_back e1
                  obtain ⟨f3, f4⟩ := hexV_back e2
                  rw [this, List.flatMap_cons, sign_hex f2 f4 hb, f1, f3]
                  rfl
      · rw [textGo_stop hp h37] at h
        injection h with h3 h4
        subst h3 h4
        rfl
theorem textGo_full {r : By} (hr : Bd r) : ∀ x : By, textGo (x.flatMap signB ++ r) = .good x r
  | [] => by
    rcases hr with rfl | ⟨m, rfl⟩
    · rfl
    · exact textGo_stop (c := 32) (by decide) (by decide) m
  | c :: x => by
    rw [List.flatMap_cons, List.append_assoc]
    by_cases hp : plainB c = true
    · rw [show signB c = [c] by simp [signB, hp]]
      show textGo (c :: (x.flatMap signB ++ r)) = _
      rw [textGo_plain hp, textGo_full hr x]; rfl
    · rw [show signB c = [37, hexD (c.toNat / 16), hexD (c.toNat % 16)] by simp [signB, hp]]
      show textGo (37 :: hexD (c.toNat / 16) :: hexD (c.toNat % 16) :: (x.flatMap signB ++ r)) = _
      have h1 : c.toNat / 16 < 16 := by have := c.toNat_lt; omega
      have h2 : c.toNat % 16 < 16 := Nat.mod_lt _ (by decide)
      have e : hexB (c.toNat / 16) (c.toNat % 16) = c := UInt8.toNat_inj.1 (by rw [hexB_nat h1 h2]; omega)
      rw [textGo_hex (by decide) (by decide)]
      simp only [hexG1, hexV_D ⟨_, h1⟩, hexG2, hexV_D ⟨_, h2⟩, e]
      rw [if_neg hp, textGo_full hr x]; rfl
theorem text_cod : Cod textP textW (fun _ => True) where
  sound l x r h := by
    refine ⟨?_, trivial⟩
    unfold textP at h
    by_cases h45 : l.head? = some 45
    · rw [if_pos h45] at h
      injection h with h1 h2
      subst h1 h2
      cases l with
      | nil => cases h45
      | cons c l => cases h45; rfl
    · rw [if_neg h45] at h
      obtain ⟨y, l', h1, h2⟩ := bnd_good_iff.1 h
      by_cases hy : y = []
      · rw [if_pos hy] at h2; cases h2
      · rw [if_neg hy] at h2
        injection h2 with h3 h4
        subst h3 h4
        rw [textGo_sound l.length l y l' (Nat.le_refl _) h1]
        simp [textW, hy]
  full x r _ hr := by
    unfold textP
    by_cases hx : x = []
    · subst hx; rfl
    · have e : textW x = x.flatMap signB := by simp [textW, hx]
      rw [e, if_neg, textGo_full hr x]
      · show (if x = [] then R.bad r else R.good x r) = _
        rw [if_neg hx]
      · cases x with
        | nil => exact absurd rfl hx
        | cons c x =>
          rw [List.flatMap_cons]
          unfold signB
          by_cases hp : plainB c = true
          · rw [if_pos hp]
            intro h
            simp at h
            subst h
            exact absurd hp (by decide)
          · rw [if_neg hp]
            intro h
            simp at h
end Go.Proofs.YtnbfebjcfhbhiaaDoor.Sc
end
section
namespace Go.Proofs.YtnbfebjcfhbhiaaDoor.Sc
open Go.Proofs.YtnbfebjcfhbhiaaDoor.Bw Go.Proofs.YtnbfebjcfhbhiaaDoor.Lw
set_option linter.unusedVariables false
set_option linter.unusedSimpArgs false
def beh (ws : List By) : By := ws.flatMap (32 :: ·)
theorem beh_cons (w : By) (ws : List By) : beh (w :: ws) = 32 :: (w ++ beh ws) := rfl
theorem beh_append (a b : List By) : beh (a ++ b) = beh a ++ beh b := by simp [beh]
theorem beh_bd (ws : List By) {r : By} (hr : Bd r) : Bd (beh ws ++ r) := by
  cases ws with
  | nil => exact hr
  | cons w ws => exact .cons _
/-- x with y's part p. -/
def St.put (x y : St) : Part → St
  | .r => { x with rep := y.rep } | .s => { x with ses := y.ses } | .n => { x with id := y.id } | .i => { x with i := y.i } | .j => { x with j := y.j } | .d => { x with data := y.data } | .k => { x with name := y.name } | .a => { x with a := y.a } | .b => { x with b := y.b } | .o => x
section
variable {x y z : St} {p q : Part}
theorem put_self : x.put x p = x := by cases p <;> rfl
theorem put_zero : (x.put y p).zero p = x.zero p := by cases p <;> rfl
theorem zero_put : (x.zero p).put y p = x.put y p := by cases p <;> rfl
theorem zero_comm : (x.zero p).zero q = (x.zero q).zero p := by cases p <;> cases q <;> rfl
theorem partW_zero (h : p ≠ q) : partW (y.zero p) q = partW y q := by cases p <;> cases q <;> first | rfl | exact absurd rfl h
theorem get_zero (h : p ≠ q) : (y.zero p).get q = y.get q := by cases p <;> cases q <;> first | rfl | exact absurd rfl h
theorem put_ne (h : p ≠ q) : (x.zero q).put y p = (x.put y p).zero q := by cases p <;> cases q <;> first | rfl | exact absurd rfl h
theorem zero_ext (h : x.zero p = y.zero p) (hp : p ≠ .o) (h2 : x.put z p = x) (h3 : y.put z p = y) : x = y := by
  rw [← h2, ← h3, ← zero_put, h, zero_put]
end
def zeroAll (ps : List Part) (x : St) : St := ps.foldl St.zero x
theorem zeroAll_zero (ps : List Part) (x : St) (p : Part) : zeroAll ps (x.zero p) = (zeroAll ps x).zero p := by
  induction ps generalizing x with
  | nil => rfl
  | cons q ps ih => show zeroAll ps ((x.zero p).zero q) = (zeroAll ps (x.zero q)).zero p; rw [zero_comm, ih]
theorem partW_all {ps : List Part} {p : Part} (hp : p ∉ ps) (x : St) : partW (zeroAll ps x) p = partW x p := by
  induction ps generalizing x with
  | nil => rfl
  | cons q ps ih =>
    show partW (zeroAll ps (x.zero q)) p = _
    rw [ih (fun h => hp (.tail _ h)), partW_zero (fun h => hp (by subst h; exact List.mem_cons_self))]
theorem get_all {ps : List Part} {p : Part} (hp : p ∉ ps) (x : St) : (zeroAll ps x).get p = x.get p := by
  induction ps generalizing x with
  | nil => rfl
  | cons q ps ih =>
    show (zeroAll ps (x.zero q)).get p = _
    rw [ih (fun h => hp (.tail _ h)), get_zero (fun h => hp (by subst h; exact List.mem_cons_self))]
theorem put_all {ps : List Part} {p : Part} (hp : p ∉ ps) (x y : St) : (zeroAll ps x).put y p = zeroAll ps (x.put y p) := by
  induction ps generalizing x with
  | nil => rfl
  | cons q ps ih =>
    show (zeroAll ps (x.zero q)).put y p = zeroAll ps ((x.put y p).zero q)
    rw [ih (fun h => hp (.tail _ h)), put_ne (fun h => hp (by subst h; exact List.mem_cons_self))]
theorem word_full {p : Part} (hp : p ≠ .o) (x y : St) {r : By} (hv : inI (y.get p)) (hr : Bd r) : wordP p x (partW y p ++ r) = .good (x.put y p) r := by
  cases p with
  | o => exact absurd rfl hp
  | d => exact bnd_good_iff.2 ⟨_, _, text_cod.full y.data r trivial hr, rfl⟩
  | k => exact bnd_good_iff.2 ⟨_, _, text_cod.full y.name r trivial hr, rfl⟩
  | r => exact bnd_good_iff.2 ⟨_, _, num_cod.full y.rep r hv hr, rfl⟩
  | s => exact bnd_good_iff.2 ⟨_, _, num_cod.full y.ses r hv hr, rfl⟩
  | n => exact bnd_good_iff.2 ⟨_, _, num_cod.full y.id r hv hr, rfl⟩
  | i => exact bnd_good_iff.2 ⟨_, _, num_cod.full y.i r hv hr, rfl⟩
  | j => exact bnd_good_iff.2 ⟨_, _, num_cod.full y.j r hv hr, rfl⟩
  | a => exact bnd_good_iff.2 ⟨_, _, num_cod.full y.a r hv hr, rfl⟩
  | b => exact bnd_good_iff.2 ⟨_, _, num_cod.full y.b r hv hr, rfl⟩
theorem op_full : ∀ (ps : List Part) (x y : St) (r : By), ps.Nodup → .o ∉ ps → zeroAll ps y = zeroAll ps x → (∀ p ∈ ps, inI (y.get p)) → Bd r → opGo ps x (beh (ps.map (partW y)) ++ r) = .good y r
  | [], x, y, r, hn, ho, hz, hi, hr => by
    have : y = x := hz
    subst this
    rfl
  | p :: ps, x, y, r, hn, ho, hz, hi, hr => by
    have hpo : p ≠ .o := fun h => ho (h ▸ .head _)
    obtain ⟨hp, hn2⟩ := List.nodup_cons.1 hn
    have hz2 : zeroAll ps y = zeroAll ps (x.put y p) := by
      refine zero_ext (p := p) (z := y) ?_ hpo ?_ ?_
      · rw [← zeroAll_zero, ← zeroAll_zero, put_zero]; exact hz
      · rw [put_all hp, put_self]
      · rw [put_all hp]
        congr 1
        cases p <;> rfl
    have := op_full ps (x.put y p) y r hn2 (fun h => ho (.tail _ h)) hz2 (fun q hq => hi q (.tail _ hq)) hr
    rw [opGo, List.map_cons, beh_cons]
    refine bnd_good_iff.2 ⟨(), _, byte_good.2 (List.cons_append ..), ?_⟩
    rw [List.append_assoc]
    exact bnd_good_iff.2 ⟨_, _, word_full hpo x y (hi p (.head _)) (beh_bd _ hr), this⟩
theorem partGo_op : ∀ (ps : List Part) (x : St) (l : By), .o ∉ ps → partGo ps x l = opGo ps x l
  | [], x, l, _ => rfl
  | p :: ps, x, l, h => by
    have ih := fun x l => partGo_op ps x l (fun h2 => h (.tail _ h2))
    cases p with
    | o => exact absurd (.head _) h
    | _ =>
      rw [partGo]
      · rw [opGo]; simp only [ih]
      · intro h; cases h
theorem one_sound {ws : List By} {l r : By} {i : Nat} (h : oneP ws l = .good i r) : i < ws.length ∧ l = ws.getD i [] ++ r := by
  rcases first_of l ws with hb | ⟨ws1, w, ws2, rfl, hw, hb⟩
  · have := oneFrom_bad l ws 0 0 hb
    unfold oneP at h
    rw [this] at h; cases h
  · have := oneFrom_good l w hw ws2 ws1 0 0 hb
    unfold oneP at h
    rw [this] at h
    injection h with h1 h2
    subst h1 h2
    obtain ⟨m, rfl⟩ := (common_pre l w).1 hw
    simp
theorem one_full {ws : List By} (hf : PF ws) (hn : ws.Nodup) {i : Nat} (hi : i < ws.length) (r : By) : oneP ws (ws.getD i [] ++ r) = .good i r := by
  have hg : ws.getD i [] = ws[i] := by rw [List.getD_eq_getElem?_getD, List.getElem?_eq_getElem hi]; rfl
  rw [hg]
  rcases first_of (ws[i] ++ r) ws with hb | ⟨ws1, w, ws2, he, hw, hb⟩
  · exact absurd (common_pref r (List.prefix_refl _)) (hb _ (List.getElem_mem hi))
  · have hwm : w ∈ ws := by rw [he]; simp
    have h1 := (common_pre _ _).1 hw
    have h2 : ws[i] <+: ws[i] ++ r := List.prefix_append _ _
    have : w = ws[i] := by
      rcases Nat.le_total w.length ws[i].length with hl | hl
      · exact hf w hwm _ (List.getElem_mem hi) (List.prefix_of_prefix_length_le h1 h2 hl)
      · exact (hf _ (List.getElem_mem hi) w hwm (List.prefix_of_prefix_length_le h2 h1 hl)).symm
    subst this
    have hlen : ws1.length < ws.length := by
      have := congrArg List.length he
      simp at this; omega
    have hj : ws[ws1.length]'hlen = ws[i] := by
      have : ws[ws1.length]? = some ws[i] := by
        conv => lhs; rw [he]
        simp
      rw [List.getElem?_eq_getElem hlen] at this
      exact Option.some.inj this
    have hij : ws1.length = i := (List.getElem_inj (h₀ := hlen) (h₁ := hi) hn).1 hj
    have := oneFrom_good (ws[i] ++ r) ws[i] hw ws2 ws1 0 0 hb
    unfold oneP
    rw [← he, List.drop_left, Nat.zero_add, hij] at this
    exact this
end Go.Proofs.YtnbfebjcfhbhiaaDoor.Sc
end
section
namespace Go.Proofs.YtnbfebjcfhbhiaaDoor.Sc
open Go.Proofs.YtnbfebjcfhbhiaaDoor.Bw Go.Proofs.YtnbfebjcfhbhiaaDoor.Lw
set_option linter.unusedVariables false
set_option linter.unusedSimpArgs false
theorem kind_all (ps : List Part) (x : St) : (zeroAll ps x).kind = x.kind := by
  induction ps generalizing x with
  | nil => rfl
  | cons q ps ih => show (zeroAll ps (x.zero q)).kind = _; rw [ih]; cases q <;> rfl
theorem ok_all (ps : List Part) (x : St) : (zeroAll ps x).ok = x.ok := by
  induction ps generalizing x with
  | nil => rfl
  | cons q ps ih => show (zeroAll ps (x.zero q)).ok = _; rw [ih]; cases q <;> rfl
theorem tellG_plain (rec : St → Bool × List By × St) : ∀ (ps : List Part) (y : St), ps.Nodup → .o ∉ ps → tellG rec ps y = (true, ps.map (partW y), zeroAll ps y)
  | [], y, _, _ => rfl
  | p :: ps, y, hn, ho => by
    obtain ⟨hp, hn2⟩ := List.nodup_cons.1 hn
    rw [tellG_cons rec p (fun h => ho (by subst h; exact List.mem_cons_self)), tellG_plain rec ps (y.zero p) hn2 (fun h => ho (.tail _ h))]
    have : ps.map (partW (y.zero p)) = ps.map (partW y) := List.map_congr_left (fun q hq => partW_zero (fun h => hp (by subst h; exact hq)))
    rw [this]; rfl
theorem blank_st0 {z : St} (h : Bw.blank z = true) : z = st0 z.kind := by
  obtain ⟨k, r, s, n, ok, nm, a, b, i, j, d⟩ := z
  simp [Bw.blank] at h
  obtain ⟨⟨⟨⟨⟨h1, h2, h3⟩, ⟨⟨h4, h5⟩, h6⟩, h7⟩, h8⟩, h9⟩, h10⟩ := h
  subst h1 h2 h3 h4 h5 h6 h7 h8 h9 h10
  rfl
theorem tellS_at (rec : St → Bool × List By × St) (x : St) : ∀ f : Fin 15, tellF rec stepFs ((f.val : Int) + 1) x = ((tellG rec (stepParts f.val) x).1, stepWs.getD f.val [] :: (tellG rec (stepParts f.val) x).2.1, (tellG rec (stepParts f.val) x).2.2)
  | ⟨0, _⟩ => rfl | ⟨1, _⟩ => rfl | ⟨2, _⟩ => rfl | ⟨3, _⟩ => rfl | ⟨4, _⟩ => rfl | ⟨5, _⟩ => rfl | ⟨6, _⟩ => rfl | ⟨7, _⟩ => rfl | ⟨8, _⟩ => rfl | ⟨9, _⟩ => rfl | ⟨10, _⟩ => rfl | ⟨11, _⟩ => rfl | ⟨12, _⟩ => rfl | ⟨13, _⟩ => rfl | ⟨14, _⟩ => rfl
theorem tellO_at (rec : St → Bool × List By × St) (x : St) : ∀ f : Fin 11, tellF rec opFs ((f.val : Int) + 1) x = ((tellG rec (opParts f.val) x).1, opWs.getD f.val [] :: (tellG rec (opParts f.val) x).2.1, (tellG rec (opParts f.val) x).2.2)
  | ⟨0, _⟩ => rfl | ⟨1, _⟩ => rfl | ⟨2, _⟩ => rfl | ⟨3, _⟩ => rfl | ⟨4, _⟩ => rfl | ⟨5, _⟩ => rfl | ⟨6, _⟩ => rfl | ⟨7, _⟩ => rfl | ⟨8, _⟩ => rfl | ⟨9, _⟩ => rfl | ⟨10, _⟩ => rfl
theorem tellF_some (rec : St → Bool × List By × St) (k : Int) (x : St) : ∀ fs, (tellF rec fs k x).1 = true → ∃ f ∈ fs, f.f2 = k
  | [], h => by cases h
  | f :: fs, h => by
    by_cases hk : f.f2 = k
    · exact ⟨f, .head _, hk⟩
    · rw [tellF, if_neg hk] at h
      obtain ⟨g, hg, e⟩ := tellF_some rec k x fs h
      exact ⟨g, .tail _ hg, e⟩
theorem stepFs_f2 : ∀ f ∈ stepFs, 1 ≤ f.f2 ∧ f.f2 ≤ 15 := by decide
theorem opFs_f2 : ∀ f ∈ opFs, 1 ≤ f.f2 ∧ f.f2 ≤ 11 := by decide
theorem opParts_fine : ∀ f : Fin 11, (opParts f.val).Nodup ∧ .o ∉ opParts f.val ∧ .r ∉ opParts f.val ∧ .s ∉ opParts f.val ∧ .n ∉ opParts f.val := by decide
theorem stepParts_fine : ∀ f : Fin 15, f.val ≠ 0 → (stepParts f.val).Nodup ∧ .o ∉ stepParts f.val := by decide
theorem nd_step : stepWs.Nodup := by decide +kernel
theorem nd_op : opWs.Nodup := by decide +kernel
def rsn : List Part := [.r, .s, .n]
theorem rsn_fine : rsn.Nodup ∧ .o ∉ rsn := by decide
/-- A call: the parts ahead of the op, then the op. -/
theorem call_go (x : St) (l : By) : partGo (stepParts 0) x l = (opGo rsn x l).bnd fun x l => (byteP 32 l).bnd fun _ l => (oneP opWs l).bnd fun g l => opGo (opParts g) { x with ok := (g : Int) + 1 } l := by
  show partGo [.r, .s, .n, .o] x l = _
  have hb : ∀ {α β γ : Type} (r : R α) (f : α → By → R β) (g : β → By → R γ), (r.bnd f).bnd g = r.bnd fun x l => (f x l).bnd g := fun r f g => by cases r <;> rfl
  have h1 : ∀ {β : Type} (r : R β), (r.bnd fun x l => R.good x l) = r := fun r => by cases r <;> rfl
  simp only [rsn, partGo, opGo, hb, h1, R.bnd_good]
theorem tell_call (y : St) (g : Nat) (hg : g < 11) (hk : y.ok = (g : Int) + 1) :
    tellStep 1 y = (true, stepWs.getD 0 [] :: (rsn.map (partW y) ++ (opWs.getD g [] :: (opParts g).map (partW y))), { zeroAll (opParts g) (zeroAll rsn y) with ok := 0 }) := by
  obtain ⟨f1, f2, f3, f4, f5⟩ := opParts_fine ⟨g, hg⟩
  have e := tellS_at tellOps y ⟨0, by decide⟩
  have e2 : tellOps (zeroAll rsn y) = (true, opWs.getD g [] :: (opParts g).map (partW y), zeroAll (opParts g) (zeroAll rsn y)) := by
    unfold tellOps
    rw [ok_all, hk]
    have := tellO_at tell0 (zeroAll rsn y) ⟨g, hg⟩
    simp only at this
    rw [this, tellG_plain _ _ _ f1 f2]
    have : (opParts g).map (partW (zeroAll rsn y)) = (opParts g).map (partW y) := List.map_congr_left (fun q hq => partW_all (fun h => by
      simp only [rsn, List.mem_cons, List.not_mem_nil, or_false] at h
      rcases h with rfl | rfl | rfl
      · exact f3 hq
      · exact f4 hq
      · exact f5 hq) y)
    rw [this]
  show tellF tellOps stepFs 1 y = _
  have e3 : tellG tellOps (stepParts 0) y = (true, rsn.map (partW y) ++ (opWs.getD g [] :: (opParts g).map (partW y)), { zeroAll (opParts g) (zeroAll rsn y) with ok := 0 }) := by
    show tellG tellOps [.r, .s, .n, .o] y = _
    rw [tellG_cons _ _ (by decide), tellG_cons _ _ (by decide), tellG_cons _ _ (by decide)]
    have : ((y.zero .r).zero .s).zero .n = zeroAll rsn y := rfl
    rw [this]
    simp only [tellG, e2, if_true, List.append_nil]
    rfl
  refine Eq.trans e ?_
  simp only [e3]
theorem tell_other (y : St) (f : Nat) (hf : f < 15) (h0 : f ≠ 0) : tellStep ((f : Int) + 1) y = (true, stepWs.getD f [] :: (stepParts f).map (partW y), zeroAll (stepParts f) y) := by
  obtain ⟨h1, h2⟩ := stepParts_fine ⟨f, hf⟩ h0
  have e := tellS_at tellOps y ⟨f, hf⟩
  simp only at e
  refine Eq.trans e ?_
  rw [tellG_plain _ _ _ h1 h2]
end Go.Proofs.YtnbfebjcfhbhiaaDoor.Sc
end
