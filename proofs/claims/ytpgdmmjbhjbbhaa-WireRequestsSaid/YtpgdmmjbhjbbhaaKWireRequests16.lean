/- texts that the proof needs, laid together by a program of this session. -/
import Derived.WalkKit
import Derived.ProofKit
import Derived.OpenShut
import Derived.ShutString
import Derived.ChangeOld
import Derived.Below
import Derived.SizedLaws
import Derived.Deep.Slices
import Derived.Test.YtpgdmmjbhjbbhaaKWireRequests15
section
namespace Go.Proofs.Ytpgdmmjbhjbbhaa.Lw
open Go Go.RowKit Go.Proofs.Ytpgdmmjbhjbbhaa.P Go.Proofs.Ytpgdmmjbhjbbhaa.Sp Go.Proofs.Ytpgdmmjbhjbbhaa.Vd Go.Proofs.Ytpgdmmjbhjbbhaa.En Go.Proofs.Ytpgdmmjbhjbbhaa.Wr Go.Proofs.Ytpgdmmjbhjbbhaa.Rd Go.Proofs.YtpgdmmjbhjbbhaaW.PrintWords Go.Proofs.YtpgdmmjbhjbbhaaW.PrintLast Go.Proofs.YtpgdmmjbhjbbhaaW.PrintMore
set_option linter.unusedVariables false
set_option linter.unusedSimpArgs false
theorem in_new (w : World) (l : List Int) (cs : Array Value) (n : Nat) (hc : cs.toList = l.map (Value.int .u8)) (hl : l.length ≤ 1000) (hb : IsB l) (hn : n = l.length) : In (w.alloc (.cells cs 5 (0, 0))) (some ⟨w.heap.size, 0, none⟩) n l := in_lit (heap_alloc_new w _) hc hl hb hn
/-- What stands when all is called. -/
structure AF (w W : World) (Ab As Ar A1 : Option Addr) (cb cs cr c1 g3 g8 g9 : Nat) : Prop where
  bel : Below w.heap.size w W
  b : In W Ab cb bM
  s : In W As cs bS
  r : In W Ar cr bR
  m : W.heap[g3]? = some (.cells (MVc mEx A1 c1) 33 (0, 0))
  c : W.heap[g8]? = some (.cells #[.int .i64 3, .int .i64 1] 27 (0, 0))
  o : W.heap[g9]? = some (.cells #[.int .i64 2, .string ⟨#[107]⟩, .int .i64 5, .int .i64 0] 29 (0, 0))
theorem AF.below {w W W1 : World} {Ab As Ar A1 : Option Addr} {cb cs cr c1 g3 g8 g9 : Nat} (h : AF w W Ab As Ar A1 cb cs cr c1 g3 g8 g9) (k : Below W.heap.size W W1) : AF w W1 Ab As Ar A1 cb cs cr c1 g3 g8 g9 :=
  ⟨below_step h.bel k, In.below h.b k, In.below h.s k, In.below h.r k, blk_keep k h.m, blk_keep k h.c, blk_keep k h.o⟩
theorem AF.new {w W : World} {Ab As Ar A1 : Option Addr} {cb cs cr c1 g3 g8 g9 : Nat} (h : AF w W Ab As Ar A1 cb cs cr c1 g3 g8 g9) (o : Obj) : AF w (W.alloc o) Ab As Ar A1 cb cs cr c1 g3 g8 g9 := h.below (al_below W o)
set_option maxHeartbeats 8000000 in
set_option maxRecDepth 100000 in
theorem able_calls (w : World) : Calls Try.prog 12 #[] w fun e w' => e = .returned (.bool true) ∧ Below w.heap.size w w' := by
  have hu33 := Try.underlying33
  have hu23 := Try.underlying23
  have hu25 := Try.underlying25
  have hu27 := Try.underlying27
  have hu29 := Try.underlying29
  have hu47 := Try.underlying47
  have hu50 := Try.underlying50
  go_enter Try.func12, Try.ntmps12
  go_upto_region 2 with (go_at_call 16; refine (enc_ex _).mono ?_; rintro e w1 ⟨Ab, cb, rfl, hi, hb⟩; have H1 := Aside0.mk (And.intro hb hi); clear hi hb)
  obtain ⟨wa, hwa⟩ : ∃ wa, wa = w1.alloc (.cells #[.int .u8 3, .int .u8 1, .int .u8 107, .int .u8 10, .int .u8 0, .int .u8 2, .int .u8 1] 5 (0, 0)) := ⟨_, rfl⟩
  have HWA := Aside0.mk hwa
  have HIA : Aside0 (In wa (some ⟨w1.heap.size, 0, none⟩) 7 bM) := ⟨by rw [hwa]; exact in_new w1 bM _ _ rfl (by decide) bM_B rfl⟩
  have HBA : Aside0 (Below w.heap.size w wa ∧ Below w1.heap.size w1 wa) := ⟨by rw [hwa]; exact ⟨below_step H1.out.1 (al_below _ _), al_below _ _⟩⟩
  have HMV := Aside0.mk mv_one
  clear hwa
  go_upto_region 3 with (first
    | (refine wpList_store_row rfl 33 (.tmp 3) (.tmp 23) rfl w2.heap.size (MVc mEx A1 c1) (by rfl) (by rfl) 33 _ H2.out.2 inf33 rfl (mv_one _ _ _) ?_)
    | (go_at_call 18; rw [← HWA.out]; refine (dec_ex _ _ _ HIA.out).mono ?_; rintro e w2 ⟨A1, c1, rfl, hb⟩; have H2 := Aside0.mk (And.intro hb (heap_alloc_new w2 (.cells (MVc zMsg none 0) 33 (0, 0)))); clear hb))
  obtain ⟨w3, hw3⟩ : ∃ w3, w3 = (w2.alloc (.cells (MVc zMsg none 0) 33 (0, 0))).setRow w2.heap.size (MVc mEx A1 c1) := ⟨_, rfl⟩
  have HW3 := Aside0.mk hw3
  rw [mv_zero] at HW3
  have H3 : Aside0 (Below w.heap.size w w3 ∧ In w3 Ab cb bM ∧ w3.heap[w2.heap.size]? = some (.cells (MVc mEx A1 c1) 33 (0, 0))) := ⟨by
    have h1 := below_step HBA.out.1 H2.out.1
    have h2 : Below w2.heap.size w2 w3 := by rw [hw3]; exact below_setRow (al_below _ _) (Nat.le_refl _) _
    refine ⟨below_step h1 h2, In.below (In.below (In.below H1.out.2 HBA.out.2) H2.out.1) h2, ?_⟩
    rw [hw3]
    exact setRow_blk H2.out.2 _⟩
  rw [← HW3.out]
  clear hw3 HW3 H2 HWA HIA HBA H1
  go_upto_region 4 with (go_at_call 27; refine (seg_ex _).mono ?_; rintro e w4 ⟨As, cs, rfl, hi, hb⟩; have H4 := Aside0.mk (And.intro (below_step H3.out.1 hb) (And.intro (In.below H3.out.2.1 hb) (And.intro (blk_keep hb H3.out.2.2) hi))); clear hi hb)
  obtain ⟨wa, hwa⟩ : ∃ wa, wa = w4.alloc (.cells #[.int .u8 3, .int .u8 1, .int .u8 2, .int .u8 1, .int .u8 107, .int .u8 10, .int .u8 0] 5 (0, 0)) := ⟨_, rfl⟩
  have HWA := Aside0.mk hwa
  have HIA : Aside0 (In wa (some ⟨w4.heap.size, 0, none⟩) 7 bQ) := ⟨by rw [hwa]; exact in_new w4 bQ _ _ rfl (by decide) bQ_B rfl⟩
  have HBA : Aside0 (Below w4.heap.size w4 wa) := ⟨by rw [hwa]; exact al_below _ _⟩
  clear hwa
  go_upto_region 5 with (go_at_call 33; rw [← HWA.out]; refine (req_ex _ _ _ HIA.out).mono ?_; rintro e w5 ⟨rfl, hb⟩; have H5 := Aside0.mk hb; clear hb)
  obtain ⟨w6, hw6⟩ : ∃ w6, w6 = (w5.alloc (.cells #[.int .i64 3, .int .i64 1] 27 (0, 0))).alloc (.cells #[.int .i64 2, .string ⟨#[107]⟩, .int .i64 5, .int .i64 0] 29 (0, 0)) := ⟨_, rfl⟩
  have HW6 := Aside0.mk hw6
  have H6 : Aside0 (Below w5.heap.size w5 w6 ∧ w6.heap[w5.heap.size]? = some (.cells #[.int .i64 3, .int .i64 1] 27 (0, 0)) ∧ w6.heap[w5.heap.size + 1]? = some (.cells #[.int .i64 2, .string ⟨#[107]⟩, .int .i64 5, .int .i64 0] 29 (0, 0))) := ⟨by
    rw [hw6]
    refine ⟨below_al2 w5 _ _, (Below.heap_alloc _ _ _ (by simp)).trans (heap_alloc_new w5 _), ?_⟩
    have := heap_alloc_new (w5.alloc (.cells #[.int .i64 3, .int .i64 1] 27 (0, 0))) (.cells #[.int .i64 2, .string ⟨#[107]⟩, .int .i64 5, .int .i64 0] 29 (0, 0))
    rwa [show (w5.alloc (.cells #[.int .i64 3, .int .i64 1] 27 (0, 0))).heap.size = w5.heap.size + 1 by simp] at this⟩
  rw [← HW6.out]
  clear hw6 HW6 HWA HIA
  have HK : Aside0 (Below w4.heap.size w4 w6) := ⟨below_step (below_step HBA.out H5.out) H6.out.1⟩
  go_upto_region 6 with (go_at_call 34; refine (rep_ex _).mono ?_; rintro e w7 ⟨Ar, cr, rfl, hi, hb⟩; have HF : Aside0 (AF w w7 Ab As Ar A1 cb cs cr c1 w2.heap.size w5.heap.size (w5.heap.size + 1)) := ⟨⟨below_step (below_step H4.out.1 HK.out) hb, In.below (In.below H4.out.2.1 HK.out) hb, In.below (In.below H4.out.2.2.2 HK.out) hb, hi, blk_keep hb (blk_keep HK.out H4.out.2.2.1), blk_keep hb H6.out.2.1, blk_keep hb H6.out.2.2⟩⟩; clear hi hb)
  clear H3 H4 H5 H6 HK HBA
  go_wp2_with (first
    | (go_at_call 37; refine (alike_ex Ab cb _ _ bM 7 rfl _ (AF.new HF.out _).b (in_new _ bM _ _ rfl (by decide) bM_B rfl)).mono ?_; rintro e wx ⟨rfl, hb⟩; have n0_ := Aside0.mk (AF.below (AF.new HF.out _) hb); clear HF hb; have HF := n0_; clear n0_; have km0 : wx.cell? ⟨w2.heap.size, 0, none⟩ = some (.int .i64 3) := (blk_cell HF.out.m 0).trans rfl; have km2 : wx.cell? ⟨w2.heap.size, 2, none⟩ = some (.int .i64 10) := (blk_cell HF.out.m 2).trans rfl; have km4 : wx.cell? ⟨w2.heap.size, 4, none⟩ = some (.int .i64 2) := (blk_cell HF.out.m 4).trans rfl; have kc0 : wx.cell? ⟨w5.heap.size, 0, none⟩ = some (.int .i64 3) := (blk_cell HF.out.c 0).trans rfl; have ko2 : wx.cell? ⟨w5.heap.size + 1, 2, none⟩ = some (.int .i64 5) := (blk_cell HF.out.o 2).trans rfl)
    | (go_at_call 37; refine (alike_ex As cs _ _ bS 5 rfl _ (AF.new HF.out _).s (in_new _ bS _ _ rfl (by decide) bS_B rfl)).mono ?_; rintro e wx ⟨rfl, hb⟩; clear km0 km2 km4 kc0 ko2; have n0_ := Aside0.mk (AF.below (AF.new HF.out _) hb); clear HF hb; have HF := n0_; clear n0_; have km0 : wx.cell? ⟨w2.heap.size, 0, none⟩ = some (.int .i64 3) := (blk_cell HF.out.m 0).trans rfl; have km2 : wx.cell? ⟨w2.heap.size, 2, none⟩ = some (.int .i64 10) := (blk_cell HF.out.m 2).trans rfl; have km4 : wx.cell? ⟨w2.heap.size, 4, none⟩ = some (.int .i64 2) := (blk_cell HF.out.m 4).trans rfl; have kc0 : wx.cell? ⟨w5.heap.size, 0, none⟩ = some (.int .i64 3) := (blk_cell HF.out.c 0).trans rfl; have ko2 : wx.cell? ⟨w5.heap.size + 1, 2, none⟩ = some (.int .i64 5) := (blk_cell HF.out.o 2).trans rfl)
    | (go_at_call 37; refine (alike_ex Ar cr _ _ bR 4 rfl _ (AF.new HF.out _).r (in_new _ bR _ _ rfl (by decide) bR_B rfl)).mono ?_; rintro e wx ⟨rfl, hb⟩; clear km0 km2 km4 kc0 ko2; have n0_ := Aside0.mk (AF.below (AF.new HF.out _) hb); clear HF hb; have HF := n0_; clear n0_; have km0 : wx.cell? ⟨w2.heap.size, 0, none⟩ = some (.int .i64 3) := (blk_cell HF.out.m 0).trans rfl; have km2 : wx.cell? ⟨w2.heap.size, 2, none⟩ = some (.int .i64 10) := (blk_cell HF.out.m 2).trans rfl; have km4 : wx.cell? ⟨w2.heap.size, 4, none⟩ = some (.int .i64 2) := (blk_cell HF.out.m 4).trans rfl; have kc0 : wx.cell? ⟨w5.heap.size, 0, none⟩ = some (.int .i64 3) := (blk_cell HF.out.c 0).trans rfl; have ko2 : wx.cell? ⟨w5.heap.size + 1, 2, none⟩ = some (.int .i64 5) := (blk_cell HF.out.o 2).trans rfl)
    | ((with_reducible refine gate_dst (N := 106) rfl ?_); refine gate_guard (by kernel_rfl) ?_; refine wpList_load_row rfl 33 (.tmp 3) rfl w2.heap.size (by rfl) 33 (MVc mEx A1 c1) (0, 0) _ HF.out.m Try.underlying33 rfl inf33 ?_)
    | (go_at_call 21; refine (val_ex _ A1 c1).mono ?_; rintro e wy ⟨rfl, hb⟩; have HE := Aside0.mk (below_step HF.out.bel hb); clear hb))
  go_ret
  exact ⟨rfl, HE.out⟩
end Go.Proofs.Ytpgdmmjbhjbbhaa.Lw
end
section
namespace Go.Proofs.Ytpgdmmjbhjbbhaa.Lw
open Go Go.RowKit Go.Proofs.Ytpgdmmjbhjbbhaa.P Go.Proofs.Ytpgdmmjbhjbbhaa.Sp Go.Proofs.Ytpgdmmjbhjbbhaa.Vd Go.Proofs.Ytpgdmmjbhjbbhaa.En Go.Proofs.Ytpgdmmjbhjbbhaa.Wr Go.Proofs.Ytpgdmmjbhjbbhaa.Rd Go.Proofs.YtpgdmmjbhjbbhaaW.PrintWords Go.Proofs.YtpgdmmjbhjbbhaaW.PrintLast Go.Proofs.YtpgdmmjbhjbbhaaW.PrintMore
set_option linter.unusedVariables false
set_option linter.unusedSimpArgs false
/-- lent(b)[:len(b)]: the bytes, with marks in the spare room. -/
theorem lent_cut {w : World} {base : Nat} {v : Value} {b : List Int} (h : Kd.R (Kd.int .u8) 5 w base (fun _ => True) v (b ++ [165, 90])) (hb : IsB b) : ∃ A c, v = .slice A (b.length + 2) c ∧ b.length + 2 ≤ c ∧ In w A c b := by
  have hlen : (b ++ [165, 90] : List Int).length = b.length + 2 := by simp
  obtain ⟨A, c, rfl, hc, hC⟩ := Kd.R_reads h
  rw [hlen] at hc hC ⊢
  refine ⟨A, c, rfl, hc, ?_, hb, by omega⟩
  have h2 := Kd.C_take (m := b.length) (k := Kd.int .u8) (xs := b ++ [165, 90]) (by rw [hlen]; exact hC) (by simp)
  rwa [List.take_left] at h2
theorem In_nil (w : World) : In w none 0 [] := ⟨⟨rfl, by decide, fun h => absurd h (by decide)⟩, (fun x h => by cases h), Nat.le_refl _⟩
theorem two_blocks (w : World) (a b : Obj) : ((w.alloc a).alloc b).heap[w.heap.size]? = some a ∧ ((w.alloc a).alloc b).heap[w.heap.size + 1]? = some b := by
  refine ⟨(Below.heap_alloc _ _ _ (by simp)).trans (heap_alloc_new w _), ?_⟩
  have := heap_alloc_new (w.alloc a) b
  rwa [show (w.alloc a).heap.size = w.heap.size + 1 by simp] at this
end Go.Proofs.Ytpgdmmjbhjbbhaa.Lw
end
section
namespace Go.Proofs.Ytpgdmmjbhjbbhaa.Ow
open Go Go.ChangeShapes Go.WideShapes Go.ChangeAt Go.RowKit Go.Proofs.Ytpgdmmjbhjbbhaa.P Go.Proofs.Ytpgdmmjbhjbbhaa.Sp Go.Proofs.Ytpgdmmjbhjbbhaa.Vd Go.Proofs.Ytpgdmmjbhjbbhaa.En Go.Proofs.Ytpgdmmjbhjbbhaa.Wr Go.Proofs.Ytpgdmmjbhjbbhaa.Rd Go.Proofs.Ytpgdmmjbhjbbhaa.Lw Go.Proofs.YtpgdmmjbhjbbhaaW.PrintWords
set_option linter.unusedVariables false
set_option linter.unusedSimpArgs false
/-- The datum weighs no more than a machine has. -/
def Fit {H : Type} (t : TypeId) (d : DataW H) : Prop := ∀ n ∈ d.weights Try.prog t, n ≤ 140737488351232
theorem fit_all {H : Type} {ts : List TypeId} {ds : List (DataW H)} (h : (DataW.weightsEach Try.prog ts ds).all (· ≤ reachBytes) = true) {j : Nat} {t : TypeId} {d : DataW H} (ht : ts[j]? = some t) (hd : ds[j]? = some d) : Fit t d := fun n hn => by
  have := List.all_eq_true.1 h _ (DataW.weights_mem_each ht hd n hn)
  exact of_decide_eq_true this
theorem weights_all {H : Type} {e : TypeId} : ∀ {l : List (DataW H)} {d : DataW H}, d ∈ l → ∀ n ∈ d.weights Try.prog e, n ∈ DataW.weightsAll Try.prog e l
  | x :: r, d, h, n, hn => by
    simp only [DataW.weightsAll, List.mem_append]
    rcases List.mem_cons.1 h with rfl | h
    · exact .inl hn
    · exact .inr (weights_all h n hn)
  | [], _, h, _, _ => by cases h
theorem fit_slice {H : Type} {t e : TypeId} {elems spare : List (DataW H)} (hu : Try.prog.underlying t = some (.slice e)) (h : Fit t (.slice elems spare)) : (elems.length + spare.length) * Try.prog.bytesOf e ≤ 140737488351232 ∧ ∀ d ∈ elems, Fit e d :=
  ⟨h _ (by simp [DataW.weights, hu]), fun d hd n hn => h n (by simp only [DataW.weights, hu, List.mem_cons, List.mem_append]; exact .inr (.inl (weights_all hd n hn)))⟩
theorem fits {k : IntKind} {a0 : Int} (w0 : (Lit.int .i64 a0).wf = true) : isI a0 := by simpa [isI, Lit.wf, IntKind.min, IntKind.max, IntKind.signed, IntKind.bits] using w0
section
variable {H : Type} {enc : TypeId × Value → H} {w : World} {spare : Nat → Bool} {held : Bool}
theorem int_open {t : TypeId} {fuel : Nat} {cs : List Value} {x : DataW H × List MemPlace} (ht : Try.prog.underlying t = some (.int .i64)) (h : DataW.trod enc Try.prog w 0 spare held fuel t cs = some x) : ∃ n, cs = [.int .i64 n] ∧ isI n := by
  obtain ⟨n, g, _, hw⟩ := DataW.trod_int ht h
  exact ⟨n, g, fits (k := .i64) hw⟩
theorem str_open {t : TypeId} {fuel : Nat} {cs : List Value} {x : DataW H × List MemPlace} (ht : Try.prog.underlying t = some .string) (h : DataW.trod enc Try.prog w 0 spare held fuel t cs = some x) : ∃ s, cs = [.string s] := by
  obtain ⟨s, g, _⟩ := DataW.trod_string ht h
  exact ⟨s, g⟩
theorem isB_wf {l : List Int} (h : ∀ n ∈ l, (Lit.int .u8 n).wf = true) : IsB l := fun n hn => by
  have := h n hn
  simp [Lit.wf, IntKind.min, IntKind.max, IntKind.signed, IntKind.bits] at this
  omega
/-- Bytes as they are read. -/
theorem bytes_open {fuel : Nat} {cs : List Value} {x : DataW H × List MemPlace} (h : DataW.trod enc Try.prog w 0 spare held fuel 36 cs = some x) (hf : Fit 36 x.1) :
    ∃ (A : Option Addr) (c : Nat) (xs : List Int), cs = [.slice A xs.length c] ∧ In w A c xs ∧ xs.length ≤ 140737488351232 := by
  obtain ⟨v, rfl⟩ : ∃ v, cs = [v] := by
    rcases DataW.trod_slice Try.underlying36 h with ⟨g, _⟩ | ⟨a, l, c, _, _, _, _, g, _⟩
    · exact ⟨_, g⟩
    · exact ⟨_, g⟩
  rcases open_ints Try.underlying36 Try.underlying5 (by kernel_rfl) h with ⟨hcs, _⟩ | ⟨a, l, c, zs, hcs, _, hl, hm, hz, hy, hcell, hwz⟩
  · obtain rfl : v = .slice none 0 0 := by simpa using hcs
    exact ⟨none, 0, [], rfl, In_nil _, by simp⟩
  · obtain rfl : v = .slice (some a) l c := by simpa using hcs
    have hlz : l ≤ zs.length := by rw [hz]; split <;> omega
    have hlen : (zs.take l).length = l := by rw [List.length_take]; omega
    refine ⟨some a, c, zs.take l, by rw [hlen], ⟨Kd.C_of_reads (d := (0 : Int)) (h1 := fun _ => rfl) ⟨rfl, by simp only [maxLen] at hm; omega, fun _ => ⟨a, rfl, fun j hj => ?_⟩⟩, isB_wf (fun n hn => hwz n (List.mem_of_mem_take hn)), by omega⟩, ?_⟩
    · rw [hcell j (by omega), List.getD_eq_getElem?_getD, List.getD_eq_getElem?_getD, List.getElem?_take, if_pos (by omega)]
    · rw [hy] at hf
      have h1 := (fit_slice Try.underlying36 hf).1
      rw [show Try.prog.bytesOf 5 = 1 by kernel_rfl] at h1
      have h2 : (lits (H := H) .u8 (zs.take l)).length = (zs.take l).length := by simp [lits]
      omega
set_option maxRecDepth 100000 in
theorem Call_open {fuel : Nat} {cs : List Value} {x : DataW H × List MemPlace} (h : DataW.trod enc Try.prog w 0 spare held fuel 27 cs = some x) : ∃ p : S25, cs = [.int .i64 p.f0, .int .i64 p.f1] := by
  obtain ⟨ys, n, _, hx, hcl, hyl, hf⟩ := DataW.trod_struct Try.underlying27 h
  have hcl2 : cs.length = 2 := hcl.trans (by kernel_rfl)
  have hyl2 : ys.length = 2 := hyl
  match cs, hcl2 with
  | [c0, c1], _ =>
    match ys, hyl2 with
    | [y0, y1], _ =>
      have eint : Try.prog.cellsOf 3 = 1 := by kernel_rfl
      have g0 : DataW.trod enc Try.prog w 0 spare held n 3 (List.take (Try.prog.cellsOf 3) (List.drop 0 [c0, c1])) = some y0 := hf 0 _ rfl
      rw [eint] at g0
      replace g0 : DataW.trod enc Try.prog w 0 spare held n 3 [c0] = some y0 := g0
      obtain ⟨n0, q0, i0⟩ := int_open Try.underlying3 g0
      have g1 : DataW.trod enc Try.prog w 0 spare held n 3 (List.take (Try.prog.cellsOf 3) (List.drop 1 [c0, c1])) = some y1 := hf 1 _ rfl
      rw [eint] at g1
      replace g1 : DataW.trod enc Try.prog w 0 spare held n 3 [c1] = some y1 := g1
      obtain ⟨n1, q1, i1⟩ := int_open Try.underlying3 g1
      simp only [List.cons.injEq, and_true] at q0 q1
      exact ⟨⟨n0, n1⟩, by rw [q0, q1]⟩
set_option maxRecDepth 100000 in
theorem Op_open {fuel : Nat} {cs : List Value} {x : DataW H × List MemPlace} (h : DataW.trod enc Try.prog w 0 spare held fuel 29 cs = some x) : ∃ o : Sp.Op, cs = [.int .i64 o.kind, .string o.name, .int .i64 o.a, .int .i64 o.b] ∧ isI o.kind ∧ isI o.a ∧ isI o.b := by
  obtain ⟨ys, n, _, hx, hcl, hyl, hf⟩ := DataW.trod_struct Try.underlying29 h
  have hcl2 : cs.length = 4 := hcl.trans (by kernel_rfl)
  have hyl2 : ys.length = 4 := hyl
  match cs, hcl2 with
  | [c0, c1, c2, c3], _ =>
    match ys, hyl2 with
    | [y0, y1, y2, y3], _ =>
      have eint : Try.prog.cellsOf 3 = 1 := by kernel_rfl
      have estr : Try.prog.cellsOf 9 = 1 := by kernel_rfl
      have g0 : DataW.trod enc Try.prog w 0 spare held n 3 (List.take (Try.prog.cellsOf 3) (List.drop 0 [c0, c1, c2, c3])) = some y0 := hf 0 _ rfl
      rw [eint] at g0
      replace g0 : DataW.trod enc Try.prog w 0 spare held n 3 [c0] = some y0 := g0
      obtain ⟨n0, q0, i0⟩ := int_open Try.underlying3 g0
      have g1 : DataW.trod enc Try.prog w 0 spare held n 9 (List.take (Try.prog.cellsOf 9) (List.drop 1 [c0, c1, c2, c3])) = some y1 := hf 1 _ rfl
      rw [estr] at g1
      replace g1 : DataW.trod enc Try.prog w 0 spare held n 9 [c1] = some y1 := g1
      obtain ⟨n1, q1⟩ := str_open Try.underlying9 g1
      have g2 : DataW.trod enc Try.prog w 0 spare held n 3 (List.take (Try.prog.cellsOf 3) (List.drop 2 [c0, c1, c2, c3])) = some y2 := hf 2 _ rfl
      rw [eint] at g2
      replace g2 : DataW.trod enc Try.prog w 0 spare held n 3 [c2] = some y2 := g2
      obtain ⟨n2, q2, i2⟩ := int_open Try.underlying3 g2
      have g3 : DataW.trod enc Try.prog w 0 spare held n 3 (List.take (Try.prog.cellsOf 3) (List.drop 3 [c0, c1, c2, c3])) = some y3 := hf 3 _ rfl
      rw [eint] at g3
      replace g3 : DataW.trod enc Try.prog w 0 spare held n 3 [c3] = some y3 := g3
      obtain ⟨n3, q3, i3⟩ := int_open Try.underlying3 g3
      simp only [List.cons.injEq, and_true] at q0 q1 q2 q3
      exact ⟨⟨n0, n1, n2, n3⟩, by rw [q0, q1, q2, q3], i0, i2, i3⟩
set_option maxRecDepth 100000 in
theorem Rep_open {fuel : Nat} {cs : List Value} {x : DataW H × List MemPlace} (h : DataW.trod enc Try.prog w 0 spare held fuel 50 cs = some x) : ∃ r : Rep, cs = (RVc r).toList ∧ isI r.err ∧ isI r.value := by
  obtain ⟨ys, n, _, hx, hcl, hyl, hf⟩ := DataW.trod_struct Try.underlying50 h
  have hcl2 : cs.length = 4 := hcl.trans (by kernel_rfl)
  have hyl2 : ys.length = 3 := hyl
  match cs, hcl2 with
  | [c0, c1, c2, c3], _ =>
    match ys, hyl2 with
    | [y0, y1, y2], _ =>
      have eCall : Try.prog.cellsOf 27 = 2 := by kernel_rfl
      have eerr : Try.prog.cellsOf 30 = 1 := by kernel_rfl
      have eint : Try.prog.cellsOf 3 = 1 := by kernel_rfl
      have g0 : DataW.trod enc Try.prog w 0 spare held n 27 (List.take (Try.prog.cellsOf 27) (List.drop 0 [c0, c1, c2, c3])) = some y0 := hf 0 _ rfl
      rw [eCall] at g0
      replace g0 : DataW.trod enc Try.prog w 0 spare held n 27 [c0, c1] = some y0 := g0
      obtain ⟨n0, q0⟩ := Call_open g0
      have g1 : DataW.trod enc Try.prog w 0 spare held n 30 (List.take (Try.prog.cellsOf 30) (List.drop 2 [c0, c1, c2, c3])) = some y1 := hf 1 _ rfl
      rw [eerr] at g1
      replace g1 : DataW.trod enc Try.prog w 0 spare held n 30 [c2] = some y1 := g1
      obtain ⟨n1, q1, i1⟩ := int_open Try.underlying30 g1
      have g2 : DataW.trod enc Try.prog w 0 spare held n 3 (List.take (Try.prog.cellsOf 3) (List.drop 3 [c0, c1, c2, c3])) = some y2 := hf 2 _ rfl
      rw [eint] at g2
      replace g2 : DataW.trod enc Try.prog w 0 spare held n 3 [c3] = some y2 := g2
      obtain ⟨n2, q2, i2⟩ := int_open Try.underlying3 g2
      simp only [List.cons.injEq, and_true] at q0 q1 q2
      exact ⟨⟨n0, n1, n2⟩, by rw [q0.1, q0.2, q1, q2]; rfl, i1, i2⟩
end
end Go.Proofs.Ytpgdmmjbhjbbhaa.Ow
end
section
namespace Go.Proofs.Ytpgdmmjbhjbbhaa.Lw
open Go Go.RowKit Go.Proofs.Ytpgdmmjbhjbbhaa.P Go.Proofs.Ytpgdmmjbhjbbhaa.Sp Go.Proofs.Ytpgdmmjbhjbbhaa.Vd Go.Proofs.Ytpgdmmjbhjbbhaa.En Go.Proofs.Ytpgdmmjbhjbbhaa.Wr Go.Proofs.Ytpgdmmjbhjbbhaa.Rd Go.Proofs.YtpgdmmjbhjbbhaaW.PrintWords Go.Proofs.YtpgdmmjbhjbbhaaW.PrintLast Go.Proofs.YtpgdmmjbhjbbhaaW.PrintMore
set_option linter.unusedVariables false
set_option linter.unusedSimpArgs false
theorem back_go (ok : Bool) : ∀ (n i : Nat) (x : List Int), i + n = x.length → x.length ≤ 9223372036854775807 → ∃ k r, sluicelaw2_back.l0 k x ok (i : Int) = some (ok, r)
  | 0, i, x, h, hl => ⟨1, x, by unfold sluicelaw2_back.l0; rw [if_neg (by omega)]⟩
  | n + 1, i, x, h, hl => by
    obtain ⟨k, r, hk⟩ := back_go ok n (i + 1) (x.set i 85) (by simp; omega) (by simpa using hl)
    refine ⟨k + 1, r, ?_⟩
    unfold sluicelaw2_back.l0
    have hw : wrap64 ((i : Int) + 1) = ((i + 1 : Nat) : Int) := by
      unfold wrap64; omega
    rw [if_pos (by omega), if_pos (by omega), hw, Int.toNat_natCast, hk]
theorem back_f (b : List Int) (hb : IsB b) (hl : b.length ≤ 140737488351232) : ∃ k r, sluicelaw2_back.f k (b ++ [165, 90]) b = some (true, r) := by
  have hlen : (b ++ [165, 90] : List Int).length = b.length + 2 := by simp
  obtain ⟨k, r, hk⟩ := back_go true (b.length + 2) 0 (b ++ [165, 90]) (by omega) (by omega)
  refine ⟨k + 1, r, ?_⟩
  have h2 : wrap64 ((b.length : Int) + 2) = (b.length : Int) + 2 := by
    unfold wrap64; omega
  have h1 : wrap64 ((b.length : Int) + 1) = ((b.length + 1 : Nat) : Int) := by
    unfold wrap64; omega
  have ht : (b ++ [165, 90] : List Int).take b.length = b := List.take_left
  have r1 : rd (b ++ [165, 90]) (b.length : Int) = 165 := by simp [rd, List.getD_eq_getElem?_getD]
  have r2 : rd (b ++ [165, 90]) ((b.length + 1 : Nat) : Int) = 90 := by simp [rd, List.getD_eq_getElem?_getD]
  unfold sluicelaw2_back.f
  rw [h2, h1, hlen, if_pos (by omega), if_pos (by omega), if_pos (by omega), Int.toNat_natCast, ht, alike_law hb hb, Option.bind_some, dcd_pos rfl, if_pos rfl, if_pos (by omega), r1, if_pos rfl, if_pos (by omega), if_pos (by omega), r2]
  exact hk
theorem back_law (w0 w : World) (v : Value) (b : List Int) (lo hi : Nat) (hB : Below w0.heap.size w0 w) (hlo : w0.heap.size ≤ lo) (hR : Kd.R (Kd.int .u8) 5 w w0.heap.size (fun k => lo ≤ k ∧ k < hi) v (b ++ [165, 90])) (A1 : Option Addr) (c1 : Nat) (hb : In w0 A1 c1 b) (hl : b.length ≤ 140737488351232) :
    Calls Try.prog 42 #[v, .slice A1 b.length c1] w fun e w' => e = .returned (.bool true) ∧ Below w0.heap.size w0 w' ∧ Kept w w' (fun k => lo ≤ k ∧ k < hi) := by
  obtain ⟨k, r, hk⟩ := back_f b hb.isB hl
  refine (sluicelaw2_back.calls k (fun k => lo ≤ k ∧ k < hi) v _ A1 c1 b _ _ w0 w hB hR (Kd.C_kept_came (Kd.heap_int .u8) hb.row hB (fun k hk => Nat.le_trans hlo hk.1)) hb.cap hk).mono ?_
  rintro e w' ⟨he, _, h2, h3⟩
  exact ⟨he, h2, h3⟩
/-- What lent answered, where it lies. -/
theorem lent_in {w w1 : World} {base : Nat} {v : Value} {b : List Int} (h : Kd.R (Kd.int .u8) 5 w1 w.heap.size (fun _ => True) v b) (hle : base ≤ w.heap.size) : Kd.R (Kd.int .u8) 5 w1 base (fun k => w.heap.size ≤ k ∧ k < w1.heap.size) v b :=
  Kd.R_lower (Kd.R_mono (Kd.R_bound h) (fun k hk => ⟨hk.2.1, hk.2.2.1⟩)) hle
end Go.Proofs.Ytpgdmmjbhjbbhaa.Lw
end
section
namespace Go.Proofs.Ytpgdmmjbhjbbhaa.Lw
open Go Go.RowKit Go.Proofs.Ytpgdmmjbhjbbhaa.P Go.Proofs.Ytpgdmmjbhjbbhaa.Sp Go.Proofs.Ytpgdmmjbhjbbhaa.Vd Go.Proofs.Ytpgdmmjbhjbbhaa.En Go.Proofs.Ytpgdmmjbhjbbhaa.Wr Go.Proofs.Ytpgdmmjbhjbbhaa.Rd Go.Proofs.YtpgdmmjbhjbbhaaW.PrintWords Go.Proofs.YtpgdmmjbhjbbhaaW.PrintLast Go.Proofs.YtpgdmmjbhjbbhaaW.PrintMore
set_option linter.unusedVariables false
set_option linter.unusedSimpArgs false
theorem b_nil : IsB [] := fun x h => by cases h
theorem b_app {a b : List Int} (ha : IsB a) (hb : IsB b) : IsB (a ++ b) := IsB.append.mpr ⟨ha, hb⟩
theorem b_int (n : Int) : IsB (intB n) := numB_isB _
theorem b_sign (n : Int) : IsB (signB n) := numB_isB _
theorem b_text (s : ByteArray) : IsB (textB s) := b_app (b_int _) (isB_bytesOf s)
theorem b_pair (x : S25) : IsB (pairB x) := b_app (b_int _) (b_int _)
theorem b_op (o : Sp.Op) : IsB (opB o) := b_app (b_int _) (b_app (b_text _) (b_app (b_sign _) (b_sign _)))
theorem b_req (x : S25 × Sp.Op) : IsB (reqB x) := b_app (b_pair _) (b_op _)
theorem b_rep (r : Rep) : IsB (repB r) := b_app (b_pair _) (b_app (b_int _) (b_sign _))
theorem lay_isB {α : Type} {e : α → List Int} {v : α → Prop} {x : α} (h : IsB (e x)) : IsB (lay e v x).1 := by
  unfold lay
  split
  · exact h
  · exact b_nil
end Go.Proofs.Ytpgdmmjbhjbbhaa.Lw
end
section
namespace Go.Proofs.Ytpgdmmjbhjbbhaa.Rf
open Go Go.RowKit Go.Proofs.Ytpgdmmjbhjbbhaa.P Go.Proofs.Ytpgdmmjbhjbbhaa.Sp Go.Proofs.Ytpgdmmjbhjbbhaa.Vd Go.Proofs.Ytpgdmmjbhjbbhaa.En Go.Proofs.Ytpgdmmjbhjbbhaa.Wr Go.Proofs.Ytpgdmmjbhjbbhaa.Rd Go.Proofs.Ytpgdmmjbhjbbhaa.Lw Go.Proofs.YtpgdmmjbhjbbhaaW.PrintWords Go.Proofs.YtpgdmmjbhjbbhaaW.PrintLast Go.Proofs.YtpgdmmjbhjbbhaaW.PrintMore
set_option linter.unusedVariables false
set_option linter.unusedSimpArgs false
end Go.Proofs.Ytpgdmmjbhjbbhaa.Rf
end
section
namespace Go.Proofs.Ytpgdmmjbhjbbhaa.Rf
open Go Go.RowKit Go.Proofs.Ytpgdmmjbhjbbhaa.P Go.Proofs.Ytpgdmmjbhjbbhaa.Sp Go.Proofs.Ytpgdmmjbhjbbhaa.Vd Go.Proofs.Ytpgdmmjbhjbbhaa.En Go.Proofs.Ytpgdmmjbhjbbhaa.Wr Go.Proofs.Ytpgdmmjbhjbbhaa.Rd Go.Proofs.Ytpgdmmjbhjbbhaa.Lw Go.Proofs.YtpgdmmjbhjbbhaaW.PrintWords Go.Proofs.YtpgdmmjbhjbbhaaW.PrintLast Go.Proofs.YtpgdmmjbhjbbhaaW.PrintMore
attribute [local go_sem] Go.Proofs.Ytpgdmmjbhjbbhaa.StrLe.leq_str Go.Proofs.Ytpgdmmjbhjbbhaa.StrLe.gtr_str
set_option linter.unusedVariables false
set_option linter.unusedSimpArgs false
end Go.Proofs.Ytpgdmmjbhjbbhaa.Rf
end
section
namespace Go.Proofs.Ytpgdmmjbhjbbhaa.Rf
open Go Go.RowKit Go.Proofs.Ytpgdmmjbhjbbhaa.P Go.Proofs.Ytpgdmmjbhjbbhaa.Sp Go.Proofs.Ytpgdmmjbhjbbhaa.Vd Go.Proofs.Ytpgdmmjbhjbbhaa.En Go.Proofs.Ytpgdmmjbhjbbhaa.Wr Go.Proofs.Ytpgdmmjbhjbbhaa.Rd Go.Proofs.Ytpgdmmjbhjbbhaa.Lw Go.Proofs.YtpgdmmjbhjbbhaaW.PrintWords Go.Proofs.YtpgdmmjbhjbbhaaW.PrintLast Go.Proofs.YtpgdmmjbhjbbhaaW.PrintMore
set_option linter.unusedVariables false
set_option linter.unusedSimpArgs false
theorem wrap_s {i : Nat} (h : i ≤ 1000000) : wrap64 ((i : Int) + 1) = ((i + 1 : Nat) : Int) := by
  rw [wrap64]; simp [IntKind.wrap, IntKind.bits, IntKind.signed]; omega
theorem number_l : ∀ (d n : Nat) (x : List Int), n < 128 ^ (d + 1) → n < 18446744073709551616 → x.length + (d + 1) ≤ 100000000 → ∀ k, d + 1 ≤ k → sluiceref2_number.l0 k x (n : Int) = some (x ++ numB n) := by
  intro d
  induction d with
  | zero =>
    intro n x hn h64 hx k hk
    obtain ⟨k, rfl⟩ : ∃ j, k = j + 1 := ⟨k - 1, by omega⟩
    have h1 : n < 128 := by simpa using hn
    unfold sluiceref2_number.l0
    rw [if_neg (by omega), if_pos (by omega), numB_lt h1]
    congr 3
    omega
  | succ d ih =>
    intro n x hn h64 hx k hk
    obtain ⟨k, rfl⟩ : ∃ j, k = j + 1 := ⟨k - 1, by omega⟩
    unfold sluiceref2_number.l0
    by_cases h1 : n < 128
    · rw [if_neg (by omega), if_pos (by omega), numB_lt h1]
      congr 3
      omega
    · rw [if_pos (by omega), if_pos (by omega)]
      have e1 : Int.tmod (n : Int) 128 = ((n % 128 : Nat) : Int) := by rw [Int.tmod_eq_emod_of_nonneg (by omega)]; omega
      have e2 : IntKind.u64.wrap (Int.tdiv (n : Int) 128) = ((n / 128 : Nat) : Int) := by
        rw [Int.tdiv_eq_ediv_of_nonneg (by omega)]
        simp [IntKind.wrap, IntKind.bits, IntKind.signed]
        omega
      rw [e1, e2, ih (n / 128) _ (by rw [Nat.div_lt_iff_lt_mul (by decide)]; rw [Nat.pow_succ] at hn; exact hn) (by omega) (by simp; omega) k (by omega), numB_ge h1]
      rw [List.append_assoc]
      congr 3
      simp only [List.cons_append, List.nil_append, List.cons.injEq, and_true]
      omega
theorem number_f (n : Nat) (x : List Int) (h : n < 18446744073709551616) (hx : x.length ≤ 10000000) (k : Nat) (hk : 10 ≤ k) : sluiceref2_number.f k x (n : Int) = some (x ++ numB n) :=
  number_l 9 n x (Nat.lt_of_lt_of_le h (by decide)) h (by omega) k hk
theorem plain_l (l : List Int) (hl : l.length ≤ 100) : ∀ (n i : Nat) (x : List Int), i + n = l.length → x.length + n * 10 ≤ 10000000 → ∀ k, n + 11 ≤ k → sluiceref2_plain.l0 k x l (i : Int) = some (x ++ numsB (l.drop i)) := by
  intro n
  induction n with
  | zero =>
    intro i x hi hx k hk
    obtain ⟨k, rfl⟩ : ∃ j, k = j + 1 := ⟨k - 1, by omega⟩
    unfold sluiceref2_plain.l0
    rw [if_neg (by omega), List.drop_of_length_le (by omega)]
    simp [numsB]
  | succ n ih =>
    intro i x hi hx k hk
    obtain ⟨k, rfl⟩ : ∃ j, k = j + 1 := ⟨k - 1, by omega⟩
    unfold sluiceref2_plain.l0
    have hu := u64_nat (rd l (i : Int))
    rw [if_pos (by omega), if_pos (by omega), ← hu.1, number_f _ x hu.2 (by omega) k (by omega), Option.bind_some, wrap_s (by omega)]
    have hn := numB_len10 hu.2
    rw [ih (i + 1) (x ++ numB (IntKind.u64.wrap (rd l (i : Int))).toNat) (by omega) (by rw [List.length_append]; omega) k (by omega), List.append_assoc]
    congr 2
    have hd := List.drop_eq_getElem_cons (l := l) (i := i) (by omega)
    have hr : rd l (i : Int) = l[i] := by simp [rd, List.getD_eq_getElem?_getD, List.getElem?_eq_getElem (show i < l.length by omega)]
    unfold numsB
    rw [hd, List.flatMap_cons, hr]
    rfl
theorem plain_f (l x : List Int) (hl : l.length ≤ 100) (hx : x.length ≤ 1000000) (k : Nat) (hk : 111 ≤ k) : sluiceref2_plain.f k x l = some (x ++ numsB l) := by
  have := plain_l l hl l.length 0 x (by omega) (by omega) k (by omega)
  rw [List.drop_zero] at this
  exact this
theorem text_f (s : ByteArray) (x : List Int) (hs : s.size ≤ 100) (hx : x.length ≤ 100000) (k : Nat) (hk : 111 ≤ k) : sluiceref2_text.f k x s = some (x ++ textB s) := by
  unfold sluiceref2_text.f
  rw [plain_f _ _ (by simp) (by omega) k hk, Option.bind_some]
  have hn : numsB [(s.size : Int)] = intB s.size := by simp [numsB]
  have h2 : (intB (s.size : Int)).length ≤ 10 := by rw [intB_of (by omega) (by omega)]; exact numB_len10 (by omega)
  rw [hn, if_pos (by rw [List.length_append]; omega), List.append_assoc]
  rfl
theorem signed_f (n : Int) (x : List Int) (hn : isI n) (hx : x.length ≤ 1000000) (k : Nat) (hk : 10 ≤ k) : sluiceref2_signed.f k x n = some (x ++ signB n) := by
  unfold sluiceref2_signed.f
  unfold isI at hn
  have hb : signN n < 18446744073709551616 := by unfold signN; split <;> omega
  by_cases h : n ≥ 0
  · rw [if_pos h]
    have e : IntKind.u64.wrap (2 * IntKind.u64.wrap n) = (signN n : Int) := by
      simp [IntKind.wrap, IntKind.bits, IntKind.signed, signN, if_pos (show 0 ≤ n from h)]
      omega
    rw [e, number_f _ x hb (by omega) k hk]
    rfl
  · rw [if_neg h]
    have e0 : wrap64 (n + 1) = n + 1 := IntWalk.wrap64_in _ ⟨by omega, by omega⟩
    have e1 : wrap64 (-(n + 1)) = -(n + 1) := IntWalk.wrap64_in _ ⟨by omega, by omega⟩
    have e : IntKind.u64.wrap (IntKind.u64.wrap (2 * IntKind.u64.wrap (wrap64 (-(wrap64 (n + 1))))) + 1) = (signN n : Int) := by
      rw [e0, e1]
      simp [IntKind.wrap, IntKind.bits, IntKind.signed, signN, if_neg (show ¬ 0 ≤ n from h)]
      omega
    rw [e, number_f _ x hb (by omega) k hk]
    rfl
theorem pair_f (x : S25) (b : List Int) (hb : b.length ≤ 100000) (k : Nat) (hk : 111 ≤ k) : sluiceref2_putCall.f k b x.f0 x.f1 = some (b ++ pairB x) := by
  unfold sluiceref2_putCall.f
  rw [plain_f _ _ (by simp) (by omega) k hk, Option.bind_some]
  have : numsB [x.f0, x.f1] = pairB x := by simp [numsB, pairB]
  rw [this]
theorem intB_len (n : Int) : (intB n).length ≤ 10 := numB_len10 (u64_nat n).2
theorem signB_len {n : Int} (h : isI n) : (signB n).length ≤ 10 := numB_len10 (by unfold isI at h; unfold signN; split <;> omega)
theorem textB_len {s : ByteArray} (h : s.size ≤ 100) : (textB s).length ≤ 110 := by
  have := intB_len s.size
  unfold textB
  rw [List.length_append, bytesOf_length]
  omega
theorem putOp_f (o : Sp.Op) (b : List Int) (hs : o.name.size ≤ 100) (ho : isI o.a ∧ isI o.b) (hb : b.length ≤ 10000) (k : Nat) (hk : 111 ≤ k) : sluiceref2_putOp.f k b o.kind o.name o.a o.b = some (b ++ opB o) := by
  unfold sluiceref2_putOp.f
  have h1 : numsB [o.kind] = intB o.kind := by simp [numsB]
  have l1 := intB_len o.kind
  have l2 := textB_len hs
  have l3 := signB_len ho.1
  rw [plain_f _ _ (by simp) (by omega) k hk, Option.bind_some, h1, text_f _ _ hs (by rw [List.length_append]; omega) k hk, Option.bind_some, signed_f _ _ ho.1 (by simp only [List.length_append]; omega) k (by omega), Option.bind_some, signed_f _ _ ho.2 (by simp only [List.length_append]; omega) k (by omega), Option.bind_some]
  simp only [opB, List.append_assoc]
theorem name_size {s : ByteArray} (h : nameOk (bytesOf s)) : s.size ≤ 16 := by have := h.2.1; rw [bytesOf_length] at this; exact this
theorem pairB_len (x : S25) : (pairB x).length ≤ 20 := by have := intB_len x.f0; have := intB_len x.f1; unfold pairB; rw [List.length_append]; omega
theorem encreq_f (x : S25) (o : Sp.Op) (h : isI o.a ∧ isI o.b) : ∃ k, sluiceref2_EncodeRequest.f k x.f0 x.f1 o.kind o.name o.a o.b = some (lay reqB reqV (x, o)) := by
  obtain ⟨k1, h1⟩ := rop_f o.kind o.name o.a o.b
  obtain ⟨K, hK1, hK2⟩ : ∃ K, k1 ≤ K + 1 ∧ 111 ≤ K := ⟨max k1 111, by omega, by omega⟩
  refine ⟨K + 1, ?_⟩
  have h2 := at_rounds (fun k => sluiceref2_op.mono _ _ _ _ k) hK1 h1
  unfold sluiceref2_EncodeRequest.f
  rw [rcall_f, Option.bind_some, h2]
  by_cases hc : callV x
  · rw [if_pos (dcd_pos hc), Option.bind_some]
    rw [sluiceref2_EncodeRequest.j0]
    by_cases ho : oB o.kind o.name = true
    · have hv : reqV (x, o) := ⟨hc, (oB_iff o h).mp ho⟩
      have hs : o.name.size ≤ 16 := name_size hv.2.2.1.1
      have := pairB_len x
      rw [ho, lay_ok hv]
      rw [if_neg (by decide), pair_f x [] (by simp) _ (by omega), Option.bind_some, putOp_f o _ (by omega) h (by simp; omega) _ (by omega), Option.bind_some]
      rfl
    · have hv : ¬ reqV (x, o) := fun hh => ho ((oB_iff o h).mpr hh.2)
      rw [lay_no hv]
      simp [ho]
  · have hv : ¬ reqV (x, o) := fun hh => hc hh.1
    rw [if_neg (by rw [dcd_neg hc]; decide), lay_no hv]
    rw [sluiceref2_EncodeRequest.j0]
    simp
theorem encrep_f (r : Rep) (h : isI r.value) : ∃ k, sluiceref2_EncodeReply.f k r.call.f0 r.call.f1 r.err r.value = some (lay repB repV r) := by
  refine ⟨111 + 1, ?_⟩
  unfold sluiceref2_EncodeReply.f
  rw [rcall_f, Option.bind_some, within_f]
  by_cases hc : callV r.call
  · rw [if_pos (dcd_pos hc), Option.bind_some]
    rw [sluiceref2_EncodeReply.j0]
    by_cases ho : bB r.err 0 255 = true
    · have hv : repV r := ⟨hc, dcd_iff.mp ho, h⟩
      have := pairB_len r.call
      have hn : numsB [r.err] = intB r.err := by simp [numsB]
      have := intB_len r.err
      rw [ho, lay_ok hv]
      rw [if_neg (by decide), pair_f r.call [] (by simp) _ (by omega), Option.bind_some, plain_f _ _ (by simp) (by simp; omega) _ (by omega), Option.bind_some, hn, signed_f _ _ h (by simp; omega) _ (by omega), Option.bind_some]
      simp [repB]
    · have hv : ¬ repV r := fun hh => ho (dcd_iff.mpr hh.2.1)
      rw [lay_no hv]
      simp [ho]
  · have hv : ¬ repV r := fun hh => hc hh.1
    rw [if_neg (by rw [dcd_neg hc]; decide), lay_no hv]
    rw [sluiceref2_EncodeReply.j0]
    simp
theorem rencreq_calls (x : S25) (o : Sp.Op) (w : World) (h : isI o.a ∧ isI o.b) :
    Calls Try.prog 72 #[.agg #[.int .i64 x.f0, .int .i64 x.f1], .agg #[.int .i64 o.kind, .string o.name, .int .i64 o.a, .int .i64 o.b]] w fun e w' => ∃ v, e = .returned (.tuple #[v, .int .i64 (lay reqB reqV (x, o)).2]) ∧ Kd.R (Kd.int .u8) 5 w' w.heap.size (fun _ => True) v (lay reqB reqV (x, o)).1 ∧ Below w.heap.size w w' := by
  obtain ⟨k, hk⟩ := encreq_f x o h
  exact sluiceref2_EncodeRequest.calls k _ _ _ _ _ _ _ _ w hk
theorem rencrep_calls (r : Rep) (w : World) (h : isI r.value) :
    Calls Try.prog 74 #[.agg #[.int .i64 r.call.f0, .int .i64 r.call.f1, .int .i64 r.err, .int .i64 r.value]] w fun e w' => ∃ v, e = .returned (.tuple #[v, .int .i64 (lay repB repV r).2]) ∧ Kd.R (Kd.int .u8) 5 w' w.heap.size (fun _ => True) v (lay repB repV r).1 ∧ Below w.heap.size w w' := by
  obtain ⟨k, hk⟩ := encrep_f r h
  exact sluiceref2_EncodeReply.calls k _ _ _ _ _ _ w hk
end Go.Proofs.Ytpgdmmjbhjbbhaa.Rf
end
section
namespace Go.Proofs.Ytpgdmmjbhjbbhaa.Rf
open Go Go.RowKit Go.Proofs.Ytpgdmmjbhjbbhaa.P Go.Proofs.Ytpgdmmjbhjbbhaa.Sp Go.Proofs.Ytpgdmmjbhjbbhaa.Vd Go.Proofs.Ytpgdmmjbhjbbhaa.En Go.Proofs.Ytpgdmmjbhjbbhaa.Wr Go.Proofs.Ytpgdmmjbhjbbhaa.Rd Go.Proofs.Ytpgdmmjbhjbbhaa.Lw Go.Proofs.YtpgdmmjbhjbbhaaW.PrintWords Go.Proofs.YtpgdmmjbhjbbhaaW.PrintLast Go.Proofs.YtpgdmmjbhjbbhaaW.PrintMore
set_option linter.unusedVariables false
set_option linter.unusedSimpArgs false
/-- The reader's state: where it reads on, or how much was left where it went wrong. -/
def St (b : List Int) (s : R Unit) (at_ : Int) (wr : Bool) : Prop := match s with
  | .ok _ l => wr = false ∧ (∃ pre, b = pre ++ l) ∧ at_ = pl b l
  | .bad n => wr = true ∧ at_ = (b.length : Int) - n ∧ n ≤ b.length
/-- What a step answers: what p reads; once wrong, still wrong. -/
def Post {α : Type} (p : Rdr α) (s : R Unit) (x : α) (s' : R Unit) : Prop := match s with
  | .bad n => s' = .bad n
  | .ok _ l => match p l with
    | .bad n => s' = .bad n
    | .ok y r => x = y ∧ s' = .ok () r
theorem Post.bnd {α β : Type} {p : Rdr α} {f : α → Rdr β} {s s1 s2 : R Unit} {x : α} {y : β} (h1 : Post p s x s1) (h2 : Post (f x) s1 y s2) : Post (Sp.bnd p f) s y s2 := by
  cases s with
  | bad n =>
    simp only [Post] at h1
    subst h1
    exact h2
  | ok u l =>
    simp only [Post] at h1 ⊢
    cases hp : p l with
    | bad n =>
      rw [hp] at h1
      simp only at h1
      subst h1
      simp only [Post] at h2
      rw [bnd_bad hp]
      exact h2
    | ok z r =>
      rw [hp] at h1
      simp only at h1
      obtain ⟨rfl, rfl⟩ := h1
      simp only [Post] at h2
      rw [bnd_ok hp]
      exact h2
theorem Post.ret {α : Type} (x : α) (s : R Unit) : Post (Sp.ret x) s x s := by
  cases s with
  | bad n => rfl
  | ok u l => exact ⟨rfl, rfl⟩
theorem rd_drop {b l : List Int} (h : ∃ pre, b = pre ++ l) (j : Nat) (hj : j < l.length) : rd b (pl b l + (j : Int)) = l.getD j 0 := by
  obtain ⟨pre, rfl⟩ := h
  have : (pl (pre ++ l) l + (j : Int)).toNat = pre.length + j := by unfold pl; simp; omega
  unfold rd
  rw [this]
  simp [List.getD_eq_getElem?_getD, List.getElem?_append_right]
theorem pl_le {b l : List Int} (h : ∃ pre, b = pre ++ l) : 0 ≤ pl b l ∧ pl b l + l.length = b.length := by
  obtain ⟨pre, rfl⟩ := h
  unfold pl
  simp
theorem wrap_n (n : Int) (h0 : -9223372036854775808 ≤ n) (h1 : n ≤ 9223372036854775807) : wrap64 n = n := IntWalk.wrap64_in _ ⟨h0, h1⟩
def isCut : NR → Bool
  | .cut => true
  | _ => false
def cutN (n j : Nat) (l : List Int) : Bool := match n with
  | 0 => false
  | _ + 1 => isCut (numGo j l)
theorem cut_l (b l : List Int) (h : ∃ pre, b = pre ++ l) (hb : b.length ≤ 9223372036854775807) (hB : IsB l) (wr : Bool) : ∀ (n j : Nat) (l2 : List Int), j + n = 10 → l2 = l.drop j → j ≤ l.length → ∀ k, n + 1 ≤ k →
    sluiceref2_reader_cut.l0 k (j : Int) b (pl b l) wr = some (cutN n j l2, pl b l, wr) := by
  intro n
  induction n with
  | zero =>
    intro j l2 hj h2 hjl k hk
    obtain ⟨k, rfl⟩ : ∃ i, k = i + 1 := ⟨k - 1, by omega⟩
    rw [sluiceref2_reader_cut.l0, if_neg (by omega)]
    rfl
  | succ n ih =>
    intro j l2 hj h2 hjl k hk
    obtain ⟨k, rfl⟩ : ∃ i, k = i + 1 := ⟨k - 1, by omega⟩
    have hp := pl_le h
    rw [sluiceref2_reader_cut.l0, if_pos (by omega), wrap_n _ (by omega) (by omega)]
    show _ = some (isCut (numGo j l2), pl b l, wr)
    by_cases hl : j < l.length
    · have h3 : l.drop j = l[j] :: l.drop (j + 1) := List.drop_eq_getElem_cons hl
      have h4 := rd_drop h j hl
      have h5 : l.getD j 0 = l[j] := by simp [List.getD_eq_getElem?_getD, List.getElem?_eq_getElem hl]
      have hc := hB l[j] (List.getElem_mem hl)
      rw [if_neg (by omega), if_pos (by omega), if_pos (by omega), h4, h5, h2, h3, numGo]
      by_cases hlt : l[j] < 128
      · rw [if_pos hlt, if_pos hlt]
        split <;> rfl
      · rw [if_neg hlt, if_neg hlt, wrap_s (by omega), ih (j + 1) _ (by omega) rfl (by omega) k (by omega)]
        cases n with
        | zero => rw [if_pos (by omega)]; rfl
        | succ n =>
          rw [if_neg (by omega)]
          show some (isCut (numGo (j + 1) (l.drop (j + 1))), _, _) = _
          cases numGo (j + 1) (l.drop (j + 1)) <;> rfl
    · rw [if_pos (by omega), h2, List.drop_of_length_le (by omega)]
      rfl
theorem cut_f (b l : List Int) (h : ∃ pre, b = pre ++ l) (hb : b.length ≤ 9223372036854775807) (hB : IsB l) (wr : Bool) (k : Nat) (hk : 11 ≤ k) : sluiceref2_reader_cut.f k b (pl b l) wr = some (isCut (numGo 0 l), pl b l, wr) :=
  cut_l b l h hb hB wr 10 0 l rfl rfl (Nat.zero_le _) k hk
theorem u_in {n : Int} (h0 : 0 ≤ n) (h1 : n < 18446744073709551616) : IntKind.u64.wrap n = n := by simp [IntKind.wrap, IntKind.bits, IntKind.signed]; omega
/-- What raw answers of a number that is not cut. -/
theorem raw_l (b l : List Int) (h : ∃ pre, b = pre ++ l) (hb : b.length ≤ 9223372036854775807) (hB : IsB l) (wr : Bool) : ∀ (n j : Nat) (acc : Int) (P : Nat) (l2 : List Int), j + n = 9 → P = 128 ^ j → l2 = l.drop j → j ≤ l.length → 0 ≤ acc → acc < (P : Int) → ∀ k, n + 2 ≤ k →
    (∀ m r, numGo j l2 = .ok m r → sluiceref2_reader_raw.l0 k acc (P : Int) (j : Int) b (pl b l) wr = some (acc + (P : Int) * (m : Int), (l.length : Int) - r.length, true, pl b l, wr)) ∧
    (numGo j l2 = .bad → ∃ x y, sluiceref2_reader_raw.l0 k acc (P : Int) (j : Int) b (pl b l) wr = some (x, y, false, pl b l, wr)) := by
  intro n
  induction n with
  | zero =>
    intro j acc P l2 hj hP h2 hjl ha0 ha1 k hk
    obtain rfl : j = 9 := by omega
    obtain ⟨k, rfl⟩ : ∃ i, k = i + 1 := ⟨k - 1, by omega⟩
    have hp := pl_le h
    have hP9 : P = 9223372036854775808 := by rw [hP]
    subst hP9
    by_cases hl : 9 < l.length
    · have h3 : l.drop 9 = l[9] :: l.drop (9 + 1) := List.drop_eq_getElem_cons hl
      have h4 := rd_drop h 9 hl
      have h5 : l.getD 9 0 = l[9] := by simp [List.getD_eq_getElem?_getD, List.getElem?_eq_getElem hl]
      have hc := hB l[9] (List.getElem_mem hl)
      have hdl : (l.drop (9 + 1)).length = l.length - 10 := by rw [List.length_drop]
      obtain ⟨c, hcc⟩ : ∃ c, l[9] = c := ⟨_, rfl⟩
      rw [hcc] at h3 h5 hc
      rw [sluiceref2_reader_raw.l0, if_pos (by omega), wrap_n _ (by omega) (by omega), if_neg (by omega), if_pos (by omega), if_pos (by omega), h4, h5, h2, h3, numGo]
      by_cases hlt : c < 128
      · rw [if_pos hlt, if_pos hlt, if_neg (show ¬ ((9 : Nat) : Int) = 0 by omega)]
        by_cases h0 : c > 0
        · rw [if_pos h0, if_neg (show ¬ ((9 : Nat) : Int) < 9 by omega)]
          by_cases h1 : c = 1
          · subst h1
            rw [if_pos (by omega)]
            refine ⟨fun m r hm => ?_, fun hm => by cases hm⟩
            injection hm with hm1 hm2
            subst hm1 hm2
            have e1 : IntKind.u64.wrap (Int.tmod 1 128) = 1 := by decide
            rw [e1, u_in (n := ((9223372036854775808 : Nat) : Int) * 1) (by omega) (by omega), u_in (by omega) (by omega), wrap_n _ (by omega) (by omega), hdl]
            simp only [beq_self_eq_true, Option.some.injEq, Prod.mk.injEq, and_true, true_and]
            exact ⟨by omega, by omega⟩
          · rw [if_neg (by omega)]
            have : (c == 1) = false := by simp [h1]
            rw [this]
            exact ⟨(fun m r hm => by cases hm), fun _ => ⟨_, _, rfl⟩⟩
        · rw [if_neg h0, if_neg (by omega)]
          exact ⟨(fun m r hm => by cases hm), fun _ => ⟨_, _, rfl⟩⟩
      · rw [if_neg hlt, if_neg hlt, if_pos (by omega)]
        refine ⟨(fun m r hm => by cases hm), fun _ => ?_⟩
        obtain ⟨k, rfl⟩ : ∃ i, k = i + 1 := ⟨k - 1, by omega⟩
        rw [sluiceref2_reader_raw.l0, if_neg (by rw [wrap_n _ (by omega) (by omega)]; omega)]
        exact ⟨_, _, rfl⟩
    · rw [h2, List.drop_of_length_le (by omega)]
      exact ⟨(fun m r hm => by cases hm), fun hm => by cases hm⟩
  | succ n ih =>
    intro j acc P l2 hj hP h2 hjl ha0 ha1 k hk
    obtain ⟨k, rfl⟩ : ∃ i, k = i + 1 := ⟨k - 1, by omega⟩
    have hp := pl_le h
    have hPle : P * 128 ≤ 9223372036854775808 := by
      rw [hP, ← Nat.pow_succ]
      exact Nat.le_trans (Nat.pow_le_pow_right (by decide) (show j + 1 ≤ 9 by omega)) (by decide)
    by_cases hl : j < l.length
    · have h3 : l.drop j = l[j] :: l.drop (j + 1) := List.drop_eq_getElem_cons hl
      have h4 := rd_drop h j hl
      have h5 : l.getD j 0 = l[j] := by simp [List.getD_eq_getElem?_getD, List.getElem?_eq_getElem hl]
      have hc := hB l[j] (List.getElem_mem hl)
      have hdl : (l.drop (j + 1)).length = l.length - (j + 1) := by rw [List.length_drop]
      obtain ⟨c, hcc⟩ : ∃ c, l[j] = c := ⟨_, rfl⟩
      rw [hcc] at h3 h5 hc
      have hmod : Int.tmod c 128 = c % 128 := Int.tmod_eq_emod_of_nonneg hc.1
      have hm0 : 0 ≤ c % 128 ∧ c % 128 ≤ 127 := by omega
      have hq0 : 0 ≤ (P : Int) * (c % 128) := Int.mul_nonneg (by omega) hm0.1
      have hq1 : (P : Int) * (c % 128) ≤ (P : Int) * 127 := Int.mul_le_mul_of_nonneg_left hm0.2 (by omega)
      have hv : IntKind.u64.wrap (acc + IntKind.u64.wrap ((P : Int) * IntKind.u64.wrap (Int.tmod c 128))) = acc + (P : Int) * (c % 128) := by
        rw [hmod, u_in (n := c % 128) (by omega) (by omega), u_in hq0 (by omega), u_in (by omega) (by omega)]
      rw [sluiceref2_reader_raw.l0, if_pos (by omega), wrap_n (pl b l + (j : Int)) (by omega) (by omega), if_neg (by omega), if_pos (by omega), if_pos (by omega), h4, h5, hv, h2, h3, numGo]
      by_cases hlt : c < 128
      · have hcm : c % 128 = c := by omega
        rw [if_pos hlt, if_pos hlt, if_pos (show (j : Int) < 9 by omega), wrap_s (by omega), hcm]
        have fin : ∀ m r, NR.ok c.toNat (l.drop (j + 1)) = .ok m r → some (acc + (P : Int) * c, ((j + 1 : Nat) : Int), true, pl b l, wr) = some (acc + (P : Int) * (m : Int), (l.length : Int) - r.length, true, pl b l, wr) := fun m r hm => by
          injection hm with hm1 hm2
          subst hm1 hm2
          rw [hdl, show ((c.toNat : Nat) : Int) = c by omega]
          congr 2
          congr 1
          omega
        by_cases h0 : (j : Int) = 0
        · rw [if_pos h0, if_pos ⟨.inl (by omega), .inl (by omega)⟩]
          exact ⟨fin, fun hm => by cases hm⟩
        · rw [if_neg h0]
          by_cases h1 : c > 0
          · rw [if_pos h1, if_pos ⟨.inr h1, .inl (by omega)⟩]
            exact ⟨fin, fun hm => by cases hm⟩
          · rw [if_neg h1, if_neg (by omega)]
            exact ⟨(fun m r hm => by cases hm), fun _ => ⟨_, _, rfl⟩⟩
      · rw [if_neg hlt, if_neg hlt, if_neg (by omega), wrap_s (by omega), u_in (n := (P : Int) * 128) (by omega) (by omega)]
        have hI := ih (j + 1) (acc + (P : Int) * (c % 128)) (P * 128) (l.drop (j + 1)) (by omega) (by rw [Nat.pow_succ, hP]) rfl (by omega) (by omega) (by push_cast; omega) k (by omega)
        rw [show ((P * 128 : Nat) : Int) = (P : Int) * 128 by push_cast; rfl] at hI
        cases hg : numGo (j + 1) (l.drop (j + 1)) with
        | cut => exact ⟨(fun m r hm => by cases hm), fun hm => by cases hm⟩
        | bad => exact ⟨(fun m r hm => by cases hm), fun _ => hI.2 hg⟩
        | ok m' r' =>
          refine ⟨fun m r hm => ?_, fun hm => by cases hm⟩
          injection hm with hm1 hm2
          subst hm1 hm2
          rw [hI.1 m' r' hg]
          congr 2
          rw [show ((c.toNat % 128 + 128 * m' : Nat) : Int) = c % 128 + 128 * (m' : Int) by omega, Int.mul_add, ← Int.mul_assoc, Int.add_assoc]
    · rw [h2, List.drop_of_length_le (by omega)]
      exact ⟨(fun m r hm => by cases hm), fun hm => by cases hm⟩
theorem numGo_rest : ∀ (l : List Int) (k n : Nat) (r : List Int), numGo k l = .ok n r → ∃ pre, l = pre ++ r
  | [], k, n, r, h => by simp [numGo] at h
  | c :: l, k, n, r, h => by
    unfold numGo at h
    split at h
    · split at h
      · cases h; exact ⟨[c], rfl⟩
      · cases h
    · split at h
      · cases h
      · split at h
        · rename_i a b hq
          cases h
          obtain ⟨pre, rfl⟩ := numGo_rest l (k + 1) _ _ hq
          exact ⟨c :: pre, rfl⟩
        · rename_i x hx
          first | cases h | exact absurd h (hx n r)
theorem raw_f (b l : List Int) (h : ∃ pre, b = pre ++ l) (hb : b.length ≤ 9223372036854775807) (hB : IsB l) (wr : Bool) (k : Nat) (hk : 11 ≤ k) :
    (∀ m r, numGo 0 l = .ok m r → sluiceref2_reader_raw.f k b (pl b l) wr = some ((m : Int), (l.length : Int) - r.length, true, pl b l, wr)) ∧
    (numGo 0 l = .bad → ∃ x y, sluiceref2_reader_raw.f k b (pl b l) wr = some (x, y, false, pl b l, wr)) := by
  have := raw_l b l h hb hB wr 9 0 0 1 l rfl rfl rfl (Nat.zero_le _) (by omega) (by decide) k (by omega)
  refine ⟨fun m r hm => ?_, fun hm => ?_⟩
  · have h2 := this.1 m r hm
    rw [show (0 : Int) + ((1 : Nat) : Int) * (m : Int) = (m : Int) by omega] at h2
    exact h2
  · exact this.2 hm
/-- num: a number from lo to hi. -/
theorem num_f (b : List Int) (s : R Unit) (at_ : Int) (wr : Bool) (lo hi : Int) (hS : St b s at_ wr) (hb : b.length ≤ 9223372036854775807) (hB : IsB b) (h0 : 0 ≤ lo) (h1 : hi ≤ 9223372036854775807) (h2 : lo ≤ hi) (k : Nat) (hk : 11 ≤ k) :
    ∃ x at' wr' s', sluiceref2_reader_num.f k b at_ wr lo hi = some (x, at', wr') ∧ St b s' at' wr' ∧ Post (numP lo hi) s x s' ∧ 0 ≤ x ∧ x ≤ hi := by
  unfold sluiceref2_reader_num.f
  cases s with
  | bad n =>
    obtain ⟨rfl, ha, hn⟩ := hS
    rw [if_pos rfl]
    exact ⟨0, at_, true, .bad n, rfl, ⟨rfl, ha, hn⟩, rfl, by omega, by omega⟩
  | ok u l =>
    obtain ⟨rfl, hp, rfl⟩ := hS
    have hBl : IsB l := by obtain ⟨pre, rfl⟩ := hp; exact (IsB.append.mp hB).2
    have hle := pl_le hp
    rw [if_neg (by decide), cut_f b l hp hb hBl false k hk, Option.bind_some]
    have hr := raw_f b l hp hb hBl false k hk
    cases hg : numGo 0 l with
    | cut =>
      rw [if_pos (by rfl)]
      have hn : numP lo hi l = .bad 0 := by unfold numP rawP; rw [hg]
      refine ⟨0, b.length, true, .bad 0, rfl, ⟨rfl, by omega, Nat.zero_le _⟩, ?_, by omega, by omega⟩
      simp only [Post]
      rw [hn]
    | bad =>
      obtain ⟨x, y, he⟩ := hr.2 hg
      rw [if_neg (by simp [isCut])]
      simp only
      rw [he, Option.bind_some, if_neg (by simp)]
      have hn : numP lo hi l = .bad l.length := by unfold numP rawP; rw [hg]
      refine ⟨0, pl b l, true, .bad l.length, rfl, ⟨rfl, rfl, by omega⟩, ?_, by omega, by omega⟩
      simp only [Post]
      rw [hn]
    | ok m r =>
      have he := hr.1 m r hg
      have hm := numGo_one l 0 m r (by omega) hBl hg
      have hm2 : m < 18446744073709551616 := hm.2.1
      rw [if_neg (by simp [isCut])]
      simp only
      rw [he, Option.bind_some, if_pos rfl]
      simp only
      rw [u_in (n := hi) (by omega) (by omega), u_in h0 (by omega)]
      by_cases hhi : (m : Int) > hi
      · have hn : numP lo hi l = .bad l.length := by unfold numP rawP; rw [hg]; simp only; rw [if_neg (by omega)]
        rw [if_pos hhi]
        refine ⟨0, pl b l, true, .bad l.length, rfl, ⟨rfl, rfl, by omega⟩, ?_, by omega, by omega⟩
        simp only [Post]
        rw [hn]
      · rw [if_neg hhi]
        by_cases hlo : (m : Int) < lo
        · have hn : numP lo hi l = .bad l.length := by unfold numP rawP; rw [hg]; simp only; rw [if_neg (by omega)]
          rw [if_pos hlo]
          refine ⟨0, pl b l, true, .bad l.length, rfl, ⟨rfl, rfl, by omega⟩, ?_, by omega, by omega⟩
          simp only [Post]
          rw [hn]
        · have hn : numP lo hi l = .ok (m : Int) r := by unfold numP rawP; rw [hg]; simp only; rw [if_pos (by omega)]
          rw [if_neg hlo]
          obtain ⟨q, hq⟩ := numGo_rest l 0 m r hg
          obtain ⟨pre, hpre⟩ := hp
          have hrl : r.length ≤ l.length := by rw [hq]; simp
          rw [wrap_n (m : Int) (by omega) (by omega), wrap_n (pl b l + ((l.length : Int) - r.length)) (by omega) (by omega)]
          refine ⟨(m : Int), _, false, .ok () r, rfl, ⟨rfl, ⟨pre ++ q, by rw [List.append_assoc, ← hq]; exact hpre⟩, by unfold pl; omega⟩, ?_, by omega, by omega⟩
          simp only [Post]
          rw [hn]
          exact ⟨rfl, rfl⟩
/-- sign: a number with a sign. -/
theorem sign_f (b : List Int) (s : R Unit) (at_ : Int) (wr : Bool) (hS : St b s at_ wr) (hb : b.length ≤ 9223372036854775807) (hB : IsB b) (k : Nat) (hk : 11 ≤ k) :
    ∃ x at' wr' s', sluiceref2_reader_sign.f k b at_ wr = some (x, at', wr') ∧ St b s' at' wr' ∧ Post signP s x s' := by
  unfold sluiceref2_reader_sign.f
  cases s with
  | bad n =>
    obtain ⟨rfl, ha, hn⟩ := hS
    rw [if_pos rfl]
    exact ⟨0, at_, true, .bad n, rfl, ⟨rfl, ha, hn⟩, rfl⟩
  | ok u l =>
    obtain ⟨rfl, hp, rfl⟩ := hS
    have hBl : IsB l := by obtain ⟨pre, rfl⟩ := hp; exact (IsB.append.mp hB).2
    have hle := pl_le hp
    rw [if_neg (by decide), cut_f b l hp hb hBl false k hk, Option.bind_some]
    have hr := raw_f b l hp hb hBl false k hk
    cases hg : numGo 0 l with
    | cut =>
      rw [if_pos (by rfl)]
      have hn : signP l = .bad 0 := by unfold signP rawP; rw [hg]
      refine ⟨0, b.length, true, .bad 0, rfl, ⟨rfl, by omega, Nat.zero_le _⟩, ?_⟩
      simp only [Post]
      rw [hn]
    | bad =>
      obtain ⟨x, y, he⟩ := hr.2 hg
      rw [if_neg (by simp [isCut])]
      simp only
      rw [he, Option.bind_some, if_neg (by simp)]
      have hn : signP l = .bad l.length := by unfold signP rawP; rw [hg]
      refine ⟨0, pl b l, true, .bad l.length, rfl, ⟨rfl, rfl, by omega⟩, ?_⟩
      simp only [Post]
      rw [hn]
    | ok m r =>
      have he := hr.1 m r hg
      have hm := numGo_one l 0 m r (by omega) hBl hg
      have hm2 : m < 18446744073709551616 := hm.2.1
      rw [if_neg (by simp [isCut])]
      simp only
      rw [he, Option.bind_some, if_pos rfl]
      simp only
      have hn : signP l = .ok (unsign m) r := by unfold signP rawP; rw [hg]
      obtain ⟨q, hq⟩ := numGo_rest l 0 m r hg
      obtain ⟨pre, hpre⟩ := hp
      have hrl : r.length ≤ l.length := by rw [hq]; simp
      have hd : Int.tdiv (m : Int) 2 = ((m / 2 : Nat) : Int) := by rw [Int.tdiv_eq_ediv_of_nonneg (by omega)]; omega
      have hmd : Int.tmod (m : Int) 2 = ((m % 2 : Nat) : Int) := by rw [Int.tmod_eq_emod_of_nonneg (by omega)]; omega
      rw [hd, hmd, u_in (n := ((m / 2 : Nat) : Int)) (by omega) (by omega), wrap_n ((m / 2 : Nat) : Int) (by omega) (by omega), wrap_n (-((m / 2 : Nat) : Int)) (by omega) (by omega), wrap_n (-((m / 2 : Nat) : Int) - 1) (by omega) (by omega), wrap_n (pl b l + ((l.length : Int) - r.length)) (by omega) (by omega)]
      have fin : ∃ x at' wr' s', some (unsign m, pl b l + ((l.length : Int) - r.length), false) = some (x, at', wr') ∧ St b s' at' wr' ∧ Post signP (.ok u l) x s' := by
        refine ⟨unsign m, _, false, .ok () r, rfl, ⟨rfl, ⟨pre ++ q, by rw [List.append_assoc, ← hq]; exact hpre⟩, by unfold pl; omega⟩, ?_⟩
        simp only [Post]
        rw [hn]
        exact ⟨rfl, rfl⟩
      by_cases h2 : m % 2 = 0
      · rw [if_pos (by omega)]
        rw [show unsign m = ((m / 2 : Nat) : Int) by unfold unsign; rw [if_pos h2]] at fin
        exact fin
      · rw [if_neg (by omega)]
        rw [show unsign m = -((m / 2 : Nat) : Int) - 1 by unfold unsign; rw [if_neg h2]] at fin
        exact fin
end Go.Proofs.Ytpgdmmjbhjbbhaa.Rf
end
section
namespace Go.Proofs.Ytpgdmmjbhjbbhaa.Rf
open Go Go.RowKit Go.Proofs.Ytpgdmmjbhjbbhaa.P Go.Proofs.Ytpgdmmjbhjbbhaa.Sp Go.Proofs.Ytpgdmmjbhjbbhaa.Vd Go.Proofs.Ytpgdmmjbhjbbhaa.En Go.Proofs.Ytpgdmmjbhjbbhaa.Wr Go.Proofs.Ytpgdmmjbhjbbhaa.Rd Go.Proofs.Ytpgdmmjbhjbbhaa.Lw Go.Proofs.YtpgdmmjbhjbbhaaW.PrintWords Go.Proofs.YtpgdmmjbhjbbhaaW.PrintLast Go.Proofs.YtpgdmmjbhjbbhaaW.PrintMore
set_option linter.unusedVariables false
set_option linter.unusedSimpArgs false
/-- What is read: short, and of bytes. -/
structure Src (b : List Int) : Prop where
  len : b.length ≤ 9223372036854775807
  isB : IsB b
/-- The reader lies at g and reads b; it stands as s says. -/
def RSt (w0 w : World) (g : Nat) (b : List Int) (s : R Unit) : Prop := ∃ at_ wr, IsS132 w0 w g b at_ wr ∧ St b s at_ wr ∧ Below w0.heap.size w0 w
theorem RSt.below {w0 w w1 : World} {g : Nat} {b : List Int} {s : R Unit} (h : RSt w0 w g b s) (hb : Below w.heap.size w w1) : RSt w0 w1 g b s := by
  obtain ⟨at_, wr, h1, h2, h3⟩ := h
  exact ⟨at_, wr, h1.below hb, h2, h3.trans (hb.mono h3.size)⟩
theorem RSt.bel {w0 w : World} {g : Nat} {b : List Int} {s : R Unit} (h : RSt w0 w g b s) : Below w0.heap.size w0 w := by
  obtain ⟨at_, wr, h1, h2, h3⟩ := h
  exact h3
theorem num_calls (w0 w : World) (g : Nat) (b : List Int) (s : R Unit) (lo hi : Int) (h0 : 0 ≤ lo) (h1 : hi ≤ 9223372036854775807) (h2 : lo ≤ hi) (hs : Src b) (h : RSt w0 w g b s) :
    Calls Try.prog 102 #[.pointer (some ⟨g, 0, none⟩), .int .i64 lo, .int .i64 hi] w fun e w' => ∃ x s', e = .returned (.int .i64 x) ∧ RSt w0 w' g b s' ∧ Post (numP lo hi) s x s' ∧ KeepBut w w' g none ∧ 0 ≤ x ∧ x ≤ hi := by
  obtain ⟨at_, wr, hI, hS, hB⟩ := h
  obtain ⟨x, at', wr', s', hf, hS', hP, hx⟩ := num_f b s at_ wr lo hi hS hs.len hs.isB h0 h1 h2 11 (Nat.le_refl _)
  refine (sluiceref2_reader_num.calls 11 g b at_ wr lo hi x at' wr' w0 w hI hB hf).mono ?_
  rintro e w' ⟨he, hI', hB', hk⟩
  exact ⟨x, s', he, ⟨at', wr', hI', hS', hB'⟩, hP, hk, hx⟩
theorem sign_calls (w0 w : World) (g : Nat) (b : List Int) (s : R Unit) (hs : Src b) (h : RSt w0 w g b s) :
    Calls Try.prog 107 #[.pointer (some ⟨g, 0, none⟩)] w fun e w' => ∃ x s', e = .returned (.int .i64 x) ∧ RSt w0 w' g b s' ∧ Post signP s x s' ∧ KeepBut w w' g none := by
  obtain ⟨at_, wr, hI, hS, hB⟩ := h
  obtain ⟨x, at', wr', s', hf, hS', hP⟩ := sign_f b s at_ wr hS hs.len hs.isB 11 (Nat.le_refl _)
  refine (sluiceref2_reader_sign.calls 11 g b at_ wr x at' wr' w0 w hI hB hf).mono ?_
  rintro e w' ⟨he, hI', hB', hk⟩
  exact ⟨x, s', he, ⟨at', wr', hI', hS', hB'⟩, hP, hk⟩
theorem two_f {b : List Int} {s : R Unit} {at_ : Int} {wr : Bool} {l1 h1 l2 h2 : Int} (hS : St b s at_ wr) (hs : Src b) (a0 : 0 ≤ l1) (a1 : h1 ≤ 9223372036854775807) (a2 : l1 ≤ h1) (b0 : 0 ≤ l2) (b1 : h2 ≤ 9223372036854775807) (b2 : l2 ≤ h2) :
    ∃ x y at' wr' s', ((sluiceref2_reader_num.f 11 b at_ wr l1 h1).bind fun p => (sluiceref2_reader_num.f 11 b p.2.1 p.2.2 l2 h2).bind fun q => some (p.1, q.1, q.2.1, q.2.2)) = some (x, y, at', wr') ∧ St b s' at' wr' ∧ Post (pairP l1 h1 l2 h2) s ⟨x, y⟩ s' := by
  obtain ⟨x, at1, wr1, s1, hf1, hS1, hP1, _⟩ := num_f b s at_ wr l1 h1 hS hs.len hs.isB a0 a1 a2 11 (Nat.le_refl _)
  obtain ⟨y, at2, wr2, s2, hf2, hS2, hP2, _⟩ := num_f b s1 at1 wr1 l2 h2 hS1 hs.len hs.isB b0 b1 b2 11 (Nat.le_refl _)
  refine ⟨x, y, at2, wr2, s2, ?_, hS2, hP1.bnd (hP2.bnd (Post.ret _ _))⟩
  rw [hf1, Option.bind_some]
  show ((sluiceref2_reader_num.f 11 b at1 wr1 l2 h2).bind _) = _
  rw [hf2, Option.bind_some]
/-- What a pair of numbers leaves. -/
def Two (w0 w : World) (g : Nat) (b : List Int) (p : Rdr S25) (s : R Unit) (e : Ending) (w' : World) : Prop :=
  ∃ x s', e = .returned (.agg #[.int .i64 x.f0, .int .i64 x.f1]) ∧ RSt w0 w' g b s' ∧ Post p s x s' ∧ KeepBut w w' g none
theorem call_calls (w0 w : World) (g : Nat) (b : List Int) (s : R Unit) (hs : Src b) (h : RSt w0 w g b s) :
    Calls Try.prog 104 #[.pointer (some ⟨g, 0, none⟩)] w (Two w0 w g b callP s) := by
  obtain ⟨at_, wr, hI, hS, hB⟩ := h
  obtain ⟨x, y, at', wr', s', hf, hS', hP⟩ := two_f (l1 := 0) (h1 := 63) (l2 := 1) (h2 := 1099511627776) hS hs (by decide) (by decide) (by decide) (by decide) (by decide) (by decide)
  refine (sluiceref2_reader_call.calls 11 g b at_ wr x y at' wr' w0 w hI hB hf).mono ?_
  rintro e w' ⟨he, hI', hB', hk⟩
  exact ⟨⟨x, y⟩, s', he, ⟨at', wr', hI', hS', hB'⟩, hP, hk⟩
/-- The end: nothing may be left. -/
def doneV (b : List Int) : R Unit → Int × Int
  | .bad n => ((b.length : Int) - n, 20)
  | .ok _ [] => (0, 0)
  | .ok _ (c :: l) => (pl b (c :: l), 20)
theorem done_calls (w0 w : World) (g : Nat) (b : List Int) (s : R Unit) (hs : Src b) (h : RSt w0 w g b s) :
    Calls Try.prog 93 #[.pointer (some ⟨g, 0, none⟩)] w fun e w' => e = .returned (.tuple #[.int .i64 (doneV b s).1, .int .i64 (doneV b s).2]) ∧ RSt w0 w' g b s ∧ KeepBut w w' g none := by
  obtain ⟨at_, wr, hI, hS, hB⟩ := h
  have hf : sluiceref2_reader_done.f b at_ wr = some ((doneV b s).1, (doneV b s).2, at_, wr) := by
    unfold sluiceref2_reader_done.f
    match s, hS with
    | .bad n, hS =>
      obtain ⟨rfl, rfl, hn⟩ := hS
      rw [if_pos rfl]
      rfl
    | .ok u [], hS =>
      obtain ⟨rfl, hp, rfl⟩ := hS
      have := pl_le hp
      simp only [List.length_nil] at this
      rw [if_neg (by decide), if_neg (by omega)]
      rfl
    | .ok u (c :: l), hS =>
      obtain ⟨rfl, hp, rfl⟩ := hS
      have := pl_le hp
      simp only [List.length_cons] at this
      rw [if_neg (by decide), if_pos (by omega)]
      rfl
  refine (sluiceref2_reader_done.calls g b at_ wr _ _ at_ wr w0 w hI hB hf).mono ?_
  rintro e w' ⟨he, hI', hB', hk⟩
  exact ⟨he, ⟨at_, wr, hI', hS, hB'⟩, hk⟩
set_option maxHeartbeats 4000000 in
set_option maxRecDepth 100000 in
theorem take_calls (w0 w : World) (g : Nat) (b : List Int) (s : R Unit) (n : Nat) (hn : n ≤ 1000000) (hs : Src b) (h : RSt w0 w g b s) :
    Calls Try.prog 103 #[.pointer (some ⟨g, 0, none⟩), .int .i64 (n : Int)] w fun e w' => ∃ x A1 c1 s', e = .returned (.slice A1 x.length c1) ∧ x.length ≤ c1 ∧ Kd.C (Kd.int .u8) w0 A1 x.length x ∧ RSt w0 w' g b s' ∧ Post (takeP n) s x s' ∧ KeepBut w w' g none ∧ x.length ≤ n := by
  have HR := Aside0.mk h
  obtain ⟨at_, wr, hI, hS, hB⟩ := h
  have HI := Aside0.mk hI
  obtain ⟨A, c, hb, ⟨hg, hcap⟩, hC⟩ := hI
  cases s with
  | bad k =>
    obtain ⟨rfl, ha, hk⟩ := hS
    have kz2 := cellS132_2 hb
    clear hb hg hcap hC hB ha hk
    go_enter Try.func103, Try.ntmps103
    go_wp2_with fail
    go_ret
    exact ⟨[], none, 0, .bad k, rfl, Nat.le_refl _, Kd.C_nil _ _, HR.out, rfl, KeepBut.refl _ _ _, Nat.zero_le _⟩
  | ok u l =>
    obtain ⟨rfl, hp, rfl⟩ := hS
    have hle := pl_le hp
    have hbl := hs.len
    have HS := Aside0.mk hp
    have HB := Aside0.mk hB
    have HC := Aside0.mk hC
    have hnI : (n : Int) ≤ 1000000 := by omega
    obtain ⟨j, hj⟩ : ∃ j, j = pl b l := ⟨_, rfl⟩
    rw [← hj] at hle hb HI
    have kz0 := cellS132_0 hb
    have kz1 := cellS132_1 hb
    have kz2 := cellS132_2 hb
    have hf1 := frozen_of_row w g 1 _ _ hb
    have HJ := Aside0.mk hj
    have hw : wrap64 ((b.length : Int) - j) = (l.length : Int) := by rw [wrap_n _ (by omega) (by omega)]; omega
    clear hp hb hC hB hj
    go_enter Try.func103, Try.ntmps103
    by_cases hsh : l.length < n
    · have HQ : Aside0 (takeP n l = .bad 0) := ⟨by unfold takeP; rw [if_pos hsh]⟩
      have hlt : (l.length : Int) < (n : Int) := by omega
      go_wp2_with fail
      go_quiet (fail)
      go_wp2_with (go_at_call 120; refine (sluiceref2_reader_short.calls g b j false b.length true w0 _ (HI.out.drewN _) (pw_below_drewN HB.out _) rfl).mono ?_; rintro e w1 ⟨rfl, hI1, hB1, hk1⟩; have HN := Aside0.mk (And.intro hI1 (And.intro hB1 hk1)); clear hI1 hB1 hk1)
      go_ret
      exact ⟨[], none, 0, .bad 0, rfl, Nat.le_refl _, Kd.C_nil _ _, ⟨_, _, HN.out.1, ⟨rfl, by omega, Nat.zero_le _⟩, HN.out.2.1⟩, by simp only [Post]; rw [HQ.out], HN.out.2.2, Nat.zero_le _⟩
    · have HQ : Aside0 (takeP n l = .ok (l.take n) (l.drop n)) := ⟨by unfold takeP; rw [if_neg hsh]⟩
      have hlt : ¬ ((l.length : Int) < (n : Int)) := by omega
      have hjn : wrap64 (j + (n : Int)) = j + (n : Int) := wrap_n _ (by omega) (by omega)
      have hcut := cut_mid (P := Try.prog) 36 5 .i64 .i64 Try.underlying36 inf8f 1 inf8s A b.length c j (j + (n : Int)) hle.1 (by omega) (by omega) hcap
      have HCUT : Aside0 ((l.take n).length = (j + (n : Int)).toNat - j.toNat ∧ (l.take n).length ≤ c - j.toNat ∧ Kd.C (Kd.int .u8) w0 (if c = j.toNat then A else A.map (·.add (j.toNat * 1))) (l.take n).length (l.take n)) := ⟨by
        obtain ⟨pre, hp⟩ := HS.out
        have hpj : j.toNat = pre.length := by rw [HJ.out]; unfold pl; rw [hp, List.length_append]; omega
        have hx : (b.take (j.toNat + n)).drop j.toNat = l.take n := by
          rw [hpj, hp, List.take_append, List.drop_append]
          simp
        have hm := Kd.C_mid (k := Kd.int .u8) (lo := j.toNat) (hi := j.toNat + n) HC.out (by omega) (by omega) hcap
        rw [hx] at hm
        have hl3 : (l.take n).length = n := by rw [List.length_take]; omega
        refine ⟨by rw [hl3]; omega, by rw [hl3]; omega, hm⟩⟩
      obtain ⟨A1, hA1⟩ : ∃ A1, A1 = (if c = j.toNat then A else A.map (·.add (j.toNat * 1))) := ⟨_, rfl⟩
      rw [← hA1] at hcut HCUT
      obtain ⟨n1, hn1⟩ : ∃ n1, n1 = (j + (n : Int)).toNat - j.toNat := ⟨_, rfl⟩
      rw [← hn1] at hcut HCUT
      obtain ⟨c1, hc1⟩ : ∃ c1, c1 = c - j.toNat := ⟨_, rfl⟩
      rw [← hc1] at hcut HCUT
      clear hA1 hn1 hc1
      go_wp2_with fail
      go_quiet (fail)
      go_wp2_with fail
      go_quiet (fail)
      go_wp2_with fail
      go_ret
      refine ⟨l.take n, A1, c1, .ok () (l.drop n), by rw [HCUT.out.1]; rfl, HCUT.out.2.1, HCUT.out.2.2, ⟨j + (n : Int), false, (HI.out.drewN _).set_1 _, ⟨rfl, ?_, by rw [HJ.out]; unfold pl; rw [List.length_drop]; omega⟩, below_set (pw_below_drewN HB.out _) (IsS132.ge HI.out)⟩, by simp only [Post]; rw [HQ.out]; exact ⟨rfl, rfl⟩, (keep_drewN (KeepBut.refl _ _ _) _).set_ _ _, List.length_take_le _ _⟩
      obtain ⟨pre, hp⟩ := HS.out
      exact ⟨pre ++ l.take n, by rw [hp, List.append_assoc, List.take_append_drop]⟩
end Go.Proofs.Ytpgdmmjbhjbbhaa.Rf
end
section
namespace Go.Proofs.Ytpgdmmjbhjbbhaa.Rf
open Go Go.RowKit Go.Proofs.Ytpgdmmjbhjbbhaa.P Go.Proofs.Ytpgdmmjbhjbbhaa.Sp Go.Proofs.Ytpgdmmjbhjbbhaa.Vd Go.Proofs.Ytpgdmmjbhjbbhaa.En Go.Proofs.Ytpgdmmjbhjbbhaa.Wr Go.Proofs.Ytpgdmmjbhjbbhaa.Lw Go.Proofs.YtpgdmmjbhjbbhaaW.PrintWords Go.Proofs.YtpgdmmjbhjbbhaaW.PrintLast Go.Proofs.YtpgdmmjbhjbbhaaW.PrintMore
open Go.Proofs.Ytpgdmmjbhjbbhaa.Rd (pl nameIn_ok nameIn_no nameIn_bad)
attribute [local go_sem] Go.Proofs.Ytpgdmmjbhjbbhaa.StrLe.leq_str Go.Proofs.Ytpgdmmjbhjbbhaa.StrLe.gtr_str
set_option linter.unusedVariables false
set_option linter.unusedSimpArgs false
theorem Post.okS {α : Type} {p : Rdr α} {s : R Unit} {x : α} {u : Unit} {r : List Int} (h : Post p s x (.ok u r)) : ∃ l, s = .ok () l ∧ p l = .ok x r := by
  cases s with
  | bad n => cases h
  | ok v l =>
    simp only [Post] at h
    cases hp : p l with
    | bad n => rw [hp] at h; cases h
    | ok y q =>
      rw [hp] at h
      simp only at h
      obtain ⟨rfl, h⟩ := h
      injection h with _ h
      subst h
      exact ⟨l, rfl, hp⟩
theorem name_bad {a : ByteArray} {m k : Nat} {s1 : R Unit} {x : List Int} (h : Post (takeP m) s1 x (.bad k)) (t : ByteArray) : Post (nameIn a m) s1 t (.bad k) := by
  cases s1 with
  | bad n => exact h
  | ok u l =>
    simp only [Post] at h ⊢
    cases hp : takeP m l with
    | bad n => rw [hp] at h; rw [nameIn_bad hp]; exact h
    | ok y q => rw [hp] at h; cases h.2
theorem name_yes {w0 w w2 w3 : World} {g : Nat} {b l x r2 : List Int} {s : R Unit} {a t : ByteArray} {m : Nat} {u : Unit} (h2 : RSt w0 w2 g b (.ok u r2)) (hb : Below w2.heap.size w2 w3) (hk : KeepBut w w2 g none) (hpp : ∀ t s', Post (nameIn a m) (.ok () l) t s' → Post (nameP a) s t s') (ht : takeP m l = .ok x r2) (hT : t = strOfNums x) (hn : nameOk x) (ha : above a t) :
    ∃ y s', Ending.returned (.string t) = .returned (.string y) ∧ RSt w0 w3 g b s' ∧ Post (nameP a) s y s' ∧ KeepBut w w3 g none :=
  ⟨t, .ok () r2, rfl, h2.below hb, hpp _ _ (by simp only [Post]; rw [hT, nameIn_ok ht ⟨hn, by rw [← hT]; exact ha⟩]; exact ⟨rfl, rfl⟩), hk.trans (KeepBut.of_below hb g none) (.inl rfl)⟩
theorem name_no {w0 w w2 w3 : World} {g : Nat} {b l x r2 : List Int} {s : R Unit} {a t : ByteArray} {m : Nat} {u : Unit} {at2 : Int} (h2 : RSt w0 w2 g b (.ok u r2)) (hI : IsS132 w0 w2 g b at2 false) (hb : Below w2.heap.size w2 w3) (hI3 : IsS132 w0 w3 g b at2 false) (hk : KeepBut w w2 g none) (hpp : ∀ t s', Post (nameIn a m) (.ok () l) t s' → Post (nameP a) s t s') (ht : takeP m l = .ok x r2) (hT : t = strOfNums x) (ha : at2 - (m : Int) = pl b l) (hl : ∃ pre, b = pre ++ l) (hn : ¬ (nameOk x ∧ above a t)) :
    ∃ y s', Ending.returned (.string t) = .returned (.string y) ∧ RSt w0 ((w3.setCell ⟨g, 1, none⟩ (.int .i64 (at2 - (m : Int)))).setCell ⟨g, 2, none⟩ (.bool true)) g b s' ∧ Post (nameP a) s y s' ∧ KeepBut w ((w3.setCell ⟨g, 1, none⟩ (.int .i64 (at2 - (m : Int)))).setCell ⟨g, 2, none⟩ (.bool true)) g none := by
  have hle := pl_le hl
  have hB : Below w0.heap.size w0 w3 := h2.bel.trans (hb.mono h2.bel.size)
  refine ⟨t, .bad l.length, rfl, ⟨_, _, (hI3.set_1 _).set_2 _, ⟨rfl, by rw [ha]; rfl, by omega⟩, below_set (below_set hB hI3.ge) hI3.ge⟩, hpp _ _ ?_, ((hk.trans (KeepBut.of_below hb g none) (.inl rfl)).set_ _ _).set_ _ _⟩
  simp only [Post]
  rw [nameIn_no ht (by rw [← hT]; exact hn)]
set_option maxHeartbeats 4000000 in
set_option maxRecDepth 100000 in
theorem name_calls (w0 w : World) (g : Nat) (b : List Int) (s : R Unit) (a : ByteArray) (hs : Src b) (h : RSt w0 w g b s) :
    Calls Try.prog 115 #[.pointer (some ⟨g, 0, none⟩), .string a] w fun e w' => ∃ x s', e = .returned (.string x) ∧ RSt w0 w' g b s' ∧ Post (nameP a) s x s' ∧ KeepBut w w' g none := by
  have HR := Aside0.mk h
  have HS := Aside0.mk hs
  clear h hs
  go_enter Try.func115, Try.ntmps115
  go_upto_region 3 with (first
    | (go_at_call 102; refine (num_calls w0 _ g b s 1 16 (by decide) (by decide) (by decide) HS.out HR.out).mono ?_; rintro e w1 ⟨x1, s1, rfl, h1, p1, k1, r0, r1⟩; obtain ⟨m, rfl⟩ : ∃ m : Nat, x1 = (m : Int) := ⟨x1.toNat, by omega⟩; have HK := Aside0.mk (And.intro h1 (And.intro p1 (And.intro k1 (And.intro r0 r1)))); clear h1 p1 k1 r0 r1)
    | (go_at_call 103; refine (take_calls w0 _ g b s1 m (by have := HK.out.2.2.2.2; omega) HS.out HK.out.1).mono ?_; rintro e w2 ⟨x, A1, c1, s2, rfl, hc1, hC, h2, p2, k2, -⟩; have hcv := Kd.C_string (P := Try.prog) (A := A1) (c := c1) Try.underlying36 Try.underlying5 Try.underlying9 (Kd.C_below hC h2.bel); obtain ⟨t, hT⟩ : ∃ t, t = strOfNums x := ⟨_, rfl⟩; rw [← hT] at hcv; have HT := Aside0.mk hT; have HK2 := Aside0.mk (And.intro h2 (And.intro p2 k2)); clear hc1 hC h2 p2 k2 hT))
  have HPP : Aside0 (∀ t s', Post (nameIn a m) s1 t s' → Post (nameP a) s t s') := ⟨fun t s' ht => by
    show Post (Sp.bnd (numP 1 16) fun n => nameIn a n.toNat) s t s'
    refine Post.bnd HK.out.2.1 ?_
    simp only [Int.toNat_natCast]
    exact ht⟩
  have HKB : Aside0 (KeepBut w w2 g none) := ⟨HK.out.2.2.1.trans HK2.out.2.2 (.inl rfl)⟩
  have HR2 := Aside0.mk HK2.out.1
  have HP2 := Aside0.mk HK2.out.2.1
  clear hcv
  obtain ⟨at2, wr2, hI, hS, hB⟩ := HK2.out.1
  have HI := Aside0.mk hI
  obtain ⟨A, c, hb, ⟨hg, hcap⟩, hC⟩ := hI
  cases s2 with
  | bad k =>
    obtain ⟨rfl, ha, hk⟩ := hS
    have kz2 := cellS132_2 hb
    clear hb hg hcap hC hB ha hk
    go_wp2_with fail
    go_ret
    exact ⟨_, .bad k, rfl, HR2.out, HPP.out _ _ (name_bad HP2.out _), HKB.out⟩
  | ok u r2 =>
    obtain ⟨rfl, hp, hat⟩ := hS
    obtain ⟨l, rfl, ht⟩ := HP2.out.okS
    have hx : x = l.take m ∧ r2 = l.drop m ∧ m ≤ l.length := by
      unfold takeP at ht
      split at ht
      · cases ht
      · injection ht with h1 h2
        exact ⟨h1.symm, h2.symm, by omega⟩
    have hbl : IsB l := by
      obtain ⟨at1, wr1, _, hS1, _⟩ := HK.out.1
      obtain ⟨_, ⟨pre, hpre⟩, _⟩ := hS1
      have := HS.out.isB
      rw [hpre] at this
      exact (IsB.append.mp this).2
    have hbx := Rd.takeP_isB ht hbl
    have hnb : nB t = dcd (nameOk x) := by unfold nB; rw [HT.out, bytesOf_strOf hbx]
    have HX : Aside0 (bytesOf t = x) := ⟨by rw [HT.out, bytesOf_strOf hbx]⟩
    have hr2 : r2.length + m = l.length := by rw [hx.2.1, List.length_drop]; omega
    have hle := pl_le hp
    have hbl2 := HS.out.len
    have hm := HK.out.2.2.2.2
    have hw : wrap64 (at2 - (m : Int)) = at2 - (m : Int) := wrap_n _ (by omega) (by rw [hat]; omega)
    have HA : Aside0 (at2 - (m : Int) = pl b l) := ⟨by rw [hat]; unfold pl; omega⟩
    have HL : Aside0 (takeP m l = .ok x r2) := ⟨ht⟩
    have HLL : Aside0 (∃ pre, b = pre ++ l) := ⟨by obtain ⟨at1, wr1, _, hS1, _⟩ := HK.out.1; exact hS1.2.1⟩
    have kz2 := cellS132_2 hb
    clear hx hbl hbx hr2 hle hbl2 hm hat hp ht hb hg hcap hC hB
    by_cases hn : nameOk x
    · have hn1 : nB t = true := by rw [hnb]; exact dcd_pos hn
      have HN := Aside0.mk hn
      clear hnb hn
      cases hne : a.toList.isEmpty
      case true =>
        go_wp2_with (go_at_call 49; refine (rname_calls _ t).mono ?_; rintro e w3 ⟨rfl, hb⟩; rw [hn1]; have HI3 := Aside0.mk (HI.out.below hb); have HB3 := Aside0.mk hb; obtain ⟨A_, c_, hb3, hg3, hC3⟩ := HI3.out; have kz1 := cellS132_1 hb3; have kz3 := cellS132_2 hb3; have hf1 := blk_frozen hb3 1; have hf2 := blk_frozen hb3 2; clear hb hb3 hg3 hC3)
        go_ret
        exact name_yes HR2.out HB3.out HKB.out HPP.out HL.out HT.out HN.out (by have h1 : nameOk (bytesOf t) := (by rw [HX.out]; exact HN.out); have h2 := above_nil h1; unfold above at h2 ⊢; rw [List.isEmpty_iff.mp hne]; rw [show (⟨#[]⟩ : ByteArray).toList = [] by simp] at h2; exact h2)
      case false =>
        by_cases hab : Go.Op.bytesLess a.toList t.toList = true
        · go_wp2_with (go_at_call 49; refine (rname_calls _ t).mono ?_; rintro e w3 ⟨rfl, hb⟩; rw [hn1]; have HI3 := Aside0.mk (HI.out.below hb); have HB3 := Aside0.mk hb; obtain ⟨A_, c_, hb3, hg3, hC3⟩ := HI3.out; have kz1 := cellS132_1 hb3; have kz3 := cellS132_2 hb3; have hf1 := blk_frozen hb3 1; have hf2 := blk_frozen hb3 2; clear hb hb3 hg3 hC3)
          go_ret
          exact name_yes HR2.out HB3.out HKB.out HPP.out HL.out HT.out HN.out hab
        · have hab : Go.Op.bytesLess a.toList t.toList = false := by simpa using hab
          go_wp2_with (go_at_call 49; refine (rname_calls _ t).mono ?_; rintro e w3 ⟨rfl, hb⟩; rw [hn1]; have HI3 := Aside0.mk (HI.out.below hb); have HB3 := Aside0.mk hb; obtain ⟨A_, c_, hb3, hg3, hC3⟩ := HI3.out; have kz1 := cellS132_1 hb3; have kz3 := cellS132_2 hb3; have hf1 := blk_frozen hb3 1; have hf2 := blk_frozen hb3 2; clear hb hb3 hg3 hC3)
          go_ret
          exact name_no HR2.out HI.out HB3.out HI3.out HKB.out HPP.out HL.out HT.out HA.out HLL.out (fun h => by have h2 : Go.Op.bytesLess a.toList t.toList = true := h.2; rw [hab] at h2; cases h2)
    · have hn1 : nB t = false := by rw [hnb]; exact dcd_neg hn
      have HN := Aside0.mk hn
      clear hnb hn
      go_wp2_with (go_at_call 49; refine (rname_calls _ t).mono ?_; rintro e w3 ⟨rfl, hb⟩; rw [hn1]; have HI3 := Aside0.mk (HI.out.below hb); have HB3 := Aside0.mk hb; obtain ⟨A_, c_, hb3, hg3, hC3⟩ := HI3.out; have kz1 := cellS132_1 hb3; have kz3 := cellS132_2 hb3; have hf1 := blk_frozen hb3 1; have hf2 := blk_frozen hb3 2; clear hb hb3 hg3 hC3)
      go_ret
      exact name_no HR2.out HI.out HB3.out HI3.out HKB.out HPP.out HL.out HT.out HA.out HLL.out (fun h => HN.out h.1)
end Go.Proofs.Ytpgdmmjbhjbbhaa.Rf
end
section
namespace Go.Proofs.Ytpgdmmjbhjbbhaa.Rf
open Go Go.RowKit Go.Proofs.Ytpgdmmjbhjbbhaa.P Go.Proofs.Ytpgdmmjbhjbbhaa.Sp Go.Proofs.Ytpgdmmjbhjbbhaa.Vd Go.Proofs.Ytpgdmmjbhjbbhaa.En Go.Proofs.Ytpgdmmjbhjbbhaa.Wr Go.Proofs.Ytpgdmmjbhjbbhaa.Lw Go.Proofs.YtpgdmmjbhjbbhaaW.PrintWords Go.Proofs.YtpgdmmjbhjbbhaaW.PrintLast Go.Proofs.YtpgdmmjbhjbbhaaW.PrintMore
open Go.Proofs.Ytpgdmmjbhjbbhaa.Rd (pl setRow_far setRow_blk)
set_option linter.unusedVariables false
set_option linter.unusedSimpArgs false
theorem IsS_heap {w0 W W1 : World} {g : Nat} {f0 : List Int} {f1 : Int} {f2 : Bool} (h : IsS132 w0 W g f0 f1 f2) (hq : W1.heap[g]? = W.heap[g]?) : IsS132 w0 W1 g f0 f1 f2 := by
  obtain ⟨A0, c0, hb, hg, hr0⟩ := h
  exact ⟨A0, c0, hq.trans hb, hg, hr0⟩
theorem RSt.lt {w0 w : World} {g : Nat} {b : List Int} {s : R Unit} (h : RSt w0 w g b s) : g < w.heap.size := by
  obtain ⟨at_, wr, h1, h2, h3⟩ := h
  exact h1.lt
theorem RSt.al {w0 w : World} {g : Nat} {b : List Int} {s : R Unit} (h : RSt w0 w g b s) (o : Obj) : RSt w0 (w.alloc o) g b s := h.below (below_alloc (Below.refl _ _) o)
theorem RSt.other {w0 w : World} {g : Nat} {b : List Int} {s : R Unit} (h : RSt w0 w g b s) {k : Nat} (hk : k ≠ g) (hg : w0.heap.size ≤ k) (j : Nat) (v : Value) : RSt w0 (w.setCell ⟨k, j, none⟩ v) g b s := by
  obtain ⟨at_, wr, h1, h2, h3⟩ := h
  exact ⟨at_, wr, h1.far (fun e => hk e.symm) v, h2, below_set h3 hg⟩
theorem RSt.row {w0 w : World} {g : Nat} {b : List Int} {s : R Unit} (h : RSt w0 w g b s) {k : Nat} (hk : k ≠ g) (hg : w0.heap.size ≤ k) (cs : Array Value) : RSt w0 (w.setRow k cs) g b s := by
  obtain ⟨at_, wr, h1, h2, h3⟩ := h
  exact ⟨at_, wr, IsS_heap h1 (setRow_far (fun e => hk e.symm) cs), h2, below_setRow h3 hg cs⟩
theorem keep_row {w w1 : World} {g k : Nat} (h : KeepBut w w1 g none) (hk : w.heap.size ≤ k) (cs : Array Value) : KeepBut w (w1.setRow k cs) g none :=
  ⟨by rw [size_setRow]; exact h.1, fun i hi h1 h2 => (setRow_far (by omega) cs).trans (h.2 i hi h1 h2)⟩
theorem keep_then {w w1 w2 : World} {g : Nat} (h : KeepBut w w1 g none) (k : KeepBut w1 w2 g none) : KeepBut w w2 g none := h.trans k (.inl rfl)
theorem kb1 {w w1 : World} {g k : Nat} {o : Obj} (h : KeepBut w w1 g none) (hk : k ≠ g) (hb : w.heap[k]? = some o) : w1.heap[k]? = some o := h.blk hb hk (by simp)
/-- A block's rows behind a store. -/
theorem blk_upd {w : World} {k j : Nat} {t : TypeId} {cs cs2 : Array Value} {v : Value} (h : w.heap[k]? = some (.cells cs t (0, 0))) (hc : cs.setIfInBounds j v = cs2) : (w.setCell ⟨k, j, none⟩ v).heap[k]? = some (.cells cs2 t (0, 0)) := by
  subst hc
  simpa using blk_set h j v
def Oc (k : Int) (s : ByteArray) (a b : Int) : Array Value := #[.int .i64 k, .string s, .int .i64 a, .int .i64 b]
set_option maxHeartbeats 4000000 in
set_option maxRecDepth 100000 in
theorem op_calls (w0 w : World) (g : Nat) (b : List Int) (s : R Unit) (hs : Src b) (h : RSt w0 w g b s) :
    Calls Try.prog 105 #[.pointer (some ⟨g, 0, none⟩)] w fun e w' => ∃ x : Sp.Op, ∃ s', e = .returned (.agg #[.int .i64 x.kind, .string x.name, .int .i64 x.a, .int .i64 x.b]) ∧ RSt w0 w' g b s' ∧ Post opP s x s' ∧ KeepBut w w' g none := by
  have HS := Aside0.mk hs
  obtain ⟨wa, hwa⟩ : ∃ wa, wa = w.alloc (.cells #[.int .i64 0, .string ⟨#[]⟩, .int .i64 0, .int .i64 0] 29 (0, 0)) := ⟨_, rfl⟩
  have HWA := Aside0.mk hwa
  have HN : Aside0 (w.heap.size ≠ g ∧ w0.heap.size ≤ w.heap.size) := ⟨fun e => by have := h.lt; omega, h.bel.size⟩
  have H0 : Aside0 (RSt w0 wa g b s ∧ KeepBut w wa g none ∧ wa.heap[w.heap.size]? = some (.cells #[.int .i64 0, .string ⟨#[]⟩, .int .i64 0, .int .i64 0] 29 (0, 0)) ∧ wa.heap.size = w.heap.size + 1) := ⟨by rw [hwa]; exact ⟨h.al _, KeepBut.of_below (al_below w _) _ _, heap_alloc_new w _, by simp⟩⟩
  clear hs h hwa
  have hu := Try.underlying29
  go_enter Try.func105, Try.ntmps105
  go_upto_region 1 with fail
  rw [← HWA.out]
  go_upto_region 2 with (first
    | (go_at_call 102; refine (num_calls w0 _ g b s 1 11 (by decide) (by decide) (by decide) HS.out H0.out.1).mono ?_; rintro e w1 ⟨x, s1, rfl, h1, p1, k1, -, -⟩; have H1 := Aside0.mk (And.intro h1 (And.intro p1 (And.intro (keep_then H0.out.2.1 k1) (And.intro (kb1 k1 HN.out.1 H0.out.2.2.1) (show w.heap.size < w1.heap.size from by have := k1.1; have := H0.out.2.2.2; omega))))); clear h1 p1 k1)
    | ((with_reducible refine gate_dst (N := 3) rfl ?_); refine box_event ?hg (N := 3) ?hd (cs := #[.int .i64 0, .string ⟨#[]⟩, .int .i64 0, .int .i64 0]) (t := 29) ?hr ?_; (case hd => rfl); (case hg => rfl); (case hr => first | (go_simp; done) | (go_simp; rfl)); intro gb hg w2 hbox hb; have HG : Aside0 (w.heap.size < gb ∧ gb ≠ g) := ⟨by rw [hg]; exact H1.out.2.2.2.2, fun e => by have := H1.out.1.lt; omega⟩; have H2 := Aside0.mk (And.intro (H1.out.1.below hb) (And.intro (keep_then H1.out.2.2.1 (KeepBut.of_below hb _ _)) (And.intro (blk_keep hb H1.out.2.2.2.1) hbox))); clear hg hb hbox; go_loud (refine wpList_store_row rfl 29 (.tmp 3) (.tmp 6) rfl gb #[.int .i64 x, .string ⟨#[]⟩, .int .i64 0, .int .i64 0] (by rfl) (by rfl) 29 _ H2.out.2.2.2 inf29 rfl (by simp [Value.oneCell']) ?_)))
  obtain ⟨w3, hw3⟩ : ∃ w3, w3 = w2.setRow gb #[.int .i64 x, .string ⟨#[]⟩, .int .i64 0, .int .i64 0] := ⟨_, rfl⟩
  have HGE : Aside0 (w0.heap.size ≤ gb) := ⟨by have := HN.out.2; have := HG.out.1; omega⟩
  have H3 : Aside0 (RSt w0 w3 g b s1 ∧ KeepBut w w3 g none ∧ w3.heap[w.heap.size]? = some (.cells (Oc 0 ⟨#[]⟩ 0 0) 29 (0, 0)) ∧ w3.heap[gb]? = some (.cells (Oc x ⟨#[]⟩ 0 0) 29 (0, 0))) := ⟨by
    rw [hw3]
    exact ⟨H2.out.1.row HG.out.2 HGE.out _, keep_row H2.out.2.1 (Nat.le_of_lt HG.out.1) _, (setRow_far (by have := HG.out.1; omega) _).trans H2.out.2.2.1, setRow_blk H2.out.2.2.2 _⟩⟩
  have HP1 := Aside0.mk H1.out.2.1
  (try simp only [Act.put, List.setIfInBounds_toArray, List.set_cons_zero, List.set_cons_succ])
  rw [← hw3]
  clear hw3 H1 H2
  go_wp2_with (first
    | (go_at_call 107; refine (sign_calls w0 _ g b s3 HS.out (H5.out.1.other HG.out.2 HGE.out 2 _)).mono ?_; rintro e w6 ⟨b2, s4, rfl, h1, p1, k1⟩; have H6 := Aside0.mk (And.intro h1 (And.intro p1 (And.intro (keep_then (keep_far H5.out.2.2.1 (p := ⟨gb, 2, none⟩) (Nat.le_of_lt HG.out.1) (.int .i64 a)) k1) (And.intro (kb1 k1 HN.out.1 (blk_far H5.out.2.2.2.1 (Nat.ne_of_lt HG.out.1) _)) (kb1 k1 HG.out.2 (blk_upd (cs2 := Oc x t a 0) H5.out.2.2.2.2 rfl)))))); clear h1 p1 k1 kc kf; have kc : w6.cell? ⟨gb, 3, none⟩ = some (.int .i64 0) := (blk_cell H6.out.2.2.2.2 3).trans rfl; have kf := blk_frozen H6.out.2.2.2.2 3)
    | (go_at_call 107; refine (sign_calls w0 _ g b s2 HS.out (H4.out.1.other HG.out.2 HGE.out 1 _)).mono ?_; rintro e w5 ⟨a, s3, rfl, h1, p1, k1⟩; have H5 := Aside0.mk (And.intro h1 (And.intro p1 (And.intro (keep_then (keep_far H4.out.2.2.1 (p := ⟨gb, 1, none⟩) (Nat.le_of_lt HG.out.1) (.string t)) k1) (And.intro (kb1 k1 HN.out.1 (blk_far H4.out.2.2.2.1 (Nat.ne_of_lt HG.out.1) _)) (kb1 k1 HG.out.2 (blk_upd (cs2 := Oc x t 0 0) H4.out.2.2.2.2 rfl)))))); clear h1 p1 k1 kc kf; have kc : w5.cell? ⟨gb, 2, none⟩ = some (.int .i64 0) := (blk_cell H5.out.2.2.2.2 2).trans rfl; have kf := blk_frozen H5.out.2.2.2.2 2)
    | (go_at_call 115; refine (name_calls w0 _ g b s1 ⟨#[]⟩ HS.out H3.out.1).mono ?_; rintro e w4 ⟨t, s2, rfl, h1, p1, k1⟩; have H4 := Aside0.mk (And.intro h1 (And.intro p1 (And.intro (keep_then H3.out.2.1 k1) (And.intro (kb1 k1 HN.out.1 H3.out.2.2.1) (kb1 k1 HG.out.2 H3.out.2.2.2))))); clear h1 p1 k1; have kc : w4.cell? ⟨gb, 1, none⟩ = some (.string ⟨#[]⟩) := (blk_cell H4.out.2.2.2.2 1).trans rfl; have kf := blk_frozen H4.out.2.2.2.2 1)
    | ((with_reducible refine gate_dst (N := 16) rfl ?_); refine wpList_load_row rfl 29 (.tmp 3) rfl gb (by rfl) 29 (Oc x t a b2) (0, 0) _ (blk_upd (cs2 := Oc x t a b2) H6.out.2.2.2.2 rfl) hu rfl inf29 ?_; go_loud (refine wpList_store_row rfl 29 (.tmp 2) (.tmp 16) rfl w.heap.size (Oc x t a b2) (by rfl) (by rfl) 29 _ (blk_far H6.out.2.2.2.1 (Nat.ne_of_lt HG.out.1) _) inf29 rfl (by simp [Oc, Value.oneCell']) ?_)))
  have HX : ((w6.setCell ⟨gb, 3, none⟩ (.int .i64 b2)).setRow w.heap.size (Oc x t a b2)).heap[w.heap.size]? = some (.cells (Oc x t a b2) 29 (0, 0)) := setRow_blk (blk_far H6.out.2.2.2.1 (Nat.ne_of_lt HG.out.1) _) _
  refine bodyPost_ret (results_cell_row rfl _ _ w.heap.size 29 _ (0, 0) _ (by rfl) HX hu rfl inf29) rfl ?_
  exact ⟨⟨x, t, a, b2⟩, s4, rfl, (H6.out.1.other HG.out.2 HGE.out 3 _).row HN.out.1 HN.out.2 _, HP1.out.bnd (H4.out.2.1.bnd (H5.out.2.1.bnd (H6.out.2.1.bnd (Post.ret _ _)))), keep_row (keep_far H6.out.2.2.1 (p := ⟨gb, 3, none⟩) (Nat.le_of_lt HG.out.1) _) (Nat.le_refl _) _⟩
end Go.Proofs.Ytpgdmmjbhjbbhaa.Rf
end
section
namespace Go.Proofs.Ytpgdmmjbhjbbhaa.Rf
open Go Go.RowKit Go.Proofs.Ytpgdmmjbhjbbhaa.P Go.Proofs.Ytpgdmmjbhjbbhaa.Sp Go.Proofs.Ytpgdmmjbhjbbhaa.Vd Go.Proofs.Ytpgdmmjbhjbbhaa.En Go.Proofs.Ytpgdmmjbhjbbhaa.Wr Go.Proofs.Ytpgdmmjbhjbbhaa.Lw Go.Proofs.YtpgdmmjbhjbbhaaW.PrintWords Go.Proofs.YtpgdmmjbhjbbhaaW.PrintLast Go.Proofs.YtpgdmmjbhjbbhaaW.PrintMore
open Go.Proofs.Ytpgdmmjbhjbbhaa.Rd (pl In setRow_far setRow_blk CVc OVc DecQP results_two_two blk_as)
set_option linter.unusedVariables false
set_option linter.unusedSimpArgs false
/-- What the end says, and what is read in whole. -/
theorem done_whole {α : Type} {p : Rdr α} {b : List Int} {x : α} {s : R Unit} (h : Post p (.ok () b) x s) (z : α) : (doneV b s = (0, 0) ∧ whole z p b = (x, 0, 0)) ∨ ∃ pt, doneV b s = (pt, 20) ∧ whole z p b = (z, pt, 20) := by
  simp only [Post] at h
  unfold whole
  cases hp : p b with
  | bad n =>
    rw [hp] at h
    subst h
    exact .inr ⟨_, rfl, rfl⟩
  | ok y r =>
    rw [hp] at h
    simp only at h
    obtain ⟨rfl, rfl⟩ := h
    cases r with
    | nil => exact .inl ⟨rfl, rfl⟩
    | cons c l =>
      refine .inr ⟨_, rfl, ?_⟩
      simp only [pl, List.length_cons]
      push_cast
      rfl
/-- The reader as it begins. -/
theorem RSt.new {w W : World} {A : Option Addr} {c : Nat} {b : List Int} (hB : Below w.heap.size w W) (hc : b.length ≤ c) (hC : Kd.C (Kd.int .u8) w A b.length b) {g : Nat} {W1 : World} (hb : W1.heap[g]? = some (.cells #[.slice A b.length c, .int .i64 0, .bool false] 132 (0, 0))) (hg : g = W.heap.size) (h1 : Below W.heap.size W W1) : RSt w W1 g b (.ok () b) :=
  ⟨0, false, ⟨A, c, hb, ⟨by rw [hg]; exact hB.size, hc⟩, hC⟩, ⟨rfl, ⟨[], rfl⟩, by unfold pl; omega⟩, hB.trans (h1.mono hB.size)⟩
theorem blk_is {w : World} {g : Nat} {t : TypeId} {cs cs2 : Array Value} (h : w.heap[g]? = some (.cells cs t (0, 0))) (e : cs = cs2) : w.heap[g]? = some (.cells cs2 t (0, 0)) := e ▸ h
set_option maxHeartbeats 4000000 in
set_option maxRecDepth 100000 in
theorem rdecreq_calls (w : World) (A : Option Addr) (c : Nat) (b : List Int) (hi : In w A c b) :
    Calls Try.prog 73 #[.slice A b.length c] w fun e w' => DecQP w (whole (z25, zOp) reqP b) e w' := by
  have HI := Aside0.mk hi
  have HS : Aside0 (Src b) := ⟨⟨hi.len, hi.isB⟩⟩
  obtain ⟨wa, hwa⟩ : ∃ wa, wa = (w.alloc (.cells #[.int .i64 0, .int .i64 0] 27 (0, 0))).alloc (.cells #[.int .i64 0, .string ⟨#[]⟩, .int .i64 0, .int .i64 0] 29 (0, 0)) := ⟨_, rfl⟩
  have HWA := Aside0.mk hwa
  have HB : Aside0 (Below w.heap.size w wa ∧ wa.heap.size = w.heap.size + 1 + 1 ∧ wa.heap[w.heap.size]? = some (.cells (CVc z25) 27 (0, 0)) ∧ wa.heap[w.heap.size + 1]? = some (.cells (OVc zOp) 29 (0, 0))) := ⟨by
    rw [hwa]
    refine ⟨below_al2 w _ _, by simp, (Below.heap_alloc _ _ _ (by simp)).trans (heap_alloc_new w _), ?_⟩
    have := heap_alloc_new (w.alloc (.cells #[.int .i64 0, .int .i64 0] 27 (0, 0))) (.cells #[.int .i64 0, .string ⟨#[]⟩, .int .i64 0, .int .i64 0] 29 (0, 0))
    simpa [OVc, zOp, eB] using this⟩
  have hu29 := Try.underlying29
  have hu27 := Try.underlying27
  have hne : w.heap.size ≠ w.heap.size + 1 := by omega
  clear hwa hi
  go_enter Try.func73, Try.ntmps73
  go_upto_region 1 with fail
  rw [← HWA.out]
  go_upto_region 2 with ((with_reducible refine gate_dst (N := 13) rfl ?_); refine box_event ?hg (N := 13) ?hd (cs := #[.slice A b.length c, .int .i64 0, .bool false]) (t := 132) ?hr ?_; (case hd => rfl); (case hg => rfl); (case hr => first | (go_simp; done) | (go_simp; rfl)); intro g hg w1 hbox hb; have H1 : Aside0 (RSt w w1 g b (.ok () b) ∧ w1.heap[w.heap.size]? = some (.cells (CVc z25) 27 (0, 0)) ∧ w1.heap[w.heap.size + 1]? = some (.cells (OVc zOp) 29 (0, 0)) ∧ w.heap.size + 1 < g ∧ g < w1.heap.size) := ⟨RSt.new HB.out.1 HI.out.cap HI.out.row hbox hg hb, blk_keep hb HB.out.2.2.1, blk_keep hb HB.out.2.2.2, by rw [hg, HB.out.2.1]; omega, blk_lt hbox⟩; clear hg hbox hb)
  have HN : Aside0 (w.heap.size ≠ g ∧ w.heap.size + 1 ≠ g) := ⟨by have := H1.out.2.2.2.1; omega⟩
  go_upto_region 3 with (first
    | (go_at_call 104; refine (call_calls w _ g b _ HS.out H1.out.1).mono ?_; rintro e w2 ⟨x, s1, rfl, h1, p1, k1⟩; have H2 : Aside0 (RSt w w2 g b s1 ∧ Post callP (.ok () b) x s1 ∧ w2.heap[w.heap.size]? = some (.cells (CVc z25) 27 (0, 0)) ∧ w2.heap[w.heap.size + 1]? = some (.cells (OVc zOp) 29 (0, 0))) := ⟨h1, p1, kb1 k1 HN.out.1 H1.out.2.1, kb1 k1 HN.out.2 H1.out.2.2.1⟩; clear h1 p1 k1)
    | ((with_reducible refine gate_dst (N := 7) rfl ?_); refine box_event ?hg (N := 7) ?hd (cs := #[.int .i64 0, .int .i64 0]) (t := 27) ?hr ?_; (case hd => rfl); (case hg => rfl); (case hr => first | (go_simp; done) | (go_simp; rfl)); intro gc hg w3 hbox hb; have HG : Aside0 (w.heap.size + 1 < gc ∧ gc ≠ g ∧ w.heap.size ≤ gc) := ⟨by have := H1.out.2.2.2.1; have := H2.out.1.lt; omega⟩; have H3 := Aside0.mk (And.intro (H2.out.1.below hb) (And.intro (blk_keep hb H2.out.2.2.1) (And.intro (blk_keep hb H2.out.2.2.2) hbox))); clear hg hb hbox; go_loud (refine wpList_store_row rfl 27 (.tmp 7) (.tmp 15) rfl gc (CVc x) (by rfl) (by rfl) 27 _ H3.out.2.2.2 inf27 rfl (by simp [CVc, Value.oneCell']) ?_)))
  obtain ⟨w4, hw4⟩ : ∃ w4, w4 = w3.setRow gc (CVc x) := ⟨_, rfl⟩
  have H4 : Aside0 (RSt w w4 g b s1 ∧ w4.heap[w.heap.size]? = some (.cells (CVc z25) 27 (0, 0)) ∧ w4.heap[w.heap.size + 1]? = some (.cells (OVc zOp) 29 (0, 0)) ∧ w4.heap[gc]? = some (.cells (CVc x) 27 (0, 0))) := ⟨by
    rw [hw4]
    exact ⟨H3.out.1.row HG.out.2.1 HG.out.2.2 _, (setRow_far (by have := HG.out.1; omega) _).trans H3.out.2.1, (setRow_far (by have := HG.out.1; omega) _).trans H3.out.2.2.1, setRow_blk H3.out.2.2.2 _⟩⟩
  have HP1 := Aside0.mk H2.out.2.1
  (try simp only [Act.put, List.setIfInBounds_toArray, List.set_cons_zero, List.set_cons_succ])
  rw [← hw4]
  clear hw4 H2 H3 H1
  go_upto_region 4 with (first
    | (go_at_call 105; refine (op_calls w _ g b _ HS.out H4.out.1).mono ?_; rintro e w5 ⟨o, s2, rfl, h1, p1, k1⟩; have H5 : Aside0 (RSt w w5 g b s2 ∧ Post opP s1 o s2 ∧ w5.heap[w.heap.size]? = some (.cells (CVc z25) 27 (0, 0)) ∧ w5.heap[w.heap.size + 1]? = some (.cells (OVc zOp) 29 (0, 0)) ∧ w5.heap[gc]? = some (.cells (CVc x) 27 (0, 0))) := ⟨h1, p1, kb1 k1 HN.out.1 H4.out.2.1, kb1 k1 HN.out.2 H4.out.2.2.1, kb1 k1 HG.out.2.1 H4.out.2.2.2⟩; clear h1 p1 k1)
    | ((with_reducible refine gate_dst (N := 8) rfl ?_); refine box_event ?hg (N := 8) ?hd (cs := #[.int .i64 0, .string ⟨#[]⟩, .int .i64 0, .int .i64 0]) (t := 29) ?hr ?_; (case hd => rfl); (case hg => rfl); (case hr => first | (go_simp; done) | (go_simp; rfl)); intro gd hg w6 hbox hb; have HG2 : Aside0 (gc < gd ∧ gd ≠ g) := ⟨by rw [hg]; exact blk_lt H5.out.2.2.2.2, by have := H5.out.1.lt; omega⟩; have H6 := Aside0.mk (And.intro (H5.out.1.below hb) (And.intro (blk_keep hb H5.out.2.2.1) (And.intro (blk_keep hb H5.out.2.2.2.1) (And.intro (blk_keep hb H5.out.2.2.2.2) hbox)))); clear hg hb hbox; go_loud (refine wpList_store_row rfl 29 (.tmp 8) (.tmp 17) rfl gd (OVc o) (by rfl) (by rfl) 29 _ H6.out.2.2.2.2 inf29 rfl (by simp [OVc, Value.oneCell']) ?_)))
  obtain ⟨w7, hw7⟩ : ∃ w7, w7 = w6.setRow gd (OVc o) := ⟨_, rfl⟩
  have H7 : Aside0 (RSt w w7 g b s2 ∧ w7.heap[w.heap.size]? = some (.cells (CVc z25) 27 (0, 0)) ∧ w7.heap[w.heap.size + 1]? = some (.cells (OVc zOp) 29 (0, 0)) ∧ w7.heap[gc]? = some (.cells (CVc x) 27 (0, 0)) ∧ w7.heap[gd]? = some (.cells (OVc o) 29 (0, 0))) := ⟨by
    rw [hw7]
    have := HG.out
    have := HG2.out
    exact ⟨H6.out.1.row HG2.out.2 (by omega) _, (setRow_far (by omega) _).trans H6.out.2.1, (setRow_far (by omega) _).trans H6.out.2.2.1, (setRow_far (by omega) _).trans H6.out.2.2.2.1, setRow_blk H6.out.2.2.2.2 _⟩⟩
  have HP : Aside0 (Post reqP (.ok () b) (x, o) s2) := ⟨HP1.out.bnd (H5.out.2.1.bnd (Post.ret _ _))⟩
  (try simp only [Act.put, List.setIfInBounds_toArray, List.set_cons_zero, List.set_cons_succ])
  rw [← hw7]
  clear hw7 H4 H5 H6 HP1
  obtain ⟨dv, hdv⟩ : ∃ dv, dv = doneV b s2 := ⟨_, rfl⟩
  have HDV := Aside0.mk hdv
  clear hdv
  go_upto_region 5 with (go_at_call 93; refine (done_calls w _ g b _ HS.out H7.out.1).mono ?_; rintro e w8 ⟨rfl, h1, k1⟩; rw [← HDV.out]; have H8 : Aside0 (Below w.heap.size w w8 ∧ w8.heap[w.heap.size]? = some (.cells (CVc z25) 27 (0, 0)) ∧ w8.heap[w.heap.size + 1]? = some (.cells (OVc zOp) 29 (0, 0)) ∧ w8.heap[gc]? = some (.cells (CVc x) 27 (0, 0)) ∧ w8.heap[gd]? = some (.cells (OVc o) 29 (0, 0))) := ⟨h1.bel, kb1 k1 HN.out.1 H7.out.2.1, kb1 k1 HN.out.2 H7.out.2.2.1, kb1 k1 HG.out.2.1 H7.out.2.2.2.1, kb1 k1 HG2.out.2 H7.out.2.2.2.2⟩; clear h1 k1)
  obtain ⟨d1, d2⟩ := dv
  rcases done_whole HP.out (z25, zOp) with ⟨hd, hW⟩ | ⟨pt, hd, hW⟩
  · have hd2 := HDV.out.trans hd
    injection hd2 with e1 e2
    subst e1 e2
    have HW := Aside0.mk hW
    clear hd hW
    have kc0 : w8.cell? ⟨w.heap.size, 0, none⟩ = some (.int .i64 0) := (blk_cell H8.out.2.1 0).trans rfl
    have kcf0 := blk_frozen H8.out.2.1 0
    have kc1 : w8.cell? ⟨w.heap.size, 1, none⟩ = some (.int .i64 0) := (blk_cell H8.out.2.1 1).trans rfl
    have kcf1 := blk_frozen H8.out.2.1 1
    have ko0 : w8.cell? ⟨w.heap.size + 1, 0, none⟩ = some (.int .i64 0) := (blk_cell H8.out.2.2.1 0).trans rfl
    have kof0 := blk_frozen H8.out.2.2.1 0
    have ko1 : w8.cell? ⟨w.heap.size + 1, 1, none⟩ = some (.string ⟨#[]⟩) := (blk_cell H8.out.2.2.1 1).trans rfl
    have kof1 := blk_frozen H8.out.2.2.1 1
    have ko2 : w8.cell? ⟨w.heap.size + 1, 2, none⟩ = some (.int .i64 0) := (blk_cell H8.out.2.2.1 2).trans rfl
    have kof2 := blk_frozen H8.out.2.2.1 2
    have ko3 : w8.cell? ⟨w.heap.size + 1, 3, none⟩ = some (.int .i64 0) := (blk_cell H8.out.2.2.1 3).trans rfl
    have kof3 := blk_frozen H8.out.2.2.1 3
    have kx0 : w8.cell? ⟨gc, 0, none⟩ = some (.int .i64 x.f0) := (blk_cell H8.out.2.2.2.1 0).trans rfl
    have kx1 : w8.cell? ⟨gc, 1, none⟩ = some (.int .i64 x.f1) := (blk_cell H8.out.2.2.2.1 1).trans rfl
    have ky0 : w8.cell? ⟨gd, 0, none⟩ = some (.int .i64 o.kind) := (blk_cell H8.out.2.2.2.2 0).trans rfl
    have ky1 : w8.cell? ⟨gd, 1, none⟩ = some (.string o.name) := (blk_cell H8.out.2.2.2.2 1).trans rfl
    have ky2 : w8.cell? ⟨gd, 2, none⟩ = some (.int .i64 o.a) := (blk_cell H8.out.2.2.2.2 2).trans rfl
    have ky3 : w8.cell? ⟨gd, 3, none⟩ = some (.int .i64 o.b) := (blk_cell H8.out.2.2.2.2 3).trans rfl
    have hn1 : w.heap.size ≠ gc := by have := HG.out; omega
    have hn2 : w.heap.size + 1 ≠ gc := by have := HG.out; omega
    have hn3 : w.heap.size ≠ gd := by have := HG.out; have := HG2.out; omega
    have hn4 : w.heap.size + 1 ≠ gd := by have := HG.out; have := HG2.out; omega
    have hn5 := Ne.symm hn1
    have hn6 := Ne.symm hn2
    have hn7 := Ne.symm hn3
    have hn8 := Ne.symm hn4
    have hne2 := Ne.symm hne
    go_upto_region 7 with fail
    go_region
    all_goals go_wp2
    all_goals (try simp only [Exit.inBlock, Exit.then])
    all_goals
      have he1 := blk_far (p := ⟨w.heap.size + 1, 3, none⟩) (blk_far (p := ⟨w.heap.size + 1, 2, none⟩) (blk_far (p := ⟨w.heap.size + 1, 1, none⟩) (blk_far (p := ⟨w.heap.size + 1, 0, none⟩) (blk_set (blk_set H8.out.2.1 0 (.int .i64 x.f0)) 1 (.int .i64 x.f1)) hne (.int .i64 o.kind)) hne (.string o.name)) hne (.int .i64 o.a)) hne (.int .i64 o.b)
      have he2 := blk_set (blk_set (blk_set (blk_set (blk_far (p := ⟨w.heap.size, 1, none⟩) (blk_far (p := ⟨w.heap.size, 0, none⟩) H8.out.2.2.1 hne2 (.int .i64 x.f0)) hne2 (.int .i64 x.f1)) 0 (.int .i64 o.kind)) 1 (.string o.name)) 2 (.int .i64 o.a)) 3 (.int .i64 o.b)
      refine bodyPost_ret (v := .tuple #[.agg (CVc x), .agg (OVc o), .int .i64 0, .int .i64 0]) ?_ rfl ?_
      · exact results_two_two (fn := Try.f73) (p := 2) (p2 := 3) (q := 4) (r := 5) rfl _ _ w.heap.size (w.heap.size + 1) 27 29 _ _ (0, 0) (0, 0) _ _ (by rfl) (blk_as he1 (cs2 := CVc x) rfl) hu27 rfl inf27 (by rfl) (blk_as he2 (cs2 := OVc o) rfl) hu29 rfl inf29
      refine ⟨Below.drew ((((((H8.out.1.setCell (Nat.le_refl _) _).setCell (Nat.le_refl _) _).setCell (Nat.le_succ _) _).setCell (Nat.le_succ _) _).setCell (Nat.le_succ _) _).setCell (Nat.le_succ _) _), ?_⟩
      rw [HW.out]
  · have hd2 := HDV.out.trans hd
    injection hd2 with e1 e2
    subst e1 e2
    have HW := Aside0.mk hW
    clear hd hW
    have kc0 : w8.cell? ⟨w.heap.size, 0, none⟩ = some (.int .i64 0) := (blk_cell H8.out.2.1 0).trans rfl
    have kcf0 := blk_frozen H8.out.2.1 0
    have kc1 : w8.cell? ⟨w.heap.size, 1, none⟩ = some (.int .i64 0) := (blk_cell H8.out.2.1 1).trans rfl
    have kcf1 := blk_frozen H8.out.2.1 1
    have ko0 : w8.cell? ⟨w.heap.size + 1, 0, none⟩ = some (.int .i64 0) := (blk_cell H8.out.2.2.1 0).trans rfl
    have kof0 := blk_frozen H8.out.2.2.1 0
    have ko1 : w8.cell? ⟨w.heap.size + 1, 1, none⟩ = some (.string ⟨#[]⟩) := (blk_cell H8.out.2.2.1 1).trans rfl
    have kof1 := blk_frozen H8.out.2.2.1 1
    have ko2 : w8.cell? ⟨w.heap.size + 1, 2, none⟩ = some (.int .i64 0) := (blk_cell H8.out.2.2.1 2).trans rfl
    have kof2 := blk_frozen H8.out.2.2.1 2
    have ko3 : w8.cell? ⟨w.heap.size + 1, 3, none⟩ = some (.int .i64 0) := (blk_cell H8.out.2.2.1 3).trans rfl
    have kof3 := blk_frozen H8.out.2.2.1 3
    have hne2 := Ne.symm hne
    go_wp2
    (try simp only [Exit.inBlock, Exit.then])
    have he1 := blk_far (p := ⟨w.heap.size + 1, 3, none⟩) (blk_far (p := ⟨w.heap.size + 1, 2, none⟩) (blk_far (p := ⟨w.heap.size + 1, 1, none⟩) (blk_far (p := ⟨w.heap.size + 1, 0, none⟩) (blk_set (blk_set H8.out.2.1 0 (.int .i64 0)) 1 (.int .i64 0)) hne (.int .i64 0)) hne (.string ⟨#[]⟩)) hne (.int .i64 0)) hne (.int .i64 0)
    have he2 := blk_set (blk_set (blk_set (blk_set (blk_far (p := ⟨w.heap.size, 1, none⟩) (blk_far (p := ⟨w.heap.size, 0, none⟩) H8.out.2.2.1 hne2 (.int .i64 0)) hne2 (.int .i64 0)) 0 (.int .i64 0)) 1 (.string ⟨#[]⟩)) 2 (.int .i64 0)) 3 (.int .i64 0)
    refine bodyPost_ret (v := .tuple #[.agg (CVc z25), .agg (OVc zOp), .int .i64 d1, .int .i64 20]) ?_ rfl ?_
    · exact results_two_two (fn := Try.f73) (p := 2) (p2 := 3) (q := 4) (r := 5) rfl _ _ w.heap.size (w.heap.size + 1) 27 29 _ _ (0, 0) (0, 0) _ _ (by rfl) (blk_is he1 (cs2 := CVc z25) rfl) hu27 rfl inf27 (by rfl) (blk_is he2 (cs2 := OVc zOp) rfl) hu29 rfl inf29
    refine ⟨((((((H8.out.1.setCell (Nat.le_refl _) _).setCell (Nat.le_refl _) _).setCell (Nat.le_succ _) _).setCell (Nat.le_succ _) _).setCell (Nat.le_succ _) _).setCell (Nat.le_succ _) _), ?_⟩
    rw [HW.out]
end Go.Proofs.Ytpgdmmjbhjbbhaa.Rf
end
section
namespace Go.Proofs.Ytpgdmmjbhjbbhaa.Rf
open Go Go.RowKit Go.Proofs.Ytpgdmmjbhjbbhaa.P Go.Proofs.Ytpgdmmjbhjbbhaa.Sp Go.Proofs.Ytpgdmmjbhjbbhaa.Vd Go.Proofs.Ytpgdmmjbhjbbhaa.En Go.Proofs.Ytpgdmmjbhjbbhaa.Wr Go.Proofs.Ytpgdmmjbhjbbhaa.Lw Go.Proofs.YtpgdmmjbhjbbhaaW.PrintWords Go.Proofs.YtpgdmmjbhjbbhaaW.PrintLast Go.Proofs.YtpgdmmjbhjbbhaaW.PrintMore
open Go.Proofs.Ytpgdmmjbhjbbhaa.Rd (pl In setRow_far setRow_blk RVc DecRP results_cell_two inf50)
set_option linter.unusedVariables false
set_option linter.unusedSimpArgs false
set_option maxHeartbeats 4000000 in
set_option maxRecDepth 100000 in
theorem rdecrep_calls (w : World) (A : Option Addr) (c : Nat) (b : List Int) (hi : In w A c b) :
    Calls Try.prog 75 #[.slice A b.length c] w fun e w' => DecRP w (whole zRep repP b) e w' := by
  have HI := Aside0.mk hi
  have HS : Aside0 (Src b) := ⟨⟨hi.len, hi.isB⟩⟩
  obtain ⟨wa, hwa⟩ : ∃ wa, wa = w.alloc (.cells #[.int .i64 0, .int .i64 0, .int .i64 0, .int .i64 0] 50 (0, 0)) := ⟨_, rfl⟩
  have HWA := Aside0.mk hwa
  have HB : Aside0 (Below w.heap.size w wa ∧ wa.heap.size = w.heap.size + 1 ∧ wa.heap[w.heap.size]? = some (.cells (RVc zRep) 50 (0, 0))) := ⟨by rw [hwa]; exact ⟨al_below w _, by simp, heap_alloc_new w _⟩⟩
  have hu50 := Try.underlying50
  have hu27 := Try.underlying27
  clear hwa hi
  go_enter Try.func75, Try.ntmps75
  go_upto_region 1 with fail
  rw [← HWA.out]
  go_upto_region 2 with ((with_reducible refine gate_dst (N := 11) rfl ?_); refine box_event ?hg (N := 11) ?hd (cs := #[.slice A b.length c, .int .i64 0, .bool false]) (t := 132) ?hr ?_; (case hd => rfl); (case hg => rfl); (case hr => first | (go_simp; done) | (go_simp; rfl)); intro g hg w1 hbox hb; have H1 : Aside0 (RSt w w1 g b (.ok () b) ∧ w1.heap[w.heap.size]? = some (.cells (RVc zRep) 50 (0, 0)) ∧ w.heap.size < g ∧ g < w1.heap.size) := ⟨RSt.new HB.out.1 HI.out.cap HI.out.row hbox hg hb, blk_keep hb HB.out.2.2, by rw [hg, HB.out.2.1]; omega, blk_lt hbox⟩; clear hg hbox hb)
  have HN : Aside0 (w.heap.size ≠ g) := ⟨by have := H1.out.2.2.1; omega⟩
  go_upto_region 3 with (first
    | (go_at_call 104; refine (call_calls w _ g b _ HS.out H1.out.1).mono ?_; rintro e w2 ⟨x, s1, rfl, h1, p1, k1⟩; have H2 : Aside0 (RSt w w2 g b s1 ∧ Post callP (.ok () b) x s1 ∧ w2.heap[w.heap.size]? = some (.cells (RVc zRep) 50 (0, 0))) := ⟨h1, p1, kb1 k1 HN.out H1.out.2.1⟩; clear h1 p1 k1)
    | ((with_reducible refine gate_dst (N := 6) rfl ?_); refine box_event ?hg (N := 6) ?hd (cs := #[.int .i64 0, .int .i64 0, .int .i64 0, .int .i64 0]) (t := 50) ?hr ?_; (case hd => rfl); (case hg => rfl); (case hr => first | (go_simp; done) | (go_simp; rfl)); intro gc hg w3 hbox hb; have HG : Aside0 (w.heap.size < gc ∧ gc ≠ g) := ⟨by have := H1.out.2.2.1; have := H2.out.1.lt; omega⟩; have H3 := Aside0.mk (And.intro (H2.out.1.below hb) (And.intro (blk_keep hb H2.out.2.2) hbox)); clear hg hb hbox; go_loud (refine wpList_store_row rfl 50 (.tmp 6) (.tmp 14) rfl gc (RVc ⟨x, 0, 0⟩) (by rfl) (by rfl) 50 _ H3.out.2.2 inf50 rfl (by simp [RVc, Value.oneCell']) ?_)))
  obtain ⟨w4, hw4⟩ : ∃ w4, w4 = w3.setRow gc (RVc ⟨x, 0, 0⟩) := ⟨_, rfl⟩
  have H4 : Aside0 (RSt w w4 g b s1 ∧ w4.heap[w.heap.size]? = some (.cells (RVc zRep) 50 (0, 0)) ∧ w4.heap[gc]? = some (.cells (RVc ⟨x, 0, 0⟩) 50 (0, 0))) := ⟨by
    rw [hw4]
    exact ⟨H3.out.1.row HG.out.2 (Nat.le_of_lt HG.out.1) _, (setRow_far (by have := HG.out.1; omega) _).trans H3.out.2.1, setRow_blk H3.out.2.2 _⟩⟩
  have HP1 := Aside0.mk H2.out.2.1
  (try simp only [Act.put, List.setIfInBounds_toArray, List.set_cons_zero, List.set_cons_succ])
  rw [← hw4]
  clear hw4 H2 H3 H1
  go_upto_region 5 with (first
    | (go_at_call 107; refine (sign_calls w _ g b s2 HS.out (H5.out.1.other HG.out.2 (Nat.le_of_lt HG.out.1) 2 _)).mono ?_; rintro e w6 ⟨v, s3, rfl, h1, p1, k1⟩; have H6 := Aside0.mk (And.intro h1 (And.intro p1 (And.intro (kb1 k1 HN.out (blk_far H5.out.2.2.1 (Nat.ne_of_lt HG.out.1) _)) (kb1 k1 HG.out.2 (blk_upd (cs2 := RVc ⟨x, er, 0⟩) H5.out.2.2.2 rfl))))); clear h1 p1 k1 kc kf; have kc : w6.cell? ⟨gc, 3, none⟩ = some (.int .i64 0) := (blk_cell H6.out.2.2.2 3).trans rfl; have kf := blk_frozen H6.out.2.2.2 3)
    | (go_at_call 102; refine (num_calls w _ g b s1 0 255 (by decide) (by decide) (by decide) HS.out H4.out.1).mono ?_; rintro e w5 ⟨er, s2, rfl, h1, p1, k1, -, -⟩; have H5 := Aside0.mk (And.intro h1 (And.intro p1 (And.intro (kb1 k1 HN.out H4.out.2.1) (kb1 k1 HG.out.2 H4.out.2.2)))); clear h1 p1 k1; have kc : w5.cell? ⟨gc, 2, none⟩ = some (.int .i64 0) := (blk_cell H5.out.2.2.2 2).trans rfl; have kf := blk_frozen H5.out.2.2.2 2))
  obtain ⟨w7, hw7⟩ : ∃ w7, w7 = w6.setCell ⟨gc, 3, none⟩ (.int .i64 v) := ⟨_, rfl⟩
  have H7 : Aside0 (RSt w w7 g b s3 ∧ w7.heap[w.heap.size]? = some (.cells (RVc zRep) 50 (0, 0)) ∧ w7.heap[gc]? = some (.cells (RVc ⟨x, er, v⟩) 50 (0, 0))) := ⟨by
    rw [hw7]
    exact ⟨H6.out.1.other HG.out.2 (Nat.le_of_lt HG.out.1) 3 _, blk_far H6.out.2.2.1 (Nat.ne_of_lt HG.out.1) _, blk_upd (cs2 := RVc ⟨x, er, v⟩) H6.out.2.2.2 rfl⟩⟩
  have HP : Aside0 (Post repP (.ok () b) ⟨x, er, v⟩ s3) := ⟨HP1.out.bnd (H5.out.2.1.bnd (H6.out.2.1.bnd (Post.ret _ _)))⟩
  rw [← hw7]
  clear hw7 H4 H5 H6 HP1 kc kf
  obtain ⟨dv, hdv⟩ : ∃ dv, dv = doneV b s3 := ⟨_, rfl⟩
  have HDV := Aside0.mk hdv
  clear hdv
  go_upto_region 6 with (go_at_call 93; refine (done_calls w _ g b _ HS.out H7.out.1).mono ?_; rintro e w8 ⟨rfl, h1, k1⟩; rw [← HDV.out]; have H8 : Aside0 (Below w.heap.size w w8 ∧ w8.heap[w.heap.size]? = some (.cells (RVc zRep) 50 (0, 0)) ∧ w8.heap[gc]? = some (.cells (RVc ⟨x, er, v⟩) 50 (0, 0))) := ⟨h1.bel, kb1 k1 HN.out H7.out.2.1, kb1 k1 HG.out.2 H7.out.2.2⟩; clear h1 k1)
  obtain ⟨d1, d2⟩ := dv
  rcases done_whole HP.out zRep with ⟨hd, hW⟩ | ⟨pt, hd, hW⟩
  · have hd2 := HDV.out.trans hd
    injection hd2 with e1 e2
    subst e1 e2
    have HW := Aside0.mk hW
    clear hd hW
    have kc0 : w8.cell? ⟨w.heap.size, 0, none⟩ = some (.int .i64 0) := (blk_cell H8.out.2.1 0).trans rfl
    have kcf0 := blk_frozen H8.out.2.1 0
    have kc1 : w8.cell? ⟨w.heap.size, 1, none⟩ = some (.int .i64 0) := (blk_cell H8.out.2.1 1).trans rfl
    have kcf1 := blk_frozen H8.out.2.1 1
    have kc2 : w8.cell? ⟨w.heap.size, 2, none⟩ = some (.int .i64 0) := (blk_cell H8.out.2.1 2).trans rfl
    have kcf2 := blk_frozen H8.out.2.1 2
    have kc3 : w8.cell? ⟨w.heap.size, 3, none⟩ = some (.int .i64 0) := (blk_cell H8.out.2.1 3).trans rfl
    have kcf3 := blk_frozen H8.out.2.1 3
    have kx0 : w8.cell? ⟨gc, 0, none⟩ = some (.int .i64 x.f0) := (blk_cell H8.out.2.2 0).trans rfl
    have kx1 : w8.cell? ⟨gc, 1, none⟩ = some (.int .i64 x.f1) := (blk_cell H8.out.2.2 1).trans rfl
    have kx2 : w8.cell? ⟨gc, 2, none⟩ = some (.int .i64 er) := (blk_cell H8.out.2.2 2).trans rfl
    have kx3 : w8.cell? ⟨gc, 3, none⟩ = some (.int .i64 v) := (blk_cell H8.out.2.2 3).trans rfl
    have hn1 : w.heap.size ≠ gc := by have := HG.out; omega
    have hn2 := Ne.symm hn1
    go_wp2
    (try simp only [Exit.inBlock, Exit.then])
    have he := blk_set (blk_set (blk_set (blk_set H8.out.2.1 0 (.int .i64 x.f0)) 1 (.int .i64 x.f1)) 2 (.int .i64 er)) 3 (.int .i64 v)
    refine bodyPost_ret (v := .tuple #[.agg (RVc ⟨x, er, v⟩), .int .i64 0, .int .i64 0]) ?_ rfl ?_
    · exact results_cell_two (fn := Try.f75) (p := 2) (q := 3) (r := 4) rfl _ _ w.heap.size 50 _ (0, 0) _ (by rfl) (blk_is he (cs2 := RVc ⟨x, er, v⟩) rfl) hu50 rfl inf50
    refine ⟨((((H8.out.1.setCell (Nat.le_refl _) _).setCell (Nat.le_refl _) _).setCell (Nat.le_refl _) _).setCell (Nat.le_refl _) _), ?_⟩
    rw [HW.out]
    (try rfl)
  · have hd2 := HDV.out.trans hd
    injection hd2 with e1 e2
    subst e1 e2
    have HW := Aside0.mk hW
    clear hd hW
    have kc0 : w8.cell? ⟨w.heap.size, 0, none⟩ = some (.int .i64 0) := (blk_cell H8.out.2.1 0).trans rfl
    have kcf0 := blk_frozen H8.out.2.1 0
    have kc1 : w8.cell? ⟨w.heap.size, 1, none⟩ = some (.int .i64 0) := (blk_cell H8.out.2.1 1).trans rfl
    have kcf1 := blk_frozen H8.out.2.1 1
    have kc2 : w8.cell? ⟨w.heap.size, 2, none⟩ = some (.int .i64 0) := (blk_cell H8.out.2.1 2).trans rfl
    have kcf2 := blk_frozen H8.out.2.1 2
    have kc3 : w8.cell? ⟨w.heap.size, 3, none⟩ = some (.int .i64 0) := (blk_cell H8.out.2.1 3).trans rfl
    have kcf3 := blk_frozen H8.out.2.1 3
    go_wp2
    (try simp only [Exit.inBlock, Exit.then])
    have he := blk_set (blk_set (blk_set (blk_set H8.out.2.1 0 (.int .i64 0)) 1 (.int .i64 0)) 2 (.int .i64 0)) 3 (.int .i64 0)
    refine bodyPost_ret (v := .tuple #[.agg (RVc zRep), .int .i64 d1, .int .i64 20]) ?_ rfl ?_
    · exact results_cell_two (fn := Try.f75) (p := 2) (q := 3) (r := 4) rfl _ _ w.heap.size 50 _ (0, 0) _ (by rfl) (blk_is he (cs2 := RVc zRep) rfl) hu50 rfl inf50
    refine ⟨((((H8.out.1.setCell (Nat.le_refl _) _).setCell (Nat.le_refl _) _).setCell (Nat.le_refl _) _).setCell (Nat.le_refl _) _), ?_⟩
    rw [HW.out]
    (try rfl)
end Go.Proofs.Ytpgdmmjbhjbbhaa.Rf
end
