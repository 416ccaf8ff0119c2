/- texts that the proof needs, laid together by a program of this session. -/
import Derived.WalkKit
import Derived.ProofKit
import Derived.OpenShut
import Derived.ShutString
import Derived.ChangeOld
import Derived.Below
import Derived.SizedLaws
import Derived.Deep.Slices
import Derived.Test.YtpgdmmjbhjbbhaaKWireSegments12
section
namespace Go.Proofs.Ytpgdmmjbhjbbhaa.Lw
open Go Go.RowKit Go.Proofs.Ytpgdmmjbhjbbhaa.P Go.Proofs.Ytpgdmmjbhjbbhaa.Sp Go.Proofs.Ytpgdmmjbhjbbhaa.Vd Go.Proofs.Ytpgdmmjbhjbbhaa.En Go.Proofs.Ytpgdmmjbhjbbhaa.Wr Go.Proofs.Ytpgdmmjbhjbbhaa.Rd Go.Proofs.YtpgdmmjbhjbbhaaW.PrintWords Go.Proofs.YtpgdmmjbhjbbhaaW.PrintLast Go.Proofs.YtpgdmmjbhjbbhaaW.PrintMore
set_option linter.unusedVariables false
set_option linter.unusedSimpArgs false
theorem in_new (w : World) (l : List Int) (cs : Array Value) (n : Nat) (hc : cs.toList = l.map (Value.int .u8)) (hl : l.length ≤ 1000) (hb : IsB l) (hn : n = l.length) : In (w.alloc (.cells cs 5 (0, 0))) (some ⟨w.heap.size, 0, none⟩) n l := in_lit (heap_alloc_new w _) hc hl hb hn
/-- What stands when all is called. -/
structure AF (w W : World) (Ab As Ar A1 : Option Addr) (cb cs cr c1 g3 g8 g9 : Nat) : Prop where
  bel : Below w.heap.size w W
  b : In W Ab cb bM
  s : In W As cs bS
  r : In W Ar cr bR
  m : W.heap[g3]? = some (.cells (MVc mEx A1 c1) 33 (0, 0))
  c : W.heap[g8]? = some (.cells #[.int .i64 3, .int .i64 1] 27 (0, 0))
  o : W.heap[g9]? = some (.cells #[.int .i64 2, .string ⟨#[107]⟩, .int .i64 5, .int .i64 0] 29 (0, 0))
theorem AF.below {w W W1 : World} {Ab As Ar A1 : Option Addr} {cb cs cr c1 g3 g8 g9 : Nat} (h : AF w W Ab As Ar A1 cb cs cr c1 g3 g8 g9) (k : Below W.heap.size W W1) : AF w W1 Ab As Ar A1 cb cs cr c1 g3 g8 g9 :=
  ⟨below_step h.bel k, In.below h.b k, In.below h.s k, In.below h.r k, blk_keep k h.m, blk_keep k h.c, blk_keep k h.o⟩
theorem AF.new {w W : World} {Ab As Ar A1 : Option Addr} {cb cs cr c1 g3 g8 g9 : Nat} (h : AF w W Ab As Ar A1 cb cs cr c1 g3 g8 g9) (o : Obj) : AF w (W.alloc o) Ab As Ar A1 cb cs cr c1 g3 g8 g9 := h.below (al_below W o)
set_option maxHeartbeats 8000000 in
set_option maxRecDepth 100000 in
theorem able_calls (w : World) : Calls Try.prog 12 #[] w fun e w' => e = .returned (.bool true) ∧ Below w.heap.size w w' := by
  have hu33 := Try.underlying33
  have hu23 := Try.underlying23
  have hu25 := Try.underlying25
  have hu27 := Try.underlying27
  have hu29 := Try.underlying29
  have hu47 := Try.underlying47
  have hu50 := Try.underlying50
  go_enter Try.func12, Try.ntmps12
  go_upto_region 2 with (go_at_call 16; refine (enc_ex _).mono ?_; rintro e w1 ⟨Ab, cb, rfl, hi, hb⟩; have H1 := Aside0.mk (And.intro hb hi); clear hi hb)
  obtain ⟨wa, hwa⟩ : ∃ wa, wa = w1.alloc (.cells #[.int .u8 3, .int .u8 1, .int .u8 107, .int .u8 10, .int .u8 0, .int .u8 2, .int .u8 1] 5 (0, 0)) := ⟨_, rfl⟩
  have HWA := Aside0.mk hwa
  have HIA : Aside0 (In wa (some ⟨w1.heap.size, 0, none⟩) 7 bM) := ⟨by rw [hwa]; exact in_new w1 bM _ _ rfl (by decide) bM_B rfl⟩
  have HBA : Aside0 (Below w.heap.size w wa ∧ Below w1.heap.size w1 wa) := ⟨by rw [hwa]; exact ⟨below_step H1.out.1 (al_below _ _), al_below _ _⟩⟩
  have HMV := Aside0.mk mv_one
  clear hwa
  go_upto_region 3 with (first
    | (refine wpList_store_row rfl 33 (.tmp 3) (.tmp 23) rfl w2.heap.size (MVc mEx A1 c1) (by rfl) (by rfl) 33 _ H2.out.2 inf33 rfl (mv_one _ _ _) ?_)
    | (go_at_call 18; rw [← HWA.out]; refine (dec_ex _ _ _ HIA.out).mono ?_; rintro e w2 ⟨A1, c1, rfl, hb⟩; have H2 := Aside0.mk (And.intro hb (heap_alloc_new w2 (.cells (MVc zMsg none 0) 33 (0, 0)))); clear hb))
  obtain ⟨w3, hw3⟩ : ∃ w3, w3 = (w2.alloc (.cells (MVc zMsg none 0) 33 (0, 0))).setRow w2.heap.size (MVc mEx A1 c1) := ⟨_, rfl⟩
  have HW3 := Aside0.mk hw3
  rw [mv_zero] at HW3
  have H3 : Aside0 (Below w.heap.size w w3 ∧ In w3 Ab cb bM ∧ w3.heap[w2.heap.size]? = some (.cells (MVc mEx A1 c1) 33 (0, 0))) := ⟨by
    have h1 := below_step HBA.out.1 H2.out.1
    have h2 : Below w2.heap.size w2 w3 := by rw [hw3]; exact below_setRow (al_below _ _) (Nat.le_refl _) _
    refine ⟨below_step h1 h2, In.below (In.below (In.below H1.out.2 HBA.out.2) H2.out.1) h2, ?_⟩
    rw [hw3]
    exact setRow_blk H2.out.2 _⟩
  rw [← HW3.out]
  clear hw3 HW3 H2 HWA HIA HBA H1
  go_upto_region 4 with (go_at_call 27; refine (seg_ex _).mono ?_; rintro e w4 ⟨As, cs, rfl, hi, hb⟩; have H4 := Aside0.mk (And.intro (below_step H3.out.1 hb) (And.intro (In.below H3.out.2.1 hb) (And.intro (blk_keep hb H3.out.2.2) hi))); clear hi hb)
  obtain ⟨wa, hwa⟩ : ∃ wa, wa = w4.alloc (.cells #[.int .u8 3, .int .u8 1, .int .u8 2, .int .u8 1, .int .u8 107, .int .u8 10, .int .u8 0] 5 (0, 0)) := ⟨_, rfl⟩
  have HWA := Aside0.mk hwa
  have HIA : Aside0 (In wa (some ⟨w4.heap.size, 0, none⟩) 7 bQ) := ⟨by rw [hwa]; exact in_new w4 bQ _ _ rfl (by decide) bQ_B rfl⟩
  have HBA : Aside0 (Below w4.heap.size w4 wa) := ⟨by rw [hwa]; exact al_below _ _⟩
  clear hwa
  go_upto_region 5 with (go_at_call 33; rw [← HWA.out]; refine (req_ex _ _ _ HIA.out).mono ?_; rintro e w5 ⟨rfl, hb⟩; have H5 := Aside0.mk hb; clear hb)
  obtain ⟨w6, hw6⟩ : ∃ w6, w6 = (w5.alloc (.cells #[.int .i64 3, .int .i64 1] 27 (0, 0))).alloc (.cells #[.int .i64 2, .string ⟨#[107]⟩, .int .i64 5, .int .i64 0] 29 (0, 0)) := ⟨_, rfl⟩
  have HW6 := Aside0.mk hw6
  have H6 : Aside0 (Below w5.heap.size w5 w6 ∧ w6.heap[w5.heap.size]? = some (.cells #[.int .i64 3, .int .i64 1] 27 (0, 0)) ∧ w6.heap[w5.heap.size + 1]? = some (.cells #[.int .i64 2, .string ⟨#[107]⟩, .int .i64 5, .int .i64 0] 29 (0, 0))) := ⟨by
    rw [hw6]
    refine ⟨below_al2 w5 _ _, (Below.heap_alloc _ _ _ (by simp)).trans (heap_alloc_new w5 _), ?_⟩
    have := heap_alloc_new (w5.alloc (.cells #[.int .i64 3, .int .i64 1] 27 (0, 0))) (.cells #[.int .i64 2, .string ⟨#[107]⟩, .int .i64 5, .int .i64 0] 29 (0, 0))
    rwa [show (w5.alloc (.cells #[.int .i64 3, .int .i64 1] 27 (0, 0))).heap.size = w5.heap.size + 1 by simp] at this⟩
  rw [← HW6.out]
  clear hw6 HW6 HWA HIA
  have HK : Aside0 (Below w4.heap.size w4 w6) := ⟨below_step (below_step HBA.out H5.out) H6.out.1⟩
  go_upto_region 6 with (go_at_call 34; refine (rep_ex _).mono ?_; rintro e w7 ⟨Ar, cr, rfl, hi, hb⟩; have HF : Aside0 (AF w w7 Ab As Ar A1 cb cs cr c1 w2.heap.size w5.heap.size (w5.heap.size + 1)) := ⟨⟨below_step (below_step H4.out.1 HK.out) hb, In.below (In.below H4.out.2.1 HK.out) hb, In.below (In.below H4.out.2.2.2 HK.out) hb, hi, blk_keep hb (blk_keep HK.out H4.out.2.2.1), blk_keep hb H6.out.2.1, blk_keep hb H6.out.2.2⟩⟩; clear hi hb)
  clear H3 H4 H5 H6 HK HBA
  go_wp2_with (first
    | (go_at_call 37; refine (alike_ex Ab cb _ _ bM 7 rfl _ (AF.new HF.out _).b (in_new _ bM _ _ rfl (by decide) bM_B rfl)).mono ?_; rintro e wx ⟨rfl, hb⟩; have n0_ := Aside0.mk (AF.below (AF.new HF.out _) hb); clear HF hb; have HF := n0_; clear n0_; have km0 : wx.cell? ⟨w2.heap.size, 0, none⟩ = some (.int .i64 3) := (blk_cell HF.out.m 0).trans rfl; have km2 : wx.cell? ⟨w2.heap.size, 2, none⟩ = some (.int .i64 10) := (blk_cell HF.out.m 2).trans rfl; have km4 : wx.cell? ⟨w2.heap.size, 4, none⟩ = some (.int .i64 2) := (blk_cell HF.out.m 4).trans rfl; have kc0 : wx.cell? ⟨w5.heap.size, 0, none⟩ = some (.int .i64 3) := (blk_cell HF.out.c 0).trans rfl; have ko2 : wx.cell? ⟨w5.heap.size + 1, 2, none⟩ = some (.int .i64 5) := (blk_cell HF.out.o 2).trans rfl)
    | (go_at_call 37; refine (alike_ex As cs _ _ bS 5 rfl _ (AF.new HF.out _).s (in_new _ bS _ _ rfl (by decide) bS_B rfl)).mono ?_; rintro e wx ⟨rfl, hb⟩; clear km0 km2 km4 kc0 ko2; have n0_ := Aside0.mk (AF.below (AF.new HF.out _) hb); clear HF hb; have HF := n0_; clear n0_; have km0 : wx.cell? ⟨w2.heap.size, 0, none⟩ = some (.int .i64 3) := (blk_cell HF.out.m 0).trans rfl; have km2 : wx.cell? ⟨w2.heap.size, 2, none⟩ = some (.int .i64 10) := (blk_cell HF.out.m 2).trans rfl; have km4 : wx.cell? ⟨w2.heap.size, 4, none⟩ = some (.int .i64 2) := (blk_cell HF.out.m 4).trans rfl; have kc0 : wx.cell? ⟨w5.heap.size, 0, none⟩ = some (.int .i64 3) := (blk_cell HF.out.c 0).trans rfl; have ko2 : wx.cell? ⟨w5.heap.size + 1, 2, none⟩ = some (.int .i64 5) := (blk_cell HF.out.o 2).trans rfl)
    | (go_at_call 37; refine (alike_ex Ar cr _ _ bR 4 rfl _ (AF.new HF.out _).r (in_new _ bR _ _ rfl (by decide) bR_B rfl)).mono ?_; rintro e wx ⟨rfl, hb⟩; clear km0 km2 km4 kc0 ko2; have n0_ := Aside0.mk (AF.below (AF.new HF.out _) hb); clear HF hb; have HF := n0_; clear n0_; have km0 : wx.cell? ⟨w2.heap.size, 0, none⟩ = some (.int .i64 3) := (blk_cell HF.out.m 0).trans rfl; have km2 : wx.cell? ⟨w2.heap.size, 2, none⟩ = some (.int .i64 10) := (blk_cell HF.out.m 2).trans rfl; have km4 : wx.cell? ⟨w2.heap.size, 4, none⟩ = some (.int .i64 2) := (blk_cell HF.out.m 4).trans rfl; have kc0 : wx.cell? ⟨w5.heap.size, 0, none⟩ = some (.int .i64 3) := (blk_cell HF.out.c 0).trans rfl; have ko2 : wx.cell? ⟨w5.heap.size + 1, 2, none⟩ = some (.int .i64 5) := (blk_cell HF.out.o 2).trans rfl)
    | ((with_reducible refine gate_dst (N := 106) rfl ?_); refine gate_guard (by kernel_rfl) ?_; refine wpList_load_row rfl 33 (.tmp 3) rfl w2.heap.size (by rfl) 33 (MVc mEx A1 c1) (0, 0) _ HF.out.m Try.underlying33 rfl inf33 ?_)
    | (go_at_call 21; refine (val_ex _ A1 c1).mono ?_; rintro e wy ⟨rfl, hb⟩; have HE := Aside0.mk (below_step HF.out.bel hb); clear hb))
  go_ret
  exact ⟨rfl, HE.out⟩
end Go.Proofs.Ytpgdmmjbhjbbhaa.Lw
end
section
namespace Go.Proofs.Ytpgdmmjbhjbbhaa.Lw
open Go Go.RowKit Go.Proofs.Ytpgdmmjbhjbbhaa.P Go.Proofs.Ytpgdmmjbhjbbhaa.Sp Go.Proofs.Ytpgdmmjbhjbbhaa.Vd Go.Proofs.Ytpgdmmjbhjbbhaa.En Go.Proofs.Ytpgdmmjbhjbbhaa.Wr Go.Proofs.Ytpgdmmjbhjbbhaa.Rd Go.Proofs.YtpgdmmjbhjbbhaaW.PrintWords Go.Proofs.YtpgdmmjbhjbbhaaW.PrintLast Go.Proofs.YtpgdmmjbhjbbhaaW.PrintMore
set_option linter.unusedVariables false
set_option linter.unusedSimpArgs false
/-- Taken: the very bytes; or refused: nothing but a place within. -/
def Took {α : Type} (z : α) (e : α → List Int) (v : α → Prop) (b : List Int) (x : α) (p er : Int) : Prop :=
  (er = 0 ∧ p = 0 ∧ v x ∧ e x = b) ∨ (er = 20 ∧ 0 ≤ p ∧ p ≤ b.length ∧ x = z)
theorem took_of {α : Type} {p : Rdr α} {e : α → List Int} {v : α → Prop} (h : Codec p e v) (hs : Sp.Safe p) (z : α) {b : List Int} (hb : IsB b) : Took z e v b (whole z p b).1 (whole z p b).2.1 (whole z p b).2.2 := by
  rcases whole_one h hs z hb with ⟨x, hw, hv, he⟩ | ⟨n, hw, h0, h1⟩
  · rw [hw]; exact .inl ⟨rfl, rfl, hv, he⟩
  · rw [hw]; exact .inr ⟨rfl, h0, h1, rfl⟩
/-- lent(b)[:len(b)]: the bytes, with marks in the spare room. -/
theorem lent_cut {w : World} {base : Nat} {v : Value} {b : List Int} (h : Kd.R (Kd.int .u8) 5 w base (fun _ => True) v (b ++ [165, 90])) (hb : IsB b) : ∃ A c, v = .slice A (b.length + 2) c ∧ b.length + 2 ≤ c ∧ In w A c b := by
  have hlen : (b ++ [165, 90] : List Int).length = b.length + 2 := by simp
  obtain ⟨A, c, rfl, hc, hC⟩ := Kd.R_reads h
  rw [hlen] at hc hC ⊢
  refine ⟨A, c, rfl, hc, ?_, hb, by omega⟩
  have h2 := Kd.C_take (m := b.length) (k := Kd.int .u8) (xs := b ++ [165, 90]) (by rw [hlen]; exact hC) (by simp)
  rwa [List.take_left] at h2
theorem In_nil (w : World) : In w none 0 [] := ⟨⟨rfl, by decide, fun h => absurd h (by decide)⟩, (fun x h => by cases h), Nat.le_refl _⟩
theorem sv_one (s : Seg) (A : Option Addr) (c : Nat) : (SVc s A c).all (·.oneCell') = true := by simp [SVc, Value.oneCell']
end Go.Proofs.Ytpgdmmjbhjbbhaa.Lw
end
section
namespace Go.Proofs.Ytpgdmmjbhjbbhaa.Ow
open Go Go.ChangeShapes Go.WideShapes Go.ChangeAt Go.RowKit Go.Proofs.Ytpgdmmjbhjbbhaa.P Go.Proofs.Ytpgdmmjbhjbbhaa.Sp Go.Proofs.Ytpgdmmjbhjbbhaa.Vd Go.Proofs.Ytpgdmmjbhjbbhaa.En Go.Proofs.Ytpgdmmjbhjbbhaa.Wr Go.Proofs.Ytpgdmmjbhjbbhaa.Rd Go.Proofs.Ytpgdmmjbhjbbhaa.Lw Go.Proofs.YtpgdmmjbhjbbhaaW.PrintWords
set_option linter.unusedVariables false
set_option linter.unusedSimpArgs false
/-- The datum weighs no more than a machine has. -/
def Fit {H : Type} (t : TypeId) (d : DataW H) : Prop := ∀ n ∈ d.weights Try.prog t, n ≤ 140737488351232
theorem fit_all {H : Type} {ts : List TypeId} {ds : List (DataW H)} (h : (DataW.weightsEach Try.prog ts ds).all (· ≤ reachBytes) = true) {j : Nat} {t : TypeId} {d : DataW H} (ht : ts[j]? = some t) (hd : ds[j]? = some d) : Fit t d := fun n hn => by
  have := List.all_eq_true.1 h _ (DataW.weights_mem_each ht hd n hn)
  exact of_decide_eq_true this
theorem fit_field {H : Type} {t tj : TypeId} {fs : Array Field} {parts : List (DataW H)} {d : DataW H} (hu : Try.prog.underlying t = some (.struct fs)) (h : Fit t (.agg parts)) (j : Nat) (ht : (fs.toList.map (·.type))[j]? = some tj) (hd : parts[j]? = some d) : Fit tj d := fun n hn =>
  h n (by simp only [DataW.weights, hu]; exact DataW.weights_mem_each ht hd n hn)
theorem weights_all {H : Type} {e : TypeId} : ∀ {l : List (DataW H)} {d : DataW H}, d ∈ l → ∀ n ∈ d.weights Try.prog e, n ∈ DataW.weightsAll Try.prog e l
  | x :: r, d, h, n, hn => by
    simp only [DataW.weightsAll, List.mem_append]
    rcases List.mem_cons.1 h with rfl | h
    · exact .inl hn
    · exact .inr (weights_all h n hn)
  | [], _, h, _, _ => by cases h
theorem fit_slice {H : Type} {t e : TypeId} {elems spare : List (DataW H)} (hu : Try.prog.underlying t = some (.slice e)) (h : Fit t (.slice elems spare)) : (elems.length + spare.length) * Try.prog.bytesOf e ≤ 140737488351232 ∧ ∀ d ∈ elems, Fit e d :=
  ⟨h _ (by simp [DataW.weights, hu]), fun d hd n hn => h n (by simp only [DataW.weights, hu, List.mem_cons, List.mem_append]; exact .inr (.inl (weights_all hd n hn)))⟩
theorem fits {k : IntKind} {a0 : Int} (w0 : (Lit.int .i64 a0).wf = true) : isI a0 := by simpa [isI, Lit.wf, IntKind.min, IntKind.max, IntKind.signed, IntKind.bits] using w0
section
variable {H : Type} {enc : TypeId × Value → H} {w : World} {spare : Nat → Bool} {held : Bool}
theorem int_open {t : TypeId} {fuel : Nat} {cs : List Value} {x : DataW H × List MemPlace} (ht : Try.prog.underlying t = some (.int .i64)) (h : DataW.trod enc Try.prog w 0 spare held fuel t cs = some x) : ∃ n, cs = [.int .i64 n] ∧ isI n := by
  obtain ⟨n, g, _, hw⟩ := DataW.trod_int ht h
  exact ⟨n, g, fits (k := .i64) hw⟩
theorem isB_wf {l : List Int} (h : ∀ n ∈ l, (Lit.int .u8 n).wf = true) : IsB l := fun n hn => by
  have := h n hn
  simp [Lit.wf, IntKind.min, IntKind.max, IntKind.signed, IntKind.bits] at this
  omega
/-- Bytes as they are read. -/
theorem bytes_open {fuel : Nat} {cs : List Value} {x : DataW H × List MemPlace} (h : DataW.trod enc Try.prog w 0 spare held fuel 36 cs = some x) (hf : Fit 36 x.1) :
    ∃ (A : Option Addr) (c : Nat) (xs : List Int), cs = [.slice A xs.length c] ∧ In w A c xs ∧ xs.length ≤ 140737488351232 := by
  obtain ⟨v, rfl⟩ : ∃ v, cs = [v] := by
    rcases DataW.trod_slice Try.underlying36 h with ⟨g, _⟩ | ⟨a, l, c, _, _, _, _, g, _⟩
    · exact ⟨_, g⟩
    · exact ⟨_, g⟩
  rcases open_ints Try.underlying36 Try.underlying5 (by kernel_rfl) h with ⟨hcs, _⟩ | ⟨a, l, c, zs, hcs, _, hl, hm, hz, hy, hcell, hwz⟩
  · obtain rfl : v = .slice none 0 0 := by simpa using hcs
    exact ⟨none, 0, [], rfl, In_nil _, by simp⟩
  · obtain rfl : v = .slice (some a) l c := by simpa using hcs
    have hlz : l ≤ zs.length := by rw [hz]; split <;> omega
    have hlen : (zs.take l).length = l := by rw [List.length_take]; omega
    refine ⟨some a, c, zs.take l, by rw [hlen], ⟨Kd.C_of_reads (d := (0 : Int)) (h1 := fun _ => rfl) ⟨rfl, by simp only [maxLen] at hm; omega, fun _ => ⟨a, rfl, fun j hj => ?_⟩⟩, isB_wf (fun n hn => hwz n (List.mem_of_mem_take hn)), by omega⟩, ?_⟩
    · rw [hcell j (by omega), List.getD_eq_getElem?_getD, List.getD_eq_getElem?_getD, List.getElem?_take, if_pos (by omega)]
    · rw [hy] at hf
      have h1 := (fit_slice Try.underlying36 hf).1
      rw [show Try.prog.bytesOf 5 = 1 by kernel_rfl] at h1
      have h2 : (lits (H := H) .u8 (zs.take l)).length = (zs.take l).length := by simp [lits]
      omega
set_option maxRecDepth 100000 in
theorem Seg_open {fuel : Nat} {cs : List Value} {x : DataW H × List MemPlace} (h : DataW.trod enc Try.prog w 0 spare held fuel 47 cs = some x) (hfit : Fit 47 x.1) : ∃ (s : Seg) (A : Option Addr) (c : Nat), cs = (SVc s A c).toList ∧ In w A c s.data ∧ s.data.length ≤ 140737488351232 := by
  obtain ⟨ys, n, _, hx, hcl, hyl, hf⟩ := DataW.trod_struct Try.underlying47 h
  have hcl2 : cs.length = 5 := hcl.trans (by kernel_rfl)
  have hyl2 : ys.length = 5 := hyl
  match cs, hcl2 with
  | [c0, c1, c2, c3, c4], _ =>
    match ys, hyl2 with
    | [y0, y1, y2, y3, y4], _ =>
      have eint : Try.prog.cellsOf 3 = 1 := by kernel_rfl
      have ebytes : Try.prog.cellsOf 36 = 1 := by kernel_rfl
      have g0 : DataW.trod enc Try.prog w 0 spare held n 3 (List.take (Try.prog.cellsOf 3) (List.drop 0 [c0, c1, c2, c3, c4])) = some y0 := hf 0 _ rfl
      rw [eint] at g0
      replace g0 : DataW.trod enc Try.prog w 0 spare held n 3 [c0] = some y0 := g0
      obtain ⟨n0, q0, i0⟩ := int_open Try.underlying3 g0
      have g1 : DataW.trod enc Try.prog w 0 spare held n 3 (List.take (Try.prog.cellsOf 3) (List.drop 1 [c0, c1, c2, c3, c4])) = some y1 := hf 1 _ rfl
      rw [eint] at g1
      replace g1 : DataW.trod enc Try.prog w 0 spare held n 3 [c1] = some y1 := g1
      obtain ⟨n1, q1, i1⟩ := int_open Try.underlying3 g1
      have g2 : DataW.trod enc Try.prog w 0 spare held n 3 (List.take (Try.prog.cellsOf 3) (List.drop 2 [c0, c1, c2, c3, c4])) = some y2 := hf 2 _ rfl
      rw [eint] at g2
      replace g2 : DataW.trod enc Try.prog w 0 spare held n 3 [c2] = some y2 := g2
      obtain ⟨n2, q2, i2⟩ := int_open Try.underlying3 g2
      have g3 : DataW.trod enc Try.prog w 0 spare held n 3 (List.take (Try.prog.cellsOf 3) (List.drop 3 [c0, c1, c2, c3, c4])) = some y3 := hf 3 _ rfl
      rw [eint] at g3
      replace g3 : DataW.trod enc Try.prog w 0 spare held n 3 [c3] = some y3 := g3
      obtain ⟨n3, q3, i3⟩ := int_open Try.underlying3 g3
      have g4 : DataW.trod enc Try.prog w 0 spare held n 36 (List.take (Try.prog.cellsOf 36) (List.drop 4 [c0, c1, c2, c3, c4])) = some y4 := hf 4 _ rfl
      rw [ebytes] at g4
      replace g4 : DataW.trod enc Try.prog w 0 spare held n 36 [c4] = some y4 := g4
      have k4 : Fit 36 y4.1 := fit_field Try.underlying47 (by rw [hx] at hfit; exact hfit) 4 rfl rfl
      obtain ⟨A4, C4, n4, q4, i4⟩ := bytes_open g4 k4
      simp only [List.cons.injEq, and_true] at q0 q1 q2 q3 q4
      exact ⟨⟨n0, n1, n2, n3, n4⟩, A4, C4, by rw [q0, q1, q2, q3, q4]; rfl, i4⟩
end
end Go.Proofs.Ytpgdmmjbhjbbhaa.Ow
end
section
namespace Go.Proofs.Ytpgdmmjbhjbbhaa.Lw
open Go Go.RowKit Go.Proofs.Ytpgdmmjbhjbbhaa.P Go.Proofs.Ytpgdmmjbhjbbhaa.Sp Go.Proofs.Ytpgdmmjbhjbbhaa.Vd Go.Proofs.Ytpgdmmjbhjbbhaa.En Go.Proofs.Ytpgdmmjbhjbbhaa.Wr Go.Proofs.Ytpgdmmjbhjbbhaa.Rd Go.Proofs.YtpgdmmjbhjbbhaaW.PrintWords Go.Proofs.YtpgdmmjbhjbbhaaW.PrintLast Go.Proofs.YtpgdmmjbhjbbhaaW.PrintMore
set_option linter.unusedVariables false
set_option linter.unusedSimpArgs false
theorem back_go (ok : Bool) : ∀ (n i : Nat) (x : List Int), i + n = x.length → x.length ≤ 9223372036854775807 → ∃ k r, sluicelaw2_back.l0 k x ok (i : Int) = some (ok, r)
  | 0, i, x, h, hl => ⟨1, x, by unfold sluicelaw2_back.l0; rw [if_neg (by omega)]⟩
  | n + 1, i, x, h, hl => by
    obtain ⟨k, r, hk⟩ := back_go ok n (i + 1) (x.set i 85) (by simp; omega) (by simpa using hl)
    refine ⟨k + 1, r, ?_⟩
    unfold sluicelaw2_back.l0
    have hw : wrap64 ((i : Int) + 1) = ((i + 1 : Nat) : Int) := by
      unfold wrap64; omega
    rw [if_pos (by omega), if_pos (by omega), hw, Int.toNat_natCast, hk]
theorem back_f (b : List Int) (hb : IsB b) (hl : b.length ≤ 140737488351232) : ∃ k r, sluicelaw2_back.f k (b ++ [165, 90]) b = some (true, r) := by
  have hlen : (b ++ [165, 90] : List Int).length = b.length + 2 := by simp
  obtain ⟨k, r, hk⟩ := back_go true (b.length + 2) 0 (b ++ [165, 90]) (by omega) (by omega)
  refine ⟨k + 1, r, ?_⟩
  have h2 : wrap64 ((b.length : Int) + 2) = (b.length : Int) + 2 := by
    unfold wrap64; omega
  have h1 : wrap64 ((b.length : Int) + 1) = ((b.length + 1 : Nat) : Int) := by
    unfold wrap64; omega
  have ht : (b ++ [165, 90] : List Int).take b.length = b := List.take_left
  have r1 : rd (b ++ [165, 90]) (b.length : Int) = 165 := by simp [rd, List.getD_eq_getElem?_getD]
  have r2 : rd (b ++ [165, 90]) ((b.length + 1 : Nat) : Int) = 90 := by simp [rd, List.getD_eq_getElem?_getD]
  unfold sluicelaw2_back.f
  rw [h2, h1, hlen, if_pos (by omega), if_pos (by omega), if_pos (by omega), Int.toNat_natCast, ht, alike_law hb hb, Option.bind_some, dcd_pos rfl, if_pos rfl, if_pos (by omega), r1, if_pos rfl, if_pos (by omega), if_pos (by omega), r2]
  exact hk
theorem back_law (w0 w : World) (v : Value) (b : List Int) (lo hi : Nat) (hB : Below w0.heap.size w0 w) (hlo : w0.heap.size ≤ lo) (hR : Kd.R (Kd.int .u8) 5 w w0.heap.size (fun k => lo ≤ k ∧ k < hi) v (b ++ [165, 90])) (A1 : Option Addr) (c1 : Nat) (hb : In w0 A1 c1 b) (hl : b.length ≤ 140737488351232) :
    Calls Try.prog 42 #[v, .slice A1 b.length c1] w fun e w' => e = .returned (.bool true) ∧ Below w0.heap.size w0 w' ∧ Kept w w' (fun k => lo ≤ k ∧ k < hi) := by
  obtain ⟨k, r, hk⟩ := back_f b hb.isB hl
  refine (sluicelaw2_back.calls k (fun k => lo ≤ k ∧ k < hi) v _ A1 c1 b _ _ w0 w hB hR (Kd.C_kept_came (Kd.heap_int .u8) hb.row hB (fun k hk => Nat.le_trans hlo hk.1)) hb.cap hk).mono ?_
  rintro e w' ⟨he, _, h2, h3⟩
  exact ⟨he, h2, h3⟩
/-- What lent answered, where it lies. -/
theorem lent_in {w w1 : World} {base : Nat} {v : Value} {b : List Int} (h : Kd.R (Kd.int .u8) 5 w1 w.heap.size (fun _ => True) v b) (hle : base ≤ w.heap.size) : Kd.R (Kd.int .u8) 5 w1 base (fun k => w.heap.size ≤ k ∧ k < w1.heap.size) v b :=
  Kd.R_lower (Kd.R_mono (Kd.R_bound h) (fun k hk => ⟨hk.2.1, hk.2.2.1⟩)) hle
end Go.Proofs.Ytpgdmmjbhjbbhaa.Lw
end
section
namespace Go.Proofs.Ytpgdmmjbhjbbhaa.Lw
open Go Go.RowKit Go.Proofs.Ytpgdmmjbhjbbhaa.P Go.Proofs.Ytpgdmmjbhjbbhaa.Sp Go.Proofs.Ytpgdmmjbhjbbhaa.Vd Go.Proofs.Ytpgdmmjbhjbbhaa.En Go.Proofs.Ytpgdmmjbhjbbhaa.Wr Go.Proofs.Ytpgdmmjbhjbbhaa.Rd Go.Proofs.YtpgdmmjbhjbbhaaW.PrintWords Go.Proofs.YtpgdmmjbhjbbhaaW.PrintLast Go.Proofs.YtpgdmmjbhjbbhaaW.PrintMore
set_option linter.unusedVariables false
set_option linter.unusedSimpArgs false
theorem b_nil : IsB [] := fun x h => by cases h
theorem b_app {a b : List Int} (ha : IsB a) (hb : IsB b) : IsB (a ++ b) := IsB.append.mpr ⟨ha, hb⟩
theorem b_int (n : Int) : IsB (intB n) := numB_isB _
theorem b_seg {s : Seg} (h : IsB s.data) : IsB (segB s) := b_app (b_int _) (b_app (b_int _) (b_app (b_int _) (b_app (b_int _) (b_app (b_int _) h))))
theorem lay_isB {α : Type} {e : α → List Int} {v : α → Prop} {x : α} (h : IsB (e x)) : IsB (lay e v x).1 := by
  unfold lay
  split
  · exact h
  · exact b_nil
end Go.Proofs.Ytpgdmmjbhjbbhaa.Lw
end
section
namespace Go.Proofs.Ytpgdmmjbhjbbhaa.Rf
open Go Go.RowKit Go.Proofs.Ytpgdmmjbhjbbhaa.P Go.Proofs.Ytpgdmmjbhjbbhaa.Sp Go.Proofs.Ytpgdmmjbhjbbhaa.Vd Go.Proofs.Ytpgdmmjbhjbbhaa.En Go.Proofs.Ytpgdmmjbhjbbhaa.Wr Go.Proofs.Ytpgdmmjbhjbbhaa.Rd Go.Proofs.Ytpgdmmjbhjbbhaa.Lw Go.Proofs.YtpgdmmjbhjbbhaaW.PrintWords Go.Proofs.YtpgdmmjbhjbbhaaW.PrintLast Go.Proofs.YtpgdmmjbhjbbhaaW.PrintMore
set_option linter.unusedVariables false
set_option linter.unusedSimpArgs false
end Go.Proofs.Ytpgdmmjbhjbbhaa.Rf
end
section
namespace Go.Proofs.Ytpgdmmjbhjbbhaa.Rf
open Go Go.RowKit Go.Proofs.Ytpgdmmjbhjbbhaa.P Go.Proofs.Ytpgdmmjbhjbbhaa.Sp Go.Proofs.Ytpgdmmjbhjbbhaa.Vd Go.Proofs.Ytpgdmmjbhjbbhaa.En Go.Proofs.Ytpgdmmjbhjbbhaa.Wr Go.Proofs.Ytpgdmmjbhjbbhaa.Rd Go.Proofs.Ytpgdmmjbhjbbhaa.Lw Go.Proofs.YtpgdmmjbhjbbhaaW.PrintWords Go.Proofs.YtpgdmmjbhjbbhaaW.PrintLast Go.Proofs.YtpgdmmjbhjbbhaaW.PrintMore
attribute [local go_sem] Go.Proofs.Ytpgdmmjbhjbbhaa.StrLe.leq_str Go.Proofs.Ytpgdmmjbhjbbhaa.StrLe.gtr_str
set_option linter.unusedVariables false
set_option linter.unusedSimpArgs false
end Go.Proofs.Ytpgdmmjbhjbbhaa.Rf
end
section
namespace Go.Proofs.Ytpgdmmjbhjbbhaa.Rf
open Go Go.RowKit Go.Proofs.Ytpgdmmjbhjbbhaa.P Go.Proofs.Ytpgdmmjbhjbbhaa.Sp Go.Proofs.Ytpgdmmjbhjbbhaa.Vd Go.Proofs.Ytpgdmmjbhjbbhaa.En Go.Proofs.Ytpgdmmjbhjbbhaa.Wr Go.Proofs.Ytpgdmmjbhjbbhaa.Rd Go.Proofs.Ytpgdmmjbhjbbhaa.Lw Go.Proofs.YtpgdmmjbhjbbhaaW.PrintWords Go.Proofs.YtpgdmmjbhjbbhaaW.PrintLast Go.Proofs.YtpgdmmjbhjbbhaaW.PrintMore
set_option linter.unusedVariables false
set_option linter.unusedSimpArgs false
theorem wrap_s {i : Nat} (h : i ≤ 1000000) : wrap64 ((i : Int) + 1) = ((i + 1 : Nat) : Int) := by
  rw [wrap64]; simp [IntKind.wrap, IntKind.bits, IntKind.signed]; omega
theorem number_l : ∀ (d n : Nat) (x : List Int), n < 128 ^ (d + 1) → n < 18446744073709551616 → x.length + (d + 1) ≤ 100000000 → ∀ k, d + 1 ≤ k → sluiceref2_number.l0 k x (n : Int) = some (x ++ numB n) := by
  intro d
  induction d with
  | zero =>
    intro n x hn h64 hx k hk
    obtain ⟨k, rfl⟩ : ∃ j, k = j + 1 := ⟨k - 1, by omega⟩
    have h1 : n < 128 := by simpa using hn
    unfold sluiceref2_number.l0
    rw [if_neg (by omega), if_pos (by omega), numB_lt h1]
    congr 3
    omega
  | succ d ih =>
    intro n x hn h64 hx k hk
    obtain ⟨k, rfl⟩ : ∃ j, k = j + 1 := ⟨k - 1, by omega⟩
    unfold sluiceref2_number.l0
    by_cases h1 : n < 128
    · rw [if_neg (by omega), if_pos (by omega), numB_lt h1]
      congr 3
      omega
    · rw [if_pos (by omega), if_pos (by omega)]
      have e1 : Int.tmod (n : Int) 128 = ((n % 128 : Nat) : Int) := by rw [Int.tmod_eq_emod_of_nonneg (by omega)]; omega
      have e2 : IntKind.u64.wrap (Int.tdiv (n : Int) 128) = ((n / 128 : Nat) : Int) := by
        rw [Int.tdiv_eq_ediv_of_nonneg (by omega)]
        simp [IntKind.wrap, IntKind.bits, IntKind.signed]
        omega
      rw [e1, e2, ih (n / 128) _ (by rw [Nat.div_lt_iff_lt_mul (by decide)]; rw [Nat.pow_succ] at hn; exact hn) (by omega) (by simp; omega) k (by omega), numB_ge h1]
      rw [List.append_assoc]
      congr 3
      simp only [List.cons_append, List.nil_append, List.cons.injEq, and_true]
      omega
theorem number_f (n : Nat) (x : List Int) (h : n < 18446744073709551616) (hx : x.length ≤ 10000000) (k : Nat) (hk : 10 ≤ k) : sluiceref2_number.f k x (n : Int) = some (x ++ numB n) :=
  number_l 9 n x (Nat.lt_of_lt_of_le h (by decide)) h (by omega) k hk
theorem plain_l (l : List Int) (hl : l.length ≤ 100) : ∀ (n i : Nat) (x : List Int), i + n = l.length → x.length + n * 10 ≤ 10000000 → ∀ k, n + 11 ≤ k → sluiceref2_plain.l0 k x l (i : Int) = some (x ++ numsB (l.drop i)) := by
  intro n
  induction n with
  | zero =>
    intro i x hi hx k hk
    obtain ⟨k, rfl⟩ : ∃ j, k = j + 1 := ⟨k - 1, by omega⟩
    unfold sluiceref2_plain.l0
    rw [if_neg (by omega), List.drop_of_length_le (by omega)]
    simp [numsB]
  | succ n ih =>
    intro i x hi hx k hk
    obtain ⟨k, rfl⟩ : ∃ j, k = j + 1 := ⟨k - 1, by omega⟩
    unfold sluiceref2_plain.l0
    have hu := u64_nat (rd l (i : Int))
    rw [if_pos (by omega), if_pos (by omega), ← hu.1, number_f _ x hu.2 (by omega) k (by omega), Option.bind_some, wrap_s (by omega)]
    have hn := numB_len10 hu.2
    rw [ih (i + 1) (x ++ numB (IntKind.u64.wrap (rd l (i : Int))).toNat) (by omega) (by rw [List.length_append]; omega) k (by omega), List.append_assoc]
    congr 2
    have hd := List.drop_eq_getElem_cons (l := l) (i := i) (by omega)
    have hr : rd l (i : Int) = l[i] := by simp [rd, List.getD_eq_getElem?_getD, List.getElem?_eq_getElem (show i < l.length by omega)]
    unfold numsB
    rw [hd, List.flatMap_cons, hr]
    rfl
theorem plain_f (l x : List Int) (hl : l.length ≤ 100) (hx : x.length ≤ 1000000) (k : Nat) (hk : 111 ≤ k) : sluiceref2_plain.f k x l = some (x ++ numsB l) := by
  have := plain_l l hl l.length 0 x (by omega) (by omega) k (by omega)
  rw [List.drop_zero] at this
  exact this
theorem intB_len (n : Int) : (intB n).length ≤ 10 := numB_len10 (u64_nat n).2
theorem right_f (s : Seg) (h : IsB s.data) : sluiceref2_RightSegment.f s.src s.dst s.seq s.ack s.data = some (dcd (segV s)) := by
  unfold sluiceref2_RightSegment.f
  rw [within_f, within_f, within_f, within_f]
  simp only [Option.bind_some]
  have hd : ∀ p : Prop, ¬ p → some false = some (dcd p) := fun p h => by rw [dcd_neg h]
  have hi := sg_iff s h
  have hb : sgB s = true ↔ (bB s.src 0 15 = true ∧ bB s.dst 0 15 = true ∧ bB s.seq 0 1099511627776 = true ∧ bB s.ack 0 1099511627776 = true) := by simp [sgB, Bool.and_eq_true, and_assoc]
  split
  · split
    · split
      · split
        · by_cases h4 : (s.data.length : Int) ≤ 4000
          · rw [if_pos h4]
            congr 1
            refine bool_dcd ?_
            rw [hi, hb, beq_iff_eq]
            exact ⟨fun h => ⟨⟨by assumption, by assumption, by assumption, by assumption⟩, by omega, h⟩, fun h => h.2.2⟩
          · rw [if_neg h4]; exact hd _ (fun h => h4 (by have := (hi.mp h).2.1; omega))
        · exact hd _ (fun h => by have := hb.mp (hi.mp h).1; simp_all)
      · exact hd _ (fun h => by have := hb.mp (hi.mp h).1; simp_all)
    · exact hd _ (fun h => by have := hb.mp (hi.mp h).1; simp_all)
  · exact hd _ (fun h => by have := hb.mp (hi.mp h).1; simp_all)
theorem encseg_f (s : Seg) (h : IsB s.data) : ∃ k, sluiceref2_EncodeSegment.f k s.src s.dst s.seq s.ack s.data = some (lay segB segV s) := by
  refine ⟨112, ?_⟩
  unfold sluiceref2_EncodeSegment.f
  rw [right_f s h, Option.bind_some]
  by_cases hv : segV s
  · have h1 := intB_len s.src; have h2 := intB_len s.dst; have h3 := intB_len s.seq; have h4 := intB_len s.ack; have h5 := intB_len s.data.length
    have hd := ((sg_iff s h).mp hv).2.1
    have hn : numsB [s.src, s.dst, s.seq, s.ack, (s.data.length : Int)] = intB s.src ++ (intB s.dst ++ (intB s.seq ++ (intB s.ack ++ intB s.data.length))) := by simp [numsB]
    rw [if_pos (dcd_pos hv), plain_f _ _ (by simp) (by simp) _ (by omega), Option.bind_some, lay_ok hv, hn, if_pos (by simp only [List.nil_append, List.length_append]; omega)]
    simp [segB]
  · rw [if_neg (by rw [dcd_neg hv]; decide), lay_no hv]
theorem rencseg_calls (s : Seg) (A : Option Addr) (c : Nat) (w : World) (h : In w A c s.data) :
    Calls Try.prog 70 #[SV s A c] w fun e w' => ∃ v, e = .returned (.tuple #[v, .int .i64 (lay segB segV s).2]) ∧ Kd.R (Kd.int .u8) 5 w' w.heap.size (fun _ => True) v (lay segB segV s).1 ∧ Below w.heap.size w w' := by
  obtain ⟨k, hk⟩ := encseg_f s h.isB
  exact sluiceref2_EncodeSegment.calls k _ _ _ _ A c _ _ _ w h.row h.cap hk
end Go.Proofs.Ytpgdmmjbhjbbhaa.Rf
end
section
namespace Go.Proofs.Ytpgdmmjbhjbbhaa.Rf
open Go Go.RowKit Go.Proofs.Ytpgdmmjbhjbbhaa.P Go.Proofs.Ytpgdmmjbhjbbhaa.Sp Go.Proofs.Ytpgdmmjbhjbbhaa.Vd Go.Proofs.Ytpgdmmjbhjbbhaa.En Go.Proofs.Ytpgdmmjbhjbbhaa.Wr Go.Proofs.Ytpgdmmjbhjbbhaa.Rd Go.Proofs.Ytpgdmmjbhjbbhaa.Lw Go.Proofs.YtpgdmmjbhjbbhaaW.PrintWords Go.Proofs.YtpgdmmjbhjbbhaaW.PrintLast Go.Proofs.YtpgdmmjbhjbbhaaW.PrintMore
set_option linter.unusedVariables false
set_option linter.unusedSimpArgs false
/-- The reader's state: where it reads on, or how much was left where it went wrong. -/
def St (b : List Int) (s : R Unit) (at_ : Int) (wr : Bool) : Prop := match s with
  | .ok _ l => wr = false ∧ (∃ pre, b = pre ++ l) ∧ at_ = pl b l
  | .bad n => wr = true ∧ at_ = (b.length : Int) - n ∧ n ≤ b.length
/-- What a step answers: what p reads; once wrong, still wrong. -/
def Post {α : Type} (p : Rdr α) (s : R Unit) (x : α) (s' : R Unit) : Prop := match s with
  | .bad n => s' = .bad n
  | .ok _ l => match p l with
    | .bad n => s' = .bad n
    | .ok y r => x = y ∧ s' = .ok () r
theorem Post.bnd {α β : Type} {p : Rdr α} {f : α → Rdr β} {s s1 s2 : R Unit} {x : α} {y : β} (h1 : Post p s x s1) (h2 : Post (f x) s1 y s2) : Post (Sp.bnd p f) s y s2 := by
  cases s with
  | bad n =>
    simp only [Post] at h1
    subst h1
    exact h2
  | ok u l =>
    simp only [Post] at h1 ⊢
    cases hp : p l with
    | bad n =>
      rw [hp] at h1
      simp only at h1
      subst h1
      simp only [Post] at h2
      rw [bnd_bad hp]
      exact h2
    | ok z r =>
      rw [hp] at h1
      simp only at h1
      obtain ⟨rfl, rfl⟩ := h1
      simp only [Post] at h2
      rw [bnd_ok hp]
      exact h2
theorem Post.ret {α : Type} (x : α) (s : R Unit) : Post (Sp.ret x) s x s := by
  cases s with
  | bad n => rfl
  | ok u l => exact ⟨rfl, rfl⟩
theorem rd_drop {b l : List Int} (h : ∃ pre, b = pre ++ l) (j : Nat) (hj : j < l.length) : rd b (pl b l + (j : Int)) = l.getD j 0 := by
  obtain ⟨pre, rfl⟩ := h
  have : (pl (pre ++ l) l + (j : Int)).toNat = pre.length + j := by unfold pl; simp; omega
  unfold rd
  rw [this]
  simp [List.getD_eq_getElem?_getD, List.getElem?_append_right]
theorem pl_le {b l : List Int} (h : ∃ pre, b = pre ++ l) : 0 ≤ pl b l ∧ pl b l + l.length = b.length := by
  obtain ⟨pre, rfl⟩ := h
  unfold pl
  simp
theorem wrap_n (n : Int) (h0 : -9223372036854775808 ≤ n) (h1 : n ≤ 9223372036854775807) : wrap64 n = n := IntWalk.wrap64_in _ ⟨h0, h1⟩
def isCut : NR → Bool
  | .cut => true
  | _ => false
def cutN (n j : Nat) (l : List Int) : Bool := match n with
  | 0 => false
  | _ + 1 => isCut (numGo j l)
theorem cut_l (b l : List Int) (h : ∃ pre, b = pre ++ l) (hb : b.length ≤ 9223372036854775807) (hB : IsB l) (wr : Bool) : ∀ (n j : Nat) (l2 : List Int), j + n = 10 → l2 = l.drop j → j ≤ l.length → ∀ k, n + 1 ≤ k →
    sluiceref2_reader_cut.l0 k (j : Int) b (pl b l) wr = some (cutN n j l2, pl b l, wr) := by
  intro n
  induction n with
  | zero =>
    intro j l2 hj h2 hjl k hk
    obtain ⟨k, rfl⟩ : ∃ i, k = i + 1 := ⟨k - 1, by omega⟩
    rw [sluiceref2_reader_cut.l0, if_neg (by omega)]
    rfl
  | succ n ih =>
    intro j l2 hj h2 hjl k hk
    obtain ⟨k, rfl⟩ : ∃ i, k = i + 1 := ⟨k - 1, by omega⟩
    have hp := pl_le h
    rw [sluiceref2_reader_cut.l0, if_pos (by omega), wrap_n _ (by omega) (by omega)]
    show _ = some (isCut (numGo j l2), pl b l, wr)
    by_cases hl : j < l.length
    · have h3 : l.drop j = l[j] :: l.drop (j + 1) := List.drop_eq_getElem_cons hl
      have h4 := rd_drop h j hl
      have h5 : l.getD j 0 = l[j] := by simp [List.getD_eq_getElem?_getD, List.getElem?_eq_getElem hl]
      have hc := hB l[j] (List.getElem_mem hl)
      rw [if_neg (by omega), if_pos (by omega), if_pos (by omega), h4, h5, h2, h3, numGo]
      by_cases hlt : l[j] < 128
      · rw [if_pos hlt, if_pos hlt]
        split <;> rfl
      · rw [if_neg hlt, if_neg hlt, wrap_s (by omega), ih (j + 1) _ (by omega) rfl (by omega) k (by omega)]
        cases n with
        | zero => rw [if_pos (by omega)]; rfl
        | succ n =>
          rw [if_neg (by omega)]
          show some (isCut (numGo (j + 1) (l.drop (j + 1))), _, _) = _
          cases numGo (j + 1) (l.drop (j + 1)) <;> rfl
    · rw [if_pos (by omega), h2, List.drop_of_length_le (by omega)]
      rfl
theorem cut_f (b l : List Int) (h : ∃ pre, b = pre ++ l) (hb : b.length ≤ 9223372036854775807) (hB : IsB l) (wr : Bool) (k : Nat) (hk : 11 ≤ k) : sluiceref2_reader_cut.f k b (pl b l) wr = some (isCut (numGo 0 l), pl b l, wr) :=
  cut_l b l h hb hB wr 10 0 l rfl rfl (Nat.zero_le _) k hk
theorem u_in {n : Int} (h0 : 0 ≤ n) (h1 : n < 18446744073709551616) : IntKind.u64.wrap n = n := by simp [IntKind.wrap, IntKind.bits, IntKind.signed]; omega
/-- What raw answers of a number that is not cut. -/
theorem raw_l (b l : List Int) (h : ∃ pre, b = pre ++ l) (hb : b.length ≤ 9223372036854775807) (hB : IsB l) (wr : Bool) : ∀ (n j : Nat) (acc : Int) (P : Nat) (l2 : List Int), j + n = 9 → P = 128 ^ j → l2 = l.drop j → j ≤ l.length → 0 ≤ acc → acc < (P : Int) → ∀ k, n + 2 ≤ k →
    (∀ m r, numGo j l2 = .ok m r → sluiceref2_reader_raw.l0 k acc (P : Int) (j : Int) b (pl b l) wr = some (acc + (P : Int) * (m : Int), (l.length : Int) - r.length, true, pl b l, wr)) ∧
    (numGo j l2 = .bad → ∃ x y, sluiceref2_reader_raw.l0 k acc (P : Int) (j : Int) b (pl b l) wr = some (x, y, false, pl b l, wr)) := by
  intro n
  induction n with
  | zero =>
    intro j acc P l2 hj hP h2 hjl ha0 ha1 k hk
    obtain rfl : j = 9 := by omega
    obtain ⟨k, rfl⟩ : ∃ i, k = i + 1 := ⟨k - 1, by omega⟩
    have hp := pl_le h
    have hP9 : P = 9223372036854775808 := by rw [hP]
    subst hP9
    by_cases hl : 9 < l.length
    · have h3 : l.drop 9 = l[9] :: l.drop (9 + 1) := List.drop_eq_getElem_cons hl
      have h4 := rd_drop h 9 hl
      have h5 : l.getD 9 0 = l[9] := by simp [List.getD_eq_getElem?_getD, List.getElem?_eq_getElem hl]
      have hc := hB l[9] (List.getElem_mem hl)
      have hdl : (l.drop (9 + 1)).length = l.length - 10 := by rw [List.length_drop]
      obtain ⟨c, hcc⟩ : ∃ c, l[9] = c := ⟨_, rfl⟩
      rw [hcc] at h3 h5 hc
      rw [sluiceref2_reader_raw.l0, if_pos (by omega), wrap_n _ (by omega) (by omega), if_neg (by omega), if_pos (by omega), if_pos (by omega), h4, h5, h2, h3, numGo]
      by_cases hlt : c < 128
      · rw [if_pos hlt, if_pos hlt, if_neg (show ¬ ((9 : Nat) : Int) = 0 by omega)]
        by_cases h0 : c > 0
        · rw [if_pos h0, if_neg (show ¬ ((9 : Nat) : Int) < 9 by omega)]
          by_cases h1 : c = 1
          · subst h1
            rw [if_pos (by omega)]
            refine ⟨fun m r hm => ?_, fun hm => by cases hm⟩
            injection hm with hm1 hm2
            subst hm1 hm2
            have e1 : IntKind.u64.wrap (Int.tmod 1 128) = 1 := by decide
            rw [e1, u_in (n := ((9223372036854775808 : Nat) : Int) * 1) (by omega) (by omega), u_in (by omega) (by omega), wrap_n _ (by omega) (by omega), hdl]
            simp only [beq_self_eq_true, Option.some.injEq, Prod.mk.injEq, and_true, true_and]
            exact ⟨by omega, by omega⟩
          · rw [if_neg (by omega)]
            have : (c == 1) = false := by simp [h1]
            rw [this]
            exact ⟨(fun m r hm => by cases hm), fun _ => ⟨_, _, rfl⟩⟩
        · rw [if_neg h0, if_neg (by omega)]
          exact ⟨(fun m r hm => by cases hm), fun _ => ⟨_, _, rfl⟩⟩
      · rw [if_neg hlt, if_neg hlt, if_pos (by omega)]
        refine ⟨(fun m r hm => by cases hm), fun _ => ?_⟩
        obtain ⟨k, rfl⟩ : ∃ i, k = i + 1 := ⟨k - 1, by omega⟩
        rw [sluiceref2_reader_raw.l0, if_neg (by rw [wrap_n _ (by omega) (by omega)]; omega)]
        exact ⟨_, _, rfl⟩
    · rw [h2, List.drop_of_length_le (by omega)]
      exact ⟨(fun m r hm => by cases hm), fun hm => by cases hm⟩
  | succ n ih =>
    intro j acc P l2 hj hP h2 hjl ha0 ha1 k hk
    obtain ⟨k, rfl⟩ : ∃ i, k = i + 1 := ⟨k - 1, by omega⟩
    have hp := pl_le h
    have hPle : P * 128 ≤ 9223372036854775808 := by
      rw [hP, ← Nat.pow_succ]
      exact Nat.le_trans (Nat.pow_le_pow_right (by decide) (show j + 1 ≤ 9 by omega)) (by decide)
    by_cases hl : j < l.length
    · have h3 : l.drop j = l[j] :: l.drop (j + 1) := List.drop_eq_getElem_cons hl
      have h4 := rd_drop h j hl
      have h5 : l.getD j 0 = l[j] := by simp [List.getD_eq_getElem?_getD, List.getElem?_eq_getElem hl]
      have hc := hB l[j] (List.getElem_mem hl)
      have hdl : (l.drop (j + 1)).length = l.length - (j + 1) := by rw [List.length_drop]
      obtain ⟨c, hcc⟩ : ∃ c, l[j] = c := ⟨_, rfl⟩
      rw [hcc] at h3 h5 hc
      have hmod : Int.tmod c 128 = c % 128 := Int.tmod_eq_emod_of_nonneg hc.1
      have hm0 : 0 ≤ c % 128 ∧ c % 128 ≤ 127 := by omega
      have hq0 : 0 ≤ (P : Int) * (c % 128) := Int.mul_nonneg (by omega) hm0.1
      have hq1 : (P : Int) * (c % 128) ≤ (P : Int) * 127 := Int.mul_le_mul_of_nonneg_left hm0.2 (by omega)
      have hv : IntKind.u64.wrap (acc + IntKind.u64.wrap ((P : Int) * IntKind.u64.wrap (Int.tmod c 128))) = acc + (P : Int) * (c % 128) := by
        rw [hmod, u_in (n := c % 128) (by omega) (by omega), u_in hq0 (by omega), u_in (by omega) (by omega)]
      rw [sluiceref2_reader_raw.l0, if_pos (by omega), wrap_n (pl b l + (j : Int)) (by omega) (by omega), if_neg (by omega), if_pos (by omega), if_pos (by omega), h4, h5, hv, h2, h3, numGo]
      by_cases hlt : c < 128
      · have hcm : c % 128 = c := by omega
        rw [if_pos hlt, if_pos hlt, if_pos (show (j : Int) < 9 by omega), wrap_s (by omega), hcm]
        have fin : ∀ m r, NR.ok c.toNat (l.drop (j + 1)) = .ok m r → some (acc + (P : Int) * c, ((j + 1 : Nat) : Int), true, pl b l, wr) = some (acc + (P : Int) * (m : Int), (l.length : Int) - r.length, true, pl b l, wr) := fun m r hm => by
          injection hm with hm1 hm2
          subst hm1 hm2
          rw [hdl, show ((c.toNat : Nat) : Int) = c by omega]
          congr 2
          congr 1
          omega
        by_cases h0 : (j : Int) = 0
        · rw [if_pos h0, if_pos ⟨.inl (by omega), .inl (by omega)⟩]
          exact ⟨fin, fun hm => by cases hm⟩
        · rw [if_neg h0]
          by_cases h1 : c > 0
          · rw [if_pos h1, if_pos ⟨.inr h1, .inl (by omega)⟩]
            exact ⟨fin, fun hm => by cases hm⟩
          · rw [if_neg h1, if_neg (by omega)]
            exact ⟨(fun m r hm => by cases hm), fun _ => ⟨_, _, rfl⟩⟩
      · rw [if_neg hlt, if_neg hlt, if_neg (by omega), wrap_s (by omega), u_in (n := (P : Int) * 128) (by omega) (by omega)]
        have hI := ih (j + 1) (acc + (P : Int) * (c % 128)) (P * 128) (l.drop (j + 1)) (by omega) (by rw [Nat.pow_succ, hP]) rfl (by omega) (by omega) (by push_cast; omega) k (by omega)
        rw [show ((P * 128 : Nat) : Int) = (P : Int) * 128 by push_cast; rfl] at hI
        cases hg : numGo (j + 1) (l.drop (j + 1)) with
        | cut => exact ⟨(fun m r hm => by cases hm), fun hm => by cases hm⟩
        | bad => exact ⟨(fun m r hm => by cases hm), fun _ => hI.2 hg⟩
        | ok m' r' =>
          refine ⟨fun m r hm => ?_, fun hm => by cases hm⟩
          injection hm with hm1 hm2
          subst hm1 hm2
          rw [hI.1 m' r' hg]
          congr 2
          rw [show ((c.toNat % 128 + 128 * m' : Nat) : Int) = c % 128 + 128 * (m' : Int) by omega, Int.mul_add, ← Int.mul_assoc, Int.add_assoc]
    · rw [h2, List.drop_of_length_le (by omega)]
      exact ⟨(fun m r hm => by cases hm), fun hm => by cases hm⟩
theorem numGo_rest : ∀ (l : List Int) (k n : Nat) (r : List Int), numGo k l = .ok n r → ∃ pre, l = pre ++ r
  | [], k, n, r, h => by simp [numGo] at h
  | c :: l, k, n, r, h => by
    unfold numGo at h
    split at h
    · split at h
      · cases h; exact ⟨[c], rfl⟩
      · cases h
    · split at h
      · cases h
      · split at h
        · rename_i a b hq
          cases h
          obtain ⟨pre, rfl⟩ := numGo_rest l (k + 1) _ _ hq
          exact ⟨c :: pre, rfl⟩
        · rename_i x hx
          first | cases h | exact absurd h (hx n r)
theorem raw_f (b l : List Int) (h : ∃ pre, b = pre ++ l) (hb : b.length ≤ 9223372036854775807) (hB : IsB l) (wr : Bool) (k : Nat) (hk : 11 ≤ k) :
    (∀ m r, numGo 0 l = .ok m r → sluiceref2_reader_raw.f k b (pl b l) wr = some ((m : Int), (l.length : Int) - r.length, true, pl b l, wr)) ∧
    (numGo 0 l = .bad → ∃ x y, sluiceref2_reader_raw.f k b (pl b l) wr = some (x, y, false, pl b l, wr)) := by
  have := raw_l b l h hb hB wr 9 0 0 1 l rfl rfl rfl (Nat.zero_le _) (by omega) (by decide) k (by omega)
  refine ⟨fun m r hm => ?_, fun hm => ?_⟩
  · have h2 := this.1 m r hm
    rw [show (0 : Int) + ((1 : Nat) : Int) * (m : Int) = (m : Int) by omega] at h2
    exact h2
  · exact this.2 hm
/-- num: a number from lo to hi. -/
theorem num_f (b : List Int) (s : R Unit) (at_ : Int) (wr : Bool) (lo hi : Int) (hS : St b s at_ wr) (hb : b.length ≤ 9223372036854775807) (hB : IsB b) (h0 : 0 ≤ lo) (h1 : hi ≤ 9223372036854775807) (h2 : lo ≤ hi) (k : Nat) (hk : 11 ≤ k) :
    ∃ x at' wr' s', sluiceref2_reader_num.f k b at_ wr lo hi = some (x, at', wr') ∧ St b s' at' wr' ∧ Post (numP lo hi) s x s' ∧ 0 ≤ x ∧ x ≤ hi := by
  unfold sluiceref2_reader_num.f
  cases s with
  | bad n =>
    obtain ⟨rfl, ha, hn⟩ := hS
    rw [if_pos rfl]
    exact ⟨0, at_, true, .bad n, rfl, ⟨rfl, ha, hn⟩, rfl, by omega, by omega⟩
  | ok u l =>
    obtain ⟨rfl, hp, rfl⟩ := hS
    have hBl : IsB l := by obtain ⟨pre, rfl⟩ := hp; exact (IsB.append.mp hB).2
    have hle := pl_le hp
    rw [if_neg (by decide), cut_f b l hp hb hBl false k hk, Option.bind_some]
    have hr := raw_f b l hp hb hBl false k hk
    cases hg : numGo 0 l with
    | cut =>
      rw [if_pos (by rfl)]
      have hn : numP lo hi l = .bad 0 := by unfold numP rawP; rw [hg]
      refine ⟨0, b.length, true, .bad 0, rfl, ⟨rfl, by omega, Nat.zero_le _⟩, ?_, by omega, by omega⟩
      simp only [Post]
      rw [hn]
    | bad =>
      obtain ⟨x, y, he⟩ := hr.2 hg
      rw [if_neg (by simp [isCut])]
      simp only
      rw [he, Option.bind_some, if_neg (by simp)]
      have hn : numP lo hi l = .bad l.length := by unfold numP rawP; rw [hg]
      refine ⟨0, pl b l, true, .bad l.length, rfl, ⟨rfl, rfl, by omega⟩, ?_, by omega, by omega⟩
      simp only [Post]
      rw [hn]
    | ok m r =>
      have he := hr.1 m r hg
      have hm := numGo_one l 0 m r (by omega) hBl hg
      have hm2 : m < 18446744073709551616 := hm.2.1
      rw [if_neg (by simp [isCut])]
      simp only
      rw [he, Option.bind_some, if_pos rfl]
      simp only
      rw [u_in (n := hi) (by omega) (by omega), u_in h0 (by omega)]
      by_cases hhi : (m : Int) > hi
      · have hn : numP lo hi l = .bad l.length := by unfold numP rawP; rw [hg]; simp only; rw [if_neg (by omega)]
        rw [if_pos hhi]
        refine ⟨0, pl b l, true, .bad l.length, rfl, ⟨rfl, rfl, by omega⟩, ?_, by omega, by omega⟩
        simp only [Post]
        rw [hn]
      · rw [if_neg hhi]
        by_cases hlo : (m : Int) < lo
        · have hn : numP lo hi l = .bad l.length := by unfold numP rawP; rw [hg]; simp only; rw [if_neg (by omega)]
          rw [if_pos hlo]
          refine ⟨0, pl b l, true, .bad l.length, rfl, ⟨rfl, rfl, by omega⟩, ?_, by omega, by omega⟩
          simp only [Post]
          rw [hn]
        · have hn : numP lo hi l = .ok (m : Int) r := by unfold numP rawP; rw [hg]; simp only; rw [if_pos (by omega)]
          rw [if_neg hlo]
          obtain ⟨q, hq⟩ := numGo_rest l 0 m r hg
          obtain ⟨pre, hpre⟩ := hp
          have hrl : r.length ≤ l.length := by rw [hq]; simp
          rw [wrap_n (m : Int) (by omega) (by omega), wrap_n (pl b l + ((l.length : Int) - r.length)) (by omega) (by omega)]
          refine ⟨(m : Int), _, false, .ok () r, rfl, ⟨rfl, ⟨pre ++ q, by rw [List.append_assoc, ← hq]; exact hpre⟩, by unfold pl; omega⟩, ?_, by omega, by omega⟩
          simp only [Post]
          rw [hn]
          exact ⟨rfl, rfl⟩
end Go.Proofs.Ytpgdmmjbhjbbhaa.Rf
end
section
namespace Go.Proofs.Ytpgdmmjbhjbbhaa.Rf
open Go Go.RowKit Go.Proofs.Ytpgdmmjbhjbbhaa.P Go.Proofs.Ytpgdmmjbhjbbhaa.Sp Go.Proofs.Ytpgdmmjbhjbbhaa.Vd Go.Proofs.Ytpgdmmjbhjbbhaa.En Go.Proofs.Ytpgdmmjbhjbbhaa.Wr Go.Proofs.Ytpgdmmjbhjbbhaa.Rd Go.Proofs.Ytpgdmmjbhjbbhaa.Lw Go.Proofs.YtpgdmmjbhjbbhaaW.PrintWords Go.Proofs.YtpgdmmjbhjbbhaaW.PrintLast Go.Proofs.YtpgdmmjbhjbbhaaW.PrintMore
set_option linter.unusedVariables false
set_option linter.unusedSimpArgs false
/-- What is read: short, and of bytes. -/
structure Src (b : List Int) : Prop where
  len : b.length ≤ 9223372036854775807
  isB : IsB b
/-- The reader lies at g and reads b; it stands as s says. -/
def RSt (w0 w : World) (g : Nat) (b : List Int) (s : R Unit) : Prop := ∃ at_ wr, IsS132 w0 w g b at_ wr ∧ St b s at_ wr ∧ Below w0.heap.size w0 w
theorem RSt.below {w0 w w1 : World} {g : Nat} {b : List Int} {s : R Unit} (h : RSt w0 w g b s) (hb : Below w.heap.size w w1) : RSt w0 w1 g b s := by
  obtain ⟨at_, wr, h1, h2, h3⟩ := h
  exact ⟨at_, wr, h1.below hb, h2, h3.trans (hb.mono h3.size)⟩
theorem RSt.bel {w0 w : World} {g : Nat} {b : List Int} {s : R Unit} (h : RSt w0 w g b s) : Below w0.heap.size w0 w := by
  obtain ⟨at_, wr, h1, h2, h3⟩ := h
  exact h3
theorem num_calls (w0 w : World) (g : Nat) (b : List Int) (s : R Unit) (lo hi : Int) (h0 : 0 ≤ lo) (h1 : hi ≤ 9223372036854775807) (h2 : lo ≤ hi) (hs : Src b) (h : RSt w0 w g b s) :
    Calls Try.prog 102 #[.pointer (some ⟨g, 0, none⟩), .int .i64 lo, .int .i64 hi] w fun e w' => ∃ x s', e = .returned (.int .i64 x) ∧ RSt w0 w' g b s' ∧ Post (numP lo hi) s x s' ∧ KeepBut w w' g none ∧ 0 ≤ x ∧ x ≤ hi := by
  obtain ⟨at_, wr, hI, hS, hB⟩ := h
  obtain ⟨x, at', wr', s', hf, hS', hP, hx⟩ := num_f b s at_ wr lo hi hS hs.len hs.isB h0 h1 h2 11 (Nat.le_refl _)
  refine (sluiceref2_reader_num.calls 11 g b at_ wr lo hi x at' wr' w0 w hI hB hf).mono ?_
  rintro e w' ⟨he, hI', hB', hk⟩
  exact ⟨x, s', he, ⟨at', wr', hI', hS', hB'⟩, hP, hk, hx⟩
/-- The end: nothing may be left. -/
def doneV (b : List Int) : R Unit → Int × Int
  | .bad n => ((b.length : Int) - n, 20)
  | .ok _ [] => (0, 0)
  | .ok _ (c :: l) => (pl b (c :: l), 20)
theorem done_calls (w0 w : World) (g : Nat) (b : List Int) (s : R Unit) (hs : Src b) (h : RSt w0 w g b s) :
    Calls Try.prog 93 #[.pointer (some ⟨g, 0, none⟩)] w fun e w' => e = .returned (.tuple #[.int .i64 (doneV b s).1, .int .i64 (doneV b s).2]) ∧ RSt w0 w' g b s ∧ KeepBut w w' g none := by
  obtain ⟨at_, wr, hI, hS, hB⟩ := h
  have hf : sluiceref2_reader_done.f b at_ wr = some ((doneV b s).1, (doneV b s).2, at_, wr) := by
    unfold sluiceref2_reader_done.f
    match s, hS with
    | .bad n, hS =>
      obtain ⟨rfl, rfl, hn⟩ := hS
      rw [if_pos rfl]
      rfl
    | .ok u [], hS =>
      obtain ⟨rfl, hp, rfl⟩ := hS
      have := pl_le hp
      simp only [List.length_nil] at this
      rw [if_neg (by decide), if_neg (by omega)]
      rfl
    | .ok u (c :: l), hS =>
      obtain ⟨rfl, hp, rfl⟩ := hS
      have := pl_le hp
      simp only [List.length_cons] at this
      rw [if_neg (by decide), if_pos (by omega)]
      rfl
  refine (sluiceref2_reader_done.calls g b at_ wr _ _ at_ wr w0 w hI hB hf).mono ?_
  rintro e w' ⟨he, hI', hB', hk⟩
  exact ⟨he, ⟨at_, wr, hI', hS, hB'⟩, hk⟩
set_option maxHeartbeats 4000000 in
set_option maxRecDepth 100000 in
theorem take_calls (w0 w : World) (g : Nat) (b : List Int) (s : R Unit) (n : Nat) (hn : n ≤ 1000000) (hs : Src b) (h : RSt w0 w g b s) :
    Calls Try.prog 103 #[.pointer (some ⟨g, 0, none⟩), .int .i64 (n : Int)] w fun e w' => ∃ x A1 c1 s', e = .returned (.slice A1 x.length c1) ∧ x.length ≤ c1 ∧ Kd.C (Kd.int .u8) w0 A1 x.length x ∧ RSt w0 w' g b s' ∧ Post (takeP n) s x s' ∧ KeepBut w w' g none ∧ x.length ≤ n := by
  have HR := Aside0.mk h
  obtain ⟨at_, wr, hI, hS, hB⟩ := h
  have HI := Aside0.mk hI
  obtain ⟨A, c, hb, ⟨hg, hcap⟩, hC⟩ := hI
  cases s with
  | bad k =>
    obtain ⟨rfl, ha, hk⟩ := hS
    have kz2 := cellS132_2 hb
    clear hb hg hcap hC hB ha hk
    go_enter Try.func103, Try.ntmps103
    go_wp2_with fail
    go_ret
    exact ⟨[], none, 0, .bad k, rfl, Nat.le_refl _, Kd.C_nil _ _, HR.out, rfl, KeepBut.refl _ _ _, Nat.zero_le _⟩
  | ok u l =>
    obtain ⟨rfl, hp, rfl⟩ := hS
    have hle := pl_le hp
    have hbl := hs.len
    have HS := Aside0.mk hp
    have HB := Aside0.mk hB
    have HC := Aside0.mk hC
    have hnI : (n : Int) ≤ 1000000 := by omega
    obtain ⟨j, hj⟩ : ∃ j, j = pl b l := ⟨_, rfl⟩
    rw [← hj] at hle hb HI
    have kz0 := cellS132_0 hb
    have kz1 := cellS132_1 hb
    have kz2 := cellS132_2 hb
    have hf1 := frozen_of_row w g 1 _ _ hb
    have HJ := Aside0.mk hj
    have hw : wrap64 ((b.length : Int) - j) = (l.length : Int) := by rw [wrap_n _ (by omega) (by omega)]; omega
    clear hp hb hC hB hj
    go_enter Try.func103, Try.ntmps103
    by_cases hsh : l.length < n
    · have HQ : Aside0 (takeP n l = .bad 0) := ⟨by unfold takeP; rw [if_pos hsh]⟩
      have hlt : (l.length : Int) < (n : Int) := by omega
      go_wp2_with fail
      go_quiet (fail)
      go_wp2_with (go_at_call 120; refine (sluiceref2_reader_short.calls g b j false b.length true w0 _ (HI.out.drewN _) (pw_below_drewN HB.out _) rfl).mono ?_; rintro e w1 ⟨rfl, hI1, hB1, hk1⟩; have HN := Aside0.mk (And.intro hI1 (And.intro hB1 hk1)); clear hI1 hB1 hk1)
      go_ret
      exact ⟨[], none, 0, .bad 0, rfl, Nat.le_refl _, Kd.C_nil _ _, ⟨_, _, HN.out.1, ⟨rfl, by omega, Nat.zero_le _⟩, HN.out.2.1⟩, by simp only [Post]; rw [HQ.out], HN.out.2.2, Nat.zero_le _⟩
    · have HQ : Aside0 (takeP n l = .ok (l.take n) (l.drop n)) := ⟨by unfold takeP; rw [if_neg hsh]⟩
      have hlt : ¬ ((l.length : Int) < (n : Int)) := by omega
      have hjn : wrap64 (j + (n : Int)) = j + (n : Int) := wrap_n _ (by omega) (by omega)
      have hcut := cut_mid (P := Try.prog) 36 5 .i64 .i64 Try.underlying36 inf8f 1 inf8s A b.length c j (j + (n : Int)) hle.1 (by omega) (by omega) hcap
      have HCUT : Aside0 ((l.take n).length = (j + (n : Int)).toNat - j.toNat ∧ (l.take n).length ≤ c - j.toNat ∧ Kd.C (Kd.int .u8) w0 (if c = j.toNat then A else A.map (·.add (j.toNat * 1))) (l.take n).length (l.take n)) := ⟨by
        obtain ⟨pre, hp⟩ := HS.out
        have hpj : j.toNat = pre.length := by rw [HJ.out]; unfold pl; rw [hp, List.length_append]; omega
        have hx : (b.take (j.toNat + n)).drop j.toNat = l.take n := by
          rw [hpj, hp, List.take_append, List.drop_append]
          simp
        have hm := Kd.C_mid (k := Kd.int .u8) (lo := j.toNat) (hi := j.toNat + n) HC.out (by omega) (by omega) hcap
        rw [hx] at hm
        have hl3 : (l.take n).length = n := by rw [List.length_take]; omega
        refine ⟨by rw [hl3]; omega, by rw [hl3]; omega, hm⟩⟩
      obtain ⟨A1, hA1⟩ : ∃ A1, A1 = (if c = j.toNat then A else A.map (·.add (j.toNat * 1))) := ⟨_, rfl⟩
      rw [← hA1] at hcut HCUT
      obtain ⟨n1, hn1⟩ : ∃ n1, n1 = (j + (n : Int)).toNat - j.toNat := ⟨_, rfl⟩
      rw [← hn1] at hcut HCUT
      obtain ⟨c1, hc1⟩ : ∃ c1, c1 = c - j.toNat := ⟨_, rfl⟩
      rw [← hc1] at hcut HCUT
      clear hA1 hn1 hc1
      go_wp2_with fail
      go_quiet (fail)
      go_wp2_with fail
      go_quiet (fail)
      go_wp2_with fail
      go_ret
      refine ⟨l.take n, A1, c1, .ok () (l.drop n), by rw [HCUT.out.1]; rfl, HCUT.out.2.1, HCUT.out.2.2, ⟨j + (n : Int), false, (HI.out.drewN _).set_1 _, ⟨rfl, ?_, by rw [HJ.out]; unfold pl; rw [List.length_drop]; omega⟩, below_set (pw_below_drewN HB.out _) (IsS132.ge HI.out)⟩, by simp only [Post]; rw [HQ.out]; exact ⟨rfl, rfl⟩, (keep_drewN (KeepBut.refl _ _ _) _).set_ _ _, List.length_take_le _ _⟩
      obtain ⟨pre, hp⟩ := HS.out
      exact ⟨pre ++ l.take n, by rw [hp, List.append_assoc, List.take_append_drop]⟩
end Go.Proofs.Ytpgdmmjbhjbbhaa.Rf
end
section
namespace Go.Proofs.Ytpgdmmjbhjbbhaa.Rf
open Go Go.RowKit Go.Proofs.Ytpgdmmjbhjbbhaa.P Go.Proofs.Ytpgdmmjbhjbbhaa.Sp Go.Proofs.Ytpgdmmjbhjbbhaa.Vd Go.Proofs.Ytpgdmmjbhjbbhaa.En Go.Proofs.Ytpgdmmjbhjbbhaa.Wr Go.Proofs.Ytpgdmmjbhjbbhaa.Lw Go.Proofs.YtpgdmmjbhjbbhaaW.PrintWords Go.Proofs.YtpgdmmjbhjbbhaaW.PrintLast Go.Proofs.YtpgdmmjbhjbbhaaW.PrintMore
open Go.Proofs.Ytpgdmmjbhjbbhaa.Rd (pl nameIn_ok nameIn_no nameIn_bad)
attribute [local go_sem] Go.Proofs.Ytpgdmmjbhjbbhaa.StrLe.leq_str Go.Proofs.Ytpgdmmjbhjbbhaa.StrLe.gtr_str
set_option linter.unusedVariables false
set_option linter.unusedSimpArgs false
end Go.Proofs.Ytpgdmmjbhjbbhaa.Rf
end
section
namespace Go.Proofs.Ytpgdmmjbhjbbhaa.Rf
open Go Go.RowKit Go.Proofs.Ytpgdmmjbhjbbhaa.P Go.Proofs.Ytpgdmmjbhjbbhaa.Sp Go.Proofs.Ytpgdmmjbhjbbhaa.Vd Go.Proofs.Ytpgdmmjbhjbbhaa.En Go.Proofs.Ytpgdmmjbhjbbhaa.Wr Go.Proofs.Ytpgdmmjbhjbbhaa.Lw Go.Proofs.YtpgdmmjbhjbbhaaW.PrintWords Go.Proofs.YtpgdmmjbhjbbhaaW.PrintLast Go.Proofs.YtpgdmmjbhjbbhaaW.PrintMore
open Go.Proofs.Ytpgdmmjbhjbbhaa.Rd (pl setRow_far setRow_blk)
set_option linter.unusedVariables false
set_option linter.unusedSimpArgs false
theorem IsS_heap {w0 W W1 : World} {g : Nat} {f0 : List Int} {f1 : Int} {f2 : Bool} (h : IsS132 w0 W g f0 f1 f2) (hq : W1.heap[g]? = W.heap[g]?) : IsS132 w0 W1 g f0 f1 f2 := by
  obtain ⟨A0, c0, hb, hg, hr0⟩ := h
  exact ⟨A0, c0, hq.trans hb, hg, hr0⟩
theorem RSt.lt {w0 w : World} {g : Nat} {b : List Int} {s : R Unit} (h : RSt w0 w g b s) : g < w.heap.size := by
  obtain ⟨at_, wr, h1, h2, h3⟩ := h
  exact h1.lt
theorem RSt.other {w0 w : World} {g : Nat} {b : List Int} {s : R Unit} (h : RSt w0 w g b s) {k : Nat} (hk : k ≠ g) (hg : w0.heap.size ≤ k) (j : Nat) (v : Value) : RSt w0 (w.setCell ⟨k, j, none⟩ v) g b s := by
  obtain ⟨at_, wr, h1, h2, h3⟩ := h
  exact ⟨at_, wr, h1.far (fun e => hk e.symm) v, h2, below_set h3 hg⟩
theorem RSt.row {w0 w : World} {g : Nat} {b : List Int} {s : R Unit} (h : RSt w0 w g b s) {k : Nat} (hk : k ≠ g) (hg : w0.heap.size ≤ k) (cs : Array Value) : RSt w0 (w.setRow k cs) g b s := by
  obtain ⟨at_, wr, h1, h2, h3⟩ := h
  exact ⟨at_, wr, IsS_heap h1 (setRow_far (fun e => hk e.symm) cs), h2, below_setRow h3 hg cs⟩
theorem kb1 {w w1 : World} {g k : Nat} {o : Obj} (h : KeepBut w w1 g none) (hk : k ≠ g) (hb : w.heap[k]? = some o) : w1.heap[k]? = some o := h.blk hb hk (by simp)
/-- A block's rows behind a store. -/
theorem blk_upd {w : World} {k j : Nat} {t : TypeId} {cs cs2 : Array Value} {v : Value} (h : w.heap[k]? = some (.cells cs t (0, 0))) (hc : cs.setIfInBounds j v = cs2) : (w.setCell ⟨k, j, none⟩ v).heap[k]? = some (.cells cs2 t (0, 0)) := by
  subst hc
  simpa using blk_set h j v
end Go.Proofs.Ytpgdmmjbhjbbhaa.Rf
end
section
namespace Go.Proofs.Ytpgdmmjbhjbbhaa.Rf
open Go Go.RowKit Go.Proofs.Ytpgdmmjbhjbbhaa.P Go.Proofs.Ytpgdmmjbhjbbhaa.Sp Go.Proofs.Ytpgdmmjbhjbbhaa.Vd Go.Proofs.Ytpgdmmjbhjbbhaa.En Go.Proofs.Ytpgdmmjbhjbbhaa.Wr Go.Proofs.Ytpgdmmjbhjbbhaa.Lw Go.Proofs.YtpgdmmjbhjbbhaaW.PrintWords Go.Proofs.YtpgdmmjbhjbbhaaW.PrintLast Go.Proofs.YtpgdmmjbhjbbhaaW.PrintMore
open Go.Proofs.Ytpgdmmjbhjbbhaa.Rd (pl In setRow_far setRow_blk CVc OVc DecQP results_two_two blk_as)
set_option linter.unusedVariables false
set_option linter.unusedSimpArgs false
/-- What the end says, and what is read in whole. -/
theorem done_whole {α : Type} {p : Rdr α} {b : List Int} {x : α} {s : R Unit} (h : Post p (.ok () b) x s) (z : α) : (doneV b s = (0, 0) ∧ whole z p b = (x, 0, 0)) ∨ ∃ pt, doneV b s = (pt, 20) ∧ whole z p b = (z, pt, 20) := by
  simp only [Post] at h
  unfold whole
  cases hp : p b with
  | bad n =>
    rw [hp] at h
    subst h
    exact .inr ⟨_, rfl, rfl⟩
  | ok y r =>
    rw [hp] at h
    simp only at h
    obtain ⟨rfl, rfl⟩ := h
    cases r with
    | nil => exact .inl ⟨rfl, rfl⟩
    | cons c l =>
      refine .inr ⟨_, rfl, ?_⟩
      simp only [pl, List.length_cons]
      push_cast
      rfl
/-- The reader as it begins. -/
theorem RSt.new {w W : World} {A : Option Addr} {c : Nat} {b : List Int} (hB : Below w.heap.size w W) (hc : b.length ≤ c) (hC : Kd.C (Kd.int .u8) w A b.length b) {g : Nat} {W1 : World} (hb : W1.heap[g]? = some (.cells #[.slice A b.length c, .int .i64 0, .bool false] 132 (0, 0))) (hg : g = W.heap.size) (h1 : Below W.heap.size W W1) : RSt w W1 g b (.ok () b) :=
  ⟨0, false, ⟨A, c, hb, ⟨by rw [hg]; exact hB.size, hc⟩, hC⟩, ⟨rfl, ⟨[], rfl⟩, by unfold pl; omega⟩, hB.trans (h1.mono hB.size)⟩
theorem blk_is {w : World} {g : Nat} {t : TypeId} {cs cs2 : Array Value} (h : w.heap[g]? = some (.cells cs t (0, 0))) (e : cs = cs2) : w.heap[g]? = some (.cells cs2 t (0, 0)) := e ▸ h
end Go.Proofs.Ytpgdmmjbhjbbhaa.Rf
end
section
namespace Go.Proofs.Ytpgdmmjbhjbbhaa.Rf
open Go Go.RowKit Go.Proofs.Ytpgdmmjbhjbbhaa.P Go.Proofs.Ytpgdmmjbhjbbhaa.Sp Go.Proofs.Ytpgdmmjbhjbbhaa.Vd Go.Proofs.Ytpgdmmjbhjbbhaa.En Go.Proofs.Ytpgdmmjbhjbbhaa.Wr Go.Proofs.Ytpgdmmjbhjbbhaa.Lw Go.Proofs.YtpgdmmjbhjbbhaaW.PrintWords Go.Proofs.YtpgdmmjbhjbbhaaW.PrintLast Go.Proofs.YtpgdmmjbhjbbhaaW.PrintMore
open Go.Proofs.Ytpgdmmjbhjbbhaa.Rd (pl In setRow_far setRow_blk RVc DecRP results_cell_two inf50)
set_option linter.unusedVariables false
set_option linter.unusedSimpArgs false
end Go.Proofs.Ytpgdmmjbhjbbhaa.Rf
end
section
namespace Go.Proofs.Ytpgdmmjbhjbbhaa.Rf
open Go Go.RowKit Go.Proofs.Ytpgdmmjbhjbbhaa.P Go.Proofs.Ytpgdmmjbhjbbhaa.Sp Go.Proofs.Ytpgdmmjbhjbbhaa.Vd Go.Proofs.Ytpgdmmjbhjbbhaa.En Go.Proofs.Ytpgdmmjbhjbbhaa.Wr Go.Proofs.Ytpgdmmjbhjbbhaa.Lw Go.Proofs.YtpgdmmjbhjbbhaaW.PrintWords Go.Proofs.YtpgdmmjbhjbbhaaW.PrintLast Go.Proofs.YtpgdmmjbhjbbhaaW.PrintMore
open Go.Proofs.Ytpgdmmjbhjbbhaa.Rd (pl In setRow_far setRow_blk SGc DecSP results_cell_two inf47 R_keep2 sg_one)
set_option linter.unusedVariables false
set_option linter.unusedSimpArgs false
/-- The segment's numbers are read: what is left is its length and its data. -/
def segTail (f t q a : Int) : Rdr Seg := bnd (numP (if q = 0 then 0 else 1) (if q = 0 then 0 else 4000)) fun n => bnd (takeP n.toNat) fun d => ret ⟨f, t, q, a, d⟩
set_option maxHeartbeats 8000000 in
set_option maxRecDepth 100000 in
theorem rdecseg_calls (w : World) (A : Option Addr) (c : Nat) (b : List Int) (hi : In w A c b) :
    Calls Try.prog 71 #[.slice A b.length c] w fun e w' => DecSP w (whole zSeg segP b) e w' := by
  have HI := Aside0.mk hi
  have HS : Aside0 (Src b) := ⟨⟨hi.len, hi.isB⟩⟩
  obtain ⟨wa, hwa⟩ : ∃ wa, wa = w.alloc (.cells #[.int .i64 0, .int .i64 0, .int .i64 0, .int .i64 0, .slice none 0 0] 47 (0, 0)) := ⟨_, rfl⟩
  have HWA := Aside0.mk hwa
  have HB : Aside0 (Below w.heap.size w wa ∧ wa.heap.size = w.heap.size + 1 ∧ wa.heap[w.heap.size]? = some (.cells (SGc 0 0 0 0 (.slice none 0 0)) 47 (0, 0))) := ⟨by rw [hwa]; exact ⟨al_below w _, by simp, heap_alloc_new w _⟩⟩
  have hu47 := Try.underlying47
  clear hwa hi
  go_enter Try.func71, Try.ntmps71
  go_upto_region 1 with fail
  rw [← HWA.out]
  go_upto_region 2 with ((with_reducible refine gate_dst (N := 12) rfl ?_); refine box_event ?hg (N := 12) ?hd (cs := #[.slice A b.length c, .int .i64 0, .bool false]) (t := 132) ?hr ?_; (case hd => rfl); (case hg => rfl); (case hr => first | (go_simp; done) | (go_simp; rfl)); intro g hg w1 hbox hb; have H1 : Aside0 (RSt w w1 g b (.ok () b) ∧ w1.heap[w.heap.size]? = some (.cells (SGc 0 0 0 0 (.slice none 0 0)) 47 (0, 0)) ∧ w.heap.size < g ∧ g < w1.heap.size) := ⟨RSt.new HB.out.1 HI.out.cap HI.out.row hbox hg hb, blk_keep hb HB.out.2.2, by rw [hg, HB.out.2.1]; omega, blk_lt hbox⟩; clear hg hbox hb)
  have HN : Aside0 (w.heap.size ≠ g) := ⟨by have := H1.out.2.2.1; omega⟩
  go_upto_region 3 with (first
    | (go_at_call 102; refine (num_calls w _ g b _ 0 15 (by decide) (by decide) (by decide) HS.out H1.out.1).mono ?_; rintro e w2 ⟨f, s1, rfl, h1, p1, k1, -, -⟩; have H2 : Aside0 (RSt w w2 g b s1 ∧ Post (numP 0 15) (.ok () b) f s1 ∧ w2.heap[w.heap.size]? = some (.cells (SGc 0 0 0 0 (.slice none 0 0)) 47 (0, 0))) := ⟨h1, p1, kb1 k1 HN.out H1.out.2.1⟩; clear h1 p1 k1)
    | ((with_reducible refine gate_dst (N := 6) rfl ?_); refine box_event ?hg (N := 6) ?hd (cs := #[.int .i64 0, .int .i64 0, .int .i64 0, .int .i64 0, .slice none 0 0]) (t := 47) ?hr ?_; (case hd => rfl); (case hg => rfl); (case hr => first | (go_simp; done) | (go_simp; rfl)); intro gc hg w3 hbox hb; have HG : Aside0 (w.heap.size < gc ∧ gc ≠ g) := ⟨by have := H1.out.2.2.1; have := H2.out.1.lt; omega⟩; have H3 := Aside0.mk (And.intro (H2.out.1.below hb) (And.intro (blk_keep hb H2.out.2.2) hbox)); clear hg hb hbox; go_loud (refine wpList_store_row rfl 47 (.tmp 6) (.tmp 15) rfl gc (SGc f 0 0 0 (.slice none 0 0)) (by rfl) (by rfl) 47 _ H3.out.2.2 inf47 rfl (by simp [SGc, Value.oneCell']) ?_)))
  obtain ⟨w4, hw4⟩ : ∃ w4, w4 = w3.setRow gc (SGc f 0 0 0 (.slice none 0 0)) := ⟨_, rfl⟩
  have H4 : Aside0 (RSt w w4 g b s1 ∧ w4.heap[w.heap.size]? = some (.cells (SGc 0 0 0 0 (.slice none 0 0)) 47 (0, 0)) ∧ w4.heap[gc]? = some (.cells (SGc f 0 0 0 (.slice none 0 0)) 47 (0, 0))) := ⟨by
    rw [hw4]
    exact ⟨H3.out.1.row HG.out.2 (Nat.le_of_lt HG.out.1) _, (setRow_far (by have := HG.out.1; omega) _).trans H3.out.2.1, setRow_blk H3.out.2.2 _⟩⟩
  have HP1 := Aside0.mk H2.out.2.1
  (try simp only [Act.put, List.setIfInBounds_toArray, List.set_cons_zero, List.set_cons_succ])
  rw [← hw4]
  clear hw4 H2 H3 H1
  go_upto_region 6 with (first
    | (go_at_call 102; refine (num_calls w _ g b s3 0 1099511627776 (by decide) (by decide) (by decide) HS.out (H6.out.1.other HG.out.2 (Nat.le_of_lt HG.out.1) 2 _)).mono ?_; rintro e w7 ⟨a, s4, rfl, h1, p1, k1, -, -⟩; have H7 := Aside0.mk (And.intro h1 (And.intro p1 (And.intro (kb1 k1 HN.out (blk_far H6.out.2.2.1 (Nat.ne_of_lt HG.out.1) _)) (kb1 k1 HG.out.2 (blk_upd (cs2 := SGc f t q 0 (.slice none 0 0)) H6.out.2.2.2 rfl))))); clear h1 p1 k1 kc kf; have kc : w7.cell? ⟨gc, 3, none⟩ = some (.int .i64 0) := (blk_cell H7.out.2.2.2 3).trans rfl; have kf := blk_frozen H7.out.2.2.2 3)
    | (go_at_call 102; refine (num_calls w _ g b s2 0 1099511627776 (by decide) (by decide) (by decide) HS.out (H5.out.1.other HG.out.2 (Nat.le_of_lt HG.out.1) 1 _)).mono ?_; rintro e w6 ⟨q, s3, rfl, h1, p1, k1, -, -⟩; have H6 := Aside0.mk (And.intro h1 (And.intro p1 (And.intro (kb1 k1 HN.out (blk_far H5.out.2.2.1 (Nat.ne_of_lt HG.out.1) _)) (kb1 k1 HG.out.2 (blk_upd (cs2 := SGc f t 0 0 (.slice none 0 0)) H5.out.2.2.2 rfl))))); clear h1 p1 k1 kc kf; have kc : w6.cell? ⟨gc, 2, none⟩ = some (.int .i64 0) := (blk_cell H6.out.2.2.2 2).trans rfl; have kf := blk_frozen H6.out.2.2.2 2)
    | (go_at_call 102; refine (num_calls w _ g b s1 0 15 (by decide) (by decide) (by decide) HS.out H4.out.1).mono ?_; rintro e w5 ⟨t, s2, rfl, h1, p1, k1, -, -⟩; have H5 := Aside0.mk (And.intro h1 (And.intro p1 (And.intro (kb1 k1 HN.out H4.out.2.1) (kb1 k1 HG.out.2 H4.out.2.2)))); clear h1 p1 k1; have kc : w5.cell? ⟨gc, 1, none⟩ = some (.int .i64 0) := (blk_cell H5.out.2.2.2 1).trans rfl; have kf := blk_frozen H5.out.2.2.2 1))
  obtain ⟨w8, hw8⟩ : ∃ w8, w8 = w7.setCell ⟨gc, 3, none⟩ (.int .i64 a) := ⟨_, rfl⟩
  have H8 : Aside0 (RSt w w8 g b s4 ∧ w8.heap[w.heap.size]? = some (.cells (SGc 0 0 0 0 (.slice none 0 0)) 47 (0, 0)) ∧ w8.heap[gc]? = some (.cells (SGc f t q a (.slice none 0 0)) 47 (0, 0))) := ⟨by
    rw [hw8]
    exact ⟨H7.out.1.other HG.out.2 (Nat.le_of_lt HG.out.1) 3 _, blk_far H7.out.2.2.1 (Nat.ne_of_lt HG.out.1) _, blk_upd (cs2 := SGc f t q a (.slice none 0 0)) H7.out.2.2.2 rfl⟩⟩
  have HPT : Aside0 (∀ x s', Post (segTail f t q a) s4 x s' → Post segP (.ok () b) x s') := ⟨fun x s' h => HP1.out.bnd (H5.out.2.1.bnd (H6.out.2.1.bnd (H7.out.2.1.bnd h)))⟩
  rw [← hw8]
  clear hw8 H4 H5 H6 H7 HP1 kc kf
  have kq : w8.cell? ⟨gc, 2, none⟩ = some (.int .i64 q) := (blk_cell H8.out.2.2 2).trans rfl
  by_cases hz : q = 0
  case' pos =>
    have hz2 : (q == 0) = true := by simp [hz]
    have HZZ : (numP (if q = 0 then 0 else 1) (if q = 0 then 0 else 4000)) = numP 0 0 := by rw [if_pos hz, if_pos hz]
    go_upto_region 10 with (go_at_call 102; refine (num_calls w _ g b s4 0 0 (by decide) (by decide) (by decide) HS.out H8.out.1).mono ?_; rintro e w9 ⟨n, s5, rfl, h1, p1, k1, r0, r1⟩; obtain ⟨n, rfl⟩ : ∃ m : Nat, n = (m : Int) := ⟨n.toNat, by omega⟩; have H9 : Aside0 (RSt w w9 g b s5 ∧ w9.heap[w.heap.size]? = some (.cells (SGc 0 0 0 0 (.slice none 0 0)) 47 (0, 0)) ∧ w9.heap[gc]? = some (.cells (SGc f t q a (.slice none 0 0)) 47 (0, 0)) ∧ n ≤ 4000) := ⟨h1, kb1 k1 HN.out H8.out.2.1, kb1 k1 HG.out.2 H8.out.2.2, by omega⟩; have HT : Aside0 (∀ d s', Post (takeP n) s5 d s' → Post segP (.ok () b) ⟨f, t, q, a, d⟩ s') := ⟨fun d s' hd => HPT.out _ _ (by rw [segTail, HZZ]; exact p1.bnd (by rw [Int.toNat_natCast]; exact hd.bnd (Post.ret _ _)))⟩; clear h1 p1 k1 r0 r1)
    clear hz hz2 HZZ
  case' neg =>
    have hz2 : (q == 0) = false := by simp [hz]
    have HZZ : (numP (if q = 0 then 0 else 1) (if q = 0 then 0 else 4000)) = numP 1 4000 := by rw [if_neg hz, if_neg hz]
    go_upto_region 10 with (go_at_call 102; refine (num_calls w _ g b s4 1 4000 (by decide) (by decide) (by decide) HS.out H8.out.1).mono ?_; rintro e w9 ⟨n, s5, rfl, h1, p1, k1, r0, r1⟩; obtain ⟨n, rfl⟩ : ∃ m : Nat, n = (m : Int) := ⟨n.toNat, by omega⟩; have H9 : Aside0 (RSt w w9 g b s5 ∧ w9.heap[w.heap.size]? = some (.cells (SGc 0 0 0 0 (.slice none 0 0)) 47 (0, 0)) ∧ w9.heap[gc]? = some (.cells (SGc f t q a (.slice none 0 0)) 47 (0, 0)) ∧ n ≤ 4000) := ⟨h1, kb1 k1 HN.out H8.out.2.1, kb1 k1 HG.out.2 H8.out.2.2, by omega⟩; have HT : Aside0 (∀ d s', Post (takeP n) s5 d s' → Post segP (.ok () b) ⟨f, t, q, a, d⟩ s') := ⟨fun d s' hd => HPT.out _ _ (by rw [segTail, HZZ]; exact p1.bnd (by rw [Int.toNat_natCast]; exact hd.bnd (Post.ret _ _)))⟩; clear h1 p1 k1 r0 r1)
    clear hz hz2 HZZ
  all_goals
    refine start_ (n := 8) (S := fun w' => w'.heap[gc]? = some (.cells (SGc f t q a (.slice none 0 0)) 47 (0, 0))) (ds := [7]) #[false, false, false, false, false, false, false, false] (by kernel_rfl) rfl rfl (blk_drew H9.out.2.2.1) (fun hHeld => ?_)
    refine pure_ (i := 0) (N := some 32) (v := ?_) (a' := ?_) #[true, false, false, false, false, false, false, false] rfl rfl (by kernel_rfl) (fun _ _ _ h => h) (Or.inl ⟨by rfl, ?_⟩) ?_ ?_
    rotate_left
    · intro w'
      go_simp
      with_reducible rfl
    rotate_left
    · simp only [Act.put, List.setIfInBounds_toArray, List.set_cons_zero, List.set_cons_succ, i64_w, i32_w]
      rfl
    refine take_ (i := 1) (N := some 33) (v := .slice none 0 0) (a' := ?_) #[true, true, false, false, false, false, false, false] rfl rfl (by kernel_rfl) (fun _ _ _ h => h) (Or.inl ⟨by rfl, ?_⟩) hHeld ?_ ?_
    · intro w' hS
      have hz : w'.cell? ⟨gc, 4, none⟩ = some (.slice none 0 0) := (blk_cell hS 4).trans rfl
      go_simp
    rotate_left
    · simp only [Act.put, List.setIfInBounds_toArray, List.set_cons_zero, List.set_cons_succ, i64_w, i32_w]
      rfl
    refine pure_ (i := 2) (N := some 34) (v := ?_) (a' := ?_) #[true, true, true, false, false, false, false, false] rfl rfl (by kernel_rfl) (fun _ _ _ h => h) (Or.inl ⟨by rfl, ?_⟩) ?_ ?_
    rotate_left
    · intro w'
      go_simp
      with_reducible rfl
    rotate_left
    · simp only [Act.put, List.setIfInBounds_toArray, List.set_cons_zero, List.set_cons_succ, i64_w, i32_w]
      rfl
    refine pure_ (i := 3) (N := some 35) (v := ?_) (a' := ?_) #[true, true, true, true, false, false, false, false] rfl rfl (by kernel_rfl) (fun _ _ _ h => h) (Or.inl ⟨by rfl, ?_⟩) ?_ ?_
    rotate_left
    · intro w'
      go_simp
      with_reducible rfl
    rotate_left
    · simp only [Act.put, List.setIfInBounds_toArray, List.set_cons_zero, List.set_cons_succ, i64_w, i32_w]
      rfl
    refine one_ (i := 4) (N := some 36) #[true, true, true, true, true, false, false, false] rfl rfl (by kernel_rfl) (by decide) (fun K hK => ?_)
    refine goes_ Try.func103 (by kernel_rfl) rfl #[.pointer (some ⟨g, 0, none⟩), .int .i64 (n : Int)] (by rfl) rfl rfl (by (try simp only [List.map_toArray, List.map_cons, List.map_nil]); first | done | rfl) ?_
    refine (take_calls w _ g b s5 n (by have := H9.out.2.2.2; omega) HS.out (H9.out.1.below (below_drew1 (Below.refl _ _)))).mono ?_
    rintro e w10 ⟨d, A1, c1, s6, rfl, hc1, hC, h1, p1, k1, hl⟩
    have H10 : Aside0 (RSt w w10 g b s6 ∧ Post segP (.ok () b) ⟨f, t, q, a, d⟩ s6 ∧ w10.heap[w.heap.size]? = some (.cells (SGc 0 0 0 0 (.slice none 0 0)) 47 (0, 0)) ∧ w10.heap[gc]? = some (.cells (SGc f t q a (.slice none 0 0)) 47 (0, 0)) ∧ d.length ≤ 4000) := ⟨h1, HT.out _ _ p1, kb1 k1 HN.out (blk_drew H9.out.2.1), kb1 k1 HG.out.2 (blk_drew H9.out.2.2.1), by have := H9.out.2.2.2; omega⟩
    have HC := Aside0.mk (Kd.C_below hC h1.bel)
    clear hc1 hC h1 p1 k1 hl
    refine ⟨_, rfl, ?_⟩
    refine hK.out _ _ H10.out.2.2.2.1 (fun hHeld => ?_)
    clear hK K
    refine norm_ (a' := ?_) ?_ ?_
    rotate_left
    · show Act.put _ (some 36) _ = _
      simp only [Act.put, List.setIfInBounds_toArray, List.set_cons_zero, List.set_cons_succ, i64_w, i32_w]
      rfl
    refine one_ (i := 5) (N := some 37) #[true, true, true, true, true, true, false, false] rfl rfl (by kernel_rfl) (by decide) (fun K hK => ?_)
    refine Kd.R_append_rows_step (Kd.int .u8) (Rr := Kd.K (Kd.int .u8) w10) (w0 := w10) w10.heap.size (by rfl) (.tmp 33) (.tmp 36) 36 5 (.int .u8 0) 1 (by rfl) Try.underlying36 inf8 rfl (by decide) (by decide) (.slice none 0 0) [] d A1 d.length c1 (fun _ => True) (fun _ => False) (by rfl) (by rfl) (Kd.R_nil _ _ _ _ _) HC.out kM8 (fun _ hk => hk.elim) (fun _ _ => trivial) (Below.refl _ _) (Nat.le_refl _) (by have := H10.out.2.2.2.2; simp; omega) ?_
    intro v w11 hR hB hg hat
    rw [List.nil_append] at hR
    obtain ⟨Av, cv, rfl⟩ := Kd.R_slice hR
    have H11 : Aside0 (RSt w w11 g b s6 ∧ w11.heap[w.heap.size]? = some (.cells (SGc 0 0 0 0 (.slice none 0 0)) 47 (0, 0)) ∧ w11.heap[gc]? = some (.cells (SGc f t q a (.slice none 0 0)) 47 (0, 0)) ∧ gc < w10.heap.size) := ⟨H10.out.1.below hB, blk_keep hB H10.out.2.2.1, blk_keep hB H10.out.2.2.2.1, blk_lt H10.out.2.2.2.1⟩
    have HR := Aside0.mk hR
    clear hR hB hg hat
    refine hK.out _ _ H11.out.2.2.1 (fun hHeld => ?_)
    clear hK K
    refine norm_ (a' := ?_) ?_ ?_
    rotate_left
    · show Act.put _ (some 37) _ = _
      simp only [Act.put, List.setIfInBounds_toArray, List.set_cons_zero, List.set_cons_succ, i64_w, i32_w]
      rfl
    refine pure_ (i := 6) (N := some 38) (v := ?_) (a' := ?_) #[true, true, true, true, true, true, true, false] rfl rfl (by kernel_rfl) (fun _ _ _ h => h) (Or.inl ⟨by rfl, ?_⟩) ?_ ?_
    rotate_left
    · intro w'
      go_simp
      with_reducible rfl
    rotate_left
    · simp only [Act.put, List.setIfInBounds_toArray, List.set_cons_zero, List.set_cons_succ, i64_w, i32_w]
      rfl
    refine last_ (i := 7) (N := none) #[true, true, true, true, true, true, true, true] rfl rfl (by kernel_rfl) (by decide) (fun K hK => ?_)
    have kc : w11.cell? ⟨gc, 4, none⟩ = some (.slice none 0 0) := (blk_cell H11.out.2.2.1 4).trans rfl
    have kf := blk_frozen H11.out.2.2.1 4
    refine skip_ (w1 := ?_) (by rfl) rfl ?_ ?_
    rotate_left
    · go_simp
      rfl
    refine hK.out _ _ ?_
    clear hK K kc kf
    refine done_ (by kernel_rfl) ?_
    obtain ⟨w12, hw12⟩ : ∃ w12, w12 = w11.setCell ⟨gc, 4, none⟩ (.slice Av d.length cv) := ⟨_, rfl⟩
    have HLT : Aside0 (g < w10.heap.size ∧ w.heap.size < w10.heap.size ∧ gc < w10.heap.size) := ⟨⟨H10.out.1.lt, blk_lt H10.out.2.2.1, H11.out.2.2.2⟩⟩
    have H12 : Aside0 (RSt w w12 g b s6 ∧ w12.heap[w.heap.size]? = some (.cells (SGc 0 0 0 0 (.slice none 0 0)) 47 (0, 0)) ∧ w12.heap[gc]? = some (.cells (SGc f t q a (.slice Av d.length cv)) 47 (0, 0)) ∧ Kd.R (Kd.int .u8) 5 w12 w10.heap.size (fun _ => True) (.slice Av d.length cv) d) := ⟨by
      rw [hw12]
      exact ⟨H11.out.1.other HG.out.2 (Nat.le_of_lt HG.out.1) 4 _, blk_far H11.out.2.1 (Nat.ne_of_lt HG.out.1) _, blk_upd (cs2 := SGc f t q a (.slice Av d.length cv)) H11.out.2.2.1 rfl, R_keep2 (w1 := w11) HR.out (fun k h1 h2 => Below.heap_setCell w11 ⟨gc, 4, none⟩ _ k (fun e => by have : k = gc := e; have := HLT.out; omega))⟩⟩
    have HP := Aside0.mk H10.out.2.1
    rw [← hw12]
    clear hw12 H11 HR HC
    obtain ⟨dv, hdv⟩ : ∃ dv, dv = doneV b s6 := ⟨_, rfl⟩
    have HDV := Aside0.mk hdv
    clear hdv
    go_upto_region 12 with (go_at_call 93; refine (done_calls w _ g b _ HS.out H12.out.1).mono ?_; rintro e w13 ⟨rfl, h1, k1⟩; rw [← HDV.out]; have H13 : Aside0 (Below w.heap.size w w13 ∧ w13.heap[w.heap.size]? = some (.cells (SGc 0 0 0 0 (.slice none 0 0)) 47 (0, 0)) ∧ w13.heap[gc]? = some (.cells (SGc f t q a (.slice Av d.length cv)) 47 (0, 0))) := ⟨h1.bel, kb1 k1 HN.out H12.out.2.1, kb1 k1 HG.out.2 H12.out.2.2.1⟩; have HR13 : Aside0 (Kd.R (Kd.int .u8) 5 w13 w10.heap.size (fun _ => True) (.slice Av d.length cv) d) := ⟨R_keep2 (w1 := w12) H12.out.2.2.2 (fun k h2 h3 => k1.2 k h2 (by have := HLT.out; omega) (by simp))⟩; clear h1 k1)
    obtain ⟨d1, d2⟩ := dv
    rcases done_whole HP.out zSeg with ⟨hd, hW⟩ | ⟨pt, hd, hW⟩
    · have hd2 := HDV.out.trans hd
      injection hd2 with e1 e2
      subst e1 e2
      have HW := Aside0.mk hW
      clear hd hW
      have kc0 : w13.cell? ⟨w.heap.size, 0, none⟩ = some (.int .i64 0) := (blk_cell H13.out.2.1 0).trans rfl
      have kcf0 := blk_frozen H13.out.2.1 0
      have kc1 : w13.cell? ⟨w.heap.size, 1, none⟩ = some (.int .i64 0) := (blk_cell H13.out.2.1 1).trans rfl
      have kcf1 := blk_frozen H13.out.2.1 1
      have kc2 : w13.cell? ⟨w.heap.size, 2, none⟩ = some (.int .i64 0) := (blk_cell H13.out.2.1 2).trans rfl
      have kcf2 := blk_frozen H13.out.2.1 2
      have kc3 : w13.cell? ⟨w.heap.size, 3, none⟩ = some (.int .i64 0) := (blk_cell H13.out.2.1 3).trans rfl
      have kcf3 := blk_frozen H13.out.2.1 3
      have kc4 : w13.cell? ⟨w.heap.size, 4, none⟩ = some (.slice none 0 0) := (blk_cell H13.out.2.1 4).trans rfl
      have kcf4 := blk_frozen H13.out.2.1 4
      have kx0 : w13.cell? ⟨gc, 0, none⟩ = some (.int .i64 f) := (blk_cell H13.out.2.2 0).trans rfl
      have kx1 : w13.cell? ⟨gc, 1, none⟩ = some (.int .i64 t) := (blk_cell H13.out.2.2 1).trans rfl
      have kx2 : w13.cell? ⟨gc, 2, none⟩ = some (.int .i64 q) := (blk_cell H13.out.2.2 2).trans rfl
      have kx3 : w13.cell? ⟨gc, 3, none⟩ = some (.int .i64 a) := (blk_cell H13.out.2.2 3).trans rfl
      have kx4 : w13.cell? ⟨gc, 4, none⟩ = some (.slice Av d.length cv) := (blk_cell H13.out.2.2 4).trans rfl
      have hn1 : w.heap.size ≠ gc := by have := HG.out; omega
      have hn2 := Ne.symm hn1
      go_wp2
      (try simp only [Exit.inBlock, Exit.then])
      have he := blk_set (blk_set (blk_set (blk_set (blk_set H13.out.2.1 0 (.int .i64 f)) 1 (.int .i64 t)) 2 (.int .i64 q)) 3 (.int .i64 a)) 4 (.slice Av d.length cv)
      refine bodyPost_ret (v := .tuple #[.agg (SGc f t q a (.slice Av d.length cv)), .int .i64 0, .int .i64 0]) ?_ rfl ?_
      · exact results_cell_two (fn := Try.f71) (p := 2) (q := 3) (r := 4) rfl _ _ w.heap.size 47 _ (0, 0) _ (by rfl) (blk_is he (cs2 := SGc f t q a (.slice Av d.length cv)) rfl) hu47 rfl inf47
      refine ⟨(((((H13.out.1.setCell (Nat.le_refl _) _).setCell (Nat.le_refl _) _).setCell (Nat.le_refl _) _).setCell (Nat.le_refl _) _).setCell (Nat.le_refl _) _), Av, cv, ?_, ?_⟩
      · rw [HW.out]; rfl
      · rw [HW.out]; exact Kd.R_lower (R_keep2 (w1 := w13) HR13.out (fun k h1 h2 => ((((Below.heap_setCell _ ⟨w.heap.size, 4, none⟩ _ k (fun e => by have : k = w.heap.size := e; have := HLT.out; omega)).trans (Below.heap_setCell _ ⟨w.heap.size, 3, none⟩ _ k (fun e => by have : k = w.heap.size := e; have := HLT.out; omega))).trans (Below.heap_setCell _ ⟨w.heap.size, 2, none⟩ _ k (fun e => by have : k = w.heap.size := e; have := HLT.out; omega))).trans (Below.heap_setCell _ ⟨w.heap.size, 1, none⟩ _ k (fun e => by have : k = w.heap.size := e; have := HLT.out; omega))).trans (Below.heap_setCell _ ⟨w.heap.size, 0, none⟩ _ k (fun e => by have : k = w.heap.size := e; have := HLT.out; omega)))) (by have := HLT.out; omega)
    · have hd2 := HDV.out.trans hd
      injection hd2 with e1 e2
      subst e1 e2
      have HW := Aside0.mk hW
      clear hd hW
      have kc0 : w13.cell? ⟨w.heap.size, 0, none⟩ = some (.int .i64 0) := (blk_cell H13.out.2.1 0).trans rfl
      have kcf0 := blk_frozen H13.out.2.1 0
      have kc1 : w13.cell? ⟨w.heap.size, 1, none⟩ = some (.int .i64 0) := (blk_cell H13.out.2.1 1).trans rfl
      have kcf1 := blk_frozen H13.out.2.1 1
      have kc2 : w13.cell? ⟨w.heap.size, 2, none⟩ = some (.int .i64 0) := (blk_cell H13.out.2.1 2).trans rfl
      have kcf2 := blk_frozen H13.out.2.1 2
      have kc3 : w13.cell? ⟨w.heap.size, 3, none⟩ = some (.int .i64 0) := (blk_cell H13.out.2.1 3).trans rfl
      have kcf3 := blk_frozen H13.out.2.1 3
      have kc4 : w13.cell? ⟨w.heap.size, 4, none⟩ = some (.slice none 0 0) := (blk_cell H13.out.2.1 4).trans rfl
      have kcf4 := blk_frozen H13.out.2.1 4
      go_wp2
      (try simp only [Exit.inBlock, Exit.then])
      have he := blk_set (blk_set (blk_set (blk_set (blk_set H13.out.2.1 0 (.int .i64 0)) 1 (.int .i64 0)) 2 (.int .i64 0)) 3 (.int .i64 0)) 4 (.slice none 0 0)
      refine bodyPost_ret (v := .tuple #[.agg (SGc 0 0 0 0 (.slice none 0 0)), .int .i64 d1, .int .i64 20]) ?_ rfl ?_
      · exact results_cell_two (fn := Try.f71) (p := 2) (q := 3) (r := 4) rfl _ _ w.heap.size 47 _ (0, 0) _ (by rfl) (blk_is he (cs2 := SGc 0 0 0 0 (.slice none 0 0)) rfl) hu47 rfl inf47
      refine ⟨(((((H13.out.1.setCell (Nat.le_refl _) _).setCell (Nat.le_refl _) _).setCell (Nat.le_refl _) _).setCell (Nat.le_refl _) _).setCell (Nat.le_refl _) _), none, 0, ?_, ?_⟩
      · rw [HW.out]; rfl
      · rw [HW.out]; exact Kd.R_nil _ _ _ _ _
end Go.Proofs.Ytpgdmmjbhjbbhaa.Rf
end
section
namespace Go.Proofs.Ytpgdmmjbhjbbhaa.Lw
open Go Go.RowKit Go.Proofs.Ytpgdmmjbhjbbhaa.P Go.Proofs.Ytpgdmmjbhjbbhaa.Sp Go.Proofs.Ytpgdmmjbhjbbhaa.Vd Go.Proofs.Ytpgdmmjbhjbbhaa.En Go.Proofs.Ytpgdmmjbhjbbhaa.Wr Go.Proofs.Ytpgdmmjbhjbbhaa.Rd Go.Proofs.Ytpgdmmjbhjbbhaa.Rf Go.Proofs.YtpgdmmjbhjbbhaaW.PrintWords Go.Proofs.YtpgdmmjbhjbbhaaW.PrintLast Go.Proofs.YtpgdmmjbhjbbhaaW.PrintMore
set_option linter.unusedVariables false
set_option linter.unusedSimpArgs false
theorem in_cut {w : World} {base : Nat} {ok : Nat → Prop} {A : Option Addr} {c : Nat} {b : List Int} (h : Kd.R (Kd.int .u8) 5 w base ok (.slice A (b.length + 2) c) (b ++ [165, 90])) (hb : IsB b) : In w A c b := by
  obtain ⟨A', c', hv, _, hi⟩ := lent_cut (Kd.R_mono h (fun _ _ => trivial)) hb
  obtain ⟨rfl, _, rfl⟩ := Value.slice.inj hv
  exact hi
theorem in_row {w : World} {base : Nat} {ok : Nat → Prop} {A : Option Addr} {c n : Nat} {b : List Int} (h : Kd.R (Kd.int .u8) 5 w base ok (.slice A n c) b) (hb : IsB b) : In w A c b := by
  have := Kd.R_reads' h
  exact ⟨this.2.2, hb, this.1 ▸ this.2.1⟩
/-- A row of its own, found in a world and left by all that is written elsewhere. -/
theorem row_kept {w w1 : World} {base lo hi : Nat} {v : Value} {b : List Int} (h : Kd.R (Kd.int .u8) 5 w base (fun _ => True) v b) (hk : Kept w w1 (fun k => lo ≤ k ∧ k < hi)) (hh : hi ≤ base) : Kd.R (Kd.int .u8) 5 w1 base (fun _ => True) v b :=
  Kd.R_mono (Kd.R_kept (Kd.R_bound h) hk (fun k h1 h2 => by have := h1.2.1; omega)) (fun _ _ => trivial)
theorem enc_seg_law (s : Seg) (A : Option Addr) (c : Nat) (w : World) (h : In w A c s.data) :
    Calls Try.prog 27 #[.agg (SVc s A c)] w fun e w' => ∃ Ap cp, e = .returned (.tuple #[.slice Ap (lay segB segV s).1.length cp, .int .i64 (lay segB segV s).2]) ∧ Kd.R (Kd.int .u8) 5 w' w.heap.size (fun _ => True) (.slice Ap (lay segB segV s).1.length cp) (lay segB segV s).1 ∧ Below w.heap.size w w' := by
  refine (encseg_calls s A c w h.row h.cap h.isB).mono ?_
  rintro e w' ⟨v, he, hR, hb⟩
  obtain ⟨Ap, cp, rfl⟩ := Kd.R_slice hR
  exact ⟨Ap, cp, he, hR, hb⟩
theorem renc_seg_law (s : Seg) (A : Option Addr) (c : Nat) (w : World) (h : In w A c s.data) :
    Calls Try.prog 70 #[.agg (SVc s A c)] w fun e w' => ∃ Ap cp, e = .returned (.tuple #[.slice Ap (lay segB segV s).1.length cp, .int .i64 (lay segB segV s).2]) ∧ Kd.R (Kd.int .u8) 5 w' w.heap.size (fun _ => True) (.slice Ap (lay segB segV s).1.length cp) (lay segB segV s).1 ∧ Below w.heap.size w w' := by
  refine (rencseg_calls s A c w h).mono ?_
  rintro e w' ⟨v, he, hR, hb⟩
  obtain ⟨Ap, cp, rfl⟩ := Kd.R_slice hR
  exact ⟨Ap, cp, he, hR, hb⟩
theorem whole_seg_isB {b : List Int} (hb : IsB b) {y : Seg} {p er : Int} (h : whole zSeg segP b = (y, p, er)) : IsB y.data := by
  have ht := took_of segP_codec safe_seg zSeg hb
  rw [h] at ht
  rcases ht with ⟨_, _, hv, _⟩ | ⟨_, _, _, hz⟩
  · exact hv.2.2.2.2.2
  · obtain rfl : y = zSeg := hz
    intro x hx; cases hx
theorem dec_seg_law (w : World) (A : Option Addr) (c : Nat) (b : List Int) (hi : In w A c b) {y : Seg} {p er : Int} (h : whole zSeg segP b = (y, p, er)) :
    Calls Try.prog 28 #[.slice A b.length c] w fun e w' => ∃ A1 c1, e = .returned (.tuple #[.agg (SVc y A1 c1), .int .i64 p, .int .i64 er]) ∧ Kd.R (Kd.int .u8) 5 w' w.heap.size (fun _ => True) (.slice A1 y.data.length c1) y.data ∧ Below w.heap.size w w' := by
  refine (decseg_calls w A c b hi).mono ?_
  rintro e w' ⟨hb, A1, c1, he, hR⟩
  rw [h] at he hR
  exact ⟨A1, c1, he, hR, hb⟩
theorem rdec_seg_law (w : World) (A : Option Addr) (c : Nat) (b : List Int) (hi : In w A c b) {y : Seg} {p er : Int} (h : whole zSeg segP b = (y, p, er)) :
    Calls Try.prog 71 #[.slice A b.length c] w fun e w' => ∃ A1 c1, e = .returned (.tuple #[.agg (SVc y A1 c1), .int .i64 p, .int .i64 er]) ∧ Kd.R (Kd.int .u8) 5 w' w.heap.size (fun _ => True) (.slice A1 y.data.length c1) y.data ∧ Below w.heap.size w w' := by
  refine (rdecseg_calls w A c b hi).mono ?_
  rintro e w' ⟨hb, A1, c1, he, hR⟩
  rw [h] at he hR
  exact ⟨A1, c1, he, hR, hb⟩
theorem seg_same (y : Seg) (A0 : Option Addr) (c0 : Nat) (A1 : Option Addr) (c1 : Nat) (w : World) (ha : In w A0 c0 y.data) (hb : In w A1 c1 y.data) :
    Calls Try.prog 29 #[.agg (SVc y A0 c0), .agg (SVc y A1 c1)] w fun e w' => e = .returned (.bool true) ∧ Below w.heap.size w w' := by
  refine (sameSegment_calls y y A0 c0 A1 c1 w ha hb).mono ?_
  rintro e w' ⟨he, hb⟩
  rw [dcd_pos rfl] at he
  exact ⟨he, hb⟩
set_option maxHeartbeats 8000000 in
set_option maxRecDepth 100000 in
theorem segments_calls (w : World) (s : Seg) (A : Option Addr) (c : Nat) (A1 : Option Addr) (c1 : Nat) (b : List Int) (hs : In w A c s.data) (hsl : s.data.length ≤ 140737488351232) (hb : In w A1 c1 b) (hbl : b.length ≤ 140737488351232) :
    Calls Try.prog 22 #[.agg (SVc s A c), .slice A1 b.length c1] w fun e w' => e = .returned (.bool true) ∧ Below w.heap.size w w' := by
  have HS := Aside0.mk (And.intro hs hsl)
  have HI := Aside0.mk (And.intro hb hbl)
  have hnI : (s.data.length : Int) ≤ 9223372036854775807 := by omega
  have hn0 : (0 : Int) ≤ (s.data.length : Int) := by omega
  have hbI : (b.length : Int) ≤ 9223372036854775807 := by omega
  have hb0 : (0 : Int) ≤ (b.length : Int) := by omega
  clear hs hsl hb hbl
  have hu47 := Try.underlying47
  obtain ⟨wa, hwa⟩ : ∃ wa, wa = w.alloc (.cells (SVc s A c) 47 (0, 0)) := ⟨_, rfl⟩
  have HWA := Aside0.mk hwa
  have H0 : Aside0 (Below w.heap.size w wa ∧ wa.heap[w.heap.size]? = some (.cells (SVc s A c) 47 (0, 0)) ∧ wa.heap.size = w.heap.size + 1) := ⟨by rw [hwa]; exact ⟨al_below w _, heap_alloc_new w _, by simp⟩⟩
  have H1 : Aside0 ((wa.alloc (.cells #[.int .i64 0, .int .i64 0, .int .i64 0, .int .i64 0, .slice none 0 0] 47 (0, 0))).heap[wa.heap.size]? = some (.cells #[.int .i64 0, .int .i64 0, .int .i64 0, .int .i64 0, .slice none 0 0] 47 (0, 0))) := ⟨heap_alloc_new wa _⟩
  clear hwa
  go_enter Try.func22, Try.ntmps22
  go_upto_region 1 with fail
  rw [← HWA.out]
  go_upto_region 2 with (first
    | ((with_reducible refine gate_dst (N := 18) rfl ?_); refine wpList_load_row rfl 47 (.tmp 2) rfl w.heap.size (by rfl) 47 (SVc s A c) (0, 0) _ H0.out.2.1 Try.underlying47 rfl inf47 ?_)
    | (refine wpList_store_row rfl 47 (.tmp 5) (.tmp 18) rfl wa.heap.size (SVc s A c) (by rfl) (by rfl) 47 _ H1.out inf47 rfl (sv_one _ _ _) ?_))
  obtain ⟨w1, hw1⟩ : ∃ w1, w1 = (wa.alloc (.cells #[.int .i64 0, .int .i64 0, .int .i64 0, .int .i64 0, .slice none 0 0] 47 (0, 0))).setRow wa.heap.size (SVc s A c) := ⟨_, rfl⟩
  have HW1 := Aside0.mk hw1
  have H2 : Aside0 (Below w.heap.size w w1 ∧ w1.heap[w.heap.size]? = some (.cells (SVc s A c) 47 (0, 0)) ∧ w1.heap[wa.heap.size]? = some (.cells (SVc s A c) 47 (0, 0)) ∧ w.heap.size < wa.heap.size ∧ wa.heap.size < w1.heap.size) := ⟨by
    have hb : Below wa.heap.size wa w1 := by rw [hw1]; exact below_setRow (al_below _ _) (Nat.le_refl _) _
    refine ⟨below_step H0.out.1 hb, blk_keep hb H0.out.2.1, by rw [hw1]; exact setRow_blk H1.out _, by have := H0.out.2.2; omega, ?_⟩
    have h3 : w1.heap[wa.heap.size]? = some (.cells (SVc s A c) 47 (0, 0)) := by rw [hw1]; exact setRow_blk H1.out _
    exact blk_lt h3⟩
  rw [← HW1.out]
  clear hw1 HW1 H1 H0 HWA
  have ka4 : w1.cell? ⟨w.heap.size, 4, none⟩ = some (.slice A s.data.length c) := (blk_cell H2.out.2.1 4).trans rfl
  go_upto_region 3 with (go_at_call 19; refine (lent_calls A c s.data _ (In.below HS.out.1 H2.out.1).row HS.out.2).mono ?_; rintro e w2 ⟨v, rfl, hR, hb⟩; obtain ⟨Av, cv, rfl, hcv, hin⟩ := lent_cut hR HS.out.1.isB; have hcI : (s.data.length : Int) ≤ (cv : Int) := (by omega); clear hcv hin; have H3 : Aside0 (Below w.heap.size w w2 ∧ w2.heap[w.heap.size]? = some (.cells (SVc s A c) 47 (0, 0)) ∧ w2.heap[wa.heap.size]? = some (.cells (SVc s A c) 47 (0, 0)) ∧ Kd.R (Kd.int .u8) 5 w2 w.heap.size (fun k => w1.heap.size ≤ k ∧ k < w2.heap.size) (.slice Av (s.data.length + 2) cv) (s.data ++ [165, 90])) := ⟨below_step H2.out.1 hb, blk_keep hb H2.out.2.1, blk_keep hb H2.out.2.2.1, lent_in hR H2.out.1.size⟩; clear hR hb ka4)
  have ka4 : w2.cell? ⟨w.heap.size, 4, none⟩ = some (.slice A s.data.length c) := (blk_cell H3.out.2.1 4).trans rfl
  have kc : w2.cell? ⟨wa.heap.size, 4, none⟩ = some (.slice A s.data.length c) := (blk_cell H3.out.2.2.1 4).trans rfl
  have kf := blk_frozen H3.out.2.2.1 4
  go_upto_region 4 with fail
  obtain ⟨w3, hw3⟩ : ∃ w3, w3 = w2.setCell ⟨wa.heap.size, 4, none⟩ (.slice Av s.data.length cv) := ⟨_, rfl⟩
  have H4 : Aside0 (Below w.heap.size w w3 ∧ w3.heap[w.heap.size]? = some (.cells (SVc s A c) 47 (0, 0)) ∧ w3.heap[wa.heap.size]? = some (.cells (SVc s Av cv) 47 (0, 0)) ∧ Kd.R (Kd.int .u8) 5 w3 w.heap.size (fun k => w1.heap.size ≤ k ∧ k < w2.heap.size) (.slice Av (s.data.length + 2) cv) (s.data ++ [165, 90]) ∧ w2.heap.size = w3.heap.size ∧ w.heap.size ≤ w1.heap.size) := ⟨by
    rw [hw3]
    refine ⟨below_set H3.out.1 (Nat.le_of_lt H2.out.2.2.2.1), blk_far H3.out.2.1 (Nat.ne_of_lt H2.out.2.2.2.1) _, blk_upd (cs2 := SVc s Av cv) H3.out.2.2.1 rfl, ?_, by simp [World.setCell], H2.out.1.size⟩
    exact Kd.R_kept H3.out.2.2.2 ((Kept.refl w2 (fun k => k = wa.heap.size)).setCell (p := ⟨wa.heap.size, 4, none⟩) (.inl rfl) _) (fun k h1 h2 => by have := H2.out.2.2.2.2; omega)⟩
  rw [← hw3]
  clear hw3 H3 H2 ka4 kc kf
  go_upto_region 6 with (first
    | ((with_reducible refine gate_dst (N := 29) rfl ?_); refine wpList_load_row rfl 47 (.tmp 5) rfl wa.heap.size (by rfl) 47 (SVc s Av cv) (0, 0) _ H4.out.2.2.1 Try.underlying47 rfl inf47 ?_)
    | ((with_reducible refine gate_dst (N := 34) rfl ?_); refine wpList_load_row rfl 47 (.tmp 2) rfl w.heap.size (by rfl) 47 (SVc s A c) (0, 0) _ H5.out.2.1 Try.underlying47 rfl inf47 ?_)
    | (go_at_call 27; refine (enc_seg_law s Av cv _ (in_cut H4.out.2.2.2.1 HS.out.1.isB)).mono ?_; rintro e w4 ⟨Ap, cp, rfl, hR, hb⟩; have H5 : Aside0 (Below w.heap.size w w4 ∧ w4.heap[w.heap.size]? = some (.cells (SVc s A c) 47 (0, 0)) ∧ Kd.R (Kd.int .u8) 5 w4 w.heap.size (fun k => w1.heap.size ≤ k ∧ k < w2.heap.size) (.slice Av (s.data.length + 2) cv) (s.data ++ [165, 90]) ∧ Kd.R (Kd.int .u8) 5 w4 w3.heap.size (fun _ => True) (.slice Ap (lay segB segV s).1.length cp) (lay segB segV s).1 ∧ w3.heap.size ≤ w4.heap.size) := ⟨below_step H4.out.1 hb, blk_keep hb H4.out.2.1, Kd.R_below H4.out.2.2.2.1 hb, hR, hb.size⟩; clear hR hb)
    | (go_at_call 70; refine (renc_seg_law s A c _ (In.below HS.out.1 H5.out.1)).mono ?_; rintro e w5 ⟨Aq, cq, rfl, hR, hb⟩; have H6 : Aside0 (Below w.heap.size w w5 ∧ Kd.R (Kd.int .u8) 5 w5 w.heap.size (fun k => w1.heap.size ≤ k ∧ k < w2.heap.size) (.slice Av (s.data.length + 2) cv) (s.data ++ [165, 90]) ∧ Kd.R (Kd.int .u8) 5 w5 w3.heap.size (fun _ => True) (.slice Ap (lay segB segV s).1.length cp) (lay segB segV s).1 ∧ Kd.R (Kd.int .u8) 5 w5 w4.heap.size (fun _ => True) (.slice Aq (lay segB segV s).1.length cq) (lay segB segV s).1 ∧ w5.heap[w.heap.size]? = some (.cells (SVc s A c) 47 (0, 0))) := ⟨below_step H5.out.1 hb, Kd.R_below H5.out.2.2.1 hb, Kd.R_below H5.out.2.2.2.1 hb, hR, blk_keep hb H5.out.2.1⟩; clear hR hb))
  obtain ⟨pb, er0, hpb⟩ : ∃ pb er0, lay segB segV s = (pb, er0) := ⟨_, _, rfl⟩
  have HPB : Aside0 (IsB pb) := ⟨by have := lay_isB (v := segV) (b_seg HS.out.1.isB); rwa [hpb] at this⟩
  have H7 : Aside0 (Below w.heap.size w w5 ∧ Kd.R (Kd.int .u8) 5 w5 w.heap.size (fun k => w1.heap.size ≤ k ∧ k < w2.heap.size) (.slice Av (s.data.length + 2) cv) (s.data ++ [165, 90]) ∧ Kd.R (Kd.int .u8) 5 w5 w3.heap.size (fun _ => True) (.slice Ap pb.length cp) pb ∧ Kd.R (Kd.int .u8) 5 w5 w4.heap.size (fun _ => True) (.slice Aq pb.length cq) pb ∧ w2.heap.size = w3.heap.size ∧ w3.heap.size ≤ w4.heap.size ∧ w.heap.size ≤ w1.heap.size) := ⟨by have h1 := H6.out; rw [hpb] at h1; exact ⟨h1.1, h1.2.1, h1.2.2.1, h1.2.2.2.1, H4.out.2.2.2.2.1, H5.out.2.2.2.2, H4.out.2.2.2.2.2⟩⟩
  have ka4 : w5.cell? ⟨w.heap.size, 4, none⟩ = some (.slice A s.data.length c) := (blk_cell H6.out.2.2.2.2 4).trans rfl
  rw [hpb]
  clear hpb H6 H5 H4
  go_upto_region 8 with (first
    | (go_at_call 42; refine (back_law w _ _ s.data w1.heap.size w2.heap.size H7.out.1 H7.out.2.2.2.2.2.2 H7.out.2.1 A c HS.out.1 HS.out.2).mono ?_; rintro e w6 ⟨rfl, hb, hk⟩; have H8 : Aside0 (Below w.heap.size w w6 ∧ In w6 Ap cp pb ∧ In w6 Aq cq pb) := ⟨hb, in_row (row_kept H7.out.2.2.1 hk (Nat.le_of_eq H7.out.2.2.2.2.1)) HPB.out, in_row (row_kept H7.out.2.2.2.1 hk (by have := H7.out.2.2.2.2; omega)) HPB.out⟩; clear hb hk H7 ka4)
    | (go_at_call 37; refine (alike_ex Ap cp Aq cq pb _ rfl _ H8.out.2.1 H8.out.2.2).mono ?_; rintro e w7 ⟨rfl, hb⟩; have H9 := Aside0.mk (below_step H8.out.1 hb); clear hb H8))
  obtain ⟨y, p, er, hyp⟩ : ∃ y p er, whole zSeg segP b = (y, p, er) := ⟨_, _, _, rfl⟩
  have HYP : Aside0 (whole zSeg segP b = (y, p, er) ∧ IsB y.data) := ⟨hyp, whole_seg_isB HI.out.1.isB hyp⟩
  clear hyp
  go_upto_region 9 with (go_at_call 19; refine (lent_calls A1 c1 b _ (In.below HI.out.1 H9.out).row HI.out.2).mono ?_; rintro e w8 ⟨v, rfl, hR, hb⟩; obtain ⟨Ab, cb, rfl, hcv, hin⟩ := lent_cut hR HI.out.1.isB; have hcB : (b.length : Int) ≤ (cb : Int) := (by omega); clear hcv hin; have H10 : Aside0 (Below w.heap.size w w8 ∧ Kd.R (Kd.int .u8) 5 w8 w.heap.size (fun k => w7.heap.size ≤ k ∧ k < w8.heap.size) (.slice Ab (b.length + 2) cb) (b ++ [165, 90]) ∧ w.heap.size ≤ w7.heap.size) := ⟨below_step H9.out hb, lent_in hR H9.out.size, H9.out.size⟩; clear hR hb H9)
  go_upto_region 10 with (first
    | (go_at_call 28; refine (dec_seg_law _ Ab cb b (in_cut H10.out.2.1 HI.out.1.isB) HYP.out.1).mono ?_; rintro e w9 ⟨Ay, cy, rfl, hR, hb⟩; have H11 : Aside0 (Below w.heap.size w w9 ∧ Kd.R (Kd.int .u8) 5 w9 w.heap.size (fun k => w7.heap.size ≤ k ∧ k < w8.heap.size) (.slice Ab (b.length + 2) cb) (b ++ [165, 90]) ∧ Kd.R (Kd.int .u8) 5 w9 w8.heap.size (fun _ => True) (.slice Ay y.data.length cy) y.data ∧ w8.heap.size ≤ w9.heap.size) := ⟨below_step H10.out.1 hb, Kd.R_below H10.out.2.1 hb, hR, hb.size⟩; have HA := Aside0.mk (heap_alloc_new w9 (.cells #[.int .i64 0, .int .i64 0, .int .i64 0, .int .i64 0, .slice none 0 0] 47 (0, 0))); clear hR hb)
    | (refine wpList_store_row rfl 47 (.tmp 12) (.tmp 62) rfl w9.heap.size (SVc y Ay cy) (by rfl) (by rfl) 47 _ HA.out inf47 rfl (sv_one _ _ _) ?_))
  obtain ⟨w10, hw10⟩ : ∃ w10, w10 = (w9.alloc (.cells #[.int .i64 0, .int .i64 0, .int .i64 0, .int .i64 0, .slice none 0 0] 47 (0, 0))).setRow w9.heap.size (SVc y Ay cy) := ⟨_, rfl⟩
  have HW10 := Aside0.mk hw10
  have H12 : Aside0 (Below w.heap.size w w10 ∧ Kd.R (Kd.int .u8) 5 w10 w.heap.size (fun k => w7.heap.size ≤ k ∧ k < w8.heap.size) (.slice Ab (b.length + 2) cb) (b ++ [165, 90]) ∧ Kd.R (Kd.int .u8) 5 w10 w8.heap.size (fun _ => True) (.slice Ay y.data.length cy) y.data ∧ w10.heap[w9.heap.size]? = some (.cells (SVc y Ay cy) 47 (0, 0))) := ⟨by
    have hb : Below w9.heap.size w9 w10 := by rw [hw10]; exact below_setRow (al_below _ _) (Nat.le_refl _) _
    exact ⟨below_step H11.out.1 hb, Kd.R_below H11.out.2.1 hb, Kd.R_below H11.out.2.2.1 hb, by rw [hw10]; exact setRow_blk HA.out _⟩⟩
  rw [← HW10.out]
  clear hw10 HW10 HA
  go_upto_region 11 with (first
    | (go_at_call 71; refine (rdec_seg_law _ A1 c1 b (In.below HI.out.1 H12.out.1) HYP.out.1).mono ?_; rintro e w11 ⟨Az, cz, rfl, hR, hb⟩; have H13 : Aside0 (Below w.heap.size w w11 ∧ Kd.R (Kd.int .u8) 5 w11 w.heap.size (fun k => w7.heap.size ≤ k ∧ k < w8.heap.size) (.slice Ab (b.length + 2) cb) (b ++ [165, 90]) ∧ Kd.R (Kd.int .u8) 5 w11 w8.heap.size (fun _ => True) (.slice Ay y.data.length cy) y.data ∧ w11.heap[w9.heap.size]? = some (.cells (SVc y Ay cy) 47 (0, 0)) ∧ Kd.R (Kd.int .u8) 5 w11 w10.heap.size (fun _ => True) (.slice Az y.data.length cz) y.data ∧ w10.heap.size ≤ w11.heap.size ∧ w9.heap.size < w10.heap.size) := ⟨below_step H12.out.1 hb, Kd.R_below H12.out.2.1 hb, Kd.R_below H12.out.2.2.1 hb, blk_keep hb H12.out.2.2.2, hR, hb.size, blk_lt H12.out.2.2.2⟩; have HA := Aside0.mk (heap_alloc_new w11 (.cells #[.int .i64 0, .int .i64 0, .int .i64 0, .int .i64 0, .slice none 0 0] 47 (0, 0))); clear hR hb)
    | (refine wpList_store_row rfl 47 (.tmp 15) (.tmp 68) rfl w11.heap.size (SVc y Az cz) (by rfl) (by rfl) 47 _ HA.out inf47 rfl (sv_one _ _ _) ?_))
  obtain ⟨w12, hw12⟩ : ∃ w12, w12 = (w11.alloc (.cells #[.int .i64 0, .int .i64 0, .int .i64 0, .int .i64 0, .slice none 0 0] 47 (0, 0))).setRow w11.heap.size (SVc y Az cz) := ⟨_, rfl⟩
  have HW12 := Aside0.mk hw12
  have H14 : Aside0 (Below w.heap.size w w12 ∧ Kd.R (Kd.int .u8) 5 w12 w.heap.size (fun k => w7.heap.size ≤ k ∧ k < w8.heap.size) (.slice Ab (b.length + 2) cb) (b ++ [165, 90]) ∧ Kd.R (Kd.int .u8) 5 w12 w8.heap.size (fun _ => True) (.slice Ay y.data.length cy) y.data ∧ w12.heap[w9.heap.size]? = some (.cells (SVc y Ay cy) 47 (0, 0)) ∧ Kd.R (Kd.int .u8) 5 w12 w10.heap.size (fun _ => True) (.slice Az y.data.length cz) y.data ∧ w12.heap[w11.heap.size]? = some (.cells (SVc y Az cz) 47 (0, 0)) ∧ (w8.heap.size ≤ w9.heap.size ∧ w9.heap.size < w10.heap.size ∧ w10.heap.size ≤ w11.heap.size ∧ w.heap.size ≤ w7.heap.size)) := ⟨by
    have hb : Below w11.heap.size w11 w12 := by rw [hw12]; exact below_setRow (al_below _ _) (Nat.le_refl _) _
    exact ⟨below_step H13.out.1 hb, Kd.R_below H13.out.2.1 hb, Kd.R_below H13.out.2.2.1 hb, blk_keep hb H13.out.2.2.2.1, Kd.R_below H13.out.2.2.2.2.1 hb, by rw [hw12]; exact setRow_blk HA.out _, H11.out.2.2.2, H13.out.2.2.2.2.2.2, H13.out.2.2.2.2.2.1, H10.out.2.2⟩⟩
  rw [← HW12.out]
  clear hw12 HW12 HA H10 H11 H12 H13
  go_wp2_with (first
    | (go_at_call 42; refine (back_law w _ _ b w7.heap.size w8.heap.size H14.out.1 H14.out.2.2.2.2.2.2.2.2.2 H14.out.2.1 A1 c1 HI.out.1 HI.out.2).mono ?_; rintro e w13 ⟨rfl, hb, hk⟩; have H15 : Aside0 (Below w.heap.size w w13 ∧ In w13 Ay cy y.data ∧ In w13 Az cz y.data ∧ w13.heap[w9.heap.size]? = some (.cells (SVc y Ay cy) 47 (0, 0)) ∧ w13.heap[w11.heap.size]? = some (.cells (SVc y Az cz) 47 (0, 0))) := ⟨hb, in_row (row_kept H14.out.2.2.1 hk (Nat.le_refl _)) HYP.out.2, in_row (row_kept H14.out.2.2.2.2.1 hk (by have := H14.out.2.2.2.2.2.2; omega)) HYP.out.2, blk_kept H14.out.2.2.2.1 hk (by have := H14.out.2.2.2.2.2.2; omega), blk_kept H14.out.2.2.2.2.2.1 hk (by have := H14.out.2.2.2.2.2.2; omega)⟩; clear hb hk H14)
    | ((with_reducible refine gate_dst (N := 85) rfl ?_); refine gate_guard (by kernel_rfl) ?_; refine wpList_load_row rfl 47 (.tmp 12) rfl w9.heap.size (by rfl) 47 (SVc y Ay cy) (0, 0) _ H15.out.2.2.2.1 Try.underlying47 rfl inf47 ?_)
    | ((with_reducible refine gate_dst (N := 86) rfl ?_); refine gate_guard (by kernel_rfl) ?_; refine wpList_load_row rfl 47 (.tmp 15) rfl w11.heap.size (by rfl) 47 (SVc y Az cz) (0, 0) _ H15.out.2.2.2.2 Try.underlying47 rfl inf47 ?_)
    | (go_at_call 29; refine (seg_same y Ay cy Az cz _ H15.out.2.1 H15.out.2.2.1).mono ?_; rintro e w14 ⟨rfl, hb⟩; have HE := Aside0.mk (below_step H15.out.1 hb); clear hb))
  go_ret
  exact ⟨rfl, HE.out⟩
end Go.Proofs.Ytpgdmmjbhjbbhaa.Lw
end
section
namespace Go.Proofs.Ytpgdmmjbhjbbhaa.Lw
open Go Go.RowKit Go.Proofs.Ytpgdmmjbhjbbhaa.P Go.Proofs.Ytpgdmmjbhjbbhaa.Sp Go.Proofs.Ytpgdmmjbhjbbhaa.Vd Go.Proofs.Ytpgdmmjbhjbbhaa.En Go.Proofs.Ytpgdmmjbhjbbhaa.Wr Go.Proofs.Ytpgdmmjbhjbbhaa.Rd Go.Proofs.YtpgdmmjbhjbbhaaW.PrintWords Go.Proofs.YtpgdmmjbhjbbhaaW.PrintLast Go.Proofs.YtpgdmmjbhjbbhaaW.PrintMore
set_option linter.unusedVariables false
set_option linter.unusedSimpArgs false
set_option maxHeartbeats 4000000 in
set_option maxRecDepth 100000 in
theorem segments_walk (w : World) (s : Seg) (A : Option Addr) (c : Nat) (A1 : Option Addr) (c1 : Nat) (b : List Int) (hs : In w A c s.data) (hsl : s.data.length ≤ 140737488351232) (hb : In w A1 c1 b) (hbl : b.length ≤ 140737488351232) :
    Calls Try.prog 6 #[.agg (SVc s A c), .slice A1 b.length c1] w fun e w' => e = .returned (.bool true) ∧ Below w.heap.size w w' := by
  have HS := Aside0.mk (And.intro hs hsl)
  have HI := Aside0.mk (And.intro hb hbl)
  clear hs hsl hb hbl
  have hu47 := Try.underlying47
  obtain ⟨wa, hwa⟩ : ∃ wa, wa = w.alloc (.cells (SVc s A c) 47 (0, 0)) := ⟨_, rfl⟩
  have HWA := Aside0.mk hwa
  have H0 : Aside0 (Below w.heap.size w wa ∧ wa.heap[w.heap.size]? = some (.cells (SVc s A c) 47 (0, 0))) := ⟨by rw [hwa]; exact ⟨al_below w _, heap_alloc_new w _⟩⟩
  clear hwa
  go_enter Try.func6, Try.ntmps6
  go_upto_region 1 with fail
  rw [← HWA.out]
  go_wp2_with (first
    | (go_at_call 12; refine (able_calls _).mono ?_; rintro e w1 ⟨rfl, hb⟩; have H1 := Aside0.mk (And.intro (below_step H0.out.1 hb) (blk_keep hb H0.out.2)); clear hb H0)
    | ((with_reducible refine gate_dst (N := 7) rfl ?_); refine gate_guard (by kernel_rfl) ?_; refine wpList_load_row rfl 47 (.tmp 2) rfl w.heap.size (by rfl) 47 (SVc s A c) (0, 0) _ H1.out.2 Try.underlying47 rfl inf47 ?_)
    | (go_at_call 22; refine (segments_calls _ s A c A1 c1 b (In.below HS.out.1 H1.out.1) HS.out.2 (In.below HI.out.1 H1.out.1) HI.out.2).mono ?_; rintro e w2 ⟨rfl, hb⟩; have HE := Aside0.mk (below_step H1.out.1 hb); clear hb))
  go_ret
  exact ⟨rfl, HE.out⟩
end Go.Proofs.Ytpgdmmjbhjbbhaa.Lw
end
