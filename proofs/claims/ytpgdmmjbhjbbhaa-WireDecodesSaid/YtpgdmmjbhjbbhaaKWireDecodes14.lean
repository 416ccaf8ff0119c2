/- texts that the proof needs, laid together by a program of this session. -/
import Derived.Test.YtpgdmmjbhjbbhaaKWireDecodes13
section
namespace Go.Proofs.Ytpgdmmjbhjbbhaa.Rf
open Go Go.RowKit Go.Proofs.Ytpgdmmjbhjbbhaa.P Go.Proofs.Ytpgdmmjbhjbbhaa.Sp Go.Proofs.Ytpgdmmjbhjbbhaa.Vd Go.Proofs.Ytpgdmmjbhjbbhaa.En Go.Proofs.Ytpgdmmjbhjbbhaa.Wr Go.Proofs.Ytpgdmmjbhjbbhaa.Lw Go.Proofs.YtpgdmmjbhjbbhaaW.PrintWords Go.Proofs.YtpgdmmjbhjbbhaaW.PrintLast Go.Proofs.YtpgdmmjbhjbbhaaW.PrintMore
open Go.Proofs.Ytpgdmmjbhjbbhaa.Rd (pl In setRow_far setRow_blk mv_zero mv_one results_cell_two)
set_option linter.unusedVariables false
set_option linter.unusedSimpArgs false
/-- What Decode leaves: the message, its views' list new, the place, the error. -/
def DecN (w : World) (x : Msg × Int × Int) (e : Ending) (w' : World) : Prop :=
  Below w.heap.size w w' ∧ ∃ A1 c1, e = .returned (.tuple #[.agg (MVc x.1 A1 c1), .int .i64 x.2.1, .int .i64 x.2.2]) ∧ Kd.R k87 87 w' w.heap.size (fun _ => True) (.slice A1 x.1.views.length c1) x.1.views
set_option maxHeartbeats 8000000 in
set_option maxRecDepth 100000 in
theorem rdecode_calls (w : World) (A : Option Addr) (c : Nat) (b : List Int) (hi : In w A c b) :
    Calls Try.prog 41 #[.slice A b.length c] w fun e w' => DecN w (whole zMsg msgP b) e w' := by
  have HI := Aside0.mk hi
  have HS : Aside0 (Src b) := ⟨⟨hi.len, hi.isB⟩⟩
  obtain ⟨wa, hwa⟩ : ∃ wa, wa = w.alloc (.cells (MVc zMsg none 0) 33 (0, 0)) := ⟨_, rfl⟩
  have HWA := Aside0.mk hwa
  rw [mv_zero] at HWA
  have HB : Aside0 (Below w.heap.size w wa ∧ wa.heap.size = w.heap.size + 1 ∧ wa.heap[w.heap.size]? = some (.cells (MVc zMsg none 0) 33 (0, 0))) := ⟨by rw [hwa]; exact ⟨al_below w _, by simp, heap_alloc_new w _⟩⟩
  clear hwa hi
  have hu33 := Try.underlying33
  go_enter Try.func41, Try.ntmps41
  go_upto_region 1 with fail
  rw [← HWA.out]
  go_upto_region 2 with ((with_reducible refine gate_dst (N := 11) rfl ?_); refine box_event ?hg (N := 11) ?hd (cs := #[.slice A b.length c, .int .i64 0, .bool false]) (t := 132) ?hr ?_; (case hd => rfl); (case hg => rfl); (case hr => first | (go_simp; done) | (go_simp; rfl)); intro g hg w1 hbox hb; have H1 : Aside0 (RSt w w1 g b (.ok () b) ∧ w1.heap[w.heap.size]? = some (.cells (MVc zMsg none 0) 33 (0, 0)) ∧ w.heap.size < g ∧ g < w1.heap.size) := ⟨RSt.new HB.out.1 HI.out.cap HI.out.row hbox hg hb, blk_keep hb HB.out.2.2, by rw [hg, HB.out.2.1]; omega, blk_lt hbox⟩; clear hg hbox hb)
  go_upto_region 3 with (first
    | (go_at_call 92; refine (rmsg_calls w _ g b _ HS.out H1.out.1).mono ?_; rintro e w2 ⟨m, s1, Am, cm, rfl, h1, p1, k1, hR⟩; have H2 : Aside0 (RSt w w2 g b s1 ∧ Post msgP (.ok () b) m s1 ∧ w2.heap[w.heap.size]? = some (.cells (MVc zMsg none 0) 33 (0, 0)) ∧ Kd.R k87 87 w2 w1.heap.size (fun k => w1.heap.size ≤ k ∧ k < w2.heap.size) (.slice Am m.views.length cm) m.views ∧ w.heap.size < w1.heap.size ∧ w.heap.size < w2.heap.size ∧ w1.heap.size ≤ w2.heap.size) := ⟨h1, p1, kb1 k1 (by have := H1.out.2.2.1; omega) H1.out.2.1, hR, blk_lt H1.out.2.1, by have := k1.1; have := blk_lt H1.out.2.1; omega, k1.1⟩; have HA := Aside0.mk (heap_alloc_new w2 (.cells (MVc zMsg none 0) 33 (0, 0))); clear h1 p1 k1 hR)
    | (refine wpList_store_row rfl 33 (.tmp 6) (.tmp 13) rfl w2.heap.size (MVc m Am cm) (by rfl) (by rfl) 33 _ HA.out inf33 rfl (mv_one _ _ _) ?_))
  obtain ⟨w3, hw3⟩ : ∃ w3, w3 = (w2.alloc (.cells (MVc zMsg none 0) 33 (0, 0))).setRow w2.heap.size (MVc m Am cm) := ⟨_, rfl⟩
  have HW3 := Aside0.mk hw3
  rw [mv_zero] at HW3
  have H3 : Aside0 (RSt w w3 g b s1 ∧ w3.heap[w.heap.size]? = some (.cells (MVc zMsg none 0) 33 (0, 0)) ∧ w3.heap[w2.heap.size]? = some (.cells (MVc m Am cm) 33 (0, 0)) ∧ Kd.R k87 87 w3 w1.heap.size (fun k => w1.heap.size ≤ k ∧ k < w2.heap.size) (.slice Am m.views.length cm) m.views) := ⟨by
    have hb : Below w2.heap.size w2 w3 := by rw [hw3]; exact below_setRow (al_below _ _) (Nat.le_refl _) _
    exact ⟨H2.out.1.below hb, blk_keep hb H2.out.2.2.1, by rw [hw3]; exact setRow_blk HA.out _, Kd.R_below H2.out.2.2.2.1 hb⟩⟩
  rw [← HW3.out]
  have H0lt : Aside0 (w.heap.size < g ∧ g < w1.heap.size) := ⟨H1.out.2.2⟩
  clear hw3 HW3 HA H1
  obtain ⟨dv, hdv⟩ : ∃ dv, dv = doneV b s1 := ⟨_, rfl⟩
  have HDV := Aside0.mk hdv
  clear hdv
  go_upto_region 4 with (go_at_call 93; refine (done_calls w _ g b _ HS.out H3.out.1).mono ?_; rintro e w4 ⟨rfl, h1, k1⟩; rw [← HDV.out]; have H4 : Aside0 (Below w.heap.size w w4 ∧ w4.heap[w.heap.size]? = some (.cells (MVc zMsg none 0) 33 (0, 0)) ∧ w4.heap[w2.heap.size]? = some (.cells (MVc m Am cm) 33 (0, 0)) ∧ Kd.R k87 87 w4 w.heap.size (fun k => w1.heap.size ≤ k ∧ k < w2.heap.size) (.slice Am m.views.length cm) m.views ∧ w.heap.size < w1.heap.size) := ⟨h1.bel, kb1 k1 (by have := H0lt.out; omega) H3.out.2.1, kb1 k1 (by have := H2.out.1.lt; omega) H3.out.2.2.1, Kd.R_lower (Kd.R_keep H3.out.2.2.2 k1 (fun k hk => by have := H0lt.out; omega)) (Nat.le_of_lt H2.out.2.2.2.2.1), H2.out.2.2.2.2.1⟩; clear h1 k1)
  obtain ⟨d1, d2⟩ := dv
  rcases done_whole H2.out.2.1 zMsg with ⟨hd, hW⟩ | ⟨pt, hd, hW⟩
  · have hd2 := HDV.out.trans hd
    injection hd2 with e1 e2
    subst e1 e2
    have HW := Aside0.mk hW
    clear hd hW H2 H3
    go_wp2_with ((with_reducible refine gate_dst (N := 24) rfl ?_); refine wpList_load_row rfl 33 (.tmp 6) rfl w2.heap.size (by rfl) 33 (MVc m Am cm) (0, 0) _ H4.out.2.2.1 hu33 rfl inf33 ?_; go_loud (refine wpList_store_row rfl 33 (.tmp 2) (.tmp 24) rfl w.heap.size (MVc m Am cm) (by rfl) (by rfl) 33 _ H4.out.2.1 inf33 rfl (mv_one _ _ _) ?_))
    refine bodyPost_ret (v := .tuple #[.agg (MVc m Am cm), .int .i64 0, .int .i64 0]) ?_ rfl ?_
    · exact results_cell_two (fn := Try.f41) (p := 2) (q := 3) (r := 4) rfl _ _ w.heap.size 33 _ (0, 0) _ (by rfl) (setRow_blk H4.out.2.1 _) hu33 rfl inf33
    refine ⟨below_setRow H4.out.1 (Nat.le_refl _) _, Am, cm, by rw [HW.out], ?_⟩
    rw [HW.out]
    exact Kd.R_mono (R_step' H4.out.2.2.2.1 (fun k hk => setRow_far (by have := H4.out.2.2.2.2; omega) _)) (fun _ _ => trivial)
  · have hd2 := HDV.out.trans hd
    injection hd2 with e1 e2
    subst e1 e2
    have HW := Aside0.mk hW
    clear hd hW H2 H3
    go_wp2_with (refine wpList_store_row rfl 33 (.tmp 2) (.tmp 21) rfl w.heap.size (MVc zMsg none 0) (by rfl) (by rfl) 33 _ H4.out.2.1 inf33 rfl (mv_one _ _ _) ?_)
    refine bodyPost_ret (v := .tuple #[.agg (MVc zMsg none 0), .int .i64 d1, .int .i64 20]) ?_ rfl ?_
    · exact results_cell_two (fn := Try.f41) (p := 2) (q := 3) (r := 4) rfl _ _ w.heap.size 33 _ (0, 0) _ (by rfl) (setRow_blk H4.out.2.1 _) hu33 rfl inf33
    refine ⟨below_setRow H4.out.1 (Nat.le_refl _) _, none, 0, by rw [HW.out], ?_⟩
    rw [HW.out]
    exact Kd.R_nil _ _ _ _ _
end Go.Proofs.Ytpgdmmjbhjbbhaa.Rf
end
section
namespace Go.Proofs.Ytpgdmmjbhjbbhaa.Lw
open Go Go.RowKit Go.Proofs.Ytpgdmmjbhjbbhaa.P Go.Proofs.Ytpgdmmjbhjbbhaa.Sp Go.Proofs.Ytpgdmmjbhjbbhaa.Vd Go.Proofs.Ytpgdmmjbhjbbhaa.En Go.Proofs.Ytpgdmmjbhjbbhaa.Wr Go.Proofs.Ytpgdmmjbhjbbhaa.Rd Go.Proofs.Ytpgdmmjbhjbbhaa.Rf Go.Proofs.YtpgdmmjbhjbbhaaW.PrintWords Go.Proofs.YtpgdmmjbhjbbhaaW.PrintLast Go.Proofs.YtpgdmmjbhjbbhaaW.PrintMore
set_option linter.unusedVariables false
set_option linter.unusedSimpArgs false
theorem newV_kept {w W W2 : World} {A : Option Addr} {c lo hi : Nat} {xs : List S87} (h : NewV w W A c xs) (hk : Kept W W2 (fun k => lo ≤ k ∧ k < hi)) (hh : hi ≤ w.heap.size) : NewV w W2 A c xs := by
  rcases h with h | ⟨vb, h1, h2, h3, h4⟩
  · exact .inl h
  · exact .inr ⟨vb, h1, h2, h3, blk_kept h4 hk (by omega)⟩
theorem newV_below {w W W2 : World} {A : Option Addr} {c : Nat} {xs : List S87} (h : NewV w W A c xs) (hk : Below W.heap.size W W2) : NewV w W2 A c xs := by
  rcases h with h | ⟨vb, h1, h2, h3, h4⟩
  · exact .inl h
  · exact .inr ⟨vb, h1, h2, h3, blk_keep hk h4⟩
/-- A list of views where it lies. -/
def VR (w W : World) (A : Option Addr) (c : Nat) (xs : List S87) : Prop := Kd.R k87 87 W w.heap.size (fun _ => True) (.slice A xs.length c) xs
theorem vr_C {w W : World} {A : Option Addr} {c : Nat} {xs : List S87} (h : VR w W A c xs) : Kd.C k87 W A xs.length xs ∧ xs.length ≤ c := by
  have := Kd.R_reads' h
  exact ⟨this.2.2, this.2.1⟩
theorem vr_kept {w W W2 : World} {A : Option Addr} {c lo hi : Nat} {xs : List S87} (h : VR w W A c xs) (hk : Kept W W2 (fun k => lo ≤ k ∧ k < hi)) (hh : hi ≤ w.heap.size) : VR w W2 A c xs :=
  Kd.R_mono (Kd.R_kept (Kd.R_bound h) hk (fun k h1 h2 => by have := h1.2.1; omega)) (fun _ _ => trivial)
theorem whole_views {b : List Int} (hb : IsB b) {x : Msg} {p er : Int} (h : whole zMsg msgP b = (x, p, er)) : x.views.length ≤ 64 := by
  have ht := took_of msgP_codec safe_msg zMsg hb
  rw [h] at ht
  rcases ht with ⟨_, _, hv, _⟩ | ⟨_, _, _, hz⟩
  · exact msgV_views hv
  · obtain rfl : x = zMsg := hz
    exact Nat.zero_le _
theorem dec_law (w : World) (A : Option Addr) (c : Nat) (b : List Int) (n : Nat) (hn : b.length = n) (hi : In w A c b) {x : Msg} {p er : Int} (h : whole zMsg msgP b = (x, p, er)) :
    Calls Try.prog 18 #[.slice A n c] w fun e w' => ∃ A1 c1, e = .returned (.tuple #[.agg (MVc x A1 c1), .int .i64 p, .int .i64 er]) ∧ NewV w w' A1 c1 x.views ∧ Below w.heap.size w w' := by
  subst hn
  refine (decode_calls w A c b hi).mono ?_
  rintro e w' ⟨hb, A1, c1, he, hn⟩
  rw [h] at he hn
  exact ⟨A1, c1, he, hn, hb⟩
theorem rdec_law (w : World) (A : Option Addr) (c : Nat) (b : List Int) (n : Nat) (hn : b.length = n) (hi : In w A c b) {x : Msg} {p er : Int} (h : whole zMsg msgP b = (x, p, er)) :
    Calls Try.prog 41 #[.slice A n c] w fun e w' => ∃ A1 c1, e = .returned (.tuple #[.agg (MVc x A1 c1), .int .i64 p, .int .i64 er]) ∧ VR w w' A1 c1 x.views ∧ Below w.heap.size w w' := by
  subst hn
  refine (rdecode_calls w A c b hi).mono ?_
  rintro e w' ⟨hb, A1, c1, he, hn⟩
  rw [h] at he hn
  exact ⟨A1, c1, he, hn, hb⟩
theorem msg_same (m : Msg) (A : Option Addr) (c : Nat) (A2 : Option Addr) (c2 : Nat) (w : World) (h1 : Kd.C k87 w A m.views.length m.views ∧ m.views.length ≤ c) (h2 : Kd.C k87 w A2 m.views.length m.views ∧ m.views.length ≤ c2) :
    Calls Try.prog 20 #[.agg (MVc m A c), .agg (MVc m A2 c2)] w fun e w' => e = .returned (.bool true) ∧ Below w.heap.size w w' := by
  refine (same_calls m m A c A2 c2 w h1.1 h1.2 h2.1 h2.2).mono ?_
  rintro e w' ⟨he, hb⟩
  rw [dcd_pos rfl] at he
  exact ⟨he, hb⟩
theorem in_front {w : World} {base : Nat} {ok : Nat → Prop} {A : Option Addr} {c n : Nat} {r : List Int} (h : Kd.R (Kd.int .u8) 5 w base ok (.slice A (n + 2) c) r) (hr : r.length = n + 2) (hb : IsB r) : In w A c (r.take n) ∧ (r.take n).length = n := by
  have h2 := Kd.R_reads' (Kd.R_take (m := n) h (by omega))
  have hl : (r.take n).length = n := by simp; omega
  exact ⟨⟨h2.2.2, fun y hy => hb y (List.mem_of_mem_take hy), by omega⟩, hl⟩
/-- The lent bytes, whatever is in them, and the two boxes. -/
structure DX (w W : World) (g hi n cb b4 b7 : Nat) (c4 c7 : Array Value) (r : List Int) : Prop where
  bel : Below w.heap.size w W
  row : Kd.R (Kd.int .u8) 5 W w.heap.size (fun k => w.heap.size ≤ k ∧ k < hi) (.slice (some ⟨g, 0, none⟩) (n + 2) cb) r
  len : r.length = n + 2
  isB : IsB r
  box4 : W.heap[b4]? = some (.cells c4 33 (0, 0))
  box7 : W.heap[b7]? = some (.cells c7 33 (0, 0))
section
variable {w W W1 : World} {g hi n cb b4 b7 : Nat} {c4 c7 : Array Value} {r : List Int}
theorem DX.below (h : DX w W g hi n cb b4 b7 c4 c7 r) (k : Below W.heap.size W W1) : DX w W1 g hi n cb b4 b7 c4 c7 r :=
  ⟨below_step h.bel k, Kd.R_below h.row k, h.len, h.isB, blk_keep k h.box4, blk_keep k h.box7⟩
theorem DX.front (h : DX w W g hi n cb b4 b7 c4 c7 r) : In W (some ⟨g, 0, none⟩) cb (r.take n) ∧ (r.take n).length = n := in_front h.row h.len h.isB
theorem DX.put (h : DX w W g hi n cb b4 b7 c4 c7 r) (h4 : hi ≤ b4) (h7 : hi ≤ b7) (i : Nat) (y : Int) (hy : 0 ≤ y ∧ y ≤ 255) : DX w (W.setCell ⟨g, i, none⟩ (.int .u8 y)) g hi n cb b4 b7 c4 c7 (r.set i y) := by
  have hg := h.row.1 g rfl
  have hp := Kd.R_putn h.row (i : Int) y
  rw [Int.toNat_natCast] at hp
  exact ⟨below_set h.bel hg.1, hp, by simpa using h.len, fun z hz => (List.mem_or_eq_of_mem_set hz).elim (h.isB z) (fun e => e ▸ hy), blk_far h.box4 (show b4 ≠ g by omega) _, blk_far h.box7 (show b7 ≠ g by omega) _⟩
theorem DX.row4 (h : DX w W g hi n cb b4 b7 c4 c7 r) (h4 : hi ≤ b4) (h47 : b4 ≠ b7) (cs : Array Value) : DX w (W.setRow b4 cs) g hi n cb b4 b7 cs c7 r := by
  have hg := h.row.1 g rfl
  exact ⟨below_setRow h.bel (by omega) _, Kd.R_step h.row (fun k hk _ => setRow_far (by omega) _), h.len, h.isB, setRow_blk h.box4 _, (setRow_far (by omega) _).trans h.box7⟩
theorem DX.row7 (h : DX w W g hi n cb b4 b7 c4 c7 r) (h7 : hi ≤ b7) (h47 : b4 ≠ b7) (cs : Array Value) : DX w (W.setRow b7 cs) g hi n cb b4 b7 c4 cs r := by
  have hg := h.row.1 g rfl
  exact ⟨below_setRow h.bel (by omega) _, Kd.R_step h.row (fun k hk _ => setRow_far (by omega) _), h.len, h.isB, (setRow_far (by omega) _).trans h.box4, setRow_blk h.box7 _⟩
theorem DX.cell (h : DX w W g hi n cb b4 b7 c4 c7 r) (i : Nat) (hi2 : i < n + 2) : (∃ y, W.cell? ⟨g, i, none⟩ = some (.int .u8 y)) ∧ W.frozen? ⟨g, i, none⟩ = false := by
  have := Kd.R_celln (0 : Int) h.row (i : Int) (by omega) (by omega)
  rw [Int.toNat_natCast] at this
  exact ⟨⟨_, this.1⟩, this.2⟩
end
theorem newV_row {w W : World} {A : Option Addr} {c k : Nat} {xs : List S87} (h : NewV w W A c xs) (hk : k < w.heap.size) (cs : Array Value) : NewV w (W.setRow k cs) A c xs := by
  rcases h with h | ⟨vb, h1, h2, h3, h4⟩
  · exact .inl h
  · exact .inr ⟨vb, h1, h2, h3, (setRow_far (by omega) _).trans h4⟩
theorem vr_row {w W : World} {A : Option Addr} {c k : Nat} {xs : List S87} (h : VR w W A c xs) (hk : k < w.heap.size) (cs : Array Value) : VR w (W.setRow k cs) A c xs :=
  Kd.R_mono (Kd.R_step (Kd.R_bound h) (fun j hj _ => setRow_far (by have := hj.2.1; omega) _)) (fun _ _ => trivial)
theorem own_head {w : World} {base n c : Nat} {ok : Nat → Prop} {A : Option Addr} {r : List Int} (h : Kd.R (Kd.int .u8) 5 w base ok (.slice A (n + 2) c) r) : ∃ g, A = some ⟨g, 0, none⟩ := by
  have h2 := Kd.R_reads' h
  obtain ⟨ad, hA, _⟩ := h2.2.2.2.2 (by omega)
  subst hA
  obtain ⟨g, rfl⟩ := Kd.R_head h
  exact ⟨g, rfl⟩
theorem byte_at {w : World} {A : Option Addr} {c : Nat} {b : List Int} (h : In w A c b) (j : Nat) (hj : j < b.length) : ∃ ad y, A = some ad ∧ 0 ≤ y ∧ y ≤ 255 ∧ w.cell? (ad.add j) = some (.int .u8 y) := by
  obtain ⟨ad, cs, hA, hc, hK, hcc⟩ := Kd.C_get h.row 0 (j : Int) (by omega) (by omega)
  obtain rfl : cs = [.int .u8 (b.getD j 0)] := by simpa [Kd.int, Kd.scalar] using hK
  have h1 := hcc 0 _ rfl
  have hm := h.isB (b.getD j 0) (by rw [List.getD_eq_getElem?_getD, List.getElem?_eq_getElem hj]; exact List.getElem_mem _)
  refine ⟨ad, _, hA, hm.1, hm.2, ?_⟩
  simpa [Kd.int, Kd.scalar] using h1
set_option maxHeartbeats 8000000 in
set_option maxRecDepth 100000 in
theorem decodes_calls (w : World) (A : Option Addr) (c : Nat) (b : List Int) (hb : In w A c b) (hbl : b.length ≤ 140737488351232) :
    Calls Try.prog 14 #[.slice A b.length c] w fun e w' => e = .returned (.bool true) ∧ Below w.heap.size w w' := by
  have HI := Aside0.mk (And.intro hb hbl)
  have hbI : (b.length : Int) ≤ 9223372036854775805 := by omega
  have hb0 : (0 : Int) ≤ (b.length : Int) := by omega
  obtain ⟨x, p, er, hxp⟩ : ∃ x p er, whole zMsg msgP b = (x, p, er) := ⟨_, _, _, rfl⟩
  have HX : Aside0 (whole zMsg msgP b = (x, p, er) ∧ x.views.length ≤ 1000000) := ⟨hxp, by have := whole_views hb.isB hxp; omega⟩
  clear hb hbl hxp
  have hu33 := Try.underlying33
  go_enter Try.func14, Try.ntmps14
  go_upto_region 2 with (go_at_call 19; refine (lent_calls A c b _ HI.out.1.row HI.out.2).mono ?_; rintro e w1 ⟨v, rfl, hR, hb⟩; obtain ⟨Ab, cb, rfl, hcv, hin⟩ := lent_cut hR HI.out.1.isB; have hcB : (b.length : Int) ≤ (cb : Int) := (by omega); have H1 : Aside0 (Below w.heap.size w w1 ∧ Kd.R (Kd.int .u8) 5 w1 w.heap.size (fun k => w.heap.size ≤ k ∧ k < w1.heap.size) (.slice Ab (b.length + 2) cb) (b ++ [165, 90]) ∧ In w1 Ab cb b) := ⟨hb, lent_in hR (Nat.le_refl _), hin⟩; clear hR hb hcv hin)
  go_upto_region 3 with (first
    | (go_at_call 18; refine (dec_law _ Ab cb b _ rfl H1.out.2.2 HX.out.1).mono ?_; rintro e w2 ⟨A1, c1, rfl, hn, hb⟩; have H2 : Aside0 (Below w.heap.size w w2 ∧ Kd.R (Kd.int .u8) 5 w2 w.heap.size (fun k => w.heap.size ≤ k ∧ k < w1.heap.size) (.slice Ab (b.length + 2) cb) (b ++ [165, 90]) ∧ NewV w1 w2 A1 c1 x.views ∧ w1.heap.size ≤ w2.heap.size) := ⟨below_step H1.out.1 hb, Kd.R_below H1.out.2.1 hb, hn, hb.size⟩; have HA := Aside0.mk (heap_alloc_new w2 (.cells (MVc zMsg none 0) 33 (0, 0))); clear hn hb)
    | (refine wpList_store_row rfl 33 (.tmp 4) (.tmp 19) rfl w2.heap.size (MVc x A1 c1) (by rfl) (by rfl) 33 _ HA.out inf33 rfl (mv_one _ _ _) ?_))
  obtain ⟨w3, hw3⟩ : ∃ w3, w3 = (w2.alloc (.cells (MVc zMsg none 0) 33 (0, 0))).setRow w2.heap.size (MVc x A1 c1) := ⟨_, rfl⟩
  have HW3 := Aside0.mk hw3
  rw [mv_zero] at HW3
  have H3 : Aside0 (Below w.heap.size w w3 ∧ Kd.R (Kd.int .u8) 5 w3 w.heap.size (fun k => w.heap.size ≤ k ∧ k < w1.heap.size) (.slice Ab (b.length + 2) cb) (b ++ [165, 90]) ∧ NewV w1 w3 A1 c1 x.views ∧ w3.heap[w2.heap.size]? = some (.cells (MVc x A1 c1) 33 (0, 0)) ∧ w2.heap.size ≤ w3.heap.size) := ⟨by
    have hb : Below w2.heap.size w2 w3 := by rw [hw3]; exact below_setRow (al_below _ _) (Nat.le_refl _) _
    exact ⟨below_step H2.out.1 hb, Kd.R_below H2.out.2.1 hb, newV_below H2.out.2.2.1 hb, by rw [hw3]; exact setRow_blk HA.out _, hb.size⟩⟩
  rw [← HW3.out]
  clear hw3 HW3 HA
  go_upto_region 4 with (first
    | (go_at_call 41; refine (rdec_law _ A c b _ rfl (In.below HI.out.1 H3.out.1) HX.out.1).mono ?_; rintro e w4 ⟨A2, c2, rfl, hn, hb⟩; have H4 : Aside0 (Below w.heap.size w w4 ∧ Kd.R (Kd.int .u8) 5 w4 w.heap.size (fun k => w.heap.size ≤ k ∧ k < w1.heap.size) (.slice Ab (b.length + 2) cb) (b ++ [165, 90]) ∧ NewV w1 w4 A1 c1 x.views ∧ w4.heap[w2.heap.size]? = some (.cells (MVc x A1 c1) 33 (0, 0)) ∧ VR w3 w4 A2 c2 x.views ∧ w3.heap.size ≤ w4.heap.size) := ⟨below_step H3.out.1 hb, Kd.R_below H3.out.2.1 hb, newV_below H3.out.2.2.1 hb, blk_keep hb H3.out.2.2.2.1, hn, hb.size⟩; have HA := Aside0.mk (heap_alloc_new w4 (.cells (MVc zMsg none 0) 33 (0, 0))); clear hn hb)
    | (refine wpList_store_row rfl 33 (.tmp 7) (.tmp 25) rfl w4.heap.size (MVc x A2 c2) (by rfl) (by rfl) 33 _ HA.out inf33 rfl (mv_one _ _ _) ?_))
  obtain ⟨w5, hw5⟩ : ∃ w5, w5 = (w4.alloc (.cells (MVc zMsg none 0) 33 (0, 0))).setRow w4.heap.size (MVc x A2 c2) := ⟨_, rfl⟩
  have HW5 := Aside0.mk hw5
  rw [mv_zero] at HW5
  have H5 : Aside0 (Below w.heap.size w w5 ∧ Kd.R (Kd.int .u8) 5 w5 w.heap.size (fun k => w.heap.size ≤ k ∧ k < w1.heap.size) (.slice Ab (b.length + 2) cb) (b ++ [165, 90]) ∧ NewV w1 w5 A1 c1 x.views ∧ w5.heap[w2.heap.size]? = some (.cells (MVc x A1 c1) 33 (0, 0)) ∧ VR w3 w5 A2 c2 x.views ∧ w5.heap[w4.heap.size]? = some (.cells (MVc x A2 c2) 33 (0, 0)) ∧ (w1.heap.size ≤ w2.heap.size ∧ w2.heap.size < w4.heap.size ∧ w2.heap.size ≤ w3.heap.size ∧ w3.heap.size ≤ w4.heap.size ∧ w.heap.size ≤ w1.heap.size)) := ⟨by
    have hb : Below w4.heap.size w4 w5 := by rw [hw5]; exact below_setRow (al_below _ _) (Nat.le_refl _) _
    exact ⟨below_step H4.out.1 hb, Kd.R_below H4.out.2.1 hb, newV_below H4.out.2.2.1 hb, blk_keep hb H4.out.2.2.2.1, Kd.R_below H4.out.2.2.2.2.1 hb, by rw [hw5]; exact setRow_blk HA.out _, H2.out.2.2.2, blk_lt H4.out.2.2.2.1, H3.out.2.2.2.2, H4.out.2.2.2.2.2, H1.out.1.size⟩⟩
  rw [← HW5.out]
  clear hw5 HW5 HA H1 H2 H3 H4
  go_upto_region 6 with (first
    | (go_at_call 42; refine (back_left w _ _ b w.heap.size w1.heap.size H5.out.1 (Nat.le_refl _) H5.out.2.1 A c HI.out.1 HI.out.2).mono ?_; rintro e w6 ⟨rfl, hb, hk, r, hr, hrB, hR⟩; have H6 : Aside0 (Below w.heap.size w w6 ∧ Kd.R (Kd.int .u8) 5 w6 w.heap.size (fun k => w.heap.size ≤ k ∧ k < w1.heap.size) (.slice Ab (b.length + 2) cb) r ∧ r.length = b.length + 2 ∧ IsB r ∧ w6.heap[w2.heap.size]? = some (.cells (MVc x A1 c1) 33 (0, 0)) ∧ w6.heap[w4.heap.size]? = some (.cells (MVc x A2 c2) 33 (0, 0)) ∧ (Kd.C k87 w6 A1 x.views.length x.views ∧ x.views.length ≤ c1) ∧ (Kd.C k87 w6 A2 x.views.length x.views ∧ x.views.length ≤ c2)) := ⟨hb, hR, hr, hrB, blk_kept H5.out.2.2.2.1 hk (by have := H5.out.2.2.2.2.2.2; omega), blk_kept H5.out.2.2.2.2.2.1 hk (by have := H5.out.2.2.2.2.2.2; omega), newV_C (newV_kept H5.out.2.2.1 hk (Nat.le_refl _)) HX.out.2, vr_C (vr_kept H5.out.2.2.2.2.1 hk (by have := H5.out.2.2.2.2.2.2; omega))⟩; have HS5 : Aside0 (w1.heap.size ≤ w2.heap.size ∧ w2.heap.size < w4.heap.size) := ⟨by have := H5.out.2.2.2.2.2.2; omega⟩; clear hb hk hr hrB hR)
    | ((with_reducible refine gate_dst (N := 43) rfl ?_); refine gate_guard (by kernel_rfl) ?_; refine wpList_load_row rfl 33 (.tmp 4) rfl w2.heap.size (by rfl) 33 (MVc x A1 c1) (0, 0) _ H6.out.2.2.2.2.1 hu33 rfl inf33 ?_)
    | ((with_reducible refine gate_dst (N := 44) rfl ?_); refine gate_guard (by kernel_rfl) ?_; refine wpList_load_row rfl 33 (.tmp 7) rfl w4.heap.size (by rfl) 33 (MVc x A2 c2) (0, 0) _ H6.out.2.2.2.2.2.1 hu33 rfl inf33 ?_)
    | (go_at_call 20; refine (msg_same x A1 c1 A2 c2 _ H6.out.2.2.2.2.2.2.1 H6.out.2.2.2.2.2.2.2).mono ?_; rintro e w7 ⟨rfl, hb⟩; have H7 : Aside0 (Below w.heap.size w w7 ∧ Kd.R (Kd.int .u8) 5 w7 w.heap.size (fun k => w.heap.size ≤ k ∧ k < w1.heap.size) (.slice Ab (b.length + 2) cb) r ∧ r.length = b.length + 2 ∧ IsB r ∧ w7.heap[w2.heap.size]? = some (.cells (MVc x A1 c1) 33 (0, 0)) ∧ w7.heap[w4.heap.size]? = some (.cells (MVc x A2 c2) 33 (0, 0))) := ⟨below_step H6.out.1 hb, Kd.R_below H6.out.2.1 hb, H6.out.2.2.1, H6.out.2.2.2.1, blk_keep hb H6.out.2.2.2.2.1, blk_keep hb H6.out.2.2.2.2.2.1⟩; clear hb))
  obtain ⟨g, hg⟩ := own_head H7.out.2.1
  subst hg
  have D0 : Aside0 (DX w w7 g w1.heap.size b.length cb w2.heap.size w4.heap.size (MVc x A1 c1) (MVc x A2 c2) r) := ⟨⟨H7.out.1, H7.out.2.1, H7.out.2.2.1, H7.out.2.2.2.1, H7.out.2.2.2.2.1, H7.out.2.2.2.2.2⟩⟩
  have HSZ : Aside0 (w1.heap.size ≤ w2.heap.size ∧ w2.heap.size < w4.heap.size) := ⟨HS5.out⟩
  clear H6 H7
  go_wp2_with fail
  go_loopw [10] (fun v10 wr => ∃ (i : Nat) (r : List Int), v10 = .int .i64 (i : Int) ∧ Aside0 (i ≤ b.length ∧ DX w wr g w1.heap.size b.length cb w2.heap.size w4.heap.size (MVc x A1 c1) (MVc x A2 c2) r)) (fun v10 _ => b.length - (intOf v10).toNat)
  case atStart => exact ⟨0, r, rfl, ⟨Nat.zero_le _, D0.out⟩⟩
  case round =>
    obtain ⟨i, r, rfl, HQ⟩ := hrel
    have DQ := Aside0.mk HQ.out.2
    by_cases hlt : i < b.length
    · have hi0 : (0 : Int) ≤ (i : Int) := by omega
      have hi1 : (i : Int) < (b.length : Int) := by omega
      have hi2 : (i : Int) < ((b.length + 2 : Nat) : Int) := by omega
      have hi3 : (i : Int) < (b.length : Int) + 2 := by omega
      have HLT := Aside0.mk hlt
      obtain ⟨j, hj⟩ : ∃ j : Nat, (b.length : Int) - 1 - (i : Int) = (j : Int) := ⟨b.length - 1 - i, by omega⟩
      obtain ⟨ad, y, hA, y0, y1, kb⟩ := byte_at (In.below HI.out.1 DQ.out.bel) j (by omega)
      subst hA
      obtain ⟨⟨z, kc⟩, kf⟩ := DQ.out.cell i (by omega)
      go_upto_region 8 with fail
      have D1 : Aside0 (DX w (wr.setCell ⟨g, i, none⟩ (.int .u8 y)) g w1.heap.size b.length cb w2.heap.size w4.heap.size (MVc x A1 c1) (MVc x A2 c2) (r.set i y)) := ⟨DQ.out.put HSZ.out.1 (by have := HSZ.out; omega) i y ⟨y0, y1⟩⟩
      clear hj kb kc kf y0 y1
      go_wp2_with fail
      go_roundw
      case rel => exact ⟨i + 1, r.set i y, by go_num, ⟨by have := HLT.out; omega, D1.out⟩⟩
      case measure => simp only [intOf]; have := HLT.out; first | omega | (go_num; omega) | (simp; omega)
    · have hi1 : ¬ ((i : Int) < (b.length : Int)) := by omega
      obtain ⟨b2, hb2⟩ : ∃ b2, b2 = r.take b.length := ⟨_, rfl⟩
      have HB2 : Aside0 (In wr (some ⟨g, 0, none⟩) cb b2 ∧ b2.length = b.length) := ⟨by rw [hb2]; exact DQ.out.front⟩
      obtain ⟨x2, p2, er2, hxp⟩ : ∃ x p er, whole zMsg msgP b2 = (x, p, er) := ⟨_, _, _, rfl⟩
      have HX2 : Aside0 (whole zMsg msgP b2 = (x2, p2, er2) ∧ x2.views.length ≤ 1000000) := ⟨hxp, by have := whole_views HB2.out.1.isB hxp; omega⟩
      have HWR : Aside0 (w2.heap.size < wr.heap.size ∧ w4.heap.size < wr.heap.size) := ⟨blk_lt DQ.out.box4, blk_lt DQ.out.box7⟩
      have HE2 := Aside0.mk hb2
      clear hb2 hxp
      go_upto_region 11 with (first
        | (refine wpList_store_row rfl 33 (.tmp 4) (.tmp 71) rfl w2.heap.size (MVc x2 A3 c3) (by rfl) (by rfl) 33 _ D8.out.1.box4 inf33 rfl (mv_one _ _ _) ?_)
        | (go_at_call 18; refine (dec_law _ _ cb b2 _ HB2.out.2 HB2.out.1 HX2.out.1).mono ?_; rintro e w8 ⟨A3, c3, rfl, hn, hb⟩; have D8 := Aside0.mk (And.intro (DQ.out.below hb) (And.intro hn (And.intro (In.below HB2.out.1 hb) hb.size))); clear hn hb))
      obtain ⟨w9, hw9⟩ : ∃ w9, w9 = w8.setRow w2.heap.size (MVc x2 A3 c3) := ⟨_, rfl⟩
      have D9 : Aside0 (DX w w9 g w1.heap.size b.length cb w2.heap.size w4.heap.size (MVc x2 A3 c3) (MVc x A2 c2) r ∧ NewV wr w9 A3 c3 x2.views ∧ wr.heap.size ≤ w9.heap.size) := ⟨by
        rw [hw9]
        exact ⟨D8.out.1.row4 HSZ.out.1 (by have := HSZ.out; omega) _, newV_row D8.out.2.1 HWR.out.1 _, by rw [size_setRow]; exact D8.out.2.2.2⟩⟩
      have HB9 : Aside0 (Kd.C (Kd.int .u8) w9 (some ⟨g, 0, none⟩) b.length b2 ∧ IsB b2) := ⟨by
        have hf := D9.out.1.front
        rw [← HE2.out] at hf
        exact ⟨by have h1 := hf.1.row; rwa [hf.2] at h1, hf.1.isB⟩⟩
      have HZ : Aside0 ((0 + b.length) * 1 ≤ 140737488355328) := ⟨by have := HI.out.2; omega⟩
      rw [← hw9]
      clear hw9 D8
      go_upto_region 12 with (first
        | ((with_reducible refine gate_dst (N := 79) rfl ?_); refine Kd.R_append_row (Value.int .u8) (0 : Int) (h1 := fun _ => rfl) (w0 := w9) w9.heap.size rfl (.const (.slice none 0 0)) (.tmp 78) 36 5 (.int .u8 0) 1 rfl Try.underlying36 inf8 rfl (by omega) (.slice none 0 0) [] b2 (some ⟨g, 0, none⟩) b.length cb (fun _ => True) rfl rfl (fun _ _ => trivial) (Kd.R_nil _ _ _ _ _) HB9.out.1 (Below.refl _ _) (Nat.le_refl _) HZ.out ?_; intro v10 w10 hR hB hg hat; rw [List.nil_append] at hR; obtain ⟨Ac, cc, rfl, hin⟩ := in_of_R hR HB9.out.2; have D10 : Aside0 (DX w w10 g w1.heap.size b.length cb w2.heap.size w4.heap.size (MVc x2 A3 c3) (MVc x A2 c2) r ∧ NewV wr w10 A3 c3 x2.views ∧ In w10 Ac cc b2 ∧ wr.heap.size ≤ w10.heap.size) := ⟨D9.out.1.below hB, newV_below D9.out.2.1 hB, hin, Nat.le_trans D9.out.2.2 hB.size⟩; clear hR hB hg hat hin)
        | (go_at_call 41; refine (rdec_law _ Ac cc b2 _ rfl D10.out.2.2.1 HX2.out.1).mono ?_; rintro e w11 ⟨A4, c4, rfl, hn, hb⟩; have D11 : Aside0 (DX w w11 g w1.heap.size b.length cb w2.heap.size w4.heap.size (MVc x2 A3 c3) (MVc x A2 c2) r ∧ NewV wr w11 A3 c3 x2.views ∧ VR w10 w11 A4 c4 x2.views) := ⟨D10.out.1.below hb, newV_below D10.out.2.1 hb, hn⟩; clear hn hb)
        | (refine wpList_store_row rfl 33 (.tmp 7) (.tmp 81) rfl w4.heap.size (MVc x2 A4 c4) (by rfl) (by rfl) 33 _ D11.out.1.box7 inf33 rfl (mv_one _ _ _) ?_))
      obtain ⟨w12, hw12⟩ : ∃ w12, w12 = w11.setRow w4.heap.size (MVc x2 A4 c4) := ⟨_, rfl⟩
      have D12 : Aside0 (DX w w12 g w1.heap.size b.length cb w2.heap.size w4.heap.size (MVc x2 A3 c3) (MVc x2 A4 c4) r ∧ (Kd.C k87 w12 A3 x2.views.length x2.views ∧ x2.views.length ≤ c3) ∧ (Kd.C k87 w12 A4 x2.views.length x2.views ∧ x2.views.length ≤ c4)) := ⟨by
        rw [hw12]
        exact ⟨D11.out.1.row7 (by have := HSZ.out; omega) (by have := HSZ.out; omega) _, newV_C (newV_row D11.out.2.1 HWR.out.2 _) HX2.out.2, vr_C (vr_row D11.out.2.2 (by have := HWR.out.2; have := D10.out.2.2.2; omega) _)⟩⟩
      rw [← hw12]
      clear hw12
      go_wp2_with (first
        | ((with_reducible refine gate_dst (N := 93) rfl ?_); refine gate_guard (by kernel_rfl) ?_; refine wpList_load_row rfl 33 (.tmp 4) rfl w2.heap.size (by rfl) 33 (MVc x2 A3 c3) (0, 0) _ D12.out.1.box4 hu33 rfl inf33 ?_)
        | ((with_reducible refine gate_dst (N := 94) rfl ?_); refine gate_guard (by kernel_rfl) ?_; refine wpList_load_row rfl 33 (.tmp 7) rfl w4.heap.size (by rfl) 33 (MVc x2 A4 c4) (0, 0) _ D12.out.1.box7 hu33 rfl inf33 ?_)
        | (go_at_call 20; refine (msg_same x2 A3 c3 A4 c4 _ D12.out.2.1 D12.out.2.2).mono ?_; rintro e w13 ⟨rfl, hb⟩; have HE := Aside0.mk (below_step D12.out.1.bel hb); clear hb))
      go_ret
      exact ⟨rfl, HE.out⟩
end Go.Proofs.Ytpgdmmjbhjbbhaa.Lw
end
section
namespace Go.Proofs.Ytpgdmmjbhjbbhaa.Lw
open Go Go.RowKit Go.Proofs.Ytpgdmmjbhjbbhaa.P Go.Proofs.Ytpgdmmjbhjbbhaa.Sp Go.Proofs.Ytpgdmmjbhjbbhaa.Vd Go.Proofs.Ytpgdmmjbhjbbhaa.En Go.Proofs.Ytpgdmmjbhjbbhaa.Wr Go.Proofs.Ytpgdmmjbhjbbhaa.Rd Go.Proofs.YtpgdmmjbhjbbhaaW.PrintWords Go.Proofs.YtpgdmmjbhjbbhaaW.PrintLast Go.Proofs.YtpgdmmjbhjbbhaaW.PrintMore
set_option linter.unusedVariables false
set_option linter.unusedSimpArgs false
set_option maxHeartbeats 4000000 in
set_option maxRecDepth 100000 in
theorem decodes_walk (w : World) (A : Option Addr) (c : Nat) (b : List Int) (hb : In w A c b) (hbl : b.length ≤ 140737488351232) :
    Calls Try.prog 4 #[.slice A b.length c] w fun e w' => e = .returned (.bool true) ∧ Below w.heap.size w w' := by
  have HI := Aside0.mk (And.intro hb hbl)
  clear hb hbl
  go_enter Try.func4, Try.ntmps4
  go_wp2_with (first
    | (go_at_call 12; refine (able_calls _).mono ?_; rintro e w1 ⟨rfl, hb⟩; have H1 := Aside0.mk hb; clear hb)
    | (go_at_call 14; refine (decodes_calls _ A c b (In.below HI.out.1 H1.out) HI.out.2).mono ?_; rintro e w2 ⟨rfl, hb⟩; have HE := Aside0.mk (below_step H1.out hb); clear hb))
  go_ret
  exact ⟨rfl, HE.out⟩
end Go.Proofs.Ytpgdmmjbhjbbhaa.Lw
end
