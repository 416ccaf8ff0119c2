/- texts that the proof needs, laid together by a program of this session. -/
import Derived.WalkKit
import Derived.ProofKit
import Derived.OpenShut
import Derived.ShutString
import Derived.ChangeOld
import Derived.Below
import Derived.SizedLaws
import Derived.Deep.Slices
import Derived.Test.YtpgdmmjbhjbbhaaKWireCut11
section
namespace Go.Proofs.Ytpgdmmjbhjbbhaa.Lw
open Go Go.RowKit Go.Proofs.Ytpgdmmjbhjbbhaa.P Go.Proofs.Ytpgdmmjbhjbbhaa.Sp Go.Proofs.Ytpgdmmjbhjbbhaa.Vd Go.Proofs.Ytpgdmmjbhjbbhaa.En Go.Proofs.Ytpgdmmjbhjbbhaa.Wr Go.Proofs.Ytpgdmmjbhjbbhaa.Rd Go.Proofs.YtpgdmmjbhjbbhaaW.PrintWords Go.Proofs.YtpgdmmjbhjbbhaaW.PrintLast Go.Proofs.YtpgdmmjbhjbbhaaW.PrintMore
set_option linter.unusedVariables false
set_option linter.unusedSimpArgs false
/-- Taken: the very bytes; or refused: nothing but a place within. -/
def Took {α : Type} (z : α) (e : α → List Int) (v : α → Prop) (b : List Int) (x : α) (p er : Int) : Prop :=
  (er = 0 ∧ p = 0 ∧ v x ∧ e x = b) ∨ (er = 20 ∧ 0 ≤ p ∧ p ≤ b.length ∧ x = z)
theorem took_of {α : Type} {p : Rdr α} {e : α → List Int} {v : α → Prop} (h : Codec p e v) (hs : Sp.Safe p) (z : α) {b : List Int} (hb : IsB b) : Took z e v b (whole z p b).1 (whole z p b).2.1 (whole z p b).2.2 := by
  rcases whole_one h hs z hb with ⟨x, hw, hv, he⟩ | ⟨n, hw, h0, h1⟩
  · rw [hw]; exact .inl ⟨rfl, rfl, hv, he⟩
  · rw [hw]; exact .inr ⟨rfl, h0, h1, rfl⟩
theorem rowV_get : ∀ (l : List S87) (j i : Nat) (p : S87), l[j]? = some p → i < 7 → (rowV l)[j * 7 + i]? = (vcells p)[i]?
  | [], j, i, p, h, hi => by simp at h
  | v :: r, 0, i, p, h, hi => by
    obtain rfl : v = p := by simpa using h
    show (vcells v ++ rowV r)[0 * 7 + i]? = _
    rw [Nat.zero_mul, Nat.zero_add, List.getElem?_append_left (by simpa [vcells] using hi)]
  | v :: r, j + 1, i, p, h, hi => by
    have h2 : r[j]? = some p := by simpa using h
    show (vcells v ++ rowV r)[(j + 1) * 7 + i]? = _
    have hl : (vcells v).length = 7 := rfl
    rw [List.getElem?_append_right (by omega), hl, show (j + 1) * 7 + i - 7 = j * 7 + i by omega]
    exact rowV_get r j i p h2 hi
theorem views_row {w : World} {vb : Nat} {xs : List S87} (h : w.heap[vb]? = some (.cells (rowV xs).toArray 87 (0, 0))) (hl : xs.length ≤ 1000000) : Kd.C k87 w (some ⟨vb, 0, none⟩) xs.length xs := by
  refine ⟨rfl, by omega, fun _ => ⟨_, rfl, fun j p hj => ⟨vcells p, rfl, k87_mk w p, fun i u hu => ?_⟩⟩⟩
  rw [add_plain, cell_of_row _ vb _ _ _ (0, 0) h]
  have hi : i < 7 := by have := (List.getElem?_eq_some_iff.1 hu).1; simpa [vcells] using this
  have := rowV_get xs j i p hj hi
  rw [List.getElem?_toArray]
  exact this.trans hu
theorem newV_C {w w1 : World} {A : Option Addr} {c : Nat} {xs : List S87} (h : NewV w w1 A c xs) (hl : xs.length ≤ 1000000) : Kd.C k87 w1 A xs.length xs ∧ xs.length ≤ c := by
  rcases h with ⟨rfl, rfl, rfl⟩ | ⟨vb, rfl, rfl, _, hb⟩
  · exact ⟨views_nil _ _, Nat.le_refl _⟩
  · exact ⟨views_row hb hl, Nat.le_refl _⟩
theorem isI_0 : isI 0 := by unfold isI; omega
theorem msgV_isI {m : Msg} (h : msgV m) : isI m.op.a ∧ isI m.op.b := by
  have h2 := h.2
  unfold restV at h2
  have hz : ∀ m2 : Msg, m = m2 → isI m2.op.a ∧ isI m2.op.b → isI m.op.a ∧ isI m.op.b := fun m2 e k => e ▸ k
  split at h2
  · exact h2.2.1.2.2
  · split at h2
    · exact hz _ h2.2.2.2.2 ⟨isI_0, isI_0⟩
    · split at h2
      · exact hz _ h2.2 ⟨isI_0, isI_0⟩
      · exact hz _ h2.2.2.2.2.2.2 ⟨isI_0, isI_0⟩
theorem msgV_views {m : Msg} (h : msgV m) : m.views.length ≤ 64 := by
  have h2 := h.2
  unfold restV at h2
  have hz : ∀ m2 : Msg, m = m2 → m2.views.length ≤ 64 → m.views.length ≤ 64 := fun m2 e k => e ▸ k
  split at h2
  · exact hz _ h2.2.2 (Nat.zero_le _)
  · split at h2
    · exact hz _ h2.2.2.2.2 (Nat.zero_le _)
    · split at h2
      · exact h2.1.1
      · exact hz _ h2.2.2.2.2.2.2 (Nat.zero_le _)
theorem dec_one (w : World) (A : Option Addr) (c : Nat) (b : List Int) (hi : In w A c b) :
    Calls Try.prog 18 #[.slice A b.length c] w fun e w' => ∃ (x : Msg) (p er : Int) (A1 : Option Addr) (c1 : Nat), e = .returned (.tuple #[.agg (MVc x A1 c1), .int .i64 p, .int .i64 er]) ∧ Took zMsg msgB msgV b x p er ∧ (Kd.C k87 w' A1 x.views.length x.views ∧ x.views.length ≤ c1) ∧ Below w.heap.size w w' := by
  refine (decode_calls w A c b hi).mono ?_
  rintro e w' ⟨hb, A1, c1, he, hn⟩
  have ht := took_of msgP_codec safe_msg zMsg hi.isB
  refine ⟨_, _, _, A1, c1, he, ht, newV_C hn ?_, hb⟩
  rcases ht with ⟨_, _, hv, _⟩ | ⟨_, _, _, hz⟩
  · have := msgV_views hv; omega
  · rw [hz]; exact Nat.zero_le _
theorem enc_took (x : Msg) (b : List Int) (hv : msgV x) (he : msgB x = b) (hb : IsB b) (A1 : Option Addr) (c1 : Nat) (w : World) (h : Kd.C k87 w A1 x.views.length x.views ∧ x.views.length ≤ c1) :
    Calls Try.prog 16 #[.agg (MVc x A1 c1)] w fun e w' => ∃ A c, e = .returned (.tuple #[.slice A b.length c, .int .i64 0]) ∧ In w' A c b ∧ Below w.heap.size w w' := by
  refine (encode_calls x (msgV_isI hv) A1 c1 w h.1 h.2).mono ?_
  rintro e w' ⟨v, hr, hR, hbl⟩
  rw [lay_right hv] at hr hR
  simp only [he] at hR
  obtain ⟨A, c, rfl, hin⟩ := in_of_R hR hb
  exact ⟨A, c, hr, hin, hbl⟩
theorem In_nil (w : World) : In w none 0 [] := ⟨⟨rfl, by decide, fun h => absurd h (by decide)⟩, (fun x h => by cases h), Nat.le_refl _⟩
theorem two_blocks (w : World) (a b : Obj) : ((w.alloc a).alloc b).heap[w.heap.size]? = some a ∧ ((w.alloc a).alloc b).heap[w.heap.size + 1]? = some b := by
  refine ⟨(Below.heap_alloc _ _ _ (by simp)).trans (heap_alloc_new w _), ?_⟩
  have := heap_alloc_new (w.alloc a) b
  rwa [show (w.alloc a).heap.size = w.heap.size + 1 by simp] at this
end Go.Proofs.Ytpgdmmjbhjbbhaa.Lw
end
section
namespace Go.Proofs.Ytpgdmmjbhjbbhaa.Ow
open Go Go.ChangeShapes Go.WideShapes Go.ChangeAt Go.RowKit Go.Proofs.Ytpgdmmjbhjbbhaa.P Go.Proofs.Ytpgdmmjbhjbbhaa.Sp Go.Proofs.Ytpgdmmjbhjbbhaa.Vd Go.Proofs.Ytpgdmmjbhjbbhaa.En Go.Proofs.Ytpgdmmjbhjbbhaa.Wr Go.Proofs.Ytpgdmmjbhjbbhaa.Rd Go.Proofs.Ytpgdmmjbhjbbhaa.Lw Go.Proofs.YtpgdmmjbhjbbhaaW.PrintWords
set_option linter.unusedVariables false
set_option linter.unusedSimpArgs false
/-- The datum weighs no more than a machine has. -/
def Fit {H : Type} (t : TypeId) (d : DataW H) : Prop := ∀ n ∈ d.weights Try.prog t, n ≤ 140737488351232
theorem fit_all {H : Type} {ts : List TypeId} {ds : List (DataW H)} (h : (DataW.weightsEach Try.prog ts ds).all (· ≤ reachBytes) = true) {j : Nat} {t : TypeId} {d : DataW H} (ht : ts[j]? = some t) (hd : ds[j]? = some d) : Fit t d := fun n hn => by
  have := List.all_eq_true.1 h _ (DataW.weights_mem_each ht hd n hn)
  exact of_decide_eq_true this
theorem fit_field {H : Type} {t tj : TypeId} {fs : Array Field} {parts : List (DataW H)} {d : DataW H} (hu : Try.prog.underlying t = some (.struct fs)) (h : Fit t (.agg parts)) (j : Nat) (ht : (fs.toList.map (·.type))[j]? = some tj) (hd : parts[j]? = some d) : Fit tj d := fun n hn =>
  h n (by simp only [DataW.weights, hu]; exact DataW.weights_mem_each ht hd n hn)
theorem weights_all {H : Type} {e : TypeId} : ∀ {l : List (DataW H)} {d : DataW H}, d ∈ l → ∀ n ∈ d.weights Try.prog e, n ∈ DataW.weightsAll Try.prog e l
  | x :: r, d, h, n, hn => by
    simp only [DataW.weightsAll, List.mem_append]
    rcases List.mem_cons.1 h with rfl | h
    · exact .inl hn
    · exact .inr (weights_all h n hn)
  | [], _, h, _, _ => by cases h
theorem fit_slice {H : Type} {t e : TypeId} {elems spare : List (DataW H)} (hu : Try.prog.underlying t = some (.slice e)) (h : Fit t (.slice elems spare)) : (elems.length + spare.length) * Try.prog.bytesOf e ≤ 140737488351232 ∧ ∀ d ∈ elems, Fit e d :=
  ⟨h _ (by simp [DataW.weights, hu]), fun d hd n hn => h n (by simp only [DataW.weights, hu, List.mem_cons, List.mem_append]; exact .inr (.inl (weights_all hd n hn)))⟩
theorem fits {k : IntKind} {a0 : Int} (w0 : (Lit.int .i64 a0).wf = true) : isI a0 := by simpa [isI, Lit.wf, IntKind.min, IntKind.max, IntKind.signed, IntKind.bits] using w0
section
variable {H : Type} {enc : TypeId × Value → H} {w : World} {spare : Nat → Bool} {held : Bool}
theorem int_open {t : TypeId} {fuel : Nat} {cs : List Value} {x : DataW H × List MemPlace} (ht : Try.prog.underlying t = some (.int .i64)) (h : DataW.trod enc Try.prog w 0 spare held fuel t cs = some x) : ∃ n, cs = [.int .i64 n] ∧ isI n := by
  obtain ⟨n, g, _, hw⟩ := DataW.trod_int ht h
  exact ⟨n, g, fits (k := .i64) hw⟩
theorem str_open {t : TypeId} {fuel : Nat} {cs : List Value} {x : DataW H × List MemPlace} (ht : Try.prog.underlying t = some .string) (h : DataW.trod enc Try.prog w 0 spare held fuel t cs = some x) : ∃ s, cs = [.string s] := by
  obtain ⟨s, g, _⟩ := DataW.trod_string ht h
  exact ⟨s, g⟩
theorem isB_wf {l : List Int} (h : ∀ n ∈ l, (Lit.int .u8 n).wf = true) : IsB l := fun n hn => by
  have := h n hn
  simp [Lit.wf, IntKind.min, IntKind.max, IntKind.signed, IntKind.bits] at this
  omega
/-- Bytes as they are read. -/
theorem bytes_open {fuel : Nat} {cs : List Value} {x : DataW H × List MemPlace} (h : DataW.trod enc Try.prog w 0 spare held fuel 36 cs = some x) (hf : Fit 36 x.1) :
    ∃ (A : Option Addr) (c : Nat) (xs : List Int), cs = [.slice A xs.length c] ∧ In w A c xs ∧ xs.length ≤ 140737488351232 := by
  obtain ⟨v, rfl⟩ : ∃ v, cs = [v] := by
    rcases DataW.trod_slice Try.underlying36 h with ⟨g, _⟩ | ⟨a, l, c, _, _, _, _, g, _⟩
    · exact ⟨_, g⟩
    · exact ⟨_, g⟩
  rcases open_ints Try.underlying36 Try.underlying5 (by kernel_rfl) h with ⟨hcs, _⟩ | ⟨a, l, c, zs, hcs, _, hl, hm, hz, hy, hcell, hwz⟩
  · obtain rfl : v = .slice none 0 0 := by simpa using hcs
    exact ⟨none, 0, [], rfl, In_nil _, by simp⟩
  · obtain rfl : v = .slice (some a) l c := by simpa using hcs
    have hlz : l ≤ zs.length := by rw [hz]; split <;> omega
    have hlen : (zs.take l).length = l := by rw [List.length_take]; omega
    refine ⟨some a, c, zs.take l, by rw [hlen], ⟨Kd.C_of_reads (d := (0 : Int)) (h1 := fun _ => rfl) ⟨rfl, by simp only [maxLen] at hm; omega, fun _ => ⟨a, rfl, fun j hj => ?_⟩⟩, isB_wf (fun n hn => hwz n (List.mem_of_mem_take hn)), by omega⟩, ?_⟩
    · rw [hcell j (by omega), List.getD_eq_getElem?_getD, List.getD_eq_getElem?_getD, List.getElem?_take, if_pos (by omega)]
    · rw [hy] at hf
      have h1 := (fit_slice Try.underlying36 hf).1
      rw [show Try.prog.bytesOf 5 = 1 by kernel_rfl] at h1
      have h2 : (lits (H := H) .u8 (zs.take l)).length = (zs.take l).length := by simp [lits]
      omega
set_option maxRecDepth 100000 in
theorem Epoch_open {fuel : Nat} {cs : List Value} {x : DataW H × List MemPlace} (h : DataW.trod enc Try.prog w 0 spare held fuel 23 cs = some x) : ∃ p : S25, cs = [.int .i64 p.f0, .int .i64 p.f1] := by
  obtain ⟨ys, n, _, hx, hcl, hyl, hf⟩ := DataW.trod_struct Try.underlying23 h
  have hcl2 : cs.length = 2 := hcl.trans (by kernel_rfl)
  have hyl2 : ys.length = 2 := hyl
  match cs, hcl2 with
  | [c0, c1], _ =>
    match ys, hyl2 with
    | [y0, y1], _ =>
      have eint : Try.prog.cellsOf 3 = 1 := by kernel_rfl
      have g0 : DataW.trod enc Try.prog w 0 spare held n 3 (List.take (Try.prog.cellsOf 3) (List.drop 0 [c0, c1])) = some y0 := hf 0 _ rfl
      rw [eint] at g0
      replace g0 : DataW.trod enc Try.prog w 0 spare held n 3 [c0] = some y0 := g0
      obtain ⟨n0, q0, i0⟩ := int_open Try.underlying3 g0
      have g1 : DataW.trod enc Try.prog w 0 spare held n 3 (List.take (Try.prog.cellsOf 3) (List.drop 1 [c0, c1])) = some y1 := hf 1 _ rfl
      rw [eint] at g1
      replace g1 : DataW.trod enc Try.prog w 0 spare held n 3 [c1] = some y1 := g1
      obtain ⟨n1, q1, i1⟩ := int_open Try.underlying3 g1
      simp only [List.cons.injEq, and_true] at q0 q1
      exact ⟨⟨n0, n1⟩, by rw [q0, q1]⟩
set_option maxRecDepth 100000 in
theorem Rights_open {fuel : Nat} {cs : List Value} {x : DataW H × List MemPlace} (h : DataW.trod enc Try.prog w 0 spare held fuel 25 cs = some x) : ∃ p : S25, cs = [.int .i64 p.f0, .int .i64 p.f1] := by
  obtain ⟨ys, n, _, hx, hcl, hyl, hf⟩ := DataW.trod_struct Try.underlying25 h
  have hcl2 : cs.length = 2 := hcl.trans (by kernel_rfl)
  have hyl2 : ys.length = 2 := hyl
  match cs, hcl2 with
  | [c0, c1], _ =>
    match ys, hyl2 with
    | [y0, y1], _ =>
      have eint : Try.prog.cellsOf 3 = 1 := by kernel_rfl
      have g0 : DataW.trod enc Try.prog w 0 spare held n 3 (List.take (Try.prog.cellsOf 3) (List.drop 0 [c0, c1])) = some y0 := hf 0 _ rfl
      rw [eint] at g0
      replace g0 : DataW.trod enc Try.prog w 0 spare held n 3 [c0] = some y0 := g0
      obtain ⟨n0, q0, i0⟩ := int_open Try.underlying3 g0
      have g1 : DataW.trod enc Try.prog w 0 spare held n 3 (List.take (Try.prog.cellsOf 3) (List.drop 1 [c0, c1])) = some y1 := hf 1 _ rfl
      rw [eint] at g1
      replace g1 : DataW.trod enc Try.prog w 0 spare held n 3 [c1] = some y1 := g1
      obtain ⟨n1, q1, i1⟩ := int_open Try.underlying3 g1
      simp only [List.cons.injEq, and_true] at q0 q1
      exact ⟨⟨n0, n1⟩, by rw [q0, q1]⟩
set_option maxRecDepth 100000 in
theorem Call_open {fuel : Nat} {cs : List Value} {x : DataW H × List MemPlace} (h : DataW.trod enc Try.prog w 0 spare held fuel 27 cs = some x) : ∃ p : S25, cs = [.int .i64 p.f0, .int .i64 p.f1] := by
  obtain ⟨ys, n, _, hx, hcl, hyl, hf⟩ := DataW.trod_struct Try.underlying27 h
  have hcl2 : cs.length = 2 := hcl.trans (by kernel_rfl)
  have hyl2 : ys.length = 2 := hyl
  match cs, hcl2 with
  | [c0, c1], _ =>
    match ys, hyl2 with
    | [y0, y1], _ =>
      have eint : Try.prog.cellsOf 3 = 1 := by kernel_rfl
      have g0 : DataW.trod enc Try.prog w 0 spare held n 3 (List.take (Try.prog.cellsOf 3) (List.drop 0 [c0, c1])) = some y0 := hf 0 _ rfl
      rw [eint] at g0
      replace g0 : DataW.trod enc Try.prog w 0 spare held n 3 [c0] = some y0 := g0
      obtain ⟨n0, q0, i0⟩ := int_open Try.underlying3 g0
      have g1 : DataW.trod enc Try.prog w 0 spare held n 3 (List.take (Try.prog.cellsOf 3) (List.drop 1 [c0, c1])) = some y1 := hf 1 _ rfl
      rw [eint] at g1
      replace g1 : DataW.trod enc Try.prog w 0 spare held n 3 [c1] = some y1 := g1
      obtain ⟨n1, q1, i1⟩ := int_open Try.underlying3 g1
      simp only [List.cons.injEq, and_true] at q0 q1
      exact ⟨⟨n0, n1⟩, by rw [q0, q1]⟩
set_option maxRecDepth 100000 in
theorem Op_open {fuel : Nat} {cs : List Value} {x : DataW H × List MemPlace} (h : DataW.trod enc Try.prog w 0 spare held fuel 29 cs = some x) : ∃ o : Sp.Op, cs = [.int .i64 o.kind, .string o.name, .int .i64 o.a, .int .i64 o.b] ∧ isI o.kind ∧ isI o.a ∧ isI o.b := by
  obtain ⟨ys, n, _, hx, hcl, hyl, hf⟩ := DataW.trod_struct Try.underlying29 h
  have hcl2 : cs.length = 4 := hcl.trans (by kernel_rfl)
  have hyl2 : ys.length = 4 := hyl
  match cs, hcl2 with
  | [c0, c1, c2, c3], _ =>
    match ys, hyl2 with
    | [y0, y1, y2, y3], _ =>
      have eint : Try.prog.cellsOf 3 = 1 := by kernel_rfl
      have estr : Try.prog.cellsOf 9 = 1 := by kernel_rfl
      have g0 : DataW.trod enc Try.prog w 0 spare held n 3 (List.take (Try.prog.cellsOf 3) (List.drop 0 [c0, c1, c2, c3])) = some y0 := hf 0 _ rfl
      rw [eint] at g0
      replace g0 : DataW.trod enc Try.prog w 0 spare held n 3 [c0] = some y0 := g0
      obtain ⟨n0, q0, i0⟩ := int_open Try.underlying3 g0
      have g1 : DataW.trod enc Try.prog w 0 spare held n 9 (List.take (Try.prog.cellsOf 9) (List.drop 1 [c0, c1, c2, c3])) = some y1 := hf 1 _ rfl
      rw [estr] at g1
      replace g1 : DataW.trod enc Try.prog w 0 spare held n 9 [c1] = some y1 := g1
      obtain ⟨n1, q1⟩ := str_open Try.underlying9 g1
      have g2 : DataW.trod enc Try.prog w 0 spare held n 3 (List.take (Try.prog.cellsOf 3) (List.drop 2 [c0, c1, c2, c3])) = some y2 := hf 2 _ rfl
      rw [eint] at g2
      replace g2 : DataW.trod enc Try.prog w 0 spare held n 3 [c2] = some y2 := g2
      obtain ⟨n2, q2, i2⟩ := int_open Try.underlying3 g2
      have g3 : DataW.trod enc Try.prog w 0 spare held n 3 (List.take (Try.prog.cellsOf 3) (List.drop 3 [c0, c1, c2, c3])) = some y3 := hf 3 _ rfl
      rw [eint] at g3
      replace g3 : DataW.trod enc Try.prog w 0 spare held n 3 [c3] = some y3 := g3
      obtain ⟨n3, q3, i3⟩ := int_open Try.underlying3 g3
      simp only [List.cons.injEq, and_true] at q0 q1 q2 q3
      exact ⟨⟨n0, n1, n2, n3⟩, by rw [q0, q1, q2, q3], i0, i2, i3⟩
set_option maxRecDepth 100000 in
theorem View_open {fuel : Nat} {cs : List Value} {x : DataW H × List MemPlace} (h : DataW.trod enc Try.prog w 0 spare held fuel 87 cs = some x) : ∃ v : S87, cs = vcells v ∧ isI v.f5 := by
  obtain ⟨ys, n, _, hx, hcl, hyl, hf⟩ := DataW.trod_struct Try.underlying87 h
  have hcl2 : cs.length = 7 := hcl.trans (by kernel_rfl)
  have hyl2 : ys.length = 6 := hyl
  match cs, hcl2 with
  | [c0, c1, c2, c3, c4, c5, c6], _ =>
    match ys, hyl2 with
    | [y0, y1, y2, y3, y4, y5], _ =>
      have estr : Try.prog.cellsOf 9 = 1 := by kernel_rfl
      have eint : Try.prog.cellsOf 3 = 1 := by kernel_rfl
      have eRights : Try.prog.cellsOf 25 = 2 := by kernel_rfl
      have g0 : DataW.trod enc Try.prog w 0 spare held n 9 (List.take (Try.prog.cellsOf 9) (List.drop 0 [c0, c1, c2, c3, c4, c5, c6])) = some y0 := hf 0 _ rfl
      rw [estr] at g0
      replace g0 : DataW.trod enc Try.prog w 0 spare held n 9 [c0] = some y0 := g0
      obtain ⟨n0, q0⟩ := str_open Try.underlying9 g0
      have g1 : DataW.trod enc Try.prog w 0 spare held n 3 (List.take (Try.prog.cellsOf 3) (List.drop 1 [c0, c1, c2, c3, c4, c5, c6])) = some y1 := hf 1 _ rfl
      rw [eint] at g1
      replace g1 : DataW.trod enc Try.prog w 0 spare held n 3 [c1] = some y1 := g1
      obtain ⟨n1, q1, i1⟩ := int_open Try.underlying3 g1
      have g2 : DataW.trod enc Try.prog w 0 spare held n 3 (List.take (Try.prog.cellsOf 3) (List.drop 2 [c0, c1, c2, c3, c4, c5, c6])) = some y2 := hf 2 _ rfl
      rw [eint] at g2
      replace g2 : DataW.trod enc Try.prog w 0 spare held n 3 [c2] = some y2 := g2
      obtain ⟨n2, q2, i2⟩ := int_open Try.underlying3 g2
      have g3 : DataW.trod enc Try.prog w 0 spare held n 3 (List.take (Try.prog.cellsOf 3) (List.drop 3 [c0, c1, c2, c3, c4, c5, c6])) = some y3 := hf 3 _ rfl
      rw [eint] at g3
      replace g3 : DataW.trod enc Try.prog w 0 spare held n 3 [c3] = some y3 := g3
      obtain ⟨n3, q3, i3⟩ := int_open Try.underlying3 g3
      have g4 : DataW.trod enc Try.prog w 0 spare held n 25 (List.take (Try.prog.cellsOf 25) (List.drop 4 [c0, c1, c2, c3, c4, c5, c6])) = some y4 := hf 4 _ rfl
      rw [eRights] at g4
      replace g4 : DataW.trod enc Try.prog w 0 spare held n 25 [c4, c5] = some y4 := g4
      obtain ⟨n4, q4⟩ := Rights_open g4
      have g5 : DataW.trod enc Try.prog w 0 spare held n 3 (List.take (Try.prog.cellsOf 3) (List.drop 6 [c0, c1, c2, c3, c4, c5, c6])) = some y5 := hf 5 _ rfl
      rw [eint] at g5
      replace g5 : DataW.trod enc Try.prog w 0 spare held n 3 [c6] = some y5 := g5
      obtain ⟨n5, q5, i5⟩ := int_open Try.underlying3 g5
      simp only [List.cons.injEq, and_true] at q0 q1 q2 q3 q4 q5
      exact ⟨⟨n0, n1, n2, n3, n4, n5⟩, by rw [q0, q1, q2, q3, q4.1, q4.2, q5]; rfl, i5⟩
/-- Views as they are read. -/
def VIn (w : World) (A : Option Addr) (c : Nat) (xs : List S87) : Prop := Kd.C k87 w A xs.length xs ∧ xs.length ≤ c ∧ xs.length * 64 ≤ 140737488351232 ∧ ∀ v ∈ xs, isI v.f5
theorem views_open {fuel : Nat} {cs : List Value} {x : DataW H × List MemPlace} (h : DataW.trod enc Try.prog w 0 spare held fuel 31 cs = some x) (hfit : Fit 31 x.1) :
    ∃ (A : Option Addr) (c : Nat) (xs : List S87), cs = [.slice A xs.length c] ∧ VIn w A c xs := by
  rcases Go.Deep.open_slice Try.underlying31 h with ⟨hcs, _⟩ | ⟨ad, l, c, m, n, D, Pl, hcs, _, hl, hm, hmm, hx, hi⟩
  · exact ⟨none, 0, [], hcs, views_nil _ _, Nat.le_refl _, by simp, fun v hv => by cases hv⟩
  · have hlm : l ≤ m := by rw [hmm]; split <;> omega
    have e7 : Try.prog.cellsOf 87 = 7 := by kernel_rfl
    have hone : ∀ i : Nat, i < l → ∃ v : S87, w.cells? 0 (ad.add (i * 7)) 7 = some (vcells v) ∧ isI v.f5 := fun i hlt => by
      obtain ⟨cs', hc, ht⟩ := hi i (by omega)
      rw [e7] at hc
      obtain ⟨v, rfl, hv⟩ := View_open ht
      exact ⟨v, hc, hv⟩
    have hlen : ((List.range l).attach.map fun i => (hone i.1 (List.mem_range.1 i.2)).choose).length = l := by simp
    refine ⟨some ad, c, (List.range l).attach.map fun i => (hone i.1 (List.mem_range.1 i.2)).choose, by rw [hlen]; exact hcs, ⟨rfl, by rw [hlen]; simp only [maxLen] at hm; omega, fun _ => ⟨ad, rfl, fun j p hj => ?_⟩⟩, by rw [hlen]; exact hl, ?_, ?_⟩
    · have hjl : j < l := by have := (List.getElem?_eq_some_iff.1 hj).1; simpa using this
      simp only [List.getElem?_map, List.getElem?_attach, List.getElem?_range hjl, Option.pmap_some, Option.map_some, Option.some.injEq] at hj
      obtain ⟨hc, _⟩ := (hone j hjl).choose_spec
      rw [hj] at hc
      refine ⟨vcells p, rfl, k87_mk w p, fun i u hu => ?_⟩
      obtain ⟨_, _, hat⟩ := World.cells?_some hc
      have hi7 : i < 7 := by have := (List.getElem?_eq_some_iff.1 hu).1; simpa [vcells] using this
      rw [show ad.add (j * k87.sz + i) = (ad.add (j * 7)).add i from by rw [Go.Proofs.YtpgdmmjbhjbbhaaW.PrintWords.add_add]; rfl]
      exact (hat i hi7).trans hu
    · rw [hlen]
      rw [hx] at hfit
      have h1 := (fit_slice Try.underlying31 hfit).1
      rw [show Try.prog.bytesOf 87 = 64 by kernel_rfl] at h1
      simp only [List.length_map, List.length_range] at h1
      omega
    · intro v hv
      obtain ⟨i, _, rfl⟩ := List.mem_map.1 hv
      exact (hone i.1 (List.mem_range.1 i.2)).choose_spec.2
set_option maxRecDepth 100000 in
theorem Msg_open {fuel : Nat} {cs : List Value} {x : DataW H × List MemPlace} (h : DataW.trod enc Try.prog w 0 spare held fuel 33 cs = some x) (hfit : Fit 33 x.1) : ∃ (m : Msg) (A : Option Addr) (c : Nat), cs = (MVc m A c).toList ∧ (isI m.op.a ∧ isI m.op.b) ∧ isI m.kind ∧ isI m.err ∧ VIn w A c m.views := by
  obtain ⟨ys, n, _, hx, hcl, hyl, hf⟩ := DataW.trod_struct Try.underlying33 h
  have hcl2 : cs.length = 20 := hcl.trans (by kernel_rfl)
  have hyl2 : ys.length = 13 := hyl
  match cs, hcl2 with
  | [c0, c1, c2, c3, c4, c5, c6, c7, c8, c9, c10, c11, c12, c13, c14, c15, c16, c17, c18, c19], _ =>
    match ys, hyl2 with
    | [y0, y1, y2, y3, y4, y5, y6, y7, y8, y9, y10, y11, y12], _ =>
      have eint : Try.prog.cellsOf 3 = 1 := by kernel_rfl
      have estr : Try.prog.cellsOf 9 = 1 := by kernel_rfl
      have eEpoch : Try.prog.cellsOf 23 = 2 := by kernel_rfl
      have eRights : Try.prog.cellsOf 25 = 2 := by kernel_rfl
      have eCall : Try.prog.cellsOf 27 = 2 := by kernel_rfl
      have eOp : Try.prog.cellsOf 29 = 4 := by kernel_rfl
      have eerr : Try.prog.cellsOf 30 = 1 := by kernel_rfl
      have eviews : Try.prog.cellsOf 31 = 1 := by kernel_rfl
      have g0 : DataW.trod enc Try.prog w 0 spare held n 3 (List.take (Try.prog.cellsOf 3) (List.drop 0 [c0, c1, c2, c3, c4, c5, c6, c7, c8, c9, c10, c11, c12, c13, c14, c15, c16, c17, c18, c19])) = some y0 := hf 0 _ rfl
      rw [eint] at g0
      replace g0 : DataW.trod enc Try.prog w 0 spare held n 3 [c0] = some y0 := g0
      obtain ⟨n0, q0, i0⟩ := int_open Try.underlying3 g0
      have g1 : DataW.trod enc Try.prog w 0 spare held n 9 (List.take (Try.prog.cellsOf 9) (List.drop 1 [c0, c1, c2, c3, c4, c5, c6, c7, c8, c9, c10, c11, c12, c13, c14, c15, c16, c17, c18, c19])) = some y1 := hf 1 _ rfl
      rw [estr] at g1
      replace g1 : DataW.trod enc Try.prog w 0 spare held n 9 [c1] = some y1 := g1
      obtain ⟨n1, q1⟩ := str_open Try.underlying9 g1
      have g2 : DataW.trod enc Try.prog w 0 spare held n 3 (List.take (Try.prog.cellsOf 3) (List.drop 2 [c0, c1, c2, c3, c4, c5, c6, c7, c8, c9, c10, c11, c12, c13, c14, c15, c16, c17, c18, c19])) = some y2 := hf 2 _ rfl
      rw [eint] at g2
      replace g2 : DataW.trod enc Try.prog w 0 spare held n 3 [c2] = some y2 := g2
      obtain ⟨n2, q2, i2⟩ := int_open Try.underlying3 g2
      have g3 : DataW.trod enc Try.prog w 0 spare held n 3 (List.take (Try.prog.cellsOf 3) (List.drop 3 [c0, c1, c2, c3, c4, c5, c6, c7, c8, c9, c10, c11, c12, c13, c14, c15, c16, c17, c18, c19])) = some y3 := hf 3 _ rfl
      rw [eint] at g3
      replace g3 : DataW.trod enc Try.prog w 0 spare held n 3 [c3] = some y3 := g3
      obtain ⟨n3, q3, i3⟩ := int_open Try.underlying3 g3
      have g4 : DataW.trod enc Try.prog w 0 spare held n 23 (List.take (Try.prog.cellsOf 23) (List.drop 4 [c0, c1, c2, c3, c4, c5, c6, c7, c8, c9, c10, c11, c12, c13, c14, c15, c16, c17, c18, c19])) = some y4 := hf 4 _ rfl
      rw [eEpoch] at g4
      replace g4 : DataW.trod enc Try.prog w 0 spare held n 23 [c4, c5] = some y4 := g4
      obtain ⟨n4, q4⟩ := Epoch_open g4
      have g5 : DataW.trod enc Try.prog w 0 spare held n 23 (List.take (Try.prog.cellsOf 23) (List.drop 6 [c0, c1, c2, c3, c4, c5, c6, c7, c8, c9, c10, c11, c12, c13, c14, c15, c16, c17, c18, c19])) = some y5 := hf 5 _ rfl
      rw [eEpoch] at g5
      replace g5 : DataW.trod enc Try.prog w 0 spare held n 23 [c6, c7] = some y5 := g5
      obtain ⟨n5, q5⟩ := Epoch_open g5
      have g6 : DataW.trod enc Try.prog w 0 spare held n 25 (List.take (Try.prog.cellsOf 25) (List.drop 8 [c0, c1, c2, c3, c4, c5, c6, c7, c8, c9, c10, c11, c12, c13, c14, c15, c16, c17, c18, c19])) = some y6 := hf 6 _ rfl
      rw [eRights] at g6
      replace g6 : DataW.trod enc Try.prog w 0 spare held n 25 [c8, c9] = some y6 := g6
      obtain ⟨n6, q6⟩ := Rights_open g6
      have g7 : DataW.trod enc Try.prog w 0 spare held n 3 (List.take (Try.prog.cellsOf 3) (List.drop 10 [c0, c1, c2, c3, c4, c5, c6, c7, c8, c9, c10, c11, c12, c13, c14, c15, c16, c17, c18, c19])) = some y7 := hf 7 _ rfl
      rw [eint] at g7
      replace g7 : DataW.trod enc Try.prog w 0 spare held n 3 [c10] = some y7 := g7
      obtain ⟨n7, q7, i7⟩ := int_open Try.underlying3 g7
      have g8 : DataW.trod enc Try.prog w 0 spare held n 27 (List.take (Try.prog.cellsOf 27) (List.drop 11 [c0, c1, c2, c3, c4, c5, c6, c7, c8, c9, c10, c11, c12, c13, c14, c15, c16, c17, c18, c19])) = some y8 := hf 8 _ rfl
      rw [eCall] at g8
      replace g8 : DataW.trod enc Try.prog w 0 spare held n 27 [c11, c12] = some y8 := g8
      obtain ⟨n8, q8⟩ := Call_open g8
      have g9 : DataW.trod enc Try.prog w 0 spare held n 29 (List.take (Try.prog.cellsOf 29) (List.drop 13 [c0, c1, c2, c3, c4, c5, c6, c7, c8, c9, c10, c11, c12, c13, c14, c15, c16, c17, c18, c19])) = some y9 := hf 9 _ rfl
      rw [eOp] at g9
      replace g9 : DataW.trod enc Try.prog w 0 spare held n 29 [c13, c14, c15, c16] = some y9 := g9
      obtain ⟨n9, q9, i9⟩ := Op_open g9
      have g10 : DataW.trod enc Try.prog w 0 spare held n 30 (List.take (Try.prog.cellsOf 30) (List.drop 17 [c0, c1, c2, c3, c4, c5, c6, c7, c8, c9, c10, c11, c12, c13, c14, c15, c16, c17, c18, c19])) = some y10 := hf 10 _ rfl
      rw [eerr] at g10
      replace g10 : DataW.trod enc Try.prog w 0 spare held n 30 [c17] = some y10 := g10
      obtain ⟨n10, q10, i10⟩ := int_open Try.underlying30 g10
      have g11 : DataW.trod enc Try.prog w 0 spare held n 3 (List.take (Try.prog.cellsOf 3) (List.drop 18 [c0, c1, c2, c3, c4, c5, c6, c7, c8, c9, c10, c11, c12, c13, c14, c15, c16, c17, c18, c19])) = some y11 := hf 11 _ rfl
      rw [eint] at g11
      replace g11 : DataW.trod enc Try.prog w 0 spare held n 3 [c18] = some y11 := g11
      obtain ⟨n11, q11, i11⟩ := int_open Try.underlying3 g11
      have g12 : DataW.trod enc Try.prog w 0 spare held n 31 (List.take (Try.prog.cellsOf 31) (List.drop 19 [c0, c1, c2, c3, c4, c5, c6, c7, c8, c9, c10, c11, c12, c13, c14, c15, c16, c17, c18, c19])) = some y12 := hf 12 _ rfl
      rw [eviews] at g12
      replace g12 : DataW.trod enc Try.prog w 0 spare held n 31 [c19] = some y12 := g12
      have k12 : Fit 31 y12.1 := fit_field Try.underlying33 (by rw [hx] at hfit; exact hfit) 12 rfl rfl
      obtain ⟨A12, C12, n12, q12, i12⟩ := views_open g12 k12
      simp only [List.cons.injEq, and_true] at q0 q1 q2 q3 q4 q5 q6 q7 q8 q9 q10 q11 q12
      exact ⟨⟨n0, n1, n2, n3, n4, n5, n6, n7, n8, n9, n10, n11, n12⟩, A12, C12, by rw [q0, q1, q2, q3, q4.1, q4.2, q5.1, q5.2, q6.1, q6.2, q7, q8.1, q8.2, q9.1, q9.2.1, q9.2.2.1, q9.2.2.2, q10, q11, q12]; rfl, ⟨i9.2.1, i9.2.2⟩, i0, i10, i12⟩
end
end Go.Proofs.Ytpgdmmjbhjbbhaa.Ow
end
section
namespace Go.Proofs.Ytpgdmmjbhjbbhaa.Rf
open Go Go.RowKit Go.Proofs.Ytpgdmmjbhjbbhaa.P Go.Proofs.Ytpgdmmjbhjbbhaa.Sp Go.Proofs.Ytpgdmmjbhjbbhaa.Vd Go.Proofs.Ytpgdmmjbhjbbhaa.En Go.Proofs.Ytpgdmmjbhjbbhaa.Wr Go.Proofs.Ytpgdmmjbhjbbhaa.Rd Go.Proofs.Ytpgdmmjbhjbbhaa.Lw Go.Proofs.YtpgdmmjbhjbbhaaW.PrintWords Go.Proofs.YtpgdmmjbhjbbhaaW.PrintLast Go.Proofs.YtpgdmmjbhjbbhaaW.PrintMore
set_option linter.unusedVariables false
set_option linter.unusedSimpArgs false
def likeM (m n : Msg) : Prop := ({ m with views := n.views } : Msg) = n ∧ m.views.length = n.views.length
theorem like_iff (m n : Msg) : likeM m n ↔ (m.kind = n.kind ∧ m.name.toList = n.name.toList ∧ m.cap = n.cap ∧ m.recaps = n.recaps ∧ (m.epoch.f0 = n.epoch.f0 ∧ m.epoch.f1 = n.epoch.f1) ∧ (m.over.f0 = n.over.f0 ∧ m.over.f1 = n.over.f1)) ∧ (m.rights.f0 = n.rights.f0 ∧ m.rights.f1 = n.rights.f1) ∧ m.held = n.held ∧ (m.call.f0 = n.call.f0 ∧ m.call.f1 = n.call.f1) ∧ (m.op.kind = n.op.kind ∧ m.op.name.toList = n.op.name.toList ∧ m.op.a = n.op.a ∧ m.op.b = n.op.b) ∧ m.err = n.err ∧ m.value = n.value ∧ (m.views.length : Int) = n.views.length := by
  unfold likeM
  rw [msg_iff]
  simp only [and_assoc, true_and, Int.ofNat_inj]
set_option maxHeartbeats 8000000 in
set_option maxRecDepth 100000 in
theorem alike_calls (m n : Msg) (A : Option Addr) (c : Nat) (A2 : Option Addr) (c2 : Nat) (w : World)  :
    Calls Try.prog 44 #[MV m A c, MV n A2 c2] w fun e w' => e = .returned (.bool (dcd (likeM m n))) ∧ Below w.heap.size w w' := by
  have hu33 := Try.underlying33
  have hu23 := Try.underlying23
  have hu25 := Try.underlying25
  have hu27 := Try.underlying27
  have hu29 := Try.underlying29
  unfold MV
  obtain ⟨wa, hwa⟩ : ∃ wa, wa = (w.alloc (.cells (MVc m A c) 33 (0, 0))).alloc (.cells (MVc n A2 c2) 33 (0, 0)) := ⟨_, rfl⟩
  have HWA := Aside0.mk hwa
  have HB : Aside0 (Below w.heap.size w wa) := ⟨by rw [hwa]; exact below_al2 w _ _⟩
  have BK : Aside0 (wa.heap[w.heap.size]? = some (.cells (MVc m A c) 33 (0, 0)) ∧ wa.heap[w.heap.size + 1]? = some (.cells (MVc n A2 c2) 33 (0, 0))) := ⟨by
    rw [hwa]
    refine ⟨(Below.heap_alloc _ _ _ (by simp)).trans (heap_alloc_new w _), ?_⟩
    have := heap_alloc_new (w.alloc (.cells (MVc m A c) 33 (0, 0))) (.cells (MVc n A2 c2) 33 (0, 0))
    rwa [show (w.alloc (.cells (MVc m A c) 33 (0, 0))).heap.size = w.heap.size + 1 by simp] at this⟩
  clear hwa
  have ka0 : wa.cell? ⟨w.heap.size, 0, none⟩ = some (.int .i64 m.kind) := (blk_cell BK.out.1 0).trans rfl
  have kb0 : wa.cell? ⟨w.heap.size + 1, 0, none⟩ = some (.int .i64 n.kind) := (blk_cell BK.out.2 0).trans rfl
  have ka1 : wa.cell? ⟨w.heap.size, 1, none⟩ = some (.string m.name) := (blk_cell BK.out.1 1).trans rfl
  have kb1 : wa.cell? ⟨w.heap.size + 1, 1, none⟩ = some (.string n.name) := (blk_cell BK.out.2 1).trans rfl
  have ka2 : wa.cell? ⟨w.heap.size, 2, none⟩ = some (.int .i64 m.cap) := (blk_cell BK.out.1 2).trans rfl
  have kb2 : wa.cell? ⟨w.heap.size + 1, 2, none⟩ = some (.int .i64 n.cap) := (blk_cell BK.out.2 2).trans rfl
  have ka3 : wa.cell? ⟨w.heap.size, 3, none⟩ = some (.int .i64 m.recaps) := (blk_cell BK.out.1 3).trans rfl
  have kb3 : wa.cell? ⟨w.heap.size + 1, 3, none⟩ = some (.int .i64 n.recaps) := (blk_cell BK.out.2 3).trans rfl
  have ka4 : wa.cell? ⟨w.heap.size, 4, none⟩ = some (.int .i64 m.epoch.f0) := (blk_cell BK.out.1 4).trans rfl
  have kb4 : wa.cell? ⟨w.heap.size + 1, 4, none⟩ = some (.int .i64 n.epoch.f0) := (blk_cell BK.out.2 4).trans rfl
  have ka5 : wa.cell? ⟨w.heap.size, 5, none⟩ = some (.int .i64 m.epoch.f1) := (blk_cell BK.out.1 5).trans rfl
  have kb5 : wa.cell? ⟨w.heap.size + 1, 5, none⟩ = some (.int .i64 n.epoch.f1) := (blk_cell BK.out.2 5).trans rfl
  have ka6 : wa.cell? ⟨w.heap.size, 6, none⟩ = some (.int .i64 m.over.f0) := (blk_cell BK.out.1 6).trans rfl
  have kb6 : wa.cell? ⟨w.heap.size + 1, 6, none⟩ = some (.int .i64 n.over.f0) := (blk_cell BK.out.2 6).trans rfl
  have ka7 : wa.cell? ⟨w.heap.size, 7, none⟩ = some (.int .i64 m.over.f1) := (blk_cell BK.out.1 7).trans rfl
  have kb7 : wa.cell? ⟨w.heap.size + 1, 7, none⟩ = some (.int .i64 n.over.f1) := (blk_cell BK.out.2 7).trans rfl
  have ka8 : wa.cell? ⟨w.heap.size, 8, none⟩ = some (.int .i64 m.rights.f0) := (blk_cell BK.out.1 8).trans rfl
  have kb8 : wa.cell? ⟨w.heap.size + 1, 8, none⟩ = some (.int .i64 n.rights.f0) := (blk_cell BK.out.2 8).trans rfl
  have ka9 : wa.cell? ⟨w.heap.size, 9, none⟩ = some (.int .i64 m.rights.f1) := (blk_cell BK.out.1 9).trans rfl
  have kb9 : wa.cell? ⟨w.heap.size + 1, 9, none⟩ = some (.int .i64 n.rights.f1) := (blk_cell BK.out.2 9).trans rfl
  have ka10 : wa.cell? ⟨w.heap.size, 10, none⟩ = some (.int .i64 m.held) := (blk_cell BK.out.1 10).trans rfl
  have kb10 : wa.cell? ⟨w.heap.size + 1, 10, none⟩ = some (.int .i64 n.held) := (blk_cell BK.out.2 10).trans rfl
  have ka11 : wa.cell? ⟨w.heap.size, 11, none⟩ = some (.int .i64 m.call.f0) := (blk_cell BK.out.1 11).trans rfl
  have kb11 : wa.cell? ⟨w.heap.size + 1, 11, none⟩ = some (.int .i64 n.call.f0) := (blk_cell BK.out.2 11).trans rfl
  have ka12 : wa.cell? ⟨w.heap.size, 12, none⟩ = some (.int .i64 m.call.f1) := (blk_cell BK.out.1 12).trans rfl
  have kb12 : wa.cell? ⟨w.heap.size + 1, 12, none⟩ = some (.int .i64 n.call.f1) := (blk_cell BK.out.2 12).trans rfl
  have ka13 : wa.cell? ⟨w.heap.size, 13, none⟩ = some (.int .i64 m.op.kind) := (blk_cell BK.out.1 13).trans rfl
  have kb13 : wa.cell? ⟨w.heap.size + 1, 13, none⟩ = some (.int .i64 n.op.kind) := (blk_cell BK.out.2 13).trans rfl
  have ka14 : wa.cell? ⟨w.heap.size, 14, none⟩ = some (.string m.op.name) := (blk_cell BK.out.1 14).trans rfl
  have kb14 : wa.cell? ⟨w.heap.size + 1, 14, none⟩ = some (.string n.op.name) := (blk_cell BK.out.2 14).trans rfl
  have ka15 : wa.cell? ⟨w.heap.size, 15, none⟩ = some (.int .i64 m.op.a) := (blk_cell BK.out.1 15).trans rfl
  have kb15 : wa.cell? ⟨w.heap.size + 1, 15, none⟩ = some (.int .i64 n.op.a) := (blk_cell BK.out.2 15).trans rfl
  have ka16 : wa.cell? ⟨w.heap.size, 16, none⟩ = some (.int .i64 m.op.b) := (blk_cell BK.out.1 16).trans rfl
  have kb16 : wa.cell? ⟨w.heap.size + 1, 16, none⟩ = some (.int .i64 n.op.b) := (blk_cell BK.out.2 16).trans rfl
  have ka17 : wa.cell? ⟨w.heap.size, 17, none⟩ = some (.int .i64 m.err) := (blk_cell BK.out.1 17).trans rfl
  have kb17 : wa.cell? ⟨w.heap.size + 1, 17, none⟩ = some (.int .i64 n.err) := (blk_cell BK.out.2 17).trans rfl
  have ka18 : wa.cell? ⟨w.heap.size, 18, none⟩ = some (.int .i64 m.value) := (blk_cell BK.out.1 18).trans rfl
  have kb18 : wa.cell? ⟨w.heap.size + 1, 18, none⟩ = some (.int .i64 n.value) := (blk_cell BK.out.2 18).trans rfl
  have ka19 : wa.cell? ⟨w.heap.size, 19, none⟩ = some (.slice A m.views.length c) := (blk_cell BK.out.1 19).trans rfl
  have kb19 : wa.cell? ⟨w.heap.size + 1, 19, none⟩ = some (.slice A2 n.views.length c2) := (blk_cell BK.out.2 19).trans rfl
  go_enter Try.func44, Try.ntmps44
  go_upto_region 1 with fail
  rw [← HWA.out]
  go_wp2_with fail
  all_goals go_ret
  all_goals refine ⟨congrArg (fun b => Ending.returned (Value.bool b)) (bool_dcd ?_), HB.out⟩
  all_goals clear HWA hu33 hu23 hu25 hu27 hu29 BK HB
  all_goals rw [like_iff]
  all_goals (first | (simp [*]; done) | (simp at *; done) | (simp_all; done))
end Go.Proofs.Ytpgdmmjbhjbbhaa.Rf
end
section
namespace Go.Proofs.Ytpgdmmjbhjbbhaa.Rf
open Go Go.RowKit Go.Proofs.Ytpgdmmjbhjbbhaa.P Go.Proofs.Ytpgdmmjbhjbbhaa.Sp Go.Proofs.Ytpgdmmjbhjbbhaa.Vd Go.Proofs.Ytpgdmmjbhjbbhaa.En Go.Proofs.Ytpgdmmjbhjbbhaa.Wr Go.Proofs.Ytpgdmmjbhjbbhaa.Rd Go.Proofs.Ytpgdmmjbhjbbhaa.Lw Go.Proofs.YtpgdmmjbhjbbhaaW.PrintWords Go.Proofs.YtpgdmmjbhjbbhaaW.PrintLast Go.Proofs.YtpgdmmjbhjbbhaaW.PrintMore
set_option linter.unusedVariables false
set_option linter.unusedSimpArgs false
theorem three_blocks (w : World) (a b c : Obj) : (((w.alloc a).alloc b).alloc c).heap[w.heap.size]? = some a ∧ (((w.alloc a).alloc b).alloc c).heap[w.heap.size + 1]? = some b ∧ (((w.alloc a).alloc b).alloc c).heap[w.heap.size + 1 + 1]? = some c ∧ Below w.heap.size w (((w.alloc a).alloc b).alloc c) := by
  have hs : ((w.alloc a).alloc b).heap.size = w.heap.size + 1 + 1 := by simp
  refine ⟨(Below.heap_alloc _ _ _ (by simp; omega)).trans (two_blocks w a b).1, (Below.heap_alloc _ _ _ (by simp)).trans (two_blocks w a b).2, ?_, (below_al2 w a b).alloc (by simp; omega) c⟩
  have := heap_alloc_new ((w.alloc a).alloc b) c
  rwa [hs] at this
/-- The message's box, the result's row, the row x. -/
theorem shape_rows (w : World) (src zk : Array Value) : ∃ w0, Aside0 (w0 = ((w.alloc (.cells src 33 (0, 0))).alloc (.cells (MVc zMsg none 0) 33 (0, 0))).alloc (.cells (MVc zMsg none 0) 33 (0, 0))) ∧ ∃ wa, Aside0 (wa = w0.setRow (w.heap.size + 1 + 1) zk) ∧
    Aside0 (w.heap.size ≠ w.heap.size + 1 + 1 ∧ w.heap.size + 1 ≠ w.heap.size + 1 + 1 ∧ w.heap.size + 1 + 1 ≠ w.heap.size + 1) ∧ Aside0 (w.heap.size ≤ w.heap.size + 1 + 1) ∧
    Aside0 (wa.heap[w.heap.size]? = some (.cells src 33 (0, 0)) ∧ wa.heap[w.heap.size + 1]? = some (.cells (MVc zMsg none 0) 33 (0, 0)) ∧ wa.heap[w.heap.size + 1 + 1]? = some (.cells zk 33 (0, 0)) ∧ Below w.heap.size w wa) ∧
    Aside0 (w0.heap[w.heap.size]? = some (.cells src 33 (0, 0)) ∧ w0.heap[w.heap.size + 1]? = some (.cells (MVc zMsg none 0) 33 (0, 0)) ∧ w0.heap[w.heap.size + 1 + 1]? = some (.cells (MVc zMsg none 0) 33 (0, 0)) ∧ Below w.heap.size w w0) := by
  have H0 := three_blocks w (.cells src 33 (0, 0)) (.cells (MVc zMsg none 0) 33 (0, 0)) (.cells (MVc zMsg none 0) 33 (0, 0))
  exact ⟨_, ⟨rfl⟩, _, ⟨rfl⟩, ⟨by omega⟩, ⟨by omega⟩, ⟨(setRow_far (by omega) _).trans H0.1, (setRow_far (by omega) _).trans H0.2.1, setRow_blk H0.2.2.1 _, below_setRow H0.2.2.2 (by omega) _⟩, ⟨H0⟩⟩
set_option maxHeartbeats 8000000 in
set_option maxRecDepth 100000 in
theorem shape1_calls (m : Msg) (hk : m.kind = 1) (A : Option Addr) (c : Nat) (w : World) :
    Calls Try.prog 45 #[.agg (MVc m A c)] w fun e w' => e = .returned (.agg (MVc (mAsk 1 m.call m.op) none 0)) ∧ Below w.heap.size w w' := by
  have hu33 := Try.underlying33
  have hu23 := Try.underlying23
  have hu25 := Try.underlying25
  have hu27 := Try.underlying27
  have hu29 := Try.underlying29
  obtain ⟨w0, HW0, wa, HWA, BNE, BGE, HB, H0⟩ := shape_rows w (MVc m A c) (MVc { zMsg with kind := 1 } none 0)
  rw [mv_zero] at HW0
  have ka0 : wa.cell? ⟨w.heap.size, 0, none⟩ = some (.int .i64 1) := by rw [blk_cell HB.out.1 0]; show some (Value.int .i64 m.kind) = _; rw [hk]
  have kb0 : ((w.alloc (.cells (MVc m A c) 33 (0, 0))).alloc (.cells (MVc zMsg none 0) 33 (0, 0))).cell? ⟨w.heap.size, 0, none⟩ = some (.int .i64 1) := by rw [blk_cell (two_blocks w _ _).1 0]; show some (Value.int .i64 m.kind) = _; rw [hk]
  rw [mv_zero] at kb0
  clear hk
  have ka11 : wa.cell? ⟨w.heap.size, 11, none⟩ = some (.int .i64 m.call.f0) := (blk_cell HB.out.1 11).trans rfl
  have ka12 : wa.cell? ⟨w.heap.size, 12, none⟩ = some (.int .i64 m.call.f1) := (blk_cell HB.out.1 12).trans rfl
  have ka13 : wa.cell? ⟨w.heap.size, 13, none⟩ = some (.int .i64 m.op.kind) := (blk_cell HB.out.1 13).trans rfl
  have ka14 : wa.cell? ⟨w.heap.size, 14, none⟩ = some (.string m.op.name) := (blk_cell HB.out.1 14).trans rfl
  have ka15 : wa.cell? ⟨w.heap.size, 15, none⟩ = some (.int .i64 m.op.a) := (blk_cell HB.out.1 15).trans rfl
  have ka16 : wa.cell? ⟨w.heap.size, 16, none⟩ = some (.int .i64 m.op.b) := (blk_cell HB.out.1 16).trans rfl
  have kc11 : wa.cell? ⟨w.heap.size + 1 + 1, 11, none⟩ = some (.int .i64 0) := (blk_cell HB.out.2.2.1 11).trans rfl
  have kf11 := blk_frozen HB.out.2.2.1 11
  have kc12 : wa.cell? ⟨w.heap.size + 1 + 1, 12, none⟩ = some (.int .i64 0) := (blk_cell HB.out.2.2.1 12).trans rfl
  have kf12 := blk_frozen HB.out.2.2.1 12
  have kc13 : wa.cell? ⟨w.heap.size + 1 + 1, 13, none⟩ = some (.int .i64 0) := (blk_cell HB.out.2.2.1 13).trans rfl
  have kf13 := blk_frozen HB.out.2.2.1 13
  have kc14 : wa.cell? ⟨w.heap.size + 1 + 1, 14, none⟩ = some (.string ⟨#[]⟩) := (blk_cell HB.out.2.2.1 14).trans rfl
  have kf14 := blk_frozen HB.out.2.2.1 14
  have kc15 : wa.cell? ⟨w.heap.size + 1 + 1, 15, none⟩ = some (.int .i64 0) := (blk_cell HB.out.2.2.1 15).trans rfl
  have kf15 := blk_frozen HB.out.2.2.1 15
  have kc16 : wa.cell? ⟨w.heap.size + 1 + 1, 16, none⟩ = some (.int .i64 0) := (blk_cell HB.out.2.2.1 16).trans rfl
  have kf16 := blk_frozen HB.out.2.2.1 16
  obtain ⟨wf, hwf⟩ : ∃ wf, wf = ((((((wa).setCell ⟨w.heap.size + 1 + 1, 11, none⟩ (.int .i64 m.call.f0)).setCell ⟨w.heap.size + 1 + 1, 12, none⟩ (.int .i64 m.call.f1)).setCell ⟨w.heap.size + 1 + 1, 13, none⟩ (.int .i64 m.op.kind)).setCell ⟨w.heap.size + 1 + 1, 14, none⟩ (.string m.op.name)).setCell ⟨w.heap.size + 1 + 1, 15, none⟩ (.int .i64 m.op.a)).setCell ⟨w.heap.size + 1 + 1, 16, none⟩ (.int .i64 m.op.b) := ⟨_, rfl⟩
  have HWF := Aside0.mk hwf
  have HX : Aside0 (wf.heap[w.heap.size + 1 + 1]? = some (.cells (MVc (mAsk 1 m.call m.op) none 0) 33 (0, 0)) ∧ wf.heap[w.heap.size + 1]? = some (.cells (MVc zMsg none 0) 33 (0, 0)) ∧ Below w.heap.size w wf) := ⟨by
    rw [hwf]
    exact ⟨(blk_set (blk_set (blk_set (blk_set (blk_set (blk_set HB.out.2.2.1 11 _) 12 _) 13 _) 14 _) 15 _) 16 _).trans rfl, (blk_far (blk_far (blk_far (blk_far (blk_far (blk_far HB.out.2.1 BNE.out.2.2 11 _) BNE.out.2.2 12 _) BNE.out.2.2 13 _) BNE.out.2.2 14 _) BNE.out.2.2 15 _) BNE.out.2.2 16 _), (Below.setCell (Below.setCell (Below.setCell (Below.setCell (Below.setCell (Below.setCell HB.out.2.2.2 BGE.out _) BGE.out _) BGE.out _) BGE.out _) BGE.out _) BGE.out _)⟩⟩
  clear hwf
  go_enter Try.func45, Try.ntmps45
  go_upto_region 2 with (rw [← HW0.out]; refine wpList_store_row rfl 33 (.tmp 3) (.tmp 6) rfl (w.heap.size + 1 + 1) (MVc { zMsg with kind := 1 } none 0) (by rfl) (by rfl) 33 _ H0.out.2.2.1 inf33 rfl (mv_one _ _ _) ?_)
  rw [← HWA.out]
  simp only [Act.put, List.getElem_toArray, List.getElem_cons_succ, List.getElem_cons_zero, List.setIfInBounds_toArray, List.set_cons_succ, List.set_cons_zero]
  go_wp2_with ((with_reducible refine gate_dst (N := 17) rfl ?_); rw [← HWF.out]; refine wpList_load_row rfl 33 (.tmp 3) rfl (w.heap.size + 1 + 1) (by rfl) 33 (MVc (mAsk 1 m.call m.op) none 0) (0, 0) _ HX.out.1 Try.underlying33 rfl inf33 ?_; refine wpList_store_row rfl 33 (.tmp 2) (.tmp 17) rfl (w.heap.size + 1) (MVc (mAsk 1 m.call m.op) none 0) (by rfl) (by rfl) 33 _ HX.out.2.1 inf33 rfl (mv_one _ _ _) ?_)
  (try simp only [Exit.inBlock, Exit.then])
  refine bodyPost_ret (v := .agg (MVc (mAsk 1 m.call m.op) none 0)) ?_ rfl ?_
  · exact results_cell_row (fn := Try.f45) (p := 2) (cs := (MVc (mAsk 1 m.call m.op) none 0)) rfl _ _ (w.heap.size + 1) 33 (0, 0) _ (by rfl) (setRow_blk HX.out.2.1 _) hu33 rfl inf33
  exact ⟨rfl, below_setRow HX.out.2.2 (by omega) _⟩
set_option maxHeartbeats 8000000 in
set_option maxRecDepth 100000 in
theorem shape2a_calls (m : Msg) (hk : m.kind = 2) (A : Option Addr) (c : Nat) (w : World) (h0 : (m.err == 0) = true) :
    Calls Try.prog 45 #[.agg (MVc m A c)] w fun e w' => e = .returned (.agg (MVc (mTold 2 m.call m.name m.err (capOf m)) none 0)) ∧ Below w.heap.size w w' := by
  have hu33 := Try.underlying33
  have hu23 := Try.underlying23
  have hu25 := Try.underlying25
  have hu27 := Try.underlying27
  have hu29 := Try.underlying29
  obtain ⟨w0, HW0, wa, HWA, BNE, BGE, HB, H0⟩ := shape_rows w (MVc m A c) (MVc { zMsg with kind := 2 } none 0)
  rw [mv_zero] at HW0
  have ka0 : wa.cell? ⟨w.heap.size, 0, none⟩ = some (.int .i64 2) := by rw [blk_cell HB.out.1 0]; show some (Value.int .i64 m.kind) = _; rw [hk]
  have kb0 : ((w.alloc (.cells (MVc m A c) 33 (0, 0))).alloc (.cells (MVc zMsg none 0) 33 (0, 0))).cell? ⟨w.heap.size, 0, none⟩ = some (.int .i64 2) := by rw [blk_cell (two_blocks w _ _).1 0]; show some (Value.int .i64 m.kind) = _; rw [hk]
  rw [mv_zero] at kb0
  clear hk
  have ka1 : wa.cell? ⟨w.heap.size, 1, none⟩ = some (.string m.name) := (blk_cell HB.out.1 1).trans rfl
  have ka2 : wa.cell? ⟨w.heap.size, 2, none⟩ = some (.int .i64 m.cap) := (blk_cell HB.out.1 2).trans rfl
  have ka3 : wa.cell? ⟨w.heap.size, 3, none⟩ = some (.int .i64 m.recaps) := (blk_cell HB.out.1 3).trans rfl
  have ka11 : wa.cell? ⟨w.heap.size, 11, none⟩ = some (.int .i64 m.call.f0) := (blk_cell HB.out.1 11).trans rfl
  have ka12 : wa.cell? ⟨w.heap.size, 12, none⟩ = some (.int .i64 m.call.f1) := (blk_cell HB.out.1 12).trans rfl
  have ka17 : wa.cell? ⟨w.heap.size, 17, none⟩ = some (.int .i64 m.err) := (blk_cell HB.out.1 17).trans rfl
  have kc11 : wa.cell? ⟨w.heap.size + 1 + 1, 11, none⟩ = some (.int .i64 0) := (blk_cell HB.out.2.2.1 11).trans rfl
  have kf11 := blk_frozen HB.out.2.2.1 11
  have kc12 : wa.cell? ⟨w.heap.size + 1 + 1, 12, none⟩ = some (.int .i64 0) := (blk_cell HB.out.2.2.1 12).trans rfl
  have kf12 := blk_frozen HB.out.2.2.1 12
  have kc1 : wa.cell? ⟨w.heap.size + 1 + 1, 1, none⟩ = some (.string ⟨#[]⟩) := (blk_cell HB.out.2.2.1 1).trans rfl
  have kf1 := blk_frozen HB.out.2.2.1 1
  have kc17 : wa.cell? ⟨w.heap.size + 1 + 1, 17, none⟩ = some (.int .i64 0) := (blk_cell HB.out.2.2.1 17).trans rfl
  have kf17 := blk_frozen HB.out.2.2.1 17
  have kc2 : wa.cell? ⟨w.heap.size + 1 + 1, 2, none⟩ = some (.int .i64 0) := (blk_cell HB.out.2.2.1 2).trans rfl
  have kf2 := blk_frozen HB.out.2.2.1 2
  have kc3 : wa.cell? ⟨w.heap.size + 1 + 1, 3, none⟩ = some (.int .i64 0) := (blk_cell HB.out.2.2.1 3).trans rfl
  have kf3 := blk_frozen HB.out.2.2.1 3
  obtain ⟨wf, hwf⟩ : ∃ wf, wf = ((((((wa).setCell ⟨w.heap.size + 1 + 1, 11, none⟩ (.int .i64 m.call.f0)).setCell ⟨w.heap.size + 1 + 1, 12, none⟩ (.int .i64 m.call.f1)).setCell ⟨w.heap.size + 1 + 1, 1, none⟩ (.string m.name)).setCell ⟨w.heap.size + 1 + 1, 17, none⟩ (.int .i64 m.err)).setCell ⟨w.heap.size + 1 + 1, 2, none⟩ (.int .i64 m.cap)).setCell ⟨w.heap.size + 1 + 1, 3, none⟩ (.int .i64 m.recaps) := ⟨_, rfl⟩
  have HWF := Aside0.mk hwf
  have HX : Aside0 (wf.heap[w.heap.size + 1 + 1]? = some (.cells (MVc (mTold 2 m.call m.name m.err (capOf m)) none 0) 33 (0, 0)) ∧ wf.heap[w.heap.size + 1]? = some (.cells (MVc zMsg none 0) 33 (0, 0)) ∧ Below w.heap.size w wf) := ⟨by
    rw [hwf]
    exact ⟨(blk_set (blk_set (blk_set (blk_set (blk_set (blk_set HB.out.2.2.1 11 _) 12 _) 1 _) 17 _) 2 _) 3 _).trans rfl, (blk_far (blk_far (blk_far (blk_far (blk_far (blk_far HB.out.2.1 BNE.out.2.2 11 _) BNE.out.2.2 12 _) BNE.out.2.2 1 _) BNE.out.2.2 17 _) BNE.out.2.2 2 _) BNE.out.2.2 3 _), (Below.setCell (Below.setCell (Below.setCell (Below.setCell (Below.setCell (Below.setCell HB.out.2.2.2 BGE.out _) BGE.out _) BGE.out _) BGE.out _) BGE.out _) BGE.out _)⟩⟩
  clear hwf
  go_enter Try.func45, Try.ntmps45
  go_upto_region 2 with (rw [← HW0.out]; refine wpList_store_row rfl 33 (.tmp 3) (.tmp 6) rfl (w.heap.size + 1 + 1) (MVc { zMsg with kind := 2 } none 0) (by rfl) (by rfl) 33 _ H0.out.2.2.1 inf33 rfl (mv_one _ _ _) ?_)
  rw [← HWA.out]
  simp only [Act.put, List.getElem_toArray, List.getElem_cons_succ, List.getElem_cons_zero, List.setIfInBounds_toArray, List.set_cons_succ, List.set_cons_zero]
  go_wp2_with ((with_reducible refine gate_dst (N := 49) rfl ?_); rw [← HWF.out]; refine wpList_load_row rfl 33 (.tmp 3) rfl (w.heap.size + 1 + 1) (by rfl) 33 (MVc (mTold 2 m.call m.name m.err (capOf m)) none 0) (0, 0) _ HX.out.1 Try.underlying33 rfl inf33 ?_; refine wpList_store_row rfl 33 (.tmp 2) (.tmp 49) rfl (w.heap.size + 1) (MVc (mTold 2 m.call m.name m.err (capOf m)) none 0) (by rfl) (by rfl) 33 _ HX.out.2.1 inf33 rfl (mv_one _ _ _) ?_)
  (try simp only [Exit.inBlock, Exit.then])
  refine bodyPost_ret (v := .agg (MVc (mTold 2 m.call m.name m.err (capOf m)) none 0)) ?_ rfl ?_
  · exact results_cell_row (fn := Try.f45) (p := 2) (cs := (MVc (mTold 2 m.call m.name m.err (capOf m)) none 0)) rfl _ _ (w.heap.size + 1) 33 (0, 0) _ (by rfl) (setRow_blk HX.out.2.1 _) hu33 rfl inf33
  exact ⟨rfl, below_setRow HX.out.2.2 (by omega) _⟩
set_option maxHeartbeats 8000000 in
set_option maxRecDepth 100000 in
theorem shape2b_calls (m : Msg) (hk : m.kind = 2) (A : Option Addr) (c : Nat) (w : World) (h0 : (m.err == 0) = false) (h1 : (m.err == 101) = true) :
    Calls Try.prog 45 #[.agg (MVc m A c)] w fun e w' => e = .returned (.agg (MVc (mTold 2 m.call m.name m.err (capOf m)) none 0)) ∧ Below w.heap.size w w' := by
  have hu33 := Try.underlying33
  have hu23 := Try.underlying23
  have hu25 := Try.underlying25
  have hu27 := Try.underlying27
  have hu29 := Try.underlying29
  obtain ⟨w0, HW0, wa, HWA, BNE, BGE, HB, H0⟩ := shape_rows w (MVc m A c) (MVc { zMsg with kind := 2 } none 0)
  rw [mv_zero] at HW0
  have ka0 : wa.cell? ⟨w.heap.size, 0, none⟩ = some (.int .i64 2) := by rw [blk_cell HB.out.1 0]; show some (Value.int .i64 m.kind) = _; rw [hk]
  have kb0 : ((w.alloc (.cells (MVc m A c) 33 (0, 0))).alloc (.cells (MVc zMsg none 0) 33 (0, 0))).cell? ⟨w.heap.size, 0, none⟩ = some (.int .i64 2) := by rw [blk_cell (two_blocks w _ _).1 0]; show some (Value.int .i64 m.kind) = _; rw [hk]
  rw [mv_zero] at kb0
  clear hk
  have ka1 : wa.cell? ⟨w.heap.size, 1, none⟩ = some (.string m.name) := (blk_cell HB.out.1 1).trans rfl
  have ka2 : wa.cell? ⟨w.heap.size, 2, none⟩ = some (.int .i64 m.cap) := (blk_cell HB.out.1 2).trans rfl
  have ka3 : wa.cell? ⟨w.heap.size, 3, none⟩ = some (.int .i64 m.recaps) := (blk_cell HB.out.1 3).trans rfl
  have ka11 : wa.cell? ⟨w.heap.size, 11, none⟩ = some (.int .i64 m.call.f0) := (blk_cell HB.out.1 11).trans rfl
  have ka12 : wa.cell? ⟨w.heap.size, 12, none⟩ = some (.int .i64 m.call.f1) := (blk_cell HB.out.1 12).trans rfl
  have ka17 : wa.cell? ⟨w.heap.size, 17, none⟩ = some (.int .i64 m.err) := (blk_cell HB.out.1 17).trans rfl
  have kc11 : wa.cell? ⟨w.heap.size + 1 + 1, 11, none⟩ = some (.int .i64 0) := (blk_cell HB.out.2.2.1 11).trans rfl
  have kf11 := blk_frozen HB.out.2.2.1 11
  have kc12 : wa.cell? ⟨w.heap.size + 1 + 1, 12, none⟩ = some (.int .i64 0) := (blk_cell HB.out.2.2.1 12).trans rfl
  have kf12 := blk_frozen HB.out.2.2.1 12
  have kc1 : wa.cell? ⟨w.heap.size + 1 + 1, 1, none⟩ = some (.string ⟨#[]⟩) := (blk_cell HB.out.2.2.1 1).trans rfl
  have kf1 := blk_frozen HB.out.2.2.1 1
  have kc17 : wa.cell? ⟨w.heap.size + 1 + 1, 17, none⟩ = some (.int .i64 0) := (blk_cell HB.out.2.2.1 17).trans rfl
  have kf17 := blk_frozen HB.out.2.2.1 17
  have kc2 : wa.cell? ⟨w.heap.size + 1 + 1, 2, none⟩ = some (.int .i64 0) := (blk_cell HB.out.2.2.1 2).trans rfl
  have kf2 := blk_frozen HB.out.2.2.1 2
  have kc3 : wa.cell? ⟨w.heap.size + 1 + 1, 3, none⟩ = some (.int .i64 0) := (blk_cell HB.out.2.2.1 3).trans rfl
  have kf3 := blk_frozen HB.out.2.2.1 3
  obtain ⟨wf, hwf⟩ : ∃ wf, wf = ((((((wa).setCell ⟨w.heap.size + 1 + 1, 11, none⟩ (.int .i64 m.call.f0)).setCell ⟨w.heap.size + 1 + 1, 12, none⟩ (.int .i64 m.call.f1)).setCell ⟨w.heap.size + 1 + 1, 1, none⟩ (.string m.name)).setCell ⟨w.heap.size + 1 + 1, 17, none⟩ (.int .i64 m.err)).setCell ⟨w.heap.size + 1 + 1, 2, none⟩ (.int .i64 m.cap)).setCell ⟨w.heap.size + 1 + 1, 3, none⟩ (.int .i64 m.recaps) := ⟨_, rfl⟩
  have HWF := Aside0.mk hwf
  have HX : Aside0 (wf.heap[w.heap.size + 1 + 1]? = some (.cells (MVc (mTold 2 m.call m.name m.err (capOf m)) none 0) 33 (0, 0)) ∧ wf.heap[w.heap.size + 1]? = some (.cells (MVc zMsg none 0) 33 (0, 0)) ∧ Below w.heap.size w wf) := ⟨by
    rw [hwf]
    exact ⟨(blk_set (blk_set (blk_set (blk_set (blk_set (blk_set HB.out.2.2.1 11 _) 12 _) 1 _) 17 _) 2 _) 3 _).trans rfl, (blk_far (blk_far (blk_far (blk_far (blk_far (blk_far HB.out.2.1 BNE.out.2.2 11 _) BNE.out.2.2 12 _) BNE.out.2.2 1 _) BNE.out.2.2 17 _) BNE.out.2.2 2 _) BNE.out.2.2 3 _), (Below.setCell (Below.setCell (Below.setCell (Below.setCell (Below.setCell (Below.setCell HB.out.2.2.2 BGE.out _) BGE.out _) BGE.out _) BGE.out _) BGE.out _) BGE.out _)⟩⟩
  clear hwf
  go_enter Try.func45, Try.ntmps45
  go_upto_region 2 with (rw [← HW0.out]; refine wpList_store_row rfl 33 (.tmp 3) (.tmp 6) rfl (w.heap.size + 1 + 1) (MVc { zMsg with kind := 2 } none 0) (by rfl) (by rfl) 33 _ H0.out.2.2.1 inf33 rfl (mv_one _ _ _) ?_)
  rw [← HWA.out]
  simp only [Act.put, List.getElem_toArray, List.getElem_cons_succ, List.getElem_cons_zero, List.setIfInBounds_toArray, List.set_cons_succ, List.set_cons_zero]
  go_wp2_with ((with_reducible refine gate_dst (N := 49) rfl ?_); rw [← HWF.out]; refine wpList_load_row rfl 33 (.tmp 3) rfl (w.heap.size + 1 + 1) (by rfl) 33 (MVc (mTold 2 m.call m.name m.err (capOf m)) none 0) (0, 0) _ HX.out.1 Try.underlying33 rfl inf33 ?_; refine wpList_store_row rfl 33 (.tmp 2) (.tmp 49) rfl (w.heap.size + 1) (MVc (mTold 2 m.call m.name m.err (capOf m)) none 0) (by rfl) (by rfl) 33 _ HX.out.2.1 inf33 rfl (mv_one _ _ _) ?_)
  (try simp only [Exit.inBlock, Exit.then])
  refine bodyPost_ret (v := .agg (MVc (mTold 2 m.call m.name m.err (capOf m)) none 0)) ?_ rfl ?_
  · exact results_cell_row (fn := Try.f45) (p := 2) (cs := (MVc (mTold 2 m.call m.name m.err (capOf m)) none 0)) rfl _ _ (w.heap.size + 1) 33 (0, 0) _ (by rfl) (setRow_blk HX.out.2.1 _) hu33 rfl inf33
  exact ⟨rfl, below_setRow HX.out.2.2 (by omega) _⟩
set_option maxHeartbeats 8000000 in
set_option maxRecDepth 100000 in
theorem shape2c_calls (m : Msg) (hk : m.kind = 2) (A : Option Addr) (c : Nat) (w : World) (h0 : (m.err == 0) = false) (h1 : (m.err == 101) = false) :
    Calls Try.prog 45 #[.agg (MVc m A c)] w fun e w' => e = .returned (.agg (MVc (mTold 2 m.call m.name m.err z25) none 0)) ∧ Below w.heap.size w w' := by
  have hu33 := Try.underlying33
  have hu23 := Try.underlying23
  have hu25 := Try.underlying25
  have hu27 := Try.underlying27
  have hu29 := Try.underlying29
  obtain ⟨w0, HW0, wa, HWA, BNE, BGE, HB, H0⟩ := shape_rows w (MVc m A c) (MVc { zMsg with kind := 2 } none 0)
  rw [mv_zero] at HW0
  have ka0 : wa.cell? ⟨w.heap.size, 0, none⟩ = some (.int .i64 2) := by rw [blk_cell HB.out.1 0]; show some (Value.int .i64 m.kind) = _; rw [hk]
  have kb0 : ((w.alloc (.cells (MVc m A c) 33 (0, 0))).alloc (.cells (MVc zMsg none 0) 33 (0, 0))).cell? ⟨w.heap.size, 0, none⟩ = some (.int .i64 2) := by rw [blk_cell (two_blocks w _ _).1 0]; show some (Value.int .i64 m.kind) = _; rw [hk]
  rw [mv_zero] at kb0
  clear hk
  have ka1 : wa.cell? ⟨w.heap.size, 1, none⟩ = some (.string m.name) := (blk_cell HB.out.1 1).trans rfl
  have ka11 : wa.cell? ⟨w.heap.size, 11, none⟩ = some (.int .i64 m.call.f0) := (blk_cell HB.out.1 11).trans rfl
  have ka12 : wa.cell? ⟨w.heap.size, 12, none⟩ = some (.int .i64 m.call.f1) := (blk_cell HB.out.1 12).trans rfl
  have ka17 : wa.cell? ⟨w.heap.size, 17, none⟩ = some (.int .i64 m.err) := (blk_cell HB.out.1 17).trans rfl
  have kc11 : wa.cell? ⟨w.heap.size + 1 + 1, 11, none⟩ = some (.int .i64 0) := (blk_cell HB.out.2.2.1 11).trans rfl
  have kf11 := blk_frozen HB.out.2.2.1 11
  have kc12 : wa.cell? ⟨w.heap.size + 1 + 1, 12, none⟩ = some (.int .i64 0) := (blk_cell HB.out.2.2.1 12).trans rfl
  have kf12 := blk_frozen HB.out.2.2.1 12
  have kc1 : wa.cell? ⟨w.heap.size + 1 + 1, 1, none⟩ = some (.string ⟨#[]⟩) := (blk_cell HB.out.2.2.1 1).trans rfl
  have kf1 := blk_frozen HB.out.2.2.1 1
  have kc17 : wa.cell? ⟨w.heap.size + 1 + 1, 17, none⟩ = some (.int .i64 0) := (blk_cell HB.out.2.2.1 17).trans rfl
  have kf17 := blk_frozen HB.out.2.2.1 17
  obtain ⟨wf, hwf⟩ : ∃ wf, wf = ((((wa).setCell ⟨w.heap.size + 1 + 1, 11, none⟩ (.int .i64 m.call.f0)).setCell ⟨w.heap.size + 1 + 1, 12, none⟩ (.int .i64 m.call.f1)).setCell ⟨w.heap.size + 1 + 1, 1, none⟩ (.string m.name)).setCell ⟨w.heap.size + 1 + 1, 17, none⟩ (.int .i64 m.err) := ⟨_, rfl⟩
  have HWF := Aside0.mk hwf
  have HX : Aside0 (wf.heap[w.heap.size + 1 + 1]? = some (.cells (MVc (mTold 2 m.call m.name m.err z25) none 0) 33 (0, 0)) ∧ wf.heap[w.heap.size + 1]? = some (.cells (MVc zMsg none 0) 33 (0, 0)) ∧ Below w.heap.size w wf) := ⟨by
    rw [hwf]
    exact ⟨(blk_set (blk_set (blk_set (blk_set HB.out.2.2.1 11 _) 12 _) 1 _) 17 _).trans rfl, (blk_far (blk_far (blk_far (blk_far HB.out.2.1 BNE.out.2.2 11 _) BNE.out.2.2 12 _) BNE.out.2.2 1 _) BNE.out.2.2 17 _), (Below.setCell (Below.setCell (Below.setCell (Below.setCell HB.out.2.2.2 BGE.out _) BGE.out _) BGE.out _) BGE.out _)⟩⟩
  clear hwf
  go_enter Try.func45, Try.ntmps45
  go_upto_region 2 with (rw [← HW0.out]; refine wpList_store_row rfl 33 (.tmp 3) (.tmp 6) rfl (w.heap.size + 1 + 1) (MVc { zMsg with kind := 2 } none 0) (by rfl) (by rfl) 33 _ H0.out.2.2.1 inf33 rfl (mv_one _ _ _) ?_)
  rw [← HWA.out]
  simp only [Act.put, List.getElem_toArray, List.getElem_cons_succ, List.getElem_cons_zero, List.setIfInBounds_toArray, List.set_cons_succ, List.set_cons_zero]
  go_wp2_with ((with_reducible refine gate_dst (N := 49) rfl ?_); rw [← HWF.out]; refine wpList_load_row rfl 33 (.tmp 3) rfl (w.heap.size + 1 + 1) (by rfl) 33 (MVc (mTold 2 m.call m.name m.err z25) none 0) (0, 0) _ HX.out.1 Try.underlying33 rfl inf33 ?_; refine wpList_store_row rfl 33 (.tmp 2) (.tmp 49) rfl (w.heap.size + 1) (MVc (mTold 2 m.call m.name m.err z25) none 0) (by rfl) (by rfl) 33 _ HX.out.2.1 inf33 rfl (mv_one _ _ _) ?_)
  (try simp only [Exit.inBlock, Exit.then])
  refine bodyPost_ret (v := .agg (MVc (mTold 2 m.call m.name m.err z25) none 0)) ?_ rfl ?_
  · exact results_cell_row (fn := Try.f45) (p := 2) (cs := (MVc (mTold 2 m.call m.name m.err z25) none 0)) rfl _ _ (w.heap.size + 1) 33 (0, 0) _ (by rfl) (setRow_blk HX.out.2.1 _) hu33 rfl inf33
  exact ⟨rfl, below_setRow HX.out.2.2 (by omega) _⟩
set_option maxHeartbeats 8000000 in
set_option maxRecDepth 100000 in
theorem shape3_calls (m : Msg) (hk : m.kind = 3) (A : Option Addr) (c : Nat) (w : World) :
    Calls Try.prog 45 #[.agg (MVc m A c)] w fun e w' => e = .returned (.agg (MVc (mOf 3 m.name (capOf m) m.epoch z25 z25 0) none 0)) ∧ Below w.heap.size w w' := by
  have hu33 := Try.underlying33
  have hu23 := Try.underlying23
  have hu25 := Try.underlying25
  have hu27 := Try.underlying27
  have hu29 := Try.underlying29
  obtain ⟨w0, HW0, wa, HWA, BNE, BGE, HB, H0⟩ := shape_rows w (MVc m A c) (MVc { zMsg with kind := 3 } none 0)
  rw [mv_zero] at HW0
  have ka0 : wa.cell? ⟨w.heap.size, 0, none⟩ = some (.int .i64 3) := by rw [blk_cell HB.out.1 0]; show some (Value.int .i64 m.kind) = _; rw [hk]
  have kb0 : ((w.alloc (.cells (MVc m A c) 33 (0, 0))).alloc (.cells (MVc zMsg none 0) 33 (0, 0))).cell? ⟨w.heap.size, 0, none⟩ = some (.int .i64 3) := by rw [blk_cell (two_blocks w _ _).1 0]; show some (Value.int .i64 m.kind) = _; rw [hk]
  rw [mv_zero] at kb0
  clear hk
  have ka1 : wa.cell? ⟨w.heap.size, 1, none⟩ = some (.string m.name) := (blk_cell HB.out.1 1).trans rfl
  have ka2 : wa.cell? ⟨w.heap.size, 2, none⟩ = some (.int .i64 m.cap) := (blk_cell HB.out.1 2).trans rfl
  have ka3 : wa.cell? ⟨w.heap.size, 3, none⟩ = some (.int .i64 m.recaps) := (blk_cell HB.out.1 3).trans rfl
  have ka4 : wa.cell? ⟨w.heap.size, 4, none⟩ = some (.int .i64 m.epoch.f0) := (blk_cell HB.out.1 4).trans rfl
  have ka5 : wa.cell? ⟨w.heap.size, 5, none⟩ = some (.int .i64 m.epoch.f1) := (blk_cell HB.out.1 5).trans rfl
  have kc1 : wa.cell? ⟨w.heap.size + 1 + 1, 1, none⟩ = some (.string ⟨#[]⟩) := (blk_cell HB.out.2.2.1 1).trans rfl
  have kf1 := blk_frozen HB.out.2.2.1 1
  have kc2 : wa.cell? ⟨w.heap.size + 1 + 1, 2, none⟩ = some (.int .i64 0) := (blk_cell HB.out.2.2.1 2).trans rfl
  have kf2 := blk_frozen HB.out.2.2.1 2
  have kc3 : wa.cell? ⟨w.heap.size + 1 + 1, 3, none⟩ = some (.int .i64 0) := (blk_cell HB.out.2.2.1 3).trans rfl
  have kf3 := blk_frozen HB.out.2.2.1 3
  have kc4 : wa.cell? ⟨w.heap.size + 1 + 1, 4, none⟩ = some (.int .i64 0) := (blk_cell HB.out.2.2.1 4).trans rfl
  have kf4 := blk_frozen HB.out.2.2.1 4
  have kc5 : wa.cell? ⟨w.heap.size + 1 + 1, 5, none⟩ = some (.int .i64 0) := (blk_cell HB.out.2.2.1 5).trans rfl
  have kf5 := blk_frozen HB.out.2.2.1 5
  obtain ⟨wf, hwf⟩ : ∃ wf, wf = (((((wa).setCell ⟨w.heap.size + 1 + 1, 1, none⟩ (.string m.name)).setCell ⟨w.heap.size + 1 + 1, 2, none⟩ (.int .i64 m.cap)).setCell ⟨w.heap.size + 1 + 1, 3, none⟩ (.int .i64 m.recaps)).setCell ⟨w.heap.size + 1 + 1, 4, none⟩ (.int .i64 m.epoch.f0)).setCell ⟨w.heap.size + 1 + 1, 5, none⟩ (.int .i64 m.epoch.f1) := ⟨_, rfl⟩
  have HWF := Aside0.mk hwf
  have HX : Aside0 (wf.heap[w.heap.size + 1 + 1]? = some (.cells (MVc (mOf 3 m.name (capOf m) m.epoch z25 z25 0) none 0) 33 (0, 0)) ∧ wf.heap[w.heap.size + 1]? = some (.cells (MVc zMsg none 0) 33 (0, 0)) ∧ Below w.heap.size w wf) := ⟨by
    rw [hwf]
    exact ⟨(blk_set (blk_set (blk_set (blk_set (blk_set HB.out.2.2.1 1 _) 2 _) 3 _) 4 _) 5 _).trans rfl, (blk_far (blk_far (blk_far (blk_far (blk_far HB.out.2.1 BNE.out.2.2 1 _) BNE.out.2.2 2 _) BNE.out.2.2 3 _) BNE.out.2.2 4 _) BNE.out.2.2 5 _), (Below.setCell (Below.setCell (Below.setCell (Below.setCell (Below.setCell HB.out.2.2.2 BGE.out _) BGE.out _) BGE.out _) BGE.out _) BGE.out _)⟩⟩
  clear hwf
  go_enter Try.func45, Try.ntmps45
  go_upto_region 2 with (rw [← HW0.out]; refine wpList_store_row rfl 33 (.tmp 3) (.tmp 6) rfl (w.heap.size + 1 + 1) (MVc { zMsg with kind := 3 } none 0) (by rfl) (by rfl) 33 _ H0.out.2.2.1 inf33 rfl (mv_one _ _ _) ?_)
  rw [← HWA.out]
  simp only [Act.put, List.getElem_toArray, List.getElem_cons_succ, List.getElem_cons_zero, List.setIfInBounds_toArray, List.set_cons_succ, List.set_cons_zero]
  go_wp2_with ((with_reducible refine gate_dst (N := 103) rfl ?_); rw [← HWF.out]; refine wpList_load_row rfl 33 (.tmp 3) rfl (w.heap.size + 1 + 1) (by rfl) 33 (MVc (mOf 3 m.name (capOf m) m.epoch z25 z25 0) none 0) (0, 0) _ HX.out.1 Try.underlying33 rfl inf33 ?_; refine wpList_store_row rfl 33 (.tmp 2) (.tmp 103) rfl (w.heap.size + 1) (MVc (mOf 3 m.name (capOf m) m.epoch z25 z25 0) none 0) (by rfl) (by rfl) 33 _ HX.out.2.1 inf33 rfl (mv_one _ _ _) ?_)
  (try simp only [Exit.inBlock, Exit.then])
  refine bodyPost_ret (v := .agg (MVc (mOf 3 m.name (capOf m) m.epoch z25 z25 0) none 0)) ?_ rfl ?_
  · exact results_cell_row (fn := Try.f45) (p := 2) (cs := (MVc (mOf 3 m.name (capOf m) m.epoch z25 z25 0) none 0)) rfl _ _ (w.heap.size + 1) 33 (0, 0) _ (by rfl) (setRow_blk HX.out.2.1 _) hu33 rfl inf33
  exact ⟨rfl, below_setRow HX.out.2.2 (by omega) _⟩
set_option maxHeartbeats 8000000 in
set_option maxRecDepth 100000 in
theorem shape4_calls (m : Msg) (hk : m.kind = 4) (A : Option Addr) (c : Nat) (w : World) :
    Calls Try.prog 45 #[.agg (MVc m A c)] w fun e w' => e = .returned (.agg (MVc (mOf 4 m.name (capOf m) m.epoch z25 m.rights m.held) none 0)) ∧ Below w.heap.size w w' := by
  have hu33 := Try.underlying33
  have hu23 := Try.underlying23
  have hu25 := Try.underlying25
  have hu27 := Try.underlying27
  have hu29 := Try.underlying29
  obtain ⟨w0, HW0, wa, HWA, BNE, BGE, HB, H0⟩ := shape_rows w (MVc m A c) (MVc { zMsg with kind := 4 } none 0)
  rw [mv_zero] at HW0
  have ka0 : wa.cell? ⟨w.heap.size, 0, none⟩ = some (.int .i64 4) := by rw [blk_cell HB.out.1 0]; show some (Value.int .i64 m.kind) = _; rw [hk]
  have kb0 : ((w.alloc (.cells (MVc m A c) 33 (0, 0))).alloc (.cells (MVc zMsg none 0) 33 (0, 0))).cell? ⟨w.heap.size, 0, none⟩ = some (.int .i64 4) := by rw [blk_cell (two_blocks w _ _).1 0]; show some (Value.int .i64 m.kind) = _; rw [hk]
  rw [mv_zero] at kb0
  clear hk
  have ka1 : wa.cell? ⟨w.heap.size, 1, none⟩ = some (.string m.name) := (blk_cell HB.out.1 1).trans rfl
  have ka2 : wa.cell? ⟨w.heap.size, 2, none⟩ = some (.int .i64 m.cap) := (blk_cell HB.out.1 2).trans rfl
  have ka3 : wa.cell? ⟨w.heap.size, 3, none⟩ = some (.int .i64 m.recaps) := (blk_cell HB.out.1 3).trans rfl
  have ka4 : wa.cell? ⟨w.heap.size, 4, none⟩ = some (.int .i64 m.epoch.f0) := (blk_cell HB.out.1 4).trans rfl
  have ka5 : wa.cell? ⟨w.heap.size, 5, none⟩ = some (.int .i64 m.epoch.f1) := (blk_cell HB.out.1 5).trans rfl
  have ka8 : wa.cell? ⟨w.heap.size, 8, none⟩ = some (.int .i64 m.rights.f0) := (blk_cell HB.out.1 8).trans rfl
  have ka9 : wa.cell? ⟨w.heap.size, 9, none⟩ = some (.int .i64 m.rights.f1) := (blk_cell HB.out.1 9).trans rfl
  have ka10 : wa.cell? ⟨w.heap.size, 10, none⟩ = some (.int .i64 m.held) := (blk_cell HB.out.1 10).trans rfl
  have kc1 : wa.cell? ⟨w.heap.size + 1 + 1, 1, none⟩ = some (.string ⟨#[]⟩) := (blk_cell HB.out.2.2.1 1).trans rfl
  have kf1 := blk_frozen HB.out.2.2.1 1
  have kc2 : wa.cell? ⟨w.heap.size + 1 + 1, 2, none⟩ = some (.int .i64 0) := (blk_cell HB.out.2.2.1 2).trans rfl
  have kf2 := blk_frozen HB.out.2.2.1 2
  have kc3 : wa.cell? ⟨w.heap.size + 1 + 1, 3, none⟩ = some (.int .i64 0) := (blk_cell HB.out.2.2.1 3).trans rfl
  have kf3 := blk_frozen HB.out.2.2.1 3
  have kc4 : wa.cell? ⟨w.heap.size + 1 + 1, 4, none⟩ = some (.int .i64 0) := (blk_cell HB.out.2.2.1 4).trans rfl
  have kf4 := blk_frozen HB.out.2.2.1 4
  have kc5 : wa.cell? ⟨w.heap.size + 1 + 1, 5, none⟩ = some (.int .i64 0) := (blk_cell HB.out.2.2.1 5).trans rfl
  have kf5 := blk_frozen HB.out.2.2.1 5
  have kc8 : wa.cell? ⟨w.heap.size + 1 + 1, 8, none⟩ = some (.int .i64 0) := (blk_cell HB.out.2.2.1 8).trans rfl
  have kf8 := blk_frozen HB.out.2.2.1 8
  have kc9 : wa.cell? ⟨w.heap.size + 1 + 1, 9, none⟩ = some (.int .i64 0) := (blk_cell HB.out.2.2.1 9).trans rfl
  have kf9 := blk_frozen HB.out.2.2.1 9
  have kc10 : wa.cell? ⟨w.heap.size + 1 + 1, 10, none⟩ = some (.int .i64 0) := (blk_cell HB.out.2.2.1 10).trans rfl
  have kf10 := blk_frozen HB.out.2.2.1 10
  obtain ⟨wf, hwf⟩ : ∃ wf, wf = ((((((((wa).setCell ⟨w.heap.size + 1 + 1, 1, none⟩ (.string m.name)).setCell ⟨w.heap.size + 1 + 1, 2, none⟩ (.int .i64 m.cap)).setCell ⟨w.heap.size + 1 + 1, 3, none⟩ (.int .i64 m.recaps)).setCell ⟨w.heap.size + 1 + 1, 4, none⟩ (.int .i64 m.epoch.f0)).setCell ⟨w.heap.size + 1 + 1, 5, none⟩ (.int .i64 m.epoch.f1)).setCell ⟨w.heap.size + 1 + 1, 8, none⟩ (.int .i64 m.rights.f0)).setCell ⟨w.heap.size + 1 + 1, 9, none⟩ (.int .i64 m.rights.f1)).setCell ⟨w.heap.size + 1 + 1, 10, none⟩ (.int .i64 m.held) := ⟨_, rfl⟩
  have HWF := Aside0.mk hwf
  have HX : Aside0 (wf.heap[w.heap.size + 1 + 1]? = some (.cells (MVc (mOf 4 m.name (capOf m) m.epoch z25 m.rights m.held) none 0) 33 (0, 0)) ∧ wf.heap[w.heap.size + 1]? = some (.cells (MVc zMsg none 0) 33 (0, 0)) ∧ Below w.heap.size w wf) := ⟨by
    rw [hwf]
    exact ⟨(blk_set (blk_set (blk_set (blk_set (blk_set (blk_set (blk_set (blk_set HB.out.2.2.1 1 _) 2 _) 3 _) 4 _) 5 _) 8 _) 9 _) 10 _).trans rfl, (blk_far (blk_far (blk_far (blk_far (blk_far (blk_far (blk_far (blk_far HB.out.2.1 BNE.out.2.2 1 _) BNE.out.2.2 2 _) BNE.out.2.2 3 _) BNE.out.2.2 4 _) BNE.out.2.2 5 _) BNE.out.2.2 8 _) BNE.out.2.2 9 _) BNE.out.2.2 10 _), (Below.setCell (Below.setCell (Below.setCell (Below.setCell (Below.setCell (Below.setCell (Below.setCell (Below.setCell HB.out.2.2.2 BGE.out _) BGE.out _) BGE.out _) BGE.out _) BGE.out _) BGE.out _) BGE.out _) BGE.out _)⟩⟩
  clear hwf
  go_enter Try.func45, Try.ntmps45
  go_upto_region 2 with (rw [← HW0.out]; refine wpList_store_row rfl 33 (.tmp 3) (.tmp 6) rfl (w.heap.size + 1 + 1) (MVc { zMsg with kind := 4 } none 0) (by rfl) (by rfl) 33 _ H0.out.2.2.1 inf33 rfl (mv_one _ _ _) ?_)
  rw [← HWA.out]
  simp only [Act.put, List.getElem_toArray, List.getElem_cons_succ, List.getElem_cons_zero, List.setIfInBounds_toArray, List.set_cons_succ, List.set_cons_zero]
  go_wp2_with ((with_reducible refine gate_dst (N := 103) rfl ?_); rw [← HWF.out]; refine wpList_load_row rfl 33 (.tmp 3) rfl (w.heap.size + 1 + 1) (by rfl) 33 (MVc (mOf 4 m.name (capOf m) m.epoch z25 m.rights m.held) none 0) (0, 0) _ HX.out.1 Try.underlying33 rfl inf33 ?_; refine wpList_store_row rfl 33 (.tmp 2) (.tmp 103) rfl (w.heap.size + 1) (MVc (mOf 4 m.name (capOf m) m.epoch z25 m.rights m.held) none 0) (by rfl) (by rfl) 33 _ HX.out.2.1 inf33 rfl (mv_one _ _ _) ?_)
  (try simp only [Exit.inBlock, Exit.then])
  refine bodyPost_ret (v := .agg (MVc (mOf 4 m.name (capOf m) m.epoch z25 m.rights m.held) none 0)) ?_ rfl ?_
  · exact results_cell_row (fn := Try.f45) (p := 2) (cs := (MVc (mOf 4 m.name (capOf m) m.epoch z25 m.rights m.held) none 0)) rfl _ _ (w.heap.size + 1) 33 (0, 0) _ (by rfl) (setRow_blk HX.out.2.1 _) hu33 rfl inf33
  exact ⟨rfl, below_setRow HX.out.2.2 (by omega) _⟩
set_option maxHeartbeats 8000000 in
set_option maxRecDepth 100000 in
theorem shape5_calls (m : Msg) (hk : m.kind = 5) (A : Option Addr) (c : Nat) (w : World) :
    Calls Try.prog 45 #[.agg (MVc m A c)] w fun e w' => e = .returned (.agg (MVc (mOf 5 m.name (capOf m) m.epoch z25 m.rights 0) none 0)) ∧ Below w.heap.size w w' := by
  have hu33 := Try.underlying33
  have hu23 := Try.underlying23
  have hu25 := Try.underlying25
  have hu27 := Try.underlying27
  have hu29 := Try.underlying29
  obtain ⟨w0, HW0, wa, HWA, BNE, BGE, HB, H0⟩ := shape_rows w (MVc m A c) (MVc { zMsg with kind := 5 } none 0)
  rw [mv_zero] at HW0
  have ka0 : wa.cell? ⟨w.heap.size, 0, none⟩ = some (.int .i64 5) := by rw [blk_cell HB.out.1 0]; show some (Value.int .i64 m.kind) = _; rw [hk]
  have kb0 : ((w.alloc (.cells (MVc m A c) 33 (0, 0))).alloc (.cells (MVc zMsg none 0) 33 (0, 0))).cell? ⟨w.heap.size, 0, none⟩ = some (.int .i64 5) := by rw [blk_cell (two_blocks w _ _).1 0]; show some (Value.int .i64 m.kind) = _; rw [hk]
  rw [mv_zero] at kb0
  clear hk
  have ka1 : wa.cell? ⟨w.heap.size, 1, none⟩ = some (.string m.name) := (blk_cell HB.out.1 1).trans rfl
  have ka2 : wa.cell? ⟨w.heap.size, 2, none⟩ = some (.int .i64 m.cap) := (blk_cell HB.out.1 2).trans rfl
  have ka3 : wa.cell? ⟨w.heap.size, 3, none⟩ = some (.int .i64 m.recaps) := (blk_cell HB.out.1 3).trans rfl
  have ka4 : wa.cell? ⟨w.heap.size, 4, none⟩ = some (.int .i64 m.epoch.f0) := (blk_cell HB.out.1 4).trans rfl
  have ka5 : wa.cell? ⟨w.heap.size, 5, none⟩ = some (.int .i64 m.epoch.f1) := (blk_cell HB.out.1 5).trans rfl
  have ka8 : wa.cell? ⟨w.heap.size, 8, none⟩ = some (.int .i64 m.rights.f0) := (blk_cell HB.out.1 8).trans rfl
  have ka9 : wa.cell? ⟨w.heap.size, 9, none⟩ = some (.int .i64 m.rights.f1) := (blk_cell HB.out.1 9).trans rfl
  have kc1 : wa.cell? ⟨w.heap.size + 1 + 1, 1, none⟩ = some (.string ⟨#[]⟩) := (blk_cell HB.out.2.2.1 1).trans rfl
  have kf1 := blk_frozen HB.out.2.2.1 1
  have kc2 : wa.cell? ⟨w.heap.size + 1 + 1, 2, none⟩ = some (.int .i64 0) := (blk_cell HB.out.2.2.1 2).trans rfl
  have kf2 := blk_frozen HB.out.2.2.1 2
  have kc3 : wa.cell? ⟨w.heap.size + 1 + 1, 3, none⟩ = some (.int .i64 0) := (blk_cell HB.out.2.2.1 3).trans rfl
  have kf3 := blk_frozen HB.out.2.2.1 3
  have kc4 : wa.cell? ⟨w.heap.size + 1 + 1, 4, none⟩ = some (.int .i64 0) := (blk_cell HB.out.2.2.1 4).trans rfl
  have kf4 := blk_frozen HB.out.2.2.1 4
  have kc5 : wa.cell? ⟨w.heap.size + 1 + 1, 5, none⟩ = some (.int .i64 0) := (blk_cell HB.out.2.2.1 5).trans rfl
  have kf5 := blk_frozen HB.out.2.2.1 5
  have kc8 : wa.cell? ⟨w.heap.size + 1 + 1, 8, none⟩ = some (.int .i64 0) := (blk_cell HB.out.2.2.1 8).trans rfl
  have kf8 := blk_frozen HB.out.2.2.1 8
  have kc9 : wa.cell? ⟨w.heap.size + 1 + 1, 9, none⟩ = some (.int .i64 0) := (blk_cell HB.out.2.2.1 9).trans rfl
  have kf9 := blk_frozen HB.out.2.2.1 9
  obtain ⟨wf, hwf⟩ : ∃ wf, wf = (((((((wa).setCell ⟨w.heap.size + 1 + 1, 1, none⟩ (.string m.name)).setCell ⟨w.heap.size + 1 + 1, 2, none⟩ (.int .i64 m.cap)).setCell ⟨w.heap.size + 1 + 1, 3, none⟩ (.int .i64 m.recaps)).setCell ⟨w.heap.size + 1 + 1, 4, none⟩ (.int .i64 m.epoch.f0)).setCell ⟨w.heap.size + 1 + 1, 5, none⟩ (.int .i64 m.epoch.f1)).setCell ⟨w.heap.size + 1 + 1, 8, none⟩ (.int .i64 m.rights.f0)).setCell ⟨w.heap.size + 1 + 1, 9, none⟩ (.int .i64 m.rights.f1) := ⟨_, rfl⟩
  have HWF := Aside0.mk hwf
  have HX : Aside0 (wf.heap[w.heap.size + 1 + 1]? = some (.cells (MVc (mOf 5 m.name (capOf m) m.epoch z25 m.rights 0) none 0) 33 (0, 0)) ∧ wf.heap[w.heap.size + 1]? = some (.cells (MVc zMsg none 0) 33 (0, 0)) ∧ Below w.heap.size w wf) := ⟨by
    rw [hwf]
    exact ⟨(blk_set (blk_set (blk_set (blk_set (blk_set (blk_set (blk_set HB.out.2.2.1 1 _) 2 _) 3 _) 4 _) 5 _) 8 _) 9 _).trans rfl, (blk_far (blk_far (blk_far (blk_far (blk_far (blk_far (blk_far HB.out.2.1 BNE.out.2.2 1 _) BNE.out.2.2 2 _) BNE.out.2.2 3 _) BNE.out.2.2 4 _) BNE.out.2.2 5 _) BNE.out.2.2 8 _) BNE.out.2.2 9 _), (Below.setCell (Below.setCell (Below.setCell (Below.setCell (Below.setCell (Below.setCell (Below.setCell HB.out.2.2.2 BGE.out _) BGE.out _) BGE.out _) BGE.out _) BGE.out _) BGE.out _) BGE.out _)⟩⟩
  clear hwf
  go_enter Try.func45, Try.ntmps45
  go_upto_region 2 with (rw [← HW0.out]; refine wpList_store_row rfl 33 (.tmp 3) (.tmp 6) rfl (w.heap.size + 1 + 1) (MVc { zMsg with kind := 5 } none 0) (by rfl) (by rfl) 33 _ H0.out.2.2.1 inf33 rfl (mv_one _ _ _) ?_)
  rw [← HWA.out]
  simp only [Act.put, List.getElem_toArray, List.getElem_cons_succ, List.getElem_cons_zero, List.setIfInBounds_toArray, List.set_cons_succ, List.set_cons_zero]
  go_wp2_with ((with_reducible refine gate_dst (N := 103) rfl ?_); rw [← HWF.out]; refine wpList_load_row rfl 33 (.tmp 3) rfl (w.heap.size + 1 + 1) (by rfl) 33 (MVc (mOf 5 m.name (capOf m) m.epoch z25 m.rights 0) none 0) (0, 0) _ HX.out.1 Try.underlying33 rfl inf33 ?_; refine wpList_store_row rfl 33 (.tmp 2) (.tmp 103) rfl (w.heap.size + 1) (MVc (mOf 5 m.name (capOf m) m.epoch z25 m.rights 0) none 0) (by rfl) (by rfl) 33 _ HX.out.2.1 inf33 rfl (mv_one _ _ _) ?_)
  (try simp only [Exit.inBlock, Exit.then])
  refine bodyPost_ret (v := .agg (MVc (mOf 5 m.name (capOf m) m.epoch z25 m.rights 0) none 0)) ?_ rfl ?_
  · exact results_cell_row (fn := Try.f45) (p := 2) (cs := (MVc (mOf 5 m.name (capOf m) m.epoch z25 m.rights 0) none 0)) rfl _ _ (w.heap.size + 1) 33 (0, 0) _ (by rfl) (setRow_blk HX.out.2.1 _) hu33 rfl inf33
  exact ⟨rfl, below_setRow HX.out.2.2 (by omega) _⟩
set_option maxHeartbeats 8000000 in
set_option maxRecDepth 100000 in
theorem shape6_calls (m : Msg) (hk : m.kind = 6) (A : Option Addr) (c : Nat) (w : World) :
    Calls Try.prog 45 #[.agg (MVc m A c)] w fun e w' => e = .returned (.agg (MVc (mOf 6 m.name (capOf m) m.epoch z25 m.rights 0) none 0)) ∧ Below w.heap.size w w' := by
  have hu33 := Try.underlying33
  have hu23 := Try.underlying23
  have hu25 := Try.underlying25
  have hu27 := Try.underlying27
  have hu29 := Try.underlying29
  obtain ⟨w0, HW0, wa, HWA, BNE, BGE, HB, H0⟩ := shape_rows w (MVc m A c) (MVc { zMsg with kind := 6 } none 0)
  rw [mv_zero] at HW0
  have ka0 : wa.cell? ⟨w.heap.size, 0, none⟩ = some (.int .i64 6) := by rw [blk_cell HB.out.1 0]; show some (Value.int .i64 m.kind) = _; rw [hk]
  have kb0 : ((w.alloc (.cells (MVc m A c) 33 (0, 0))).alloc (.cells (MVc zMsg none 0) 33 (0, 0))).cell? ⟨w.heap.size, 0, none⟩ = some (.int .i64 6) := by rw [blk_cell (two_blocks w _ _).1 0]; show some (Value.int .i64 m.kind) = _; rw [hk]
  rw [mv_zero] at kb0
  clear hk
  have ka1 : wa.cell? ⟨w.heap.size, 1, none⟩ = some (.string m.name) := (blk_cell HB.out.1 1).trans rfl
  have ka2 : wa.cell? ⟨w.heap.size, 2, none⟩ = some (.int .i64 m.cap) := (blk_cell HB.out.1 2).trans rfl
  have ka3 : wa.cell? ⟨w.heap.size, 3, none⟩ = some (.int .i64 m.recaps) := (blk_cell HB.out.1 3).trans rfl
  have ka4 : wa.cell? ⟨w.heap.size, 4, none⟩ = some (.int .i64 m.epoch.f0) := (blk_cell HB.out.1 4).trans rfl
  have ka5 : wa.cell? ⟨w.heap.size, 5, none⟩ = some (.int .i64 m.epoch.f1) := (blk_cell HB.out.1 5).trans rfl
  have ka8 : wa.cell? ⟨w.heap.size, 8, none⟩ = some (.int .i64 m.rights.f0) := (blk_cell HB.out.1 8).trans rfl
  have ka9 : wa.cell? ⟨w.heap.size, 9, none⟩ = some (.int .i64 m.rights.f1) := (blk_cell HB.out.1 9).trans rfl
  have kc1 : wa.cell? ⟨w.heap.size + 1 + 1, 1, none⟩ = some (.string ⟨#[]⟩) := (blk_cell HB.out.2.2.1 1).trans rfl
  have kf1 := blk_frozen HB.out.2.2.1 1
  have kc2 : wa.cell? ⟨w.heap.size + 1 + 1, 2, none⟩ = some (.int .i64 0) := (blk_cell HB.out.2.2.1 2).trans rfl
  have kf2 := blk_frozen HB.out.2.2.1 2
  have kc3 : wa.cell? ⟨w.heap.size + 1 + 1, 3, none⟩ = some (.int .i64 0) := (blk_cell HB.out.2.2.1 3).trans rfl
  have kf3 := blk_frozen HB.out.2.2.1 3
  have kc4 : wa.cell? ⟨w.heap.size + 1 + 1, 4, none⟩ = some (.int .i64 0) := (blk_cell HB.out.2.2.1 4).trans rfl
  have kf4 := blk_frozen HB.out.2.2.1 4
  have kc5 : wa.cell? ⟨w.heap.size + 1 + 1, 5, none⟩ = some (.int .i64 0) := (blk_cell HB.out.2.2.1 5).trans rfl
  have kf5 := blk_frozen HB.out.2.2.1 5
  have kc8 : wa.cell? ⟨w.heap.size + 1 + 1, 8, none⟩ = some (.int .i64 0) := (blk_cell HB.out.2.2.1 8).trans rfl
  have kf8 := blk_frozen HB.out.2.2.1 8
  have kc9 : wa.cell? ⟨w.heap.size + 1 + 1, 9, none⟩ = some (.int .i64 0) := (blk_cell HB.out.2.2.1 9).trans rfl
  have kf9 := blk_frozen HB.out.2.2.1 9
  obtain ⟨wf, hwf⟩ : ∃ wf, wf = (((((((wa).setCell ⟨w.heap.size + 1 + 1, 1, none⟩ (.string m.name)).setCell ⟨w.heap.size + 1 + 1, 2, none⟩ (.int .i64 m.cap)).setCell ⟨w.heap.size + 1 + 1, 3, none⟩ (.int .i64 m.recaps)).setCell ⟨w.heap.size + 1 + 1, 4, none⟩ (.int .i64 m.epoch.f0)).setCell ⟨w.heap.size + 1 + 1, 5, none⟩ (.int .i64 m.epoch.f1)).setCell ⟨w.heap.size + 1 + 1, 8, none⟩ (.int .i64 m.rights.f0)).setCell ⟨w.heap.size + 1 + 1, 9, none⟩ (.int .i64 m.rights.f1) := ⟨_, rfl⟩
  have HWF := Aside0.mk hwf
  have HX : Aside0 (wf.heap[w.heap.size + 1 + 1]? = some (.cells (MVc (mOf 6 m.name (capOf m) m.epoch z25 m.rights 0) none 0) 33 (0, 0)) ∧ wf.heap[w.heap.size + 1]? = some (.cells (MVc zMsg none 0) 33 (0, 0)) ∧ Below w.heap.size w wf) := ⟨by
    rw [hwf]
    exact ⟨(blk_set (blk_set (blk_set (blk_set (blk_set (blk_set (blk_set HB.out.2.2.1 1 _) 2 _) 3 _) 4 _) 5 _) 8 _) 9 _).trans rfl, (blk_far (blk_far (blk_far (blk_far (blk_far (blk_far (blk_far HB.out.2.1 BNE.out.2.2 1 _) BNE.out.2.2 2 _) BNE.out.2.2 3 _) BNE.out.2.2 4 _) BNE.out.2.2 5 _) BNE.out.2.2 8 _) BNE.out.2.2 9 _), (Below.setCell (Below.setCell (Below.setCell (Below.setCell (Below.setCell (Below.setCell (Below.setCell HB.out.2.2.2 BGE.out _) BGE.out _) BGE.out _) BGE.out _) BGE.out _) BGE.out _) BGE.out _)⟩⟩
  clear hwf
  go_enter Try.func45, Try.ntmps45
  go_upto_region 2 with (rw [← HW0.out]; refine wpList_store_row rfl 33 (.tmp 3) (.tmp 6) rfl (w.heap.size + 1 + 1) (MVc { zMsg with kind := 6 } none 0) (by rfl) (by rfl) 33 _ H0.out.2.2.1 inf33 rfl (mv_one _ _ _) ?_)
  rw [← HWA.out]
  simp only [Act.put, List.getElem_toArray, List.getElem_cons_succ, List.getElem_cons_zero, List.setIfInBounds_toArray, List.set_cons_succ, List.set_cons_zero]
  go_wp2_with ((with_reducible refine gate_dst (N := 103) rfl ?_); rw [← HWF.out]; refine wpList_load_row rfl 33 (.tmp 3) rfl (w.heap.size + 1 + 1) (by rfl) 33 (MVc (mOf 6 m.name (capOf m) m.epoch z25 m.rights 0) none 0) (0, 0) _ HX.out.1 Try.underlying33 rfl inf33 ?_; refine wpList_store_row rfl 33 (.tmp 2) (.tmp 103) rfl (w.heap.size + 1) (MVc (mOf 6 m.name (capOf m) m.epoch z25 m.rights 0) none 0) (by rfl) (by rfl) 33 _ HX.out.2.1 inf33 rfl (mv_one _ _ _) ?_)
  (try simp only [Exit.inBlock, Exit.then])
  refine bodyPost_ret (v := .agg (MVc (mOf 6 m.name (capOf m) m.epoch z25 m.rights 0) none 0)) ?_ rfl ?_
  · exact results_cell_row (fn := Try.f45) (p := 2) (cs := (MVc (mOf 6 m.name (capOf m) m.epoch z25 m.rights 0) none 0)) rfl _ _ (w.heap.size + 1) 33 (0, 0) _ (by rfl) (setRow_blk HX.out.2.1 _) hu33 rfl inf33
  exact ⟨rfl, below_setRow HX.out.2.2 (by omega) _⟩
set_option maxHeartbeats 8000000 in
set_option maxRecDepth 100000 in
theorem shape7_calls (m : Msg) (hk : m.kind = 7) (A : Option Addr) (c : Nat) (w : World) :
    Calls Try.prog 45 #[.agg (MVc m A c)] w fun e w' => e = .returned (.agg (MVc (mOf 7 m.name (capOf m) m.epoch m.over z25 0) none 0)) ∧ Below w.heap.size w w' := by
  have hu33 := Try.underlying33
  have hu23 := Try.underlying23
  have hu25 := Try.underlying25
  have hu27 := Try.underlying27
  have hu29 := Try.underlying29
  obtain ⟨w0, HW0, wa, HWA, BNE, BGE, HB, H0⟩ := shape_rows w (MVc m A c) (MVc { zMsg with kind := 7 } none 0)
  rw [mv_zero] at HW0
  have ka0 : wa.cell? ⟨w.heap.size, 0, none⟩ = some (.int .i64 7) := by rw [blk_cell HB.out.1 0]; show some (Value.int .i64 m.kind) = _; rw [hk]
  have kb0 : ((w.alloc (.cells (MVc m A c) 33 (0, 0))).alloc (.cells (MVc zMsg none 0) 33 (0, 0))).cell? ⟨w.heap.size, 0, none⟩ = some (.int .i64 7) := by rw [blk_cell (two_blocks w _ _).1 0]; show some (Value.int .i64 m.kind) = _; rw [hk]
  rw [mv_zero] at kb0
  clear hk
  have ka1 : wa.cell? ⟨w.heap.size, 1, none⟩ = some (.string m.name) := (blk_cell HB.out.1 1).trans rfl
  have ka2 : wa.cell? ⟨w.heap.size, 2, none⟩ = some (.int .i64 m.cap) := (blk_cell HB.out.1 2).trans rfl
  have ka3 : wa.cell? ⟨w.heap.size, 3, none⟩ = some (.int .i64 m.recaps) := (blk_cell HB.out.1 3).trans rfl
  have ka4 : wa.cell? ⟨w.heap.size, 4, none⟩ = some (.int .i64 m.epoch.f0) := (blk_cell HB.out.1 4).trans rfl
  have ka5 : wa.cell? ⟨w.heap.size, 5, none⟩ = some (.int .i64 m.epoch.f1) := (blk_cell HB.out.1 5).trans rfl
  have ka6 : wa.cell? ⟨w.heap.size, 6, none⟩ = some (.int .i64 m.over.f0) := (blk_cell HB.out.1 6).trans rfl
  have ka7 : wa.cell? ⟨w.heap.size, 7, none⟩ = some (.int .i64 m.over.f1) := (blk_cell HB.out.1 7).trans rfl
  have kc1 : wa.cell? ⟨w.heap.size + 1 + 1, 1, none⟩ = some (.string ⟨#[]⟩) := (blk_cell HB.out.2.2.1 1).trans rfl
  have kf1 := blk_frozen HB.out.2.2.1 1
  have kc2 : wa.cell? ⟨w.heap.size + 1 + 1, 2, none⟩ = some (.int .i64 0) := (blk_cell HB.out.2.2.1 2).trans rfl
  have kf2 := blk_frozen HB.out.2.2.1 2
  have kc3 : wa.cell? ⟨w.heap.size + 1 + 1, 3, none⟩ = some (.int .i64 0) := (blk_cell HB.out.2.2.1 3).trans rfl
  have kf3 := blk_frozen HB.out.2.2.1 3
  have kc4 : wa.cell? ⟨w.heap.size + 1 + 1, 4, none⟩ = some (.int .i64 0) := (blk_cell HB.out.2.2.1 4).trans rfl
  have kf4 := blk_frozen HB.out.2.2.1 4
  have kc5 : wa.cell? ⟨w.heap.size + 1 + 1, 5, none⟩ = some (.int .i64 0) := (blk_cell HB.out.2.2.1 5).trans rfl
  have kf5 := blk_frozen HB.out.2.2.1 5
  have kc6 : wa.cell? ⟨w.heap.size + 1 + 1, 6, none⟩ = some (.int .i64 0) := (blk_cell HB.out.2.2.1 6).trans rfl
  have kf6 := blk_frozen HB.out.2.2.1 6
  have kc7 : wa.cell? ⟨w.heap.size + 1 + 1, 7, none⟩ = some (.int .i64 0) := (blk_cell HB.out.2.2.1 7).trans rfl
  have kf7 := blk_frozen HB.out.2.2.1 7
  obtain ⟨wf, hwf⟩ : ∃ wf, wf = (((((((wa).setCell ⟨w.heap.size + 1 + 1, 1, none⟩ (.string m.name)).setCell ⟨w.heap.size + 1 + 1, 2, none⟩ (.int .i64 m.cap)).setCell ⟨w.heap.size + 1 + 1, 3, none⟩ (.int .i64 m.recaps)).setCell ⟨w.heap.size + 1 + 1, 4, none⟩ (.int .i64 m.epoch.f0)).setCell ⟨w.heap.size + 1 + 1, 5, none⟩ (.int .i64 m.epoch.f1)).setCell ⟨w.heap.size + 1 + 1, 6, none⟩ (.int .i64 m.over.f0)).setCell ⟨w.heap.size + 1 + 1, 7, none⟩ (.int .i64 m.over.f1) := ⟨_, rfl⟩
  have HWF := Aside0.mk hwf
  have HX : Aside0 (wf.heap[w.heap.size + 1 + 1]? = some (.cells (MVc (mOf 7 m.name (capOf m) m.epoch m.over z25 0) none 0) 33 (0, 0)) ∧ wf.heap[w.heap.size + 1]? = some (.cells (MVc zMsg none 0) 33 (0, 0)) ∧ Below w.heap.size w wf) := ⟨by
    rw [hwf]
    exact ⟨(blk_set (blk_set (blk_set (blk_set (blk_set (blk_set (blk_set HB.out.2.2.1 1 _) 2 _) 3 _) 4 _) 5 _) 6 _) 7 _).trans rfl, (blk_far (blk_far (blk_far (blk_far (blk_far (blk_far (blk_far HB.out.2.1 BNE.out.2.2 1 _) BNE.out.2.2 2 _) BNE.out.2.2 3 _) BNE.out.2.2 4 _) BNE.out.2.2 5 _) BNE.out.2.2 6 _) BNE.out.2.2 7 _), (Below.setCell (Below.setCell (Below.setCell (Below.setCell (Below.setCell (Below.setCell (Below.setCell HB.out.2.2.2 BGE.out _) BGE.out _) BGE.out _) BGE.out _) BGE.out _) BGE.out _) BGE.out _)⟩⟩
  clear hwf
  go_enter Try.func45, Try.ntmps45
  go_upto_region 2 with (rw [← HW0.out]; refine wpList_store_row rfl 33 (.tmp 3) (.tmp 6) rfl (w.heap.size + 1 + 1) (MVc { zMsg with kind := 7 } none 0) (by rfl) (by rfl) 33 _ H0.out.2.2.1 inf33 rfl (mv_one _ _ _) ?_)
  rw [← HWA.out]
  simp only [Act.put, List.getElem_toArray, List.getElem_cons_succ, List.getElem_cons_zero, List.setIfInBounds_toArray, List.set_cons_succ, List.set_cons_zero]
  go_wp2_with ((with_reducible refine gate_dst (N := 103) rfl ?_); rw [← HWF.out]; refine wpList_load_row rfl 33 (.tmp 3) rfl (w.heap.size + 1 + 1) (by rfl) 33 (MVc (mOf 7 m.name (capOf m) m.epoch m.over z25 0) none 0) (0, 0) _ HX.out.1 Try.underlying33 rfl inf33 ?_; refine wpList_store_row rfl 33 (.tmp 2) (.tmp 103) rfl (w.heap.size + 1) (MVc (mOf 7 m.name (capOf m) m.epoch m.over z25 0) none 0) (by rfl) (by rfl) 33 _ HX.out.2.1 inf33 rfl (mv_one _ _ _) ?_)
  (try simp only [Exit.inBlock, Exit.then])
  refine bodyPost_ret (v := .agg (MVc (mOf 7 m.name (capOf m) m.epoch m.over z25 0) none 0)) ?_ rfl ?_
  · exact results_cell_row (fn := Try.f45) (p := 2) (cs := (MVc (mOf 7 m.name (capOf m) m.epoch m.over z25 0) none 0)) rfl _ _ (w.heap.size + 1) 33 (0, 0) _ (by rfl) (setRow_blk HX.out.2.1 _) hu33 rfl inf33
  exact ⟨rfl, below_setRow HX.out.2.2 (by omega) _⟩
set_option maxHeartbeats 8000000 in
set_option maxRecDepth 100000 in
theorem shape8_calls (m : Msg) (hk : m.kind = 8) (A : Option Addr) (c : Nat) (w : World) :
    Calls Try.prog 45 #[.agg (MVc m A c)] w fun e w' => e = .returned (.agg (MVc (mOf 8 m.name (capOf m) z25 z25 m.rights 0) none 0)) ∧ Below w.heap.size w w' := by
  have hu33 := Try.underlying33
  have hu23 := Try.underlying23
  have hu25 := Try.underlying25
  have hu27 := Try.underlying27
  have hu29 := Try.underlying29
  obtain ⟨w0, HW0, wa, HWA, BNE, BGE, HB, H0⟩ := shape_rows w (MVc m A c) (MVc { zMsg with kind := 8 } none 0)
  rw [mv_zero] at HW0
  have ka0 : wa.cell? ⟨w.heap.size, 0, none⟩ = some (.int .i64 8) := by rw [blk_cell HB.out.1 0]; show some (Value.int .i64 m.kind) = _; rw [hk]
  have kb0 : ((w.alloc (.cells (MVc m A c) 33 (0, 0))).alloc (.cells (MVc zMsg none 0) 33 (0, 0))).cell? ⟨w.heap.size, 0, none⟩ = some (.int .i64 8) := by rw [blk_cell (two_blocks w _ _).1 0]; show some (Value.int .i64 m.kind) = _; rw [hk]
  rw [mv_zero] at kb0
  clear hk
  have ka1 : wa.cell? ⟨w.heap.size, 1, none⟩ = some (.string m.name) := (blk_cell HB.out.1 1).trans rfl
  have ka2 : wa.cell? ⟨w.heap.size, 2, none⟩ = some (.int .i64 m.cap) := (blk_cell HB.out.1 2).trans rfl
  have ka3 : wa.cell? ⟨w.heap.size, 3, none⟩ = some (.int .i64 m.recaps) := (blk_cell HB.out.1 3).trans rfl
  have ka8 : wa.cell? ⟨w.heap.size, 8, none⟩ = some (.int .i64 m.rights.f0) := (blk_cell HB.out.1 8).trans rfl
  have ka9 : wa.cell? ⟨w.heap.size, 9, none⟩ = some (.int .i64 m.rights.f1) := (blk_cell HB.out.1 9).trans rfl
  have kc1 : wa.cell? ⟨w.heap.size + 1 + 1, 1, none⟩ = some (.string ⟨#[]⟩) := (blk_cell HB.out.2.2.1 1).trans rfl
  have kf1 := blk_frozen HB.out.2.2.1 1
  have kc2 : wa.cell? ⟨w.heap.size + 1 + 1, 2, none⟩ = some (.int .i64 0) := (blk_cell HB.out.2.2.1 2).trans rfl
  have kf2 := blk_frozen HB.out.2.2.1 2
  have kc3 : wa.cell? ⟨w.heap.size + 1 + 1, 3, none⟩ = some (.int .i64 0) := (blk_cell HB.out.2.2.1 3).trans rfl
  have kf3 := blk_frozen HB.out.2.2.1 3
  have kc8 : wa.cell? ⟨w.heap.size + 1 + 1, 8, none⟩ = some (.int .i64 0) := (blk_cell HB.out.2.2.1 8).trans rfl
  have kf8 := blk_frozen HB.out.2.2.1 8
  have kc9 : wa.cell? ⟨w.heap.size + 1 + 1, 9, none⟩ = some (.int .i64 0) := (blk_cell HB.out.2.2.1 9).trans rfl
  have kf9 := blk_frozen HB.out.2.2.1 9
  obtain ⟨wf, hwf⟩ : ∃ wf, wf = (((((wa).setCell ⟨w.heap.size + 1 + 1, 1, none⟩ (.string m.name)).setCell ⟨w.heap.size + 1 + 1, 2, none⟩ (.int .i64 m.cap)).setCell ⟨w.heap.size + 1 + 1, 3, none⟩ (.int .i64 m.recaps)).setCell ⟨w.heap.size + 1 + 1, 8, none⟩ (.int .i64 m.rights.f0)).setCell ⟨w.heap.size + 1 + 1, 9, none⟩ (.int .i64 m.rights.f1) := ⟨_, rfl⟩
  have HWF := Aside0.mk hwf
  have HX : Aside0 (wf.heap[w.heap.size + 1 + 1]? = some (.cells (MVc (mOf 8 m.name (capOf m) z25 z25 m.rights 0) none 0) 33 (0, 0)) ∧ wf.heap[w.heap.size + 1]? = some (.cells (MVc zMsg none 0) 33 (0, 0)) ∧ Below w.heap.size w wf) := ⟨by
    rw [hwf]
    exact ⟨(blk_set (blk_set (blk_set (blk_set (blk_set HB.out.2.2.1 1 _) 2 _) 3 _) 8 _) 9 _).trans rfl, (blk_far (blk_far (blk_far (blk_far (blk_far HB.out.2.1 BNE.out.2.2 1 _) BNE.out.2.2 2 _) BNE.out.2.2 3 _) BNE.out.2.2 8 _) BNE.out.2.2 9 _), (Below.setCell (Below.setCell (Below.setCell (Below.setCell (Below.setCell HB.out.2.2.2 BGE.out _) BGE.out _) BGE.out _) BGE.out _) BGE.out _)⟩⟩
  clear hwf
  go_enter Try.func45, Try.ntmps45
  go_upto_region 2 with (rw [← HW0.out]; refine wpList_store_row rfl 33 (.tmp 3) (.tmp 6) rfl (w.heap.size + 1 + 1) (MVc { zMsg with kind := 8 } none 0) (by rfl) (by rfl) 33 _ H0.out.2.2.1 inf33 rfl (mv_one _ _ _) ?_)
  rw [← HWA.out]
  simp only [Act.put, List.getElem_toArray, List.getElem_cons_succ, List.getElem_cons_zero, List.setIfInBounds_toArray, List.set_cons_succ, List.set_cons_zero]
  go_wp2_with ((with_reducible refine gate_dst (N := 103) rfl ?_); rw [← HWF.out]; refine wpList_load_row rfl 33 (.tmp 3) rfl (w.heap.size + 1 + 1) (by rfl) 33 (MVc (mOf 8 m.name (capOf m) z25 z25 m.rights 0) none 0) (0, 0) _ HX.out.1 Try.underlying33 rfl inf33 ?_; refine wpList_store_row rfl 33 (.tmp 2) (.tmp 103) rfl (w.heap.size + 1) (MVc (mOf 8 m.name (capOf m) z25 z25 m.rights 0) none 0) (by rfl) (by rfl) 33 _ HX.out.2.1 inf33 rfl (mv_one _ _ _) ?_)
  (try simp only [Exit.inBlock, Exit.then])
  refine bodyPost_ret (v := .agg (MVc (mOf 8 m.name (capOf m) z25 z25 m.rights 0) none 0)) ?_ rfl ?_
  · exact results_cell_row (fn := Try.f45) (p := 2) (cs := (MVc (mOf 8 m.name (capOf m) z25 z25 m.rights 0) none 0)) rfl _ _ (w.heap.size + 1) 33 (0, 0) _ (by rfl) (setRow_blk HX.out.2.1 _) hu33 rfl inf33
  exact ⟨rfl, below_setRow HX.out.2.2 (by omega) _⟩
set_option maxHeartbeats 8000000 in
set_option maxRecDepth 100000 in
theorem shape9_calls (m : Msg) (hk : m.kind = 9) (A : Option Addr) (c : Nat) (w : World) :
    Calls Try.prog 45 #[.agg (MVc m A c)] w fun e w' => e = .returned (.agg (MVc (mOf 9 m.name (capOf m) z25 z25 m.rights 0) none 0)) ∧ Below w.heap.size w w' := by
  have hu33 := Try.underlying33
  have hu23 := Try.underlying23
  have hu25 := Try.underlying25
  have hu27 := Try.underlying27
  have hu29 := Try.underlying29
  obtain ⟨w0, HW0, wa, HWA, BNE, BGE, HB, H0⟩ := shape_rows w (MVc m A c) (MVc { zMsg with kind := 9 } none 0)
  rw [mv_zero] at HW0
  have ka0 : wa.cell? ⟨w.heap.size, 0, none⟩ = some (.int .i64 9) := by rw [blk_cell HB.out.1 0]; show some (Value.int .i64 m.kind) = _; rw [hk]
  have kb0 : ((w.alloc (.cells (MVc m A c) 33 (0, 0))).alloc (.cells (MVc zMsg none 0) 33 (0, 0))).cell? ⟨w.heap.size, 0, none⟩ = some (.int .i64 9) := by rw [blk_cell (two_blocks w _ _).1 0]; show some (Value.int .i64 m.kind) = _; rw [hk]
  rw [mv_zero] at kb0
  clear hk
  have ka1 : wa.cell? ⟨w.heap.size, 1, none⟩ = some (.string m.name) := (blk_cell HB.out.1 1).trans rfl
  have ka2 : wa.cell? ⟨w.heap.size, 2, none⟩ = some (.int .i64 m.cap) := (blk_cell HB.out.1 2).trans rfl
  have ka3 : wa.cell? ⟨w.heap.size, 3, none⟩ = some (.int .i64 m.recaps) := (blk_cell HB.out.1 3).trans rfl
  have ka8 : wa.cell? ⟨w.heap.size, 8, none⟩ = some (.int .i64 m.rights.f0) := (blk_cell HB.out.1 8).trans rfl
  have ka9 : wa.cell? ⟨w.heap.size, 9, none⟩ = some (.int .i64 m.rights.f1) := (blk_cell HB.out.1 9).trans rfl
  have kc1 : wa.cell? ⟨w.heap.size + 1 + 1, 1, none⟩ = some (.string ⟨#[]⟩) := (blk_cell HB.out.2.2.1 1).trans rfl
  have kf1 := blk_frozen HB.out.2.2.1 1
  have kc2 : wa.cell? ⟨w.heap.size + 1 + 1, 2, none⟩ = some (.int .i64 0) := (blk_cell HB.out.2.2.1 2).trans rfl
  have kf2 := blk_frozen HB.out.2.2.1 2
  have kc3 : wa.cell? ⟨w.heap.size + 1 + 1, 3, none⟩ = some (.int .i64 0) := (blk_cell HB.out.2.2.1 3).trans rfl
  have kf3 := blk_frozen HB.out.2.2.1 3
  have kc8 : wa.cell? ⟨w.heap.size + 1 + 1, 8, none⟩ = some (.int .i64 0) := (blk_cell HB.out.2.2.1 8).trans rfl
  have kf8 := blk_frozen HB.out.2.2.1 8
  have kc9 : wa.cell? ⟨w.heap.size + 1 + 1, 9, none⟩ = some (.int .i64 0) := (blk_cell HB.out.2.2.1 9).trans rfl
  have kf9 := blk_frozen HB.out.2.2.1 9
  obtain ⟨wf, hwf⟩ : ∃ wf, wf = (((((wa).setCell ⟨w.heap.size + 1 + 1, 1, none⟩ (.string m.name)).setCell ⟨w.heap.size + 1 + 1, 2, none⟩ (.int .i64 m.cap)).setCell ⟨w.heap.size + 1 + 1, 3, none⟩ (.int .i64 m.recaps)).setCell ⟨w.heap.size + 1 + 1, 8, none⟩ (.int .i64 m.rights.f0)).setCell ⟨w.heap.size + 1 + 1, 9, none⟩ (.int .i64 m.rights.f1) := ⟨_, rfl⟩
  have HWF := Aside0.mk hwf
  have HX : Aside0 (wf.heap[w.heap.size + 1 + 1]? = some (.cells (MVc (mOf 9 m.name (capOf m) z25 z25 m.rights 0) none 0) 33 (0, 0)) ∧ wf.heap[w.heap.size + 1]? = some (.cells (MVc zMsg none 0) 33 (0, 0)) ∧ Below w.heap.size w wf) := ⟨by
    rw [hwf]
    exact ⟨(blk_set (blk_set (blk_set (blk_set (blk_set HB.out.2.2.1 1 _) 2 _) 3 _) 8 _) 9 _).trans rfl, (blk_far (blk_far (blk_far (blk_far (blk_far HB.out.2.1 BNE.out.2.2 1 _) BNE.out.2.2 2 _) BNE.out.2.2 3 _) BNE.out.2.2 8 _) BNE.out.2.2 9 _), (Below.setCell (Below.setCell (Below.setCell (Below.setCell (Below.setCell HB.out.2.2.2 BGE.out _) BGE.out _) BGE.out _) BGE.out _) BGE.out _)⟩⟩
  clear hwf
  go_enter Try.func45, Try.ntmps45
  go_upto_region 2 with (rw [← HW0.out]; refine wpList_store_row rfl 33 (.tmp 3) (.tmp 6) rfl (w.heap.size + 1 + 1) (MVc { zMsg with kind := 9 } none 0) (by rfl) (by rfl) 33 _ H0.out.2.2.1 inf33 rfl (mv_one _ _ _) ?_)
  rw [← HWA.out]
  simp only [Act.put, List.getElem_toArray, List.getElem_cons_succ, List.getElem_cons_zero, List.setIfInBounds_toArray, List.set_cons_succ, List.set_cons_zero]
  go_wp2_with ((with_reducible refine gate_dst (N := 103) rfl ?_); rw [← HWF.out]; refine wpList_load_row rfl 33 (.tmp 3) rfl (w.heap.size + 1 + 1) (by rfl) 33 (MVc (mOf 9 m.name (capOf m) z25 z25 m.rights 0) none 0) (0, 0) _ HX.out.1 Try.underlying33 rfl inf33 ?_; refine wpList_store_row rfl 33 (.tmp 2) (.tmp 103) rfl (w.heap.size + 1) (MVc (mOf 9 m.name (capOf m) z25 z25 m.rights 0) none 0) (by rfl) (by rfl) 33 _ HX.out.2.1 inf33 rfl (mv_one _ _ _) ?_)
  (try simp only [Exit.inBlock, Exit.then])
  refine bodyPost_ret (v := .agg (MVc (mOf 9 m.name (capOf m) z25 z25 m.rights 0) none 0)) ?_ rfl ?_
  · exact results_cell_row (fn := Try.f45) (p := 2) (cs := (MVc (mOf 9 m.name (capOf m) z25 z25 m.rights 0) none 0)) rfl _ _ (w.heap.size + 1) 33 (0, 0) _ (by rfl) (setRow_blk HX.out.2.1 _) hu33 rfl inf33
  exact ⟨rfl, below_setRow HX.out.2.2 (by omega) _⟩
set_option maxHeartbeats 8000000 in
set_option maxRecDepth 100000 in
theorem shape10_calls (m : Msg) (hk : m.kind = 10) (A : Option Addr) (c : Nat) (w : World) :
    Calls Try.prog 45 #[.agg (MVc m A c)] w fun e w' => e = .returned (.agg (MVc (mDig 10 m.views) A c)) ∧ Below w.heap.size w w' := by
  have hu33 := Try.underlying33
  have hu23 := Try.underlying23
  have hu25 := Try.underlying25
  have hu27 := Try.underlying27
  have hu29 := Try.underlying29
  obtain ⟨w0, HW0, wa, HWA, BNE, BGE, HB, H0⟩ := shape_rows w (MVc m A c) (MVc { zMsg with kind := 10 } none 0)
  rw [mv_zero] at HW0
  have ka0 : wa.cell? ⟨w.heap.size, 0, none⟩ = some (.int .i64 10) := by rw [blk_cell HB.out.1 0]; show some (Value.int .i64 m.kind) = _; rw [hk]
  have kb0 : ((w.alloc (.cells (MVc m A c) 33 (0, 0))).alloc (.cells (MVc zMsg none 0) 33 (0, 0))).cell? ⟨w.heap.size, 0, none⟩ = some (.int .i64 10) := by rw [blk_cell (two_blocks w _ _).1 0]; show some (Value.int .i64 m.kind) = _; rw [hk]
  rw [mv_zero] at kb0
  clear hk
  have ka19 : wa.cell? ⟨w.heap.size, 19, none⟩ = some (.slice A m.views.length c) := (blk_cell HB.out.1 19).trans rfl
  have kc19 : wa.cell? ⟨w.heap.size + 1 + 1, 19, none⟩ = some (.slice none 0 0) := (blk_cell HB.out.2.2.1 19).trans rfl
  have kf19 := blk_frozen HB.out.2.2.1 19
  obtain ⟨wf, hwf⟩ : ∃ wf, wf = (wa).setCell ⟨w.heap.size + 1 + 1, 19, none⟩ (.slice A m.views.length c) := ⟨_, rfl⟩
  have HWF := Aside0.mk hwf
  have HX : Aside0 (wf.heap[w.heap.size + 1 + 1]? = some (.cells (MVc (mDig 10 m.views) A c) 33 (0, 0)) ∧ wf.heap[w.heap.size + 1]? = some (.cells (MVc zMsg none 0) 33 (0, 0)) ∧ Below w.heap.size w wf) := ⟨by
    rw [hwf]
    exact ⟨(blk_set HB.out.2.2.1 19 _).trans rfl, (blk_far HB.out.2.1 BNE.out.2.2 19 _), (Below.setCell HB.out.2.2.2 BGE.out _)⟩⟩
  clear hwf
  go_enter Try.func45, Try.ntmps45
  go_upto_region 2 with (rw [← HW0.out]; refine wpList_store_row rfl 33 (.tmp 3) (.tmp 6) rfl (w.heap.size + 1 + 1) (MVc { zMsg with kind := 10 } none 0) (by rfl) (by rfl) 33 _ H0.out.2.2.1 inf33 rfl (mv_one _ _ _) ?_)
  rw [← HWA.out]
  simp only [Act.put, List.getElem_toArray, List.getElem_cons_succ, List.getElem_cons_zero, List.setIfInBounds_toArray, List.set_cons_succ, List.set_cons_zero]
  go_wp2_with ((with_reducible refine gate_dst (N := 23) rfl ?_); rw [← HWF.out]; refine wpList_load_row rfl 33 (.tmp 3) rfl (w.heap.size + 1 + 1) (by rfl) 33 (MVc (mDig 10 m.views) A c) (0, 0) _ HX.out.1 Try.underlying33 rfl inf33 ?_; refine wpList_store_row rfl 33 (.tmp 2) (.tmp 23) rfl (w.heap.size + 1) (MVc (mDig 10 m.views) A c) (by rfl) (by rfl) 33 _ HX.out.2.1 inf33 rfl (mv_one _ _ _) ?_)
  (try simp only [Exit.inBlock, Exit.then])
  refine bodyPost_ret (v := .agg (MVc (mDig 10 m.views) A c)) ?_ rfl ?_
  · exact results_cell_row (fn := Try.f45) (p := 2) (cs := (MVc (mDig 10 m.views) A c)) rfl _ _ (w.heap.size + 1) 33 (0, 0) _ (by rfl) (setRow_blk HX.out.2.1 _) hu33 rfl inf33
  exact ⟨rfl, below_setRow HX.out.2.2 (by omega) _⟩
end Go.Proofs.Ytpgdmmjbhjbbhaa.Rf
end
