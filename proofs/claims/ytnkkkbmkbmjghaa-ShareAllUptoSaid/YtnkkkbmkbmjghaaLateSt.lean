/- What a late keep holds: what was answered is left as it is, beside copies. -/
import Derived.Test.YtnkkkbmkbmjghaaPutNW
namespace Go.Proofs.Ytnkkkbmkbmjghaa.Lt
open Go.RowKit Go.Proofs.Ytnkkkbmkbmjghaa.P Go.Proofs.YtnkkkbmkbmjghaaW.PrintWords Go.Proofs.YtnkkkbmkbmjghaaW.PrintLast Go.Proofs.YtnkkkbmkbmjghaaW.PrintMore Go.Proofs.Ytnkkkbmkbmjghaa.Gw Go.Proofs.Ytnkkkbmkbmjghaa.Ks Go.Proofs.Ytnkkkbmkbmjghaa.Hd Go.Proofs.Ytnkkkbmkbmjghaa.Kr Go.Proofs.Ytnkkkbmkbmjghaa.Pl Go.Proofs.Ytnkkkbmkbmjghaa.Pn
set_option linter.unusedVariables false
set_option linter.unusedSimpArgs false
/-- A row of the keep's own, with its label. -/
structure RowR (ρ : Nat → Nat) (w : World) (e sz : Nat) (v : Value) (n : Nat) (xs : List Value) (r : Nat) : Prop where
  own : w.ownsRow 0 e sz v n xs
  lab : ∀ k, v.ownBlock = some k → ρ k = r
theorem RowR.move {ρ ρ' : Nat → Nat} {w w1 : World} {e sz n s : Nat} {v : Value} {xs : List Value} (h : RowR ρ w e sz v n xs s) (hm : ∀ k, k < w.heap.size → ρ k = s → w1.heap[k]? = w.heap[k]? ∧ ρ' k = ρ k) : RowR ρ' w1 e sz v n xs s :=
  ⟨Ks.own_move h.own fun k hk => (hm k (Ks.own_lt h.own k hk) (h.lab k hk)).1, fun k hk => (hm k (Ks.own_lt h.own k hk) (h.lab k hk)).2.trans (h.lab k hk)⟩
theorem RowR.nil (ρ : Nat → Nat) (w : World) (e sz r : Nat) : RowR ρ w e sz (.slice none 0 0) 0 [] r := ⟨World.ownsRow_nil _ _ _ _, fun k h => by simp [Value.ownBlock] at h⟩
/-- A row that grew and was stored into the keep. -/
theorem step_row {ρ : Nat → Nat} {w w2 : World} {e n r kb i : Nat} {v v' : Value} {xs ys : List Value} {cs : Array Value} (hz : ∀ k, ρ k ≠ 0 → k < w.heap.size) (hl : ρ kb = 7) (hb : w.heap[kb]? = some (.cells cs 38 (0, 0))) (hr : r ≠ 0 ∧ r ≠ 7) (hv : RowR ρ w e 1 v n xs r) (hg : Grew w w2 e 1 v n xs ys v') :
    ∃ ρ' : Nat → Nat, (∀ k, k < w.heap.size → ρ' k = ρ k) ∧ (∀ k, ρ' k ≠ 0 → k < (w2.setCell ⟨kb, i, none⟩ v').heap.size) ∧ ρ' kb = 7 ∧ (w2.setCell ⟨kb, i, none⟩ v').heap[kb]? = some (.cells (cs.setIfInBounds i v') 38 (0, 0)) ∧
      RowR ρ' (w2.setCell ⟨kb, i, none⟩ v') e 1 v' (n + 1) (xs ++ ys) r ∧ (∀ k, k < w.heap.size → ρ k ≠ r → ρ k ≠ 7 → (w2.setCell ⟨kb, i, none⟩ v').heap[k]? = w.heap[k]?) ∧ Below 0 w (w2.setCell ⟨kb, i, none⟩ v') := by
  obtain ⟨ρ', r1, r2, r3⟩ := relab hz hr.1 hv.lab (Ks.own_lt hv.own) hg
  have hkb : kb < w.heap.size := blk_lt hb
  have kb2 : w2.heap[kb]? = some (.cells cs 38 (0, 0)) := (hg.grow.block kb hkb (fun he => hr.2 ((hv.lab kb he.symm).symm.trans hl))).trans hb
  have vb : ∀ k, v'.ownBlock = some k → k ≠ kb := fun k hk e => by
    have h1 := r2 k hk
    rw [e, r1 kb hkb, hl] at h1
    exact hr.2 h1.symm
  refine ⟨ρ', r1, fun k hk => by simpa using r3 k hk, (r1 kb hkb).trans hl, heap_setCell_same w2 kb i _ _ v' kb2, ⟨Ks.own_move hg.own fun k hk => Below.heap_setCell w2 ⟨kb, i, none⟩ v' k (vb k hk), r2⟩, fun k hk h1 h2 => ?_, (below0_of_grown hg.grow).trans below0_set⟩
  exact (Below.heap_setCell w2 ⟨kb, i, none⟩ v' k (fun e => h2 (by rw [show k = kb from e]; exact hl))).trans (hg.grow.block k hk (fun he => h1 (hv.lab k he.symm)))
def conts {α : Type} (f : α → List Value) (E : List Ent) (X : List (List α)) : Prop := E.map (fun x => (x.n, x.cs)) = X.map (fun l => (l.length, l.flatMap f))
theorem conts_nil {α : Type} (f : α → List Value) : conts f [] [] := rfl
theorem conts_snoc {α : Type} {f : α → List Value} {E : List Ent} {X : List (List α)} (h : conts f E X) (v : Value) (l : List α) : conts f (E ++ [⟨v, l.length, l.flatMap f⟩]) (X ++ [l]) := by
  unfold conts at *; rw [List.map_append, List.map_append, h]; rfl
theorem conts_len {α : Type} {f : α → List Value} {E : List Ent} {X : List (List α)} (h : conts f E X) : E.length = X.length := by have := congrArg List.length h; simpa using this
theorem conts_at {α : Type} {f : α → List Value} {E : List Ent} {X : List (List α)} (h : conts f E X) (i : Nat) (hi : i < E.length) (hx : i < X.length) : E[i].n = X[i].length ∧ E[i].cs = X[i].flatMap f := by
  have := congrArg (fun l => l[i]?) h
  simp only [List.getElem?_map, List.getElem?_eq_getElem hi, List.getElem?_eq_getElem hx, Option.map_some] at this
  simpa using this
def cell1 (a : Int) : List Value := [.int .i64 a]
/-- No two rows in one block. -/
def Apart (E : List Ent) : Prop := E.Pairwise fun x y => x.v.ownBlock = y.v.ownBlock → x.v.ownBlock = none
structure KLx (kb : Nat) (ρ : Nat → Nat) (n : Nat) (w : World) (vI vW vR vX : Value) (E EW ER EX : List Ent) (XI XW : List (List Int)) (YI YW : List (List S50)) : Prop where
  blk : w.heap[kb]? = some (.cells #[.bool true, vI, vW, .slice none 0 0, vR, vX, .slice none 0 0] 38 (0, 0))
  lbl : ρ kb = 7
  zer : ∀ k, ρ k ≠ 0 → k < w.heap.size
  i : RowR ρ w 22 1 vI E.length (E.map (·.v)) 1
  iw : RowR ρ w 22 1 vW EW.length (EW.map (·.v)) 2
  r : RowR ρ w 46 1 vR ER.length (ER.map (·.v)) 4
  rw_ : RowR ρ w 46 1 vX EX.length (EX.map (·.v)) 5
  e : ∀ x ∈ E, RowR ρ w 3 1 x.v x.n x.cs 3
  ew : ∀ x ∈ EW, RowR ρ w 3 1 x.v x.n x.cs 8
  f : ∀ x ∈ ER, RowR ρ w 50 2 x.v x.n x.cs 6
  fw : ∀ x ∈ EX, RowR ρ w 50 2 x.v x.n x.cs 9
  cE : conts cell1 E XI
  cW : conts cell1 EW XW
  dE : conts cell2 ER YI
  dW : conts cell2 EX YW
  aE : Apart E
  aR : Apart ER
  lE : ∀ l ∈ XI, l.length ≤ 16
  lR : ∀ l ∈ YI, l.length ≤ 16
  nE : E.length ≤ n
  nR : ER.length ≤ n
def KL (kb : Nat) (ρ : Nat → Nat) (n : Nat) (w : World) : Prop := ∃ vI vW vR vX E EW ER EX XI YI, KLx kb ρ n w vI vW vR vX E EW ER EX XI XI YI YI
section
variable {kb n : Nat} {ρ ρ' : Nat → Nat} {w w1 w2 : World} {vI vW vR vX v v' : Value} {E EW ER EX : List Ent} {XI XW : List (List Int)} {YI YW : List (List S50)}
theorem KLx.move (h : KLx kb ρ n w vI vW vR vX E EW ER EX XI XW YI YW) (hm : ∀ k, k < w.heap.size → ρ k ≠ 0 → w1.heap[k]? = w.heap[k]?) (hs : w.heap.size ≤ w1.heap.size) : KLx kb ρ n w1 vI vW vR vX E EW ER EX XI XW YI YW := by
  have g : ∀ s, s ≠ 0 → ∀ k, k < w.heap.size → ρ k = s → w1.heap[k]? = w.heap[k]? ∧ ρ k = ρ k := fun s hs k hk e => ⟨hm k hk (by rw [e]; exact hs), rfl⟩
  exact { h with
    blk := (hm kb (blk_lt h.blk) (by rw [h.lbl]; decide)).trans h.blk
    zer := fun k hk => Nat.lt_of_lt_of_le (h.zer k hk) hs
    i := h.i.move (g 1 (by decide)), iw := h.iw.move (g 2 (by decide)), r := h.r.move (g 4 (by decide)), rw_ := h.rw_.move (g 5 (by decide))
    e := fun x hx => (h.e x hx).move (g 3 (by decide)), ew := fun x hx => (h.ew x hx).move (g 8 (by decide)), f := fun x hx => (h.f x hx).move (g 6 (by decide)), fw := fun x hx => (h.fw x hx).move (g 9 (by decide)) }
/-- What was answered has the keep's label from now on. -/
theorem KLx.label (h : KLx kb ρ n w vI vW vR vX E EW ER EX XI XW YI YW) (s : Nat) (hs : s ≠ 0) (hv : ∀ k, v.ownBlock = some k → ρ k = 0) (hlt : ∀ k, v.ownBlock = some k → k < w.heap.size) : KLx kb (lab0 ρ v s) n w vI vW vR vX E EW ER EX XI XW YI YW := by
  have g : ∀ s2, s2 ≠ 0 → ∀ k, k < w.heap.size → ρ k = s2 → w.heap[k]? = w.heap[k]? ∧ lab0 ρ v s k = ρ k := fun s2 h2 k hk e => ⟨rfl, lab0_ne (lab_ne hv (by rw [e]; exact h2))⟩
  exact { h with
    lbl := (lab0_ne (lab_ne hv (by rw [h.lbl]; decide))).trans h.lbl
    zer := fun k hk => by
      by_cases e : some k = v.ownBlock
      · exact hlt k e.symm
      · rw [lab0_ne e] at hk; exact h.zer k hk
    i := h.i.move (g 1 (by decide)), iw := h.iw.move (g 2 (by decide)), r := h.r.move (g 4 (by decide)), rw_ := h.rw_.move (g 5 (by decide))
    e := fun x hx => (h.e x hx).move (g 3 (by decide)), ew := fun x hx => (h.ew x hx).move (g 8 (by decide)), f := fun x hx => (h.f x hx).move (g 6 (by decide)), fw := fun x hx => (h.fw x hx).move (g 9 (by decide)) }
end
theorem KL.move {kb : Nat} {ρ : Nat → Nat} {n : Nat} {w w1 : World} (h : KL kb ρ n w) (hm : ∀ k, k < w.heap.size → ρ k ≠ 0 → w1.heap[k]? = w.heap[k]?) (hs : w.heap.size ≤ w1.heap.size) : KL kb ρ n w1 := by
  obtain ⟨vI, vW, vR, vX, E, EW, ER, EX, XI, YI, h⟩ := h
  exact ⟨vI, vW, vR, vX, E, EW, ER, EX, XI, YI, h.move hm hs⟩
theorem Apart.snoc {E : List Ent} (h : Apart E) (x : Ent) (hx : ∀ y ∈ E, y.v.ownBlock = x.v.ownBlock → y.v.ownBlock = none) : Apart (E ++ [x]) := by
  unfold Apart at *
  rw [List.pairwise_append]
  exact ⟨h, List.pairwise_singleton _ _, fun y hy z hz => by rw [List.mem_singleton.1 hz]; exact hx y hy⟩
end Go.Proofs.Ytnkkkbmkbmjghaa.Lt
