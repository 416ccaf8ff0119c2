/- What 'keep' holds, as a state of the heap: its rows of rows, their marks, and how an append turns it. -/
import Derived.Test.YtnkkkbmkbmjghaaGrew
import Derived.Test.YtnkkkbmkbmjghaaPlAsk
namespace Go.Proofs.Ytnkkkbmkbmjghaa.Ks
open Go Go.RowKit Go.Proofs.YtnkkkbmkbmjghaaW.PrintWords Go.Proofs.Ytnkkkbmkbmjghaa.Gw
set_option linter.unusedVariables false
set_option linter.unusedSimpArgs false
theorem own_move {w w1 : World} {e : TypeId} {sz n : Nat} {v : Value} {xs : List Value} (h : w.ownsRow 0 e sz v n xs) (hm : ∀ k, v.ownBlock = some k → w1.heap[k]? = w.heap[k]?) : w1.ownsRow 0 e sz v n xs := by
  refine ⟨h.1, ?_⟩
  rcases h.2 with h2 | ⟨g, cap, cur, hv, hb, hg, h3⟩
  · exact .inl h2
  · exact .inr ⟨g, cap, cur, hv, hb, by rw [hm g (by rw [hv]; rfl)]; exact hg, h3⟩
theorem own_lt {w : World} {e : TypeId} {sz n : Nat} {v : Value} {xs : List Value} (h : w.ownsRow 0 e sz v n xs) : ∀ k, v.ownBlock = some k → k < w.heap.size := fun k hk => by
  rcases h.2 with ⟨hv, _⟩ | ⟨g, cap, cur, hv, hb, hg, h3⟩
  · rw [hv] at hk; simp [Value.ownBlock] at hk
  · rw [hv] at hk
    have : g = k := by simpa [Value.ownBlock] using hk
    subst this
    exact blk_lt hg
/-- One that was put there: its value, its length, its cells. -/
structure Ent where
  v : Value
  n : Nat
  cs : List Value
structure Fam (T tI sz rI rM rE : Nat) (ρ : Nat → Nat) (w : World) (vI vM : Value) (E : List Ent) (ms : List Int) : Prop where
  oI : w.ownsRow 0 tI 1 vI E.length (E.map (·.v))
  bI : ∀ k, vI.ownBlock = some k → ρ k = rI
  oM : w.ownsRow 0 3 1 vM ms.length (ms.map (Value.int .i64))
  bM : ∀ k, vM.ownBlock = some k → ρ k = rM
  en : ∀ x ∈ E, w.ownsRow 0 T sz x.v x.n x.cs ∧ ∀ k, x.v.ownBlock = some k → ρ k = rE
section
variable {T tI sz rI rM rE : Nat} {ρ ρ' : Nat → Nat} {w w1 : World} {vI vM : Value} {E : List Ent} {ms : List Int}
theorem Fam.move (h : Fam T tI sz rI rM rE ρ w vI vM E ms) (hm : ∀ k, k < w.heap.size → (ρ k = rI ∨ ρ k = rM ∨ ρ k = rE) → w1.heap[k]? = w.heap[k]?) (hl : ∀ k, k < w.heap.size → ρ' k = ρ k) : Fam T tI sz rI rM rE ρ' w1 vI vM E ms := by
  refine ⟨own_move h.oI fun k hk => hm k (own_lt h.oI k hk) (.inl (h.bI k hk)), fun k hk => (hl k (own_lt h.oI k hk)).trans (h.bI k hk), own_move h.oM fun k hk => hm k (own_lt h.oM k hk) (.inr (.inl (h.bM k hk))), fun k hk => (hl k (own_lt h.oM k hk)).trans (h.bM k hk), fun x hx => ?_⟩
  have h1 := h.en x hx
  exact ⟨own_move h1.1 fun k hk => hm k (own_lt h1.1 k hk) (.inr (.inr (h1.2 k hk))), fun k hk => (hl k (own_lt h1.1 k hk)).trans (h1.2 k hk)⟩
theorem Fam.below (h : Fam T tI sz rI rM rE ρ w vI vM E ms) (hb : Below w.heap.size w w1) : Fam T tI sz rI rM rE ρ w1 vI vM E ms := h.move (fun k hk _ => hb.block k hk) (fun _ _ => rfl)
/-- New labels behind an append: the fresh block has the row's. -/
theorem relab {e : TypeId} {s n r : Nat} {v v' : Value} {xs ys : List Value} (hz : ∀ k, ρ k ≠ 0 → k < w.heap.size) (hr : r ≠ 0) (hv : ∀ k, v.ownBlock = some k → ρ k = r) (hlt : ∀ k, v.ownBlock = some k → k < w.heap.size) (hg : Grew w w1 e s v n xs ys v') :
    ∃ ρ' : Nat → Nat, (∀ k, k < w.heap.size → ρ' k = ρ k) ∧ (∀ k, v'.ownBlock = some k → ρ' k = r) ∧ (∀ k, ρ' k ≠ 0 → k < w1.heap.size) := by
  rcases hg.lies with ⟨g, cap, h1, h2⟩ | ⟨cap, h1, h2⟩
  · refine ⟨ρ, fun _ _ => rfl, fun k hk => hv k ?_, fun k hk => Nat.lt_of_lt_of_le (hz k hk) hg.grow.size⟩
    rw [h1]; rw [h2] at hk; exact hk
  · refine ⟨fun k => if k = w.heap.size then r else ρ k, fun k hk => if_neg (by omega), fun k hk => ?_, fun k hk => ?_⟩
    · rw [h1] at hk
      have : w.heap.size = k := by simpa [Value.ownBlock] using hk
      exact if_pos this.symm
    · by_cases e1 : k = w.heap.size
      · rw [e1]; exact own_lt hg.own _ (by rw [h1]; rfl)
      · have hk2 : ρ k ≠ 0 := by simpa [e1] using hk
        exact Nat.lt_of_lt_of_le (hz k hk2) hg.grow.size
end
/-- The state of 'hold' as it goes. -/
structure HS (T tI sz rI rM rE iI iM kb : Nat) (pat : List Value) (m : Int) (W0 : World) (ρ0 : Nat → Nat) (far0 : Value) (cs0 : Array Value) (E0 : List Ent) (ms0 : List Int) (w : World) (far : Value) (nf cI cM : Nat)
    (ρ : Nat → Nat) (vI vM : Value) (E : List Ent) (ms : List Int) : Prop where
  kbk : w.heap[kb]? = some (.cells ((cs0.setIfInBounds iI vI).setIfInBounds iM vM) 38 (0, 0))
  kbr : ρ kb = 7
  fam : Fam T tI sz rI rM rE ρ w vI vM E ms
  far_ : w.ownsRow 0 T sz far nf (List.replicate nf pat).flatten
  bF : ∀ k, far.ownBlock = some k → ρ k = rE
  alias_ : ∀ x ∈ E, x.v.ownBlock = far.ownBlock → far.ownBlock ≠ none → ∃ g k c, far = .slice (some ⟨g, 0, none⟩) nf c ∧ x.v = .slice (some ⟨g, 0, none⟩) k c ∧ k ≤ nf ∧ x.n = k ∧ x.cs = (List.replicate k pat).flatten
  exE : ∃ E', E = E0 ++ E' ∧ E'.length = cI ∧ ∀ x ∈ E', x.cs = (List.replicate x.n pat).flatten
  exM : ms = ms0 ++ List.replicate cM m
  lab : ∀ k, k < W0.heap.size → ρ k = ρ0 k
  zer : ∀ k, ρ k ≠ 0 → k < w.heap.size
  kept : ∀ k, k < W0.heap.size → ρ0 k ≠ 7 → ρ0 k ≠ rI → ρ0 k ≠ rM → some k ≠ far0.ownBlock → w.heap[k]? = W0.heap[k]?
  farb : far.ownBlock = far0.ownBlock ∨ ∀ k, far.ownBlock = some k → W0.heap.size ≤ k
  b0 : Below 0 W0 w
/-- The numbers that a family goes by. -/
structure Nums (T tI sz rI rM rE iI iM : Nat) (pat : List Value) : Prop where
  d0 : rI ≠ 0 ∧ rM ≠ 0 ∧ rE ≠ 0
  d7 : rI ≠ 7 ∧ rM ≠ 7 ∧ rE ≠ 7
  dd : rI ≠ rM ∧ rI ≠ rE ∧ rM ≠ rE
  di : iI ≠ iM
  pl : pat.length = sz
  s0 : 0 < sz
theorem below0_of_grown {w w1 : World} {row : Option Nat} (h : w.grownBy w1 row) : Below 0 w w1 := ⟨h.os, h.tape, h.output, h.size, fun k hk => absurd hk (by omega)⟩
theorem below0_set {w : World} {a : Addr} {v : Value} : Below 0 w (w.setCell a v) := (Below.refl 0 w).setCell (Nat.zero_le _) v
section
variable {T tI sz rI rM rE iI iM kb : Nat} {pat : List Value} {m : Int} {W0 : World} {ρ0 : Nat → Nat} {far0 : Value} {cs0 : Array Value} {E0 : List Ent} {ms0 : List Int} {w w1 w2 : World} {far far' : Value} {nf cI cM : Nat}
    {ρ : Nat → Nat} {vI vM v' : Value} {E : List Ent} {ms : List Int}
theorem HS.below (h : HS T tI sz rI rM rE iI iM kb pat m W0 ρ0 far0 cs0 E0 ms0 w far nf cI cM ρ vI vM E ms) (hb : Below w.heap.size w w1) : HS T tI sz rI rM rE iI iM kb pat m W0 ρ0 far0 cs0 E0 ms0 w1 far nf cI cM ρ vI vM E ms :=
  ⟨(hb.block kb (blk_lt h.kbk)).trans h.kbk, h.kbr, h.fam.below hb, own_move h.far_ fun k hk => hb.block k (own_lt h.far_ k hk), h.bF, h.alias_, h.exE, h.exM, h.lab, fun k hk => Nat.lt_of_lt_of_le (h.zer k hk) hb.size,
    fun k hk h1 h2 h3 h4 => (hb.block k (Nat.lt_of_lt_of_le hk h.b0.size)).trans (h.kept k hk h1 h2 h3 h4), h.farb, h.b0.trans (hb.mono (Nat.zero_le _))⟩
theorem HS.I (N : Nums T tI sz rI rM rE iI iM pat) (h : HS T tI sz rI rM rE iI iM kb pat m W0 ρ0 far0 cs0 E0 ms0 w far nf cI cM ρ vI vM E ms) (hsz : iI < cs0.size ∧ iM < cs0.size) (hg : Grew w w2 tI 1 vI E.length (E.map (·.v)) [far] v') :
    ∃ ρ' E', HS T tI sz rI rM rE iI iM kb pat m W0 ρ0 far0 cs0 E0 ms0 (w2.setCell ⟨kb, iI, none⟩ v') far nf (cI + 1) cM ρ' v' vM E' ms := by
  obtain ⟨ρ', r1, r2, r3⟩ := relab h.zer N.d0.1 h.fam.bI (own_lt h.fam.oI) hg
  have hkb : kb < w.heap.size := blk_lt h.kbk
  -- all but the row and kb is as it was
  have same : ∀ k, k < w.heap.size → ρ k ≠ rI → k ≠ kb → (w2.setCell ⟨kb, iI, none⟩ v').heap[k]? = w.heap[k]? := fun k hk h1 h2 =>
    (Below.heap_setCell w2 ⟨kb, iI, none⟩ v' k h2).trans (hg.grow.block k hk (fun he => h1 (h.fam.bI k he.symm)))
  have neq : ∀ k, ρ k ≠ 7 → k ≠ kb := fun k hk e => hk (e ▸ h.kbr)
  have kb2 : w2.heap[kb]? = some (.cells ((cs0.setIfInBounds iI vI).setIfInBounds iM vM) 38 (0, 0)) := (hg.grow.block kb hkb (fun he => N.d7.1 ((h.fam.bI kb he.symm).symm.trans h.kbr))).trans h.kbk
  have vb : ∀ k, v'.ownBlock = some k → k ≠ kb := fun k hk e => by
    have h1 := r2 k hk
    rw [e, r1 kb hkb, h.kbr] at h1
    exact N.d7.1 h1.symm
  have oI2 : (w2.setCell ⟨kb, iI, none⟩ v').ownsRow 0 tI 1 v' (E.length + 1) (E.map (·.v) ++ [far]) := own_move hg.own fun k hk => Below.heap_setCell w2 ⟨kb, iI, none⟩ v' k (vb k hk)
  refine ⟨ρ', E ++ [⟨far, nf, (List.replicate nf pat).flatten⟩], ⟨?_, (r1 kb hkb).trans h.kbr, ⟨?_, r2, ?_, ?_, ?_⟩, ?_, ?_, ?_, ?_, h.exM, ?_, ?_, ?_, h.farb, (h.b0.trans (below0_of_grown hg.grow)).trans below0_set⟩⟩
  · rw [heap_setCell_same w2 kb iI _ _ v' kb2]
    congr 2
    rw [Array.setIfInBounds_comm _ _ (Ne.symm N.di), Array.setIfInBounds_setIfInBounds]
  · simpa using oI2
  · exact own_move h.fam.oM fun k hk => same k (own_lt h.fam.oM k hk) (fun e => N.dd.1 (e.symm.trans (h.fam.bM k hk))) (neq k (fun e => N.d7.2.1 ((h.fam.bM k hk).symm.trans e)))
  · exact fun k hk => (r1 k (own_lt h.fam.oM k hk)).trans (h.fam.bM k hk)
  · intro x hx
    rcases List.mem_append.1 hx with hx | hx
    · have h1 := h.fam.en x hx
      exact ⟨own_move h1.1 fun k hk => same k (own_lt h1.1 k hk) (fun e => N.dd.2.1 (e.symm.trans (h1.2 k hk))) (neq k (fun e => N.d7.2.2 ((h1.2 k hk).symm.trans e))), fun k hk => (r1 k (own_lt h1.1 k hk)).trans (h1.2 k hk)⟩
    · rw [List.mem_singleton.1 hx]
      exact ⟨own_move h.far_ fun k hk => same k (own_lt h.far_ k hk) (fun e => N.dd.2.1 (e.symm.trans (h.bF k hk))) (neq k (fun e => N.d7.2.2 ((h.bF k hk).symm.trans e))), fun k hk => (r1 k (own_lt h.far_ k hk)).trans (h.bF k hk)⟩
  · exact own_move h.far_ fun k hk => same k (own_lt h.far_ k hk) (fun e => N.dd.2.1 (e.symm.trans (h.bF k hk))) (neq k (fun e => N.d7.2.2 ((h.bF k hk).symm.trans e)))
  · exact fun k hk => (r1 k (own_lt h.far_ k hk)).trans (h.bF k hk)
  · intro x hx he hn
    rcases List.mem_append.1 hx with hx | hx
    · exact h.alias_ x hx he hn
    · rw [List.mem_singleton.1 hx]
      rcases h.far_.2 with ⟨hv, _⟩ | ⟨g, cap, cur, hv, _⟩
      · exact absurd (by rw [hv]; rfl) hn
      · exact ⟨g, nf, cap, hv, hv, Nat.le_refl _, rfl, rfl⟩
  · obtain ⟨E', h1, h2, h3⟩ := h.exE
    refine ⟨E' ++ [⟨far, nf, (List.replicate nf pat).flatten⟩], by rw [h1, List.append_assoc], by simp [h2], fun x hx => ?_⟩
    rcases List.mem_append.1 hx with hx | hx
    · exact h3 x hx
    · rw [List.mem_singleton.1 hx]
  · exact fun k hk => (r1 k (Nat.lt_of_lt_of_le hk h.b0.size)).trans (h.lab k hk)
  · exact fun k hk => by simpa using r3 k hk
  · intro k hk h1 h2 h3 h4
    have hl := h.lab k hk
    exact (same k (Nat.lt_of_lt_of_le hk h.b0.size) (fun e => h2 (hl.symm.trans e)) (neq k (fun e => h1 (hl.symm.trans e)))).trans (h.kept k hk h1 h2 h3 h4)
theorem HS.M (N : Nums T tI sz rI rM rE iI iM pat) (h : HS T tI sz rI rM rE iI iM kb pat m W0 ρ0 far0 cs0 E0 ms0 w far nf cI cM ρ vI vM E ms) (hsz : iI < cs0.size ∧ iM < cs0.size) (hg : Grew w w2 3 1 vM ms.length (ms.map (Value.int .i64)) [.int .i64 m] v') :
    ∃ ρ' ms', HS T tI sz rI rM rE iI iM kb pat m W0 ρ0 far0 cs0 E0 ms0 (w2.setCell ⟨kb, iM, none⟩ v') far nf cI (cM + 1) ρ' vI v' E ms' := by
  obtain ⟨ρ', r1, r2, r3⟩ := relab h.zer N.d0.2.1 h.fam.bM (own_lt h.fam.oM) hg
  have hkb : kb < w.heap.size := blk_lt h.kbk
  have same : ∀ k, k < w.heap.size → ρ k ≠ rM → k ≠ kb → (w2.setCell ⟨kb, iM, none⟩ v').heap[k]? = w.heap[k]? := fun k hk h1 h2 =>
    (Below.heap_setCell w2 ⟨kb, iM, none⟩ v' k h2).trans (hg.grow.block k hk (fun he => h1 (h.fam.bM k he.symm)))
  have neq : ∀ k, ρ k ≠ 7 → k ≠ kb := fun k hk e => hk (e ▸ h.kbr)
  have kb2 : w2.heap[kb]? = some (.cells ((cs0.setIfInBounds iI vI).setIfInBounds iM vM) 38 (0, 0)) := (hg.grow.block kb hkb (fun he => N.d7.2.1 ((h.fam.bM kb he.symm).symm.trans h.kbr))).trans h.kbk
  have vb : ∀ k, v'.ownBlock = some k → k ≠ kb := fun k hk e => by
    have h1 := r2 k hk
    rw [e, r1 kb hkb, h.kbr] at h1
    exact N.d7.2.1 h1.symm
  have oM2 : (w2.setCell ⟨kb, iM, none⟩ v').ownsRow 0 3 1 v' (ms.length + 1) (ms.map (Value.int .i64) ++ [.int .i64 m]) := own_move hg.own fun k hk => Below.heap_setCell w2 ⟨kb, iM, none⟩ v' k (vb k hk)
  have ent : ∀ {x : Ent}, (w.ownsRow 0 T sz x.v x.n x.cs ∧ ∀ k, x.v.ownBlock = some k → ρ k = rE) → (w2.setCell ⟨kb, iM, none⟩ v').ownsRow 0 T sz x.v x.n x.cs ∧ ∀ k, x.v.ownBlock = some k → ρ' k = rE := fun {x} h1 =>
    ⟨own_move h1.1 fun k hk => same k (own_lt h1.1 k hk) (fun e => N.dd.2.2 (e.symm.trans (h1.2 k hk))) (neq k (fun e => N.d7.2.2 ((h1.2 k hk).symm.trans e))), fun k hk => (r1 k (own_lt h1.1 k hk)).trans (h1.2 k hk)⟩
  have hf := ent (x := ⟨far, nf, (List.replicate nf pat).flatten⟩) ⟨h.far_, h.bF⟩
  refine ⟨ρ', ms ++ [m], ⟨?_, (r1 kb hkb).trans h.kbr, ⟨?_, ?_, ?_, r2, fun x hx => ent (h.fam.en x hx)⟩, hf.1, hf.2, h.alias_, h.exE, ?_, ?_, ?_, ?_, h.farb, (h.b0.trans (below0_of_grown hg.grow)).trans below0_set⟩⟩
  · rw [heap_setCell_same w2 kb iM _ _ v' kb2, Array.setIfInBounds_setIfInBounds]
  · exact own_move h.fam.oI fun k hk => same k (own_lt h.fam.oI k hk) (fun e => N.dd.1 ((h.fam.bI k hk).symm.trans e)) (neq k (fun e => N.d7.1 ((h.fam.bI k hk).symm.trans e)))
  · exact fun k hk => (r1 k (own_lt h.fam.oI k hk)).trans (h.fam.bI k hk)
  · simpa using oM2
  · rw [h.exM, List.append_assoc, List.replicate_succ']
  · exact fun k hk => (r1 k (Nat.lt_of_lt_of_le hk h.b0.size)).trans (h.lab k hk)
  · exact fun k hk => by simpa using r3 k hk
  · intro k hk h1 h2 h3 h4
    have hl := h.lab k hk
    exact (same k (Nat.lt_of_lt_of_le hk h.b0.size) (fun e => h3 (hl.symm.trans e)) (neq k (fun e => h1 (hl.symm.trans e)))).trans (h.kept k hk h1 h2 h3 h4)
theorem flat_len (pat : List Value) (n : Nat) : (List.replicate n pat).flatten.length = n * pat.length := by induction n with
  | zero => simp
  | succ n ih => rw [List.replicate_succ, List.flatten_cons, List.length_append, ih, Nat.add_mul]; omega
theorem flat_take (pat : List Value) (n k : Nat) (h : k ≤ n) : (List.replicate n pat).flatten.take (k * pat.length) = (List.replicate k pat).flatten := by
  obtain ⟨d, rfl⟩ := Nat.exists_eq_add_of_le h
  rw [← List.replicate_append_replicate, List.flatten_append, ← flat_len pat k, List.take_left]
theorem flat_succ (pat : List Value) (n : Nat) : (List.replicate n pat).flatten ++ pat = (List.replicate (n + 1) pat).flatten := by
  rw [List.replicate_succ', List.flatten_append]; simp
theorem HS.F (N : Nums T tI sz rI rM rE iI iM pat) (h : HS T tI sz rI rM rE iI iM kb pat m W0 ρ0 far0 cs0 E0 ms0 w far nf cI cM ρ vI vM E ms) (hg : Grew w w2 T sz far nf (List.replicate nf pat).flatten pat v') :
    ∃ ρ', HS T tI sz rI rM rE iI iM kb pat m W0 ρ0 far0 cs0 E0 ms0 w2 v' (nf + 1) cI cM ρ' vI vM E ms := by
  obtain ⟨ρ', r1, r2, r3⟩ := relab h.zer N.d0.2.2 h.bF (own_lt h.far_) hg
  have hkb : kb < w.heap.size := blk_lt h.kbk
  have same : ∀ k, k < w.heap.size → ρ k ≠ rE → w2.heap[k]? = w.heap[k]? := fun k hk h1 => hg.grow.block k hk (fun he => h1 (h.bF k he.symm))
  have own2 := hg.own
  rw [flat_succ] at own2
  have ent : ∀ x ∈ E, w2.ownsRow 0 T sz x.v x.n x.cs := fun x hx => by
    have h1 := h.fam.en x hx
    by_cases he : x.v.ownBlock = far.ownBlock ∧ far.ownBlock ≠ none
    · obtain ⟨g, k, c, e1, e2, e3, e4, e5⟩ := h.alias_ x hx he.1 he.2
      rcases hg.lies with ⟨g', cap', f1, f2⟩ | ⟨cap', f1, f2⟩
      · rw [e1] at f1
        injection f1 with f3 f4 f5
        injection f3 with f6
        injection f6 with f7
        subst f7; subst f5
        rcases own2.2 with ⟨hv, _⟩ | ⟨g2, cap2, cur, hv, hb, hgc, hn, hm, hs, ht⟩
        · rw [f2] at hv; cases hv
        · rw [f2] at hv
          injection hv with f8 f9 f10
          injection f8 with f11
          injection f11 with f12
          subst f12; subst f10
          refine ⟨by rw [e5, e4, flat_len, N.pl], .inr ⟨g, c, cur, by rw [e2, e4], Nat.zero_le _, hgc, by omega, hm, hs, ?_⟩⟩
          rw [e5, e4, ← flat_take pat (nf + 1) k (by omega), N.pl, ← ht, List.take_take]
          congr 1
          exact (Nat.min_eq_left (Nat.mul_le_mul_right _ (by omega))).symm
      · exact own_move h1.1 fun k hk => f2.block k (own_lt h1.1 k hk) (by simp)
    · refine own_move h1.1 fun k hk => hg.grow.block k (own_lt h1.1 k hk) (fun e => he ⟨by rw [hk, e], by rw [← e]; simp⟩)
  refine ⟨ρ', ⟨(same kb hkb (fun e => N.d7.2.2 (e.symm.trans h.kbr))).trans h.kbk, (r1 kb hkb).trans h.kbr, ⟨?_, ?_, ?_, ?_, ?_⟩, own2, r2, ?_, h.exE, h.exM, ?_, r3, ?_, ?_, h.b0.trans (below0_of_grown hg.grow)⟩⟩
  · exact own_move h.fam.oI fun k hk => same k (own_lt h.fam.oI k hk) (fun e => N.dd.2.1 ((h.fam.bI k hk).symm.trans e))
  · exact fun k hk => (r1 k (own_lt h.fam.oI k hk)).trans (h.fam.bI k hk)
  · exact own_move h.fam.oM fun k hk => same k (own_lt h.fam.oM k hk) (fun e => N.dd.2.2 ((h.fam.bM k hk).symm.trans e))
  · exact fun k hk => (r1 k (own_lt h.fam.oM k hk)).trans (h.fam.bM k hk)
  · exact fun x hx => ⟨ent x hx, fun k hk => (r1 k (own_lt (h.fam.en x hx).1 k hk)).trans ((h.fam.en x hx).2 k hk)⟩
  · intro x hx he hn
    rcases hg.lies with ⟨g', cap', f1, f2⟩ | ⟨cap', f1, f2⟩
    · have he2 : x.v.ownBlock = far.ownBlock := by rw [he, f2, f1]; rfl
      obtain ⟨g, k, c, e1, e2, e3, e4, e5⟩ := h.alias_ x hx he2 (by rw [f1]; simp [Value.ownBlock])
      rw [e1] at f1
      injection f1 with f3 f4 f5
      injection f3 with f6
      injection f6 with f7
      subst f7; subst f5
      exact ⟨g, k, c, f2, e2, by omega, e4, e5⟩
    · exfalso
      have h1 := own_lt (h.fam.en x hx).1 w.heap.size (by rw [he, f1]; rfl)
      omega
  · exact fun k hk => (r1 k (Nat.lt_of_lt_of_le hk h.b0.size)).trans (h.lab k hk)
  · intro k hk h1 h2 h3 h4
    have hlt := Nat.lt_of_lt_of_le hk h.b0.size
    refine (hg.grow.block k hlt (fun e => ?_)).trans (h.kept k hk h1 h2 h3 h4)
    rcases h.farb with hb | hb
    · exact h4 (e.trans hb)
    · have := hb k e.symm; omega
  · rcases hg.lies with ⟨g', cap', f1, f2⟩ | ⟨cap', f1, f2⟩
    · rcases h.farb with hb | hb
      · exact .inl (by rw [← hb, f2, f1]; rfl)
      · exact .inr (fun k hk => hb k (by rw [f1]; rw [f2] at hk; exact hk))
    · refine .inr fun k hk => ?_
      rw [f1] at hk
      have : w.heap.size = k := by simpa [Value.ownBlock] using hk
      rw [← this]; exact h.b0.size
end
end Go.Proofs.Ytnkkkbmkbmjghaa.Ks
