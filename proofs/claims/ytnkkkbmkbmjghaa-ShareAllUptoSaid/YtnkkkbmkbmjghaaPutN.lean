/- put and putRights of a keep that is not late: what is answered is written over at once, and grown. -/
import Derived.Test.YtnkkkbmkbmjghaaKeeper
import Derived.Test.YtnkkkbmkbmjghaaHold
import Derived.Test.YtnkkkbmkbmjghaaPlAsk
namespace Go.Proofs.Ytnkkkbmkbmjghaa.Pn
open Go.RowKit Go.Proofs.Ytnkkkbmkbmjghaa.P Go.Proofs.YtnkkkbmkbmjghaaW.PrintWords Go.Proofs.YtnkkkbmkbmjghaaW.PrintLast Go.Proofs.YtnkkkbmkbmjghaaW.PrintMore Go.Proofs.Ytnkkkbmkbmjghaa.Gw Go.Proofs.Ytnkkkbmkbmjghaa.Ks Go.Proofs.Ytnkkkbmkbmjghaa.Hd Go.Proofs.Ytnkkkbmkbmjghaa.Kr Go.Proofs.Ytnkkkbmkbmjghaa.Pl
set_option linter.unusedVariables false
set_option linter.unusedSimpArgs false
/-- Each entry is full of its mark. -/
structure Marked (pat : Int → List Value) (E : List Ent) (ms : List Int) : Prop where
  len : E.length = ms.length
  full : ∀ (i : Nat) (x : Ent) (m : Int), E[i]? = some x → ms[i]? = some m → x.cs = (List.replicate x.n (pat m)).flatten
  bd : ∀ m ∈ ms, 0 ≤ m ∧ m ≤ 1099511627776
theorem Marked.nil (pat : Int → List Value) : Marked pat [] [] := ⟨rfl, fun i x m h => by simp at h, fun m h => by simp at h⟩
theorem Marked.more {pat : Int → List Value} {E E' : List Ent} {ms : List Int} {m : Int} {c : Nat} (h : Marked pat E ms) (hl : E'.length = c) (hm : 0 ≤ m ∧ m ≤ 1099511627776) (hf : ∀ x ∈ E', x.cs = (List.replicate x.n (pat m)).flatten) : Marked pat (E ++ E') (ms ++ List.replicate c m) := by
  refine ⟨by simp [h.len, hl], fun i x m' h1 h2 => ?_, fun m' h1 => ?_⟩
  · rcases Nat.lt_or_ge i E.length with h3 | h3
    · rw [List.getElem?_append_left h3] at h1
      rw [List.getElem?_append_left (by rw [← h.len]; exact h3)] at h2
      exact h.full i x m' h1 h2
    · rw [List.getElem?_append_right h3] at h1
      rw [List.getElem?_append_right (by rw [← h.len]; exact h3)] at h2
      have h4 := List.mem_of_getElem? h1
      have h5 := List.eq_of_mem_replicate (List.mem_of_getElem? h2)
      rw [h5]; exact hf x h4
  · rcases List.mem_append.1 h1 with h2 | h2
    · exact h.bd m' h2
    · rw [List.eq_of_mem_replicate h2]; exact hm
def patI (m : Int) : List Value := [.int .i64 (-1000 - m)]
def patR (m : Int) : List Value := [.int .i64 (-1000 - m), .int .i64 0]
/-- A keep that is not late, n calls of put behind it. -/
structure KNx (kb : Nat) (ρ : Nat → Nat) (n : Nat) (w : World) (vI vM vR vN : Value) (E ER : List Ent) (ms mr : List Int) : Prop where
  blk : w.heap[kb]? = some (.cells #[.bool false, vI, .slice none 0 0, vM, vR, .slice none 0 0, vN] 38 (0, 0))
  lbl : ρ kb = 7
  fI : Fam 3 22 1 1 2 3 ρ w vI vM E ms
  fR : Fam 50 46 2 4 5 6 ρ w vR vN ER mr
  zer : ∀ k, ρ k ≠ 0 → k < w.heap.size
  mI : Marked patI E ms
  mR : Marked patR ER mr
  nI : E.length ≤ 18 * n
  nR : ER.length ≤ 18 * n
def KN (kb : Nat) (ρ : Nat → Nat) (n : Nat) (w : World) : Prop := ∃ vI vM vR vN E ER ms mr, KNx kb ρ n w vI vM vR vN E ER ms mr
section
variable {T tI sz rI rM rE : Nat} {ρ ρ' : Nat → Nat} {w w1 : World} {vI vM : Value} {E : List Ent} {ms : List Int}
theorem fam_move (h : Fam T tI sz rI rM rE ρ w vI vM E ms) (hm : ∀ k, k < w.heap.size → (ρ k = rI ∨ ρ k = rM ∨ ρ k = rE) → w1.heap[k]? = w.heap[k]? ∧ ρ' k = ρ k) : Fam T tI sz rI rM rE ρ' w1 vI vM E ms := by
  refine ⟨Ks.own_move h.oI fun k hk => (hm k (Ks.own_lt h.oI k hk) (.inl (h.bI k hk))).1, fun k hk => (hm k (Ks.own_lt h.oI k hk) (.inl (h.bI k hk))).2.trans (h.bI k hk), Ks.own_move h.oM fun k hk => (hm k (Ks.own_lt h.oM k hk) (.inr (.inl (h.bM k hk)))).1, fun k hk => (hm k (Ks.own_lt h.oM k hk) (.inr (.inl (h.bM k hk)))).2.trans (h.bM k hk), fun x hx => ?_⟩
  have h1 := h.en x hx
  exact ⟨Ks.own_move h1.1 fun k hk => (hm k (Ks.own_lt h1.1 k hk) (.inr (.inr (h1.2 k hk)))).1, fun k hk => (hm k (Ks.own_lt h1.1 k hk) (.inr (.inr (h1.2 k hk)))).2.trans (h1.2 k hk)⟩
end
theorem KN.move {kb : Nat} {ρ : Nat → Nat} {n : Nat} {w w1 : World} (h : KN kb ρ n w) (hm : ∀ k, k < w.heap.size → ρ k ≠ 0 → w1.heap[k]? = w.heap[k]?) (hs : w.heap.size ≤ w1.heap.size) : KN kb ρ n w1 := by
  obtain ⟨vI, vM, vR, vN, E, ER, ms, mr, h⟩ := h
  exact ⟨vI, vM, vR, vN, E, ER, ms, mr, (hm kb (blk_lt h.blk) (by rw [h.lbl]; decide)).trans h.blk, h.lbl, fam_move h.fI fun k hk hr => ⟨hm k hk (by omega), rfl⟩, fam_move h.fR fun k hk hr => ⟨hm k hk (by omega), rfl⟩, fun k hk => Nat.lt_of_lt_of_le (h.zer k hk) hs, h.mI, h.mR, h.nI, h.nR⟩
/-- What fill leaves. -/
theorem fill_loop (m : Int) (hm : 0 ≤ m ∧ m ≤ 1099511627776) : ∀ (d i : Nat) (x : List Int), x.length ≤ 140737488355328 → x.length - i = d → i ≤ x.length → (∀ j, j < i → x.getD j 0 = -1000 - m) → Ev (fun k => sluicelaw8_fill.l0 k x m (i : Int)) (List.replicate x.length (-1000 - m)) := by
  intro d
  induction d with
  | zero =>
    intro i x hx hd hi h
    have e : x = List.replicate x.length (-1000 - m) := by
      apply List.ext_getElem?
      intro j
      rcases Nat.lt_or_ge j x.length with h2 | h2
      · have := h j (by omega)
        rw [List.getD_eq_getElem?_getD, List.getElem?_eq_getElem h2] at this
        rw [List.getElem?_eq_getElem h2, List.getElem?_replicate, if_pos h2]; simpa using this
      · rw [List.getElem?_eq_none h2, List.getElem?_eq_none (by simpa using h2)]
    refine Ev.step (f := fun _ => some x) (fun k => ?_) (by rw [← e]; exact Ev.now _)
    simp only [sluicelaw8_fill.l0]; rw [if_neg (by omega)]
  | succ d ih =>
    intro i x hx hd hi h
    have := ih (i + 1) (x.set i (-1000 - m)) (by simpa using hx) (by simp; omega) (by simp; omega) (by
      intro j hj
      rw [getD_set_int]
      by_cases e : i = j
      · rw [if_pos ⟨e, by omega⟩]
      · rw [if_neg (fun hh => e hh.1)]; exact h j (by omega))
    rw [List.length_set] at this
    refine Ev.step (fun k => ?_) this
    simp only [sluicelaw8_fill.l0]
    rw [if_pos (by omega), if_pos (by omega), w64 (n := -1000 - m) (by omega) (by omega), w64 (by omega) (by omega)]; simp
theorem fill_ev (l : List Int) (m : Int) (hm : 0 ≤ m ∧ m ≤ 1099511627776) (hl : l.length ≤ 140737488355328) : Ev (fun k => sluicelaw8_fill.f k l m) (List.replicate l.length (-1000 - m)) :=
  fill_loop m hm l.length 0 l hl rfl (Nat.zero_le _) (fun j hj => absurd hj (by omega))
theorem fillR_loop (m : Int) (hm : 0 ≤ m ∧ m ≤ 1099511627776) : ∀ (d i : Nat) (x : List S50), x.length ≤ 140737488355328 → x.length - i = d → i ≤ x.length → (∀ j, j < i → x[j]? = some ⟨-1000 - m, 0⟩) → Ev (fun k => sluicelaw8_fillRights.l0 k x m (i : Int)) (List.replicate x.length ⟨-1000 - m, 0⟩) := by
  intro d
  induction d with
  | zero =>
    intro i x hx hd hi h
    have e : x = List.replicate x.length ⟨-1000 - m, 0⟩ := by
      apply List.ext_getElem?
      intro j
      rcases Nat.lt_or_ge j x.length with h2 | h2
      · rw [h j (by omega), List.getElem?_replicate, if_pos h2]
      · rw [List.getElem?_eq_none h2, List.getElem?_eq_none (by simpa using h2)]
    refine Ev.step (f := fun _ => some x) (fun k => ?_) (by rw [← e]; exact Ev.now _)
    simp only [sluicelaw8_fillRights.l0]; rw [if_neg (by omega)]
  | succ d ih =>
    intro i x hx hd hi h
    have := ih (i + 1) (x.set i ⟨-1000 - m, 0⟩) (by simpa using hx) (by simp; omega) (by simp; omega) (by
      intro j hj
      rw [List.getElem?_set]
      by_cases e : i = j
      · rw [if_pos e, if_pos (by omega)]
      · rw [if_neg e]; exact h j (by omega))
    rw [List.length_set] at this
    refine Ev.step (fun k => ?_) this
    simp only [sluicelaw8_fillRights.l0]
    rw [if_pos (by omega), if_pos (by omega), w64 (n := -1000 - m) (by omega) (by omega), w64 (by omega) (by omega)]; simp
theorem fillR_ev (l : List S50) (m : Int) (hm : 0 ≤ m ∧ m ≤ 1099511627776) (hl : l.length ≤ 140737488355328) : Ev (fun k => sluicelaw8_fillRights.f k l m) (List.replicate l.length ⟨-1000 - m, 0⟩) :=
  fillR_loop m hm l.length 0 l hl rfl (Nat.zero_le _) (fun j hj => absurd hj (by omega))
theorem flat_one (n : Nat) (a : Value) : (List.replicate n [a]).flatten = List.replicate n a := by
  induction n with
  | zero => rfl
  | succ n ih => rw [List.replicate_succ, List.flatten_cons, ih, List.replicate_succ]; rfl
/-- A row of parts, by its cells. -/
theorem own_ints {w : World} {ok : Nat → Prop} {v : Value} {n : Nat} {a : Int} (h : Kd.R (Kd.int .i64) 3 w 0 ok v (List.replicate n a)) : w.ownsRow 0 3 1 v n (List.replicate n [Value.int .i64 a]).flatten := by
  have h2 := Kd.own_of_R h
  rw [List.length_replicate] at h2
  rw [flat_one]
  simpa [encs] using h2
def cell2 (x : S50) : List Value := [.int .i64 x.f0, .int .i64 x.f1]
theorem reps_flat {α : Type} {R : α → List Value → Prop} {sz : Nat} {f : α → List Value} (hf : ∀ p c, R p c → c = f p) : ∀ (ps : List α) (cs : List Value), Reps R sz ps cs → cs = ps.flatMap f := by
  intro ps
  induction ps with
  | nil => intro cs h; have := h.1; simp at this; simp [this]
  | cons p ps ih =>
    intro cs h
    have h0 := hf p _ (h.2 0 p rfl)
    simp only [Nat.zero_mul, List.drop_zero] at h0
    have h1 : Reps R sz ps (cs.drop sz) := by
      refine ⟨by rw [List.length_drop, h.1, List.length_cons, Nat.add_mul]; omega, fun j q hq => ?_⟩
      have := h.2 (j + 1) q (by simpa using hq)
      rw [List.drop_drop]
      rw [show sz + j * sz = (j + 1) * sz from by rw [Nat.add_mul]; omega]
      exact this
    rw [List.flatMap_cons, ← h0, ← ih _ h1, List.take_append_drop]
theorem own_R2 {w : World} {ok : Nat → Prop} {v : Value} {xs : List S50} (h : Kd.R k50 50 w 0 ok v xs) : w.ownsRow 0 50 2 v xs.length (xs.flatMap cell2) := by
  obtain ⟨_, inner, ho, hr⟩ := h
  have := reps_flat (f := cell2) (fun p c hc => k50_openM hc) xs inner hr
  rw [this] at ho
  exact ho
theorem own_rights {w : World} {ok : Nat → Prop} {v : Value} {n : Nat} {a : S50} (h : Kd.R k50 50 w 0 ok v (List.replicate n a)) : w.ownsRow 0 50 2 v n (List.replicate n (cell2 a)).flatten := by
  have h2 := own_R2 h
  rw [List.length_replicate] at h2
  simpa [List.flatMap, List.map_replicate] using h2
/-- The labels once v's block is the family's. -/
def lab0 (ρ : Nat → Nat) (v : Value) (r : Nat) : Nat → Nat := fun k => if some k = v.ownBlock then r else ρ k
theorem lab0_eq {ρ : Nat → Nat} {v : Value} {r k : Nat} (h : some k = v.ownBlock) : lab0 ρ v r k = r := if_pos h
theorem lab0_ne {ρ : Nat → Nat} {v : Value} {r k : Nat} (h : some k ≠ v.ownBlock) : lab0 ρ v r k = ρ k := if_neg h
section
variable {kb : Nat} {ρ : Nat → Nat} {n : Nat} {w w1 w2 : World} {vI vM vR vN v : Value} {E ER : List Ent} {ms mr : List Int} {nf : Nat} {m : Int}
theorem lab_ne (hv : ∀ k, v.ownBlock = some k → ρ k = 0) {k : Nat} (h : ρ k ≠ 0) : some k ≠ v.ownBlock := fun e => h (hv k e.symm)
/-- A hold's beginning. -/
theorem init {T tI sz rI rM rE iI iM : Nat} {pat : List Value} {cs0 : Array Value} {vx vy : Value} (N : Nums T tI sz rI rM rE iI iM pat) (hb : w.heap[kb]? = some (.cells cs0 38 (0, 0))) (hcs : cs0 = (cs0.setIfInBounds iI vx).setIfInBounds iM vy) (hl : ρ kb = 7)
    (hf : Fam T tI sz rI rM rE ρ w vx vy E ms) (hz : ∀ k, ρ k ≠ 0 → k < w.heap.size) (hk : Kept w w1 (fun k => some k = v.ownBlock)) (hv : ∀ k, v.ownBlock = some k → ρ k = 0) (ho : w1.ownsRow 0 T sz v nf (List.replicate nf pat).flatten) :
    HS T tI sz rI rM rE iI iM kb pat m w1 (lab0 ρ v rE) v cs0 E ms w1 v nf 0 0 (lab0 ρ v rE) vx vy E ms := by
  have d0 := N.d0; have d7 := N.d7
  refine ⟨?_, ?_, ?_, ho, fun k hk => lab0_eq hk.symm, ?_, ⟨[], by simp, rfl, fun x hx => by simp at hx⟩, by simp, fun _ _ => rfl, ?_, fun _ _ _ _ _ _ => rfl, .inl rfl, Below.refl _ _⟩
  · rw [← hcs]; exact (hk.2 kb (blk_lt hb) (lab_ne hv (by rw [hl]; decide))).trans hb
  · rw [lab0_ne (lab_ne hv (by rw [hl]; decide))]; exact hl
  · refine fam_move hf fun k hlt hr => ?_
    have hne := lab_ne hv (k := k) (by omega)
    exact ⟨hk.2 k hlt hne, lab0_ne hne⟩
  · intro x hx he hn
    exfalso
    obtain ⟨k, hk2⟩ := Option.ne_none_iff_exists'.1 hn
    have h1 := (hf.en x hx).2 k (by rw [he]; exact hk2)
    have h2 := hv k hk2
    omega
  · intro k h
    by_cases e : some k = v.ownBlock
    · exact Ks.own_lt ho k e.symm
    · rw [lab0_ne e] at h; exact Nat.lt_of_lt_of_le (hz k h) hk.1
/-- A hold's end: the other family. -/
theorem other {T tI sz rI rM rE iI iM T2 tI2 sz2 r1 r2 r3 : Nat} {pat : List Value} {cs0 : Array Value} {far : Value} {nf2 cI cM : Nat} {ρ' : Nat → Nat} {vx vy v1 v2 : Value} {E' E2 : List Ent} {ms' m2 : List Int}
    (hf : Fam T2 tI2 sz2 r1 r2 r3 ρ w v1 v2 E2 m2) (hd : (r1 ≠ 0 ∧ r1 ≠ 7 ∧ r1 ≠ rI ∧ r1 ≠ rM) ∧ (r2 ≠ 0 ∧ r2 ≠ 7 ∧ r2 ≠ rI ∧ r2 ≠ rM) ∧ (r3 ≠ 0 ∧ r3 ≠ 7 ∧ r3 ≠ rI ∧ r3 ≠ rM))
    (hk : Kept w w1 (fun k => some k = v.ownBlock)) (hv : ∀ k, v.ownBlock = some k → ρ k = 0) (h : HS T tI sz rI rM rE iI iM kb pat m w1 (lab0 ρ v rE) v cs0 E ms w2 far nf2 cI cM ρ' vx vy E' ms') : Fam T2 tI2 sz2 r1 r2 r3 ρ' w2 v1 v2 E2 m2 := by
  refine fam_move hf fun k hlt hr => ?_
  have hne := lab_ne hv (k := k) (by omega)
  have hlt1 : k < w1.heap.size := Nat.lt_of_lt_of_le hlt hk.1
  refine ⟨(h.kept k hlt1 ?_ ?_ ?_ hne).trans (hk.2 k hlt hne), (h.lab k hlt1).trans (lab0_ne hne)⟩ <;> (rw [lab0_ne hne]; omega)
theorem after {T tI sz rI rM rE iI iM : Nat} {pat : List Value} {cs0 : Array Value} {far : Value} {nf2 cI cM : Nat} {ρ' : Nat → Nat} {vx vy : Value} {E' : List Ent} {ms' : List Int} (N : Nums T tI sz rI rM rE iI iM pat)
    (hk : Kept w w1 (fun k => some k = v.ownBlock)) (hb : Below 0 w w1) (h : HS T tI sz rI rM rE iI iM kb pat m w1 (lab0 ρ v rE) v cs0 E ms w2 far nf2 cI cM ρ' vx vy E' ms') : After ρ ρ' v w w2 := by
  have d0 := N.d0
  refine ⟨fun k hlt => ?_, hb.trans h.b0, fun k hlt h0 hne => ?_⟩
  · by_cases e : some k = v.ownBlock
    · exact .inr e
    · exact .inl ((h.lab k (Nat.lt_of_lt_of_le hlt hk.1)).trans (lab0_ne e))
  · refine (h.kept k (Nat.lt_of_lt_of_le hlt hk.1) ?_ ?_ ?_ hne).trans (hk.2 k hlt hne) <;> (rw [lab0_ne hne]; omega)
end
end Go.Proofs.Ytnkkkbmkbmjghaa.Pn
