/- 'lately' and 'whole' of a late keep. PRINTED by genlately.py. -/
import Derived.Test.YtnkkkbmkbmjghaaPutLW
import Derived.Test.YtnkkkbmkbmjghaaWholeK
import Derived.Test.YtnkkkbmkbmjghaaPlayedPut
namespace Go.Proofs.Ytnkkkbmkbmjghaa.Lt
open Go.RowKit Go.Proofs.Ytnkkkbmkbmjghaa.P Go.Proofs.YtnkkkbmkbmjghaaW.PrintWords Go.Proofs.YtnkkkbmkbmjghaaW.PrintLast Go.Proofs.YtnkkkbmkbmjghaaW.PrintMore Go.Proofs.Ytnkkkbmkbmjghaa.Gw Go.Proofs.Ytnkkkbmkbmjghaa.Ks Go.Proofs.Ytnkkkbmkbmjghaa.Hd Go.Proofs.Ytnkkkbmkbmjghaa.Kr Go.Proofs.Ytnkkkbmkbmjghaa.Pl Go.Proofs.Ytnkkkbmkbmjghaa.Pn Go.Proofs.Ytnkkkbmkbmjghaa.Pd
set_option linter.unusedVariables false
set_option linter.unusedSimpArgs false
/-- hold of a row that is full of its mark, upon a keep that is not late. -/
theorem hold_keepI {kb : Nat} {ρ : Nat → Nat} {n : Nat} {w : World} {v : Value} {nf : Nat} {m : Int} (hK : KN kb ρ n w) (hn : n ≤ 4194304) (hm : 0 ≤ m ∧ m ≤ 1099511627776) (hnf : nf ≤ 16) (ho : w.ownsRow 0 3 1 v nf (List.replicate nf (patI m)).flatten) (hv : ∀ k, v.ownBlock = some k → ρ k = 0) :
    Calls Try.prog 38 #[.pointer (some ⟨kb, 0, none⟩), v, .int .i64 m] w fun e w' => e = .returned (.tuple #[]) ∧ ∃ ρ', KN kb ρ' (n + 1) w' ∧ After ρ ρ' v w w' := by
  obtain ⟨vI, vM, vR, vN, E, ER, ms, mr, h⟩ := hK
  have h1 : ms.length ≤ 75497472 := by have := h.nI; have := h.mI.len; omega
  have hs := init (T := 3) (tI := 22) (m := m) (numsI m) h.blk (by rfl) h.lbl h.fI h.zer (Kept.refl w (fun k => some k = v.ownBlock)) hv ho
  refine (holdI_calls kb v nf m w _ _ E ms ⟨_, _, _, _, _, hs⟩ rfl hm (by omega) (by have := h.mI.len; omega) (by omega)).mono ?_
  rintro e wz ⟨rfl, far, nf', ρ', vI', vM', E', ms', hz⟩
  refine ⟨rfl, ρ', ?_, after (numsI _) (Kept.refl w _) (Below.refl 0 w) hz⟩
  obtain ⟨Ex, x1, x2, x3⟩ := hz.exE
  have hk := hz.kbk
  refine ⟨vI', vM', vR, vN, E', ER, ms', mr, hk, hz.kbr, hz.fam, other h.fR (by decide) (Kept.refl w _) hv hz, hz.zer, ?_, h.mR, ?_, by have := h.nR; omega⟩
  · rw [x1, hz.exM]; exact h.mI.more x2 hm x3
  · rw [x1, List.length_append, x2]; have := h.nI; omega
theorem hold_keepR {kb : Nat} {ρ : Nat → Nat} {n : Nat} {w : World} {v : Value} {nf : Nat} {m : Int} (hK : KN kb ρ n w) (hn : n ≤ 4194304) (hm : 0 ≤ m ∧ m ≤ 1099511627776) (hnf : nf ≤ 16) (ho : w.ownsRow 0 50 2 v nf (List.replicate nf (patR m)).flatten) (hv : ∀ k, v.ownBlock = some k → ρ k = 0) :
    Calls Try.prog 40 #[.pointer (some ⟨kb, 0, none⟩), v, .int .i64 m] w fun e w' => e = .returned (.tuple #[]) ∧ ∃ ρ', KN kb ρ' (n + 1) w' ∧ After ρ ρ' v w w' := by
  obtain ⟨vI, vM, vR, vN, E, ER, ms, mr, h⟩ := hK
  have h1 : mr.length ≤ 75497472 := by have := h.nR; have := h.mR.len; omega
  have hs := init (T := 50) (tI := 46) (m := m) (numsR m) h.blk (by rfl) h.lbl h.fR h.zer (Kept.refl w (fun k => some k = v.ownBlock)) hv ho
  refine (holdR_calls kb v nf m w _ _ ER mr ⟨_, _, _, _, _, hs⟩ rfl hm (by omega) (by have := h.mR.len; omega) (by omega)).mono ?_
  rintro e wz ⟨rfl, far, nf', ρ', vI', vM', E', ms', hz⟩
  refine ⟨rfl, ρ', ?_, after (numsR _) (Kept.refl w _) (Below.refl 0 w) hz⟩
  obtain ⟨Ex, x1, x2, x3⟩ := hz.exE
  have hk := hz.kbk
  refine ⟨vI, vM, vI', vM', E, E', ms, ms', hk, hz.kbr, other h.fI (by decide) (Kept.refl w _) hv hz, hz.fam, hz.zer, h.mI, ?_, by have := h.nI; omega, ?_⟩
  · rw [x1, hz.exM]; exact h.mR.more x2 hm x3
  · rw [x1, List.length_append, x2]; have := h.nR; omega
/-- A row of parts, and of rights, out of its cells. -/
theorem rowI {w : World} {v : Value} {n : Nat} {cs : List Value} {xs : List Int} (h : w.ownsRow 0 3 1 v n cs) (hn : n = xs.length) (hc : cs = xs.flatMap cell1) : Kd.R (Kd.int .i64) 3 w 0 (fun k => some k = v.ownBlock) v xs := by
  have e : xs.flatMap cell1 = encs (Value.int .i64) xs := by
    unfold encs
    clear h hn hc
    induction xs with
    | nil => rfl
    | cons x xs ih => rw [List.flatMap_cons, ih]; rfl
  subst hn
  rw [hc, e] at h
  exact Kd.R_of_own h (fun k hk => hk.symm)
theorem reps_of_flat {α : Type} {R : α → List Value → Prop} {sz : Nat} {f : α → List Value} (hf : ∀ p, R p (f p)) (hl : ∀ p, (f p).length = sz) : ∀ ps : List α, Reps R sz ps (ps.flatMap f) := by
  intro ps
  have hlen : ∀ ps : List α, (ps.flatMap f).length = ps.length * sz := by
    intro ps
    induction ps with
    | nil => simp
    | cons p ps ih => rw [List.flatMap_cons, List.length_append, hl, ih, List.length_cons, Nat.add_mul]; omega
  refine ⟨hlen ps, ?_⟩
  induction ps with
  | nil => intro j p h; simp at h
  | cons p ps ih =>
    intro j q hq
    rw [List.flatMap_cons]
    cases j with
    | zero =>
      obtain rfl : p = q := by simpa using hq
      rw [Nat.zero_mul, List.drop_zero, ← hl p, List.take_left]; exact hf p
    | succ j =>
      rw [show (j + 1) * sz = (f p).length + j * sz from by rw [hl, Nat.add_mul]; omega, ← List.drop_drop, List.drop_left]
      exact ih j q (by simpa using hq)
theorem rowR {w : World} {v : Value} {n : Nat} {cs : List Value} {xs : List S50} (h : w.ownsRow 0 50 2 v n cs) (hn : n = xs.length) (hc : cs = xs.flatMap cell2) : Kd.R k50 50 w 0 (fun k => some k = v.ownBlock) v xs := by
  subst hn; subst hc
  exact ⟨fun k hk => hk.symm, _, h, reps_of_flat (fun p => k50_mkM _ _ _ p) (fun _ => rfl) xs⟩
theorem apart_at {E : List Ent} (h : Apart E) {i j : Nat} (hi : i < E.length) (hj : j < E.length) (hne : i ≠ j) {k : Nat} (h1 : E[i].v.ownBlock = some k) : some k ≠ E[j].v.ownBlock := by
  intro e
  unfold Apart at h
  rw [List.pairwise_iff_getElem] at h
  rcases Nat.lt_or_ge i j with h2 | h2
  · have := h i j hi hj h2 (h1.trans e); rw [h1] at this; cases this
  · have := h j i hj hi (by omega) (e.symm.trans h1.symm); rw [this] at e; cases e
def labT (kb : Nat) : Nat → Nat := fun k => if k = kb then 7 else 0
theorem keep_newT (w : World) : KN w.heap.size (labT w.heap.size) 0 (w.alloc (.cells #[.bool false, .slice none 0 0, .slice none 0 0, .slice none 0 0, .slice none 0 0, .slice none 0 0, .slice none 0 0] 38)) := by
  have hn : ∀ k, (Value.slice none 0 0).ownBlock = some k → False := fun k h => by simp [Value.ownBlock] at h
  refine ⟨.slice none 0 0, .slice none 0 0, .slice none 0 0, .slice none 0 0, [], [], [], [], heap_alloc_new w _, if_pos rfl, ⟨World.ownsRow_nil _ _ _ _, fun k h => (hn k h).elim, World.ownsRow_nil _ _ _ _, fun k h => (hn k h).elim, fun x h => by simp at h⟩, ⟨World.ownsRow_nil _ _ _ _, fun k h => (hn k h).elim, World.ownsRow_nil _ _ _ _, fun k h => (hn k h).elim, fun x h => by simp at h⟩, fun k h => ?_, Marked.nil _, Marked.nil _, by simp, by simp⟩
  by_cases e : k = w.heap.size
  · simp; omega
  · exact absurd (if_neg e) h
/-- While the rows are filled one by one: the first i are full of their marks. -/
structure FS (T sz : Nat) (pat : Int → List Value) (r : Nat) (ρ : Nat → Nat) (w : World) (E : List Ent) (i : Nat) (wr : World) : Prop where
  kept : Kept w wr (fun k => ρ k = r)
  b0 : Below 0 w wr
  done_ : ∀ j (hj : j < E.length), j < i → wr.ownsRow 0 T sz E[j].v E[j].n (List.replicate E[j].n (pat (j : Int))).flatten
  left : ∀ j (hj : j < E.length), i ≤ j → wr.ownsRow 0 T sz E[j].v E[j].n E[j].cs
theorem FS.start {T sz : Nat} {pat : Int → List Value} {r : Nat} {ρ : Nat → Nat} {w : World} {E : List Ent} (h : ∀ x ∈ E, RowR ρ w T sz x.v x.n x.cs r) : FS T sz pat r ρ w E 0 w :=
  ⟨Kept.refl _ _, Below.refl _ _, fun j hj h0 => absurd h0 (by omega), fun j hj _ => (h _ (List.getElem_mem hj)).own⟩
theorem FS.below {T sz : Nat} {pat : Int → List Value} {r : Nat} {ρ : Nat → Nat} {w wr wx : World} {E : List Ent} {i : Nat} (h : FS T sz pat r ρ w E i wr) (hb : Below wr.heap.size wr wx) : FS T sz pat r ρ w E i wx :=
  ⟨h.kept.below hb, h.b0.trans (hb.mono (Nat.zero_le _)), fun j hj h0 => Ks.own_move (h.done_ j hj h0) (fun k hk => hb.block k (Ks.own_lt (h.done_ j hj h0) k hk)), fun j hj h0 => Ks.own_move (h.left j hj h0) (fun k hk => hb.block k (Ks.own_lt (h.left j hj h0) k hk))⟩
theorem FS.next {T sz : Nat} {pat : Int → List Value} {r : Nat} {ρ : Nat → Nat} {w wr wx : World} {E : List Ent} {i : Nat} (h : FS T sz pat r ρ w E i wr) (hi : i < E.length) (ha : Apart E) (hr : ∀ x ∈ E, ∀ k, x.v.ownBlock = some k → ρ k = r) (hk : Kept wr wx (fun k => some k = E[i].v.ownBlock)) (hb : Below 0 wr wx) (ho : wx.ownsRow 0 T sz E[i].v E[i].n (List.replicate E[i].n (pat (i : Int))).flatten) : FS T sz pat r ρ w E (i + 1) wx := by
  refine ⟨h.kept.then_ hk (fun k hk2 => .inl (hr _ (List.getElem_mem hi) k hk2.symm)), h.b0.trans hb, fun j hj h0 => ?_, fun j hj h0 => ?_⟩
  · by_cases e : j = i
    · subst e; exact ho
    · have h1 := h.done_ j hj (by omega)
      exact Ks.own_move h1 (fun k hk2 => hk.2 k (Ks.own_lt h1 k hk2) (apart_at ha hj hi e hk2))
  · have h1 := h.left j hj (by omega)
    exact Ks.own_move h1 (fun k hk2 => hk.2 k (Ks.own_lt h1 k hk2) (apart_at ha hj hi (by omega) hk2))
/-- While they are held one by one by a keep t. -/
structure CS (T sz : Nat) (pat : Int → List Value) (P : Nat → Prop) (N : Nat) (w : World) (E : List Ent) (tb c i : Nat) (ρt : Nat → Nat) (wr : World) : Prop where
  kn : KN tb ρt (c + i) wr
  b0 : Below 0 w wr
  same : ∀ k, k < N → ¬ P k → ρt k = 0 ∧ wr.heap[k]? = w.heap[k]?
  left : ∀ j (hj : j < E.length), i ≤ j → wr.ownsRow 0 T sz E[j].v E[j].n (List.replicate E[j].n (pat (j : Int))).flatten ∧ ∀ k, E[j].v.ownBlock = some k → ρt k = 0
theorem CS.below {T sz N tb c i : Nat} {pat : Int → List Value} {P : Nat → Prop} {w wr wx : World} {E : List Ent} {ρt : Nat → Nat} (h : CS T sz pat P N w E tb c i ρt wr) (hN : N ≤ w.heap.size) (hb : Below wr.heap.size wr wx) : CS T sz pat P N w E tb c i ρt wx :=
  ⟨h.kn.move (fun k hk _ => hb.block k hk) hb.size, h.b0.trans (hb.mono (Nat.zero_le _)), fun k hk hp => ⟨(h.same k hk hp).1, (hb.block k (Nat.lt_of_lt_of_le hk (Nat.le_trans hN h.b0.size))).trans (h.same k hk hp).2⟩,
    fun j hj h0 => ⟨Ks.own_move (h.left j hj h0).1 (fun k hk => hb.block k (Ks.own_lt (h.left j hj h0).1 k hk)), (h.left j hj h0).2⟩⟩
theorem CS.next {T sz N tb c i : Nat} {pat : Int → List Value} {P : Nat → Prop} {w wr wx : World} {E : List Ent} {ρt ρx : Nat → Nat} (h : CS T sz pat P N w E tb c i ρt wr) (hN : N ≤ w.heap.size) (hi : i < E.length) (ha : Apart E) (hP : ∀ x ∈ E, ∀ k, x.v.ownBlock = some k → P k) (hk : KN tb ρx (c + i + 1) wx) (haf : After ρt ρx E[i].v wr wx) : CS T sz pat P N w E tb c (i + 1) ρx wx := by
  refine ⟨hk, h.b0.trans haf.b0, fun k hk2 hp => ?_, fun j hj h0 => ?_⟩
  · have hne : some k ≠ E[i].v.ownBlock := fun e => hp (hP _ (List.getElem_mem hi) k e.symm)
    have hlt : k < wr.heap.size := Nat.lt_of_lt_of_le hk2 (Nat.le_trans hN h.b0.size)
    have h1 := h.same k hk2 hp
    exact ⟨haf.zero h1.1 hlt hne, (haf.same k hlt h1.1 hne).trans h1.2⟩
  · have h1 := h.left j hj (by omega)
    refine ⟨Ks.own_move h1.1 (fun k hk2 => haf.same k (Ks.own_lt h1.1 k hk2) (h1.2 k hk2) (apart_at ha hj hi (by omega) hk2)), fun k hk2 => haf.zero (h1.2 k hk2) (Ks.own_lt h1.1 k hk2) (apart_at ha hj hi (by omega) hk2)⟩

set_option maxHeartbeats 16000000 in
set_option maxRecDepth 100000 in
theorem lately_calls {kb : Nat} {ρ : Nat → Nat} {n : Nat} {w : World} (hK : KL kb ρ n w) (hn : n ≤ 2000000) :
    Calls Try.prog 41 #[.pointer (some ⟨kb, 0, none⟩)] w fun e w' => e = .returned (.bool true) ∧ Below 0 w w' ∧ ∀ k, k < w.heap.size → ρ k = 0 → w'.heap[k]? = w.heap[k]? := by
  obtain ⟨vI, vW, vR, vX, E, EW, ER, EX, XI, YI, h⟩ := hK
  obtain ⟨A1, c1, rfl⟩ := own_slice h.i.own
  obtain ⟨A2, c2, rfl⟩ := own_slice h.iw.own
  obtain ⟨A4, c4, rfl⟩ := own_slice h.r.own
  obtain ⟨A5, c5, rfl⟩ := own_slice h.rw_.own
  have hl1 : E.length = XI.length := conts_len h.cE
  have hl2 : EW.length = E.length := (conts_len h.cW).trans hl1.symm
  have hl3 : ER.length = YI.length := conts_len h.dE
  have hl4 : EX.length = ER.length := (conts_len h.dW).trans hl3.symm
  have HL := Aside0.mk (And.intro (And.intro hl1 hl2) (And.intro hl3 hl4))
  have H := Aside0.mk h
  have hb1 : (E.length : Int) ≤ 2000000 := by have := h.nE; omega
  have hb4 : (ER.length : Int) ≤ 2000000 := by have := h.nR; omega
  have HZ0 := Aside0.mk h.zer
  have HNB : Aside0 (E.length ≤ 2000000 ∧ ER.length ≤ 2000000) := ⟨by have := h.nE; have := h.nR; omega⟩
  have HQ : Aside0 (w.cell? ⟨kb, 1, none⟩ = some (.slice A1 E.length c1) ∧ w.cell? ⟨kb, 2, none⟩ = some (.slice A2 EW.length c2) ∧ w.cell? ⟨kb, 4, none⟩ = some (.slice A4 ER.length c4) ∧ w.cell? ⟨kb, 5, none⟩ = some (.slice A5 EX.length c5)) := ⟨by
    refine ⟨?_, ?_, ?_, ?_⟩ <;> (rw [cell_of_row w kb _ _ _ (0, 0) h.blk]; rfl)⟩
  clear h hl1 hl2 hl3 hl4 hn
  go_enter Try.func41, Try.ntmps41
  go_wp2_with fail
  go_loopw [3] (fun v3 wr => ∃ i : Nat, v3 = .int .i64 (i : Int) ∧ i ≤ E.length ∧ Aside0 (Below w.heap.size w wr)) (fun v3 _ => E.length - (intOf v3).toNat)
  case atStart => exact ⟨0, rfl, Nat.zero_le _, ⟨Below.refl _ _⟩⟩
  case round =>
    obtain ⟨i, rfl, hi, HB⟩ := hrel
    have HI := Aside0.mk hi
    have q1 := pw_cell_below HB.out HQ.out.1
    have q2 := pw_cell_below HB.out HQ.out.2.1
    by_cases hlt : i < E.length
    · have hi0 : (0 : Int) ≤ (i : Int) := by omega
      have hi1 : (i : Int) < (E.length : Int) := by omega
      have hi2 : (i : Int) < (EW.length : Int) := by have := HL.out; omega
      have hltw : i < EW.length := by have := HL.out; omega
      have hltx : i < XI.length := by have := HL.out; omega
      have HLT := Aside0.mk hlt
      obtain ⟨gI, cI, f1, fc⟩ := row_cell H.out.i.own (Nat.lt_of_le_of_lt (Nat.zero_le _) hlt)
      injection f1 with f2 f3 f4
      obtain ⟨gW, cW, g1, gc⟩ := row_cell H.out.iw.own (Nat.lt_of_le_of_lt (Nat.zero_le _) hltw)
      injection g1 with g2 g3 g4
      subst f2 g2
      obtain ⟨x1, x2⟩ := conts_at H.out.cE i hlt hltx
      obtain ⟨y1, y2⟩ := conts_at H.out.cW i hltw hltx
      have hex := rowI (H.out.e _ (List.getElem_mem hlt)).own x1 x2
      have hew := rowI (H.out.ew _ (List.getElem_mem hltw)).own y1 y2
      have hce := fc i _ (map_at (·.v) E i hlt)
      have hcw := gc i _ (map_at (·.v) EW i hltw)
      obtain ⟨xs, hxs⟩ : ∃ xs, XI[i] = xs := ⟨_, rfl⟩
      rw [hxs] at hex hew
      have hln : xs.length ≤ 16 := by rw [← hxs]; exact H.out.lE _ (List.getElem_mem hltx)
      obtain ⟨Ae, ce, ee, he1, he2⟩ := Kd.R_reads hex
      obtain ⟨Aw, cw, ew, hw1, hw2⟩ := Kd.R_reads hew
      rw [ee] at hce
      rw [ew] at hcw
      obtain ⟨ks, hks⟩ := Ev.rounds (by have h := same_ev xs xs (by omega); rwa [decide_eq_true rfl] at h)
      have HS := Aside0.mk hks
      have HC1 : Aside0 (Kd.C (Kd.int .i64) wr.drew Ae xs.length xs) := ⟨Kd.C_drew (Kd.C_below he2 HB.out)⟩
      have HC2 : Aside0 (Kd.C (Kd.int .i64) wr.drew Aw xs.length xs) := ⟨Kd.C_drew (Kd.C_below hw2 HB.out)⟩
      have HE1 := Aside0.mk he1
      have HW1 := Aside0.mk hw1
      have q3 := pw_cell_below HB.out hce
      have q4 := pw_cell_below HB.out hcw
      clear f3 f4 g3 g4 fc gc x1 x2 y1 y2 hex hew hce hcw hxs hln ee ew he1 he2 hw1 hw2 hks hltx hi
      go_wp2_with fail
      go_region_held3 (fun w' => w'.cell? ⟨kb, 1, none⟩ = some (.slice (some ⟨gI, 0, none⟩) E.length c1) ∧ w'.cell? ⟨kb, 2, none⟩ = some (.slice (some ⟨gW, 0, none⟩) EW.length c2) ∧ w'.cell? ⟨gI, i, none⟩ = some (.slice Ae xs.length ce) ∧ w'.cell? ⟨gW, i, none⟩ = some (.slice Aw xs.length cw))
        ((go_split_ands; first
          | (refine ⟨pw_cell_below hbs ?_, pw_cell_below hbs ?_, pw_cell_below hbs ?_, pw_cell_below hbs ?_⟩ <;> assumption)
          | (refine ⟨?_, ?_, ?_, ?_⟩ <;> simp [*])))
        (first
          | (go_at_call 18; refine (sluicelaw8_same.calls ks Ae ce xs Aw cw xs true _ HC1.out HE1.out HC2.out HW1.out HS.out).mono ?_; rintro e ws ⟨rfl, hds⟩; have hbs := hds.below))
      have HB2 : Aside0 (Below w.heap.size w ws) := ⟨HB.out.trans ((Below.refl _ _).drew.trans (hbs.mono HB.out.size))⟩
      clear q1 q2 q3 q4 hbs hds
      go_wp2_with fail
      go_roundw
      case rel => exact ⟨i + 1, by go_num, by have := HLT.out; omega, HB2⟩
      case measure => simp only [intOf]; have := HLT.out; first | omega | (go_num; omega) | (simp; omega)
    · obtain rfl : i = E.length := by omega
      go_wp2_with fail
      go_loopw [4] (fun v3 wr => ∃ i : Nat, v3 = .int .i64 (i : Int) ∧ i ≤ ER.length ∧ Aside0 (Below w.heap.size w wr)) (fun v3 _ => ER.length - (intOf v3).toNat)
      case atStart => exact ⟨0, rfl, Nat.zero_le _, HB⟩
      case round =>
        obtain ⟨i, rfl, hi, HB⟩ := hrel
        have HI := Aside0.mk hi
        have q1 := pw_cell_below HB.out HQ.out.2.2.1
        have q2 := pw_cell_below HB.out HQ.out.2.2.2
        by_cases hlt : i < ER.length
        · have hi0 : (0 : Int) ≤ (i : Int) := by omega
          have hi1 : (i : Int) < (ER.length : Int) := by omega
          have hi2 : (i : Int) < (EX.length : Int) := by have := HL.out; omega
          have hltw : i < EX.length := by have := HL.out; omega
          have hltx : i < YI.length := by have := HL.out; omega
          have HLT := Aside0.mk hlt
          obtain ⟨gI, cI, f1, fc⟩ := row_cell H.out.r.own (Nat.lt_of_le_of_lt (Nat.zero_le _) hlt)
          injection f1 with f2 f3 f4
          obtain ⟨gW, cW, g1, gc⟩ := row_cell H.out.rw_.own (Nat.lt_of_le_of_lt (Nat.zero_le _) hltw)
          injection g1 with g2 g3 g4
          subst f2 g2
          obtain ⟨x1, x2⟩ := conts_at H.out.dE i hlt hltx
          obtain ⟨y1, y2⟩ := conts_at H.out.dW i hltw hltx
          have hex := rowR (H.out.f _ (List.getElem_mem hlt)).own x1 x2
          have hew := rowR (H.out.fw _ (List.getElem_mem hltw)).own y1 y2
          have hce := fc i _ (map_at (·.v) ER i hlt)
          have hcw := gc i _ (map_at (·.v) EX i hltw)
          obtain ⟨xs, hxs⟩ : ∃ xs, YI[i] = xs := ⟨_, rfl⟩
          rw [hxs] at hex hew
          have hln : xs.length ≤ 16 := by rw [← hxs]; exact H.out.lR _ (List.getElem_mem hltx)
          obtain ⟨Ae, ce, ee, he1, he2⟩ := Kd.R_reads hex
          obtain ⟨Aw, cw, ew, hw1, hw2⟩ := Kd.R_reads hew
          rw [ee] at hce
          rw [ew] at hcw
          obtain ⟨ks, hks⟩ := Ev.rounds (sameR_ev xs (by omega))
          have HS := Aside0.mk hks
          have HC1 : Aside0 (Kd.C k50 wr.drew Ae xs.length xs) := ⟨Kd.C_drew (Kd.C_below he2 HB.out)⟩
          have HC2 : Aside0 (Kd.C k50 wr.drew Aw xs.length xs) := ⟨Kd.C_drew (Kd.C_below hw2 HB.out)⟩
          have HE1 := Aside0.mk he1
          have HW1 := Aside0.mk hw1
          have q3 := pw_cell_below HB.out hce
          have q4 := pw_cell_below HB.out hcw
          clear f3 f4 g3 g4 fc gc x1 x2 y1 y2 hex hew hce hcw hxs hln ee ew he1 he2 hw1 hw2 hks hltx hi
          go_wp2_with fail
          go_region_held3 (fun w' => w'.cell? ⟨kb, 4, none⟩ = some (.slice (some ⟨gI, 0, none⟩) ER.length c4) ∧ w'.cell? ⟨kb, 5, none⟩ = some (.slice (some ⟨gW, 0, none⟩) EX.length c5) ∧ w'.cell? ⟨gI, i, none⟩ = some (.slice Ae xs.length ce) ∧ w'.cell? ⟨gW, i, none⟩ = some (.slice Aw xs.length cw))
            ((go_split_ands; first
              | (refine ⟨pw_cell_below hbs ?_, pw_cell_below hbs ?_, pw_cell_below hbs ?_, pw_cell_below hbs ?_⟩ <;> assumption)
              | (refine ⟨?_, ?_, ?_, ?_⟩ <;> simp [*])))
            (first
              | (go_at_call 28; refine (sluicelaw8_sameRights.calls ks Ae ce xs Aw cw xs true _ HC1.out HE1.out HC2.out HW1.out HS.out).mono ?_; rintro e ws ⟨rfl, hds⟩; have hbs := hds.below))
          have HB2 : Aside0 (Below w.heap.size w ws) := ⟨HB.out.trans ((Below.refl _ _).drew.trans (hbs.mono HB.out.size))⟩
          clear q1 q2 q3 q4 hbs hds
          go_wp2_with fail
          go_roundw
          case rel => exact ⟨i + 1, by go_num, by have := HLT.out; omega, HB2⟩
          case measure => simp only [intOf]; have := HLT.out; first | omega | (go_num; omega) | (simp; omega)
        · obtain rfl : i = ER.length := by omega
          go_wp2_with fail
          have HT0 := Aside0.mk (keep_newT wr)
          have HB1 : Aside0 (Below w.heap.size w (wr.alloc (.cells #[.bool false, .slice none 0 0, .slice none 0 0, .slice none 0 0, .slice none 0 0, .slice none 0 0, .slice none 0 0] 38))) := ⟨HB.out.alloc HB.out.size _⟩
          have HTB : Aside0 (w.heap.size ≤ wr.heap.size ∧ wr.heap.size < (wr.alloc (.cells #[.bool false, .slice none 0 0, .slice none 0 0, .slice none 0 0, .slice none 0 0, .slice none 0 0, .slice none 0 0] 38)).heap.size) := ⟨HB.out.size, by simp⟩
          clear q1 q2 hi HB HI hlt
          generalize wr.alloc (.cells #[.bool false, .slice none 0 0, .slice none 0 0, .slice none 0 0, .slice none 0 0, .slice none 0 0, .slice none 0 0] 38) = w1 at HT0 HB1 HTB ⊢
          generalize wr.heap.size = tb at HT0 HTB ⊢
          have HK1 : Aside0 (KLx kb ρ n w1 (.slice A1 E.length c1) (.slice A2 EW.length c2) (.slice A4 ER.length c4) (.slice A5 EX.length c5) E EW ER EX XI XI YI YI) := ⟨H.out.move (fun k hk _ => HB1.out.block k hk) HB1.out.size⟩
          have HQ1 : Aside0 (w1.cell? ⟨kb, 1, none⟩ = some (.slice A1 E.length c1) ∧ w1.cell? ⟨kb, 4, none⟩ = some (.slice A4 ER.length c4)) := ⟨⟨pw_cell_below HB1.out HQ.out.1, pw_cell_below HB1.out HQ.out.2.2.1⟩⟩
          have HF0 : Aside0 (FS 3 1 patI 3 ρ w1 E 0 w1) := ⟨FS.start HK1.out.e⟩
          clear H HQ
          go_loopw [6] (fun v3 wr => ∃ i : Nat, v3 = .int .i64 (i : Int) ∧ i ≤ E.length ∧ Aside0 (FS 3 1 patI 3 ρ w1 E i wr)) (fun v3 _ => E.length - (intOf v3).toNat)
          case atStart => exact ⟨0, rfl, Nat.zero_le _, HF0⟩
          case round =>
            obtain ⟨i, rfl, hi, HF⟩ := hrel
            have HKW : Aside0 (Kept w1 wr (fun k => ρ k = 3 ∨ ρ k = 6)) := ⟨HF.out.kept.mono (fun k hk => .inl hk)⟩
            have HKB : Aside0 (ρ kb = 7) := ⟨HK1.out.lbl⟩
            have q1 := cell_kept HQ1.out.1 HKW.out (by simp only; have := HKB.out; omega)
            by_cases hlt : i < E.length
            · have hi0 : (0 : Int) ≤ (i : Int) := by omega
              have hi1 : (i : Int) < (E.length : Int) := by omega
              have hltx : i < XI.length := by have := HL.out; omega
              have HLT := Aside0.mk hlt
              have hrow := RowR.move HK1.out.i (w1 := wr) (ρ' := ρ) (fun k hk e => ⟨HKW.out.2 k hk (by simp only; omega), rfl⟩)
              obtain ⟨gI, cI, f1, fc⟩ := row_cell hrow.own (Nat.lt_of_le_of_lt (Nat.zero_le _) hlt)
              injection f1 with f2 f3 f4
              subst f2
              have q3 := fc i _ (map_at (·.v) E i hlt)
              obtain ⟨x1, x2⟩ := conts_at HK1.out.cE i hlt hltx
              have hex := rowI (HF.out.left i hlt (Nat.le_refl _)) x1 x2
              have HXL : Aside0 (XI[i].length = E[i].n ∧ XI[i].length ≤ 16) := ⟨⟨x1.symm, HK1.out.lE _ (List.getElem_mem hltx)⟩⟩
              have HM : Aside0 (0 ≤ (i : Int) ∧ (i : Int) ≤ 1099511627776) := ⟨by have := HNB.out; omega⟩
              obtain ⟨kf, hkf⟩ := Ev.rounds (fill_ev XI[i] (i : Int) HM.out (by have := HXL.out; omega))
              have HFI := Aside0.mk hkf
              obtain ⟨Ae, ce, ee, _, _⟩ := Kd.R_reads hex
              have HEE := Aside0.mk ee
              rw [ee] at q3
              rw [ee] at hex
              have HEX : Aside0 (Kd.R (Kd.int .i64) 3 wr (bare wr).heap.size (fun k => some k = (Value.slice Ae XI[i].length ce).ownBlock) (.slice Ae XI[i].length ce) XI[i]) := ⟨hex⟩
              clear hrow f3 f4 fc x1 x2 hex ee hkf hi
              go_wp2_with fail
              refine (sluicelaw8_fill.calls kf (fun k => some k = (Value.slice Ae XI[i].length ce).ownBlock) _ XI[i] (i : Int) _ (bare wr) wr (bare_below wr) HEX.out HFI.out).mono ?_
              rintro e wf ⟨rfl, hRf, hbf, hkf⟩
              have HFN : Aside0 (FS 3 1 patI 3 ρ w1 E (i + 1) wf) := ⟨HF.out.next HLT.out HK1.out.aE (fun x hx => (HK1.out.e x hx).lab) (by rw [HEE.out]; exact hkf) ⟨hbf.os, hbf.tape, hbf.output, hkf.1, fun k hk => absurd hk (by omega)⟩ (by rw [HEE.out, ← HXL.out.1]; exact own_ints hRf)⟩
              clear hRf hbf hkf q1 q3
              go_wp2_with fail
              go_roundw
              case rel => exact ⟨i + 1, by go_num, by have := HLT.out; omega, HFN⟩
              case measure => simp only [intOf]; have := HLT.out; first | omega | (go_num; omega) | (simp; omega)
            · obtain rfl : i = E.length := by omega
              go_wp2_with fail
              have HF1 := HF
              have HF2 : Aside0 (FS 50 2 patR 6 ρ wr ER 0 wr) := ⟨FS.start (fun x hx => (HK1.out.f x hx).move (fun k hk e => ⟨HF1.out.kept.2 k hk (by simp only; omega), rfl⟩))⟩
              clear q1 hi hlt HF HKW HKB
              generalize wr = w2 at HF1 HF2 ⊢
              go_loopw [7] (fun v3 wr => ∃ i : Nat, v3 = .int .i64 (i : Int) ∧ i ≤ ER.length ∧ Aside0 (FS 50 2 patR 6 ρ w2 ER i wr)) (fun v3 _ => ER.length - (intOf v3).toNat)
              case atStart => exact ⟨0, rfl, Nat.zero_le _, HF2⟩
              case round =>
                obtain ⟨i, rfl, hi, HF⟩ := hrel
                have HKW : Aside0 (Kept w1 wr (fun k => ρ k = 3 ∨ ρ k = 6)) := ⟨(HF1.out.kept.mono (fun k hk => .inl hk)).then_ HF.out.kept (fun k hk => .inl (.inr hk))⟩
                have HKB : Aside0 (ρ kb = 7) := ⟨HK1.out.lbl⟩
                have q1 := cell_kept HQ1.out.2 HKW.out (by simp only; have := HKB.out; omega)
                by_cases hlt : i < ER.length
                · have hi0 : (0 : Int) ≤ (i : Int) := by omega
                  have hi1 : (i : Int) < (ER.length : Int) := by omega
                  have hltx : i < YI.length := by have := HL.out; omega
                  have HLT := Aside0.mk hlt
                  have hrow := RowR.move HK1.out.r (w1 := wr) (ρ' := ρ) (fun k hk e => ⟨HKW.out.2 k hk (by simp only; omega), rfl⟩)
                  obtain ⟨gI, cI, f1, fc⟩ := row_cell hrow.own (Nat.lt_of_le_of_lt (Nat.zero_le _) hlt)
                  injection f1 with f2 f3 f4
                  subst f2
                  have q3 := fc i _ (map_at (·.v) ER i hlt)
                  obtain ⟨x1, x2⟩ := conts_at HK1.out.dE i hlt hltx
                  have hex := rowR (HF.out.left i hlt (Nat.le_refl _)) x1 x2
                  have HXL : Aside0 (YI[i].length = ER[i].n ∧ YI[i].length ≤ 16) := ⟨⟨x1.symm, HK1.out.lR _ (List.getElem_mem hltx)⟩⟩
                  have HM : Aside0 (0 ≤ (i : Int) ∧ (i : Int) ≤ 1099511627776) := ⟨by have := HNB.out; omega⟩
                  obtain ⟨kf, hkf⟩ := Ev.rounds (fillR_ev YI[i] (i : Int) HM.out (by have := HXL.out; omega))
                  have HFI := Aside0.mk hkf
                  obtain ⟨Ae, ce, ee, _, _⟩ := Kd.R_reads hex
                  have HEE := Aside0.mk ee
                  rw [ee] at q3
                  rw [ee] at hex
                  have HEX : Aside0 (Kd.R k50 50 wr (bare wr).heap.size (fun k => some k = (Value.slice Ae YI[i].length ce).ownBlock) (.slice Ae YI[i].length ce) YI[i]) := ⟨hex⟩
                  clear hrow f3 f4 fc x1 x2 hex ee hkf hi
                  go_wp2_with fail
                  refine (sluicelaw8_fillRights.calls kf (fun k => some k = (Value.slice Ae YI[i].length ce).ownBlock) _ YI[i] (i : Int) _ (bare wr) wr (bare_below wr) HEX.out HFI.out).mono ?_
                  rintro e wf ⟨rfl, hRf, hbf, hkf⟩
                  have HFN : Aside0 (FS 50 2 patR 6 ρ w2 ER (i + 1) wf) := ⟨HF.out.next HLT.out HK1.out.aR (fun x hx => (HK1.out.f x hx).lab) (by rw [HEE.out]; exact hkf) ⟨hbf.os, hbf.tape, hbf.output, hkf.1, fun k hk => absurd hk (by omega)⟩ (by rw [HEE.out, ← HXL.out.1]; exact own_rights hRf)⟩
                  clear hRf hbf hkf q1 q3
                  go_wp2_with fail
                  go_roundw
                  case rel => exact ⟨i + 1, by go_num, by have := HLT.out; omega, HFN⟩
                  case measure => simp only [intOf]; have := HLT.out; first | omega | (go_num; omega) | (simp; omega)
                · obtain rfl : i = ER.length := by omega
                  go_wp2_with fail
                  have HFR := HF
                  have HKW3 := HKW
                  have HK3 : Aside0 (∀ k, k < w1.heap.size → ¬ (ρ k = 3 ∨ ρ k = 6) → wr.heap[k]? = w1.heap[k]?) := ⟨HKW.out.2⟩
                  have HSZ : Aside0 (w.heap.size ≤ w1.heap.size ∧ w1.heap.size ≤ wr.heap.size) := ⟨HB1.out.size, HKW.out.1⟩
                  have HLB : Aside0 (∀ k, ρ k ≠ 0 → k < w.heap.size) := ⟨HZ0.out⟩
                  have HT3 : Aside0 (KN tb (labT tb) 0 wr) := ⟨HT0.out.move (fun k hk h0 => by
                    have e : k = tb := Classical.byContradiction fun e => h0 (if_neg e)
                    refine HK3.out k hk (fun h => ?_)
                    have := HLB.out k (by omega); have := HTB.out.1; omega) HKW.out.1⟩
                  have HB03 : Aside0 (Below 0 w wr) := ⟨(HB1.out.mono (Nat.zero_le _)).trans (HF1.out.b0.trans HF.out.b0)⟩
                  have HQ3 : Aside0 (wr.cell? ⟨kb, 1, none⟩ = some (.slice A1 E.length c1) ∧ wr.cell? ⟨kb, 4, none⟩ = some (.slice A4 ER.length c4)) := ⟨⟨cell_kept HQ1.out.1 HKW.out (by simp only; have := HKB.out; omega), cell_kept HQ1.out.2 HKW.out (by simp only; have := HKB.out; omega)⟩⟩
                  have HRI : Aside0 (RowR ρ wr 22 1 (.slice A1 E.length c1) E.length (E.map (·.v)) 1 ∧ RowR ρ wr 46 1 (.slice A4 ER.length c4) ER.length (ER.map (·.v)) 4) := ⟨⟨RowR.move HK1.out.i (fun k hk e => ⟨HKW.out.2 k hk (by simp only; omega), rfl⟩), RowR.move HK1.out.r (fun k hk e => ⟨HKW.out.2 k hk (by simp only; omega), rfl⟩)⟩⟩
                  have HDE : Aside0 (∀ j (hj : j < E.length), wr.ownsRow 0 3 1 E[j].v E[j].n (List.replicate E[j].n (patI (j : Int))).flatten) := ⟨fun j hj => Ks.own_move (HF1.out.done_ j hj hj) (fun k hk => HF.out.kept.2 k (Ks.own_lt (HF1.out.done_ j hj hj) k hk) (by have := (HK1.out.e _ (List.getElem_mem hj)).lab k hk; simp only; omega))⟩
                  have HDR : Aside0 (∀ j (hj : j < ER.length), wr.ownsRow 0 50 2 ER[j].v ER[j].n (List.replicate ER[j].n (patR (j : Int))).flatten) := ⟨fun j hj => HF.out.done_ j hj hj⟩
                  have HNT : Aside0 (∀ k, ρ k ≠ 0 → labT tb k = 0) := ⟨fun k hk => if_neg (by have := HLB.out k hk; have := HTB.out.1; omega)⟩
                  have HC0 : Aside0 (CS 3 1 patI (fun k => ρ k = 3) w.heap.size wr E tb 0 0 (labT tb) wr) := ⟨HT3.out, Below.refl _ _, fun k hk _ => ⟨if_neg (by have := HTB.out.1; omega), rfl⟩, fun j hj _ => ⟨HDE.out j hj, fun k hk => HNT.out k (by have := (HK1.out.e _ (List.getElem_mem hj)).lab k hk; omega)⟩⟩
                  clear q1 hi hlt HF HKW HKB HF2 HF0 HDE
                  generalize wr = w3 at HFR HKW3 HK3 HSZ HT3 HB03 HQ3 HRI HDR HC0 ⊢
                  go_loopw [8] (fun v3 wr => ∃ (i : Nat) (ρt : Nat → Nat), v3 = .int .i64 (i : Int) ∧ i ≤ E.length ∧ Aside0 (CS 3 1 patI (fun k => ρ k = 3) w.heap.size w3 E tb 0 i ρt wr)) (fun v3 _ => E.length - (intOf v3).toNat)
                  case atStart => exact ⟨0, labT tb, rfl, Nat.zero_le _, HC0⟩
                  case round =>
                    obtain ⟨i, ρt, rfl, hi, HF⟩ := hrel
                    have HNS : Aside0 (w.heap.size ≤ w3.heap.size) := ⟨Nat.le_trans HSZ.out.1 HSZ.out.2⟩
                    have HLV : Aside0 (∀ k, ρ k ≠ 0 → ¬ (ρ k = 3) → wr.heap[k]? = w3.heap[k]?) := ⟨fun k h0 hp => (HF.out.same k (HLB.out k h0) hp).2⟩
                    have hq1 : wr.heap[kb]? = w3.heap[kb]? := HLV.out kb (by rw [HK1.out.lbl]; decide) (by rw [HK1.out.lbl]; decide)
                    have q1 := (World.cell?_of_block (w := w3) (w' := wr) (a := ⟨kb, 1, none⟩) hq1).trans HQ3.out.1
                    clear hq1
                    by_cases hlt : i < E.length
                    · have hi0 : (0 : Int) ≤ (i : Int) := by omega
                      have hi1 : (i : Int) < (E.length : Int) := by omega
                      have hltx : i < XI.length := by have := HL.out; omega
                      have HLT := Aside0.mk hlt
                      have hrow := RowR.move HRI.out.1 (w1 := wr) (ρ' := ρ) (fun k hk e => ⟨HLV.out k (by omega) (by omega), rfl⟩)
                      obtain ⟨gI, cI, f1, fc⟩ := row_cell hrow.own (Nat.lt_of_le_of_lt (Nat.zero_le _) hlt)
                      injection f1 with f2 f3 f4
                      subst f2
                      have q3 := fc i _ (map_at (·.v) E i hlt)
                      have HXL : Aside0 (E[i].n ≤ 16) := ⟨by rw [(conts_at HK1.out.cE i hlt hltx).1]; exact HK1.out.lE _ (List.getElem_mem hltx)⟩
                      have HM : Aside0 (0 ≤ (i : Int) ∧ (i : Int) ≤ 1099511627776) := ⟨by have := HNB.out; omega⟩
                      have HCN : Aside0 (0 + i ≤ 4194304) := ⟨by have := HNB.out; omega⟩
                      obtain ⟨Ae, ce, ee⟩ := own_slice (HF.out.left i hlt (Nat.le_refl _)).1
                      have HEE := Aside0.mk ee
                      rw [ee] at q3
                      have HOW : Aside0 (wr.ownsRow 0 3 1 (.slice Ae E[i].n ce) E[i].n (List.replicate E[i].n (patI (i : Int))).flatten ∧ ∀ k, (Value.slice Ae E[i].n ce).ownBlock = some k → ρt k = 0) := ⟨by rw [← ee]; exact HF.out.left i hlt (Nat.le_refl _)⟩
                      clear hrow f3 f4 fc ee hi hltx
                      go_wp2_with fail
                      refine (hold_keepI (m := (i : Int)) HF.out.kn HCN.out HM.out HXL.out HOW.out.1 HOW.out.2).mono ?_
                      rintro e wf ⟨rfl, ρx, hkx, hax⟩
                      have HFN : Aside0 (CS 3 1 patI (fun k => ρ k = 3) w.heap.size w3 E tb 0 (i + 1) ρx wf) := ⟨HF.out.next HNS.out HLT.out HK1.out.aE (fun x hx k hk => by have := (HK1.out.e x hx).lab k hk; omega) hkx (by rw [HEE.out]; exact hax)⟩
                      clear hkx hax q1 q3
                      go_wp2_with fail
                      go_roundw
                      case rel => exact ⟨i + 1, ρx, by go_num, by have := HLT.out; omega, HFN⟩
                      case measure => simp only [intOf]; have := HLT.out; first | omega | (go_num; omega) | (simp; omega)
                    · obtain rfl : i = E.length := by omega
                      go_wp2_with fail
                      have HC1 := HF
                      have HC2 : Aside0 (CS 50 2 patR (fun k => ρ k = 3 ∨ ρ k = 6) w.heap.size w3 ER tb E.length 0 ρt wr) := ⟨by
                        have h := HF.out
                        refine ⟨by have h2 := h.kn; rwa [Nat.zero_add] at h2, h.b0, fun k hk hp => h.same k hk (fun e => hp (.inl e)), fun j hj _ => ?_⟩
                        have hl := (HK1.out.f _ (List.getElem_mem hj)).lab
                        have hs : ∀ k, ER[j].v.ownBlock = some k → ρt k = 0 ∧ wr.heap[k]? = w3.heap[k]? := fun k hk => h.same k (HLB.out k (by have := hl k hk; omega)) (by have := hl k hk; omega)
                        exact ⟨Ks.own_move (HDR.out j hj) (fun k hk => (hs k hk).2), fun k hk => (hs k hk).1⟩⟩
                      clear q1 hi hlt HF HLV
                      go_loopw [9] (fun v3 wr => ∃ (i : Nat) (ρt : Nat → Nat), v3 = .int .i64 (i : Int) ∧ i ≤ ER.length ∧ Aside0 (CS 50 2 patR (fun k => ρ k = 3 ∨ ρ k = 6) w.heap.size w3 ER tb E.length i ρt wr)) (fun v3 _ => ER.length - (intOf v3).toNat)
                      case atStart => exact ⟨0, ρt, rfl, Nat.zero_le _, HC2⟩
                      case round =>
                        obtain ⟨i, ρt, rfl, hi, HF⟩ := hrel
                        have HNS : Aside0 (w.heap.size ≤ w3.heap.size) := ⟨Nat.le_trans HSZ.out.1 HSZ.out.2⟩
                        have HLV : Aside0 (∀ k, ρ k ≠ 0 → ¬ (ρ k = 3 ∨ ρ k = 6) → wr.heap[k]? = w3.heap[k]?) := ⟨fun k h0 hp => (HF.out.same k (HLB.out k h0) hp).2⟩
                        have hq1 : wr.heap[kb]? = w3.heap[kb]? := HLV.out kb (by rw [HK1.out.lbl]; decide) (by rw [HK1.out.lbl]; decide)
                        have q1 := (World.cell?_of_block (w := w3) (w' := wr) (a := ⟨kb, 4, none⟩) hq1).trans HQ3.out.2
                        clear hq1
                        by_cases hlt : i < ER.length
                        · have hi0 : (0 : Int) ≤ (i : Int) := by omega
                          have hi1 : (i : Int) < (ER.length : Int) := by omega
                          have hltx : i < YI.length := by have := HL.out; omega
                          have HLT := Aside0.mk hlt
                          have hrow := RowR.move HRI.out.2 (w1 := wr) (ρ' := ρ) (fun k hk e => ⟨HLV.out k (by omega) (by omega), rfl⟩)
                          obtain ⟨gI, cI, f1, fc⟩ := row_cell hrow.own (Nat.lt_of_le_of_lt (Nat.zero_le _) hlt)
                          injection f1 with f2 f3 f4
                          subst f2
                          have q3 := fc i _ (map_at (·.v) ER i hlt)
                          have HXL : Aside0 (ER[i].n ≤ 16) := ⟨by rw [(conts_at HK1.out.dE i hlt hltx).1]; exact HK1.out.lR _ (List.getElem_mem hltx)⟩
                          have HM : Aside0 (0 ≤ (i : Int) ∧ (i : Int) ≤ 1099511627776) := ⟨by have := HNB.out; omega⟩
                          have HCN : Aside0 (E.length + i ≤ 4194304) := ⟨by have := HNB.out; omega⟩
                          obtain ⟨Ae, ce, ee⟩ := own_slice (HF.out.left i hlt (Nat.le_refl _)).1
                          have HEE := Aside0.mk ee
                          rw [ee] at q3
                          have HOW : Aside0 (wr.ownsRow 0 50 2 (.slice Ae ER[i].n ce) ER[i].n (List.replicate ER[i].n (patR (i : Int))).flatten ∧ ∀ k, (Value.slice Ae ER[i].n ce).ownBlock = some k → ρt k = 0) := ⟨by rw [← ee]; exact HF.out.left i hlt (Nat.le_refl _)⟩
                          clear hrow f3 f4 fc ee hi hltx
                          go_wp2_with fail
                          refine (hold_keepR (m := (i : Int)) HF.out.kn HCN.out HM.out HXL.out HOW.out.1 HOW.out.2).mono ?_
                          rintro e wf ⟨rfl, ρx, hkx, hax⟩
                          have HFN : Aside0 (CS 50 2 patR (fun k => ρ k = 3 ∨ ρ k = 6) w.heap.size w3 ER tb E.length (i + 1) ρx wf) := ⟨HF.out.next HNS.out HLT.out HK1.out.aR (fun x hx k hk => by have := (HK1.out.f x hx).lab k hk; omega) hkx (by rw [HEE.out]; exact hax)⟩
                          clear hkx hax q1 q3
                          go_wp2_with fail
                          go_roundw
                          case rel => exact ⟨i + 1, ρx, by go_num, by have := HLT.out; omega, HFN⟩
                          case measure => simp only [intOf]; have := HLT.out; first | omega | (go_num; omega) | (simp; omega)
                        · obtain rfl : i = ER.length := by omega
                          go_wp2_with fail
                          have HCN2 : Aside0 (E.length + ER.length ≤ 4194304) := ⟨by have := HNB.out; omega⟩
                          clear q1
                          refine (whole_calls HF.out.kn HCN2.out).mono ?_
                          rintro e wz ⟨rfl, hbz⟩
                          have HZZ : Aside0 (Below 0 w wz ∧ ∀ k, k < w.heap.size → ρ k = 0 → wz.heap[k]? = w.heap[k]?) := ⟨by
                            refine ⟨HB03.out.trans (HF.out.b0.trans (hbz.mono (Nat.zero_le _))), fun k hk h0 => ?_⟩
                            have hk1 : k < w1.heap.size := Nat.lt_of_lt_of_le hk HSZ.out.1
                            have hk3 : k < w3.heap.size := Nat.lt_of_lt_of_le hk1 HSZ.out.2
                            have hkr : k < wr.heap.size := Nat.lt_of_lt_of_le hk3 HF.out.b0.size
                            exact (hbz.block k hkr).trans (((HF.out.same k hk (by omega)).2).trans ((HK3.out k hk1 (by omega)).trans (HB1.out.block k hk)))⟩
                          clear hbz
                          go_wp2_with fail
                          go_ret
                          exact ⟨rfl, HZZ.out⟩
end Go.Proofs.Ytnkkkbmkbmjghaa.Lt
