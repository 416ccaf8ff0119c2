/- texts that the proof needs, laid together by a program of this session. -/
import Derived.Test.YtpgdmmjbhjbbhaaKWireEncodes14
section
namespace Go.Proofs.Ytpgdmmjbhjbbhaa.Rf
open Go Go.RowKit Go.Proofs.Ytpgdmmjbhjbbhaa.P Go.Proofs.Ytpgdmmjbhjbbhaa.Sp Go.Proofs.Ytpgdmmjbhjbbhaa.Vd Go.Proofs.Ytpgdmmjbhjbbhaa.En Go.Proofs.Ytpgdmmjbhjbbhaa.Wr Go.Proofs.Ytpgdmmjbhjbbhaa.Rd Go.Proofs.Ytpgdmmjbhjbbhaa.Lw Go.Proofs.YtpgdmmjbhjbbhaaW.PrintWords Go.Proofs.YtpgdmmjbhjbbhaaW.PrintLast Go.Proofs.YtpgdmmjbhjbbhaaW.PrintMore
set_option linter.unusedVariables false
set_option linter.unusedSimpArgs false
/-- The message with all that its kind has not set to zero. -/
def shp (m : Msg) : Msg :=
  if m.kind = 1 then mAsk m.kind m.call m.op
  else if m.kind = 10 then mDig m.kind m.views
  else if m.kind = 2 then mTold m.kind m.call m.name m.err (if capped m.err then capOf m else z25)
  else mOf m.kind m.name (capOf m) (if hasEp m.kind then m.epoch else z25) (if m.kind = 7 then m.over else z25) (if hasRt m.kind then m.rights else z25) (if m.kind = 4 then m.held else 0)
def shpS (m : Msg) (A : Option Addr) (c : Nat) : Option Addr × Nat := if m.kind = 10 then (A, c) else (none, 0)
theorem like_shp (m : Msg) : likeM m (shp m) ↔ m = shp m := by
  unfold likeM
  by_cases h : m.kind = 10
  · have hv : (shp m).views = m.views := by
      unfold shp
      rw [if_neg (by omega), if_pos h]
      rfl
    rw [hv]
    exact ⟨fun h2 => h2.1, fun h2 => ⟨h2, rfl⟩⟩
  · have hv : (shp m).views = [] := by
      unfold shp
      split
      · rfl
      · split <;> rfl
    rw [hv]
    constructor
    · rintro ⟨h1, h2⟩
      have h3 : m.views = [] := List.length_eq_zero_iff.mp h2
      rw [← h1]
      cases m
      simp only at h3
      rw [h3]
    · intro h1
      have h3 : m.views = [] := by rw [h1, hv]
      refine ⟨?_, by rw [h3]⟩
      rw [← h1]
      cases m
      simp only at h3
      rw [h3]
theorem shape_calls (m : Msg) (hk : 1 ≤ m.kind ∧ m.kind ≤ 10) (A : Option Addr) (c : Nat) (w : World) :
    Calls Try.prog 45 #[.agg (MVc m A c)] w fun e w' => e = .returned (.agg (MVc (shp m) (shpS m A c).1 (shpS m A c).2)) ∧ Below w.heap.size w w' := by
  have hs : m.kind = 1 ∨ m.kind = 2 ∨ m.kind = 3 ∨ m.kind = 4 ∨ m.kind = 5 ∨ m.kind = 6 ∨ m.kind = 7 ∨ m.kind = 8 ∨ m.kind = 9 ∨ m.kind = 10 := by omega
  rcases hs with h | h | h | h | h | h | h | h | h | h
  · refine (shape1_calls m h A c w).mono ?_
    rintro e w' ⟨rfl, hb⟩
    have e1 : shp m = mAsk 1 m.call m.op := by simp [shp, h, hasEp, hasRt]
    have e2 : shpS m A c = (none, 0) := by unfold shpS; rw [if_neg (by omega)]
    exact ⟨by rw [e1, e2], hb⟩
  · by_cases h0 : m.err = 0
    · refine (shape2a_calls m h A c w (by simp [h0])).mono ?_
      rintro e w' ⟨rfl, hb⟩
      have e1 : shp m = mTold 2 m.call m.name m.err (capOf m) := by simp [shp, h, hasEp, hasRt, capped, h0]
      have e2 : shpS m A c = (none, 0) := by unfold shpS; rw [if_neg (by omega)]
      exact ⟨by rw [e1, e2], hb⟩
    · by_cases h1 : m.err = 101
      · refine (shape2b_calls m h A c w (by simp [h0]) (by simp [h1])).mono ?_
        rintro e w' ⟨rfl, hb⟩
        have e1 : shp m = mTold 2 m.call m.name m.err (capOf m) := by simp [shp, h, hasEp, hasRt, capped, h1]
        have e2 : shpS m A c = (none, 0) := by unfold shpS; rw [if_neg (by omega)]
        exact ⟨by rw [e1, e2], hb⟩
      · refine (shape2c_calls m h A c w (by simp [h0]) (by simp [h1])).mono ?_
        rintro e w' ⟨rfl, hb⟩
        have e1 : shp m = mTold 2 m.call m.name m.err z25 := by simp [shp, h, hasEp, hasRt, capped, h0, h1]
        have e2 : shpS m A c = (none, 0) := by unfold shpS; rw [if_neg (by omega)]
        exact ⟨by rw [e1, e2], hb⟩
  · refine (shape3_calls m h A c w).mono ?_
    rintro e w' ⟨rfl, hb⟩
    have e1 : shp m = mOf 3 m.name (capOf m) m.epoch z25 z25 0 := by simp [shp, h, hasEp, hasRt]
    have e2 : shpS m A c = (none, 0) := by unfold shpS; rw [if_neg (by omega)]
    exact ⟨by rw [e1, e2], hb⟩
  · refine (shape4_calls m h A c w).mono ?_
    rintro e w' ⟨rfl, hb⟩
    have e1 : shp m = mOf 4 m.name (capOf m) m.epoch z25 m.rights m.held := by simp [shp, h, hasEp, hasRt]
    have e2 : shpS m A c = (none, 0) := by unfold shpS; rw [if_neg (by omega)]
    exact ⟨by rw [e1, e2], hb⟩
  · refine (shape5_calls m h A c w).mono ?_
    rintro e w' ⟨rfl, hb⟩
    have e1 : shp m = mOf 5 m.name (capOf m) m.epoch z25 m.rights 0 := by simp [shp, h, hasEp, hasRt]
    have e2 : shpS m A c = (none, 0) := by unfold shpS; rw [if_neg (by omega)]
    exact ⟨by rw [e1, e2], hb⟩
  · refine (shape6_calls m h A c w).mono ?_
    rintro e w' ⟨rfl, hb⟩
    have e1 : shp m = mOf 6 m.name (capOf m) m.epoch z25 m.rights 0 := by simp [shp, h, hasEp, hasRt]
    have e2 : shpS m A c = (none, 0) := by unfold shpS; rw [if_neg (by omega)]
    exact ⟨by rw [e1, e2], hb⟩
  · refine (shape7_calls m h A c w).mono ?_
    rintro e w' ⟨rfl, hb⟩
    have e1 : shp m = mOf 7 m.name (capOf m) m.epoch m.over z25 0 := by simp [shp, h, hasEp, hasRt]
    have e2 : shpS m A c = (none, 0) := by unfold shpS; rw [if_neg (by omega)]
    exact ⟨by rw [e1, e2], hb⟩
  · refine (shape8_calls m h A c w).mono ?_
    rintro e w' ⟨rfl, hb⟩
    have e1 : shp m = mOf 8 m.name (capOf m) z25 z25 m.rights 0 := by simp [shp, h, hasEp, hasRt]
    have e2 : shpS m A c = (none, 0) := by unfold shpS; rw [if_neg (by omega)]
    exact ⟨by rw [e1, e2], hb⟩
  · refine (shape9_calls m h A c w).mono ?_
    rintro e w' ⟨rfl, hb⟩
    have e1 : shp m = mOf 9 m.name (capOf m) z25 z25 m.rights 0 := by simp [shp, h, hasEp, hasRt]
    have e2 : shpS m A c = (none, 0) := by unfold shpS; rw [if_neg (by omega)]
    exact ⟨by rw [e1, e2], hb⟩
  · refine (shape10_calls m h A c w).mono ?_
    rintro e w' ⟨rfl, hb⟩
    have e1 : shp m = mDig 10 m.views := by simp [shp, h, hasEp, hasRt]
    have e2 : shpS m A c = (A, c) := by unfold shpS; rw [if_pos h]
    exact ⟨by rw [e1, e2], hb⟩
theorem msgV_shp {m : Msg} (h : msgV m) : m = shp m := by
  have h2 := h.2
  unfold restV at h2
  unfold shp
  by_cases h1 : m.kind = 1
  · rw [if_pos h1] at h2 ⊢
    exact h2.2.2
  rw [if_neg h1] at h2 ⊢
  by_cases h3 : m.kind = 10
  · rw [if_neg (by omega), if_pos h3] at h2
    rw [if_pos h3]
    exact h2.2
  rw [if_neg h3]
  by_cases h4 : m.kind = 2
  · rw [if_pos h4] at h2 ⊢
    have h5 := h2.2.2.2.2
    have h6 := h2.2.2.2.1
    unfold optV at h6
    split at h6
    · rw [if_pos (by assumption)]; exact h5
    · rw [if_neg (by assumption), ← h6]; exact h5
  · rw [if_neg h4, if_neg h3] at h2
    rw [if_neg h4]
    obtain ⟨_, _, e1, e2, e3, e4, e5⟩ := h2
    unfold optV at e1 e2 e3 e4
    have f1 : (if hasEp m.kind then m.epoch else z25) = m.epoch := by split; rfl; rw [if_neg (by assumption)] at e1; exact e1.symm
    have f2 : (if m.kind = 7 then m.over else z25) = m.over := by split; rfl; rw [if_neg (by assumption)] at e2; exact e2.symm
    have f3 : (if hasRt m.kind then m.rights else z25) = m.rights := by split; rfl; rw [if_neg (by assumption)] at e3; exact e3.symm
    have f4 : (if m.kind = 4 then m.held else 0) = m.held := by split; rfl; rw [if_neg (by assumption)] at e4; exact e4.symm
    rw [f1, f2, f3, f4]
    exact e5
theorem load_row_run {P : Program} {o : Oper} {a : Act} {w : World} (ty : TypeId) (x : Operand) (ho : o.op = .load ty x)
    (g : Nat) (hx : a.eval x = .pointer (some ⟨g, 0, none⟩)) (t : TypeId) (cs : Array Value) (fr : Nat × Nat) (d : TypeDesc) (hg : w.heap[g]? = some (.cells cs t fr))
    (hu : P.underlying ty = some d) (hd : (match d with | .struct _ | .array _ _ => true | _ => false) = true) (hi : (P.info? ty).map (·.size) = some cs.size) : (execOp a.eval o).run P w = .ok (.value (.agg cs)) w := by
  unfold execOp
  simp only [ho, hx, Instr.loadAt, Instr.sureAddr, Sem.run_bind, Sem.run_pure, Result.andThen_ok, run_loadVar_row w g t ty cs fr d hg hu hd hi]
theorem nVe (s : ByteArray) : nB s = true ↔ nameV eB s := nB_iff s
theorem iff_1 (m : Msg) (hk : m.kind = 1) (h : isI m.op.a ∧ isI m.op.b) (hl : m = shp m) : msgV m ↔ dcd (callV ⟨m.call.f0, m.call.f1⟩) = true ∧ oB m.op.kind m.op.name = true := by
  unfold msgV restV
  rw [if_pos hk, dcd_iff, oB_iff m.op h]
  have hs : shp m = mAsk m.kind m.call m.op := by unfold shp; rw [if_pos hk]
  rw [hs] at hl
  exact ⟨fun h2 => ⟨h2.2.1, h2.2.2.1⟩, fun h2 => ⟨by omega, h2.1, h2.2, hl⟩⟩
theorem iff_10 (m : Msg) (hk : m.kind = 10) (hl : m = shp m) : msgV m ↔ dcd (listV m.views) = true := by
  unfold msgV restV
  rw [if_neg (by omega), if_neg (by omega), if_pos hk, dcd_iff]
  have hs : shp m = mDig m.kind m.views := by unfold shp; rw [if_neg (by omega), if_pos hk]
  rw [hs] at hl
  exact ⟨fun h2 => h2.2.1, fun h2 => ⟨by omega, h2, hl⟩⟩
theorem iff_2 (m : Msg) (hk : m.kind = 2) (hc : ¬ capped m.err) (hl : m = shp m) : msgV m ↔ dcd (callV ⟨m.call.f0, m.call.f1⟩) = true ∧ nB m.name = true ∧ bB m.err 0 255 = true := by
  unfold msgV restV
  rw [if_neg (by omega), if_pos hk, dcd_iff, nVe]
  unfold bB
  rw [dcd_iff]
  have hs : shp m = mTold m.kind m.call m.name m.err z25 := by unfold shp; rw [if_neg (by omega), if_neg (by omega), if_pos hk, if_neg hc]
  rw [hs] at hl
  have hz : capOf m = z25 := by rw [hl]; rfl
  unfold optV
  rw [if_neg hc]
  exact ⟨fun h2 => ⟨h2.2.1, h2.2.2.1, h2.2.2.2.1⟩, fun h2 => ⟨by omega, h2.1, h2.2.1, h2.2.2, hz, by rw [hz]; exact hl⟩⟩
theorem kB_iff (s : ByteArray) (c r : Int) : kB s c r = true ↔ nameV eB s ∧ capV ⟨c, r⟩ := by
  unfold kB bB
  simp only [Bool.and_eq_true, dcd_iff, nVe]
  exact ⟨fun h => ⟨h.1, h.2.1, h.2.2⟩, fun h => ⟨h.1, h.2.1, h.2.2⟩⟩
theorem iff_2c (m : Msg) (hk : m.kind = 2) (hc : capped m.err) (hl : m = shp m) : msgV m ↔ dcd (callV ⟨m.call.f0, m.call.f1⟩) = true ∧ kB m.name m.cap m.recaps = true := by
  unfold msgV restV
  rw [if_neg (by omega), if_pos hk, dcd_iff, kB_iff]
  have hs : shp m = mTold m.kind m.call m.name m.err (capOf m) := by unfold shp; rw [if_neg (by omega), if_neg (by omega), if_pos hk, if_pos hc]
  rw [hs] at hl
  unfold optV
  rw [if_pos hc]
  have hr : 0 ≤ m.err ∧ m.err ≤ 255 := by rcases hc with h | h <;> omega
  exact ⟨fun h2 => ⟨h2.2.1, h2.2.2.1, h2.2.2.2.2.1⟩, fun h2 => ⟨by omega, h2.1, h2.2.1, hr, h2.2.2, hl⟩⟩
theorem rights_zero : rightsV z25 := ⟨⟨by decide, by decide⟩, by decide, by decide⟩
theorem iff_of (m : Msg) (hk : 3 ≤ m.kind ∧ m.kind ≤ 9) (hl : m = shp m) : msgV m ↔ kB m.name m.cap m.recaps = true ∧ dcd (rightsV ⟨m.rights.f0, m.rights.f1⟩) = true ∧ bB m.held 0 1099511627776 = true ∧ (hasEp m.kind → dcd (epochV ⟨m.epoch.f0, m.epoch.f1⟩) = true) ∧ (m.kind = 7 → dcd (epochV ⟨m.over.f0, m.over.f1⟩) = true) := by
  unfold msgV restV
  rw [if_neg (by omega), if_neg (by omega), if_neg (by omega), kB_iff]
  unfold bB
  simp only [dcd_iff]
  have hs : shp m = mOf m.kind m.name (capOf m) (if hasEp m.kind then m.epoch else z25) (if m.kind = 7 then m.over else z25) (if hasRt m.kind then m.rights else z25) (if m.kind = 4 then m.held else 0) := by unfold shp; rw [if_neg (by omega), if_neg (by omega), if_neg (by omega)]
  have hl2 := hl
  rw [hs] at hl2
  have g1 : ¬ hasEp m.kind → m.epoch = z25 := fun h => by have := congrArg Msg.epoch hl2; rw [if_neg h] at this; exact this
  have g2 : ¬ m.kind = 7 → m.over = z25 := fun h => by have := congrArg Msg.over hl2; rw [if_neg h] at this; exact this
  have g3 : ¬ hasRt m.kind → m.rights = z25 := fun h => by have := congrArg Msg.rights hl2; rw [if_neg h] at this; exact this
  have g4 : ¬ m.kind = 4 → m.held = 0 := fun h => by have := congrArg Msg.held hl2; rw [if_neg h] at this; exact this
  have f1 : (if hasEp m.kind then m.epoch else z25) = m.epoch := by split; rfl; exact (g1 (by assumption)).symm
  have f2 : (if m.kind = 7 then m.over else z25) = m.over := by split; rfl; exact (g2 (by assumption)).symm
  have f3 : (if hasRt m.kind then m.rights else z25) = m.rights := by split; rfl; exact (g3 (by assumption)).symm
  have f4 : (if m.kind = 4 then m.held else 0) = m.held := by split; rfl; exact (g4 (by assumption)).symm
  rw [f1, f2, f3, f4] at hl2
  have o1 : optV (hasEp m.kind) z25 epochV m.epoch ↔ (hasEp m.kind → epochV m.epoch) := by
    unfold optV
    split
    · exact ⟨fun h _ => h, fun h => h (by assumption)⟩
    · exact ⟨fun _ h => absurd h (by assumption), fun _ => g1 (by assumption)⟩
  have o2 : optV (m.kind = 7) z25 epochV m.over ↔ (m.kind = 7 → epochV m.over) := by
    unfold optV
    split
    · exact ⟨fun h _ => h, fun h => h (by assumption)⟩
    · exact ⟨fun _ h => absurd h (by assumption), fun _ => g2 (by assumption)⟩
  have o3 : optV (hasRt m.kind) z25 rightsV m.rights ↔ rightsV m.rights := by
    unfold optV
    split
    · exact Iff.rfl
    · rename_i hh; rw [g3 hh]; exact ⟨fun _ => rights_zero, fun _ => rfl⟩
  have o4 : optV (m.kind = 4) 0 (fun h => 0 ≤ h ∧ h ≤ big) m.held ↔ (0 ≤ m.held ∧ m.held ≤ 1099511627776) := by
    unfold optV
    split
    · exact Iff.rfl
    · rename_i hh; rw [g4 hh]; exact ⟨fun _ => by decide, fun _ => rfl⟩
  rw [o1, o2, o3, o4]
  exact ⟨fun h => ⟨⟨h.2.1, h.2.2.1⟩, h.2.2.2.2.2.1, h.2.2.2.2.2.2.1, h.2.2.2.1, h.2.2.2.2.1⟩, fun h => ⟨by omega, h.1.1, h.1.2, h.2.2.2.1, h.2.2.2.2, h.2.1, h.2.2.1, hl2⟩⟩
theorem iff_3 (m : Msg) (hk : m.kind = 3) (hl : m = shp m) : msgV m ↔ kB m.name m.cap m.recaps = true ∧ dcd (rightsV ⟨m.rights.f0, m.rights.f1⟩) = true ∧ bB m.held 0 1099511627776 = true ∧ dcd (epochV ⟨m.epoch.f0, m.epoch.f1⟩) = true := by
  rw [iff_of m (by omega) hl]
  have h1 : hasEp m.kind ↔ True := by unfold hasEp; simp only [iff_true]; omega
  have h2 : m.kind = 7 ↔ False := by simp only [iff_false]; omega
  rw [h1, h2]
  simp
theorem iff_4 (m : Msg) (hk : m.kind = 4) (hl : m = shp m) : msgV m ↔ kB m.name m.cap m.recaps = true ∧ dcd (rightsV ⟨m.rights.f0, m.rights.f1⟩) = true ∧ bB m.held 0 1099511627776 = true ∧ dcd (epochV ⟨m.epoch.f0, m.epoch.f1⟩) = true := by
  rw [iff_of m (by omega) hl]
  have h1 : hasEp m.kind ↔ True := by unfold hasEp; simp only [iff_true]; omega
  have h2 : m.kind = 7 ↔ False := by simp only [iff_false]; omega
  rw [h1, h2]
  simp
theorem iff_5 (m : Msg) (hk : m.kind = 5) (hl : m = shp m) : msgV m ↔ kB m.name m.cap m.recaps = true ∧ dcd (rightsV ⟨m.rights.f0, m.rights.f1⟩) = true ∧ bB m.held 0 1099511627776 = true ∧ dcd (epochV ⟨m.epoch.f0, m.epoch.f1⟩) = true := by
  rw [iff_of m (by omega) hl]
  have h1 : hasEp m.kind ↔ True := by unfold hasEp; simp only [iff_true]; omega
  have h2 : m.kind = 7 ↔ False := by simp only [iff_false]; omega
  rw [h1, h2]
  simp
theorem iff_6 (m : Msg) (hk : m.kind = 6) (hl : m = shp m) : msgV m ↔ kB m.name m.cap m.recaps = true ∧ dcd (rightsV ⟨m.rights.f0, m.rights.f1⟩) = true ∧ bB m.held 0 1099511627776 = true ∧ dcd (epochV ⟨m.epoch.f0, m.epoch.f1⟩) = true := by
  rw [iff_of m (by omega) hl]
  have h1 : hasEp m.kind ↔ True := by unfold hasEp; simp only [iff_true]; omega
  have h2 : m.kind = 7 ↔ False := by simp only [iff_false]; omega
  rw [h1, h2]
  simp
theorem iff_7 (m : Msg) (hk : m.kind = 7) (hl : m = shp m) : msgV m ↔ kB m.name m.cap m.recaps = true ∧ dcd (rightsV ⟨m.rights.f0, m.rights.f1⟩) = true ∧ bB m.held 0 1099511627776 = true ∧ dcd (epochV ⟨m.epoch.f0, m.epoch.f1⟩) = true ∧ dcd (epochV ⟨m.over.f0, m.over.f1⟩) = true := by
  rw [iff_of m (by omega) hl]
  have h1 : hasEp m.kind ↔ True := by unfold hasEp; simp only [iff_true]; omega
  have h2 : m.kind = 7 ↔ True := by simp only [iff_true]; omega
  rw [h1, h2]
  simp
theorem iff_8 (m : Msg) (hk : m.kind = 8) (hl : m = shp m) : msgV m ↔ kB m.name m.cap m.recaps = true ∧ dcd (rightsV ⟨m.rights.f0, m.rights.f1⟩) = true ∧ bB m.held 0 1099511627776 = true := by
  rw [iff_of m (by omega) hl]
  have h1 : hasEp m.kind ↔ False := by unfold hasEp; simp only [iff_false]; omega
  have h2 : m.kind = 7 ↔ False := by simp only [iff_false]; omega
  rw [h1, h2]
  simp
theorem iff_9 (m : Msg) (hk : m.kind = 9) (hl : m = shp m) : msgV m ↔ kB m.name m.cap m.recaps = true ∧ dcd (rightsV ⟨m.rights.f0, m.rights.f1⟩) = true ∧ bB m.held 0 1099511627776 = true := by
  rw [iff_of m (by omega) hl]
  have h1 : hasEp m.kind ↔ False := by unfold hasEp; simp only [iff_false]; omega
  have h2 : m.kind = 7 ↔ False := by simp only [iff_false]; omega
  rw [h1, h2]
  simp
set_option maxHeartbeats 8000000 in
set_option maxRecDepth 100000 in
theorem rvalid_calls (m : Msg) (h : isI m.op.a ∧ isI m.op.b) (A : Option Addr) (c : Nat) (w : World) (hr : Kd.C k87 w A m.views.length m.views) (hc : m.views.length ≤ c) :
    Calls Try.prog 15 #[MV m A c] w fun e w' => e = .returned (.bool (dcd (msgV m))) ∧ Below w.heap.size w w' := by
  have HR := Aside0.mk (And.intro hr hc)
  have HI := Aside0.mk h
  clear hr hc h
  have hu33 := Try.underlying33
  have hu23 := Try.underlying23
  have hu25 := Try.underlying25
  have hu27 := Try.underlying27
  have hu29 := Try.underlying29
  obtain ⟨wa, hwa⟩ : ∃ wa, wa = w.alloc (.cells (MVc m A c) 33 (0, 0)) := ⟨_, rfl⟩
  have HWA := Aside0.mk hwa
  have HB : Aside0 (Below w.heap.size w wa) := ⟨by rw [hwa]; exact al_below w _⟩
  have BK : Aside0 (wa.heap[w.heap.size]? = some (.cells (MVc m A c) 33 (0, 0))) := ⟨by rw [hwa]; exact heap_alloc_new w _⟩
  clear hwa
  unfold MV
  by_cases hk : 1 ≤ m.kind ∧ m.kind ≤ 10
  · have HK := Aside0.mk hk
    have HKB : Aside0 (bB m.kind 1 10 = true) := ⟨dcd_pos hk⟩
    clear hk
    obtain ⟨lb, hlb⟩ : ∃ lb, dcd (likeM m (shp m)) = lb := ⟨_, rfl⟩
    have HLB := Aside0.mk hlb
    clear hlb
    go_enter Try.func15, Try.ntmps15
    go_upto_region 1 with fail
    rw [← HWA.out]
    refine start_ (n := 11) (S := fun w' => w'.heap[w.heap.size]? = some (.cells (MVc m A c) 33 (0, 0)) ∧ Below w.heap.size w w') (ds := []) #[false, false, false, false, false, false, false, false, false, false, false] (by kernel_rfl) rfl rfl ⟨blk_drew BK.out, below_drew1 HB.out⟩ (fun hHeld => ?_)
    refine pure_ (i := 0) (N := some 3) (v := ?_) (a' := ?_) #[true, false, false, false, false, false, false, false, false, false, false] rfl rfl (by kernel_rfl) (fun _ _ _ h => h) (Or.inl ⟨by rfl, ?_⟩) ?_ ?_
    rotate_left
    · intro w'
      go_simp
      with_reducible rfl
    rotate_left
    · simp only [Act.put, List.setIfInBounds_toArray, List.set_cons_zero, List.set_cons_succ, i64_w, i32_w]
      rfl
    refine take_ (i := 1) (N := some 4) (v := .int .i64 m.kind) (a' := ?_) #[true, true, false, false, false, false, false, false, false, false, false] rfl rfl (by kernel_rfl) (fun _ _ _ h => h) (Or.inl ⟨by rfl, ?_⟩) hHeld ?_ ?_
    · intro w' hS
      have hz : w'.cell? ⟨w.heap.size, 0, none⟩ = some (.int .i64 m.kind) := (blk_cell hS.1 0).trans rfl
      go_simp
    rotate_left
    · simp only [Act.put, List.setIfInBounds_toArray, List.set_cons_zero, List.set_cons_succ, i64_w, i32_w]
      rfl
    refine one_ (i := 2) (N := some 5) #[true, true, true, false, false, false, false, false, false, false, false] rfl rfl (by kernel_rfl) (by decide) (fun K hK => ?_)
    refine goes_ Try.func43 (by kernel_rfl) rfl #[.int .i64 m.kind, .int .i64 1, .int .i64 10] (by rfl) rfl rfl (by (try simp only [List.map_toArray, List.map_cons, List.map_nil]); first | done | rfl) ?_
    refine (within_calls _ _ _ _).mono ?_
    rintro e w1 ⟨rfl, hb⟩
    rw [HKB.out]
    refine ⟨_, rfl, ?_⟩
    refine hK.out _ _ ⟨blk_keep hb hHeld.1, below_step hHeld.2 hb⟩ (fun hHeld => ?_)
    clear hK K
    refine norm_ (a' := ?_) ?_ ?_
    rotate_left
    · show Act.put _ (some 5) _ = _
      simp only [Act.put, List.setIfInBounds_toArray, List.set_cons_zero, List.set_cons_succ, i64_w, i32_w]
      rfl
    refine pure_ (i := 3) (N := some 6) (v := ?_) (a' := ?_) #[true, true, true, true, false, false, false, false, false, false, false] rfl rfl (by kernel_rfl) (fun _ _ _ h => h) (Or.inl ⟨by rfl, ?_⟩) ?_ ?_
    rotate_left
    · intro w'
      go_simp
      with_reducible rfl
    rotate_left
    · simp only [Act.put, List.setIfInBounds_toArray, List.set_cons_zero, List.set_cons_succ, i64_w, i32_w]
      rfl
    refine pure_ (i := 4) (N := some 7) (v := ?_) (a' := ?_) #[true, true, true, true, true, false, false, false, false, false, false] rfl rfl (by kernel_rfl) (fun _ _ _ h => h) (Or.inl ⟨by rfl, ?_⟩) ?_ ?_
    rotate_left
    · intro w'
      go_simp
      with_reducible rfl
    rotate_left
    · simp only [Act.put, List.setIfInBounds_toArray, List.set_cons_zero, List.set_cons_succ, i64_w, i32_w]
      rfl
    refine take_ (i := 5) (N := some 8) (v := .agg (MVc m A c)) (a' := ?_) #[true, true, true, true, true, true, false, false, false, false, false] rfl rfl (by kernel_rfl) (fun _ _ _ h => h) (Or.inl ⟨by rfl, ?_⟩) hHeld ?_ ?_
    · intro w' hS
      exact load_row_run 33 (.tmp 1) rfl w.heap.size rfl 33 (MVc m A c) (0, 0) _ hS.1 hu33 rfl inf33
    rotate_left
    · simp only [Act.put, List.setIfInBounds_toArray, List.set_cons_zero, List.set_cons_succ, i64_w, i32_w]
      rfl
    refine take_ (i := 6) (N := some 9) (v := .agg (MVc m A c)) (a' := ?_) #[true, true, true, true, true, true, true, false, false, false, false] rfl rfl (by kernel_rfl) (fun _ _ _ h => h) (Or.inl ⟨by rfl, ?_⟩) hHeld ?_ ?_
    · intro w' hS
      exact load_row_run 33 (.tmp 1) rfl w.heap.size rfl 33 (MVc m A c) (0, 0) _ hS.1 hu33 rfl inf33
    rotate_left
    · simp only [Act.put, List.setIfInBounds_toArray, List.set_cons_zero, List.set_cons_succ, i64_w, i32_w]
      rfl
    refine one_ (i := 7) (N := some 10) #[true, true, true, true, true, true, true, true, false, false, false] rfl rfl (by kernel_rfl) (by decide) (fun K hK => ?_)
    refine goes_ Try.func45 (by kernel_rfl) rfl #[.agg (MVc m A c)] (by rfl) rfl rfl (by (try simp only [List.map_toArray, List.map_cons, List.map_nil]); first | done | rfl) ?_
    refine (shape_calls m HK.out A c _).mono ?_
    rintro e w2 ⟨rfl, hb⟩
    refine ⟨_, rfl, ?_⟩
    refine hK.out _ _ ⟨blk_keep hb hHeld.1, below_step hHeld.2 hb⟩ (fun hHeld => ?_)
    clear hK K
    refine norm_ (a' := ?_) ?_ ?_
    rotate_left
    · show Act.put _ (some 10) _ = _
      simp only [Act.put, List.setIfInBounds_toArray, List.set_cons_zero, List.set_cons_succ, i64_w, i32_w]
      rfl
    refine one_ (i := 8) (N := some 11) #[true, true, true, true, true, true, true, true, true, false, false] rfl rfl (by kernel_rfl) (by decide) (fun K hK => ?_)
    refine goes_ Try.func44 (by kernel_rfl) rfl #[.agg (MVc m A c), .agg (MVc (shp m) (shpS m A c).1 (shpS m A c).2)] (by rfl) rfl rfl (by (try simp only [List.map_toArray, List.map_cons, List.map_nil]); first | done | rfl) ?_
    refine (alike_calls m (shp m) A c _ _ _).mono ?_
    rintro e w3 ⟨rfl, hb⟩
    rw [HLB.out]
    refine ⟨_, rfl, ?_⟩
    refine hK.out _ _ ⟨blk_keep hb hHeld.1, below_step hHeld.2 hb⟩ (fun hHeld => ?_)
    clear hK K
    refine norm_ (a' := ?_) ?_ ?_
    rotate_left
    · show Act.put _ (some 11) _ = _
      simp only [Act.put, List.setIfInBounds_toArray, List.set_cons_zero, List.set_cons_succ, i64_w, i32_w]
      rfl
    refine pure_ (i := 9) (N := some 12) (v := ?_) (a' := ?_) #[true, true, true, true, true, true, true, true, true, true, false] rfl rfl (by kernel_rfl) (fun _ _ _ h => h) (Or.inl ⟨by rfl, ?_⟩) ?_ ?_
    rotate_left
    · intro w'
      go_simp
      with_reducible rfl
    rotate_left
    · simp only [Act.put, List.setIfInBounds_toArray, List.set_cons_zero, List.set_cons_succ, i64_w, i32_w]
      rfl
    refine pure_ (i := 10) (N := some 13) (v := ?_) (a' := ?_) #[true, true, true, true, true, true, true, true, true, true, true] rfl rfl (by kernel_rfl) (fun _ _ _ h => h) (Or.inl ⟨by rfl, ?_⟩) ?_ ?_
    rotate_left
    · intro w'
      go_simp
      with_reducible rfl
    rotate_left
    · simp only [Act.put, List.setIfInBounds_toArray, List.set_cons_zero, List.set_cons_succ, i64_w, i32_w]
      rfl
    refine done_ (by kernel_rfl) ?_
    clear HB BK
    have HB := Aside0.mk hHeld.2
    have BK := Aside0.mk hHeld.1
    obtain rfl | rfl : lb = false ∨ lb = true := by cases lb <;> simp
    · go_wp2_with fail
      go_ret
      exact ⟨by rw [dcd_neg (fun h => by have := dcd_pos ((like_shp m).mpr (msgV_shp h)); rw [HLB.out] at this; cases this)]; rfl, HB.out⟩
    · have HL : Aside0 (m = shp m) := ⟨(like_shp m).mp (dcd_iff.mp HLB.out)⟩
      have hs : m.kind = 1 ∨ m.kind = 2 ∨ m.kind = 3 ∨ m.kind = 4 ∨ m.kind = 5 ∨ m.kind = 6 ∨ m.kind = 7 ∨ m.kind = 8 ∨ m.kind = 9 ∨ m.kind = 10 := by have := HK.out; omega
      rcases hs with hv | hv | hv | hv | hv | hv | hv | hv | hv | hv
      · have HKV := Aside0.mk hv
        have hiff := iff_1 m hv HI.out HL.out
        have HF := Aside0.mk hiff
        clear hv hiff
        have kz0 : w3.cell? ⟨w.heap.size, 0, none⟩ = some (.int .i64 1) := by rw [blk_cell BK.out 0]; show some (Value.int .i64 m.kind) = _; rw [HKV.out]
        have kz11 : w3.cell? ⟨w.heap.size, 11, none⟩ = some (.int .i64 m.call.f0) := (blk_cell BK.out 11).trans rfl
        have kz12 : w3.cell? ⟨w.heap.size, 12, none⟩ = some (.int .i64 m.call.f1) := (blk_cell BK.out 12).trans rfl
        have kz13 : w3.cell? ⟨w.heap.size, 13, none⟩ = some (.int .i64 m.op.kind) := (blk_cell BK.out 13).trans rfl
        have kz14 : w3.cell? ⟨w.heap.size, 14, none⟩ = some (.string m.op.name) := (blk_cell BK.out 14).trans rfl
        have kz15 : w3.cell? ⟨w.heap.size, 15, none⟩ = some (.int .i64 m.op.a) := (blk_cell BK.out 15).trans rfl
        have kz16 : w3.cell? ⟨w.heap.size, 16, none⟩ = some (.int .i64 m.op.b) := (blk_cell BK.out 16).trans rfl
        go_wp2_with (first | (go_at_call 46; refine (rcall_calls _ _ _).mono ?_; rintro e w1 ⟨rfl, hb⟩; have n0_ := Aside0.mk (below_step HB.out hb); have n1_ := Aside0.mk (blk_keep hb BK.out); clear HB BK hb kz0 kz11 kz12 kz13 kz14 kz15 kz16; have HB := n0_; have BK := n1_; clear n0_ n1_; have kz11 : w1.cell? ⟨w.heap.size, 11, none⟩ = some (.int .i64 m.call.f0) := (blk_cell BK.out 11).trans rfl; have kz12 : w1.cell? ⟨w.heap.size, 12, none⟩ = some (.int .i64 m.call.f1) := (blk_cell BK.out 12).trans rfl; have kz13 : w1.cell? ⟨w.heap.size, 13, none⟩ = some (.int .i64 m.op.kind) := (blk_cell BK.out 13).trans rfl; have kz14 : w1.cell? ⟨w.heap.size, 14, none⟩ = some (.string m.op.name) := (blk_cell BK.out 14).trans rfl; have kz15 : w1.cell? ⟨w.heap.size, 15, none⟩ = some (.int .i64 m.op.a) := (blk_cell BK.out 15).trans rfl; have kz16 : w1.cell? ⟨w.heap.size, 16, none⟩ = some (.int .i64 m.op.b) := (blk_cell BK.out 16).trans rfl; have kz0 : w1.cell? ⟨w.heap.size, 0, none⟩ = some (.int .i64 1) := (by rw [blk_cell BK.out 0]; show some (Value.int .i64 m.kind) = _; rw [HKV.out])) | (go_at_call 47; refine (rop_calls _ _ _ _ _).mono ?_; rintro e w1 ⟨rfl, hb⟩; have n0_ := Aside0.mk (below_step HB.out hb); have n1_ := Aside0.mk (blk_keep hb BK.out); clear HB BK hb kz0 kz11 kz12 kz13 kz14 kz15 kz16; have HB := n0_; have BK := n1_; clear n0_ n1_; have kz11 : w1.cell? ⟨w.heap.size, 11, none⟩ = some (.int .i64 m.call.f0) := (blk_cell BK.out 11).trans rfl; have kz12 : w1.cell? ⟨w.heap.size, 12, none⟩ = some (.int .i64 m.call.f1) := (blk_cell BK.out 12).trans rfl; have kz13 : w1.cell? ⟨w.heap.size, 13, none⟩ = some (.int .i64 m.op.kind) := (blk_cell BK.out 13).trans rfl; have kz14 : w1.cell? ⟨w.heap.size, 14, none⟩ = some (.string m.op.name) := (blk_cell BK.out 14).trans rfl; have kz15 : w1.cell? ⟨w.heap.size, 15, none⟩ = some (.int .i64 m.op.a) := (blk_cell BK.out 15).trans rfl; have kz16 : w1.cell? ⟨w.heap.size, 16, none⟩ = some (.int .i64 m.op.b) := (blk_cell BK.out 16).trans rfl; have kz0 : w1.cell? ⟨w.heap.size, 0, none⟩ = some (.int .i64 1) := (by rw [blk_cell BK.out 0]; show some (Value.int .i64 m.kind) = _; rw [HKV.out])))
        all_goals go_ret
        all_goals refine ⟨congrArg (fun b => Ending.returned (Value.bool b)) (bool_dcd ?_), HB.out⟩
        all_goals rw [HF.out]
        all_goals clear HF HKV HB BK HI HR HL HWA hu33 hu23 hu25 hu27 hu29 hHeld HK HKB HLB
        all_goals first | (simp [*]; done) | (simp_all; done)
      · have HKV := Aside0.mk hv
        clear hv
        have kz0 : w3.cell? ⟨w.heap.size, 0, none⟩ = some (.int .i64 2) := by rw [blk_cell BK.out 0]; show some (Value.int .i64 m.kind) = _; rw [HKV.out]
        have kz1 : w3.cell? ⟨w.heap.size, 1, none⟩ = some (.string m.name) := (blk_cell BK.out 1).trans rfl
        have kz2 : w3.cell? ⟨w.heap.size, 2, none⟩ = some (.int .i64 m.cap) := (blk_cell BK.out 2).trans rfl
        have kz3 : w3.cell? ⟨w.heap.size, 3, none⟩ = some (.int .i64 m.recaps) := (blk_cell BK.out 3).trans rfl
        have kz11 : w3.cell? ⟨w.heap.size, 11, none⟩ = some (.int .i64 m.call.f0) := (blk_cell BK.out 11).trans rfl
        have kz12 : w3.cell? ⟨w.heap.size, 12, none⟩ = some (.int .i64 m.call.f1) := (blk_cell BK.out 12).trans rfl
        have kz17 : w3.cell? ⟨w.heap.size, 17, none⟩ = some (.int .i64 m.err) := (blk_cell BK.out 17).trans rfl
        by_cases h0 : m.err = 0
        · have hiff := iff_2c m HKV.out (.inl h0) HL.out
          have HF := Aside0.mk hiff
          have he0 : (m.err == 0) = true := by simp [h0]
          have he0n : (m.err != 0) = false := by simp [h0]
          clear hiff h0
          go_wp2_with (first | (go_at_call 46; refine (rcall_calls _ _ _).mono ?_; rintro e w1 ⟨rfl, hb⟩; have n0_ := Aside0.mk (below_step HB.out hb); have n1_ := Aside0.mk (blk_keep hb BK.out); clear HB BK hb kz0 kz1 kz2 kz3 kz11 kz12 kz17; have HB := n0_; have BK := n1_; clear n0_ n1_; have kz1 : w1.cell? ⟨w.heap.size, 1, none⟩ = some (.string m.name) := (blk_cell BK.out 1).trans rfl; have kz2 : w1.cell? ⟨w.heap.size, 2, none⟩ = some (.int .i64 m.cap) := (blk_cell BK.out 2).trans rfl; have kz3 : w1.cell? ⟨w.heap.size, 3, none⟩ = some (.int .i64 m.recaps) := (blk_cell BK.out 3).trans rfl; have kz11 : w1.cell? ⟨w.heap.size, 11, none⟩ = some (.int .i64 m.call.f0) := (blk_cell BK.out 11).trans rfl; have kz12 : w1.cell? ⟨w.heap.size, 12, none⟩ = some (.int .i64 m.call.f1) := (blk_cell BK.out 12).trans rfl; have kz17 : w1.cell? ⟨w.heap.size, 17, none⟩ = some (.int .i64 m.err) := (blk_cell BK.out 17).trans rfl; have kz0 : w1.cell? ⟨w.heap.size, 0, none⟩ = some (.int .i64 2) := (by rw [blk_cell BK.out 0]; show some (Value.int .i64 m.kind) = _; rw [HKV.out])) | (go_at_call 50; refine (known_calls _ _ _ _).mono ?_; rintro e w1 ⟨rfl, hb⟩; have n0_ := Aside0.mk (below_step HB.out hb); have n1_ := Aside0.mk (blk_keep hb BK.out); clear HB BK hb kz0 kz1 kz2 kz3 kz11 kz12 kz17; have HB := n0_; have BK := n1_; clear n0_ n1_; have kz1 : w1.cell? ⟨w.heap.size, 1, none⟩ = some (.string m.name) := (blk_cell BK.out 1).trans rfl; have kz2 : w1.cell? ⟨w.heap.size, 2, none⟩ = some (.int .i64 m.cap) := (blk_cell BK.out 2).trans rfl; have kz3 : w1.cell? ⟨w.heap.size, 3, none⟩ = some (.int .i64 m.recaps) := (blk_cell BK.out 3).trans rfl; have kz11 : w1.cell? ⟨w.heap.size, 11, none⟩ = some (.int .i64 m.call.f0) := (blk_cell BK.out 11).trans rfl; have kz12 : w1.cell? ⟨w.heap.size, 12, none⟩ = some (.int .i64 m.call.f1) := (blk_cell BK.out 12).trans rfl; have kz17 : w1.cell? ⟨w.heap.size, 17, none⟩ = some (.int .i64 m.err) := (blk_cell BK.out 17).trans rfl; have kz0 : w1.cell? ⟨w.heap.size, 0, none⟩ = some (.int .i64 2) := (by rw [blk_cell BK.out 0]; show some (Value.int .i64 m.kind) = _; rw [HKV.out])) | (go_at_call 49; refine (rname_calls _ _).mono ?_; rintro e w1 ⟨rfl, hb⟩; have n0_ := Aside0.mk (below_step HB.out hb); have n1_ := Aside0.mk (blk_keep hb BK.out); clear HB BK hb kz0 kz1 kz2 kz3 kz11 kz12 kz17; have HB := n0_; have BK := n1_; clear n0_ n1_; have kz1 : w1.cell? ⟨w.heap.size, 1, none⟩ = some (.string m.name) := (blk_cell BK.out 1).trans rfl; have kz2 : w1.cell? ⟨w.heap.size, 2, none⟩ = some (.int .i64 m.cap) := (blk_cell BK.out 2).trans rfl; have kz3 : w1.cell? ⟨w.heap.size, 3, none⟩ = some (.int .i64 m.recaps) := (blk_cell BK.out 3).trans rfl; have kz11 : w1.cell? ⟨w.heap.size, 11, none⟩ = some (.int .i64 m.call.f0) := (blk_cell BK.out 11).trans rfl; have kz12 : w1.cell? ⟨w.heap.size, 12, none⟩ = some (.int .i64 m.call.f1) := (blk_cell BK.out 12).trans rfl; have kz17 : w1.cell? ⟨w.heap.size, 17, none⟩ = some (.int .i64 m.err) := (blk_cell BK.out 17).trans rfl; have kz0 : w1.cell? ⟨w.heap.size, 0, none⟩ = some (.int .i64 2) := (by rw [blk_cell BK.out 0]; show some (Value.int .i64 m.kind) = _; rw [HKV.out])) | (go_at_call 43; refine (within_calls _ _ _ _).mono ?_; rintro e w1 ⟨rfl, hb⟩; have n0_ := Aside0.mk (below_step HB.out hb); have n1_ := Aside0.mk (blk_keep hb BK.out); clear HB BK hb kz0 kz1 kz2 kz3 kz11 kz12 kz17; have HB := n0_; have BK := n1_; clear n0_ n1_; have kz1 : w1.cell? ⟨w.heap.size, 1, none⟩ = some (.string m.name) := (blk_cell BK.out 1).trans rfl; have kz2 : w1.cell? ⟨w.heap.size, 2, none⟩ = some (.int .i64 m.cap) := (blk_cell BK.out 2).trans rfl; have kz3 : w1.cell? ⟨w.heap.size, 3, none⟩ = some (.int .i64 m.recaps) := (blk_cell BK.out 3).trans rfl; have kz11 : w1.cell? ⟨w.heap.size, 11, none⟩ = some (.int .i64 m.call.f0) := (blk_cell BK.out 11).trans rfl; have kz12 : w1.cell? ⟨w.heap.size, 12, none⟩ = some (.int .i64 m.call.f1) := (blk_cell BK.out 12).trans rfl; have kz17 : w1.cell? ⟨w.heap.size, 17, none⟩ = some (.int .i64 m.err) := (blk_cell BK.out 17).trans rfl; have kz0 : w1.cell? ⟨w.heap.size, 0, none⟩ = some (.int .i64 2) := (by rw [blk_cell BK.out 0]; show some (Value.int .i64 m.kind) = _; rw [HKV.out])))
          all_goals go_ret
          all_goals refine ⟨congrArg (fun b => Ending.returned (Value.bool b)) (bool_dcd ?_), HB.out⟩
          all_goals rw [HF.out]
          all_goals clear HF HKV HB BK HI HR HL HWA hu33 hu23 hu25 hu27 hu29 hHeld HK HKB HLB
          all_goals first | (simp [*]; done) | (simp_all; done)
        · by_cases h1 : m.err = 101
          · have hiff := iff_2c m HKV.out (.inr h1) HL.out
            have HF := Aside0.mk hiff
            have he0 : (m.err == 0) = false := by simp [h0]
            have he0n : (m.err != 0) = true := by simp [h0]
            have he1 : (m.err == 101) = true := by simp [h1]
            have he1n : (m.err != 101) = false := by simp [h1]
            clear hiff h0 h1
            go_wp2_with (first | (go_at_call 46; refine (rcall_calls _ _ _).mono ?_; rintro e w1 ⟨rfl, hb⟩; have n0_ := Aside0.mk (below_step HB.out hb); have n1_ := Aside0.mk (blk_keep hb BK.out); clear HB BK hb kz0 kz1 kz2 kz3 kz11 kz12 kz17; have HB := n0_; have BK := n1_; clear n0_ n1_; have kz1 : w1.cell? ⟨w.heap.size, 1, none⟩ = some (.string m.name) := (blk_cell BK.out 1).trans rfl; have kz2 : w1.cell? ⟨w.heap.size, 2, none⟩ = some (.int .i64 m.cap) := (blk_cell BK.out 2).trans rfl; have kz3 : w1.cell? ⟨w.heap.size, 3, none⟩ = some (.int .i64 m.recaps) := (blk_cell BK.out 3).trans rfl; have kz11 : w1.cell? ⟨w.heap.size, 11, none⟩ = some (.int .i64 m.call.f0) := (blk_cell BK.out 11).trans rfl; have kz12 : w1.cell? ⟨w.heap.size, 12, none⟩ = some (.int .i64 m.call.f1) := (blk_cell BK.out 12).trans rfl; have kz17 : w1.cell? ⟨w.heap.size, 17, none⟩ = some (.int .i64 m.err) := (blk_cell BK.out 17).trans rfl; have kz0 : w1.cell? ⟨w.heap.size, 0, none⟩ = some (.int .i64 2) := (by rw [blk_cell BK.out 0]; show some (Value.int .i64 m.kind) = _; rw [HKV.out])) | (go_at_call 50; refine (known_calls _ _ _ _).mono ?_; rintro e w1 ⟨rfl, hb⟩; have n0_ := Aside0.mk (below_step HB.out hb); have n1_ := Aside0.mk (blk_keep hb BK.out); clear HB BK hb kz0 kz1 kz2 kz3 kz11 kz12 kz17; have HB := n0_; have BK := n1_; clear n0_ n1_; have kz1 : w1.cell? ⟨w.heap.size, 1, none⟩ = some (.string m.name) := (blk_cell BK.out 1).trans rfl; have kz2 : w1.cell? ⟨w.heap.size, 2, none⟩ = some (.int .i64 m.cap) := (blk_cell BK.out 2).trans rfl; have kz3 : w1.cell? ⟨w.heap.size, 3, none⟩ = some (.int .i64 m.recaps) := (blk_cell BK.out 3).trans rfl; have kz11 : w1.cell? ⟨w.heap.size, 11, none⟩ = some (.int .i64 m.call.f0) := (blk_cell BK.out 11).trans rfl; have kz12 : w1.cell? ⟨w.heap.size, 12, none⟩ = some (.int .i64 m.call.f1) := (blk_cell BK.out 12).trans rfl; have kz17 : w1.cell? ⟨w.heap.size, 17, none⟩ = some (.int .i64 m.err) := (blk_cell BK.out 17).trans rfl; have kz0 : w1.cell? ⟨w.heap.size, 0, none⟩ = some (.int .i64 2) := (by rw [blk_cell BK.out 0]; show some (Value.int .i64 m.kind) = _; rw [HKV.out])) | (go_at_call 49; refine (rname_calls _ _).mono ?_; rintro e w1 ⟨rfl, hb⟩; have n0_ := Aside0.mk (below_step HB.out hb); have n1_ := Aside0.mk (blk_keep hb BK.out); clear HB BK hb kz0 kz1 kz2 kz3 kz11 kz12 kz17; have HB := n0_; have BK := n1_; clear n0_ n1_; have kz1 : w1.cell? ⟨w.heap.size, 1, none⟩ = some (.string m.name) := (blk_cell BK.out 1).trans rfl; have kz2 : w1.cell? ⟨w.heap.size, 2, none⟩ = some (.int .i64 m.cap) := (blk_cell BK.out 2).trans rfl; have kz3 : w1.cell? ⟨w.heap.size, 3, none⟩ = some (.int .i64 m.recaps) := (blk_cell BK.out 3).trans rfl; have kz11 : w1.cell? ⟨w.heap.size, 11, none⟩ = some (.int .i64 m.call.f0) := (blk_cell BK.out 11).trans rfl; have kz12 : w1.cell? ⟨w.heap.size, 12, none⟩ = some (.int .i64 m.call.f1) := (blk_cell BK.out 12).trans rfl; have kz17 : w1.cell? ⟨w.heap.size, 17, none⟩ = some (.int .i64 m.err) := (blk_cell BK.out 17).trans rfl; have kz0 : w1.cell? ⟨w.heap.size, 0, none⟩ = some (.int .i64 2) := (by rw [blk_cell BK.out 0]; show some (Value.int .i64 m.kind) = _; rw [HKV.out])) | (go_at_call 43; refine (within_calls _ _ _ _).mono ?_; rintro e w1 ⟨rfl, hb⟩; have n0_ := Aside0.mk (below_step HB.out hb); have n1_ := Aside0.mk (blk_keep hb BK.out); clear HB BK hb kz0 kz1 kz2 kz3 kz11 kz12 kz17; have HB := n0_; have BK := n1_; clear n0_ n1_; have kz1 : w1.cell? ⟨w.heap.size, 1, none⟩ = some (.string m.name) := (blk_cell BK.out 1).trans rfl; have kz2 : w1.cell? ⟨w.heap.size, 2, none⟩ = some (.int .i64 m.cap) := (blk_cell BK.out 2).trans rfl; have kz3 : w1.cell? ⟨w.heap.size, 3, none⟩ = some (.int .i64 m.recaps) := (blk_cell BK.out 3).trans rfl; have kz11 : w1.cell? ⟨w.heap.size, 11, none⟩ = some (.int .i64 m.call.f0) := (blk_cell BK.out 11).trans rfl; have kz12 : w1.cell? ⟨w.heap.size, 12, none⟩ = some (.int .i64 m.call.f1) := (blk_cell BK.out 12).trans rfl; have kz17 : w1.cell? ⟨w.heap.size, 17, none⟩ = some (.int .i64 m.err) := (blk_cell BK.out 17).trans rfl; have kz0 : w1.cell? ⟨w.heap.size, 0, none⟩ = some (.int .i64 2) := (by rw [blk_cell BK.out 0]; show some (Value.int .i64 m.kind) = _; rw [HKV.out])))
            all_goals go_ret
            all_goals refine ⟨congrArg (fun b => Ending.returned (Value.bool b)) (bool_dcd ?_), HB.out⟩
            all_goals rw [HF.out]
            all_goals clear HF HKV HB BK HI HR HL HWA hu33 hu23 hu25 hu27 hu29 hHeld HK HKB HLB
            all_goals first | (simp [*]; done) | (simp_all; done)
          · have hiff := iff_2 m HKV.out (fun h => h.elim h0 h1) HL.out
            have HF := Aside0.mk hiff
            have he0 : (m.err == 0) = false := by simp [h0]
            have he0n : (m.err != 0) = true := by simp [h0]
            have he1 : (m.err == 101) = false := by simp [h1]
            have he1n : (m.err != 101) = true := by simp [h1]
            clear hiff h0 h1
            go_wp2_with (first | (go_at_call 46; refine (rcall_calls _ _ _).mono ?_; rintro e w1 ⟨rfl, hb⟩; have n0_ := Aside0.mk (below_step HB.out hb); have n1_ := Aside0.mk (blk_keep hb BK.out); clear HB BK hb kz0 kz1 kz2 kz3 kz11 kz12 kz17; have HB := n0_; have BK := n1_; clear n0_ n1_; have kz1 : w1.cell? ⟨w.heap.size, 1, none⟩ = some (.string m.name) := (blk_cell BK.out 1).trans rfl; have kz2 : w1.cell? ⟨w.heap.size, 2, none⟩ = some (.int .i64 m.cap) := (blk_cell BK.out 2).trans rfl; have kz3 : w1.cell? ⟨w.heap.size, 3, none⟩ = some (.int .i64 m.recaps) := (blk_cell BK.out 3).trans rfl; have kz11 : w1.cell? ⟨w.heap.size, 11, none⟩ = some (.int .i64 m.call.f0) := (blk_cell BK.out 11).trans rfl; have kz12 : w1.cell? ⟨w.heap.size, 12, none⟩ = some (.int .i64 m.call.f1) := (blk_cell BK.out 12).trans rfl; have kz17 : w1.cell? ⟨w.heap.size, 17, none⟩ = some (.int .i64 m.err) := (blk_cell BK.out 17).trans rfl; have kz0 : w1.cell? ⟨w.heap.size, 0, none⟩ = some (.int .i64 2) := (by rw [blk_cell BK.out 0]; show some (Value.int .i64 m.kind) = _; rw [HKV.out])) | (go_at_call 50; refine (known_calls _ _ _ _).mono ?_; rintro e w1 ⟨rfl, hb⟩; have n0_ := Aside0.mk (below_step HB.out hb); have n1_ := Aside0.mk (blk_keep hb BK.out); clear HB BK hb kz0 kz1 kz2 kz3 kz11 kz12 kz17; have HB := n0_; have BK := n1_; clear n0_ n1_; have kz1 : w1.cell? ⟨w.heap.size, 1, none⟩ = some (.string m.name) := (blk_cell BK.out 1).trans rfl; have kz2 : w1.cell? ⟨w.heap.size, 2, none⟩ = some (.int .i64 m.cap) := (blk_cell BK.out 2).trans rfl; have kz3 : w1.cell? ⟨w.heap.size, 3, none⟩ = some (.int .i64 m.recaps) := (blk_cell BK.out 3).trans rfl; have kz11 : w1.cell? ⟨w.heap.size, 11, none⟩ = some (.int .i64 m.call.f0) := (blk_cell BK.out 11).trans rfl; have kz12 : w1.cell? ⟨w.heap.size, 12, none⟩ = some (.int .i64 m.call.f1) := (blk_cell BK.out 12).trans rfl; have kz17 : w1.cell? ⟨w.heap.size, 17, none⟩ = some (.int .i64 m.err) := (blk_cell BK.out 17).trans rfl; have kz0 : w1.cell? ⟨w.heap.size, 0, none⟩ = some (.int .i64 2) := (by rw [blk_cell BK.out 0]; show some (Value.int .i64 m.kind) = _; rw [HKV.out])) | (go_at_call 49; refine (rname_calls _ _).mono ?_; rintro e w1 ⟨rfl, hb⟩; have n0_ := Aside0.mk (below_step HB.out hb); have n1_ := Aside0.mk (blk_keep hb BK.out); clear HB BK hb kz0 kz1 kz2 kz3 kz11 kz12 kz17; have HB := n0_; have BK := n1_; clear n0_ n1_; have kz1 : w1.cell? ⟨w.heap.size, 1, none⟩ = some (.string m.name) := (blk_cell BK.out 1).trans rfl; have kz2 : w1.cell? ⟨w.heap.size, 2, none⟩ = some (.int .i64 m.cap) := (blk_cell BK.out 2).trans rfl; have kz3 : w1.cell? ⟨w.heap.size, 3, none⟩ = some (.int .i64 m.recaps) := (blk_cell BK.out 3).trans rfl; have kz11 : w1.cell? ⟨w.heap.size, 11, none⟩ = some (.int .i64 m.call.f0) := (blk_cell BK.out 11).trans rfl; have kz12 : w1.cell? ⟨w.heap.size, 12, none⟩ = some (.int .i64 m.call.f1) := (blk_cell BK.out 12).trans rfl; have kz17 : w1.cell? ⟨w.heap.size, 17, none⟩ = some (.int .i64 m.err) := (blk_cell BK.out 17).trans rfl; have kz0 : w1.cell? ⟨w.heap.size, 0, none⟩ = some (.int .i64 2) := (by rw [blk_cell BK.out 0]; show some (Value.int .i64 m.kind) = _; rw [HKV.out])) | (go_at_call 43; refine (within_calls _ _ _ _).mono ?_; rintro e w1 ⟨rfl, hb⟩; have n0_ := Aside0.mk (below_step HB.out hb); have n1_ := Aside0.mk (blk_keep hb BK.out); clear HB BK hb kz0 kz1 kz2 kz3 kz11 kz12 kz17; have HB := n0_; have BK := n1_; clear n0_ n1_; have kz1 : w1.cell? ⟨w.heap.size, 1, none⟩ = some (.string m.name) := (blk_cell BK.out 1).trans rfl; have kz2 : w1.cell? ⟨w.heap.size, 2, none⟩ = some (.int .i64 m.cap) := (blk_cell BK.out 2).trans rfl; have kz3 : w1.cell? ⟨w.heap.size, 3, none⟩ = some (.int .i64 m.recaps) := (blk_cell BK.out 3).trans rfl; have kz11 : w1.cell? ⟨w.heap.size, 11, none⟩ = some (.int .i64 m.call.f0) := (blk_cell BK.out 11).trans rfl; have kz12 : w1.cell? ⟨w.heap.size, 12, none⟩ = some (.int .i64 m.call.f1) := (blk_cell BK.out 12).trans rfl; have kz17 : w1.cell? ⟨w.heap.size, 17, none⟩ = some (.int .i64 m.err) := (blk_cell BK.out 17).trans rfl; have kz0 : w1.cell? ⟨w.heap.size, 0, none⟩ = some (.int .i64 2) := (by rw [blk_cell BK.out 0]; show some (Value.int .i64 m.kind) = _; rw [HKV.out])))
            all_goals go_ret
            all_goals refine ⟨congrArg (fun b => Ending.returned (Value.bool b)) (bool_dcd ?_), HB.out⟩
            all_goals rw [HF.out]
            all_goals clear HF HKV HB BK HI HR HL HWA hu33 hu23 hu25 hu27 hu29 hHeld HK HKB HLB
            all_goals first | (simp [*]; done) | (simp_all; done)
      · have HKV := Aside0.mk hv
        have hiff := iff_3 m hv HL.out
        have HF := Aside0.mk hiff
        clear hv hiff
        have kz0 : w3.cell? ⟨w.heap.size, 0, none⟩ = some (.int .i64 3) := by rw [blk_cell BK.out 0]; show some (Value.int .i64 m.kind) = _; rw [HKV.out]
        have kz1 : w3.cell? ⟨w.heap.size, 1, none⟩ = some (.string m.name) := (blk_cell BK.out 1).trans rfl
        have kz2 : w3.cell? ⟨w.heap.size, 2, none⟩ = some (.int .i64 m.cap) := (blk_cell BK.out 2).trans rfl
        have kz3 : w3.cell? ⟨w.heap.size, 3, none⟩ = some (.int .i64 m.recaps) := (blk_cell BK.out 3).trans rfl
        have kz4 : w3.cell? ⟨w.heap.size, 4, none⟩ = some (.int .i64 m.epoch.f0) := (blk_cell BK.out 4).trans rfl
        have kz5 : w3.cell? ⟨w.heap.size, 5, none⟩ = some (.int .i64 m.epoch.f1) := (blk_cell BK.out 5).trans rfl
        have kz8 : w3.cell? ⟨w.heap.size, 8, none⟩ = some (.int .i64 m.rights.f0) := (blk_cell BK.out 8).trans rfl
        have kz9 : w3.cell? ⟨w.heap.size, 9, none⟩ = some (.int .i64 m.rights.f1) := (blk_cell BK.out 9).trans rfl
        have kz10 : w3.cell? ⟨w.heap.size, 10, none⟩ = some (.int .i64 m.held) := (blk_cell BK.out 10).trans rfl
        go_wp2_with (first | (go_at_call 50; refine (known_calls _ _ _ _).mono ?_; rintro e w1 ⟨rfl, hb⟩; have n0_ := Aside0.mk (below_step HB.out hb); have n1_ := Aside0.mk (blk_keep hb BK.out); clear HB BK hb kz0 kz1 kz2 kz3 kz4 kz5 kz8 kz9 kz10; have HB := n0_; have BK := n1_; clear n0_ n1_; have kz1 : w1.cell? ⟨w.heap.size, 1, none⟩ = some (.string m.name) := (blk_cell BK.out 1).trans rfl; have kz2 : w1.cell? ⟨w.heap.size, 2, none⟩ = some (.int .i64 m.cap) := (blk_cell BK.out 2).trans rfl; have kz3 : w1.cell? ⟨w.heap.size, 3, none⟩ = some (.int .i64 m.recaps) := (blk_cell BK.out 3).trans rfl; have kz4 : w1.cell? ⟨w.heap.size, 4, none⟩ = some (.int .i64 m.epoch.f0) := (blk_cell BK.out 4).trans rfl; have kz5 : w1.cell? ⟨w.heap.size, 5, none⟩ = some (.int .i64 m.epoch.f1) := (blk_cell BK.out 5).trans rfl; have kz8 : w1.cell? ⟨w.heap.size, 8, none⟩ = some (.int .i64 m.rights.f0) := (blk_cell BK.out 8).trans rfl; have kz9 : w1.cell? ⟨w.heap.size, 9, none⟩ = some (.int .i64 m.rights.f1) := (blk_cell BK.out 9).trans rfl; have kz10 : w1.cell? ⟨w.heap.size, 10, none⟩ = some (.int .i64 m.held) := (blk_cell BK.out 10).trans rfl; have kz0 : w1.cell? ⟨w.heap.size, 0, none⟩ = some (.int .i64 3) := (by rw [blk_cell BK.out 0]; show some (Value.int .i64 m.kind) = _; rw [HKV.out])) | (go_at_call 51; refine (rrights_calls _ _ _).mono ?_; rintro e w1 ⟨rfl, hb⟩; have n0_ := Aside0.mk (below_step HB.out hb); have n1_ := Aside0.mk (blk_keep hb BK.out); clear HB BK hb kz0 kz1 kz2 kz3 kz4 kz5 kz8 kz9 kz10; have HB := n0_; have BK := n1_; clear n0_ n1_; have kz1 : w1.cell? ⟨w.heap.size, 1, none⟩ = some (.string m.name) := (blk_cell BK.out 1).trans rfl; have kz2 : w1.cell? ⟨w.heap.size, 2, none⟩ = some (.int .i64 m.cap) := (blk_cell BK.out 2).trans rfl; have kz3 : w1.cell? ⟨w.heap.size, 3, none⟩ = some (.int .i64 m.recaps) := (blk_cell BK.out 3).trans rfl; have kz4 : w1.cell? ⟨w.heap.size, 4, none⟩ = some (.int .i64 m.epoch.f0) := (blk_cell BK.out 4).trans rfl; have kz5 : w1.cell? ⟨w.heap.size, 5, none⟩ = some (.int .i64 m.epoch.f1) := (blk_cell BK.out 5).trans rfl; have kz8 : w1.cell? ⟨w.heap.size, 8, none⟩ = some (.int .i64 m.rights.f0) := (blk_cell BK.out 8).trans rfl; have kz9 : w1.cell? ⟨w.heap.size, 9, none⟩ = some (.int .i64 m.rights.f1) := (blk_cell BK.out 9).trans rfl; have kz10 : w1.cell? ⟨w.heap.size, 10, none⟩ = some (.int .i64 m.held) := (blk_cell BK.out 10).trans rfl; have kz0 : w1.cell? ⟨w.heap.size, 0, none⟩ = some (.int .i64 3) := (by rw [blk_cell BK.out 0]; show some (Value.int .i64 m.kind) = _; rw [HKV.out])) | (go_at_call 43; refine (within_calls _ _ _ _).mono ?_; rintro e w1 ⟨rfl, hb⟩; have n0_ := Aside0.mk (below_step HB.out hb); have n1_ := Aside0.mk (blk_keep hb BK.out); clear HB BK hb kz0 kz1 kz2 kz3 kz4 kz5 kz8 kz9 kz10; have HB := n0_; have BK := n1_; clear n0_ n1_; have kz1 : w1.cell? ⟨w.heap.size, 1, none⟩ = some (.string m.name) := (blk_cell BK.out 1).trans rfl; have kz2 : w1.cell? ⟨w.heap.size, 2, none⟩ = some (.int .i64 m.cap) := (blk_cell BK.out 2).trans rfl; have kz3 : w1.cell? ⟨w.heap.size, 3, none⟩ = some (.int .i64 m.recaps) := (blk_cell BK.out 3).trans rfl; have kz4 : w1.cell? ⟨w.heap.size, 4, none⟩ = some (.int .i64 m.epoch.f0) := (blk_cell BK.out 4).trans rfl; have kz5 : w1.cell? ⟨w.heap.size, 5, none⟩ = some (.int .i64 m.epoch.f1) := (blk_cell BK.out 5).trans rfl; have kz8 : w1.cell? ⟨w.heap.size, 8, none⟩ = some (.int .i64 m.rights.f0) := (blk_cell BK.out 8).trans rfl; have kz9 : w1.cell? ⟨w.heap.size, 9, none⟩ = some (.int .i64 m.rights.f1) := (blk_cell BK.out 9).trans rfl; have kz10 : w1.cell? ⟨w.heap.size, 10, none⟩ = some (.int .i64 m.held) := (blk_cell BK.out 10).trans rfl; have kz0 : w1.cell? ⟨w.heap.size, 0, none⟩ = some (.int .i64 3) := (by rw [blk_cell BK.out 0]; show some (Value.int .i64 m.kind) = _; rw [HKV.out])) | (go_at_call 52; refine (repoch_calls _ _ _).mono ?_; rintro e w1 ⟨rfl, hb⟩; have n0_ := Aside0.mk (below_step HB.out hb); have n1_ := Aside0.mk (blk_keep hb BK.out); clear HB BK hb kz0 kz1 kz2 kz3 kz4 kz5 kz8 kz9 kz10; have HB := n0_; have BK := n1_; clear n0_ n1_; have kz1 : w1.cell? ⟨w.heap.size, 1, none⟩ = some (.string m.name) := (blk_cell BK.out 1).trans rfl; have kz2 : w1.cell? ⟨w.heap.size, 2, none⟩ = some (.int .i64 m.cap) := (blk_cell BK.out 2).trans rfl; have kz3 : w1.cell? ⟨w.heap.size, 3, none⟩ = some (.int .i64 m.recaps) := (blk_cell BK.out 3).trans rfl; have kz4 : w1.cell? ⟨w.heap.size, 4, none⟩ = some (.int .i64 m.epoch.f0) := (blk_cell BK.out 4).trans rfl; have kz5 : w1.cell? ⟨w.heap.size, 5, none⟩ = some (.int .i64 m.epoch.f1) := (blk_cell BK.out 5).trans rfl; have kz8 : w1.cell? ⟨w.heap.size, 8, none⟩ = some (.int .i64 m.rights.f0) := (blk_cell BK.out 8).trans rfl; have kz9 : w1.cell? ⟨w.heap.size, 9, none⟩ = some (.int .i64 m.rights.f1) := (blk_cell BK.out 9).trans rfl; have kz10 : w1.cell? ⟨w.heap.size, 10, none⟩ = some (.int .i64 m.held) := (blk_cell BK.out 10).trans rfl; have kz0 : w1.cell? ⟨w.heap.size, 0, none⟩ = some (.int .i64 3) := (by rw [blk_cell BK.out 0]; show some (Value.int .i64 m.kind) = _; rw [HKV.out])))
        all_goals go_ret
        all_goals refine ⟨congrArg (fun b => Ending.returned (Value.bool b)) (bool_dcd ?_), HB.out⟩
        all_goals rw [HF.out]
        all_goals clear HF HKV HB BK HI HR HL HWA hu33 hu23 hu25 hu27 hu29 hHeld HK HKB HLB
        all_goals first | (simp [*]; done) | (simp_all; done)
      · have HKV := Aside0.mk hv
        have hiff := iff_4 m hv HL.out
        have HF := Aside0.mk hiff
        clear hv hiff
        have kz0 : w3.cell? ⟨w.heap.size, 0, none⟩ = some (.int .i64 4) := by rw [blk_cell BK.out 0]; show some (Value.int .i64 m.kind) = _; rw [HKV.out]
        have kz1 : w3.cell? ⟨w.heap.size, 1, none⟩ = some (.string m.name) := (blk_cell BK.out 1).trans rfl
        have kz2 : w3.cell? ⟨w.heap.size, 2, none⟩ = some (.int .i64 m.cap) := (blk_cell BK.out 2).trans rfl
        have kz3 : w3.cell? ⟨w.heap.size, 3, none⟩ = some (.int .i64 m.recaps) := (blk_cell BK.out 3).trans rfl
        have kz4 : w3.cell? ⟨w.heap.size, 4, none⟩ = some (.int .i64 m.epoch.f0) := (blk_cell BK.out 4).trans rfl
        have kz5 : w3.cell? ⟨w.heap.size, 5, none⟩ = some (.int .i64 m.epoch.f1) := (blk_cell BK.out 5).trans rfl
        have kz8 : w3.cell? ⟨w.heap.size, 8, none⟩ = some (.int .i64 m.rights.f0) := (blk_cell BK.out 8).trans rfl
        have kz9 : w3.cell? ⟨w.heap.size, 9, none⟩ = some (.int .i64 m.rights.f1) := (blk_cell BK.out 9).trans rfl
        have kz10 : w3.cell? ⟨w.heap.size, 10, none⟩ = some (.int .i64 m.held) := (blk_cell BK.out 10).trans rfl
        go_wp2_with (first | (go_at_call 50; refine (known_calls _ _ _ _).mono ?_; rintro e w1 ⟨rfl, hb⟩; have n0_ := Aside0.mk (below_step HB.out hb); have n1_ := Aside0.mk (blk_keep hb BK.out); clear HB BK hb kz0 kz1 kz2 kz3 kz4 kz5 kz8 kz9 kz10; have HB := n0_; have BK := n1_; clear n0_ n1_; have kz1 : w1.cell? ⟨w.heap.size, 1, none⟩ = some (.string m.name) := (blk_cell BK.out 1).trans rfl; have kz2 : w1.cell? ⟨w.heap.size, 2, none⟩ = some (.int .i64 m.cap) := (blk_cell BK.out 2).trans rfl; have kz3 : w1.cell? ⟨w.heap.size, 3, none⟩ = some (.int .i64 m.recaps) := (blk_cell BK.out 3).trans rfl; have kz4 : w1.cell? ⟨w.heap.size, 4, none⟩ = some (.int .i64 m.epoch.f0) := (blk_cell BK.out 4).trans rfl; have kz5 : w1.cell? ⟨w.heap.size, 5, none⟩ = some (.int .i64 m.epoch.f1) := (blk_cell BK.out 5).trans rfl; have kz8 : w1.cell? ⟨w.heap.size, 8, none⟩ = some (.int .i64 m.rights.f0) := (blk_cell BK.out 8).trans rfl; have kz9 : w1.cell? ⟨w.heap.size, 9, none⟩ = some (.int .i64 m.rights.f1) := (blk_cell BK.out 9).trans rfl; have kz10 : w1.cell? ⟨w.heap.size, 10, none⟩ = some (.int .i64 m.held) := (blk_cell BK.out 10).trans rfl; have kz0 : w1.cell? ⟨w.heap.size, 0, none⟩ = some (.int .i64 4) := (by rw [blk_cell BK.out 0]; show some (Value.int .i64 m.kind) = _; rw [HKV.out])) | (go_at_call 51; refine (rrights_calls _ _ _).mono ?_; rintro e w1 ⟨rfl, hb⟩; have n0_ := Aside0.mk (below_step HB.out hb); have n1_ := Aside0.mk (blk_keep hb BK.out); clear HB BK hb kz0 kz1 kz2 kz3 kz4 kz5 kz8 kz9 kz10; have HB := n0_; have BK := n1_; clear n0_ n1_; have kz1 : w1.cell? ⟨w.heap.size, 1, none⟩ = some (.string m.name) := (blk_cell BK.out 1).trans rfl; have kz2 : w1.cell? ⟨w.heap.size, 2, none⟩ = some (.int .i64 m.cap) := (blk_cell BK.out 2).trans rfl; have kz3 : w1.cell? ⟨w.heap.size, 3, none⟩ = some (.int .i64 m.recaps) := (blk_cell BK.out 3).trans rfl; have kz4 : w1.cell? ⟨w.heap.size, 4, none⟩ = some (.int .i64 m.epoch.f0) := (blk_cell BK.out 4).trans rfl; have kz5 : w1.cell? ⟨w.heap.size, 5, none⟩ = some (.int .i64 m.epoch.f1) := (blk_cell BK.out 5).trans rfl; have kz8 : w1.cell? ⟨w.heap.size, 8, none⟩ = some (.int .i64 m.rights.f0) := (blk_cell BK.out 8).trans rfl; have kz9 : w1.cell? ⟨w.heap.size, 9, none⟩ = some (.int .i64 m.rights.f1) := (blk_cell BK.out 9).trans rfl; have kz10 : w1.cell? ⟨w.heap.size, 10, none⟩ = some (.int .i64 m.held) := (blk_cell BK.out 10).trans rfl; have kz0 : w1.cell? ⟨w.heap.size, 0, none⟩ = some (.int .i64 4) := (by rw [blk_cell BK.out 0]; show some (Value.int .i64 m.kind) = _; rw [HKV.out])) | (go_at_call 43; refine (within_calls _ _ _ _).mono ?_; rintro e w1 ⟨rfl, hb⟩; have n0_ := Aside0.mk (below_step HB.out hb); have n1_ := Aside0.mk (blk_keep hb BK.out); clear HB BK hb kz0 kz1 kz2 kz3 kz4 kz5 kz8 kz9 kz10; have HB := n0_; have BK := n1_; clear n0_ n1_; have kz1 : w1.cell? ⟨w.heap.size, 1, none⟩ = some (.string m.name) := (blk_cell BK.out 1).trans rfl; have kz2 : w1.cell? ⟨w.heap.size, 2, none⟩ = some (.int .i64 m.cap) := (blk_cell BK.out 2).trans rfl; have kz3 : w1.cell? ⟨w.heap.size, 3, none⟩ = some (.int .i64 m.recaps) := (blk_cell BK.out 3).trans rfl; have kz4 : w1.cell? ⟨w.heap.size, 4, none⟩ = some (.int .i64 m.epoch.f0) := (blk_cell BK.out 4).trans rfl; have kz5 : w1.cell? ⟨w.heap.size, 5, none⟩ = some (.int .i64 m.epoch.f1) := (blk_cell BK.out 5).trans rfl; have kz8 : w1.cell? ⟨w.heap.size, 8, none⟩ = some (.int .i64 m.rights.f0) := (blk_cell BK.out 8).trans rfl; have kz9 : w1.cell? ⟨w.heap.size, 9, none⟩ = some (.int .i64 m.rights.f1) := (blk_cell BK.out 9).trans rfl; have kz10 : w1.cell? ⟨w.heap.size, 10, none⟩ = some (.int .i64 m.held) := (blk_cell BK.out 10).trans rfl; have kz0 : w1.cell? ⟨w.heap.size, 0, none⟩ = some (.int .i64 4) := (by rw [blk_cell BK.out 0]; show some (Value.int .i64 m.kind) = _; rw [HKV.out])) | (go_at_call 52; refine (repoch_calls _ _ _).mono ?_; rintro e w1 ⟨rfl, hb⟩; have n0_ := Aside0.mk (below_step HB.out hb); have n1_ := Aside0.mk (blk_keep hb BK.out); clear HB BK hb kz0 kz1 kz2 kz3 kz4 kz5 kz8 kz9 kz10; have HB := n0_; have BK := n1_; clear n0_ n1_; have kz1 : w1.cell? ⟨w.heap.size, 1, none⟩ = some (.string m.name) := (blk_cell BK.out 1).trans rfl; have kz2 : w1.cell? ⟨w.heap.size, 2, none⟩ = some (.int .i64 m.cap) := (blk_cell BK.out 2).trans rfl; have kz3 : w1.cell? ⟨w.heap.size, 3, none⟩ = some (.int .i64 m.recaps) := (blk_cell BK.out 3).trans rfl; have kz4 : w1.cell? ⟨w.heap.size, 4, none⟩ = some (.int .i64 m.epoch.f0) := (blk_cell BK.out 4).trans rfl; have kz5 : w1.cell? ⟨w.heap.size, 5, none⟩ = some (.int .i64 m.epoch.f1) := (blk_cell BK.out 5).trans rfl; have kz8 : w1.cell? ⟨w.heap.size, 8, none⟩ = some (.int .i64 m.rights.f0) := (blk_cell BK.out 8).trans rfl; have kz9 : w1.cell? ⟨w.heap.size, 9, none⟩ = some (.int .i64 m.rights.f1) := (blk_cell BK.out 9).trans rfl; have kz10 : w1.cell? ⟨w.heap.size, 10, none⟩ = some (.int .i64 m.held) := (blk_cell BK.out 10).trans rfl; have kz0 : w1.cell? ⟨w.heap.size, 0, none⟩ = some (.int .i64 4) := (by rw [blk_cell BK.out 0]; show some (Value.int .i64 m.kind) = _; rw [HKV.out])))
        all_goals go_ret
        all_goals refine ⟨congrArg (fun b => Ending.returned (Value.bool b)) (bool_dcd ?_), HB.out⟩
        all_goals rw [HF.out]
        all_goals clear HF HKV HB BK HI HR HL HWA hu33 hu23 hu25 hu27 hu29 hHeld HK HKB HLB
        all_goals first | (simp [*]; done) | (simp_all; done)
      · have HKV := Aside0.mk hv
        have hiff := iff_5 m hv HL.out
        have HF := Aside0.mk hiff
        clear hv hiff
        have kz0 : w3.cell? ⟨w.heap.size, 0, none⟩ = some (.int .i64 5) := by rw [blk_cell BK.out 0]; show some (Value.int .i64 m.kind) = _; rw [HKV.out]
        have kz1 : w3.cell? ⟨w.heap.size, 1, none⟩ = some (.string m.name) := (blk_cell BK.out 1).trans rfl
        have kz2 : w3.cell? ⟨w.heap.size, 2, none⟩ = some (.int .i64 m.cap) := (blk_cell BK.out 2).trans rfl
        have kz3 : w3.cell? ⟨w.heap.size, 3, none⟩ = some (.int .i64 m.recaps) := (blk_cell BK.out 3).trans rfl
        have kz4 : w3.cell? ⟨w.heap.size, 4, none⟩ = some (.int .i64 m.epoch.f0) := (blk_cell BK.out 4).trans rfl
        have kz5 : w3.cell? ⟨w.heap.size, 5, none⟩ = some (.int .i64 m.epoch.f1) := (blk_cell BK.out 5).trans rfl
        have kz8 : w3.cell? ⟨w.heap.size, 8, none⟩ = some (.int .i64 m.rights.f0) := (blk_cell BK.out 8).trans rfl
        have kz9 : w3.cell? ⟨w.heap.size, 9, none⟩ = some (.int .i64 m.rights.f1) := (blk_cell BK.out 9).trans rfl
        have kz10 : w3.cell? ⟨w.heap.size, 10, none⟩ = some (.int .i64 m.held) := (blk_cell BK.out 10).trans rfl
        go_wp2_with (first | (go_at_call 50; refine (known_calls _ _ _ _).mono ?_; rintro e w1 ⟨rfl, hb⟩; have n0_ := Aside0.mk (below_step HB.out hb); have n1_ := Aside0.mk (blk_keep hb BK.out); clear HB BK hb kz0 kz1 kz2 kz3 kz4 kz5 kz8 kz9 kz10; have HB := n0_; have BK := n1_; clear n0_ n1_; have kz1 : w1.cell? ⟨w.heap.size, 1, none⟩ = some (.string m.name) := (blk_cell BK.out 1).trans rfl; have kz2 : w1.cell? ⟨w.heap.size, 2, none⟩ = some (.int .i64 m.cap) := (blk_cell BK.out 2).trans rfl; have kz3 : w1.cell? ⟨w.heap.size, 3, none⟩ = some (.int .i64 m.recaps) := (blk_cell BK.out 3).trans rfl; have kz4 : w1.cell? ⟨w.heap.size, 4, none⟩ = some (.int .i64 m.epoch.f0) := (blk_cell BK.out 4).trans rfl; have kz5 : w1.cell? ⟨w.heap.size, 5, none⟩ = some (.int .i64 m.epoch.f1) := (blk_cell BK.out 5).trans rfl; have kz8 : w1.cell? ⟨w.heap.size, 8, none⟩ = some (.int .i64 m.rights.f0) := (blk_cell BK.out 8).trans rfl; have kz9 : w1.cell? ⟨w.heap.size, 9, none⟩ = some (.int .i64 m.rights.f1) := (blk_cell BK.out 9).trans rfl; have kz10 : w1.cell? ⟨w.heap.size, 10, none⟩ = some (.int .i64 m.held) := (blk_cell BK.out 10).trans rfl; have kz0 : w1.cell? ⟨w.heap.size, 0, none⟩ = some (.int .i64 5) := (by rw [blk_cell BK.out 0]; show some (Value.int .i64 m.kind) = _; rw [HKV.out])) | (go_at_call 51; refine (rrights_calls _ _ _).mono ?_; rintro e w1 ⟨rfl, hb⟩; have n0_ := Aside0.mk (below_step HB.out hb); have n1_ := Aside0.mk (blk_keep hb BK.out); clear HB BK hb kz0 kz1 kz2 kz3 kz4 kz5 kz8 kz9 kz10; have HB := n0_; have BK := n1_; clear n0_ n1_; have kz1 : w1.cell? ⟨w.heap.size, 1, none⟩ = some (.string m.name) := (blk_cell BK.out 1).trans rfl; have kz2 : w1.cell? ⟨w.heap.size, 2, none⟩ = some (.int .i64 m.cap) := (blk_cell BK.out 2).trans rfl; have kz3 : w1.cell? ⟨w.heap.size, 3, none⟩ = some (.int .i64 m.recaps) := (blk_cell BK.out 3).trans rfl; have kz4 : w1.cell? ⟨w.heap.size, 4, none⟩ = some (.int .i64 m.epoch.f0) := (blk_cell BK.out 4).trans rfl; have kz5 : w1.cell? ⟨w.heap.size, 5, none⟩ = some (.int .i64 m.epoch.f1) := (blk_cell BK.out 5).trans rfl; have kz8 : w1.cell? ⟨w.heap.size, 8, none⟩ = some (.int .i64 m.rights.f0) := (blk_cell BK.out 8).trans rfl; have kz9 : w1.cell? ⟨w.heap.size, 9, none⟩ = some (.int .i64 m.rights.f1) := (blk_cell BK.out 9).trans rfl; have kz10 : w1.cell? ⟨w.heap.size, 10, none⟩ = some (.int .i64 m.held) := (blk_cell BK.out 10).trans rfl; have kz0 : w1.cell? ⟨w.heap.size, 0, none⟩ = some (.int .i64 5) := (by rw [blk_cell BK.out 0]; show some (Value.int .i64 m.kind) = _; rw [HKV.out])) | (go_at_call 43; refine (within_calls _ _ _ _).mono ?_; rintro e w1 ⟨rfl, hb⟩; have n0_ := Aside0.mk (below_step HB.out hb); have n1_ := Aside0.mk (blk_keep hb BK.out); clear HB BK hb kz0 kz1 kz2 kz3 kz4 kz5 kz8 kz9 kz10; have HB := n0_; have BK := n1_; clear n0_ n1_; have kz1 : w1.cell? ⟨w.heap.size, 1, none⟩ = some (.string m.name) := (blk_cell BK.out 1).trans rfl; have kz2 : w1.cell? ⟨w.heap.size, 2, none⟩ = some (.int .i64 m.cap) := (blk_cell BK.out 2).trans rfl; have kz3 : w1.cell? ⟨w.heap.size, 3, none⟩ = some (.int .i64 m.recaps) := (blk_cell BK.out 3).trans rfl; have kz4 : w1.cell? ⟨w.heap.size, 4, none⟩ = some (.int .i64 m.epoch.f0) := (blk_cell BK.out 4).trans rfl; have kz5 : w1.cell? ⟨w.heap.size, 5, none⟩ = some (.int .i64 m.epoch.f1) := (blk_cell BK.out 5).trans rfl; have kz8 : w1.cell? ⟨w.heap.size, 8, none⟩ = some (.int .i64 m.rights.f0) := (blk_cell BK.out 8).trans rfl; have kz9 : w1.cell? ⟨w.heap.size, 9, none⟩ = some (.int .i64 m.rights.f1) := (blk_cell BK.out 9).trans rfl; have kz10 : w1.cell? ⟨w.heap.size, 10, none⟩ = some (.int .i64 m.held) := (blk_cell BK.out 10).trans rfl; have kz0 : w1.cell? ⟨w.heap.size, 0, none⟩ = some (.int .i64 5) := (by rw [blk_cell BK.out 0]; show some (Value.int .i64 m.kind) = _; rw [HKV.out])) | (go_at_call 52; refine (repoch_calls _ _ _).mono ?_; rintro e w1 ⟨rfl, hb⟩; have n0_ := Aside0.mk (below_step HB.out hb); have n1_ := Aside0.mk (blk_keep hb BK.out); clear HB BK hb kz0 kz1 kz2 kz3 kz4 kz5 kz8 kz9 kz10; have HB := n0_; have BK := n1_; clear n0_ n1_; have kz1 : w1.cell? ⟨w.heap.size, 1, none⟩ = some (.string m.name) := (blk_cell BK.out 1).trans rfl; have kz2 : w1.cell? ⟨w.heap.size, 2, none⟩ = some (.int .i64 m.cap) := (blk_cell BK.out 2).trans rfl; have kz3 : w1.cell? ⟨w.heap.size, 3, none⟩ = some (.int .i64 m.recaps) := (blk_cell BK.out 3).trans rfl; have kz4 : w1.cell? ⟨w.heap.size, 4, none⟩ = some (.int .i64 m.epoch.f0) := (blk_cell BK.out 4).trans rfl; have kz5 : w1.cell? ⟨w.heap.size, 5, none⟩ = some (.int .i64 m.epoch.f1) := (blk_cell BK.out 5).trans rfl; have kz8 : w1.cell? ⟨w.heap.size, 8, none⟩ = some (.int .i64 m.rights.f0) := (blk_cell BK.out 8).trans rfl; have kz9 : w1.cell? ⟨w.heap.size, 9, none⟩ = some (.int .i64 m.rights.f1) := (blk_cell BK.out 9).trans rfl; have kz10 : w1.cell? ⟨w.heap.size, 10, none⟩ = some (.int .i64 m.held) := (blk_cell BK.out 10).trans rfl; have kz0 : w1.cell? ⟨w.heap.size, 0, none⟩ = some (.int .i64 5) := (by rw [blk_cell BK.out 0]; show some (Value.int .i64 m.kind) = _; rw [HKV.out])))
        all_goals go_ret
        all_goals refine ⟨congrArg (fun b => Ending.returned (Value.bool b)) (bool_dcd ?_), HB.out⟩
        all_goals rw [HF.out]
        all_goals clear HF HKV HB BK HI HR HL HWA hu33 hu23 hu25 hu27 hu29 hHeld HK HKB HLB
        all_goals first | (simp [*]; done) | (simp_all; done)
      · have HKV := Aside0.mk hv
        have hiff := iff_6 m hv HL.out
        have HF := Aside0.mk hiff
        clear hv hiff
        have kz0 : w3.cell? ⟨w.heap.size, 0, none⟩ = some (.int .i64 6) := by rw [blk_cell BK.out 0]; show some (Value.int .i64 m.kind) = _; rw [HKV.out]
        have kz1 : w3.cell? ⟨w.heap.size, 1, none⟩ = some (.string m.name) := (blk_cell BK.out 1).trans rfl
        have kz2 : w3.cell? ⟨w.heap.size, 2, none⟩ = some (.int .i64 m.cap) := (blk_cell BK.out 2).trans rfl
        have kz3 : w3.cell? ⟨w.heap.size, 3, none⟩ = some (.int .i64 m.recaps) := (blk_cell BK.out 3).trans rfl
        have kz4 : w3.cell? ⟨w.heap.size, 4, none⟩ = some (.int .i64 m.epoch.f0) := (blk_cell BK.out 4).trans rfl
        have kz5 : w3.cell? ⟨w.heap.size, 5, none⟩ = some (.int .i64 m.epoch.f1) := (blk_cell BK.out 5).trans rfl
        have kz8 : w3.cell? ⟨w.heap.size, 8, none⟩ = some (.int .i64 m.rights.f0) := (blk_cell BK.out 8).trans rfl
        have kz9 : w3.cell? ⟨w.heap.size, 9, none⟩ = some (.int .i64 m.rights.f1) := (blk_cell BK.out 9).trans rfl
        have kz10 : w3.cell? ⟨w.heap.size, 10, none⟩ = some (.int .i64 m.held) := (blk_cell BK.out 10).trans rfl
        go_wp2_with (first | (go_at_call 50; refine (known_calls _ _ _ _).mono ?_; rintro e w1 ⟨rfl, hb⟩; have n0_ := Aside0.mk (below_step HB.out hb); have n1_ := Aside0.mk (blk_keep hb BK.out); clear HB BK hb kz0 kz1 kz2 kz3 kz4 kz5 kz8 kz9 kz10; have HB := n0_; have BK := n1_; clear n0_ n1_; have kz1 : w1.cell? ⟨w.heap.size, 1, none⟩ = some (.string m.name) := (blk_cell BK.out 1).trans rfl; have kz2 : w1.cell? ⟨w.heap.size, 2, none⟩ = some (.int .i64 m.cap) := (blk_cell BK.out 2).trans rfl; have kz3 : w1.cell? ⟨w.heap.size, 3, none⟩ = some (.int .i64 m.recaps) := (blk_cell BK.out 3).trans rfl; have kz4 : w1.cell? ⟨w.heap.size, 4, none⟩ = some (.int .i64 m.epoch.f0) := (blk_cell BK.out 4).trans rfl; have kz5 : w1.cell? ⟨w.heap.size, 5, none⟩ = some (.int .i64 m.epoch.f1) := (blk_cell BK.out 5).trans rfl; have kz8 : w1.cell? ⟨w.heap.size, 8, none⟩ = some (.int .i64 m.rights.f0) := (blk_cell BK.out 8).trans rfl; have kz9 : w1.cell? ⟨w.heap.size, 9, none⟩ = some (.int .i64 m.rights.f1) := (blk_cell BK.out 9).trans rfl; have kz10 : w1.cell? ⟨w.heap.size, 10, none⟩ = some (.int .i64 m.held) := (blk_cell BK.out 10).trans rfl; have kz0 : w1.cell? ⟨w.heap.size, 0, none⟩ = some (.int .i64 6) := (by rw [blk_cell BK.out 0]; show some (Value.int .i64 m.kind) = _; rw [HKV.out])) | (go_at_call 51; refine (rrights_calls _ _ _).mono ?_; rintro e w1 ⟨rfl, hb⟩; have n0_ := Aside0.mk (below_step HB.out hb); have n1_ := Aside0.mk (blk_keep hb BK.out); clear HB BK hb kz0 kz1 kz2 kz3 kz4 kz5 kz8 kz9 kz10; have HB := n0_; have BK := n1_; clear n0_ n1_; have kz1 : w1.cell? ⟨w.heap.size, 1, none⟩ = some (.string m.name) := (blk_cell BK.out 1).trans rfl; have kz2 : w1.cell? ⟨w.heap.size, 2, none⟩ = some (.int .i64 m.cap) := (blk_cell BK.out 2).trans rfl; have kz3 : w1.cell? ⟨w.heap.size, 3, none⟩ = some (.int .i64 m.recaps) := (blk_cell BK.out 3).trans rfl; have kz4 : w1.cell? ⟨w.heap.size, 4, none⟩ = some (.int .i64 m.epoch.f0) := (blk_cell BK.out 4).trans rfl; have kz5 : w1.cell? ⟨w.heap.size, 5, none⟩ = some (.int .i64 m.epoch.f1) := (blk_cell BK.out 5).trans rfl; have kz8 : w1.cell? ⟨w.heap.size, 8, none⟩ = some (.int .i64 m.rights.f0) := (blk_cell BK.out 8).trans rfl; have kz9 : w1.cell? ⟨w.heap.size, 9, none⟩ = some (.int .i64 m.rights.f1) := (blk_cell BK.out 9).trans rfl; have kz10 : w1.cell? ⟨w.heap.size, 10, none⟩ = some (.int .i64 m.held) := (blk_cell BK.out 10).trans rfl; have kz0 : w1.cell? ⟨w.heap.size, 0, none⟩ = some (.int .i64 6) := (by rw [blk_cell BK.out 0]; show some (Value.int .i64 m.kind) = _; rw [HKV.out])) | (go_at_call 43; refine (within_calls _ _ _ _).mono ?_; rintro e w1 ⟨rfl, hb⟩; have n0_ := Aside0.mk (below_step HB.out hb); have n1_ := Aside0.mk (blk_keep hb BK.out); clear HB BK hb kz0 kz1 kz2 kz3 kz4 kz5 kz8 kz9 kz10; have HB := n0_; have BK := n1_; clear n0_ n1_; have kz1 : w1.cell? ⟨w.heap.size, 1, none⟩ = some (.string m.name) := (blk_cell BK.out 1).trans rfl; have kz2 : w1.cell? ⟨w.heap.size, 2, none⟩ = some (.int .i64 m.cap) := (blk_cell BK.out 2).trans rfl; have kz3 : w1.cell? ⟨w.heap.size, 3, none⟩ = some (.int .i64 m.recaps) := (blk_cell BK.out 3).trans rfl; have kz4 : w1.cell? ⟨w.heap.size, 4, none⟩ = some (.int .i64 m.epoch.f0) := (blk_cell BK.out 4).trans rfl; have kz5 : w1.cell? ⟨w.heap.size, 5, none⟩ = some (.int .i64 m.epoch.f1) := (blk_cell BK.out 5).trans rfl; have kz8 : w1.cell? ⟨w.heap.size, 8, none⟩ = some (.int .i64 m.rights.f0) := (blk_cell BK.out 8).trans rfl; have kz9 : w1.cell? ⟨w.heap.size, 9, none⟩ = some (.int .i64 m.rights.f1) := (blk_cell BK.out 9).trans rfl; have kz10 : w1.cell? ⟨w.heap.size, 10, none⟩ = some (.int .i64 m.held) := (blk_cell BK.out 10).trans rfl; have kz0 : w1.cell? ⟨w.heap.size, 0, none⟩ = some (.int .i64 6) := (by rw [blk_cell BK.out 0]; show some (Value.int .i64 m.kind) = _; rw [HKV.out])) | (go_at_call 52; refine (repoch_calls _ _ _).mono ?_; rintro e w1 ⟨rfl, hb⟩; have n0_ := Aside0.mk (below_step HB.out hb); have n1_ := Aside0.mk (blk_keep hb BK.out); clear HB BK hb kz0 kz1 kz2 kz3 kz4 kz5 kz8 kz9 kz10; have HB := n0_; have BK := n1_; clear n0_ n1_; have kz1 : w1.cell? ⟨w.heap.size, 1, none⟩ = some (.string m.name) := (blk_cell BK.out 1).trans rfl; have kz2 : w1.cell? ⟨w.heap.size, 2, none⟩ = some (.int .i64 m.cap) := (blk_cell BK.out 2).trans rfl; have kz3 : w1.cell? ⟨w.heap.size, 3, none⟩ = some (.int .i64 m.recaps) := (blk_cell BK.out 3).trans rfl; have kz4 : w1.cell? ⟨w.heap.size, 4, none⟩ = some (.int .i64 m.epoch.f0) := (blk_cell BK.out 4).trans rfl; have kz5 : w1.cell? ⟨w.heap.size, 5, none⟩ = some (.int .i64 m.epoch.f1) := (blk_cell BK.out 5).trans rfl; have kz8 : w1.cell? ⟨w.heap.size, 8, none⟩ = some (.int .i64 m.rights.f0) := (blk_cell BK.out 8).trans rfl; have kz9 : w1.cell? ⟨w.heap.size, 9, none⟩ = some (.int .i64 m.rights.f1) := (blk_cell BK.out 9).trans rfl; have kz10 : w1.cell? ⟨w.heap.size, 10, none⟩ = some (.int .i64 m.held) := (blk_cell BK.out 10).trans rfl; have kz0 : w1.cell? ⟨w.heap.size, 0, none⟩ = some (.int .i64 6) := (by rw [blk_cell BK.out 0]; show some (Value.int .i64 m.kind) = _; rw [HKV.out])))
        all_goals go_ret
        all_goals refine ⟨congrArg (fun b => Ending.returned (Value.bool b)) (bool_dcd ?_), HB.out⟩
        all_goals rw [HF.out]
        all_goals clear HF HKV HB BK HI HR HL HWA hu33 hu23 hu25 hu27 hu29 hHeld HK HKB HLB
        all_goals first | (simp [*]; done) | (simp_all; done)
      · have HKV := Aside0.mk hv
        have hiff := iff_7 m hv HL.out
        have HF := Aside0.mk hiff
        clear hv hiff
        have kz0 : w3.cell? ⟨w.heap.size, 0, none⟩ = some (.int .i64 7) := by rw [blk_cell BK.out 0]; show some (Value.int .i64 m.kind) = _; rw [HKV.out]
        have kz1 : w3.cell? ⟨w.heap.size, 1, none⟩ = some (.string m.name) := (blk_cell BK.out 1).trans rfl
        have kz2 : w3.cell? ⟨w.heap.size, 2, none⟩ = some (.int .i64 m.cap) := (blk_cell BK.out 2).trans rfl
        have kz3 : w3.cell? ⟨w.heap.size, 3, none⟩ = some (.int .i64 m.recaps) := (blk_cell BK.out 3).trans rfl
        have kz4 : w3.cell? ⟨w.heap.size, 4, none⟩ = some (.int .i64 m.epoch.f0) := (blk_cell BK.out 4).trans rfl
        have kz5 : w3.cell? ⟨w.heap.size, 5, none⟩ = some (.int .i64 m.epoch.f1) := (blk_cell BK.out 5).trans rfl
        have kz6 : w3.cell? ⟨w.heap.size, 6, none⟩ = some (.int .i64 m.over.f0) := (blk_cell BK.out 6).trans rfl
        have kz7 : w3.cell? ⟨w.heap.size, 7, none⟩ = some (.int .i64 m.over.f1) := (blk_cell BK.out 7).trans rfl
        have kz8 : w3.cell? ⟨w.heap.size, 8, none⟩ = some (.int .i64 m.rights.f0) := (blk_cell BK.out 8).trans rfl
        have kz9 : w3.cell? ⟨w.heap.size, 9, none⟩ = some (.int .i64 m.rights.f1) := (blk_cell BK.out 9).trans rfl
        have kz10 : w3.cell? ⟨w.heap.size, 10, none⟩ = some (.int .i64 m.held) := (blk_cell BK.out 10).trans rfl
        go_wp2_with (first | (go_at_call 50; refine (known_calls _ _ _ _).mono ?_; rintro e w1 ⟨rfl, hb⟩; have n0_ := Aside0.mk (below_step HB.out hb); have n1_ := Aside0.mk (blk_keep hb BK.out); clear HB BK hb kz0 kz1 kz2 kz3 kz4 kz5 kz6 kz7 kz8 kz9 kz10; have HB := n0_; have BK := n1_; clear n0_ n1_; have kz1 : w1.cell? ⟨w.heap.size, 1, none⟩ = some (.string m.name) := (blk_cell BK.out 1).trans rfl; have kz2 : w1.cell? ⟨w.heap.size, 2, none⟩ = some (.int .i64 m.cap) := (blk_cell BK.out 2).trans rfl; have kz3 : w1.cell? ⟨w.heap.size, 3, none⟩ = some (.int .i64 m.recaps) := (blk_cell BK.out 3).trans rfl; have kz4 : w1.cell? ⟨w.heap.size, 4, none⟩ = some (.int .i64 m.epoch.f0) := (blk_cell BK.out 4).trans rfl; have kz5 : w1.cell? ⟨w.heap.size, 5, none⟩ = some (.int .i64 m.epoch.f1) := (blk_cell BK.out 5).trans rfl; have kz6 : w1.cell? ⟨w.heap.size, 6, none⟩ = some (.int .i64 m.over.f0) := (blk_cell BK.out 6).trans rfl; have kz7 : w1.cell? ⟨w.heap.size, 7, none⟩ = some (.int .i64 m.over.f1) := (blk_cell BK.out 7).trans rfl; have kz8 : w1.cell? ⟨w.heap.size, 8, none⟩ = some (.int .i64 m.rights.f0) := (blk_cell BK.out 8).trans rfl; have kz9 : w1.cell? ⟨w.heap.size, 9, none⟩ = some (.int .i64 m.rights.f1) := (blk_cell BK.out 9).trans rfl; have kz10 : w1.cell? ⟨w.heap.size, 10, none⟩ = some (.int .i64 m.held) := (blk_cell BK.out 10).trans rfl; have kz0 : w1.cell? ⟨w.heap.size, 0, none⟩ = some (.int .i64 7) := (by rw [blk_cell BK.out 0]; show some (Value.int .i64 m.kind) = _; rw [HKV.out])) | (go_at_call 51; refine (rrights_calls _ _ _).mono ?_; rintro e w1 ⟨rfl, hb⟩; have n0_ := Aside0.mk (below_step HB.out hb); have n1_ := Aside0.mk (blk_keep hb BK.out); clear HB BK hb kz0 kz1 kz2 kz3 kz4 kz5 kz6 kz7 kz8 kz9 kz10; have HB := n0_; have BK := n1_; clear n0_ n1_; have kz1 : w1.cell? ⟨w.heap.size, 1, none⟩ = some (.string m.name) := (blk_cell BK.out 1).trans rfl; have kz2 : w1.cell? ⟨w.heap.size, 2, none⟩ = some (.int .i64 m.cap) := (blk_cell BK.out 2).trans rfl; have kz3 : w1.cell? ⟨w.heap.size, 3, none⟩ = some (.int .i64 m.recaps) := (blk_cell BK.out 3).trans rfl; have kz4 : w1.cell? ⟨w.heap.size, 4, none⟩ = some (.int .i64 m.epoch.f0) := (blk_cell BK.out 4).trans rfl; have kz5 : w1.cell? ⟨w.heap.size, 5, none⟩ = some (.int .i64 m.epoch.f1) := (blk_cell BK.out 5).trans rfl; have kz6 : w1.cell? ⟨w.heap.size, 6, none⟩ = some (.int .i64 m.over.f0) := (blk_cell BK.out 6).trans rfl; have kz7 : w1.cell? ⟨w.heap.size, 7, none⟩ = some (.int .i64 m.over.f1) := (blk_cell BK.out 7).trans rfl; have kz8 : w1.cell? ⟨w.heap.size, 8, none⟩ = some (.int .i64 m.rights.f0) := (blk_cell BK.out 8).trans rfl; have kz9 : w1.cell? ⟨w.heap.size, 9, none⟩ = some (.int .i64 m.rights.f1) := (blk_cell BK.out 9).trans rfl; have kz10 : w1.cell? ⟨w.heap.size, 10, none⟩ = some (.int .i64 m.held) := (blk_cell BK.out 10).trans rfl; have kz0 : w1.cell? ⟨w.heap.size, 0, none⟩ = some (.int .i64 7) := (by rw [blk_cell BK.out 0]; show some (Value.int .i64 m.kind) = _; rw [HKV.out])) | (go_at_call 43; refine (within_calls _ _ _ _).mono ?_; rintro e w1 ⟨rfl, hb⟩; have n0_ := Aside0.mk (below_step HB.out hb); have n1_ := Aside0.mk (blk_keep hb BK.out); clear HB BK hb kz0 kz1 kz2 kz3 kz4 kz5 kz6 kz7 kz8 kz9 kz10; have HB := n0_; have BK := n1_; clear n0_ n1_; have kz1 : w1.cell? ⟨w.heap.size, 1, none⟩ = some (.string m.name) := (blk_cell BK.out 1).trans rfl; have kz2 : w1.cell? ⟨w.heap.size, 2, none⟩ = some (.int .i64 m.cap) := (blk_cell BK.out 2).trans rfl; have kz3 : w1.cell? ⟨w.heap.size, 3, none⟩ = some (.int .i64 m.recaps) := (blk_cell BK.out 3).trans rfl; have kz4 : w1.cell? ⟨w.heap.size, 4, none⟩ = some (.int .i64 m.epoch.f0) := (blk_cell BK.out 4).trans rfl; have kz5 : w1.cell? ⟨w.heap.size, 5, none⟩ = some (.int .i64 m.epoch.f1) := (blk_cell BK.out 5).trans rfl; have kz6 : w1.cell? ⟨w.heap.size, 6, none⟩ = some (.int .i64 m.over.f0) := (blk_cell BK.out 6).trans rfl; have kz7 : w1.cell? ⟨w.heap.size, 7, none⟩ = some (.int .i64 m.over.f1) := (blk_cell BK.out 7).trans rfl; have kz8 : w1.cell? ⟨w.heap.size, 8, none⟩ = some (.int .i64 m.rights.f0) := (blk_cell BK.out 8).trans rfl; have kz9 : w1.cell? ⟨w.heap.size, 9, none⟩ = some (.int .i64 m.rights.f1) := (blk_cell BK.out 9).trans rfl; have kz10 : w1.cell? ⟨w.heap.size, 10, none⟩ = some (.int .i64 m.held) := (blk_cell BK.out 10).trans rfl; have kz0 : w1.cell? ⟨w.heap.size, 0, none⟩ = some (.int .i64 7) := (by rw [blk_cell BK.out 0]; show some (Value.int .i64 m.kind) = _; rw [HKV.out])) | (go_at_call 52; refine (repoch_calls _ _ _).mono ?_; rintro e w1 ⟨rfl, hb⟩; have n0_ := Aside0.mk (below_step HB.out hb); have n1_ := Aside0.mk (blk_keep hb BK.out); clear HB BK hb kz0 kz1 kz2 kz3 kz4 kz5 kz6 kz7 kz8 kz9 kz10; have HB := n0_; have BK := n1_; clear n0_ n1_; have kz1 : w1.cell? ⟨w.heap.size, 1, none⟩ = some (.string m.name) := (blk_cell BK.out 1).trans rfl; have kz2 : w1.cell? ⟨w.heap.size, 2, none⟩ = some (.int .i64 m.cap) := (blk_cell BK.out 2).trans rfl; have kz3 : w1.cell? ⟨w.heap.size, 3, none⟩ = some (.int .i64 m.recaps) := (blk_cell BK.out 3).trans rfl; have kz4 : w1.cell? ⟨w.heap.size, 4, none⟩ = some (.int .i64 m.epoch.f0) := (blk_cell BK.out 4).trans rfl; have kz5 : w1.cell? ⟨w.heap.size, 5, none⟩ = some (.int .i64 m.epoch.f1) := (blk_cell BK.out 5).trans rfl; have kz6 : w1.cell? ⟨w.heap.size, 6, none⟩ = some (.int .i64 m.over.f0) := (blk_cell BK.out 6).trans rfl; have kz7 : w1.cell? ⟨w.heap.size, 7, none⟩ = some (.int .i64 m.over.f1) := (blk_cell BK.out 7).trans rfl; have kz8 : w1.cell? ⟨w.heap.size, 8, none⟩ = some (.int .i64 m.rights.f0) := (blk_cell BK.out 8).trans rfl; have kz9 : w1.cell? ⟨w.heap.size, 9, none⟩ = some (.int .i64 m.rights.f1) := (blk_cell BK.out 9).trans rfl; have kz10 : w1.cell? ⟨w.heap.size, 10, none⟩ = some (.int .i64 m.held) := (blk_cell BK.out 10).trans rfl; have kz0 : w1.cell? ⟨w.heap.size, 0, none⟩ = some (.int .i64 7) := (by rw [blk_cell BK.out 0]; show some (Value.int .i64 m.kind) = _; rw [HKV.out])))
        all_goals go_ret
        all_goals refine ⟨congrArg (fun b => Ending.returned (Value.bool b)) (bool_dcd ?_), HB.out⟩
        all_goals rw [HF.out]
        all_goals clear HF HKV HB BK HI HR HL HWA hu33 hu23 hu25 hu27 hu29 hHeld HK HKB HLB
        all_goals first | (simp [*]; done) | (simp_all; done)
      · have HKV := Aside0.mk hv
        have hiff := iff_8 m hv HL.out
        have HF := Aside0.mk hiff
        clear hv hiff
        have kz0 : w3.cell? ⟨w.heap.size, 0, none⟩ = some (.int .i64 8) := by rw [blk_cell BK.out 0]; show some (Value.int .i64 m.kind) = _; rw [HKV.out]
        have kz1 : w3.cell? ⟨w.heap.size, 1, none⟩ = some (.string m.name) := (blk_cell BK.out 1).trans rfl
        have kz2 : w3.cell? ⟨w.heap.size, 2, none⟩ = some (.int .i64 m.cap) := (blk_cell BK.out 2).trans rfl
        have kz3 : w3.cell? ⟨w.heap.size, 3, none⟩ = some (.int .i64 m.recaps) := (blk_cell BK.out 3).trans rfl
        have kz8 : w3.cell? ⟨w.heap.size, 8, none⟩ = some (.int .i64 m.rights.f0) := (blk_cell BK.out 8).trans rfl
        have kz9 : w3.cell? ⟨w.heap.size, 9, none⟩ = some (.int .i64 m.rights.f1) := (blk_cell BK.out 9).trans rfl
        have kz10 : w3.cell? ⟨w.heap.size, 10, none⟩ = some (.int .i64 m.held) := (blk_cell BK.out 10).trans rfl
        go_wp2_with (first | (go_at_call 50; refine (known_calls _ _ _ _).mono ?_; rintro e w1 ⟨rfl, hb⟩; have n0_ := Aside0.mk (below_step HB.out hb); have n1_ := Aside0.mk (blk_keep hb BK.out); clear HB BK hb kz0 kz1 kz2 kz3 kz8 kz9 kz10; have HB := n0_; have BK := n1_; clear n0_ n1_; have kz1 : w1.cell? ⟨w.heap.size, 1, none⟩ = some (.string m.name) := (blk_cell BK.out 1).trans rfl; have kz2 : w1.cell? ⟨w.heap.size, 2, none⟩ = some (.int .i64 m.cap) := (blk_cell BK.out 2).trans rfl; have kz3 : w1.cell? ⟨w.heap.size, 3, none⟩ = some (.int .i64 m.recaps) := (blk_cell BK.out 3).trans rfl; have kz8 : w1.cell? ⟨w.heap.size, 8, none⟩ = some (.int .i64 m.rights.f0) := (blk_cell BK.out 8).trans rfl; have kz9 : w1.cell? ⟨w.heap.size, 9, none⟩ = some (.int .i64 m.rights.f1) := (blk_cell BK.out 9).trans rfl; have kz10 : w1.cell? ⟨w.heap.size, 10, none⟩ = some (.int .i64 m.held) := (blk_cell BK.out 10).trans rfl; have kz0 : w1.cell? ⟨w.heap.size, 0, none⟩ = some (.int .i64 8) := (by rw [blk_cell BK.out 0]; show some (Value.int .i64 m.kind) = _; rw [HKV.out])) | (go_at_call 51; refine (rrights_calls _ _ _).mono ?_; rintro e w1 ⟨rfl, hb⟩; have n0_ := Aside0.mk (below_step HB.out hb); have n1_ := Aside0.mk (blk_keep hb BK.out); clear HB BK hb kz0 kz1 kz2 kz3 kz8 kz9 kz10; have HB := n0_; have BK := n1_; clear n0_ n1_; have kz1 : w1.cell? ⟨w.heap.size, 1, none⟩ = some (.string m.name) := (blk_cell BK.out 1).trans rfl; have kz2 : w1.cell? ⟨w.heap.size, 2, none⟩ = some (.int .i64 m.cap) := (blk_cell BK.out 2).trans rfl; have kz3 : w1.cell? ⟨w.heap.size, 3, none⟩ = some (.int .i64 m.recaps) := (blk_cell BK.out 3).trans rfl; have kz8 : w1.cell? ⟨w.heap.size, 8, none⟩ = some (.int .i64 m.rights.f0) := (blk_cell BK.out 8).trans rfl; have kz9 : w1.cell? ⟨w.heap.size, 9, none⟩ = some (.int .i64 m.rights.f1) := (blk_cell BK.out 9).trans rfl; have kz10 : w1.cell? ⟨w.heap.size, 10, none⟩ = some (.int .i64 m.held) := (blk_cell BK.out 10).trans rfl; have kz0 : w1.cell? ⟨w.heap.size, 0, none⟩ = some (.int .i64 8) := (by rw [blk_cell BK.out 0]; show some (Value.int .i64 m.kind) = _; rw [HKV.out])) | (go_at_call 43; refine (within_calls _ _ _ _).mono ?_; rintro e w1 ⟨rfl, hb⟩; have n0_ := Aside0.mk (below_step HB.out hb); have n1_ := Aside0.mk (blk_keep hb BK.out); clear HB BK hb kz0 kz1 kz2 kz3 kz8 kz9 kz10; have HB := n0_; have BK := n1_; clear n0_ n1_; have kz1 : w1.cell? ⟨w.heap.size, 1, none⟩ = some (.string m.name) := (blk_cell BK.out 1).trans rfl; have kz2 : w1.cell? ⟨w.heap.size, 2, none⟩ = some (.int .i64 m.cap) := (blk_cell BK.out 2).trans rfl; have kz3 : w1.cell? ⟨w.heap.size, 3, none⟩ = some (.int .i64 m.recaps) := (blk_cell BK.out 3).trans rfl; have kz8 : w1.cell? ⟨w.heap.size, 8, none⟩ = some (.int .i64 m.rights.f0) := (blk_cell BK.out 8).trans rfl; have kz9 : w1.cell? ⟨w.heap.size, 9, none⟩ = some (.int .i64 m.rights.f1) := (blk_cell BK.out 9).trans rfl; have kz10 : w1.cell? ⟨w.heap.size, 10, none⟩ = some (.int .i64 m.held) := (blk_cell BK.out 10).trans rfl; have kz0 : w1.cell? ⟨w.heap.size, 0, none⟩ = some (.int .i64 8) := (by rw [blk_cell BK.out 0]; show some (Value.int .i64 m.kind) = _; rw [HKV.out])))
        all_goals go_ret
        all_goals refine ⟨congrArg (fun b => Ending.returned (Value.bool b)) (bool_dcd ?_), HB.out⟩
        all_goals rw [HF.out]
        all_goals clear HF HKV HB BK HI HR HL HWA hu33 hu23 hu25 hu27 hu29 hHeld HK HKB HLB
        all_goals first | (simp [*]; done) | (simp_all; done)
      · have HKV := Aside0.mk hv
        have hiff := iff_9 m hv HL.out
        have HF := Aside0.mk hiff
        clear hv hiff
        have kz0 : w3.cell? ⟨w.heap.size, 0, none⟩ = some (.int .i64 9) := by rw [blk_cell BK.out 0]; show some (Value.int .i64 m.kind) = _; rw [HKV.out]
        have kz1 : w3.cell? ⟨w.heap.size, 1, none⟩ = some (.string m.name) := (blk_cell BK.out 1).trans rfl
        have kz2 : w3.cell? ⟨w.heap.size, 2, none⟩ = some (.int .i64 m.cap) := (blk_cell BK.out 2).trans rfl
        have kz3 : w3.cell? ⟨w.heap.size, 3, none⟩ = some (.int .i64 m.recaps) := (blk_cell BK.out 3).trans rfl
        have kz8 : w3.cell? ⟨w.heap.size, 8, none⟩ = some (.int .i64 m.rights.f0) := (blk_cell BK.out 8).trans rfl
        have kz9 : w3.cell? ⟨w.heap.size, 9, none⟩ = some (.int .i64 m.rights.f1) := (blk_cell BK.out 9).trans rfl
        have kz10 : w3.cell? ⟨w.heap.size, 10, none⟩ = some (.int .i64 m.held) := (blk_cell BK.out 10).trans rfl
        go_wp2_with (first | (go_at_call 50; refine (known_calls _ _ _ _).mono ?_; rintro e w1 ⟨rfl, hb⟩; have n0_ := Aside0.mk (below_step HB.out hb); have n1_ := Aside0.mk (blk_keep hb BK.out); clear HB BK hb kz0 kz1 kz2 kz3 kz8 kz9 kz10; have HB := n0_; have BK := n1_; clear n0_ n1_; have kz1 : w1.cell? ⟨w.heap.size, 1, none⟩ = some (.string m.name) := (blk_cell BK.out 1).trans rfl; have kz2 : w1.cell? ⟨w.heap.size, 2, none⟩ = some (.int .i64 m.cap) := (blk_cell BK.out 2).trans rfl; have kz3 : w1.cell? ⟨w.heap.size, 3, none⟩ = some (.int .i64 m.recaps) := (blk_cell BK.out 3).trans rfl; have kz8 : w1.cell? ⟨w.heap.size, 8, none⟩ = some (.int .i64 m.rights.f0) := (blk_cell BK.out 8).trans rfl; have kz9 : w1.cell? ⟨w.heap.size, 9, none⟩ = some (.int .i64 m.rights.f1) := (blk_cell BK.out 9).trans rfl; have kz10 : w1.cell? ⟨w.heap.size, 10, none⟩ = some (.int .i64 m.held) := (blk_cell BK.out 10).trans rfl; have kz0 : w1.cell? ⟨w.heap.size, 0, none⟩ = some (.int .i64 9) := (by rw [blk_cell BK.out 0]; show some (Value.int .i64 m.kind) = _; rw [HKV.out])) | (go_at_call 51; refine (rrights_calls _ _ _).mono ?_; rintro e w1 ⟨rfl, hb⟩; have n0_ := Aside0.mk (below_step HB.out hb); have n1_ := Aside0.mk (blk_keep hb BK.out); clear HB BK hb kz0 kz1 kz2 kz3 kz8 kz9 kz10; have HB := n0_; have BK := n1_; clear n0_ n1_; have kz1 : w1.cell? ⟨w.heap.size, 1, none⟩ = some (.string m.name) := (blk_cell BK.out 1).trans rfl; have kz2 : w1.cell? ⟨w.heap.size, 2, none⟩ = some (.int .i64 m.cap) := (blk_cell BK.out 2).trans rfl; have kz3 : w1.cell? ⟨w.heap.size, 3, none⟩ = some (.int .i64 m.recaps) := (blk_cell BK.out 3).trans rfl; have kz8 : w1.cell? ⟨w.heap.size, 8, none⟩ = some (.int .i64 m.rights.f0) := (blk_cell BK.out 8).trans rfl; have kz9 : w1.cell? ⟨w.heap.size, 9, none⟩ = some (.int .i64 m.rights.f1) := (blk_cell BK.out 9).trans rfl; have kz10 : w1.cell? ⟨w.heap.size, 10, none⟩ = some (.int .i64 m.held) := (blk_cell BK.out 10).trans rfl; have kz0 : w1.cell? ⟨w.heap.size, 0, none⟩ = some (.int .i64 9) := (by rw [blk_cell BK.out 0]; show some (Value.int .i64 m.kind) = _; rw [HKV.out])) | (go_at_call 43; refine (within_calls _ _ _ _).mono ?_; rintro e w1 ⟨rfl, hb⟩; have n0_ := Aside0.mk (below_step HB.out hb); have n1_ := Aside0.mk (blk_keep hb BK.out); clear HB BK hb kz0 kz1 kz2 kz3 kz8 kz9 kz10; have HB := n0_; have BK := n1_; clear n0_ n1_; have kz1 : w1.cell? ⟨w.heap.size, 1, none⟩ = some (.string m.name) := (blk_cell BK.out 1).trans rfl; have kz2 : w1.cell? ⟨w.heap.size, 2, none⟩ = some (.int .i64 m.cap) := (blk_cell BK.out 2).trans rfl; have kz3 : w1.cell? ⟨w.heap.size, 3, none⟩ = some (.int .i64 m.recaps) := (blk_cell BK.out 3).trans rfl; have kz8 : w1.cell? ⟨w.heap.size, 8, none⟩ = some (.int .i64 m.rights.f0) := (blk_cell BK.out 8).trans rfl; have kz9 : w1.cell? ⟨w.heap.size, 9, none⟩ = some (.int .i64 m.rights.f1) := (blk_cell BK.out 9).trans rfl; have kz10 : w1.cell? ⟨w.heap.size, 10, none⟩ = some (.int .i64 m.held) := (blk_cell BK.out 10).trans rfl; have kz0 : w1.cell? ⟨w.heap.size, 0, none⟩ = some (.int .i64 9) := (by rw [blk_cell BK.out 0]; show some (Value.int .i64 m.kind) = _; rw [HKV.out])))
        all_goals go_ret
        all_goals refine ⟨congrArg (fun b => Ending.returned (Value.bool b)) (bool_dcd ?_), HB.out⟩
        all_goals rw [HF.out]
        all_goals clear HF HKV HB BK HI HR HL HWA hu33 hu23 hu25 hu27 hu29 hHeld HK HKB HLB
        all_goals first | (simp [*]; done) | (simp_all; done)
      · have HKV := Aside0.mk hv
        have hiff := iff_10 m hv HL.out
        have HF := Aside0.mk hiff
        clear hv hiff
        have kz0 : w3.cell? ⟨w.heap.size, 0, none⟩ = some (.int .i64 10) := by rw [blk_cell BK.out 0]; show some (Value.int .i64 m.kind) = _; rw [HKV.out]
        have kz19 : w3.cell? ⟨w.heap.size, 19, none⟩ = some (.slice A m.views.length c) := (blk_cell BK.out 19).trans rfl
        go_wp2_with (first | (go_at_call 48; refine (views_calls A c m.views _ (Kd.C_below HR.out.1 HB.out) HR.out.2).mono ?_; rintro e w1 ⟨rfl, hb⟩; have n0_ := Aside0.mk (below_step HB.out hb); have n1_ := Aside0.mk (blk_keep hb BK.out); clear HB BK hb kz0 kz19; have HB := n0_; have BK := n1_; clear n0_ n1_; have kz19 : w1.cell? ⟨w.heap.size, 19, none⟩ = some (.slice A m.views.length c) := (blk_cell BK.out 19).trans rfl; have kz0 : w1.cell? ⟨w.heap.size, 0, none⟩ = some (.int .i64 10) := (by rw [blk_cell BK.out 0]; show some (Value.int .i64 m.kind) = _; rw [HKV.out])))
        all_goals go_ret
        all_goals refine ⟨congrArg (fun b => Ending.returned (Value.bool b)) (bool_dcd ?_), HB.out⟩
        all_goals rw [HF.out]
        all_goals clear HF HKV HB BK HI HR HL HWA hu33 hu23 hu25 hu27 hu29 hHeld HK HKB HLB
        all_goals first | (simp [*]; done) | (simp_all; done)
  · have HKB : Aside0 (bB m.kind 1 10 = false) := ⟨dcd_neg hk⟩
    have HN : Aside0 (¬ msgV m) := ⟨fun h => hk h.1⟩
    clear hk
    have kz0 : wa.cell? ⟨w.heap.size, 0, none⟩ = some (.int .i64 m.kind) := (blk_cell BK.out 0).trans rfl
    go_enter Try.func15, Try.ntmps15
    go_upto_region 1 with fail
    rw [← HWA.out]
    refine start_ (n := 11) (S := fun w' => w'.heap[w.heap.size]? = some (.cells (MVc m A c) 33 (0, 0)) ∧ Below w.heap.size w w') (ds := []) #[false, false, false, false, false, false, false, false, false, false, false] (by kernel_rfl) rfl rfl ⟨blk_drew BK.out, below_drew1 HB.out⟩ (fun hHeld => ?_)
    refine pure_ (i := 0) (N := some 3) (v := ?_) (a' := ?_) #[true, false, false, false, false, false, false, false, false, false, false] rfl rfl (by kernel_rfl) (fun _ _ _ h => h) (Or.inl ⟨by rfl, ?_⟩) ?_ ?_
    rotate_left
    · intro w'
      go_simp
      with_reducible rfl
    rotate_left
    · simp only [Act.put, List.setIfInBounds_toArray, List.set_cons_zero, List.set_cons_succ, i64_w, i32_w]
      rfl
    refine take_ (i := 1) (N := some 4) (v := .int .i64 m.kind) (a' := ?_) #[true, true, false, false, false, false, false, false, false, false, false] rfl rfl (by kernel_rfl) (fun _ _ _ h => h) (Or.inl ⟨by rfl, ?_⟩) hHeld ?_ ?_
    · intro w' hS
      have hz : w'.cell? ⟨w.heap.size, 0, none⟩ = some (.int .i64 m.kind) := (blk_cell hS.1 0).trans rfl
      go_simp
    rotate_left
    · simp only [Act.put, List.setIfInBounds_toArray, List.set_cons_zero, List.set_cons_succ, i64_w, i32_w]
      rfl
    refine one_ (i := 2) (N := some 5) #[true, true, true, false, false, false, false, false, false, false, false] rfl rfl (by kernel_rfl) (by decide) (fun K hK => ?_)
    refine goes_ Try.func43 (by kernel_rfl) rfl #[.int .i64 m.kind, .int .i64 1, .int .i64 10] (by rfl) rfl rfl (by (try simp only [List.map_toArray, List.map_cons, List.map_nil]); first | done | rfl) ?_
    refine (within_calls _ _ _ _).mono ?_
    rintro e w1 ⟨rfl, hb⟩
    rw [HKB.out]
    refine ⟨_, rfl, ?_⟩
    refine hK.out _ _ ⟨blk_keep hb hHeld.1, below_step hHeld.2 hb⟩ (fun hHeld => ?_)
    clear hK K
    refine norm_ (a' := ?_) ?_ ?_
    rotate_left
    · show Act.put _ (some 5) _ = _
      simp only [Act.put, List.setIfInBounds_toArray, List.set_cons_zero, List.set_cons_succ, i64_w, i32_w]
      rfl
    refine pure_ (i := 3) (N := some 6) (v := ?_) (a' := ?_) #[true, true, true, true, false, false, false, false, false, false, false] rfl rfl (by kernel_rfl) (fun _ _ _ h => h) (Or.inl ⟨by rfl, ?_⟩) ?_ ?_
    rotate_left
    · intro w'
      go_simp
      with_reducible rfl
    rotate_left
    · simp only [Act.put, List.setIfInBounds_toArray, List.set_cons_zero, List.set_cons_succ, i64_w, i32_w]
      rfl
    refine pure_ (i := 4) (N := some 7) (v := ?_) (a' := ?_) #[true, true, true, true, true, false, false, false, false, false, false] rfl rfl (by kernel_rfl) (fun _ _ _ h => h) (Or.inl ⟨by rfl, ?_⟩) ?_ ?_
    rotate_left
    · intro w'
      go_simp
      with_reducible rfl
    rotate_left
    · simp only [Act.put, List.setIfInBounds_toArray, List.set_cons_zero, List.set_cons_succ, i64_w, i32_w]
      rfl
    refine pure_ (i := 5) (N := some 8) (v := undef) (a' := ?_) #[true, true, true, true, true, true, false, false, false, false, false] rfl rfl (by kernel_rfl) (fun _ _ _ h => h) (Or.inr ⟨by rfl, rfl⟩) ?_ ?_
    rotate_left
    · simp only [Act.put, List.setIfInBounds_toArray, List.set_cons_zero, List.set_cons_succ, i64_w, i32_w]
      rfl
    refine pure_ (i := 6) (N := some 9) (v := undef) (a' := ?_) #[true, true, true, true, true, true, true, false, false, false, false] rfl rfl (by kernel_rfl) (fun _ _ _ h => h) (Or.inr ⟨by rfl, rfl⟩) ?_ ?_
    rotate_left
    · simp only [Act.put, List.setIfInBounds_toArray, List.set_cons_zero, List.set_cons_succ, i64_w, i32_w]
      rfl
    refine pure_ (i := 7) (N := some 10) (v := undef) (a' := ?_) #[true, true, true, true, true, true, true, true, false, false, false] rfl rfl (by kernel_rfl) (fun _ _ _ h => h) (Or.inr ⟨by rfl, rfl⟩) ?_ ?_
    rotate_left
    · simp only [Act.put, List.setIfInBounds_toArray, List.set_cons_zero, List.set_cons_succ, i64_w, i32_w]
      rfl
    refine pure_ (i := 8) (N := some 11) (v := undef) (a' := ?_) #[true, true, true, true, true, true, true, true, true, false, false] rfl rfl (by kernel_rfl) (fun _ _ _ h => h) (Or.inr ⟨by rfl, rfl⟩) ?_ ?_
    rotate_left
    · simp only [Act.put, List.setIfInBounds_toArray, List.set_cons_zero, List.set_cons_succ, i64_w, i32_w]
      rfl
    refine pure_ (i := 9) (N := some 12) (v := undef) (a' := ?_) #[true, true, true, true, true, true, true, true, true, true, false] rfl rfl (by kernel_rfl) (fun _ _ _ h => h) (Or.inr ⟨by rfl, rfl⟩) ?_ ?_
    rotate_left
    · simp only [Act.put, List.setIfInBounds_toArray, List.set_cons_zero, List.set_cons_succ, i64_w, i32_w]
      rfl
    refine pure_ (i := 10) (N := some 13) (v := ?_) (a' := ?_) #[true, true, true, true, true, true, true, true, true, true, true] rfl rfl (by kernel_rfl) (fun _ _ _ h => h) (Or.inl ⟨by rfl, ?_⟩) ?_ ?_
    rotate_left
    · intro w'
      go_simp
      with_reducible rfl
    rotate_left
    · simp only [Act.put, List.setIfInBounds_toArray, List.set_cons_zero, List.set_cons_succ, i64_w, i32_w]
      rfl
    refine done_ (by kernel_rfl) ?_
    have HB2 := Aside0.mk hHeld.2
    go_wp2_with fail
    go_ret
    exact ⟨by rw [dcd_neg HN.out]; rfl, HB2.out⟩
end Go.Proofs.Ytpgdmmjbhjbbhaa.Rf
end
