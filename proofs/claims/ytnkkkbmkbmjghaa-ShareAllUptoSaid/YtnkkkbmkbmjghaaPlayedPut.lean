/- One call of Deal or of Split, as the document says, for any keep: the walk of 'played' at the kinds 1 and 2. PRINTED by genplayed.py. -/
import Derived.Test.YtnkkkbmkbmjghaaPlayedAsk
import Derived.Test.YtnkkkbmkbmjghaaPlDeal
import Derived.Test.YtnkkkbmkbmjghaaPlSplit
import Derived.Test.YtnkkkbmkbmjghaaKeeper
import Derived.Test.YtnkkkbmkbmjghaaPx7
import Derived.Test.YtnkkkbmkbmjghaaPx8
import Derived.Test.YtnkkkbmkbmjghaaPx8
namespace Go.Proofs.Ytnkkkbmkbmjghaa.Pd
open Go.RowKit Go.Proofs.Ytnkkkbmkbmjghaa.P Go.Proofs.YtnkkkbmkbmjghaaW.PrintWords Go.Proofs.YtnkkkbmkbmjghaaW.PrintLast Go.Proofs.YtnkkkbmkbmjghaaW.PrintMore Go.Proofs.Ytnkkkbmkbmjghaa.Pl Go.Proofs.Ytnkkkbmkbmjghaa.Kr
set_option linter.unusedVariables false
set_option linter.unusedSimpArgs false
theorem deal_some (a : Int) (l : List Int) : ∃ p e, share_Deal.f a l = some (p, e) ∧ p.length ≤ 16 := by
  unfold share_Deal.f
  by_cases h : okW l ∧ 0 ≤ a ∧ a ≤ 1099511627776
  · rw [if_pos h]
    refine ⟨_, _, rfl, ?_⟩
    rw [deal_len]
    have := h.1.1; have := h.1.2.1; omega
  · rw [if_neg h]; exact ⟨_, _, rfl, by simp⟩
theorem deal_n (a : Int) (A : Option Addr) (c n : Nat) (l : List Int) (p : List Int) (e : Int) (w : World) (hn : l.length = n) (h1 : Kd.C (Kd.int .i64) w A n l) (h2 : n ≤ c) (h : share_Deal.f a l = some (p, e)) :
    Calls Try.prog 12 #[.int .i64 a, .slice A n c] w fun x w' => ∃ v : Value, x = .returned (.tuple #[v, .int .i64 e]) ∧ Kd.R (Kd.int .i64) 3 w' w.heap.size (fun _ => True) v p ∧ Below w.heap.size w w' := by subst hn; exact share_Deal.calls a A c l p e w h1 h2 h
theorem refDeal_n (k : Nat) (a : Int) (A : Option Addr) (c n : Nat) (l : List Int) (p : List Int) (e : Int) (w : World) (hn : l.length = n) (h1 : Kd.C (Kd.int .i64) w A n l) (h2 : n ≤ c) (h : sluiceref8_Deal.f k a l = some (p, e)) :
    Calls Try.prog 25 #[.int .i64 a, .slice A n c] w fun x w' => ∃ v : Value, x = .returned (.tuple #[v, .int .i64 e]) ∧ Kd.R (Kd.int .i64) 3 w' w.heap.size (fun _ => True) v p ∧ Below w.heap.size w w' := by subst hn; exact sluiceref8_Deal.calls k a A c l p e w h1 h2 h
theorem split_some (a b : Int) (l : List Int) : (splitV a b l).1.length ≤ 16 := by
  unfold splitV
  by_cases h : 0 ≤ a ∧ 0 ≤ b ∧ a + b ≤ 1099511627776 ∧ okW l
  · rw [if_pos h]; simp only [pairs_len]; rw [deal_len]; have := h.2.2.2.1; have := h.2.2.2.2.1; omega
  · rw [if_neg h]; simp
theorem split_n (k : Nat) (a b : Int) (A : Option Addr) (c n : Nat) (l : List Int) (p : List S50) (e : Int) (w : World) (hn : l.length = n) (h1 : Kd.C (Kd.int .i64) w A n l) (h2 : n ≤ c) (h : share_Split.f k a b l = some (p, e)) :
    Calls Try.prog 17 #[.agg #[.int .i64 a, .int .i64 b], .slice A n c] w fun x w' => ∃ v : Value, x = .returned (.tuple #[v, .int .i64 e]) ∧ Kd.R k50 50 w' w.heap.size (fun _ => True) v p ∧ Below w.heap.size w w' := by subst hn; exact share_Split.calls k a b A c l p e w h1 h2 h
theorem refSplit_n (k : Nat) (a b : Int) (A : Option Addr) (c n : Nat) (l : List Int) (p : List S50) (e : Int) (w : World) (hn : l.length = n) (h1 : Kd.C (Kd.int .i64) w A n l) (h2 : n ≤ c) (h : sluiceref8_Split.f k a b l = some (p, e)) :
    Calls Try.prog 27 #[.agg #[.int .i64 a, .int .i64 b], .slice A n c] w fun x w' => ∃ v : Value, x = .returned (.tuple #[v, .int .i64 e]) ∧ Kd.R k50 50 w' w.heap.size (fun _ => True) v p ∧ Below w.heap.size w w' := by subst hn; exact sluiceref8_Split.calls k a b A c l p e w h1 h2 h
theorem sameR_loop (p : List S50) (hl : p.length ≤ 140737488355328) : ∀ d i : Nat, p.length - i = d → i ≤ p.length → Ev (fun k => sluicelaw8_sameRights.l0 k p p (i : Int)) true := by
  intro d
  induction d with
  | zero =>
    intro i hd hi
    refine Ev.step (f := fun _ => some true) (fun k => ?_) (Ev.now _)
    simp only [sluicelaw8_sameRights.l0]; rw [if_neg (by omega)]
  | succ d ih =>
    intro i hd hi
    refine Ev.step (f := fun k => sluicelaw8_sameRights.l0 k p p ((i + 1 : Nat) : Int)) (fun k => ?_) (ih (i + 1) (by omega) (by omega))
    simp only [sluicelaw8_sameRights.l0]
    rw [if_pos (by omega), if_pos (by omega), if_pos (by omega), if_neg (by simp), w64 (by omega) (by omega)]; rfl
theorem sameR_ev (p : List S50) (hl : p.length ≤ 140737488355328) : Ev (fun k => sluicelaw8_sameRights.f k p p) true := by
  unfold sluicelaw8_sameRights.f
  simp only [if_true]
  exact sameR_loop p hl p.length 0 rfl (Nat.zero_le _)
/-- A row of the call's own as it is read. -/
theorem R_row {α : Type} {d : Kd α} {e base : Nat} {ok : Nat → Prop} {w : World} {v : Value} {xs : List α} (h : d.R e w base ok v xs) : ∃ A c, v = .slice A xs.length c ∧ xs.length ≤ c ∧ d.C w A xs.length xs := Kd.R_reads h

set_option maxHeartbeats 16000000 in
set_option maxRecDepth 100000 in
theorem played_deal {kb : Nat} {K : (Nat → Nat) → Nat → World → Prop} (hK : Keeper kb K) (ρ : Nat → Nat) (n : Nat) (a b : Int) (A : Option Addr) (c : Nat) (l : List Int) (w : World) (hk : K ρ n w) (hn : n ≤ 4000000)
    (hr : ∀ W, Kept w W (fun k => ρ k ≠ 0) → Kd.C (Kd.int .i64) W A l.length l) (hc : l.length ≤ c) (hl : l.length * 8 ≤ 140737488351232) :
    Calls Try.prog 15 #[.pointer (some ⟨kb, 0, none⟩), .agg #[.int .i64 1, .int .i64 a, .int .i64 b, .slice A l.length c]] w fun e w' => e = .returned (.bool true) ∧ ∃ ρ', K ρ' (n + 2) w' ∧ Rel ρ ρ' w w' := by
  obtain ⟨p1, e1, hd1, hp1⟩ := deal_some a l
  obtain ⟨k1, hr1⟩ := Ev.rounds (refDeal_ev a l (by omega) (p1, e1) hd1)
  obtain ⟨p2, e2, hd2, hp2⟩ := deal_some a (List.replicate l.length 5)
  obtain ⟨k2, hr2⟩ := Ev.rounds (refDeal_ev a (List.replicate l.length 5) (by simp; omega) (p2, e2) hd2)
  obtain ⟨ks1, hs1⟩ := Ev.rounds (by have h := same_ev p1 p1 (by omega); rwa [decide_eq_true rfl] at h)
  obtain ⟨ks2, hs2⟩ := Ev.rounds (by have h := same_ev p2 p2 (by omega); rwa [decide_eq_true rfl] at h)
  obtain ⟨kb1, hkb⟩ := Ev.rounds (back_ev l hl)
  have HKP := Aside0.mk hK
  have HBK := Aside0.mk hkb
  have HLV : Aside0 (sluicelaw8_lent.f l = some (l ++ [77, 78])) := ⟨by unfold sluicelaw8_lent.f; rw [if_pos hl]⟩
  have HL := Aside0.mk hl
  have HC := Aside0.mk hc
  have HCR := Aside0.mk hr
  have HN := Aside0.mk hn
  have HK0 := Aside0.mk hk
  have hn0 : (0 : Int) ≤ (l.length : Int) := by omega
  have HD1 := Aside0.mk hd1
  have HR1 := Aside0.mk hr1
  have HD2 := Aside0.mk hd2
  have HR2 := Aside0.mk hr2
  have HS1 := Aside0.mk hs1
  have HS2 := Aside0.mk hs2
  have HP1 := Aside0.mk hp1
  have HP2 := Aside0.mk hp2
  clear hd1 hr1 hd2 hr2 hs1 hs2 hp1 hp2
  clear hkb hl hc hr hn hk hK
  have HBX := Aside0.mk (Box.new w 1 a b (.slice A l.length c) 41)
  go_enter Try.func15, Try.ntmps15
  have q0 := HBX.out.k; have q1 := HBX.out.a; have q2 := HBX.out.c; have q3 := HBX.out.l
  go_wp2_with fail
  have HRC : Aside0 (∀ W, Kept (w.alloc (.cells #[.int .i64 1, .int .i64 a, .int .i64 b, .slice A l.length c] 41)) W (fun k => ρ k ≠ 0 ∨ w.heap.size ≤ k) → Kd.C (Kd.int .i64) W A l.length l) :=
    ⟨fun W h => HCR.out W ((Kept.of_below ((Below.refl _ _).alloc (Nat.le_refl _) _) (fun k => ρ k ≠ 0)).then_ h (fun k hk => hk))⟩
  refine (sluicelaw8_lent.calls A c l (l ++ [77, 78]) _ (HRC.out _ (Kept.refl _ _)) HC.out HLV.out).mono ?_
  rintro e wl ⟨vl, rfl, hR, hb⟩
  obtain ⟨g, cap, rfl, hg, hcap, hgs⟩ := R_block hR (by simp)
  have HRL0 : Aside0 (Rel ρ ρ w wl) := ⟨((Rel.refl ρ w).below ((Below.refl _ _).alloc (Nat.le_refl _) _)).below hb⟩
  have HKL : Aside0 (K ρ n wl) := ⟨HKP.out.move HK0.out (fun k hk h0 => by
    have h1 : k < (w.alloc (.cells #[.int .i64 1, .int .i64 a, .int .i64 b, .slice A l.length c] 41)).heap.size := by simp; omega
    exact (hb.block k h1).trans (Below.heap_alloc _ _ k hk)) HRL0.out.b0.size⟩
  have HRW : Aside0 (Kd.R (Kd.int .i64) 3 wl 0 (fun k => k = g) (.slice (some ⟨g, 0, none⟩) (l.length + 2) cap) (l ++ [77, 78])) :=
    ⟨by have h := Kd.R_lower hR (Nat.zero_le _); simp only [List.length_append, List.length_cons, List.length_nil, Nat.zero_add, Nat.reduceAdd] at h; exact Kd.R_reok rfl h (fun k hk => by simp [Value.ownBlock] at hk; exact hk.symm)⟩
  have HCL : Aside0 (∀ W, Kept wl W (fun k => ρ k ≠ 0 ∨ w.heap.size ≤ k) → Kd.C (Kd.int .i64) W A l.length l) := ⟨Kd.C_kept_call HRC.out (Kept.of_below hb _) (fun k hk => .inl hk)⟩
  have HBX2 := Aside0.mk (HBX.out.below hb)
  have HGS := Aside0.mk hgs
  have hg2 : w.heap.size < g := by simp at hg; omega
  have HB1 : Aside0 (w.heap.size < wl.heap.size) := ⟨by have := hb.size; simp at this; omega⟩
  have HZ : Aside0 (ρ w.heap.size = 0 ∧ ρ g = 0) := ⟨by
    constructor
    · refine Classical.not_not.1 fun h => ?_
      have := HKP.out.zer HK0.out _ h; omega
    · refine Classical.not_not.1 fun h => ?_
      have := HKP.out.zer HK0.out _ h; omega⟩
  have hcap2 : (l.length : Int) ≤ (cap : Int) := by simp at hcap; omega
  have HCP : Aside0 (l.length ≤ cap) := ⟨by omega⟩
  clear q0 q1 q2 q3 hR hb hg hcap hgs HBX HK0 HRC HCR
  have q0 := HBX2.out.k; have q1 := HBX2.out.a; have q2 := HBX2.out.c; have q3 := HBX2.out.l
  have HCI : Aside0 (Kd.C (Kd.int .i64) wl (some ⟨g, 0, none⟩) l.length l) := ⟨by
    have h := (Kd.R_reads' (Kd.R_take HRW.out (m := l.length) (by simp))).2.2
    simpa using h⟩
  -- the first round
  go_wp2_with fail
  refine (deal_n a (some ⟨g, 0, none⟩) cap l.length l p1 e1 _ rfl HCI.out HCP.out HD1.out).mono ?_
  rintro x wp ⟨vp, rfl, hRp, hbp⟩
  obtain ⟨Ap, cp, rfl, hcp, hCp⟩ := R_row hRp
  have HCPp := Aside0.mk hcp
  have HBX3 := Aside0.mk (HBX2.out.below hbp)
  have HRp := Aside0.mk hRp
  have HBp := Aside0.mk hbp
  clear q0 q1 q2 q3 hRp hbp hcp hCp
  have q0 := HBX3.out.k; have q1 := HBX3.out.a; have q2 := HBX3.out.c; have q3 := HBX3.out.l
  go_wp2_with fail
  refine (refDeal_n k1 a A c l.length l p1 e1 _ rfl (HCL.out _ (Kept.of_below HBp.out _)) HC.out HR1.out).mono ?_
  rintro x wq ⟨vq, rfl, hRq, hbq⟩
  obtain ⟨Aq, cq, rfl, hcq, hCq⟩ := R_row hRq
  have HCq := Aside0.mk hCq
  have HCQ := Aside0.mk hcq
  have HBX4 := Aside0.mk (HBX3.out.below hbq)
  have HRp2 := Aside0.mk (Kd.R_below HRp.out hbq)
  have HBlq : Aside0 (Below wl.heap.size wl wq) := ⟨HBp.out.trans (hbq.mono HBp.out.size)⟩
  clear q0 q1 q2 q3 hRq hbq hcq hCq HBX2 HBX3 HRp
  have q0 := HBX4.out.k; have q1 := HBX4.out.a; have q2 := HBX4.out.c; have q3 := HBX4.out.l
  have hee : (e1 == e1) = true := beq_self_eq_true e1
  go_wp2_with fail
  refine (sluicelaw8_same.calls ks1 Ap cp p1 Aq cq p1 true _ (Kd.R_reads' HRp2.out).2.2 HCPp.out HCq.out HCQ.out HS1.out).mono ?_
  rintro x ws ⟨rfl, hds⟩
  have HBls : Aside0 (Below wl.heap.size wl ws) := ⟨HBlq.out.trans (hds.below.mono HBlq.out.size)⟩
  have HBX5 := Aside0.mk (HBX4.out.below hds.below)
  have HRp3 := Aside0.mk (Kd.R_below HRp2.out hds.below)
  clear q0 q1 q2 q3 hds HRp2 HBX4 HCq HBp
  have q0 := HBX5.out.k; have q1 := HBX5.out.a; have q2 := HBX5.out.c; have q3 := HBX5.out.l
  go_wp2_with fail
  have HKS : Aside0 (K ρ n ws) := ⟨HKP.out.move HKL.out (fun k hk _ => HBls.out.block k hk) HBls.out.size⟩
  have HVP : Aside0 (∀ k, (Value.slice Ap p1.length cp).ownBlock = some k → wl.heap.size ≤ k) := ⟨Kd.R_base HRp3.out⟩
  refine (HKP.out.put HKS.out (by have := HN.out; omega) HP1.out (Kd.R_lower HRp3.out (Nat.zero_le _)) (fun k hk => Classical.not_not.1 fun h => by have := HKP.out.zer HKL.out _ h; have := HVP.out k hk; omega)).mono ?_
  rintro x wt ⟨rfl, ρ1, hk1, ha1⟩
  have HK1 := Aside0.mk hk1
  have HRel1 : Aside0 (Rel ρ ρ1 w wt) := ⟨(HRL0.out.below HBls.out).put ha1 (fun k hk => by have := HVP.out k hk; have := HB1.out; omega)⟩
  have HKT : Aside0 (Kept wl wt (fun k => ρ k ≠ 0 ∨ wl.heap.size ≤ k)) := ⟨(Kept.of_below HBls.out _).then_ ha1.kept (fun k hk => by
    rcases hk with h | h
    · exact .inl (.inl h)
    · exact .inr (HVP.out k h.symm))⟩
  have HZ1 : Aside0 (ρ1 w.heap.size = 0 ∧ ρ1 g = 0) := ⟨ha1.zero HZ.out.1 (Nat.lt_of_lt_of_le HB1.out HBls.out.size) (fun e => by have := HVP.out _ e.symm; have := HB1.out; omega), ha1.zero HZ.out.2 (Nat.lt_of_lt_of_le HGS.out HBls.out.size) (fun e => by have := HVP.out _ e.symm; have := HGS.out; omega)⟩
  have HNB : Aside0 (¬ (ρ w.heap.size ≠ 0 ∨ wl.heap.size ≤ w.heap.size) ∧ ¬ (ρ g ≠ 0 ∨ wl.heap.size ≤ g)) := ⟨by
    constructor <;> rintro (h | h)
    · exact h HZ.out.1
    · have := HB1.out; omega
    · exact h HZ.out.2
    · have := HGS.out; omega⟩
  have HBX6 : Aside0 (Box wt w.heap.size 1 a b (.slice A l.length c)) := ⟨by
    have h2 := HBX5.out
    refine ⟨?_, ?_, ?_, ?_⟩
    · exact cell_kept h2.k ha1.kept (by rintro (h | h); exact h HZ.out.1; have h3 : wl.heap.size ≤ w.heap.size := HVP.out _ h.symm; have := HB1.out; omega)
    · exact cell_kept h2.a ha1.kept (by rintro (h | h); exact h HZ.out.1; have h3 : wl.heap.size ≤ w.heap.size := HVP.out _ h.symm; have := HB1.out; omega)
    · exact cell_kept h2.c ha1.kept (by rintro (h | h); exact h HZ.out.1; have h3 : wl.heap.size ≤ w.heap.size := HVP.out _ h.symm; have := HB1.out; omega)
    · exact cell_kept h2.l ha1.kept (by rintro (h | h); exact h HZ.out.1; have h3 : wl.heap.size ≤ w.heap.size := HVP.out _ h.symm; have := HB1.out; omega)⟩
  have HRW2 : Aside0 (Kd.R (Kd.int .i64) 3 wt 0 (fun k => k = g) (.slice (some ⟨g, 0, none⟩) (l.length + 2) cap) (l ++ [77, 78])) := ⟨Kd.R_kept HRW.out HKT.out (fun k hk => by have hk2 : k = g := hk; rw [hk2]; exact HNB.out.2)⟩
  have HCT : Aside0 (∀ W, Kept wt W (fun k => ρ1 k ≠ 0 ∨ w.heap.size ≤ k) → Kd.C (Kd.int .i64) W A l.length l) := ⟨fun W h => HCL.out W ((HKT.out.mono (fun k hk => by
    rcases hk with h | h
    · exact .inl h
    · exact .inr (by have := HB1.out; omega))).then_ h (fun k hk => by
      rcases hk with h2 | h2
      · by_cases h3 : k < w.heap.size
        · exact .inl (.inl (by rw [← HRel1.out.lab k h3]; exact h2))
        · exact .inl (.inr (by omega))
      · exact .inl (.inr h2)))⟩
  clear q0 q1 q2 q3 hk1 ha1 HKS HBX5 HRp3 HKL HCL HCI HRW
  have q0 := HBX6.out.k; have q1 := HBX6.out.a; have q2 := HBX6.out.c; have q3 := HBX6.out.l
  go_wp2_with fail
  refine (sluicelaw8_back.calls kb1 (fun k => k = g) _ (l ++ [77, 78]) A c l true (List.replicate (l.length + 2) 5) (bare wt) wt (bare_below wt) HRW2.out (fun W h => HCT.out W (h.mono (fun k hk => .inr (by have hk2 : k = g := hk; omega)))) HC.out HBK.out).mono ?_
  rintro x wb ⟨rfl, hRB, hbb, hkk⟩
  have HRB := Aside0.mk hRB
  have HB0 : Aside0 (Below 0 wt wb) := ⟨⟨hbb.os, hbb.tape, hbb.output, hkk.1, fun k hk => absurd hk (by omega)⟩⟩
  have HK2 : Aside0 (K ρ1 (n + 1) wb) := ⟨HKP.out.move HK1.out (fun k hk h0 => hkk.2 k hk (fun e => h0 (by have e2 : k = g := e; rw [e2]; exact HZ1.out.2))) hkk.1⟩
  have HRel2 : Aside0 (Rel ρ ρ1 w wb) := ⟨HRel1.out.kept hkk HB0.out (by omega)⟩
  have HBX7 := Aside0.mk (HBX6.out.kept hkk (by intro h; omega))
  have HGB : Aside0 (g < wb.heap.size) := ⟨Nat.lt_of_lt_of_le HGS.out (Nat.le_trans HKT.out.1 hkk.1)⟩
  have HWB : Aside0 (wl.heap.size ≤ wb.heap.size) := ⟨Nat.le_trans HKT.out.1 hkk.1⟩
  clear q0 q1 q2 q3 hRB hbb hkk HK1 HBX6 HRW2 HRel1 HKT HCT
  have q0 := HBX7.out.k; have q1 := HBX7.out.a; have q2 := HBX7.out.c; have q3 := HBX7.out.l
  have HC5 : Aside0 (Kd.C (Kd.int .i64) wb (some ⟨g, 0, none⟩) l.length (List.replicate l.length 5)) := ⟨by
    have h := (Kd.R_reads' (Kd.R_take HRB.out (m := l.length) (by simp))).2.2
    simpa [List.take_replicate] using h⟩
  have HZZ : Aside0 ((0 + l.length) * 8 ≤ 140737488355328) := ⟨by have := HL.out; omega⟩
  go_wp2_with (refine Kd.R_append_row (Value.int .i64) (0 : Int) (h1 := fun _ => rfl) (w0 := wb) 0 rfl (.const (.slice none 0 0)) (.tmp 131) 22 3 (.int .i64 0) 8 rfl Try.underlying22 info3 rfl (by omega) (.slice none 0 0) [] (List.replicate l.length 5) (some ⟨g, 0, none⟩) l.length cap (fun _ => True) rfl (by simp [Act.eval, Act.put]) (fun _ _ => trivial) (Kd.R_nil _ _ _ _ _) HC5.out (Below.refl _ _) (Nat.zero_le _) HZZ.out ?_)
  intro vn wn hRn hBn hgn hatn
  have HBN := Aside0.mk (below_of_grown_none hgn)
  have HBX8 := Aside0.mk (HBX7.out.below HBN.out)
  have HC6 : Aside0 (Kd.C (Kd.int .i64) wn (some ⟨g, 0, none⟩) l.length (List.replicate l.length 5)) := ⟨Kd.C_below HC5.out HBN.out⟩
  have HN5 : Aside0 ((List.replicate l.length (5 : Int)).length = l.length) := ⟨List.length_replicate⟩
  obtain ⟨A2, c2, rfl, hc2, hC2⟩ := Kd.R_reads hRn
  rw [List.length_replicate] at hC2 hc2
  have HC7 : Aside0 (Kd.C (Kd.int .i64) wn A2 l.length (List.replicate l.length 5)) := ⟨hC2⟩
  have HC2 := Aside0.mk hc2
  have HK3 : Aside0 (K ρ1 (n + 1) wn) := ⟨HKP.out.move HK2.out (fun k hk _ => HBN.out.block k hk) HBN.out.size⟩
  have HRel3 : Aside0 (Rel ρ ρ1 w wn) := ⟨HRel2.out.below HBN.out⟩
  have HWN : Aside0 (w.heap.size ≤ wn.heap.size ∧ wl.heap.size ≤ wn.heap.size) := ⟨by have := HB1.out; have := HWB.out; have := HBN.out.size; omega⟩
  clear q0 q1 q2 q3 hRn hBn hatn hgn hc2 hC2 HBX7 HC5 HK2 HRel2 HRB
  have q0 := HBX8.out.k; have q1 := HBX8.out.a; have q2 := HBX8.out.c; have q3 := HBX8.out.l
  -- the second round
  go_wp2_with fail
  refine (deal_n a (some ⟨g, 0, none⟩) cap l.length (List.replicate l.length 5) p2 e2 _ HN5.out HC6.out HCP.out HD2.out).mono ?_
  rintro x wp2 ⟨vp, rfl, hRp, hbp⟩
  obtain ⟨Ap2, cp2, rfl, hcp, hCp⟩ := R_row hRp
  have HCPp2 := Aside0.mk hcp
  have HBX9 := Aside0.mk (HBX8.out.below hbp)
  have HRp := Aside0.mk hRp
  have HBp := Aside0.mk hbp
  clear q0 q1 q2 q3 hRp hbp hcp hCp
  have q0 := HBX9.out.k; have q1 := HBX9.out.a; have q2 := HBX9.out.c; have q3 := HBX9.out.l
  go_wp2_with fail
  refine (refDeal_n k2 a A2 c2 l.length (List.replicate l.length 5) p2 e2 _ HN5.out (Kd.C_below HC7.out HBp.out) HC2.out HR2.out).mono ?_
  rintro x wq2 ⟨vq, rfl, hRq, hbq⟩
  obtain ⟨Aq2, cq2, rfl, hcq, hCq⟩ := R_row hRq
  have HCq := Aside0.mk hCq
  have HCQ2 := Aside0.mk hcq
  have HRp2 := Aside0.mk (Kd.R_below HRp.out hbq)
  have HBlq2 : Aside0 (Below wn.heap.size wn wq2) := ⟨HBp.out.trans (hbq.mono HBp.out.size)⟩
  clear q0 q1 q2 q3 hRq hbq hcq hCq HRp HBX8 HBX9
  have hee2 : (e2 == e2) = true := beq_self_eq_true e2
  go_wp2_with fail
  refine (sluicelaw8_same.calls ks2 Ap2 cp2 p2 Aq2 cq2 p2 true _ (Kd.R_reads' HRp2.out).2.2 HCPp2.out HCq.out HCQ2.out HS2.out).mono ?_
  rintro x ws2 ⟨rfl, hds⟩
  have HBls2 : Aside0 (Below wn.heap.size wn ws2) := ⟨HBlq2.out.trans (hds.below.mono HBlq2.out.size)⟩
  have HRp3 := Aside0.mk (Kd.R_below HRp2.out hds.below)
  clear hds HRp2 HCq HBp
  go_wp2_with fail
  have HKS : Aside0 (K ρ1 (n + 1) ws2) := ⟨HKP.out.move HK3.out (fun k hk _ => HBls2.out.block k hk) HBls2.out.size⟩
  have HVP2 : Aside0 (∀ k, (Value.slice Ap2 p2.length cp2).ownBlock = some k → wn.heap.size ≤ k) := ⟨Kd.R_base HRp3.out⟩
  refine (HKP.out.put HKS.out (by have := HN.out; omega) HP2.out (Kd.R_lower HRp3.out (Nat.zero_le _)) (fun k hk => Classical.not_not.1 fun h => by have := HKP.out.zer HK3.out _ h; have := HVP2.out k hk; omega)).mono ?_
  rintro x wu ⟨rfl, ρ2, hk2, ha2⟩
  have HKU := Aside0.mk hk2
  have HRelU : Aside0 (Rel ρ ρ2 w wu) := ⟨(HRel3.out.below HBls2.out).put ha2 (fun k hk => by have := HVP2.out k hk; have := HWN.out; omega)⟩
  clear hk2 ha2
  go_wp2_with fail
  go_ret
  exact ⟨rfl, ρ2, HKU.out, HRelU.out⟩

set_option maxHeartbeats 16000000 in
set_option maxRecDepth 100000 in
theorem played_split {kb : Nat} {K : (Nat → Nat) → Nat → World → Prop} (hK : Keeper kb K) (ρ : Nat → Nat) (n : Nat) (a b : Int) (A : Option Addr) (c : Nat) (l : List Int) (w : World) (hk : K ρ n w) (hn : n ≤ 4000000)
    (hr : ∀ W, Kept w W (fun k => ρ k ≠ 0) → Kd.C (Kd.int .i64) W A l.length l) (hc : l.length ≤ c) (hl : l.length * 8 ≤ 140737488351232)
    (hb : -9223372036854775808 ≤ b ∧ b ≤ 9223372036854775807) :
    Calls Try.prog 15 #[.pointer (some ⟨kb, 0, none⟩), .agg #[.int .i64 2, .int .i64 a, .int .i64 b, .slice A l.length c]] w fun e w' => e = .returned (.bool true) ∧ ∃ ρ', K ρ' (n + 2) w' ∧ Rel ρ ρ' w w' := by
  obtain ⟨p1, e1, hv1⟩ : ∃ p e, splitV a b l = (p, e) := ⟨_, _, rfl⟩
  have hp1 := split_some a b l
  have hx1 := split_ev a b l hb
  have hy1 := refSplit_ev a b l (by omega)
  rw [hv1] at hp1 hx1 hy1
  obtain ⟨kx1, hd1⟩ := Ev.rounds hx1
  obtain ⟨k1, hr1⟩ := Ev.rounds hy1
  obtain ⟨p2, e2, hv2⟩ : ∃ p e, splitV a b (List.replicate l.length 5) = (p, e) := ⟨_, _, rfl⟩
  have hp2 := split_some a b (List.replicate l.length 5)
  have hx2 := split_ev a b (List.replicate l.length 5) hb
  have hy2 := refSplit_ev a b (List.replicate l.length 5) (by simp; omega)
  rw [hv2] at hp2 hx2 hy2
  obtain ⟨kx2, hd2⟩ := Ev.rounds hx2
  obtain ⟨k2, hr2⟩ := Ev.rounds hy2
  simp only at hp1 hp2
  obtain ⟨ks1, hs1⟩ := Ev.rounds (sameR_ev p1 (by omega))
  obtain ⟨ks2, hs2⟩ := Ev.rounds (sameR_ev p2 (by omega))
  clear hv1 hv2 hx1 hx2 hy1 hy2 hb
  obtain ⟨kb1, hkb⟩ := Ev.rounds (back_ev l hl)
  have HKP := Aside0.mk hK
  have HBK := Aside0.mk hkb
  have HLV : Aside0 (sluicelaw8_lent.f l = some (l ++ [77, 78])) := ⟨by unfold sluicelaw8_lent.f; rw [if_pos hl]⟩
  have HL := Aside0.mk hl
  have HC := Aside0.mk hc
  have HCR := Aside0.mk hr
  have HN := Aside0.mk hn
  have HK0 := Aside0.mk hk
  have hn0 : (0 : Int) ≤ (l.length : Int) := by omega
  have HD1 := Aside0.mk hd1
  have HR1 := Aside0.mk hr1
  have HD2 := Aside0.mk hd2
  have HR2 := Aside0.mk hr2
  have HS1 := Aside0.mk hs1
  have HS2 := Aside0.mk hs2
  have HP1 := Aside0.mk hp1
  have HP2 := Aside0.mk hp2
  clear hd1 hr1 hd2 hr2 hs1 hs2 hp1 hp2
  clear hkb hl hc hr hn hk hK
  have HBX := Aside0.mk (Box.new w 2 a b (.slice A l.length c) 41)
  go_enter Try.func15, Try.ntmps15
  have q0 := HBX.out.k; have q1 := HBX.out.a; have q2 := HBX.out.c; have q3 := HBX.out.l
  go_wp2_with fail
  have HRC : Aside0 (∀ W, Kept (w.alloc (.cells #[.int .i64 2, .int .i64 a, .int .i64 b, .slice A l.length c] 41)) W (fun k => ρ k ≠ 0 ∨ w.heap.size ≤ k) → Kd.C (Kd.int .i64) W A l.length l) :=
    ⟨fun W h => HCR.out W ((Kept.of_below ((Below.refl _ _).alloc (Nat.le_refl _) _) (fun k => ρ k ≠ 0)).then_ h (fun k hk => hk))⟩
  refine (sluicelaw8_lent.calls A c l (l ++ [77, 78]) _ (HRC.out _ (Kept.refl _ _)) HC.out HLV.out).mono ?_
  rintro e wl ⟨vl, rfl, hR, hb⟩
  obtain ⟨g, cap, rfl, hg, hcap, hgs⟩ := R_block hR (by simp)
  have HRL0 : Aside0 (Rel ρ ρ w wl) := ⟨((Rel.refl ρ w).below ((Below.refl _ _).alloc (Nat.le_refl _) _)).below hb⟩
  have HKL : Aside0 (K ρ n wl) := ⟨HKP.out.move HK0.out (fun k hk h0 => by
    have h1 : k < (w.alloc (.cells #[.int .i64 2, .int .i64 a, .int .i64 b, .slice A l.length c] 41)).heap.size := by simp; omega
    exact (hb.block k h1).trans (Below.heap_alloc _ _ k hk)) HRL0.out.b0.size⟩
  have HRW : Aside0 (Kd.R (Kd.int .i64) 3 wl 0 (fun k => k = g) (.slice (some ⟨g, 0, none⟩) (l.length + 2) cap) (l ++ [77, 78])) :=
    ⟨by have h := Kd.R_lower hR (Nat.zero_le _); simp only [List.length_append, List.length_cons, List.length_nil, Nat.zero_add, Nat.reduceAdd] at h; exact Kd.R_reok rfl h (fun k hk => by simp [Value.ownBlock] at hk; exact hk.symm)⟩
  have HCL : Aside0 (∀ W, Kept wl W (fun k => ρ k ≠ 0 ∨ w.heap.size ≤ k) → Kd.C (Kd.int .i64) W A l.length l) := ⟨Kd.C_kept_call HRC.out (Kept.of_below hb _) (fun k hk => .inl hk)⟩
  have HBX2 := Aside0.mk (HBX.out.below hb)
  have HGS := Aside0.mk hgs
  have hg2 : w.heap.size < g := by simp at hg; omega
  have HB1 : Aside0 (w.heap.size < wl.heap.size) := ⟨by have := hb.size; simp at this; omega⟩
  have HZ : Aside0 (ρ w.heap.size = 0 ∧ ρ g = 0) := ⟨by
    constructor
    · refine Classical.not_not.1 fun h => ?_
      have := HKP.out.zer HK0.out _ h; omega
    · refine Classical.not_not.1 fun h => ?_
      have := HKP.out.zer HK0.out _ h; omega⟩
  have hcap2 : (l.length : Int) ≤ (cap : Int) := by simp at hcap; omega
  have HCP : Aside0 (l.length ≤ cap) := ⟨by omega⟩
  clear q0 q1 q2 q3 hR hb hg hcap hgs HBX HK0 HRC HCR
  have q0 := HBX2.out.k; have q1 := HBX2.out.a; have q2 := HBX2.out.c; have q3 := HBX2.out.l
  have HCI : Aside0 (Kd.C (Kd.int .i64) wl (some ⟨g, 0, none⟩) l.length l) := ⟨by
    have h := (Kd.R_reads' (Kd.R_take HRW.out (m := l.length) (by simp))).2.2
    simpa using h⟩
  -- the first round
  go_wp2_with fail
  refine (split_n kx1 a b (some ⟨g, 0, none⟩) cap l.length l p1 e1 _ rfl HCI.out HCP.out HD1.out).mono ?_
  rintro x wp ⟨vp, rfl, hRp, hbp⟩
  obtain ⟨Ap, cp, rfl, hcp, hCp⟩ := R_row hRp
  have HCPp := Aside0.mk hcp
  have HBX3 := Aside0.mk (HBX2.out.below hbp)
  have HRp := Aside0.mk hRp
  have HBp := Aside0.mk hbp
  clear q0 q1 q2 q3 hRp hbp hcp hCp
  have q0 := HBX3.out.k; have q1 := HBX3.out.a; have q2 := HBX3.out.c; have q3 := HBX3.out.l
  go_wp2_with fail
  refine (refSplit_n k1 a b A c l.length l p1 e1 _ rfl (HCL.out _ (Kept.of_below HBp.out _)) HC.out HR1.out).mono ?_
  rintro x wq ⟨vq, rfl, hRq, hbq⟩
  obtain ⟨Aq, cq, rfl, hcq, hCq⟩ := R_row hRq
  have HCq := Aside0.mk hCq
  have HCQ := Aside0.mk hcq
  have HBX4 := Aside0.mk (HBX3.out.below hbq)
  have HRp2 := Aside0.mk (Kd.R_below HRp.out hbq)
  have HBlq : Aside0 (Below wl.heap.size wl wq) := ⟨HBp.out.trans (hbq.mono HBp.out.size)⟩
  clear q0 q1 q2 q3 hRq hbq hcq hCq HBX2 HBX3 HRp
  have q0 := HBX4.out.k; have q1 := HBX4.out.a; have q2 := HBX4.out.c; have q3 := HBX4.out.l
  have hee : (e1 == e1) = true := beq_self_eq_true e1
  go_wp2_with fail
  refine (sluicelaw8_sameRights.calls ks1 Ap cp p1 Aq cq p1 true _ (Kd.R_reads' HRp2.out).2.2 HCPp.out HCq.out HCQ.out HS1.out).mono ?_
  rintro x ws ⟨rfl, hds⟩
  have HBls : Aside0 (Below wl.heap.size wl ws) := ⟨HBlq.out.trans (hds.below.mono HBlq.out.size)⟩
  have HBX5 := Aside0.mk (HBX4.out.below hds.below)
  have HRp3 := Aside0.mk (Kd.R_below HRp2.out hds.below)
  clear q0 q1 q2 q3 hds HRp2 HBX4 HCq HBp
  have q0 := HBX5.out.k; have q1 := HBX5.out.a; have q2 := HBX5.out.c; have q3 := HBX5.out.l
  go_wp2_with fail
  have HKS : Aside0 (K ρ n ws) := ⟨HKP.out.move HKL.out (fun k hk _ => HBls.out.block k hk) HBls.out.size⟩
  have HVP : Aside0 (∀ k, (Value.slice Ap p1.length cp).ownBlock = some k → wl.heap.size ≤ k) := ⟨Kd.R_base HRp3.out⟩
  refine (HKP.out.putR HKS.out (by have := HN.out; omega) HP1.out (Kd.R_lower HRp3.out (Nat.zero_le _)) (fun k hk => Classical.not_not.1 fun h => by have := HKP.out.zer HKL.out _ h; have := HVP.out k hk; omega)).mono ?_
  rintro x wt ⟨rfl, ρ1, hk1, ha1⟩
  have HK1 := Aside0.mk hk1
  have HRel1 : Aside0 (Rel ρ ρ1 w wt) := ⟨(HRL0.out.below HBls.out).put ha1 (fun k hk => by have := HVP.out k hk; have := HB1.out; omega)⟩
  have HKT : Aside0 (Kept wl wt (fun k => ρ k ≠ 0 ∨ wl.heap.size ≤ k)) := ⟨(Kept.of_below HBls.out _).then_ ha1.kept (fun k hk => by
    rcases hk with h | h
    · exact .inl (.inl h)
    · exact .inr (HVP.out k h.symm))⟩
  have HZ1 : Aside0 (ρ1 w.heap.size = 0 ∧ ρ1 g = 0) := ⟨ha1.zero HZ.out.1 (Nat.lt_of_lt_of_le HB1.out HBls.out.size) (fun e => by have := HVP.out _ e.symm; have := HB1.out; omega), ha1.zero HZ.out.2 (Nat.lt_of_lt_of_le HGS.out HBls.out.size) (fun e => by have := HVP.out _ e.symm; have := HGS.out; omega)⟩
  have HNB : Aside0 (¬ (ρ w.heap.size ≠ 0 ∨ wl.heap.size ≤ w.heap.size) ∧ ¬ (ρ g ≠ 0 ∨ wl.heap.size ≤ g)) := ⟨by
    constructor <;> rintro (h | h)
    · exact h HZ.out.1
    · have := HB1.out; omega
    · exact h HZ.out.2
    · have := HGS.out; omega⟩
  have HBX6 : Aside0 (Box wt w.heap.size 2 a b (.slice A l.length c)) := ⟨by
    have h2 := HBX5.out
    refine ⟨?_, ?_, ?_, ?_⟩
    · exact cell_kept h2.k ha1.kept (by rintro (h | h); exact h HZ.out.1; have h3 : wl.heap.size ≤ w.heap.size := HVP.out _ h.symm; have := HB1.out; omega)
    · exact cell_kept h2.a ha1.kept (by rintro (h | h); exact h HZ.out.1; have h3 : wl.heap.size ≤ w.heap.size := HVP.out _ h.symm; have := HB1.out; omega)
    · exact cell_kept h2.c ha1.kept (by rintro (h | h); exact h HZ.out.1; have h3 : wl.heap.size ≤ w.heap.size := HVP.out _ h.symm; have := HB1.out; omega)
    · exact cell_kept h2.l ha1.kept (by rintro (h | h); exact h HZ.out.1; have h3 : wl.heap.size ≤ w.heap.size := HVP.out _ h.symm; have := HB1.out; omega)⟩
  have HRW2 : Aside0 (Kd.R (Kd.int .i64) 3 wt 0 (fun k => k = g) (.slice (some ⟨g, 0, none⟩) (l.length + 2) cap) (l ++ [77, 78])) := ⟨Kd.R_kept HRW.out HKT.out (fun k hk => by have hk2 : k = g := hk; rw [hk2]; exact HNB.out.2)⟩
  have HCT : Aside0 (∀ W, Kept wt W (fun k => ρ1 k ≠ 0 ∨ w.heap.size ≤ k) → Kd.C (Kd.int .i64) W A l.length l) := ⟨fun W h => HCL.out W ((HKT.out.mono (fun k hk => by
    rcases hk with h | h
    · exact .inl h
    · exact .inr (by have := HB1.out; omega))).then_ h (fun k hk => by
      rcases hk with h2 | h2
      · by_cases h3 : k < w.heap.size
        · exact .inl (.inl (by rw [← HRel1.out.lab k h3]; exact h2))
        · exact .inl (.inr (by omega))
      · exact .inl (.inr h2)))⟩
  clear q0 q1 q2 q3 hk1 ha1 HKS HBX5 HRp3 HKL HCL HCI HRW
  have q0 := HBX6.out.k; have q1 := HBX6.out.a; have q2 := HBX6.out.c; have q3 := HBX6.out.l
  go_wp2_with fail
  refine (sluicelaw8_back.calls kb1 (fun k => k = g) _ (l ++ [77, 78]) A c l true (List.replicate (l.length + 2) 5) (bare wt) wt (bare_below wt) HRW2.out (fun W h => HCT.out W (h.mono (fun k hk => .inr (by have hk2 : k = g := hk; omega)))) HC.out HBK.out).mono ?_
  rintro x wb ⟨rfl, hRB, hbb, hkk⟩
  have HRB := Aside0.mk hRB
  have HB0 : Aside0 (Below 0 wt wb) := ⟨⟨hbb.os, hbb.tape, hbb.output, hkk.1, fun k hk => absurd hk (by omega)⟩⟩
  have HK2 : Aside0 (K ρ1 (n + 1) wb) := ⟨HKP.out.move HK1.out (fun k hk h0 => hkk.2 k hk (fun e => h0 (by have e2 : k = g := e; rw [e2]; exact HZ1.out.2))) hkk.1⟩
  have HRel2 : Aside0 (Rel ρ ρ1 w wb) := ⟨HRel1.out.kept hkk HB0.out (by omega)⟩
  have HBX7 := Aside0.mk (HBX6.out.kept hkk (by intro h; omega))
  have HGB : Aside0 (g < wb.heap.size) := ⟨Nat.lt_of_lt_of_le HGS.out (Nat.le_trans HKT.out.1 hkk.1)⟩
  have HWB : Aside0 (wl.heap.size ≤ wb.heap.size) := ⟨Nat.le_trans HKT.out.1 hkk.1⟩
  clear q0 q1 q2 q3 hRB hbb hkk HK1 HBX6 HRW2 HRel1 HKT HCT
  have q0 := HBX7.out.k; have q1 := HBX7.out.a; have q2 := HBX7.out.c; have q3 := HBX7.out.l
  have HC5 : Aside0 (Kd.C (Kd.int .i64) wb (some ⟨g, 0, none⟩) l.length (List.replicate l.length 5)) := ⟨by
    have h := (Kd.R_reads' (Kd.R_take HRB.out (m := l.length) (by simp))).2.2
    simpa [List.take_replicate] using h⟩
  have HZZ : Aside0 ((0 + l.length) * 8 ≤ 140737488355328) := ⟨by have := HL.out; omega⟩
  go_wp2_with (refine Kd.R_append_row (Value.int .i64) (0 : Int) (h1 := fun _ => rfl) (w0 := wb) 0 rfl (.const (.slice none 0 0)) (.tmp 131) 22 3 (.int .i64 0) 8 rfl Try.underlying22 info3 rfl (by omega) (.slice none 0 0) [] (List.replicate l.length 5) (some ⟨g, 0, none⟩) l.length cap (fun _ => True) rfl (by simp [Act.eval, Act.put]) (fun _ _ => trivial) (Kd.R_nil _ _ _ _ _) HC5.out (Below.refl _ _) (Nat.zero_le _) HZZ.out ?_)
  intro vn wn hRn hBn hgn hatn
  have HBN := Aside0.mk (below_of_grown_none hgn)
  have HBX8 := Aside0.mk (HBX7.out.below HBN.out)
  have HC6 : Aside0 (Kd.C (Kd.int .i64) wn (some ⟨g, 0, none⟩) l.length (List.replicate l.length 5)) := ⟨Kd.C_below HC5.out HBN.out⟩
  have HN5 : Aside0 ((List.replicate l.length (5 : Int)).length = l.length) := ⟨List.length_replicate⟩
  obtain ⟨A2, c2, rfl, hc2, hC2⟩ := Kd.R_reads hRn
  rw [List.length_replicate] at hC2 hc2
  have HC7 : Aside0 (Kd.C (Kd.int .i64) wn A2 l.length (List.replicate l.length 5)) := ⟨hC2⟩
  have HC2 := Aside0.mk hc2
  have HK3 : Aside0 (K ρ1 (n + 1) wn) := ⟨HKP.out.move HK2.out (fun k hk _ => HBN.out.block k hk) HBN.out.size⟩
  have HRel3 : Aside0 (Rel ρ ρ1 w wn) := ⟨HRel2.out.below HBN.out⟩
  have HWN : Aside0 (w.heap.size ≤ wn.heap.size ∧ wl.heap.size ≤ wn.heap.size) := ⟨by have := HB1.out; have := HWB.out; have := HBN.out.size; omega⟩
  clear q0 q1 q2 q3 hRn hBn hatn hgn hc2 hC2 HBX7 HC5 HK2 HRel2 HRB
  have q0 := HBX8.out.k; have q1 := HBX8.out.a; have q2 := HBX8.out.c; have q3 := HBX8.out.l
  -- the second round
  go_wp2_with fail
  refine (split_n kx2 a b (some ⟨g, 0, none⟩) cap l.length (List.replicate l.length 5) p2 e2 _ HN5.out HC6.out HCP.out HD2.out).mono ?_
  rintro x wp2 ⟨vp, rfl, hRp, hbp⟩
  obtain ⟨Ap2, cp2, rfl, hcp, hCp⟩ := R_row hRp
  have HCPp2 := Aside0.mk hcp
  have HBX9 := Aside0.mk (HBX8.out.below hbp)
  have HRp := Aside0.mk hRp
  have HBp := Aside0.mk hbp
  clear q0 q1 q2 q3 hRp hbp hcp hCp
  have q0 := HBX9.out.k; have q1 := HBX9.out.a; have q2 := HBX9.out.c; have q3 := HBX9.out.l
  go_wp2_with fail
  refine (refSplit_n k2 a b A2 c2 l.length (List.replicate l.length 5) p2 e2 _ HN5.out (Kd.C_below HC7.out HBp.out) HC2.out HR2.out).mono ?_
  rintro x wq2 ⟨vq, rfl, hRq, hbq⟩
  obtain ⟨Aq2, cq2, rfl, hcq, hCq⟩ := R_row hRq
  have HCq := Aside0.mk hCq
  have HCQ2 := Aside0.mk hcq
  have HRp2 := Aside0.mk (Kd.R_below HRp.out hbq)
  have HBlq2 : Aside0 (Below wn.heap.size wn wq2) := ⟨HBp.out.trans (hbq.mono HBp.out.size)⟩
  clear q0 q1 q2 q3 hRq hbq hcq hCq HRp HBX8 HBX9
  have hee2 : (e2 == e2) = true := beq_self_eq_true e2
  go_wp2_with fail
  refine (sluicelaw8_sameRights.calls ks2 Ap2 cp2 p2 Aq2 cq2 p2 true _ (Kd.R_reads' HRp2.out).2.2 HCPp2.out HCq.out HCQ2.out HS2.out).mono ?_
  rintro x ws2 ⟨rfl, hds⟩
  have HBls2 : Aside0 (Below wn.heap.size wn ws2) := ⟨HBlq2.out.trans (hds.below.mono HBlq2.out.size)⟩
  have HRp3 := Aside0.mk (Kd.R_below HRp2.out hds.below)
  clear hds HRp2 HCq HBp
  go_wp2_with fail
  have HKS : Aside0 (K ρ1 (n + 1) ws2) := ⟨HKP.out.move HK3.out (fun k hk _ => HBls2.out.block k hk) HBls2.out.size⟩
  have HVP2 : Aside0 (∀ k, (Value.slice Ap2 p2.length cp2).ownBlock = some k → wn.heap.size ≤ k) := ⟨Kd.R_base HRp3.out⟩
  refine (HKP.out.putR HKS.out (by have := HN.out; omega) HP2.out (Kd.R_lower HRp3.out (Nat.zero_le _)) (fun k hk => Classical.not_not.1 fun h => by have := HKP.out.zer HK3.out _ h; have := HVP2.out k hk; omega)).mono ?_
  rintro x wu ⟨rfl, ρ2, hk2, ha2⟩
  have HKU := Aside0.mk hk2
  have HRelU : Aside0 (Rel ρ ρ2 w wu) := ⟨(HRel3.out.below HBls2.out).put ha2 (fun k hk => by have := HVP2.out k hk; have := HWN.out; omega)⟩
  clear hk2 ha2
  go_wp2_with fail
  go_ret
  exact ⟨rfl, ρ2, HKU.out, HRelU.out⟩
end Go.Proofs.Ytnkkkbmkbmjghaa.Pd
