/- One call of any kind, for any keep; all calls. -/
import Derived.Test.YtnkkkbmkbmjghaaLately
namespace Go.Proofs.Ytnkkkbmkbmjghaa.Pa
open Go.RowKit Go.Proofs.Ytnkkkbmkbmjghaa.P Go.Proofs.YtnkkkbmkbmjghaaW.PrintWords Go.Proofs.YtnkkkbmkbmjghaaW.PrintLast Go.Proofs.YtnkkkbmkbmjghaaW.PrintMore Go.Proofs.Ytnkkkbmkbmjghaa.Ks Go.Proofs.Ytnkkkbmkbmjghaa.Kr Go.Proofs.Ytnkkkbmkbmjghaa.Pl Go.Proofs.Ytnkkkbmkbmjghaa.Pn Go.Proofs.Ytnkkkbmkbmjghaa.Lt Go.Proofs.Ytnkkkbmkbmjghaa.Pd
set_option linter.unusedVariables false
set_option linter.unusedSimpArgs false
set_option maxHeartbeats 8000000 in
set_option maxRecDepth 100000 in
theorem played_other (kv : Value) (kind a b : Int) (hk : kind ≠ 1 ∧ kind ≠ 2 ∧ kind ≠ 3 ∧ kind ≠ 4) (A : Option Addr) (c : Nat) (l : List Int) (w : World) (hr : Kd.C (Kd.int .i64) w A l.length l) (hc : l.length ≤ c) (hl : l.length * 8 ≤ 140737488351232) :
    Calls Try.prog 15 #[kv, .agg #[.int .i64 kind, .int .i64 a, .int .i64 b, .slice A l.length c]] w fun e w' => e = .returned (.bool true) ∧ Below w.heap.size w w' := by
  have hk1 : (kind == 1) = false := by rw [beq_eq_false_iff_ne]; exact hk.1
  have hk2 : (kind == 2) = false := by rw [beq_eq_false_iff_ne]; exact hk.2.1
  have hk3 : (kind == 3) = false := by rw [beq_eq_false_iff_ne]; exact hk.2.2.1
  have hk4 : (kind == 4) = false := by rw [beq_eq_false_iff_ne]; exact hk.2.2.2
  clear hk
  obtain ⟨kb, hkb⟩ := Ev.rounds (back_ev l hl)
  have HBK := Aside0.mk hkb
  have HLV : Aside0 (sluicelaw8_lent.f l = some (l ++ [77, 78])) := ⟨by unfold sluicelaw8_lent.f; rw [if_pos hl]⟩
  have HL := Aside0.mk hl
  have HC := Aside0.mk hc
  have HR := Aside0.mk hr
  have hn0 : (0 : Int) ≤ (l.length : Int) := by omega
  clear hkb hl hc
  have HBX := Aside0.mk (Box.new w kind a b (.slice A l.length c) 41)
  go_enter Try.func15, Try.ntmps15
  have q0 := HBX.out.k; have q1 := HBX.out.a; have q2 := HBX.out.c; have q3 := HBX.out.l
  go_wp2_with fail
  refine (sluicelaw8_lent.calls A c l (l ++ [77, 78]) _ (Kd.C_alloc HR.out _) HC.out HLV.out).mono ?_
  rintro e wl ⟨vl, rfl, hR, hb⟩
  obtain ⟨g, cap, rfl, hg, hcap, hgs⟩ := R_block hR (by simp)
  have HRW := Aside0.mk hR
  have HBL : Aside0 (Below (w.heap.size + 1) (w.alloc (.cells #[.int .i64 kind, .int .i64 a, .int .i64 b, .slice A l.length c] 41)) wl) := ⟨by simpa using hb⟩
  have HBX2 := Aside0.mk (HBX.out.below hb)
  have HGS := Aside0.mk hgs
  have hg2 : w.heap.size < g := by simp at hg; omega
  have hcap2 : (l.length : Int) ≤ (cap : Int) := by simp at hcap; omega
  clear q0 q1 q2 q3 hR hb hg hcap hgs
  have q0 := HBX2.out.k; have q1 := HBX2.out.a; have q2 := HBX2.out.c; have q3 := HBX2.out.l
  go_wp2_with fail
  have HRY : Aside0 (Kd.R (Kd.int .i64) 3 wl (w.alloc (.cells #[.int .i64 kind, .int .i64 a, .int .i64 b, .slice A l.length c] 41)).heap.size (fun k => k = g) (.slice (some ⟨g, 0, none⟩) (l.length + 2) cap) (l ++ [77, 78])) :=
    ⟨by have h := HRW.out; simp only [List.length_append, List.length_cons, List.length_nil, Nat.zero_add, Nat.reduceAdd] at h; exact Kd.R_reok rfl h (fun k hk => by simp [Value.ownBlock] at hk; exact hk.symm)⟩
  have HBW : Aside0 (Below (w.alloc (.cells #[.int .i64 kind, .int .i64 a, .int .i64 b, .slice A l.length c] 41)).heap.size (w.alloc (.cells #[.int .i64 kind, .int .i64 a, .int .i64 b, .slice A l.length c] 41)) wl) :=
    ⟨by have h := HBL.out; simpa using h⟩
  have HB0 : Aside0 (Below w.heap.size w wl) := ⟨((Below.refl _ _).alloc (Nat.le_refl _) _).trans (HBW.out.mono (by simp))⟩
  refine (sluicelaw8_back.calls kb (fun k => k = g) _ (l ++ [77, 78]) A c l true (List.replicate (l.length + 2) 5) _ _ HBW.out HRY.out (Kd.C_kept_came (Kd.heap_int _) HR.out HB0.out (fun k hk => by rw [hk]; omega)) HC.out HBK.out).mono ?_
  rintro e wb ⟨rfl, hRB, hbb, hkk⟩
  have HRB := Aside0.mk hRB
  have HBB := Aside0.mk hbb
  have HBX4 := Aside0.mk (HBX2.out.kept hkk (by intro h; omega))
  clear q0 q1 q2 q3 hRB hbb hkk
  have q0 := HBX4.out.k; have q1 := HBX4.out.a; have q2 := HBX4.out.c; have q3 := HBX4.out.l
  have HC5 : Aside0 (Kd.C (Kd.int .i64) wb (some ⟨g, 0, none⟩) l.length (List.replicate l.length 5)) := ⟨by
    have h := (Kd.R_reads' (Kd.R_take HRB.out (m := l.length) (by simp))).2.2
    simpa [List.take_replicate] using h⟩
  have HBA : Aside0 (Below w.heap.size w wb) := ⟨((Below.refl _ _).alloc (Nat.le_refl _) _).trans (HBB.out.mono (by simp))⟩
  have HZ : Aside0 ((0 + l.length) * 8 ≤ 140737488355328) := ⟨by have := HL.out; omega⟩
  go_wp2_with (refine Kd.R_append_row (Value.int .i64) (0 : Int) (h1 := fun _ => rfl) (w0 := w) w.heap.size rfl (.const (.slice none 0 0)) (.tmp 131) 22 3 (.int .i64 0) 8 rfl Try.underlying22 info3 rfl (by omega) (.slice none 0 0) [] (List.replicate l.length 5) (some ⟨g, 0, none⟩) l.length cap (fun _ => True) rfl (by simp [Act.eval, Act.put]) (fun _ _ => trivial) (Kd.R_nil _ _ _ _ _) HC5.out HBA.out HBA.out.size HZ.out ?_)
  intro vn wn hRn hBn hgn hatn
  have HBN := Aside0.mk hBn
  have HBX5 := Aside0.mk (HBX4.out.below (below_of_grown_none hgn))
  clear q0 q1 q2 q3 hRn hBn hatn hgn
  have q0 := HBX5.out.k; have q1 := HBX5.out.a; have q2 := HBX5.out.c; have q3 := HBX5.out.l
  go_wp2_with fail
  go_ret
  exact ⟨rfl, HBN.out⟩
theorem rel_of_below {ρ : Nat → Nat} {w w' : World} (h : Below w.heap.size w w') : Rel ρ ρ w w' := (Rel.refl ρ w).below h
theorem played_any {kb : Nat} {K : (Nat → Nat) → Nat → World → Prop} (hK : Keeper kb K) (ρ : Nat → Nat) (n : Nat) (kind a b : Int) (A : Option Addr) (c : Nat) (l : List Int) (w : World) (hk : K ρ n w) (hn : n ≤ 4000000)
    (hr : ∀ W, Kept w W (fun k => ρ k ≠ 0) → Kd.C (Kd.int .i64) W A l.length l) (hc : l.length ≤ c) (hl : l.length * 8 ≤ 140737488351232) (ha : -9223372036854775808 ≤ a ∧ a ≤ 9223372036854775807) (hb : -9223372036854775808 ≤ b ∧ b ≤ 9223372036854775807) :
    Calls Try.prog 15 #[.pointer (some ⟨kb, 0, none⟩), .agg #[.int .i64 kind, .int .i64 a, .int .i64 b, .slice A l.length c]] w fun e w' => e = .returned (.bool true) ∧ ∃ ρ' n', n' ≤ n + 2 ∧ K ρ' n' w' ∧ Rel ρ ρ' w w' := by
  have below : ∀ (e : Ending) (w' : World), (e = .returned (.bool true) ∧ Below w.heap.size w w') → (e = .returned (.bool true) ∧ ∃ ρ' n', n' ≤ n + 2 ∧ K ρ' n' w' ∧ Rel ρ ρ' w w') := fun e w' h =>
    ⟨h.1, ρ, n, by omega, hK.move hk (fun k hk _ => h.2.block k hk) h.2.size, rel_of_below h.2⟩
  by_cases h1 : kind = 1
  · subst h1
    exact (played_deal hK ρ n a b A c l w hk hn hr hc hl).mono fun e w' ⟨h, ρ', hk', hrel⟩ => ⟨h, ρ', n + 2, Nat.le_refl _, hk', hrel⟩
  by_cases h2 : kind = 2
  · subst h2
    exact (played_split hK ρ n a b A c l w hk hn hr hc hl hb).mono fun e w' ⟨h, ρ', hk', hrel⟩ => ⟨h, ρ', n + 2, Nat.le_refl _, hk', hrel⟩
  by_cases h3 : kind = 3
  · subst h3
    exact (played_ask _ a b A c l w (hr w (Kept.refl _ _)) hc hl).mono below
  by_cases h4 : kind = 4
  · subst h4
    exact (played_give _ a b A c l w (hr w (Kept.refl _ _)) hc hl ha hb).mono below
  exact (played_other _ kind a b ⟨h1, h2, h3, h4⟩ A c l w (hr w (Kept.refl _ _)) hc hl).mono below
end Go.Proofs.Ytnkkkbmkbmjghaa.Pa
