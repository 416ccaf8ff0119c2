/- All calls, and the end. -/
import Derived.Test.YtnkkkbmkbmjghaaPlayedAny
namespace Go.Proofs.Ytnkkkbmkbmjghaa.Pa
open Go.RowKit Go.Proofs.Ytnkkkbmkbmjghaa.P Go.Proofs.YtnkkkbmkbmjghaaW.PrintWords Go.Proofs.YtnkkkbmkbmjghaaW.PrintLast Go.Proofs.YtnkkkbmkbmjghaaW.PrintMore Go.Proofs.Ytnkkkbmkbmjghaa.Ks Go.Proofs.Ytnkkkbmkbmjghaa.Kr Go.Proofs.Ytnkkkbmkbmjghaa.Pl Go.Proofs.Ytnkkkbmkbmjghaa.Pn Go.Proofs.Ytnkkkbmkbmjghaa.Lt Go.Proofs.Ytnkkkbmkbmjghaa.Pd
set_option linter.unusedVariables false
set_option linter.unusedSimpArgs false
/-- whole of a keep, as the calls end. -/
def Wh (kb : Nat) (K : (Nat → Nat) → Nat → World → Prop) : Prop := ∀ {ρ n w}, K ρ n w → n ≤ 2000000 →
  Calls Try.prog 33 #[.pointer (some ⟨kb, 0, none⟩)] w fun e w' => e = .returned (.bool true) ∧ Below 0 w w' ∧ ∀ k, k < w.heap.size → ρ k = 0 → w'.heap[k]? = w.heap[k]?
theorem whN (kb : Nat) : Wh kb (KN kb) := fun h hn => (whole_calls h (by omega)).mono fun e w' ⟨h1, h2⟩ => ⟨h1, h2.mono (Nat.zero_le _), fun k hk _ => h2.block k hk⟩
set_option maxHeartbeats 8000000 in
set_option maxRecDepth 100000 in
theorem whL (kb : Nat) : Wh kb (KL kb) := by
  intro ρ n w h hn
  have HK := Aside0.mk h
  have HN := Aside0.mk hn
  have q0 : w.cell? ⟨kb, 0, none⟩ = some (.bool true) := by
    obtain ⟨vI, vW, vR, vX, E, EW, ER, EX, XI, YI, h⟩ := h
    rw [cell_of_row w kb 0 _ _ (0, 0) h.blk]; rfl
  clear h hn
  go_enter Try.func33, Try.ntmps33
  go_wp2_with fail
  refine (lately_calls HK.out HN.out).mono ?_
  rintro e wz ⟨rfl, hz⟩
  have HZ := Aside0.mk hz
  clear hz
  go_wp2_with fail
  go_ret
  exact ⟨rfl, HZ.out⟩
/-- One call's argument as it came in. -/
structure Act1 where
  kind : Int
  a : Int
  b : Int
  A : Option Addr
  c : Nat
  xs : List Int
structure Came (w : World) (ad : Addr) (x : Act1) : Prop where
  k : w.cell? ad = some (.int .i64 x.kind)
  a : w.cell? ⟨ad.block, ad.off + 1, none⟩ = some (.int .i64 x.a)
  b : w.cell? ⟨ad.block, ad.off + 2, none⟩ = some (.int .i64 x.b)
  l : w.cell? ⟨ad.block, ad.off + 3, none⟩ = some (.slice x.A x.xs.length x.c)
  r : Kd.C (Kd.int .i64) w x.A x.xs.length x.xs
  c : x.xs.length ≤ x.c
  s : x.xs.length * 8 ≤ 140737488351232
  fa : -9223372036854775808 ≤ x.a ∧ x.a ≤ 9223372036854775807
  fb : -9223372036854775808 ≤ x.b ∧ x.b ≤ 9223372036854775807
set_option maxHeartbeats 8000000 in
set_option maxRecDepth 100000 in
theorem playedAll_calls {kb : Nat} {K : (Nat → Nat) → Nat → World → Prop} (hK : Keeper kb K) (hW : Wh kb K) (ρ : Nat → Nat) (w0 w : World) (A : Option Addr) (c : Nat) (L : List Act1) (hk : K ρ 0 w) (hb : Below w0.heap.size w0 w) (hρ : ∀ k, ρ k ≠ 0 → w0.heap.size ≤ k)
    (hL : L.length ≤ 1000000) (hc : L.length ≤ c) (hA : 0 < L.length → ∃ ad, A = some ad ∧ ∀ i (h : i < L.length), Came w0 (ad.add (i * 4)) L[i]) :
    Calls Try.prog 16 #[.slice A L.length c, .pointer (some ⟨kb, 0, none⟩)] w fun e w' => e = .returned (.bool true) ∧ Below w0.heap.size w0 w' := by
  have HK := Aside0.mk hK
  have HW : Aside0 (Wh kb K) := ⟨@hW⟩
  have HK0 := Aside0.mk hk
  have HB := Aside0.mk hb
  have HR := Aside0.mk hρ
  have HA := Aside0.mk hA
  have HC := Aside0.mk hc
  have HL := Aside0.mk hL
  have hl1 : (L.length : Int) ≤ 1000000 := by omega
  clear hK hW hk hb hρ hA hc hL
  go_enter Try.func16, Try.ntmps16
  go_wp2_with fail
  go_loopw [5] (fun v3 wr => ∃ (i n : Nat) (ρx : Nat → Nat), v3 = .int .i64 (i : Int) ∧ i ≤ L.length ∧ Aside0 (n ≤ 2 * i ∧ K ρx n wr ∧ Rel ρ ρx w wr)) (fun v3 _ => L.length - (intOf v3).toNat)
  case atStart => exact ⟨0, 0, ρ, rfl, Nat.zero_le _, ⟨Nat.le_refl _, HK0.out, Rel.refl _ _⟩⟩
  case round =>
    obtain ⟨i, n, ρx, rfl, hi, HS⟩ := hrel
    have HBW : Aside0 (Below w0.heap.size w0 wr) := ⟨HS.out.2.2.b0.os.trans HB.out.os, HS.out.2.2.b0.tape.trans HB.out.tape, HS.out.2.2.b0.output.trans HB.out.output, Nat.le_trans HB.out.size HS.out.2.2.b0.size, fun k hk => (HS.out.2.2.same k (Nat.lt_of_lt_of_le hk HB.out.size) (Classical.not_not.1 fun h => by have := HR.out k h; omega)).trans (HB.out.block k hk)⟩
    by_cases hlt : i < L.length
    · have hi0 : (0 : Int) ≤ (i : Int) := by omega
      have hi1 : (i : Int) < (L.length : Int) := by omega
      have HLT := Aside0.mk hlt
      obtain ⟨ad, rfl, hcame⟩ := HA.out (Nat.lt_of_le_of_lt (Nat.zero_le _) hlt)
      obtain ⟨x, hx⟩ : ∃ x, L[i] = x := ⟨_, rfl⟩
      have hcx := hcame i hlt
      rw [hx] at hcx
      have HX := Aside0.mk hcx
      have q0 := pw_cell_below HBW.out hcx.k
      have q1 := pw_cell_below HBW.out hcx.a
      have q2 := pw_cell_below HBW.out hcx.b
      have q3 := pw_cell_below HBW.out hcx.l
      have HCR : Aside0 (∀ W, Kept wr W (fun k => ρx k ≠ 0) → Kd.C (Kd.int .i64) W x.A x.xs.length x.xs) := ⟨Kd.C_kept_came (Kd.heap_int _) hcx.r HBW.out (fun k hk => by
        rcases Nat.lt_or_ge k w0.heap.size with h | h
        · exfalso
          have h1 := HS.out.2.2.lab k (Nat.lt_of_lt_of_le h HB.out.size)
          have h2 := HR.out k (by rw [← h1]; exact hk)
          omega
        · exact h)⟩
      clear hx hcx hcame hi
      go_wp2_with fail
      refine (played_any HK.out ρx n x.kind x.a x.b x.A x.c x.xs wr HS.out.2.1 (by have := HS.out.1; have := HLT.out; have := HL.out; omega) HCR.out HX.out.c HX.out.s HX.out.fa HX.out.fb).mono ?_
      rintro e wf ⟨rfl, ρy, n', hn', hk', hrel'⟩
      have HS2 : Aside0 (n' ≤ 2 * (i + 1) ∧ K ρy n' wf ∧ Rel ρ ρy w wf) := ⟨by have := HS.out.1; omega, hk', HS.out.2.2.trans hrel'⟩
      clear hk' hrel' hn' q0 q1 q2 q3
      go_wp2_with fail
      go_roundw
      case rel => exact ⟨i + 1, n', ρy, by go_num, by have := HLT.out; omega, HS2⟩
      case measure => simp only [intOf]; have := HLT.out; first | omega | (go_num; omega) | (simp; omega)
    · obtain rfl : i = L.length := by omega
      go_wp2_with fail
      refine (HW.out HS.out.2.1 (by have := HS.out.1; have := HL.out; omega)).mono ?_
      rintro e wz ⟨rfl, hz0, hz1⟩
      have HZ : Aside0 (Below w0.heap.size w0 wz) := ⟨⟨hz0.os.trans HBW.out.os, hz0.tape.trans HBW.out.tape, hz0.output.trans HBW.out.output, Nat.le_trans HBW.out.size hz0.size, fun k hk => (hz1 k (Nat.lt_of_lt_of_le hk HBW.out.size) (Classical.not_not.1 fun h => by
        have h1 := HS.out.2.2.lab k (Nat.lt_of_lt_of_le hk HB.out.size)
        have h2 := HR.out k (by rw [← h1]; exact h)
        omega)).trans (HBW.out.block k hk)⟩⟩
      clear hz0 hz1
      go_wp2_with fail
      go_ret
      exact ⟨rfl, HZ.out⟩
end Go.Proofs.Ytnkkkbmkbmjghaa.Pa
