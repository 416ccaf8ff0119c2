/- 'whole' of a keep that is not late: all is as it was left. PRINTED by genwholek.py. -/
import Derived.Test.YtnkkkbmkbmjghaaPutNW
import Derived.Deep.RegionHeld3
import Derived.Deep.DrawnRows
namespace Go.Proofs.Ytnkkkbmkbmjghaa.Pn
open Go.RowKit Go.Proofs.Ytnkkkbmkbmjghaa.P Go.Proofs.YtnkkkbmkbmjghaaW.PrintWords Go.Proofs.YtnkkkbmkbmjghaaW.PrintLast Go.Proofs.YtnkkkbmkbmjghaaW.PrintMore Go.Proofs.Ytnkkkbmkbmjghaa.Gw Go.Proofs.Ytnkkkbmkbmjghaa.Ks Go.Proofs.Ytnkkkbmkbmjghaa.Hd Go.Proofs.Ytnkkkbmkbmjghaa.Kr Go.Proofs.Ytnkkkbmkbmjghaa.Pl
set_option linter.unusedVariables false
set_option linter.unusedSimpArgs false
theorem row_cell {w : World} {e : TypeId} {sz n : Nat} {v : Value} {xs : List Value} (h : w.ownsRow 0 e sz v n xs) (hp : 0 < n) : ∃ g c, v = .slice (some ⟨g, 0, none⟩) n c ∧ ∀ j u, xs[j]? = some u → w.cell? ⟨g, j, none⟩ = some u := by
  rcases h.2 with ⟨_, h0⟩ | ⟨g, cap, cur, hv, hb, hg, hn, hm, hs, ht⟩
  · omega
  · refine ⟨g, cap, hv, fun j u hu => ?_⟩
    rw [cell_of_row w g j _ _ (0, 0) hg]
    rw [← ht] at hu
    rw [List.getElem?_take] at hu
    by_cases h3 : j < n * sz
    · rw [if_pos h3] at hu; simpa using hu
    · rw [if_neg h3] at hu; cases hu
theorem own_max {w : World} {e : TypeId} {sz n : Nat} {v : Value} {xs : List Value} (h : w.ownsRow 0 e sz v n xs) : (n : Int) ≤ 9223372036854775807 := by
  rcases h.2 with ⟨_, h0⟩ | ⟨g, cap, cur, hv, hb, hg, hn, hm, hs, ht⟩
  · omega
  · simp only [maxLen] at hm; omega
theorem map_at {α β : Type} (f : α → β) (l : List α) (i : Nat) (h : i < l.length) : (l.map f)[i]? = some (f l[i]) := by rw [List.getElem?_map, List.getElem?_eq_getElem h]; rfl
theorem flat2 (a b : Value) : ∀ (n j : Nat), j < n → (List.replicate n [a, b]).flatten[j * 2]? = some a ∧ (List.replicate n [a, b]).flatten[j * 2 + 1]? = some b := by
  intro n
  induction n with
  | zero => intro j h; omega
  | succ n ih =>
    intro j h
    rw [List.replicate_succ, List.flatten_cons]
    cases j with
    | zero => exact ⟨rfl, rfl⟩
    | succ j =>
      have := ih j (by omega)
      rw [show (j + 1) * 2 = j * 2 + 2 from by omega, show j * 2 + 2 + 1 = (j * 2 + 1) + 2 from by omega]
      simpa using this
theorem flat1 (a : Value) (n j : Nat) (h : j < n) : (List.replicate n [a]).flatten[j]? = some a := by rw [flat_one, List.getElem?_replicate, if_pos h]
set_option maxHeartbeats 8000000 in
set_option maxRecDepth 100000 in
theorem whole_calls {kb : Nat} {ρ : Nat → Nat} {n : Nat} {w : World} (hK : KN kb ρ n w) (hn : n ≤ 4194304) :
    Calls Try.prog 33 #[.pointer (some ⟨kb, 0, none⟩)] w fun e w' => e = .returned (.bool true) ∧ Below w.heap.size w w' := by
  obtain ⟨vI, vM, vR, vN, E, ER, ms, mr, h⟩ := hK
  obtain ⟨A1, c1, e1⟩ := own_slice h.fI.oI
  obtain ⟨A3, c3, e3⟩ := own_slice h.fI.oM
  obtain ⟨A4, c4, e4⟩ := own_slice h.fR.oI
  obtain ⟨A6, c6, e6⟩ := own_slice h.fR.oM
  have q0 : w.cell? ⟨kb, 0, none⟩ = some (.bool false) := by rw [cell_of_row w kb 0 _ _ (0, 0) h.blk]; rfl
  have q1 : w.cell? ⟨kb, 1, none⟩ = some (.slice A1 E.length c1) := by rw [cell_of_row w kb 1 _ _ (0, 0) h.blk, ← e1]; rfl
  have q3 : w.cell? ⟨kb, 3, none⟩ = some (.slice A3 ms.length c3) := by rw [cell_of_row w kb 3 _ _ (0, 0) h.blk, ← e3]; rfl
  have q4 : w.cell? ⟨kb, 4, none⟩ = some (.slice A4 ER.length c4) := by rw [cell_of_row w kb 4 _ _ (0, 0) h.blk, ← e4]; rfl
  have q6 : w.cell? ⟨kb, 6, none⟩ = some (.slice A6 mr.length c6) := by rw [cell_of_row w kb 6 _ _ (0, 0) h.blk, ← e6]; rfl
  have HE1 := Aside0.mk e1; have HE3 := Aside0.mk e3; have HE4 := Aside0.mk e4; have HE6 := Aside0.mk e6
  have H := Aside0.mk h
  have hb1 : (E.length : Int) ≤ 75497472 := by have := h.nI; omega
  have hb4 : (ER.length : Int) ≤ 75497472 := by have := h.nR; omega
  clear h e1 e3 e4 e6
  go_enter Try.func33, Try.ntmps33
  go_wp2_with fail
  go_loopw [3] (fun v3 wr => ∃ i q : Nat, v3 = .int .i64 (i : Int) ∧ i ≤ E.length ∧ wr = w.drewN q) (fun v3 _ => E.length - (intOf v3).toNat)
  case atStart => exact ⟨0, 0, rfl, Nat.zero_le _, rfl⟩
  case round =>
    obtain ⟨i, q, rfl, hi, rfl⟩ := hrel
    have HI := Aside0.mk hi
    by_cases hlt : i < E.length
    · have hi0 : (0 : Int) ≤ (i : Int) := by omega
      have hi1 : (i : Int) < (E.length : Int) := by omega
      have HLT := Aside0.mk hlt
      have hlm : i < ms.length := by have := H.out.mI.len; omega
      have hi2 : (i : Int) < (ms.length : Int) := by omega
      obtain ⟨x, hx⟩ : ∃ x, E[i] = x := ⟨_, rfl⟩
      obtain ⟨m, hm⟩ : ∃ m, ms[i] = m := ⟨_, rfl⟩
      have hmem : x ∈ E := by rw [← hx]; exact List.getElem_mem hlt
      obtain ⟨gI, cI, f1, fc⟩ := row_cell H.out.fI.oI (Nat.lt_of_le_of_lt (Nat.zero_le _) hlt)
      rw [HE1.out] at f1
      injection f1 with f2 f3 f4
      have HCX : Aside0 (w.cell? ⟨gI, i, none⟩ = some x.v) := ⟨by rw [← hx]; exact fc i _ (map_at _ _ _ hlt)⟩
      obtain ⟨gM, cM, g1, gc⟩ := row_cell H.out.fI.oM (Nat.lt_of_le_of_lt (Nat.zero_le _) hlm)
      rw [HE3.out] at g1
      injection g1 with g2 g3 g4
      have cm : w.cell? ⟨gM, i, none⟩ = some (.int .i64 m) := by rw [← hm]; exact gc i _ (map_at _ _ _ hlm)
      have HEN := Aside0.mk (H.out.fI.en x hmem)
      have hbd := H.out.mI.bd m (by rw [← hm]; exact List.getElem_mem hlm)
      have hm0 := hbd.1
      have hm1 := hbd.2
      have HFU : Aside0 (x.cs = (List.replicate x.n (patI m)).flatten) := ⟨H.out.mI.full i x m (by rw [← hx]; exact List.getElem?_eq_getElem hlt) (by rw [← hm]; exact List.getElem?_eq_getElem hlm)⟩
      obtain ⟨Ax, cx, ex⟩ := own_slice HEN.out.1
      have HEX := Aside0.mk ex
      have hcx := HCX.out
      have hxn := own_max HEN.out.1
      rw [ex] at hcx
      subst f2 g2
      clear hx hm hmem fc gc ex f3 f4 g3 g4 hbd hlm hi
      go_wp2_with fail
      go_loopw [4] (fun v4 wr => ∃ j q : Nat, v4 = .int .i64 (j : Int) ∧ j ≤ x.n ∧ wr = w.drewN q) (fun v4 _ => x.n - (intOf v4).toNat)
      case atStart => exact ⟨0, q, rfl, Nat.zero_le _, rfl⟩
      case round =>
        obtain ⟨j, q2, rfl, hj, rfl⟩ := hrel
        by_cases hlt2 : j < x.n
        · have hj0 : (0 : Int) ≤ (j : Int) := by omega
          have hj1 : (j : Int) < (x.n : Int) := by omega
          obtain ⟨gx, cx2, x1, xc⟩ := row_cell HEN.out.1 (Nat.lt_of_le_of_lt (Nat.zero_le _) hlt2)
          rw [HEX.out] at x1
          injection x1 with x2 x3 x4
          subst x2
          have cy : w.cell? ⟨gx, j, none⟩ = some (.int .i64 (-1000 - m)) := xc j _ (by rw [HFU.out]; exact flat1 _ _ _ hlt2)
          have HLT2 := Aside0.mk hlt2
          clear x3 x4 xc
          go_wp2_with fail
          go_region
          go_wp2_with fail
          go_roundw
          case rel => exact ⟨j + 1, _, by go_num, by have := HLT2.out; omega, rfl⟩
          case measure => simp only [intOf]; have := HLT2.out; first | omega | (go_num; omega) | (simp; omega)
        · obtain rfl : j = x.n := by omega
          go_wp2_with fail
          go_roundw
          case rel => exact ⟨i + 1, _, by go_num, by have := HLT.out; omega, rfl⟩
          case measure => simp only [intOf]; have := HLT.out; first | omega | (go_num; omega) | (simp; omega)
    · obtain rfl : i = E.length := by omega
      go_wp2_with fail
      go_loopw [5] (fun v3 wr => ∃ i q : Nat, v3 = .int .i64 (i : Int) ∧ i ≤ ER.length ∧ wr = w.drewN q) (fun v3 _ => ER.length - (intOf v3).toNat)
      case atStart => exact ⟨0, _, rfl, Nat.zero_le _, rfl⟩
      case round =>
        obtain ⟨i, q, rfl, hi, rfl⟩ := hrel
        have HI := Aside0.mk hi
        by_cases hlt : i < ER.length
        · have hi0 : (0 : Int) ≤ (i : Int) := by omega
          have hi1 : (i : Int) < (ER.length : Int) := by omega
          have HLT := Aside0.mk hlt
          have hlm : i < mr.length := by have := H.out.mR.len; omega
          have hi2 : (i : Int) < (mr.length : Int) := by omega
          obtain ⟨x, hx⟩ : ∃ x, ER[i] = x := ⟨_, rfl⟩
          obtain ⟨m, hm⟩ : ∃ m, mr[i] = m := ⟨_, rfl⟩
          have hmem : x ∈ ER := by rw [← hx]; exact List.getElem_mem hlt
          obtain ⟨gI, cI, f1, fc⟩ := row_cell H.out.fR.oI (Nat.lt_of_le_of_lt (Nat.zero_le _) hlt)
          rw [HE4.out] at f1
          injection f1 with f2 f3 f4
          have HCX : Aside0 (w.cell? ⟨gI, i, none⟩ = some x.v) := ⟨by rw [← hx]; exact fc i _ (map_at _ _ _ hlt)⟩
          obtain ⟨gM, cM, g1, gc⟩ := row_cell H.out.fR.oM (Nat.lt_of_le_of_lt (Nat.zero_le _) hlm)
          rw [HE6.out] at g1
          injection g1 with g2 g3 g4
          have cm : w.cell? ⟨gM, i, none⟩ = some (.int .i64 m) := by rw [← hm]; exact gc i _ (map_at _ _ _ hlm)
          have HEN := Aside0.mk (H.out.fR.en x hmem)
          have hbd := H.out.mR.bd m (by rw [← hm]; exact List.getElem_mem hlm)
          have hm0 := hbd.1
          have hm1 := hbd.2
          have HFU : Aside0 (x.cs = (List.replicate x.n (patR m)).flatten) := ⟨H.out.mR.full i x m (by rw [← hx]; exact List.getElem?_eq_getElem hlt) (by rw [← hm]; exact List.getElem?_eq_getElem hlm)⟩
          obtain ⟨Ax, cx, ex⟩ := own_slice HEN.out.1
          have HEX := Aside0.mk ex
          have hcx := HCX.out
          have hxn := own_max HEN.out.1
          rw [ex] at hcx
          subst f2 g2
          clear hx hm hmem fc gc ex f3 f4 g3 g4 hbd hlm hi
          go_wp2_with fail
          go_loopw [6] (fun v4 wr => ∃ j q : Nat, v4 = .int .i64 (j : Int) ∧ j ≤ x.n ∧ wr = w.drewN q) (fun v4 _ => x.n - (intOf v4).toNat)
          case atStart => exact ⟨0, q, rfl, Nat.zero_le _, rfl⟩
          case round =>
            obtain ⟨j, q2, rfl, hj, rfl⟩ := hrel
            by_cases hlt2 : j < x.n
            · have hj0 : (0 : Int) ≤ (j : Int) := by omega
              have hj1 : (j : Int) < (x.n : Int) := by omega
              obtain ⟨gx, cx2, x1, xc⟩ := row_cell HEN.out.1 (Nat.lt_of_le_of_lt (Nat.zero_le _) hlt2)
              rw [HEX.out] at x1
              injection x1 with x2 x3 x4
              subst x2
              have cy : w.cell? ⟨gx, j * 2, none⟩ = some (.int .i64 (-1000 - m)) := xc (j * 2) _ (by rw [HFU.out]; exact (flat2 _ _ _ _ hlt2).1)
              have cy2 : w.cell? ⟨gx, j * 2 + 1, none⟩ = some (.int .i64 0) := xc (j * 2 + 1) _ (by rw [HFU.out]; exact (flat2 _ _ _ _ hlt2).2)
              have HLT2 := Aside0.mk hlt2
              clear x3 x4 xc
              go_wp2_with fail
              go_region
              go_wp2_with fail
              go_roundw
              case rel => exact ⟨j + 1, _, by go_num, by have := HLT2.out; omega, rfl⟩
              case measure => simp only [intOf]; have := HLT2.out; first | omega | (go_num; omega) | (simp; omega)
            · obtain rfl : j = x.n := by omega
              go_wp2_with fail
              go_roundw
              case rel => exact ⟨i + 1, _, by go_num, by have := HLT.out; omega, rfl⟩
              case measure => simp only [intOf]; have := HLT.out; first | omega | (go_num; omega) | (simp; omega)
        · obtain rfl : i = ER.length := by omega
          go_wp2_with fail
          go_ret
          exact ⟨rfl, pw_below_drewN (Below.refl _ _) _⟩
end Go.Proofs.Ytnkkkbmkbmjghaa.Pn
