/- The walks of put and putRights of a keep that is not late. PRINTED by genput.py. -/
import Derived.Test.YtnkkkbmkbmjghaaPutN
namespace Go.Proofs.Ytnkkkbmkbmjghaa.Pn
open Go.RowKit Go.Proofs.Ytnkkkbmkbmjghaa.P Go.Proofs.YtnkkkbmkbmjghaaW.PrintWords Go.Proofs.YtnkkkbmkbmjghaaW.PrintLast Go.Proofs.YtnkkkbmkbmjghaaW.PrintMore Go.Proofs.Ytnkkkbmkbmjghaa.Gw Go.Proofs.Ytnkkkbmkbmjghaa.Ks Go.Proofs.Ytnkkkbmkbmjghaa.Hd Go.Proofs.Ytnkkkbmkbmjghaa.Kr Go.Proofs.Ytnkkkbmkbmjghaa.Pl
set_option linter.unusedVariables false
set_option linter.unusedSimpArgs false
theorem cs_len (a b c d e f g : Value) : (#[a, b, c, d, e, f, g] : Array Value).size = 7 := rfl

set_option maxHeartbeats 8000000 in
set_option maxRecDepth 100000 in
theorem putI_calls {kb : Nat} {ρ : Nat → Nat} {n : Nat} {w : World} {v : Value} {xs : List Int} (hK : KN kb ρ n w) (hn : n ≤ 4194304) (hx : xs.length ≤ 16) (hR : Kd.R (Kd.int .i64) 3 w 0 (fun _ => True) v xs) (hv : ∀ k, v.ownBlock = some k → ρ k = 0) :
    Calls Try.prog 26 #[.pointer (some ⟨kb, 0, none⟩), v] w fun e w' => e = .returned (.tuple #[]) ∧ ∃ ρ', KN kb ρ' (n + 1) w' ∧ After ρ ρ' v w w' := by
  obtain ⟨vI, vM, vR, vN, E, ER, ms, mr, h⟩ := hK
  have h1 : ms.length ≤ 75497472 := by have := h.nI; have := h.mI.len; omega
  have hm : (0 : Int) ≤ (ms.length : Int) ∧ (ms.length : Int) ≤ 1099511627776 := by omega
  obtain ⟨kf, hkf⟩ := Ev.rounds (fill_ev xs (ms.length : Int) hm (by omega))
  obtain ⟨A3, c3, e3⟩ := own_slice h.fI.oM
  have H := Aside0.mk h
  have HF := Aside0.mk hkf
  have HV := Aside0.mk hv
  have HX := Aside0.mk hx
  have H1 := Aside0.mk h1
  have HM := Aside0.mk hm
  have HRW : Aside0 (Kd.R (Kd.int .i64) 3 w (bare w).heap.size (fun k => some k = v.ownBlock) v xs) := ⟨Kd.R_reok rfl hR (fun k hk => hk.symm)⟩
  have q0 : w.cell? ⟨kb, 0, none⟩ = some (.bool false) := by rw [cell_of_row w kb 0 _ _ (0, 0) h.blk]; rfl
  have q3 : w.cell? ⟨kb, 3, none⟩ = some (.slice A3 ms.length c3) := by rw [cell_of_row w kb 3 _ _ (0, 0) h.blk, ← e3]; rfl
  clear h hkf hv hx h1 hm hR hn
  go_enter Try.func26, Try.ntmps26
  go_wp2_with fail
  refine (sluicelaw8_fill.calls kf (fun k => some k = v.ownBlock) v xs (ms.length : Int) _ (bare w) w (bare_below w) HRW.out HF.out).mono ?_
  rintro e wf ⟨rfl, hRf, hbf, hkf⟩
  have HS := Aside0.mk (init (T := 3) (tI := 22) (m := (ms.length : Int)) (numsI _) H.out.blk (by rfl) H.out.lbl H.out.fI H.out.zer hkf HV.out (own_ints hRf))
  have HBF : Aside0 (Below 0 w wf) := ⟨⟨hbf.os, hbf.tape, hbf.output, hkf.1, fun k hk => absurd hk (by omega)⟩⟩
  have HKF := Aside0.mk hkf
  clear hRf hbf hkf q0 q3
  go_wp2_with fail
  refine (holdI_calls kb v xs.length (ms.length : Int) wf _ _ E ms ⟨_, _, _, _, _, HS.out⟩ rfl HM.out (by have := HX.out; omega) (by have := H.out.mI.len; have := H1.out; omega) (by have := H1.out; omega)).mono ?_
  rintro e wz ⟨rfl, far, nf', ρ', vI', vM', E', ms', hz⟩
  have HZ := Aside0.mk hz
  clear hz
  go_wp2_with fail
  first | go_end0 | ((try simp only [Exit.inBlock, Exit.then]); refine bodyPost_ret (results_none rfl _ _ _) rfl ?_)
  refine ⟨rfl, ρ', ?_, after (numsI _) HKF.out HBF.out HZ.out⟩
  obtain ⟨Ex, x1, x2, x3⟩ := HZ.out.exE
  have hk := HZ.out.kbk
  refine ⟨vI', vM', vR, vN, E', ER, ms', mr, hk, HZ.out.kbr, HZ.out.fam, other H.out.fR (by decide) HKF.out HV.out HZ.out, HZ.out.zer, ?_, H.out.mR, ?_, by have := H.out.nR; omega⟩
  · rw [x1, HZ.out.exM]; exact H.out.mI.more x2 HM.out x3
  · rw [x1, List.length_append, x2]; have := H.out.nI; omega

set_option maxHeartbeats 8000000 in
set_option maxRecDepth 100000 in
theorem putR_calls {kb : Nat} {ρ : Nat → Nat} {n : Nat} {w : World} {v : Value} {xs : List S50} (hK : KN kb ρ n w) (hn : n ≤ 4194304) (hx : xs.length ≤ 16) (hR : Kd.R k50 50 w 0 (fun _ => True) v xs) (hv : ∀ k, v.ownBlock = some k → ρ k = 0) :
    Calls Try.prog 29 #[.pointer (some ⟨kb, 0, none⟩), v] w fun e w' => e = .returned (.tuple #[]) ∧ ∃ ρ', KN kb ρ' (n + 1) w' ∧ After ρ ρ' v w w' := by
  obtain ⟨vI, vM, vR, vN, E, ER, ms, mr, h⟩ := hK
  have h1 : mr.length ≤ 75497472 := by have := h.nR; have := h.mR.len; omega
  have hm : (0 : Int) ≤ (mr.length : Int) ∧ (mr.length : Int) ≤ 1099511627776 := by omega
  obtain ⟨kf, hkf⟩ := Ev.rounds (fillR_ev xs (mr.length : Int) hm (by omega))
  obtain ⟨A3, c3, e3⟩ := own_slice h.fR.oM
  have H := Aside0.mk h
  have HF := Aside0.mk hkf
  have HV := Aside0.mk hv
  have HX := Aside0.mk hx
  have H1 := Aside0.mk h1
  have HM := Aside0.mk hm
  have HRW : Aside0 (Kd.R k50 50 w (bare w).heap.size (fun k => some k = v.ownBlock) v xs) := ⟨Kd.R_reok rfl hR (fun k hk => hk.symm)⟩
  have q0 : w.cell? ⟨kb, 0, none⟩ = some (.bool false) := by rw [cell_of_row w kb 0 _ _ (0, 0) h.blk]; rfl
  have q3 : w.cell? ⟨kb, 6, none⟩ = some (.slice A3 mr.length c3) := by rw [cell_of_row w kb 6 _ _ (0, 0) h.blk, ← e3]; rfl
  clear h hkf hv hx h1 hm hR hn
  go_enter Try.func29, Try.ntmps29
  go_wp2_with fail
  refine (sluicelaw8_fillRights.calls kf (fun k => some k = v.ownBlock) v xs (mr.length : Int) _ (bare w) w (bare_below w) HRW.out HF.out).mono ?_
  rintro e wf ⟨rfl, hRf, hbf, hkf⟩
  have HS := Aside0.mk (init (T := 50) (tI := 46) (m := (mr.length : Int)) (numsR _) H.out.blk (by rfl) H.out.lbl H.out.fR H.out.zer hkf HV.out (own_rights hRf))
  have HBF : Aside0 (Below 0 w wf) := ⟨⟨hbf.os, hbf.tape, hbf.output, hkf.1, fun k hk => absurd hk (by omega)⟩⟩
  have HKF := Aside0.mk hkf
  clear hRf hbf hkf q0 q3
  go_wp2_with fail
  refine (holdR_calls kb v xs.length (mr.length : Int) wf _ _ ER mr ⟨_, _, _, _, _, HS.out⟩ rfl HM.out (by have := HX.out; omega) (by have := H.out.mR.len; have := H1.out; omega) (by have := H1.out; omega)).mono ?_
  rintro e wz ⟨rfl, far, nf', ρ', vI', vM', E', ms', hz⟩
  have HZ := Aside0.mk hz
  clear hz
  go_wp2_with fail
  first | go_end0 | ((try simp only [Exit.inBlock, Exit.then]); refine bodyPost_ret (results_none rfl _ _ _) rfl ?_)
  refine ⟨rfl, ρ', ?_, after (numsR _) HKF.out HBF.out HZ.out⟩
  obtain ⟨Ex, x1, x2, x3⟩ := HZ.out.exE
  have hk := HZ.out.kbk
  refine ⟨vI, vM, vI', vM', E, E', ms, ms', hk, HZ.out.kbr, other H.out.fI (by decide) HKF.out HV.out HZ.out, HZ.out.fam, HZ.out.zer, H.out.mI, ?_, by have := H.out.nI; omega, ?_⟩
  · rw [x1, HZ.out.exM]; exact H.out.mR.more x2 HM.out x3
  · rw [x1, List.length_append, x2]; have := H.out.nR; omega

theorem keeperN (kb : Nat) : Keeper kb (KN kb) where
  zer := fun h => by obtain ⟨vI, vM, vR, vN, E, ER, ms, mr, h⟩ := h; exact h.zer
  move := fun h hm hs => h.move hm hs
  put := fun h hn hx hR hv => putI_calls h hn hx hR hv
  putR := fun h hn hx hR hv => putR_calls h hn hx hR hv
end Go.Proofs.Ytnkkkbmkbmjghaa.Pn
