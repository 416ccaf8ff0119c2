/- texts that the proof needs, laid together by a program of this session. -/
import Derived.Test.YtpgdmmjbhjbbhaaKWireBack15
section
namespace Go.Proofs.Ytpgdmmjbhjbbhaa.Rf
open Go Go.RowKit Go.Proofs.Ytpgdmmjbhjbbhaa.P Go.Proofs.Ytpgdmmjbhjbbhaa.Sp Go.Proofs.Ytpgdmmjbhjbbhaa.Vd Go.Proofs.Ytpgdmmjbhjbbhaa.En Go.Proofs.Ytpgdmmjbhjbbhaa.Wr Go.Proofs.Ytpgdmmjbhjbbhaa.Rd Go.Proofs.Ytpgdmmjbhjbbhaa.Lw Go.Proofs.YtpgdmmjbhjbbhaaW.PrintWords Go.Proofs.YtpgdmmjbhjbbhaaW.PrintLast Go.Proofs.YtpgdmmjbhjbbhaaW.PrintMore
attribute [local go_sem] Go.Proofs.Ytpgdmmjbhjbbhaa.StrLe.leq_str Go.Proofs.Ytpgdmmjbhjbbhaa.StrLe.gtr_str
set_option linter.unusedVariables false
set_option linter.unusedSimpArgs false
theorem viewW_bool (x : S87) : viewW x ↔ kB x.f0 x.f1 x.f2 = true ∧ bB x.f3 0 1099511627776 = true ∧ dcd (rightsV ⟨x.f4.f0, x.f4.f1⟩) = true ∧ bB x.f5 0 1099511627776 = true := by
  unfold kB nB bB
  simp only [Bool.and_eq_true, dcd_iff]
  exact ⟨fun h => ⟨⟨h.1, h.2.1.1, h.2.1.2⟩, h.2.2.1, h.2.2.2.1, h.2.2.2.2⟩, fun h => ⟨h.1.1, ⟨h.1.2.1, h.1.2.2⟩, h.2.1, h.2.2.1, h.2.2.2⟩⟩
set_option maxHeartbeats 4000000 in
set_option maxRecDepth 100000 in
theorem view_calls (x : S87) (w : World) :
    Calls Try.prog 94 #[.agg #[.string x.f0, .int .i64 x.f1, .int .i64 x.f2, .int .i64 x.f3, .int .i64 x.f4.f0, .int .i64 x.f4.f1, .int .i64 x.f5]] w fun e w' => e = .returned (.bool (dcd (viewW x))) ∧ Below w.heap.size w w' := by
  have hu87 := Try.underlying87
  have hu25 := Try.underlying25
  obtain ⟨wa, hwa⟩ : ∃ wa, wa = w.alloc (.cells #[.string x.f0, .int .i64 x.f1, .int .i64 x.f2, .int .i64 x.f3, .int .i64 x.f4.f0, .int .i64 x.f4.f1, .int .i64 x.f5] 87 (0, 0)) := ⟨_, rfl⟩
  have HWA := Aside0.mk hwa
  have BK : Aside0 (wa.heap[w.heap.size]? = some (.cells #[.string x.f0, .int .i64 x.f1, .int .i64 x.f2, .int .i64 x.f3, .int .i64 x.f4.f0, .int .i64 x.f4.f1, .int .i64 x.f5] 87 (0, 0))) := ⟨by rw [hwa]; exact heap_alloc_new w _⟩
  have HB : Aside0 (Below w.heap.size w wa) := ⟨by rw [hwa]; exact al_below w _⟩
  clear hwa
  go_enter Try.func94, Try.ntmps94
  go_upto_region 1 with fail
  rw [← HWA.out]
  have hz0 : wa.cell? ⟨w.heap.size, 0, none⟩ = some (.string x.f0) := (blk_cell BK.out 0).trans rfl; have hz1 : wa.cell? ⟨w.heap.size, 1, none⟩ = some (.int .i64 x.f1) := (blk_cell BK.out 1).trans rfl; have hz2 : wa.cell? ⟨w.heap.size, 2, none⟩ = some (.int .i64 x.f2) := (blk_cell BK.out 2).trans rfl; have hz3 : wa.cell? ⟨w.heap.size, 3, none⟩ = some (.int .i64 x.f3) := (blk_cell BK.out 3).trans rfl; have hz4 : wa.cell? ⟨w.heap.size, 4, none⟩ = some (.int .i64 x.f4.f0) := (blk_cell BK.out 4).trans rfl; have hz5 : wa.cell? ⟨w.heap.size, 5, none⟩ = some (.int .i64 x.f4.f1) := (blk_cell BK.out 5).trans rfl; have hz6 : wa.cell? ⟨w.heap.size, 6, none⟩ = some (.int .i64 x.f5) := (blk_cell BK.out 6).trans rfl
  go_wp2_with (first | (go_at_call 50; refine (known_calls _ _ _ _).mono ?_; rintro e w1 ⟨rfl, hb⟩; have n0_ := Aside0.mk (below_step HB.out hb); have n1_ := Aside0.mk (blk_keep hb BK.out); clear HB BK hb hz0 hz1 hz2 hz3 hz4 hz5 hz6; have HB := n0_; have BK := n1_; clear n0_ n1_; have hz0 : w1.cell? ⟨w.heap.size, 0, none⟩ = some (.string x.f0) := (blk_cell BK.out 0).trans rfl; have hz1 : w1.cell? ⟨w.heap.size, 1, none⟩ = some (.int .i64 x.f1) := (blk_cell BK.out 1).trans rfl; have hz2 : w1.cell? ⟨w.heap.size, 2, none⟩ = some (.int .i64 x.f2) := (blk_cell BK.out 2).trans rfl; have hz3 : w1.cell? ⟨w.heap.size, 3, none⟩ = some (.int .i64 x.f3) := (blk_cell BK.out 3).trans rfl; have hz4 : w1.cell? ⟨w.heap.size, 4, none⟩ = some (.int .i64 x.f4.f0) := (blk_cell BK.out 4).trans rfl; have hz5 : w1.cell? ⟨w.heap.size, 5, none⟩ = some (.int .i64 x.f4.f1) := (blk_cell BK.out 5).trans rfl; have hz6 : w1.cell? ⟨w.heap.size, 6, none⟩ = some (.int .i64 x.f5) := (blk_cell BK.out 6).trans rfl) | (go_at_call 43; refine (within_calls _ _ _ _).mono ?_; rintro e w1 ⟨rfl, hb⟩; have n0_ := Aside0.mk (below_step HB.out hb); have n1_ := Aside0.mk (blk_keep hb BK.out); clear HB BK hb hz0 hz1 hz2 hz3 hz4 hz5 hz6; have HB := n0_; have BK := n1_; clear n0_ n1_; have hz0 : w1.cell? ⟨w.heap.size, 0, none⟩ = some (.string x.f0) := (blk_cell BK.out 0).trans rfl; have hz1 : w1.cell? ⟨w.heap.size, 1, none⟩ = some (.int .i64 x.f1) := (blk_cell BK.out 1).trans rfl; have hz2 : w1.cell? ⟨w.heap.size, 2, none⟩ = some (.int .i64 x.f2) := (blk_cell BK.out 2).trans rfl; have hz3 : w1.cell? ⟨w.heap.size, 3, none⟩ = some (.int .i64 x.f3) := (blk_cell BK.out 3).trans rfl; have hz4 : w1.cell? ⟨w.heap.size, 4, none⟩ = some (.int .i64 x.f4.f0) := (blk_cell BK.out 4).trans rfl; have hz5 : w1.cell? ⟨w.heap.size, 5, none⟩ = some (.int .i64 x.f4.f1) := (blk_cell BK.out 5).trans rfl; have hz6 : w1.cell? ⟨w.heap.size, 6, none⟩ = some (.int .i64 x.f5) := (blk_cell BK.out 6).trans rfl) | (go_at_call 51; refine (rrights_calls _ _ _).mono ?_; rintro e w1 ⟨rfl, hb⟩; have n0_ := Aside0.mk (below_step HB.out hb); have n1_ := Aside0.mk (blk_keep hb BK.out); clear HB BK hb hz0 hz1 hz2 hz3 hz4 hz5 hz6; have HB := n0_; have BK := n1_; clear n0_ n1_; have hz0 : w1.cell? ⟨w.heap.size, 0, none⟩ = some (.string x.f0) := (blk_cell BK.out 0).trans rfl; have hz1 : w1.cell? ⟨w.heap.size, 1, none⟩ = some (.int .i64 x.f1) := (blk_cell BK.out 1).trans rfl; have hz2 : w1.cell? ⟨w.heap.size, 2, none⟩ = some (.int .i64 x.f2) := (blk_cell BK.out 2).trans rfl; have hz3 : w1.cell? ⟨w.heap.size, 3, none⟩ = some (.int .i64 x.f3) := (blk_cell BK.out 3).trans rfl; have hz4 : w1.cell? ⟨w.heap.size, 4, none⟩ = some (.int .i64 x.f4.f0) := (blk_cell BK.out 4).trans rfl; have hz5 : w1.cell? ⟨w.heap.size, 5, none⟩ = some (.int .i64 x.f4.f1) := (blk_cell BK.out 5).trans rfl; have hz6 : w1.cell? ⟨w.heap.size, 6, none⟩ = some (.int .i64 x.f5) := (blk_cell BK.out 6).trans rfl))
  all_goals go_ret
  all_goals refine ⟨congrArg (fun b => Ending.returned (Value.bool b)) (bool_dcd ?_), HB.out⟩
  all_goals rw [viewW_bool]
  all_goals first | (simp [*]; done) | (simp_all; done)
theorem view_yes (x : S87) (h : viewW x) (w : World) : Calls Try.prog 94 #[.agg #[.string x.f0, .int .i64 x.f1, .int .i64 x.f2, .int .i64 x.f3, .int .i64 x.f4.f0, .int .i64 x.f4.f1, .int .i64 x.f5]] w fun e w' => e = .returned (.bool true) ∧ Below w.heap.size w w' :=
  (view_calls x w).mono fun e w' h1 => by rw [dcd_pos h] at h1; exact h1
theorem view_no (x : S87) (h : ¬ viewW x) (w : World) : Calls Try.prog 94 #[.agg #[.string x.f0, .int .i64 x.f1, .int .i64 x.f2, .int .i64 x.f3, .int .i64 x.f4.f0, .int .i64 x.f4.f1, .int .i64 x.f5]] w fun e w' => e = .returned (.bool false) ∧ Below w.heap.size w w' :=
  (view_calls x w).mono fun e w' h1 => by rw [dcd_neg h] at h1; exact h1
/-- The name ahead of the i-th. -/
def ahead (l : List S87) (i : Nat) : ByteArray := if i = 0 then eB else (rd_T87 l ((i : Int) - 1)).f0
theorem ahead_succ (l : List S87) (i : Nat) : ahead l (i + 1) = (rd_T87 l (i : Int)).f0 := by
  unfold ahead
  rw [if_neg (by omega)]
  congr 2
  omega
set_option maxHeartbeats 8000000 in
set_option maxRecDepth 100000 in
theorem views_calls (A : Option Addr) (c : Nat) (l : List S87) (w : World) (hr : Kd.C k87 w A l.length l) (hc : l.length ≤ c) :
    Calls Try.prog 48 #[.slice A l.length c] w fun e w' => e = .returned (.bool (dcd (listV l))) ∧ Below w.heap.size w w' := by
  have hl : l.length ≤ 9223372036854775807 := by have := hr.2.1; omega
  have HR := Aside0.mk hr
  clear hr hc
  have hu87 := Try.underlying87
  have hu25 := Try.underlying25
  have hlI : (l.length : Int) ≤ 9223372036854775807 := by omega
  by_cases h64 : 64 < l.length
  · have h64i : (64 : Int) < (l.length : Int) := by omega
    go_enter Try.func48, Try.ntmps48
    go_wp2_with fail
    go_ret
    exact ⟨by rw [dcd_neg (fun h => by have := h.1; omega)]; rfl, Below.refl _ _⟩
  have h64i : (l.length : Int) ≤ 64 := by omega
  have H64 := Aside0.mk h64
  clear h64
  go_enter Try.func48, Try.ntmps48
  go_wp2_with fail
  go_loopw [3] (fun v3 wr => ∃ (i : Nat), v3 = .int .i64 (i : Int) ∧ Aside0 (i ≤ l.length ∧ (viewsV eB l ↔ viewsV (ahead l i) (l.drop i)) ∧ Below w.heap.size w wr)) (fun v3 _ => l.length - (intOf v3).toNat)
  case atStart => exact ⟨0, rfl, ⟨Nat.zero_le _, by rw [List.drop_zero]; exact Iff.rfl, Below.refl _ _⟩⟩
  case round =>
    obtain ⟨i, rfl, HQ⟩ := hrel
    by_cases hlt : i < l.length
    · have hi0 : (0 : Int) ≤ (i : Int) := by omega
      have hi1 : (i : Int) < (l.length : Int) := by omega
      have HLT := Aside0.mk hlt
      obtain ⟨ad, rfl, _⟩ := at_T87 (Kd.C_below HR.out HQ.out.2.2) (i : Int) hi0 hi1
      have HV : Aside0 (viewsV eB l ↔ viewV (ahead l i) (rd_T87 l i) ∧ viewsV (ahead l (i + 1)) (l.drop (i + 1))) := ⟨by rw [ahead_succ]; exact HQ.out.2.1.trans (viewsV_drop l i _ hlt)⟩
      obtain ⟨x, hx⟩ : ∃ x, rd_T87 l (i : Int) = x := ⟨_, rfl⟩
      have HX := Aside0.mk hx
      rw [hx] at HV
      clear hx hlt
      by_cases hw : viewW x
      · have HW := Aside0.mk hw
        clear hw
        by_cases hz : i = 0
        · have hz1 : ¬ ((0 : Int) < (i : Int)) := by omega
          have HZ := Aside0.mk hz
          clear hz
          go_upto_region 6 with fail
          refine start_ (n := 24) (S := fun w' => Below w.heap.size w w') (ds := []) #[false, false, false, false, false, false, false, false, false, false, false, false, false, false, false, false, false, false, false, false, false, false, false, false] (by kernel_rfl) rfl rfl (below_drew1 HQ.out.2.2) (fun hHeld => ?_)
          refine pure_ (i := 0) (N := some 13) (v := ?_) (a' := ?_) #[true, false, false, false, false, false, false, false, false, false, false, false, false, false, false, false, false, false, false, false, false, false, false, false] rfl rfl (by kernel_rfl) (fun _ _ _ h => h) (Or.inl ⟨by rfl, ?_⟩) ?_ ?_
          rotate_left
          · intro w'
            go_simp
            with_reducible rfl
          rotate_left
          · simp only [Act.put, List.setIfInBounds_toArray, List.set_cons_zero, List.set_cons_succ, i64_w, i32_w]
            rfl
          refine pure_ (i := 1) (N := some 14) (v := ?_) (a' := ?_) #[true, true, false, false, false, false, false, false, false, false, false, false, false, false, false, false, false, false, false, false, false, false, false, false] rfl rfl (by kernel_rfl) (fun _ _ _ h => h) (Or.inl ⟨by rfl, ?_⟩) ?_ ?_
          rotate_left
          · intro w'
            go_simp
            with_reducible rfl
          rotate_left
          · simp only [Act.put, List.setIfInBounds_toArray, List.set_cons_zero, List.set_cons_succ, i64_w, i32_w]
            rfl
          refine pure_ (i := 2) (N := some 15) (v := ?_) (a' := ?_) #[true, true, true, false, false, false, false, false, false, false, false, false, false, false, false, false, false, false, false, false, false, false, false, false] rfl rfl (by kernel_rfl) (fun _ _ _ h => h) (Or.inl ⟨by rfl, ?_⟩) ?_ ?_
          rotate_left
          · intro w'
            go_simp
            with_reducible rfl
          rotate_left
          · simp only [Act.put, List.setIfInBounds_toArray, List.set_cons_zero, List.set_cons_succ, i64_w, i32_w]
            rfl
          refine take_ (i := 3) (N := some 16) (v := .agg #[.string x.f0, .int .i64 x.f1, .int .i64 x.f2, .int .i64 x.f3, .int .i64 x.f4.f0, .int .i64 x.f4.f1, .int .i64 x.f5]) (a' := ?_) #[true, true, true, true, false, false, false, false, false, false, false, false, false, false, false, false, false, false, false, false, false, false, false, false] rfl rfl (by kernel_rfl) (fun _ _ _ h => h) (Or.inl ⟨by rfl, ?_⟩) hHeld ?_ ?_
          · intro w' hS
            obtain ⟨ad', had, c0, c1, c2, c3, c4, c5, c6⟩ := at_T87 (Kd.C_below HR.out hS) (i : Int) hi0 hi1
            obtain rfl := Option.some.inj had
            rw [HX.out] at c0 c1 c2 c3 c4 c5 c6
            simp only [Int.toNat_natCast] at c0 c1 c2 c3 c4 c5 c6
            go_simp
          rotate_left
          · simp only [Act.put, List.setIfInBounds_toArray, List.set_cons_zero, List.set_cons_succ, i64_w, i32_w]
            rfl
          refine one_ (i := 4) (N := some 17) #[true, true, true, true, true, false, false, false, false, false, false, false, false, false, false, false, false, false, false, false, false, false, false, false] rfl rfl (by kernel_rfl) (by decide) (fun K hK => ?_)
          refine goes_ Try.func94 (by kernel_rfl) rfl #[.agg #[.string x.f0, .int .i64 x.f1, .int .i64 x.f2, .int .i64 x.f3, .int .i64 x.f4.f0, .int .i64 x.f4.f1, .int .i64 x.f5]] (by rfl) rfl rfl (by (try simp only [List.map_toArray, List.map_cons, List.map_nil]); first | done | rfl) ?_
          refine (view_yes x HW.out _).mono ?_
          rintro e w1 ⟨rfl, hb⟩
          refine ⟨_, rfl, ?_⟩
          refine hK.out _ _ (below_step hHeld hb) (fun hHeld => ?_)
          clear hK K
          refine norm_ (a' := ?_) ?_ ?_
          rotate_left
          · show Act.put _ (some 17) _ = _
            simp only [Act.put, List.setIfInBounds_toArray, List.set_cons_zero, List.set_cons_succ, i64_w, i32_w]
            rfl
          refine pure_ (i := 5) (N := some 18) (v := ?_) (a' := ?_) #[true, true, true, true, true, true, false, false, false, false, false, false, false, false, false, false, false, false, false, false, false, false, false, false] rfl rfl (by kernel_rfl) (fun _ _ _ h => h) (Or.inl ⟨by rfl, ?_⟩) ?_ ?_
          rotate_left
          · intro w'
            go_simp
            with_reducible rfl
          rotate_left
          · simp only [Act.put, List.setIfInBounds_toArray, List.set_cons_zero, List.set_cons_succ, i64_w, i32_w]
            rfl
          refine pure_ (i := 6) (N := some 19) (v := ?_) (a' := ?_) #[true, true, true, true, true, true, true, false, false, false, false, false, false, false, false, false, false, false, false, false, false, false, false, false] rfl rfl (by kernel_rfl) (fun _ _ _ h => h) (Or.inl ⟨by rfl, ?_⟩) ?_ ?_
          rotate_left
          · intro w'
            go_simp
            with_reducible rfl
          rotate_left
          · simp only [Act.put, List.setIfInBounds_toArray, List.set_cons_zero, List.set_cons_succ, i64_w, i32_w]
            rfl
          refine pure_ (i := 7) (N := some 20) (v := ?_) (a' := ?_) #[true, true, true, true, true, true, true, true, false, false, false, false, false, false, false, false, false, false, false, false, false, false, false, false] rfl rfl (by kernel_rfl) (fun _ _ _ h => h) (Or.inl ⟨by rfl, ?_⟩) ?_ ?_
          rotate_left
          · intro w'
            go_simp
            with_reducible rfl
          rotate_left
          · simp only [Act.put, List.setIfInBounds_toArray, List.set_cons_zero, List.set_cons_succ, i64_w, i32_w]
            rfl
          refine pure_ (i := 8) (N := some 21) (v := .bool false) (a' := ?_) #[true, true, true, true, true, true, true, true, true, false, false, false, false, false, false, false, false, false, false, false, false, false, false, false] rfl rfl (by kernel_rfl) (fun _ _ _ h => h) (Or.inl ⟨by rfl, ?_⟩) ?_ ?_
          · intro w'
            go_simp
            first | done | (have := HZ.out; omega)
          rotate_left
          · simp only [Act.put, List.setIfInBounds_toArray, List.set_cons_zero, List.set_cons_succ, i64_w, i32_w]
            rfl
          refine pure_ (i := 9) (N := some 22) (v := ?_) (a' := ?_) #[true, true, true, true, true, true, true, true, true, true, false, false, false, false, false, false, false, false, false, false, false, false, false, false] rfl rfl (by kernel_rfl) (fun _ _ _ h => h) (Or.inl ⟨by rfl, ?_⟩) ?_ ?_
          rotate_left
          · intro w'
            go_simp
            with_reducible rfl
          rotate_left
          · simp only [Act.put, List.setIfInBounds_toArray, List.set_cons_zero, List.set_cons_succ, i64_w, i32_w]
            rfl
          refine pure_ (i := 10) (N := some 23) (v := undef) (a' := ?_) #[true, true, true, true, true, true, true, true, true, true, true, false, false, false, false, false, false, false, false, false, false, false, false, false] rfl rfl (by kernel_rfl) (fun _ _ _ h => h) (Or.inr ⟨by rfl, rfl⟩) ?_ ?_
          rotate_left
          · simp only [Act.put, List.setIfInBounds_toArray, List.set_cons_zero, List.set_cons_succ, i64_w, i32_w]
            rfl
          refine pure_ (i := 11) (N := some 24) (v := undef) (a' := ?_) #[true, true, true, true, true, true, true, true, true, true, true, true, false, false, false, false, false, false, false, false, false, false, false, false] rfl rfl (by kernel_rfl) (fun _ _ _ h => h) (Or.inr ⟨by rfl, rfl⟩) ?_ ?_
          rotate_left
          · simp only [Act.put, List.setIfInBounds_toArray, List.set_cons_zero, List.set_cons_succ, i64_w, i32_w]
            rfl
          refine pure_ (i := 12) (N := some 25) (v := undef) (a' := ?_) #[true, true, true, true, true, true, true, true, true, true, true, true, true, false, false, false, false, false, false, false, false, false, false, false] rfl rfl (by kernel_rfl) (fun _ _ _ h => h) (Or.inr ⟨by rfl, rfl⟩) ?_ ?_
          rotate_left
          · simp only [Act.put, List.setIfInBounds_toArray, List.set_cons_zero, List.set_cons_succ, i64_w, i32_w]
            rfl
          refine pure_ (i := 13) (N := some 26) (v := undef) (a' := ?_) #[true, true, true, true, true, true, true, true, true, true, true, true, true, true, false, false, false, false, false, false, false, false, false, false] rfl rfl (by kernel_rfl) (fun _ _ _ h => h) (Or.inr ⟨by rfl, rfl⟩) ?_ ?_
          rotate_left
          · simp only [Act.put, List.setIfInBounds_toArray, List.set_cons_zero, List.set_cons_succ, i64_w, i32_w]
            rfl
          refine pure_ (i := 14) (N := some 27) (v := undef) (a' := ?_) #[true, true, true, true, true, true, true, true, true, true, true, true, true, true, true, false, false, false, false, false, false, false, false, false] rfl rfl (by kernel_rfl) (fun _ _ _ h => h) (Or.inr ⟨by rfl, rfl⟩) ?_ ?_
          rotate_left
          · simp only [Act.put, List.setIfInBounds_toArray, List.set_cons_zero, List.set_cons_succ, i64_w, i32_w]
            rfl
          refine pure_ (i := 15) (N := some 28) (v := undef) (a' := ?_) #[true, true, true, true, true, true, true, true, true, true, true, true, true, true, true, true, false, false, false, false, false, false, false, false] rfl rfl (by kernel_rfl) (fun _ _ _ h => h) (Or.inr ⟨by rfl, rfl⟩) ?_ ?_
          rotate_left
          · simp only [Act.put, List.setIfInBounds_toArray, List.set_cons_zero, List.set_cons_succ, i64_w, i32_w]
            rfl
          refine pure_ (i := 16) (N := some 29) (v := undef) (a' := ?_) #[true, true, true, true, true, true, true, true, true, true, true, true, true, true, true, true, true, false, false, false, false, false, false, false] rfl rfl (by kernel_rfl) (fun _ _ _ h => h) (Or.inr ⟨by rfl, rfl⟩) ?_ ?_
          rotate_left
          · simp only [Act.put, List.setIfInBounds_toArray, List.set_cons_zero, List.set_cons_succ, i64_w, i32_w]
            rfl
          refine pure_ (i := 17) (N := some 30) (v := undef) (a' := ?_) #[true, true, true, true, true, true, true, true, true, true, true, true, true, true, true, true, true, true, false, false, false, false, false, false] rfl rfl (by kernel_rfl) (fun _ _ _ h => h) (Or.inr ⟨by rfl, rfl⟩) ?_ ?_
          rotate_left
          · simp only [Act.put, List.setIfInBounds_toArray, List.set_cons_zero, List.set_cons_succ, i64_w, i32_w]
            rfl
          refine pure_ (i := 18) (N := some 31) (v := undef) (a' := ?_) #[true, true, true, true, true, true, true, true, true, true, true, true, true, true, true, true, true, true, true, false, false, false, false, false] rfl rfl (by kernel_rfl) (fun _ _ _ h => h) (Or.inr ⟨by rfl, rfl⟩) ?_ ?_
          rotate_left
          · simp only [Act.put, List.setIfInBounds_toArray, List.set_cons_zero, List.set_cons_succ, i64_w, i32_w]
            rfl
          refine pure_ (i := 19) (N := some 32) (v := undef) (a' := ?_) #[true, true, true, true, true, true, true, true, true, true, true, true, true, true, true, true, true, true, true, true, false, false, false, false] rfl rfl (by kernel_rfl) (fun _ _ _ h => h) (Or.inr ⟨by rfl, rfl⟩) ?_ ?_
          rotate_left
          · simp only [Act.put, List.setIfInBounds_toArray, List.set_cons_zero, List.set_cons_succ, i64_w, i32_w]
            rfl
          refine pure_ (i := 20) (N := some 33) (v := undef) (a' := ?_) #[true, true, true, true, true, true, true, true, true, true, true, true, true, true, true, true, true, true, true, true, true, false, false, false] rfl rfl (by kernel_rfl) (fun _ _ _ h => h) (Or.inr ⟨by rfl, rfl⟩) ?_ ?_
          rotate_left
          · simp only [Act.put, List.setIfInBounds_toArray, List.set_cons_zero, List.set_cons_succ, i64_w, i32_w]
            rfl
          refine pure_ (i := 21) (N := some 34) (v := undef) (a' := ?_) #[true, true, true, true, true, true, true, true, true, true, true, true, true, true, true, true, true, true, true, true, true, true, false, false] rfl rfl (by kernel_rfl) (fun _ _ _ h => h) (Or.inr ⟨by rfl, rfl⟩) ?_ ?_
          rotate_left
          · simp only [Act.put, List.setIfInBounds_toArray, List.set_cons_zero, List.set_cons_succ, i64_w, i32_w]
            rfl
          refine pure_ (i := 22) (N := some 35) (v := ?_) (a' := ?_) #[true, true, true, true, true, true, true, true, true, true, true, true, true, true, true, true, true, true, true, true, true, true, true, false] rfl rfl (by kernel_rfl) (fun _ _ _ h => h) (Or.inl ⟨by rfl, ?_⟩) ?_ ?_
          rotate_left
          · intro w'
            go_simp
            with_reducible rfl
          rotate_left
          · simp only [Act.put, List.setIfInBounds_toArray, List.set_cons_zero, List.set_cons_succ, i64_w, i32_w]
            rfl
          refine pure_ (i := 23) (N := some 36) (v := ?_) (a' := ?_) #[true, true, true, true, true, true, true, true, true, true, true, true, true, true, true, true, true, true, true, true, true, true, true, true] rfl rfl (by kernel_rfl) (fun _ _ _ h => h) (Or.inl ⟨by rfl, ?_⟩) ?_ ?_
          rotate_left
          · intro w'
            go_simp
            with_reducible rfl
          rotate_left
          · simp only [Act.put, List.setIfInBounds_toArray, List.set_cons_zero, List.set_cons_succ, i64_w, i32_w]
            rfl
          refine done_ (by kernel_rfl) ?_
          go_wp2_with fail
          go_roundw
          case rel => exact ⟨i + 1, by go_num, ⟨by have := HLT.out; omega, HV.out.trans ⟨fun h => h.2, fun h => ⟨viewV_iff.mpr ⟨by unfold ahead; rw [if_pos HZ.out]; exact above_nil HW.out.1, HW.out⟩, h⟩⟩, hHeld⟩⟩
          case measure => simp only [intOf]; have := HLT.out; first | omega | (go_num; omega) | (simp; omega)
        · have hj0 : (0 : Int) ≤ (i : Int) - 1 := by omega
          have hj1 : (i : Int) - 1 < (l.length : Int) := by omega
          have hp1 : ((i : Int) - 1).toNat = i - 1 := by omega
          obtain ⟨q, hq⟩ : ∃ q, (rd_T87 l ((i : Int) - 1)).f0 = q := ⟨_, rfl⟩
          have HQ2 := Aside0.mk hq
          have HA : Aside0 (ahead l i = q) := ⟨by unfold ahead; rw [if_neg hz]; exact hq⟩
          have h1i : (1 : Int) ≤ (i : Int) := by omega
          have HZ := Aside0.mk hz
          have hw1 : IntKind.i64.wrap ((i : Int) - 1) = (i : Int) - 1 := IntWalk.i64_in _ (by omega)
          clear hq hz
          go_upto_region 6 with fail
          refine start_ (n := 24) (S := fun w' => Below w.heap.size w w') (ds := []) #[false, false, false, false, false, false, false, false, false, false, false, false, false, false, false, false, false, false, false, false, false, false, false, false] (by kernel_rfl) rfl rfl (below_drew1 HQ.out.2.2) (fun hHeld => ?_)
          refine pure_ (i := 0) (N := some 13) (v := ?_) (a' := ?_) #[true, false, false, false, false, false, false, false, false, false, false, false, false, false, false, false, false, false, false, false, false, false, false, false] rfl rfl (by kernel_rfl) (fun _ _ _ h => h) (Or.inl ⟨by rfl, ?_⟩) ?_ ?_
          rotate_left
          · intro w'
            go_simp
            with_reducible rfl
          rotate_left
          · simp only [Act.put, List.setIfInBounds_toArray, List.set_cons_zero, List.set_cons_succ, i64_w, i32_w]
            rfl
          refine pure_ (i := 1) (N := some 14) (v := ?_) (a' := ?_) #[true, true, false, false, false, false, false, false, false, false, false, false, false, false, false, false, false, false, false, false, false, false, false, false] rfl rfl (by kernel_rfl) (fun _ _ _ h => h) (Or.inl ⟨by rfl, ?_⟩) ?_ ?_
          rotate_left
          · intro w'
            go_simp
            with_reducible rfl
          rotate_left
          · simp only [Act.put, List.setIfInBounds_toArray, List.set_cons_zero, List.set_cons_succ, i64_w, i32_w]
            rfl
          refine pure_ (i := 2) (N := some 15) (v := ?_) (a' := ?_) #[true, true, true, false, false, false, false, false, false, false, false, false, false, false, false, false, false, false, false, false, false, false, false, false] rfl rfl (by kernel_rfl) (fun _ _ _ h => h) (Or.inl ⟨by rfl, ?_⟩) ?_ ?_
          rotate_left
          · intro w'
            go_simp
            with_reducible rfl
          rotate_left
          · simp only [Act.put, List.setIfInBounds_toArray, List.set_cons_zero, List.set_cons_succ, i64_w, i32_w]
            rfl
          refine take_ (i := 3) (N := some 16) (v := .agg #[.string x.f0, .int .i64 x.f1, .int .i64 x.f2, .int .i64 x.f3, .int .i64 x.f4.f0, .int .i64 x.f4.f1, .int .i64 x.f5]) (a' := ?_) #[true, true, true, true, false, false, false, false, false, false, false, false, false, false, false, false, false, false, false, false, false, false, false, false] rfl rfl (by kernel_rfl) (fun _ _ _ h => h) (Or.inl ⟨by rfl, ?_⟩) hHeld ?_ ?_
          · intro w' hS
            obtain ⟨ad', had, c0, c1, c2, c3, c4, c5, c6⟩ := at_T87 (Kd.C_below HR.out hS) (i : Int) hi0 hi1
            obtain rfl := Option.some.inj had
            rw [HX.out] at c0 c1 c2 c3 c4 c5 c6
            simp only [Int.toNat_natCast] at c0 c1 c2 c3 c4 c5 c6
            go_simp
          rotate_left
          · simp only [Act.put, List.setIfInBounds_toArray, List.set_cons_zero, List.set_cons_succ, i64_w, i32_w]
            rfl
          refine one_ (i := 4) (N := some 17) #[true, true, true, true, true, false, false, false, false, false, false, false, false, false, false, false, false, false, false, false, false, false, false, false] rfl rfl (by kernel_rfl) (by decide) (fun K hK => ?_)
          refine goes_ Try.func94 (by kernel_rfl) rfl #[.agg #[.string x.f0, .int .i64 x.f1, .int .i64 x.f2, .int .i64 x.f3, .int .i64 x.f4.f0, .int .i64 x.f4.f1, .int .i64 x.f5]] (by rfl) rfl rfl (by (try simp only [List.map_toArray, List.map_cons, List.map_nil]); first | done | rfl) ?_
          refine (view_yes x HW.out _).mono ?_
          rintro e w1 ⟨rfl, hb⟩
          refine ⟨_, rfl, ?_⟩
          refine hK.out _ _ (below_step hHeld hb) (fun hHeld => ?_)
          clear hK K
          refine norm_ (a' := ?_) ?_ ?_
          rotate_left
          · show Act.put _ (some 17) _ = _
            simp only [Act.put, List.setIfInBounds_toArray, List.set_cons_zero, List.set_cons_succ, i64_w, i32_w]
            rfl
          refine pure_ (i := 5) (N := some 18) (v := ?_) (a' := ?_) #[true, true, true, true, true, true, false, false, false, false, false, false, false, false, false, false, false, false, false, false, false, false, false, false] rfl rfl (by kernel_rfl) (fun _ _ _ h => h) (Or.inl ⟨by rfl, ?_⟩) ?_ ?_
          rotate_left
          · intro w'
            go_simp
            with_reducible rfl
          rotate_left
          · simp only [Act.put, List.setIfInBounds_toArray, List.set_cons_zero, List.set_cons_succ, i64_w, i32_w]
            rfl
          refine pure_ (i := 6) (N := some 19) (v := ?_) (a' := ?_) #[true, true, true, true, true, true, true, false, false, false, false, false, false, false, false, false, false, false, false, false, false, false, false, false] rfl rfl (by kernel_rfl) (fun _ _ _ h => h) (Or.inl ⟨by rfl, ?_⟩) ?_ ?_
          rotate_left
          · intro w'
            go_simp
            with_reducible rfl
          rotate_left
          · simp only [Act.put, List.setIfInBounds_toArray, List.set_cons_zero, List.set_cons_succ, i64_w, i32_w]
            rfl
          refine pure_ (i := 7) (N := some 20) (v := ?_) (a' := ?_) #[true, true, true, true, true, true, true, true, false, false, false, false, false, false, false, false, false, false, false, false, false, false, false, false] rfl rfl (by kernel_rfl) (fun _ _ _ h => h) (Or.inl ⟨by rfl, ?_⟩) ?_ ?_
          rotate_left
          · intro w'
            go_simp
            with_reducible rfl
          rotate_left
          · simp only [Act.put, List.setIfInBounds_toArray, List.set_cons_zero, List.set_cons_succ, i64_w, i32_w]
            rfl
          refine pure_ (i := 8) (N := some 21) (v := .bool true) (a' := ?_) #[true, true, true, true, true, true, true, true, true, false, false, false, false, false, false, false, false, false, false, false, false, false, false, false] rfl rfl (by kernel_rfl) (fun _ _ _ h => h) (Or.inl ⟨by rfl, ?_⟩) ?_ ?_
          · intro w'
            go_simp
            first | done | (have := HZ.out; omega)
          rotate_left
          · simp only [Act.put, List.setIfInBounds_toArray, List.set_cons_zero, List.set_cons_succ, i64_w, i32_w]
            rfl
          refine pure_ (i := 9) (N := some 22) (v := ?_) (a' := ?_) #[true, true, true, true, true, true, true, true, true, true, false, false, false, false, false, false, false, false, false, false, false, false, false, false] rfl rfl (by kernel_rfl) (fun _ _ _ h => h) (Or.inl ⟨by rfl, ?_⟩) ?_ ?_
          rotate_left
          · intro w'
            go_simp
            with_reducible rfl
          rotate_left
          · simp only [Act.put, List.setIfInBounds_toArray, List.set_cons_zero, List.set_cons_succ, i64_w, i32_w]
            rfl
          refine pure_ (i := 10) (N := some 23) (v := ?_) (a' := ?_) #[true, true, true, true, true, true, true, true, true, true, true, false, false, false, false, false, false, false, false, false, false, false, false, false] rfl rfl (by kernel_rfl) (fun _ _ _ h => h) (Or.inl ⟨by rfl, ?_⟩) ?_ ?_
          rotate_left
          · intro w'
            go_simp
            with_reducible rfl
          rotate_left
          · simp only [Act.put, List.setIfInBounds_toArray, List.set_cons_zero, List.set_cons_succ, i64_w, i32_w]
            rfl
          refine pure_ (i := 11) (N := some 24) (v := ?_) (a' := ?_) #[true, true, true, true, true, true, true, true, true, true, true, true, false, false, false, false, false, false, false, false, false, false, false, false] rfl rfl (by kernel_rfl) (fun _ _ _ h => h) (Or.inl ⟨by rfl, ?_⟩) ?_ ?_
          rotate_left
          · intro w'
            go_simp
            with_reducible rfl
          rotate_left
          · simp only [Act.put, List.setIfInBounds_toArray, List.set_cons_zero, List.set_cons_succ, i64_w, i32_w]
            rfl
          refine pure_ (i := 12) (N := some 25) (v := ?_) (a' := ?_) #[true, true, true, true, true, true, true, true, true, true, true, true, true, false, false, false, false, false, false, false, false, false, false, false] rfl rfl (by kernel_rfl) (fun _ _ _ h => h) (Or.inl ⟨by rfl, ?_⟩) ?_ ?_
          rotate_left
          · intro w'
            go_simp
            with_reducible rfl
          rotate_left
          · simp only [Act.put, List.setIfInBounds_toArray, List.set_cons_zero, List.set_cons_succ, i64_w, i32_w]
            rfl
          refine pure_ (i := 13) (N := some 26) (v := ?_) (a' := ?_) #[true, true, true, true, true, true, true, true, true, true, true, true, true, true, false, false, false, false, false, false, false, false, false, false] rfl rfl (by kernel_rfl) (fun _ _ _ h => h) (Or.inl ⟨by rfl, ?_⟩) ?_ ?_
          rotate_left
          · intro w'
            go_simp
            with_reducible rfl
          rotate_left
          · simp only [Act.put, List.setIfInBounds_toArray, List.set_cons_zero, List.set_cons_succ, i64_w, i32_w]
            rfl
          refine take_ (i := 14) (N := some 27) (v := .string x.f0) (a' := ?_) #[true, true, true, true, true, true, true, true, true, true, true, true, true, true, true, false, false, false, false, false, false, false, false, false] rfl rfl (by kernel_rfl) (fun _ _ _ h => h) (Or.inl ⟨by rfl, ?_⟩) hHeld ?_ ?_
          · intro w' hS
            obtain ⟨ad', had, c0, c1, c2, c3, c4, c5, c6⟩ := at_T87 (Kd.C_below HR.out hS) (i : Int) hi0 hi1
            obtain rfl := Option.some.inj had
            rw [HX.out] at c0 c1 c2 c3 c4 c5 c6
            simp only [Int.toNat_natCast] at c0 c1 c2 c3 c4 c5 c6
            go_simp
          rotate_left
          · simp only [Act.put, List.setIfInBounds_toArray, List.set_cons_zero, List.set_cons_succ, i64_w, i32_w]
            rfl
          refine pure_ (i := 15) (N := some 28) (v := ?_) (a' := ?_) #[true, true, true, true, true, true, true, true, true, true, true, true, true, true, true, true, false, false, false, false, false, false, false, false] rfl rfl (by kernel_rfl) (fun _ _ _ h => h) (Or.inl ⟨by rfl, ?_⟩) ?_ ?_
          rotate_left
          · intro w'
            go_simp
            with_reducible rfl
          rotate_left
          · simp only [Act.put, List.setIfInBounds_toArray, List.set_cons_zero, List.set_cons_succ, i64_w, i32_w]
            rfl
          refine pure_ (i := 16) (N := some 29) (v := ?_) (a' := ?_) #[true, true, true, true, true, true, true, true, true, true, true, true, true, true, true, true, true, false, false, false, false, false, false, false] rfl rfl (by kernel_rfl) (fun _ _ _ h => h) (Or.inl ⟨by rfl, ?_⟩) ?_ ?_
          rotate_left
          · intro w'
            go_simp
            with_reducible rfl
          rotate_left
          · simp only [Act.put, List.setIfInBounds_toArray, List.set_cons_zero, List.set_cons_succ, i64_w, i32_w]
            rfl
          refine pure_ (i := 17) (N := some 30) (v := ?_) (a' := ?_) #[true, true, true, true, true, true, true, true, true, true, true, true, true, true, true, true, true, true, false, false, false, false, false, false] rfl rfl (by kernel_rfl) (fun _ _ _ h => h) (Or.inl ⟨by rfl, ?_⟩) ?_ ?_
          rotate_left
          · intro w'
            go_simp
            with_reducible rfl
          rotate_left
          · simp only [Act.put, List.setIfInBounds_toArray, List.set_cons_zero, List.set_cons_succ, i64_w, i32_w]
            rfl
          refine pure_ (i := 18) (N := some 31) (v := ?_) (a' := ?_) #[true, true, true, true, true, true, true, true, true, true, true, true, true, true, true, true, true, true, true, false, false, false, false, false] rfl rfl (by kernel_rfl) (fun _ _ _ h => h) (Or.inl ⟨by rfl, ?_⟩) ?_ ?_
          rotate_left
          · intro w'
            go_simp
            with_reducible rfl
          rotate_left
          · simp only [Act.put, List.setIfInBounds_toArray, List.set_cons_zero, List.set_cons_succ, i64_w, i32_w]
            rfl
          refine pure_ (i := 19) (N := some 32) (v := ?_) (a' := ?_) #[true, true, true, true, true, true, true, true, true, true, true, true, true, true, true, true, true, true, true, true, false, false, false, false] rfl rfl (by kernel_rfl) (fun _ _ _ h => h) (Or.inl ⟨by rfl, ?_⟩) ?_ ?_
          rotate_left
          · intro w'
            go_simp
            with_reducible rfl
          rotate_left
          · simp only [Act.put, List.setIfInBounds_toArray, List.set_cons_zero, List.set_cons_succ, i64_w, i32_w]
            rfl
          refine take_ (i := 20) (N := some 33) (v := .string q) (a' := ?_) #[true, true, true, true, true, true, true, true, true, true, true, true, true, true, true, true, true, true, true, true, true, false, false, false] rfl rfl (by kernel_rfl) (fun _ _ _ h => h) (Or.inl ⟨by rfl, ?_⟩) hHeld ?_ ?_
          · intro w' hS
            obtain ⟨ad', had, c0, _⟩ := at_T87 (Kd.C_below HR.out hS) ((i : Int) - 1) hj0 hj1
            obtain rfl := Option.some.inj had
            rw [HQ2.out, hp1] at c0
            go_simp
          rotate_left
          · simp only [Act.put, List.setIfInBounds_toArray, List.set_cons_zero, List.set_cons_succ, i64_w, i32_w]
            rfl
          refine pure_ (i := 21) (N := some 34) (v := ?_) (a' := ?_) #[true, true, true, true, true, true, true, true, true, true, true, true, true, true, true, true, true, true, true, true, true, true, false, false] rfl rfl (by kernel_rfl) (fun _ _ _ h => h) (Or.inl ⟨by rfl, ?_⟩) ?_ ?_
          rotate_left
          · intro w'
            go_simp
            with_reducible rfl
          rotate_left
          · simp only [Act.put, List.setIfInBounds_toArray, List.set_cons_zero, List.set_cons_succ, i64_w, i32_w]
            rfl
          refine pure_ (i := 22) (N := some 35) (v := ?_) (a' := ?_) #[true, true, true, true, true, true, true, true, true, true, true, true, true, true, true, true, true, true, true, true, true, true, true, false] rfl rfl (by kernel_rfl) (fun _ _ _ h => h) (Or.inl ⟨by rfl, ?_⟩) ?_ ?_
          rotate_left
          · intro w'
            go_simp
            with_reducible rfl
          rotate_left
          · simp only [Act.put, List.setIfInBounds_toArray, List.set_cons_zero, List.set_cons_succ, i64_w, i32_w]
            rfl
          refine pure_ (i := 23) (N := some 36) (v := ?_) (a' := ?_) #[true, true, true, true, true, true, true, true, true, true, true, true, true, true, true, true, true, true, true, true, true, true, true, true] rfl rfl (by kernel_rfl) (fun _ _ _ h => h) (Or.inl ⟨by rfl, ?_⟩) ?_ ?_
          rotate_left
          · intro w'
            go_simp
            with_reducible rfl
          rotate_left
          · simp only [Act.put, List.setIfInBounds_toArray, List.set_cons_zero, List.set_cons_succ, i64_w, i32_w]
            rfl
          refine done_ (by kernel_rfl) ?_
          go_wp2_with fail
          · have hb : (!Go.Op.bytesLess q.toList x.f0.toList) = true := by assumption
            go_ret
            exact ⟨by rw [dcd_neg (fun h => by have := (viewV_iff.mp (HV.out.mp h.2).1).1; rw [HA.out] at this; unfold above at this; rw [this] at hb; cases hb)]; rfl, hHeld⟩
          · have hb : (!Go.Op.bytesLess q.toList x.f0.toList) = false := by assumption
            have HB2 : Aside0 (Go.Op.bytesLess q.toList x.f0.toList = true) := ⟨by cases h : Go.Op.bytesLess q.toList x.f0.toList; rw [h] at hb; cases hb; rfl⟩
            go_roundw
            case rel => exact ⟨i + 1, by go_num, ⟨by have := HLT.out; omega, HV.out.trans ⟨fun h => h.2, fun h => ⟨viewV_iff.mpr ⟨by rw [HA.out]; exact HB2.out, HW.out⟩, h⟩⟩, hHeld⟩⟩
            case measure => simp only [intOf]; have := HLT.out; first | omega | (go_num; omega) | (simp; omega)
      · have HW := Aside0.mk hw
        clear hw
        go_upto_region 6 with fail
        refine start_ (n := 24) (S := fun w' => Below w.heap.size w w') (ds := []) #[false, false, false, false, false, false, false, false, false, false, false, false, false, false, false, false, false, false, false, false, false, false, false, false] (by kernel_rfl) rfl rfl (below_drew1 HQ.out.2.2) (fun hHeld => ?_)
        refine pure_ (i := 0) (N := some 13) (v := ?_) (a' := ?_) #[true, false, false, false, false, false, false, false, false, false, false, false, false, false, false, false, false, false, false, false, false, false, false, false] rfl rfl (by kernel_rfl) (fun _ _ _ h => h) (Or.inl ⟨by rfl, ?_⟩) ?_ ?_
        rotate_left
        · intro w'
          go_simp
          with_reducible rfl
        rotate_left
        · simp only [Act.put, List.setIfInBounds_toArray, List.set_cons_zero, List.set_cons_succ, i64_w, i32_w]
          rfl
        refine pure_ (i := 1) (N := some 14) (v := ?_) (a' := ?_) #[true, true, false, false, false, false, false, false, false, false, false, false, false, false, false, false, false, false, false, false, false, false, false, false] rfl rfl (by kernel_rfl) (fun _ _ _ h => h) (Or.inl ⟨by rfl, ?_⟩) ?_ ?_
        rotate_left
        · intro w'
          go_simp
          with_reducible rfl
        rotate_left
        · simp only [Act.put, List.setIfInBounds_toArray, List.set_cons_zero, List.set_cons_succ, i64_w, i32_w]
          rfl
        refine pure_ (i := 2) (N := some 15) (v := ?_) (a' := ?_) #[true, true, true, false, false, false, false, false, false, false, false, false, false, false, false, false, false, false, false, false, false, false, false, false] rfl rfl (by kernel_rfl) (fun _ _ _ h => h) (Or.inl ⟨by rfl, ?_⟩) ?_ ?_
        rotate_left
        · intro w'
          go_simp
          with_reducible rfl
        rotate_left
        · simp only [Act.put, List.setIfInBounds_toArray, List.set_cons_zero, List.set_cons_succ, i64_w, i32_w]
          rfl
        refine take_ (i := 3) (N := some 16) (v := .agg #[.string x.f0, .int .i64 x.f1, .int .i64 x.f2, .int .i64 x.f3, .int .i64 x.f4.f0, .int .i64 x.f4.f1, .int .i64 x.f5]) (a' := ?_) #[true, true, true, true, false, false, false, false, false, false, false, false, false, false, false, false, false, false, false, false, false, false, false, false] rfl rfl (by kernel_rfl) (fun _ _ _ h => h) (Or.inl ⟨by rfl, ?_⟩) hHeld ?_ ?_
        · intro w' hS
          obtain ⟨ad', had, c0, c1, c2, c3, c4, c5, c6⟩ := at_T87 (Kd.C_below HR.out hS) (i : Int) hi0 hi1
          obtain rfl := Option.some.inj had
          rw [HX.out] at c0 c1 c2 c3 c4 c5 c6
          simp only [Int.toNat_natCast] at c0 c1 c2 c3 c4 c5 c6
          go_simp
        rotate_left
        · simp only [Act.put, List.setIfInBounds_toArray, List.set_cons_zero, List.set_cons_succ, i64_w, i32_w]
          rfl
        refine one_ (i := 4) (N := some 17) #[true, true, true, true, true, false, false, false, false, false, false, false, false, false, false, false, false, false, false, false, false, false, false, false] rfl rfl (by kernel_rfl) (by decide) (fun K hK => ?_)
        refine goes_ Try.func94 (by kernel_rfl) rfl #[.agg #[.string x.f0, .int .i64 x.f1, .int .i64 x.f2, .int .i64 x.f3, .int .i64 x.f4.f0, .int .i64 x.f4.f1, .int .i64 x.f5]] (by rfl) rfl rfl (by (try simp only [List.map_toArray, List.map_cons, List.map_nil]); first | done | rfl) ?_
        refine (view_no x HW.out _).mono ?_
        rintro e w1 ⟨rfl, hb⟩
        refine ⟨_, rfl, ?_⟩
        refine hK.out _ _ (below_step hHeld hb) (fun hHeld => ?_)
        clear hK K
        refine norm_ (a' := ?_) ?_ ?_
        rotate_left
        · show Act.put _ (some 17) _ = _
          simp only [Act.put, List.setIfInBounds_toArray, List.set_cons_zero, List.set_cons_succ, i64_w, i32_w]
          rfl
        refine pure_ (i := 5) (N := some 18) (v := ?_) (a' := ?_) #[true, true, true, true, true, true, false, false, false, false, false, false, false, false, false, false, false, false, false, false, false, false, false, false] rfl rfl (by kernel_rfl) (fun _ _ _ h => h) (Or.inl ⟨by rfl, ?_⟩) ?_ ?_
        rotate_left
        · intro w'
          go_simp
          with_reducible rfl
        rotate_left
        · simp only [Act.put, List.setIfInBounds_toArray, List.set_cons_zero, List.set_cons_succ, i64_w, i32_w]
          rfl
        refine pure_ (i := 6) (N := some 19) (v := ?_) (a' := ?_) #[true, true, true, true, true, true, true, false, false, false, false, false, false, false, false, false, false, false, false, false, false, false, false, false] rfl rfl (by kernel_rfl) (fun _ _ _ h => h) (Or.inl ⟨by rfl, ?_⟩) ?_ ?_
        rotate_left
        · intro w'
          go_simp
          with_reducible rfl
        rotate_left
        · simp only [Act.put, List.setIfInBounds_toArray, List.set_cons_zero, List.set_cons_succ, i64_w, i32_w]
          rfl
        refine pure_ (i := 7) (N := some 20) (v := undef) (a' := ?_) #[true, true, true, true, true, true, true, true, false, false, false, false, false, false, false, false, false, false, false, false, false, false, false, false] rfl rfl (by kernel_rfl) (fun _ _ _ h => h) (Or.inr ⟨by rfl, rfl⟩) ?_ ?_
        rotate_left
        · simp only [Act.put, List.setIfInBounds_toArray, List.set_cons_zero, List.set_cons_succ, i64_w, i32_w]
          rfl
        refine pure_ (i := 8) (N := some 21) (v := undef) (a' := ?_) #[true, true, true, true, true, true, true, true, true, false, false, false, false, false, false, false, false, false, false, false, false, false, false, false] rfl rfl (by kernel_rfl) (fun _ _ _ h => h) (Or.inr ⟨by rfl, rfl⟩) ?_ ?_
        rotate_left
        · simp only [Act.put, List.setIfInBounds_toArray, List.set_cons_zero, List.set_cons_succ, i64_w, i32_w]
          rfl
        refine pure_ (i := 9) (N := some 22) (v := undef) (a' := ?_) #[true, true, true, true, true, true, true, true, true, true, false, false, false, false, false, false, false, false, false, false, false, false, false, false] rfl rfl (by kernel_rfl) (fun _ _ _ h => h) (Or.inr ⟨by rfl, rfl⟩) ?_ ?_
        rotate_left
        · simp only [Act.put, List.setIfInBounds_toArray, List.set_cons_zero, List.set_cons_succ, i64_w, i32_w]
          rfl
        refine pure_ (i := 10) (N := some 23) (v := undef) (a' := ?_) #[true, true, true, true, true, true, true, true, true, true, true, false, false, false, false, false, false, false, false, false, false, false, false, false] rfl rfl (by kernel_rfl) (fun _ _ _ h => h) (Or.inr ⟨by rfl, rfl⟩) ?_ ?_
        rotate_left
        · simp only [Act.put, List.setIfInBounds_toArray, List.set_cons_zero, List.set_cons_succ, i64_w, i32_w]
          rfl
        refine pure_ (i := 11) (N := some 24) (v := undef) (a' := ?_) #[true, true, true, true, true, true, true, true, true, true, true, true, false, false, false, false, false, false, false, false, false, false, false, false] rfl rfl (by kernel_rfl) (fun _ _ _ h => h) (Or.inr ⟨by rfl, rfl⟩) ?_ ?_
        rotate_left
        · simp only [Act.put, List.setIfInBounds_toArray, List.set_cons_zero, List.set_cons_succ, i64_w, i32_w]
          rfl
        refine pure_ (i := 12) (N := some 25) (v := undef) (a' := ?_) #[true, true, true, true, true, true, true, true, true, true, true, true, true, false, false, false, false, false, false, false, false, false, false, false] rfl rfl (by kernel_rfl) (fun _ _ _ h => h) (Or.inr ⟨by rfl, rfl⟩) ?_ ?_
        rotate_left
        · simp only [Act.put, List.setIfInBounds_toArray, List.set_cons_zero, List.set_cons_succ, i64_w, i32_w]
          rfl
        refine pure_ (i := 13) (N := some 26) (v := undef) (a' := ?_) #[true, true, true, true, true, true, true, true, true, true, true, true, true, true, false, false, false, false, false, false, false, false, false, false] rfl rfl (by kernel_rfl) (fun _ _ _ h => h) (Or.inr ⟨by rfl, rfl⟩) ?_ ?_
        rotate_left
        · simp only [Act.put, List.setIfInBounds_toArray, List.set_cons_zero, List.set_cons_succ, i64_w, i32_w]
          rfl
        refine pure_ (i := 14) (N := some 27) (v := undef) (a' := ?_) #[true, true, true, true, true, true, true, true, true, true, true, true, true, true, true, false, false, false, false, false, false, false, false, false] rfl rfl (by kernel_rfl) (fun _ _ _ h => h) (Or.inr ⟨by rfl, rfl⟩) ?_ ?_
        rotate_left
        · simp only [Act.put, List.setIfInBounds_toArray, List.set_cons_zero, List.set_cons_succ, i64_w, i32_w]
          rfl
        refine pure_ (i := 15) (N := some 28) (v := undef) (a' := ?_) #[true, true, true, true, true, true, true, true, true, true, true, true, true, true, true, true, false, false, false, false, false, false, false, false] rfl rfl (by kernel_rfl) (fun _ _ _ h => h) (Or.inr ⟨by rfl, rfl⟩) ?_ ?_
        rotate_left
        · simp only [Act.put, List.setIfInBounds_toArray, List.set_cons_zero, List.set_cons_succ, i64_w, i32_w]
          rfl
        refine pure_ (i := 16) (N := some 29) (v := undef) (a' := ?_) #[true, true, true, true, true, true, true, true, true, true, true, true, true, true, true, true, true, false, false, false, false, false, false, false] rfl rfl (by kernel_rfl) (fun _ _ _ h => h) (Or.inr ⟨by rfl, rfl⟩) ?_ ?_
        rotate_left
        · simp only [Act.put, List.setIfInBounds_toArray, List.set_cons_zero, List.set_cons_succ, i64_w, i32_w]
          rfl
        refine pure_ (i := 17) (N := some 30) (v := undef) (a' := ?_) #[true, true, true, true, true, true, true, true, true, true, true, true, true, true, true, true, true, true, false, false, false, false, false, false] rfl rfl (by kernel_rfl) (fun _ _ _ h => h) (Or.inr ⟨by rfl, rfl⟩) ?_ ?_
        rotate_left
        · simp only [Act.put, List.setIfInBounds_toArray, List.set_cons_zero, List.set_cons_succ, i64_w, i32_w]
          rfl
        refine pure_ (i := 18) (N := some 31) (v := undef) (a' := ?_) #[true, true, true, true, true, true, true, true, true, true, true, true, true, true, true, true, true, true, true, false, false, false, false, false] rfl rfl (by kernel_rfl) (fun _ _ _ h => h) (Or.inr ⟨by rfl, rfl⟩) ?_ ?_
        rotate_left
        · simp only [Act.put, List.setIfInBounds_toArray, List.set_cons_zero, List.set_cons_succ, i64_w, i32_w]
          rfl
        refine pure_ (i := 19) (N := some 32) (v := undef) (a' := ?_) #[true, true, true, true, true, true, true, true, true, true, true, true, true, true, true, true, true, true, true, true, false, false, false, false] rfl rfl (by kernel_rfl) (fun _ _ _ h => h) (Or.inr ⟨by rfl, rfl⟩) ?_ ?_
        rotate_left
        · simp only [Act.put, List.setIfInBounds_toArray, List.set_cons_zero, List.set_cons_succ, i64_w, i32_w]
          rfl
        refine pure_ (i := 20) (N := some 33) (v := undef) (a' := ?_) #[true, true, true, true, true, true, true, true, true, true, true, true, true, true, true, true, true, true, true, true, true, false, false, false] rfl rfl (by kernel_rfl) (fun _ _ _ h => h) (Or.inr ⟨by rfl, rfl⟩) ?_ ?_
        rotate_left
        · simp only [Act.put, List.setIfInBounds_toArray, List.set_cons_zero, List.set_cons_succ, i64_w, i32_w]
          rfl
        refine pure_ (i := 21) (N := some 34) (v := undef) (a' := ?_) #[true, true, true, true, true, true, true, true, true, true, true, true, true, true, true, true, true, true, true, true, true, true, false, false] rfl rfl (by kernel_rfl) (fun _ _ _ h => h) (Or.inr ⟨by rfl, rfl⟩) ?_ ?_
        rotate_left
        · simp only [Act.put, List.setIfInBounds_toArray, List.set_cons_zero, List.set_cons_succ, i64_w, i32_w]
          rfl
        refine pure_ (i := 22) (N := some 35) (v := undef) (a' := ?_) #[true, true, true, true, true, true, true, true, true, true, true, true, true, true, true, true, true, true, true, true, true, true, true, false] rfl rfl (by kernel_rfl) (fun _ _ _ h => h) (Or.inr ⟨by rfl, rfl⟩) ?_ ?_
        rotate_left
        · simp only [Act.put, List.setIfInBounds_toArray, List.set_cons_zero, List.set_cons_succ, i64_w, i32_w]
          rfl
        refine pure_ (i := 23) (N := some 36) (v := ?_) (a' := ?_) #[true, true, true, true, true, true, true, true, true, true, true, true, true, true, true, true, true, true, true, true, true, true, true, true] rfl rfl (by kernel_rfl) (fun _ _ _ h => h) (Or.inl ⟨by rfl, ?_⟩) ?_ ?_
        rotate_left
        · intro w'
          go_simp
          with_reducible rfl
        rotate_left
        · simp only [Act.put, List.setIfInBounds_toArray, List.set_cons_zero, List.set_cons_succ, i64_w, i32_w]
          rfl
        refine done_ (by kernel_rfl) ?_
        go_wp2_with fail
        go_ret
        exact ⟨by rw [dcd_neg (fun h => HW.out (viewV_iff.mp (HV.out.mp h.2).1).2)]; rfl, hHeld⟩
    · have hi1 : ¬ ((i : Int) < (l.length : Int)) := by omega
      have HV : Aside0 (viewsV eB l) := ⟨by rw [HQ.out.2.1, List.drop_of_length_le (by omega)]; trivial⟩
      go_wp2_with fail
      go_ret
      exact ⟨by rw [dcd_pos ⟨by have := H64.out; omega, HV.out⟩]; rfl, HQ.out.2.2⟩
end Go.Proofs.Ytpgdmmjbhjbbhaa.Rf
end
section
namespace Go.Proofs.Ytpgdmmjbhjbbhaa.Rf
open Go Go.RowKit Go.Proofs.Ytpgdmmjbhjbbhaa.P Go.Proofs.Ytpgdmmjbhjbbhaa.Sp Go.Proofs.Ytpgdmmjbhjbbhaa.Vd Go.Proofs.Ytpgdmmjbhjbbhaa.En Go.Proofs.Ytpgdmmjbhjbbhaa.Wr Go.Proofs.Ytpgdmmjbhjbbhaa.Rd Go.Proofs.Ytpgdmmjbhjbbhaa.Lw Go.Proofs.YtpgdmmjbhjbbhaaW.PrintWords Go.Proofs.YtpgdmmjbhjbbhaaW.PrintLast Go.Proofs.YtpgdmmjbhjbbhaaW.PrintMore
set_option linter.unusedVariables false
set_option linter.unusedSimpArgs false
theorem wrap_s {i : Nat} (h : i ≤ 1000000) : wrap64 ((i : Int) + 1) = ((i + 1 : Nat) : Int) := by
  rw [wrap64]; simp [IntKind.wrap, IntKind.bits, IntKind.signed]; omega
theorem number_l : ∀ (d n : Nat) (x : List Int), n < 128 ^ (d + 1) → n < 18446744073709551616 → x.length + (d + 1) ≤ 100000000 → ∀ k, d + 1 ≤ k → sluiceref2_number.l0 k x (n : Int) = some (x ++ numB n) := by
  intro d
  induction d with
  | zero =>
    intro n x hn h64 hx k hk
    obtain ⟨k, rfl⟩ : ∃ j, k = j + 1 := ⟨k - 1, by omega⟩
    have h1 : n < 128 := by simpa using hn
    unfold sluiceref2_number.l0
    rw [if_neg (by omega), if_pos (by omega), numB_lt h1]
    congr 3
    omega
  | succ d ih =>
    intro n x hn h64 hx k hk
    obtain ⟨k, rfl⟩ : ∃ j, k = j + 1 := ⟨k - 1, by omega⟩
    unfold sluiceref2_number.l0
    by_cases h1 : n < 128
    · rw [if_neg (by omega), if_pos (by omega), numB_lt h1]
      congr 3
      omega
    · rw [if_pos (by omega), if_pos (by omega)]
      have e1 : Int.tmod (n : Int) 128 = ((n % 128 : Nat) : Int) := by rw [Int.tmod_eq_emod_of_nonneg (by omega)]; omega
      have e2 : IntKind.u64.wrap (Int.tdiv (n : Int) 128) = ((n / 128 : Nat) : Int) := by
        rw [Int.tdiv_eq_ediv_of_nonneg (by omega)]
        simp [IntKind.wrap, IntKind.bits, IntKind.signed]
        omega
      rw [e1, e2, ih (n / 128) _ (by rw [Nat.div_lt_iff_lt_mul (by decide)]; rw [Nat.pow_succ] at hn; exact hn) (by omega) (by simp; omega) k (by omega), numB_ge h1]
      rw [List.append_assoc]
      congr 3
      simp only [List.cons_append, List.nil_append, List.cons.injEq, and_true]
      omega
theorem number_f (n : Nat) (x : List Int) (h : n < 18446744073709551616) (hx : x.length ≤ 10000000) (k : Nat) (hk : 10 ≤ k) : sluiceref2_number.f k x (n : Int) = some (x ++ numB n) :=
  number_l 9 n x (Nat.lt_of_lt_of_le h (by decide)) h (by omega) k hk
theorem plain_l (l : List Int) (hl : l.length ≤ 100) : ∀ (n i : Nat) (x : List Int), i + n = l.length → x.length + n * 10 ≤ 10000000 → ∀ k, n + 11 ≤ k → sluiceref2_plain.l0 k x l (i : Int) = some (x ++ numsB (l.drop i)) := by
  intro n
  induction n with
  | zero =>
    intro i x hi hx k hk
    obtain ⟨k, rfl⟩ : ∃ j, k = j + 1 := ⟨k - 1, by omega⟩
    unfold sluiceref2_plain.l0
    rw [if_neg (by omega), List.drop_of_length_le (by omega)]
    simp [numsB]
  | succ n ih =>
    intro i x hi hx k hk
    obtain ⟨k, rfl⟩ : ∃ j, k = j + 1 := ⟨k - 1, by omega⟩
    unfold sluiceref2_plain.l0
    have hu := u64_nat (rd l (i : Int))
    rw [if_pos (by omega), if_pos (by omega), ← hu.1, number_f _ x hu.2 (by omega) k (by omega), Option.bind_some, wrap_s (by omega)]
    have hn := numB_len10 hu.2
    rw [ih (i + 1) (x ++ numB (IntKind.u64.wrap (rd l (i : Int))).toNat) (by omega) (by rw [List.length_append]; omega) k (by omega), List.append_assoc]
    congr 2
    have hd := List.drop_eq_getElem_cons (l := l) (i := i) (by omega)
    have hr : rd l (i : Int) = l[i] := by simp [rd, List.getD_eq_getElem?_getD, List.getElem?_eq_getElem (show i < l.length by omega)]
    unfold numsB
    rw [hd, List.flatMap_cons, hr]
    rfl
theorem plain_f (l x : List Int) (hl : l.length ≤ 100) (hx : x.length ≤ 1000000) (k : Nat) (hk : 111 ≤ k) : sluiceref2_plain.f k x l = some (x ++ numsB l) := by
  have := plain_l l hl l.length 0 x (by omega) (by omega) k (by omega)
  rw [List.drop_zero] at this
  exact this
theorem text_f (s : ByteArray) (x : List Int) (hs : s.size ≤ 100) (hx : x.length ≤ 100000) (k : Nat) (hk : 111 ≤ k) : sluiceref2_text.f k x s = some (x ++ textB s) := by
  unfold sluiceref2_text.f
  rw [plain_f _ _ (by simp) (by omega) k hk, Option.bind_some]
  have hn : numsB [(s.size : Int)] = intB s.size := by simp [numsB]
  have h2 : (intB (s.size : Int)).length ≤ 10 := by rw [intB_of (by omega) (by omega)]; exact numB_len10 (by omega)
  rw [hn, if_pos (by rw [List.length_append]; omega), List.append_assoc]
  rfl
theorem signed_f (n : Int) (x : List Int) (hn : isI n) (hx : x.length ≤ 1000000) (k : Nat) (hk : 10 ≤ k) : sluiceref2_signed.f k x n = some (x ++ signB n) := by
  unfold sluiceref2_signed.f
  unfold isI at hn
  have hb : signN n < 18446744073709551616 := by unfold signN; split <;> omega
  by_cases h : n ≥ 0
  · rw [if_pos h]
    have e : IntKind.u64.wrap (2 * IntKind.u64.wrap n) = (signN n : Int) := by
      simp [IntKind.wrap, IntKind.bits, IntKind.signed, signN, if_pos (show 0 ≤ n from h)]
      omega
    rw [e, number_f _ x hb (by omega) k hk]
    rfl
  · rw [if_neg h]
    have e0 : wrap64 (n + 1) = n + 1 := IntWalk.wrap64_in _ ⟨by omega, by omega⟩
    have e1 : wrap64 (-(n + 1)) = -(n + 1) := IntWalk.wrap64_in _ ⟨by omega, by omega⟩
    have e : IntKind.u64.wrap (IntKind.u64.wrap (2 * IntKind.u64.wrap (wrap64 (-(wrap64 (n + 1))))) + 1) = (signN n : Int) := by
      rw [e0, e1]
      simp [IntKind.wrap, IntKind.bits, IntKind.signed, signN, if_neg (show ¬ 0 ≤ n from h)]
      omega
    rw [e, number_f _ x hb (by omega) k hk]
    rfl
theorem pair_f (x : S25) (b : List Int) (hb : b.length ≤ 100000) (k : Nat) (hk : 111 ≤ k) : sluiceref2_putCall.f k b x.f0 x.f1 = some (b ++ pairB x) := by
  unfold sluiceref2_putCall.f
  rw [plain_f _ _ (by simp) (by omega) k hk, Option.bind_some]
  have : numsB [x.f0, x.f1] = pairB x := by simp [numsB, pairB]
  rw [this]
theorem intB_len (n : Int) : (intB n).length ≤ 10 := numB_len10 (u64_nat n).2
theorem signB_len {n : Int} (h : isI n) : (signB n).length ≤ 10 := numB_len10 (by unfold isI at h; unfold signN; split <;> omega)
theorem textB_len {s : ByteArray} (h : s.size ≤ 100) : (textB s).length ≤ 110 := by
  have := intB_len s.size
  unfold textB
  rw [List.length_append, bytesOf_length]
  omega
theorem putOp_f (o : Sp.Op) (b : List Int) (hs : o.name.size ≤ 100) (ho : isI o.a ∧ isI o.b) (hb : b.length ≤ 10000) (k : Nat) (hk : 111 ≤ k) : sluiceref2_putOp.f k b o.kind o.name o.a o.b = some (b ++ opB o) := by
  unfold sluiceref2_putOp.f
  have h1 : numsB [o.kind] = intB o.kind := by simp [numsB]
  have l1 := intB_len o.kind
  have l2 := textB_len hs
  have l3 := signB_len ho.1
  rw [plain_f _ _ (by simp) (by omega) k hk, Option.bind_some, h1, text_f _ _ hs (by rw [List.length_append]; omega) k hk, Option.bind_some, signed_f _ _ ho.1 (by simp only [List.length_append]; omega) k (by omega), Option.bind_some, signed_f _ _ ho.2 (by simp only [List.length_append]; omega) k (by omega), Option.bind_some]
  simp only [opB, List.append_assoc]
theorem name_size {s : ByteArray} (h : nameOk (bytesOf s)) : s.size ≤ 16 := by have := h.2.1; rw [bytesOf_length] at this; exact this
theorem pairB_len (x : S25) : (pairB x).length ≤ 20 := by have := intB_len x.f0; have := intB_len x.f1; unfold pairB; rw [List.length_append]; omega
theorem encreq_f (x : S25) (o : Sp.Op) (h : isI o.a ∧ isI o.b) : ∃ k, sluiceref2_EncodeRequest.f k x.f0 x.f1 o.kind o.name o.a o.b = some (lay reqB reqV (x, o)) := by
  obtain ⟨k1, h1⟩ := rop_f o.kind o.name o.a o.b
  obtain ⟨K, hK1, hK2⟩ : ∃ K, k1 ≤ K + 1 ∧ 111 ≤ K := ⟨max k1 111, by omega, by omega⟩
  refine ⟨K + 1, ?_⟩
  have h2 := at_rounds (fun k => sluiceref2_op.mono _ _ _ _ k) hK1 h1
  unfold sluiceref2_EncodeRequest.f
  rw [rcall_f, Option.bind_some, h2]
  by_cases hc : callV x
  · rw [if_pos (dcd_pos hc), Option.bind_some]
    rw [sluiceref2_EncodeRequest.j0]
    by_cases ho : oB o.kind o.name = true
    · have hv : reqV (x, o) := ⟨hc, (oB_iff o h).mp ho⟩
      have hs : o.name.size ≤ 16 := name_size hv.2.2.1.1
      have := pairB_len x
      rw [ho, lay_ok hv]
      rw [if_neg (by decide), pair_f x [] (by simp) _ (by omega), Option.bind_some, putOp_f o _ (by omega) h (by simp; omega) _ (by omega), Option.bind_some]
      rfl
    · have hv : ¬ reqV (x, o) := fun hh => ho ((oB_iff o h).mpr hh.2)
      rw [lay_no hv]
      simp [ho]
  · have hv : ¬ reqV (x, o) := fun hh => hc hh.1
    rw [if_neg (by rw [dcd_neg hc]; decide), lay_no hv]
    rw [sluiceref2_EncodeRequest.j0]
    simp
set_option maxHeartbeats 4000000 in
set_option maxRecDepth 100000 in
theorem right_calls (s : Seg) (A : Option Addr) (c : Nat) (w : World) (h : In w A c s.data) :
    Calls Try.prog 26 #[SV s A c] w fun e w' => e = .returned (.bool (dcd (segV s))) ∧ Below w.heap.size w w' := by
  have HS := Aside0.mk (sg_iff s h.isB)
  have hlI : (s.data.length : Int) ≤ 9223372036854775807 := by have := h.len; omega
  have hl0 : (0 : Int) ≤ (s.data.length : Int) := by omega
  clear h
  have hu47 := Try.underlying47
  unfold SV
  obtain ⟨wa, hwa⟩ : ∃ wa, wa = w.alloc (.cells (SVc s A c) 47 (0, 0)) := ⟨_, rfl⟩
  have HWA := Aside0.mk hwa
  have BK : Aside0 (wa.heap[w.heap.size]? = some (.cells (SVc s A c) 47 (0, 0))) := ⟨by rw [hwa]; exact heap_alloc_new w _⟩
  have HB : Aside0 (Below w.heap.size w wa) := ⟨by rw [hwa]; exact al_below w _⟩
  clear hwa
  go_enter Try.func26, Try.ntmps26
  go_upto_region 1 with fail
  rw [← HWA.out]
  have hz0 : wa.cell? ⟨w.heap.size, 0, none⟩ = some (.int .i64 s.src) := (blk_cell BK.out 0).trans rfl; have hz1 : wa.cell? ⟨w.heap.size, 1, none⟩ = some (.int .i64 s.dst) := (blk_cell BK.out 1).trans rfl; have hz2 : wa.cell? ⟨w.heap.size, 2, none⟩ = some (.int .i64 s.seq) := (blk_cell BK.out 2).trans rfl; have hz3 : wa.cell? ⟨w.heap.size, 3, none⟩ = some (.int .i64 s.ack) := (blk_cell BK.out 3).trans rfl; have hz4 : wa.cell? ⟨w.heap.size, 4, none⟩ = some (.slice A s.data.length c) := (blk_cell BK.out 4).trans rfl
  go_wp2_with (go_at_call 43; refine (within_calls _ _ _ _).mono ?_; rintro e w1 ⟨rfl, hb⟩; have n0_ := Aside0.mk (below_step HB.out hb); have n1_ := Aside0.mk (blk_keep hb BK.out); clear HB BK hb hz0 hz1 hz2 hz3 hz4; have HB := n0_; have BK := n1_; clear n0_ n1_; have hz0 : w1.cell? ⟨w.heap.size, 0, none⟩ = some (.int .i64 s.src) := (blk_cell BK.out 0).trans rfl; have hz1 : w1.cell? ⟨w.heap.size, 1, none⟩ = some (.int .i64 s.dst) := (blk_cell BK.out 1).trans rfl; have hz2 : w1.cell? ⟨w.heap.size, 2, none⟩ = some (.int .i64 s.seq) := (blk_cell BK.out 2).trans rfl; have hz3 : w1.cell? ⟨w.heap.size, 3, none⟩ = some (.int .i64 s.ack) := (blk_cell BK.out 3).trans rfl; have hz4 : w1.cell? ⟨w.heap.size, 4, none⟩ = some (.slice A s.data.length c) := (blk_cell BK.out 4).trans rfl)
  all_goals go_ret
  all_goals refine ⟨congrArg (fun b => Ending.returned (Value.bool b)) (bool_dcd ?_), HB.out⟩
  all_goals rw [HS.out, sgB]
  all_goals clear HS HB BK HWA hu47
  all_goals first | (simp [*]; done) | (simp_all; done) | (simp [*]; omega) | (simp_all; omega)
theorem isCall_calls (x : S25) (w : World) : Calls Try.prog 30 #[.agg #[.int .i64 x.f0, .int .i64 x.f1]] w fun e w' => e = .returned (.bool (dcd (callV x))) ∧ Below w.heap.size w w' := by
  refine sluicelaw2_isCall.calls x.f0 x.f1 _ w ?_
  have hd : ∀ p : Prop, ¬ p → some false = some (dcd p) := fun p h => by rw [dcd_neg h]
  have hi : callV x ↔ (0 ≤ x.f0 ∧ x.f0 ≤ 63) ∧ 1 ≤ x.f1 ∧ x.f1 ≤ 1099511627776 := Iff.rfl
  unfold sluicelaw2_isCall.f
  split
  · split
    · split
      · congr 1
        refine bool_dcd ?_
        rw [hi, decide_eq_true_iff]
        omega
      · exact hd _ (fun h => by rw [hi] at h; omega)
    · exact hd _ (fun h => by rw [hi] at h; omega)
  · exact hd _ (fun h => by rw [hi] at h; omega)
theorem isOp_calls (o : Sp.Op) (w : World) (h : isI o.a ∧ isI o.b) : Calls Try.prog 31 #[.agg #[.int .i64 o.kind, .string o.name, .int .i64 o.a, .int .i64 o.b]] w fun e w' => e = .returned (.bool (dcd (opV o))) ∧ Below w.heap.size w w' := by
  obtain ⟨k, hk⟩ := encreq_f ⟨0, 1⟩ o h
  refine sluicelaw2_isOp.calls k _ _ _ _ _ w ?_
  unfold sluicelaw2_isOp.f
  simp only at hk
  rw [hk, Option.bind_some]
  congr 1
  refine bool_dcd ?_
  have hc : callV ⟨0, 1⟩ := ⟨⟨by decide, by decide⟩, by decide, by decide⟩
  by_cases hv : opV o
  · rw [lay_ok (show reqV (⟨0, 1⟩, o) from ⟨hc, hv⟩)]
    simp [hv]
  · rw [lay_no (show ¬ reqV (⟨0, 1⟩, o) from fun h2 => hv h2.2)]
    simp [hv]
end Go.Proofs.Ytpgdmmjbhjbbhaa.Rf
end
