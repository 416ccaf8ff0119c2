/- put and putRights of a late keep: what was answered is left as it is, a copy beside it. PRINTED by genlate.py. -/
import Derived.Test.YtnkkkbmkbmjghaaLateSt
import Derived.Deep.RegionHeld3
import Derived.Deep.DrawnRows
namespace Go.Proofs.Ytnkkkbmkbmjghaa.Lt
open Go.RowKit Go.Proofs.Ytnkkkbmkbmjghaa.P Go.Proofs.YtnkkkbmkbmjghaaW.PrintWords Go.Proofs.YtnkkkbmkbmjghaaW.PrintLast Go.Proofs.YtnkkkbmkbmjghaaW.PrintMore Go.Proofs.Ytnkkkbmkbmjghaa.Gw Go.Proofs.Ytnkkkbmkbmjghaa.Ks Go.Proofs.Ytnkkkbmkbmjghaa.Hd Go.Proofs.Ytnkkkbmkbmjghaa.Kr Go.Proofs.Ytnkkkbmkbmjghaa.Pl Go.Proofs.Ytnkkkbmkbmjghaa.Pn
set_option linter.unusedVariables false
set_option linter.unusedSimpArgs false
theorem step_grew {P : Program} (w : World) {ops : Array Oper} {o : Oper} {a : Act} {K : Act → World → Prop} {Q : Exit → Act → World → Prop} {X : Prop} (hgd : o.guard = none) (s x : Operand) (t : TypeId)
    (ho : o.op = .call { callee := .builtin .append, args := #[s, x], argTypes := #[t, t] })
    (e : TypeId) (z : Value) (size bytes : Nat) (ht : P.underlying t = some (.slice e)) (hinfo : (P.info? e).map (fun i => (i.zero, i.size, i.bytes)) = some (some z, size, bytes))
    (hzs : z.cells.size = size) (hsz : 0 < size) (hb0 : 0 < bytes) (v : Value) (n : Nat) (xs : List Value) (hs : a.eval s = v) (hown : w.ownsRow 0 e size v n xs)
    (B c : Nat) (news : Array Value) (hx : a.eval x = .slice (some ⟨B, 0, none⟩) 1 c) (hB : w.heap[B]? = some (.cells news e (0, 0))) (hl : news.size = 1 * size) (h1 : ∀ u ∈ news.toList, u.oneCell' = true)
    (hbytes : (n + 1) * bytes ≤ 140737488355328)
    (h : ∀ v' w', Grew w w' e size v n xs news.toList v' → K (a.put o.dst v') w') : if Region.wanted o (yielded ops a.tmps) = true then Oper.wp P o a w K Q else X := by
  have hw : Region.wanted o (yielded ops a.tmps) = true := by simp [Region.wanted, hgd]
  rw [if_pos hw]
  obtain ⟨i, hi, hzz⟩ := Option.map_eq_some_iff.1 hinfo
  simp only [Prod.mk.injEq] at hzz
  obtain ⟨hz0, hz1, hz2⟩ := hzz
  obtain ⟨v', w', hr, hgr⟩ := run_grew (P := P) w t o.type e i z size bytes ht hi hz0 hz1 hz2 hzs hsz v n xs hown ⟨B, 0, none⟩ c news.toList (by simpa using hl) (World.news_of_block hB) h1 hb0 hbytes
  unfold Oper.wp execOp
  simp only [ho, resolve, invoke, builtin, Sem.run_bind, Sem.run_pure, Result.andThen_ok, List.map_toArray, List.map_cons, List.map_nil, hs, hx, hr]
  exact h v' w' hgr
theorem below_of_grown_none2 {w w1 : World} (h : w.drew.grownBy w1 (Value.slice none 0 0).ownBlock) : Below w.heap.size w w1 := ⟨h.os, h.tape, h.output, h.size, fun k hk => h.block k hk (by simp [Value.ownBlock])⟩
theorem kMI {w w1 : World} {base : Nat} {ok : Nat → Prop} : ∀ (x : Int) (cs : List Value), (Kd.int .i64).K w x cs → (Kd.int .i64).M w1 base ok x cs := fun x cs h => h
theorem kMR {w w1 : World} {base : Nat} {ok : Nat → Prop} : ∀ (x : S50) (cs : List Value), k50.K w x cs → k50.M w1 base ok x cs := fun x cs h => by rw [k50_open h]; exact k50_mkM _ _ _ _
theorem own_R1 {w : World} {ok : Nat → Prop} {v : Value} {xs : List Int} (h : Kd.R (Kd.int .i64) 3 w 0 ok v xs) : w.ownsRow 0 3 1 v xs.length (xs.flatMap cell1) := by
  have h2 := Kd.own_of_R h
  have e : xs.flatMap cell1 = encs (Value.int .i64) xs := by
    unfold encs
    clear h h2
    induction xs with
    | nil => rfl
    | cons x xs ih => rw [List.flatMap_cons, ih]; rfl
  rw [e]; exact h2

set_option maxHeartbeats 8000000 in
set_option maxRecDepth 100000 in
theorem putLI_calls {kb : Nat} {ρ : Nat → Nat} {n : Nat} {w : World} {v : Value} {xs : List Int} (hK : KL kb ρ n w) (hn : n ≤ 4194304) (hx : xs.length ≤ 16) (hR : Kd.R (Kd.int .i64) 3 w 0 (fun _ => True) v xs) (hv : ∀ k, v.ownBlock = some k → ρ k = 0) :
    Calls Try.prog 26 #[.pointer (some ⟨kb, 0, none⟩), v] w fun e w' => e = .returned (.tuple #[]) ∧ ∃ ρ', KL kb ρ' (n + 1) w' ∧ After ρ ρ' v w w' := by
  obtain ⟨vI, vW, vR, vX, E, EW, ER, EX, XI, YI, h⟩ := hK
  have hown := own_R1 hR
  obtain ⟨A0, c0, rfl⟩ := own_slice hown
  have hlab := h.label (v := .slice A0 xs.length c0) 3 (by decide) hv (Ks.own_lt hown)
  have HR0 : Aside0 (Kd.R (Kd.int .i64) 3 w 0 (fun k => some k = (Value.slice A0 xs.length c0).ownBlock) (.slice A0 xs.length c0) xs) := ⟨Kd.R_reok rfl hR (fun k hk => hk.symm)⟩
  have HOW := Aside0.mk hown
  have HL := Aside0.mk hlab
  have HV := Aside0.mk hv
  have HX := Aside0.mk hx
  have HZW := Aside0.mk h.zer
  have HVY : Aside0 (∀ y ∈ E, ∀ k, y.v.ownBlock = some k → some k ≠ (Value.slice A0 xs.length c0).ownBlock) := ⟨fun y hy k hk e => by
    have h1 := (h.e y hy).lab k hk
    have h2 := hv k e.symm
    omega⟩
  have hlen : E.length ≤ 4194304 ∧ EW.length = E.length := ⟨by have := h.nE; omega, (conts_len h.cW).trans (conts_len h.cE).symm⟩
  have HLEN := Aside0.mk hlen
  have HB1 : Aside0 ((E.length + 1) * 24 ≤ 140737488355328) := ⟨by omega⟩
  have HB2 : Aside0 ((EW.length + 1) * 24 ≤ 140737488355328) := ⟨by omega⟩
  have HB3 : Aside0 ((0 + xs.length) * 8 ≤ 140737488355328) := ⟨by omega⟩
  have q0 : w.cell? ⟨kb, 0, none⟩ = some (.bool true) := by rw [cell_of_row w kb 0 _ _ (0, 0) h.blk]; rfl
  have q1 : w.cell? ⟨kb, 1, none⟩ = some vI := by rw [cell_of_row w kb 1 _ _ (0, 0) h.blk]; rfl
  have HA : Aside0 (RowR (lab0 ρ (.slice A0 xs.length c0) 3) (w.alloc (.cells #[.slice A0 xs.length c0] 22 (0, 0))) 22 1 vI E.length (E.map (·.v)) 1) := ⟨hlab.i.move fun k hk _ => ⟨Below.heap_alloc _ _ k hk, rfl⟩⟩
  have HKA : Aside0 (KLx kb (lab0 ρ (.slice A0 xs.length c0) 3) n (w.alloc (.cells #[.slice A0 xs.length c0] 22 (0, 0))) vI vW vR vX E EW ER EX XI XI YI YI) := ⟨hlab.move (fun k hk _ => Below.heap_alloc _ _ k hk) (by simp)⟩
  clear h hown hlab hv hx hn hR hlen
  go_enter Try.func26, Try.ntmps26
  go_upto_region 2 with (refine wpList_grew _ rfl (.tmp 13) (.tmp 15) 35 rfl 22 (.slice none 0 0) 1 24 Try.underlying35 infI rfl (by decide) (by decide) vI E.length (E.map (·.v)) (by simp [Act.eval, Act.put]) HA.out.own w.heap.size 1 #[.slice A0 xs.length c0] (by simp [Act.eval, Act.put]) (heap_alloc_new w _) rfl (one_slice _ _ _) HB1.out ?_; intro v1 w1 hg1; obtain ⟨Av, cv, rfl⟩ := own_slice hg1.own; have HG1 := Aside0.mk hg1; have hk1 := grown_kb HKA.out.blk HG1.out.grow HKA.out.lbl HA.out.lab (by decide) 1 _ (by rw [cell_of_row _ kb 1 _ _ (0, 0) HKA.out.blk]; rfl); have hk1a := hk1.1; have hk1b := hk1.2; clear hk1 hg1 q0 q1)
  obtain ⟨ρ1, s1, s2, s3, s4, s5, s6, s7⟩ := step_row (i := 1) HKA.out.zer HKA.out.lbl HKA.out.blk (by decide) HA.out HG1.out
  have HKB : Aside0 (KLx kb ρ1 (n + 1) (w1.setCell ⟨kb, 1, none⟩ (.slice Av (E.length + 1) cv)) (.slice Av (E.length + 1) cv) vW vR vX (E ++ [⟨.slice A0 xs.length c0, xs.length, xs.flatMap cell1⟩]) EW ER EX (XI ++ [xs]) XI YI YI) := ⟨by
    have h := HKA.out
    have g : ∀ s, s ≠ 0 → s ≠ 7 → s ≠ 1 → ∀ k, k < (w.alloc (.cells #[.slice A0 xs.length c0] 22 (0, 0))).heap.size → lab0 ρ (.slice A0 xs.length c0) 3 k = s → (w1.setCell ⟨kb, 1, none⟩ (.slice Av (E.length + 1) cv)).heap[k]? = (w.alloc (.cells #[.slice A0 xs.length c0] 22 (0, 0))).heap[k]? ∧ ρ1 k = lab0 ρ (.slice A0 xs.length c0) 3 k :=
      fun s h0 h7 hI k hk e => ⟨s6 k hk (by rw [e]; exact hI) (by rw [e]; exact h7), s1 k hk⟩
    have hnew : RowR ρ1 (w1.setCell ⟨kb, 1, none⟩ (.slice Av (E.length + 1) cv)) 3 1 (.slice A0 xs.length c0) xs.length (xs.flatMap cell1) 3 :=
      RowR.move ⟨Ks.own_move HOW.out (fun k hk => Below.heap_alloc _ _ k (Ks.own_lt HOW.out k hk)), fun k hk => lab0_eq hk.symm⟩ (g 3 (by decide) (by decide) (by decide))
    exact { h with
      blk := s4, lbl := s3, zer := s2
      iw := h.iw.move (g 2 (by decide) (by decide) (by decide)), r := h.r.move (g 4 (by decide) (by decide) (by decide)), rw_ := h.rw_.move (g 5 (by decide) (by decide) (by decide))
      ew := fun x hx => (h.ew x hx).move (g 8 (by decide) (by decide) (by decide)), f := fun x hx => (h.f x hx).move (g 6 (by decide) (by decide) (by decide)), fw := fun x hx => (h.fw x hx).move (g 9 (by decide) (by decide) (by decide))
      i := by simpa using s5
      e := fun x hx => by
        rcases List.mem_append.1 hx with hx | hx
        · exact (h.e x hx).move (g 3 (by decide) (by decide) (by decide))
        · rw [List.mem_singleton.1 hx]; exact hnew
      cE := conts_snoc h.cE _ xs
      aE := h.aE.snoc _ (fun y hy he => by
        refine Classical.byContradiction fun hn => ?_
        obtain ⟨k, hk⟩ := Option.ne_none_iff_exists'.1 hn
        have h1 := (h.e y hy).lab k hk
        have h2 : some k = (Value.slice A0 xs.length c0).ownBlock := hk.symm.trans he
        exact HVY.out y hy k hk h2)
      lE := fun l hl => by
        rcases List.mem_append.1 hl with hl | hl
        · exact h.lE l hl
        · rw [List.mem_singleton.1 hl]; exact HX.out
      nE := by rw [List.length_append]; have := h.nE; simp; omega
      nR := by have := h.nR; omega }⟩
  have HAF1 : Aside0 ((∀ k, k < w.heap.size → ρ1 k = ρ k ∨ some k = (Value.slice A0 xs.length c0).ownBlock) ∧ Below 0 w (w1.setCell ⟨kb, 1, none⟩ (.slice Av (E.length + 1) cv)) ∧ ∀ k, k < w.heap.size → ρ k = 0 → (w1.setCell ⟨kb, 1, none⟩ (.slice Av (E.length + 1) cv)).heap[k]? = w.heap[k]?) := ⟨by
    have hs : w.heap.size < (w.alloc (.cells #[.slice A0 xs.length c0] 22 (0, 0))).heap.size := by simp
    refine ⟨fun k hk => ?_, ((Below.refl 0 w).alloc (Nat.zero_le _) _).trans s7, fun k hk h0 => ?_⟩
    · by_cases e : some k = (Value.slice A0 xs.length c0).ownBlock
      · exact .inr e
      · exact .inl ((s1 k (by omega)).trans (lab0_ne e))
    · have hl2 : lab0 ρ (.slice A0 xs.length c0) 3 k = 0 ∨ lab0 ρ (.slice A0 xs.length c0) 3 k = 3 := by
        by_cases e : some k = (Value.slice A0 xs.length c0).ownBlock
        · exact .inr (lab0_eq e)
        · exact .inl ((lab0_ne e).trans h0)
      exact (s6 k (by omega) (by omega) (by omega)).trans (Below.heap_alloc _ _ k hk)⟩
  have HR1 : Aside0 (Kd.R (Kd.int .i64) 3 (w1.setCell ⟨kb, 1, none⟩ (.slice Av (E.length + 1) cv)) 0 (fun k => some k = (Value.slice A0 xs.length c0).ownBlock) (.slice A0 xs.length c0) xs) := ⟨Kd.R_step HR0.out (fun k hk hlt => HAF1.out.2.2 k hlt (HV.out k hk.symm))⟩
  clear HKA HA HG1 hk1a hk1b s1 s2 s3 s4 s5 s6 s7
  generalize w1.setCell ⟨kb, 1, none⟩ (.slice Av (E.length + 1) cv) = wx at HKB HAF1 HR1 ⊢
  have HC1 : Aside0 (Kd.C (Kd.int .i64) wx.drew A0 xs.length xs) := ⟨Kd.C_drew (Kd.R_reads' HR1.out).2.2⟩
  have HN1 : Aside0 (Kd.R (Kd.int .i64) 3 wx.drew 0 (fun _ => True) (.slice none 0 0) []) := ⟨Kd.R_nil _ _ _ _ _⟩
  have q2 : wx.cell? ⟨kb, 2, none⟩ = some vW := by rw [cell_of_row wx kb 2 _ _ (0, 0) HKB.out.blk]; rfl
  go_region_law (first
    | (refine Kd.R_append_rows_step (Kd.int .i64) (Rr := Kd.K (Kd.int .i64) wx.drew) (w0 := wx.drew) 0 rfl (.const (.slice none 0 0)) (.tmp 24) 22 3 (.int .i64 0) 8 (by rfl) Try.underlying22 info3 rfl (by decide) (by decide) (.slice none 0 0) [] xs A0 xs.length c0 (fun _ => True) (fun _ => False) (by rfl) (by simp [Act.eval, Act.put]) HN1.out HC1.out (kMI) (fun _ hk => hk.elim) (fun _ _ => trivial) (Below.refl _ _) (Nat.zero_le _) HB3.out ?_; intro v2 w2 hR2 hB2 hg2 hat2; have hb2 := below_of_grown_none2 hg2; have hR2x : Kd.R (Kd.int .i64) 3 w2 0 (fun _ => True) v2 xs := hR2; obtain ⟨A5, c5, e5⟩ := Kd.R_slice hR2x; subst e5; have HR2 := Aside0.mk hR2x; have HAT := Aside0.mk hat2; have HB5 := Aside0.mk hb2; have HKC := Aside0.mk (HKB.out.move (w1 := w2.alloc (.cells #[.slice A5 xs.length c5] 22 (0, 0))) (fun k hk _ => (Below.heap_alloc _ _ k (Nat.lt_of_lt_of_le hk hb2.size)).trans (hb2.block k hk)) (Nat.le_trans hb2.size (by simp))); have q5 := pw_cell_below hb2 q2; have q6 : (w2.alloc (.cells #[.slice A5 xs.length c5] 22 (0, 0))).cell? ⟨kb, 2, none⟩ = some vW := (by rw [cell_of_row _ kb 2 _ _ (0, 0) HKC.out.blk]; rfl); clear hR2 hB2 hg2 hat2 hR2x hb2)
    | (refine step_grew _ rfl (.tmp 23) (.tmp 26) 35 (by rfl) 22 (.slice none 0 0) 1 24 Try.underlying35 infI rfl (by decide) (by decide) vW EW.length (EW.map (·.v)) (by simp [Act.eval, Act.put]) HKC.out.iw.own w2.heap.size 1 #[.slice A5 xs.length c5] (by simp [Act.eval, Act.put]) (heap_alloc_new w2 _) rfl (one_slice _ _ _) HB2.out ?_; intro v3 w3 hg3; obtain ⟨A6, c6, e6⟩ := own_slice hg3.own; subst e6; have HG3 := Aside0.mk hg3; have hk3 := grown_kb HKC.out.blk HG3.out.grow HKC.out.lbl HKC.out.iw.lab (by decide) 2 _ (by rw [cell_of_row _ kb 2 _ _ (0, 0) HKC.out.blk]; rfl); have hk3a := hk3.1; have hk3b := hk3.2; clear hk3 hg3))
  all_goals
    have hv5 : ∀ k, (Value.slice A5 xs.length c5).ownBlock = some k → wx.heap.size ≤ k := fun k hk => by
      rcases HAT.out with h | ⟨b, h, hb⟩
      · rw [h] at hk; simp [Value.ownBlock] at hk
      · rw [h] at hk
        have : b = k := by simpa using hk
        have hb2 : wx.heap.size ≤ b := hb
        omega
    have hz5 : ∀ k, (Value.slice A5 xs.length c5).ownBlock = some k → ρ1 k = 0 := fun k hk => Classical.not_not.1 fun h => by
      have := HKB.out.zer k h; have := hv5 k hk; omega
    have hown5 : w2.ownsRow 0 3 1 (.slice A5 xs.length c5) xs.length (xs.flatMap cell1) := own_R1 HR2.out
    have HLA := HKC.out.label (v := .slice A5 xs.length c5) 8 (by decide) hz5 (fun k hk => by have := Ks.own_lt hown5 k hk; simp; omega)
    obtain ⟨ρ2, t1, t2, t3, t4, t5, t6, t7⟩ := step_row (i := 2) HLA.zer HLA.lbl HLA.blk (by decide) HLA.iw HG3.out
    have HKD : KLx kb ρ2 (n + 1) (w3.setCell ⟨kb, 2, none⟩ (.slice A6 (EW.length + 1) c6)) (.slice Av (E.length + 1) cv) (.slice A6 (EW.length + 1) c6) vR vX (E ++ [⟨.slice A0 xs.length c0, xs.length, xs.flatMap cell1⟩]) (EW ++ [⟨.slice A5 xs.length c5, xs.length, xs.flatMap cell1⟩]) ER EX (XI ++ [xs]) (XI ++ [xs]) YI YI := by
      have g : ∀ s, s ≠ 0 → s ≠ 7 → s ≠ 2 → ∀ k, k < (w2.alloc (.cells #[.slice A5 xs.length c5] 22 (0, 0))).heap.size → lab0 ρ1 (.slice A5 xs.length c5) 8 k = s → (w3.setCell ⟨kb, 2, none⟩ (.slice A6 (EW.length + 1) c6)).heap[k]? = (w2.alloc (.cells #[.slice A5 xs.length c5] 22 (0, 0))).heap[k]? ∧ ρ2 k = lab0 ρ1 (.slice A5 xs.length c5) 8 k :=
        fun s h0 h7 hI k hk e => ⟨t6 k hk (by rw [e]; exact hI) (by rw [e]; exact h7), t1 k hk⟩
      have hnew : RowR ρ2 (w3.setCell ⟨kb, 2, none⟩ (.slice A6 (EW.length + 1) c6)) 3 1 (.slice A5 xs.length c5) xs.length (xs.flatMap cell1) 8 :=
        RowR.move ⟨Ks.own_move hown5 (fun k hk => Below.heap_alloc _ _ k (Ks.own_lt hown5 k hk)), fun k hk => lab0_eq hk.symm⟩ (g 8 (by decide) (by decide) (by decide))
      exact { HLA with
        blk := t4, lbl := t3, zer := t2
        i := HLA.i.move (g 1 (by decide) (by decide) (by decide)), r := HLA.r.move (g 4 (by decide) (by decide) (by decide)), rw_ := HLA.rw_.move (g 5 (by decide) (by decide) (by decide))
        e := fun x hx => (HLA.e x hx).move (g 3 (by decide) (by decide) (by decide)), f := fun x hx => (HLA.f x hx).move (g 6 (by decide) (by decide) (by decide)), fw := fun x hx => (HLA.fw x hx).move (g 9 (by decide) (by decide) (by decide))
        iw := by simpa using t5
        ew := fun x hx => by
          rcases List.mem_append.1 hx with hx | hx
          · exact (HLA.ew x hx).move (g 8 (by decide) (by decide) (by decide))
          · rw [List.mem_singleton.1 hx]; exact hnew
        cW := conts_snoc HLA.cW _ xs }
    have HAF : After ρ ρ2 (.slice A0 xs.length c0) w (w3.setCell ⟨kb, 2, none⟩ (.slice A6 (EW.length + 1) c6)) := by
      have hs1 := HAF1.out.2.1.size
      have hs2 := HB5.out.size
      have hlt : ∀ k, k < w.heap.size → k < (w2.alloc (.cells #[.slice A5 xs.length c5] 22 (0, 0))).heap.size := fun k hk => by simp; omega
      have hne : ∀ k, k < w.heap.size → some k ≠ (Value.slice A5 xs.length c5).ownBlock := fun k hk e => by have := hv5 k e.symm; omega
      refine ⟨fun k hk => ?_, ((HAF1.out.2.1.trans (HB5.out.mono (Nat.zero_le _))).trans ((Below.refl 0 w2).alloc (Nat.zero_le _) _)).trans t7, fun k hk h0 hn => ?_⟩
      · rw [t1 k (hlt k hk), lab0_ne (hne k hk)]; exact HAF1.out.1 k hk
      · have h1 : ρ1 k = 0 := by
          rcases HAF1.out.1 k hk with h | h
          · exact h.trans h0
          · exact absurd h hn
        refine (t6 k (hlt k hk) ?_ ?_).trans ((Below.heap_alloc _ _ k (by omega)).trans ((HB5.out.block k (by omega)).trans (HAF1.out.2.2 k hk h0))) <;> (rw [lab0_ne (hne k hk), h1]; decide)
    have HKE := Aside0.mk HKD
    have HAE := Aside0.mk HAF
    clear HKD HAF HLA t1 t2 t3 t4 t5 t6 t7 hv5 hz5 hown5 q2 q5 q6 hk3a hk3b HG3 HKC HR2 HAT HB5
    go_wp2_with fail
    first | go_end0 | ((try simp only [Exit.inBlock, Exit.then]); refine bodyPost_ret (results_none rfl _ _ _) rfl ?_)
    exact ⟨rfl, ρ2, ⟨_, _, _, _, _, _, _, _, _, _, HKE.out⟩, HAE.out⟩

set_option maxHeartbeats 8000000 in
set_option maxRecDepth 100000 in
theorem putLR_calls {kb : Nat} {ρ : Nat → Nat} {n : Nat} {w : World} {v : Value} {xs : List S50} (hK : KL kb ρ n w) (hn : n ≤ 4194304) (hx : xs.length ≤ 16) (hR : Kd.R k50 50 w 0 (fun _ => True) v xs) (hv : ∀ k, v.ownBlock = some k → ρ k = 0) :
    Calls Try.prog 29 #[.pointer (some ⟨kb, 0, none⟩), v] w fun e w' => e = .returned (.tuple #[]) ∧ ∃ ρ', KL kb ρ' (n + 1) w' ∧ After ρ ρ' v w w' := by
  obtain ⟨vI, vW, vR, vX, E, EW, ER, EX, XI, YI, h⟩ := hK
  have hown := own_R2 hR
  obtain ⟨A0, c0, rfl⟩ := own_slice hown
  have hlab := h.label (v := .slice A0 xs.length c0) 6 (by decide) hv (Ks.own_lt hown)
  have HR0 : Aside0 (Kd.R k50 50 w 0 (fun k => some k = (Value.slice A0 xs.length c0).ownBlock) (.slice A0 xs.length c0) xs) := ⟨Kd.R_reok rfl hR (fun k hk => hk.symm)⟩
  have HOW := Aside0.mk hown
  have HL := Aside0.mk hlab
  have HV := Aside0.mk hv
  have HX := Aside0.mk hx
  have HZW := Aside0.mk h.zer
  have HVY : Aside0 (∀ y ∈ ER, ∀ k, y.v.ownBlock = some k → some k ≠ (Value.slice A0 xs.length c0).ownBlock) := ⟨fun y hy k hk e => by
    have h1 := (h.f y hy).lab k hk
    have h2 := hv k e.symm
    omega⟩
  have hlen : ER.length ≤ 4194304 ∧ EX.length = ER.length := ⟨by have := h.nR; omega, (conts_len h.dW).trans (conts_len h.dE).symm⟩
  have HLEN := Aside0.mk hlen
  have HB1 : Aside0 ((ER.length + 1) * 24 ≤ 140737488355328) := ⟨by omega⟩
  have HB2 : Aside0 ((EX.length + 1) * 24 ≤ 140737488355328) := ⟨by omega⟩
  have HB3 : Aside0 ((0 + xs.length) * 16 ≤ 140737488355328) := ⟨by omega⟩
  have q0 : w.cell? ⟨kb, 0, none⟩ = some (.bool true) := by rw [cell_of_row w kb 0 _ _ (0, 0) h.blk]; rfl
  have q1 : w.cell? ⟨kb, 4, none⟩ = some vR := by rw [cell_of_row w kb 4 _ _ (0, 0) h.blk]; rfl
  have HA : Aside0 (RowR (lab0 ρ (.slice A0 xs.length c0) 6) (w.alloc (.cells #[.slice A0 xs.length c0] 46 (0, 0))) 46 1 vR ER.length (ER.map (·.v)) 4) := ⟨hlab.r.move fun k hk _ => ⟨Below.heap_alloc _ _ k hk, rfl⟩⟩
  have HKA : Aside0 (KLx kb (lab0 ρ (.slice A0 xs.length c0) 6) n (w.alloc (.cells #[.slice A0 xs.length c0] 46 (0, 0))) vI vW vR vX E EW ER EX XI XI YI YI) := ⟨hlab.move (fun k hk _ => Below.heap_alloc _ _ k hk) (by simp)⟩
  clear h hown hlab hv hx hn hR hlen
  go_enter Try.func29, Try.ntmps29
  go_upto_region 2 with (refine wpList_grew _ rfl (.tmp 13) (.tmp 15) 36 rfl 46 (.slice none 0 0) 1 24 Try.underlying36 infR rfl (by decide) (by decide) vR ER.length (ER.map (·.v)) (by simp [Act.eval, Act.put]) HA.out.own w.heap.size 1 #[.slice A0 xs.length c0] (by simp [Act.eval, Act.put]) (heap_alloc_new w _) rfl (one_slice _ _ _) HB1.out ?_; intro v1 w1 hg1; obtain ⟨Av, cv, rfl⟩ := own_slice hg1.own; have HG1 := Aside0.mk hg1; have hk1 := grown_kb HKA.out.blk HG1.out.grow HKA.out.lbl HA.out.lab (by decide) 4 _ (by rw [cell_of_row _ kb 4 _ _ (0, 0) HKA.out.blk]; rfl); have hk1a := hk1.1; have hk1b := hk1.2; clear hk1 hg1 q0 q1)
  obtain ⟨ρ1, s1, s2, s3, s4, s5, s6, s7⟩ := step_row (i := 4) HKA.out.zer HKA.out.lbl HKA.out.blk (by decide) HA.out HG1.out
  have HKB : Aside0 (KLx kb ρ1 (n + 1) (w1.setCell ⟨kb, 4, none⟩ (.slice Av (ER.length + 1) cv)) vI vW (.slice Av (ER.length + 1) cv) vX E EW (ER ++ [⟨.slice A0 xs.length c0, xs.length, xs.flatMap cell2⟩]) EX XI XI (YI ++ [xs]) YI) := ⟨by
    have h := HKA.out
    have g : ∀ s, s ≠ 0 → s ≠ 7 → s ≠ 4 → ∀ k, k < (w.alloc (.cells #[.slice A0 xs.length c0] 46 (0, 0))).heap.size → lab0 ρ (.slice A0 xs.length c0) 6 k = s → (w1.setCell ⟨kb, 4, none⟩ (.slice Av (ER.length + 1) cv)).heap[k]? = (w.alloc (.cells #[.slice A0 xs.length c0] 46 (0, 0))).heap[k]? ∧ ρ1 k = lab0 ρ (.slice A0 xs.length c0) 6 k :=
      fun s h0 h7 hI k hk e => ⟨s6 k hk (by rw [e]; exact hI) (by rw [e]; exact h7), s1 k hk⟩
    have hnew : RowR ρ1 (w1.setCell ⟨kb, 4, none⟩ (.slice Av (ER.length + 1) cv)) 50 2 (.slice A0 xs.length c0) xs.length (xs.flatMap cell2) 6 :=
      RowR.move ⟨Ks.own_move HOW.out (fun k hk => Below.heap_alloc _ _ k (Ks.own_lt HOW.out k hk)), fun k hk => lab0_eq hk.symm⟩ (g 6 (by decide) (by decide) (by decide))
    exact { h with
      blk := s4, lbl := s3, zer := s2
      i := h.i.move (g 1 (by decide) (by decide) (by decide)), iw := h.iw.move (g 2 (by decide) (by decide) (by decide)), rw_ := h.rw_.move (g 5 (by decide) (by decide) (by decide))
      e := fun x hx => (h.e x hx).move (g 3 (by decide) (by decide) (by decide)), ew := fun x hx => (h.ew x hx).move (g 8 (by decide) (by decide) (by decide)), fw := fun x hx => (h.fw x hx).move (g 9 (by decide) (by decide) (by decide))
      r := by simpa using s5
      f := fun x hx => by
        rcases List.mem_append.1 hx with hx | hx
        · exact (h.f x hx).move (g 6 (by decide) (by decide) (by decide))
        · rw [List.mem_singleton.1 hx]; exact hnew
      dE := conts_snoc h.dE _ xs
      aR := h.aR.snoc _ (fun y hy he => by
        refine Classical.byContradiction fun hn => ?_
        obtain ⟨k, hk⟩ := Option.ne_none_iff_exists'.1 hn
        have h1 := (h.f y hy).lab k hk
        have h2 : some k = (Value.slice A0 xs.length c0).ownBlock := hk.symm.trans he
        exact HVY.out y hy k hk h2)
      lR := fun l hl => by
        rcases List.mem_append.1 hl with hl | hl
        · exact h.lR l hl
        · rw [List.mem_singleton.1 hl]; exact HX.out
      nE := by have := h.nE; omega
      nR := by rw [List.length_append]; have := h.nR; simp; omega }⟩
  have HAF1 : Aside0 ((∀ k, k < w.heap.size → ρ1 k = ρ k ∨ some k = (Value.slice A0 xs.length c0).ownBlock) ∧ Below 0 w (w1.setCell ⟨kb, 4, none⟩ (.slice Av (ER.length + 1) cv)) ∧ ∀ k, k < w.heap.size → ρ k = 0 → (w1.setCell ⟨kb, 4, none⟩ (.slice Av (ER.length + 1) cv)).heap[k]? = w.heap[k]?) := ⟨by
    have hs : w.heap.size < (w.alloc (.cells #[.slice A0 xs.length c0] 46 (0, 0))).heap.size := by simp
    refine ⟨fun k hk => ?_, ((Below.refl 0 w).alloc (Nat.zero_le _) _).trans s7, fun k hk h0 => ?_⟩
    · by_cases e : some k = (Value.slice A0 xs.length c0).ownBlock
      · exact .inr e
      · exact .inl ((s1 k (by omega)).trans (lab0_ne e))
    · have hl2 : lab0 ρ (.slice A0 xs.length c0) 6 k = 0 ∨ lab0 ρ (.slice A0 xs.length c0) 6 k = 6 := by
        by_cases e : some k = (Value.slice A0 xs.length c0).ownBlock
        · exact .inr (lab0_eq e)
        · exact .inl ((lab0_ne e).trans h0)
      exact (s6 k (by omega) (by omega) (by omega)).trans (Below.heap_alloc _ _ k hk)⟩
  have HR1 : Aside0 (Kd.R k50 50 (w1.setCell ⟨kb, 4, none⟩ (.slice Av (ER.length + 1) cv)) 0 (fun k => some k = (Value.slice A0 xs.length c0).ownBlock) (.slice A0 xs.length c0) xs) := ⟨Kd.R_step HR0.out (fun k hk hlt => HAF1.out.2.2 k hlt (HV.out k hk.symm))⟩
  clear HKA HA HG1 hk1a hk1b s1 s2 s3 s4 s5 s6 s7
  generalize w1.setCell ⟨kb, 4, none⟩ (.slice Av (ER.length + 1) cv) = wx at HKB HAF1 HR1 ⊢
  have HC1 : Aside0 (Kd.C k50 wx.drew A0 xs.length xs) := ⟨Kd.C_drew (Kd.R_reads' HR1.out).2.2⟩
  have HN1 : Aside0 (Kd.R k50 50 wx.drew 0 (fun _ => True) (.slice none 0 0) []) := ⟨Kd.R_nil _ _ _ _ _⟩
  have q2 : wx.cell? ⟨kb, 5, none⟩ = some vX := by rw [cell_of_row wx kb 5 _ _ (0, 0) HKB.out.blk]; rfl
  go_region_law (first
    | (refine Kd.R_append_rows_step k50 (Rr := Kd.K k50 wx.drew) (w0 := wx.drew) 0 rfl (.const (.slice none 0 0)) (.tmp 24) 46 50 (.agg #[(.int .i64 0), (.int .i64 0)]) 16 (by rfl) Try.underlying46 info50 rfl (by decide) (by decide) (.slice none 0 0) [] xs A0 xs.length c0 (fun _ => True) (fun _ => False) (by rfl) (by simp [Act.eval, Act.put]) HN1.out HC1.out (kMR) (fun _ hk => hk.elim) (fun _ _ => trivial) (Below.refl _ _) (Nat.zero_le _) HB3.out ?_; intro v2 w2 hR2 hB2 hg2 hat2; have hb2 := below_of_grown_none2 hg2; have hR2x : Kd.R k50 50 w2 0 (fun _ => True) v2 xs := hR2; obtain ⟨A5, c5, e5⟩ := Kd.R_slice hR2x; subst e5; have HR2 := Aside0.mk hR2x; have HAT := Aside0.mk hat2; have HB5 := Aside0.mk hb2; have HKC := Aside0.mk (HKB.out.move (w1 := w2.alloc (.cells #[.slice A5 xs.length c5] 46 (0, 0))) (fun k hk _ => (Below.heap_alloc _ _ k (Nat.lt_of_lt_of_le hk hb2.size)).trans (hb2.block k hk)) (Nat.le_trans hb2.size (by simp))); have q5 := pw_cell_below hb2 q2; have q6 : (w2.alloc (.cells #[.slice A5 xs.length c5] 46 (0, 0))).cell? ⟨kb, 5, none⟩ = some vX := (by rw [cell_of_row _ kb 5 _ _ (0, 0) HKC.out.blk]; rfl); clear hR2 hB2 hg2 hat2 hR2x hb2)
    | (refine step_grew _ rfl (.tmp 23) (.tmp 26) 36 (by rfl) 46 (.slice none 0 0) 1 24 Try.underlying36 infR rfl (by decide) (by decide) vX EX.length (EX.map (·.v)) (by simp [Act.eval, Act.put]) HKC.out.rw_.own w2.heap.size 1 #[.slice A5 xs.length c5] (by simp [Act.eval, Act.put]) (heap_alloc_new w2 _) rfl (one_slice _ _ _) HB2.out ?_; intro v3 w3 hg3; obtain ⟨A6, c6, e6⟩ := own_slice hg3.own; subst e6; have HG3 := Aside0.mk hg3; have hk3 := grown_kb HKC.out.blk HG3.out.grow HKC.out.lbl HKC.out.rw_.lab (by decide) 5 _ (by rw [cell_of_row _ kb 5 _ _ (0, 0) HKC.out.blk]; rfl); have hk3a := hk3.1; have hk3b := hk3.2; clear hk3 hg3))
  all_goals
    have hv5 : ∀ k, (Value.slice A5 xs.length c5).ownBlock = some k → wx.heap.size ≤ k := fun k hk => by
      rcases HAT.out with h | ⟨b, h, hb⟩
      · rw [h] at hk; simp [Value.ownBlock] at hk
      · rw [h] at hk
        have : b = k := by simpa using hk
        have hb2 : wx.heap.size ≤ b := hb
        omega
    have hz5 : ∀ k, (Value.slice A5 xs.length c5).ownBlock = some k → ρ1 k = 0 := fun k hk => Classical.not_not.1 fun h => by
      have := HKB.out.zer k h; have := hv5 k hk; omega
    have hown5 : w2.ownsRow 0 50 2 (.slice A5 xs.length c5) xs.length (xs.flatMap cell2) := own_R2 HR2.out
    have HLA := HKC.out.label (v := .slice A5 xs.length c5) 9 (by decide) hz5 (fun k hk => by have := Ks.own_lt hown5 k hk; simp; omega)
    obtain ⟨ρ2, t1, t2, t3, t4, t5, t6, t7⟩ := step_row (i := 5) HLA.zer HLA.lbl HLA.blk (by decide) HLA.rw_ HG3.out
    have HKD : KLx kb ρ2 (n + 1) (w3.setCell ⟨kb, 5, none⟩ (.slice A6 (EX.length + 1) c6)) vI vW (.slice Av (ER.length + 1) cv) (.slice A6 (EX.length + 1) c6) E EW (ER ++ [⟨.slice A0 xs.length c0, xs.length, xs.flatMap cell2⟩]) (EX ++ [⟨.slice A5 xs.length c5, xs.length, xs.flatMap cell2⟩]) XI XI (YI ++ [xs]) (YI ++ [xs]) := by
      have g : ∀ s, s ≠ 0 → s ≠ 7 → s ≠ 5 → ∀ k, k < (w2.alloc (.cells #[.slice A5 xs.length c5] 46 (0, 0))).heap.size → lab0 ρ1 (.slice A5 xs.length c5) 9 k = s → (w3.setCell ⟨kb, 5, none⟩ (.slice A6 (EX.length + 1) c6)).heap[k]? = (w2.alloc (.cells #[.slice A5 xs.length c5] 46 (0, 0))).heap[k]? ∧ ρ2 k = lab0 ρ1 (.slice A5 xs.length c5) 9 k :=
        fun s h0 h7 hI k hk e => ⟨t6 k hk (by rw [e]; exact hI) (by rw [e]; exact h7), t1 k hk⟩
      have hnew : RowR ρ2 (w3.setCell ⟨kb, 5, none⟩ (.slice A6 (EX.length + 1) c6)) 50 2 (.slice A5 xs.length c5) xs.length (xs.flatMap cell2) 9 :=
        RowR.move ⟨Ks.own_move hown5 (fun k hk => Below.heap_alloc _ _ k (Ks.own_lt hown5 k hk)), fun k hk => lab0_eq hk.symm⟩ (g 9 (by decide) (by decide) (by decide))
      exact { HLA with
        blk := t4, lbl := t3, zer := t2
        i := HLA.i.move (g 1 (by decide) (by decide) (by decide)), iw := HLA.iw.move (g 2 (by decide) (by decide) (by decide)), r := HLA.r.move (g 4 (by decide) (by decide) (by decide))
        e := fun x hx => (HLA.e x hx).move (g 3 (by decide) (by decide) (by decide)), ew := fun x hx => (HLA.ew x hx).move (g 8 (by decide) (by decide) (by decide)), f := fun x hx => (HLA.f x hx).move (g 6 (by decide) (by decide) (by decide))
        rw_ := by simpa using t5
        fw := fun x hx => by
          rcases List.mem_append.1 hx with hx | hx
          · exact (HLA.fw x hx).move (g 9 (by decide) (by decide) (by decide))
          · rw [List.mem_singleton.1 hx]; exact hnew
        dW := conts_snoc HLA.dW _ xs }
    have HAF : After ρ ρ2 (.slice A0 xs.length c0) w (w3.setCell ⟨kb, 5, none⟩ (.slice A6 (EX.length + 1) c6)) := by
      have hs1 := HAF1.out.2.1.size
      have hs2 := HB5.out.size
      have hlt : ∀ k, k < w.heap.size → k < (w2.alloc (.cells #[.slice A5 xs.length c5] 46 (0, 0))).heap.size := fun k hk => by simp; omega
      have hne : ∀ k, k < w.heap.size → some k ≠ (Value.slice A5 xs.length c5).ownBlock := fun k hk e => by have := hv5 k e.symm; omega
      refine ⟨fun k hk => ?_, ((HAF1.out.2.1.trans (HB5.out.mono (Nat.zero_le _))).trans ((Below.refl 0 w2).alloc (Nat.zero_le _) _)).trans t7, fun k hk h0 hn => ?_⟩
      · rw [t1 k (hlt k hk), lab0_ne (hne k hk)]; exact HAF1.out.1 k hk
      · have h1 : ρ1 k = 0 := by
          rcases HAF1.out.1 k hk with h | h
          · exact h.trans h0
          · exact absurd h hn
        refine (t6 k (hlt k hk) ?_ ?_).trans ((Below.heap_alloc _ _ k (by omega)).trans ((HB5.out.block k (by omega)).trans (HAF1.out.2.2 k hk h0))) <;> (rw [lab0_ne (hne k hk), h1]; decide)
    have HKE := Aside0.mk HKD
    have HAE := Aside0.mk HAF
    clear HKD HAF HLA t1 t2 t3 t4 t5 t6 t7 hv5 hz5 hown5 q2 q5 q6 hk3a hk3b HG3 HKC HR2 HAT HB5
    go_wp2_with fail
    first | go_end0 | ((try simp only [Exit.inBlock, Exit.then]); refine bodyPost_ret (results_none rfl _ _ _) rfl ?_)
    exact ⟨rfl, ρ2, ⟨_, _, _, _, _, _, _, _, _, _, HKE.out⟩, HAE.out⟩

theorem keeperL (kb : Nat) : Keeper kb (KL kb) where
  zer := fun h => by obtain ⟨vI, vW, vR, vX, E, EW, ER, EX, XI, YI, h⟩ := h; exact h.zer
  move := fun h hm hs => h.move hm hs
  put := fun h hn hx hR hv => putLI_calls h hn hx hR hv
  putR := fun h hn hx hR hv => putLR_calls h hn hx hR hv
end Go.Proofs.Ytnkkkbmkbmjghaa.Lt
