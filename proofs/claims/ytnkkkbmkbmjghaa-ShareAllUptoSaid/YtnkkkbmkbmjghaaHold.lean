/- The walks of 'hold' and 'holdRights'. PRINTED by genhold.py. -/
import Derived.Test.YtnkkkbmkbmjghaaKeepSt
import Derived.Test.YtnkkkbmkbmjghaaPx8
import Derived.Test.YtnkkkbmkbmjghaaPx9
namespace Go.Proofs.Ytnkkkbmkbmjghaa.Hd
open Go.RowKit Go.Proofs.Ytnkkkbmkbmjghaa.P Go.Proofs.YtnkkkbmkbmjghaaW.PrintWords Go.Proofs.YtnkkkbmkbmjghaaW.PrintLast Go.Proofs.YtnkkkbmkbmjghaaW.PrintMore Go.Proofs.Ytnkkkbmkbmjghaa.Gw Go.Proofs.Ytnkkkbmkbmjghaa.Ks
set_option linter.unusedVariables false
set_option linter.unusedSimpArgs false
theorem infI : (Try.prog.info? 22).map (fun i => (i.zero, i.size, i.bytes)) = some (some (.slice none 0 0), 1, 24) := by kernel_rfl
theorem infR : (Try.prog.info? 46).map (fun i => (i.zero, i.size, i.bytes)) = some (some (.slice none 0 0), 1, 24) := by kernel_rfl
theorem one_slice (A : Option Addr) (n c : Nat) : ∀ u ∈ (#[Value.slice A n c]).toList, u.oneCell' = true := by intro u hu; simp at hu; subst hu; rfl
theorem one_int (m : Int) : ∀ u ∈ (#[Value.int .i64 m]).toList, u.oneCell' = true := by intro u hu; simp at hu; subst hu; rfl
theorem one_ints (m k : Int) : ∀ u ∈ (#[Value.int .i64 m, Value.int .i64 k]).toList, u.oneCell' = true := by intro u hu; simp at hu; rcases hu with rfl | rfl <;> rfl
/-- How many are put there before the turn i. -/
def ct (i : Nat) : Nat := if i ≤ 16 then 1 + i else if i ≤ 39 then 17 else 18
section
variable {T tI sz rI rM rE iI iM kb : Nat} {pat : List Value} {m : Int} {W0 : World} {ρ0 : Nat → Nat} {far0 : Value} {cs0 : Array Value} {E0 : List Ent} {ms0 : List Int} {w w2 : World} {far v' : Value} {nf cI cM : Nat} {ρ : Nat → Nat} {vI vM : Value} {E : List Ent} {ms : List Int}
theorem len_E (h : HS T tI sz rI rM rE iI iM kb pat m W0 ρ0 far0 cs0 E0 ms0 w far nf cI cM ρ vI vM E ms) : E.length = E0.length + cI ∧ ms.length = ms0.length + cM := by
  obtain ⟨E', h1, h2, _⟩ := h.exE
  exact ⟨by rw [h1, List.length_append, h2], by rw [h.exM]; simp⟩
theorem fits_E (h : HS T tI sz rI rM rE iI iM kb pat m W0 ρ0 far0 cs0 E0 ms0 w far nf cI cM ρ vI vM E ms) (h1 : E0.length ≤ 1099511627776) (h2 : cI ≤ 100) : (E.length + 1) * 24 ≤ 140737488355328 := by have := (len_E h).1; omega
theorem fits_M (h : HS T tI sz rI rM rE iI iM kb pat m W0 ρ0 far0 cs0 E0 ms0 w far nf cI cM ρ vI vM E ms) (h1 : ms0.length ≤ 1099511627776) (h2 : cM ≤ 100) : (ms.length + 1) * 8 ≤ 140737488355328 := by have := (len_E h).2; omega
theorem cell_kb (h : HS T tI sz rI rM rE iI iM kb pat m W0 ρ0 far0 cs0 E0 ms0 w far nf cI cM ρ vI vM E ms) (hs : iI < cs0.size ∧ iM < cs0.size) (hd : iI ≠ iM) : w.cell? ⟨kb, iI, none⟩ = some vI ∧ w.cell? ⟨kb, iM, none⟩ = some vM := by
  constructor
  · rw [cell_of_row w kb iI _ _ (0, 0) h.kbk, Array.getElem?_setIfInBounds_ne (Ne.symm hd), Array.getElem?_setIfInBounds_self_of_lt hs.1]
  · rw [cell_of_row w kb iM _ _ (0, 0) h.kbk, Array.getElem?_setIfInBounds_self_of_lt (by simpa using hs.2)]
theorem grown_kb {r : Nat} {v : Value} {c : Array Value} {t : TypeId} (hk : w.heap[kb]? = some (.cells c t (0, 0))) (hg : w.grownBy w2 v.ownBlock) (hr : ρ kb = 7) (hv : ∀ k, v.ownBlock = some k → ρ k = r) (h7 : r ≠ 7) (i : Nat) (u : Value) (hu : w.cell? ⟨kb, i, none⟩ = some u) :
    w2.frozen? ⟨kb, i, none⟩ = false ∧ w2.cell? ⟨kb, i, none⟩ = some u := by
  have h := (hg.block kb (blk_lt hk) (fun he => h7 ((hv kb he.symm).symm.trans hr))).trans hk
  exact ⟨frozen_of_row w2 kb i _ _ h, by rw [cell_of_row w2 kb i _ _ (0, 0) h, ← cell_of_row w kb i _ _ (0, 0) hk]; exact hu⟩
/-- The state with its letters hidden. -/
def St (T tI sz rI rM rE iI iM kb : Nat) (pat : List Value) (m : Int) (W0 : World) (ρ0 : Nat → Nat) (far0 : Value) (cs0 : Array Value) (E0 : List Ent) (ms0 : List Int) (w : World) (far : Value) (nf cI cM : Nat) : Prop :=
  ∃ ρ vI vM E ms, HS T tI sz rI rM rE iI iM kb pat m W0 ρ0 far0 cs0 E0 ms0 w far nf cI cM ρ vI vM E ms
theorem St.I (N : Nums T tI sz rI rM rE iI iM pat) (h : HS T tI sz rI rM rE iI iM kb pat m W0 ρ0 far0 cs0 E0 ms0 w far nf cI cM ρ vI vM E ms) (hsz : iI < cs0.size ∧ iM < cs0.size) (hg : Grew w w2 tI 1 vI E.length (E.map (·.v)) [far] v') :
    St T tI sz rI rM rE iI iM kb pat m W0 ρ0 far0 cs0 E0 ms0 (w2.setCell ⟨kb, iI, none⟩ v') far nf (cI + 1) cM := by
  obtain ⟨ρ', E', h2⟩ := h.I N hsz hg
  exact ⟨_, _, _, _, _, h2⟩
theorem St.M (N : Nums T tI sz rI rM rE iI iM pat) (h : HS T tI sz rI rM rE iI iM kb pat m W0 ρ0 far0 cs0 E0 ms0 w far nf cI cM ρ vI vM E ms) (hsz : iI < cs0.size ∧ iM < cs0.size) (hg : Grew w w2 3 1 vM ms.length (ms.map (Value.int .i64)) [.int .i64 m] v') :
    St T tI sz rI rM rE iI iM kb pat m W0 ρ0 far0 cs0 E0 ms0 (w2.setCell ⟨kb, iM, none⟩ v') far nf cI (cM + 1) := by
  obtain ⟨ρ', ms', h2⟩ := h.M N hsz hg
  exact ⟨_, _, _, _, _, h2⟩
theorem St.F (N : Nums T tI sz rI rM rE iI iM pat) (h : HS T tI sz rI rM rE iI iM kb pat m W0 ρ0 far0 cs0 E0 ms0 w far nf cI cM ρ vI vM E ms) (hg : Grew w w2 T sz far nf (List.replicate nf pat).flatten pat v') :
    St T tI sz rI rM rE iI iM kb pat m W0 ρ0 far0 cs0 E0 ms0 w2 v' (nf + 1) cI cM := by
  obtain ⟨ρ', h2⟩ := h.F N hg
  exact ⟨_, _, _, _, _, h2⟩
end

theorem numsI (m : Int) : Nums 3 22 1 1 2 3 1 3 [Value.int .i64 (-1000 - m)] := ⟨by decide, by decide, by decide, by decide, rfl, by decide⟩
set_option maxHeartbeats 8000000 in
set_option maxRecDepth 100000 in
theorem holdI_calls (kb : Nat) (far0 : Value) (n0 : Nat) (m : Int) (W0 : World) (ρ0 : Nat → Nat) (cs0 : Array Value) (E0 : List Ent) (ms0 : List Int) (h : St 3 22 1 1 2 3 1 3 kb [Value.int .i64 (-1000 - m)] m W0 ρ0 far0 cs0 E0 ms0 W0 far0 n0 0 0) (hcs : cs0.size = 7)
    (hm : 0 ≤ m ∧ m ≤ 1099511627776) (hnf : n0 ≤ 1099511627776) (hE : E0.length ≤ 1099511627776) (hM : ms0.length ≤ 1099511627776) :
    Calls Try.prog 38 #[.pointer (some ⟨kb, 0, none⟩), far0, .int .i64 m] W0 fun e w' => e = .returned (.tuple #[]) ∧ ∃ far nf', St 3 22 1 1 2 3 1 3 kb [Value.int .i64 (-1000 - m)] m W0 ρ0 far0 cs0 E0 ms0 w' far nf' 18 18 := by
  have HCS : Aside0 ((1 < cs0.size ∧ 3 < cs0.size)) := ⟨by omega⟩
  have HN := Aside0.mk hnf
  have HE := Aside0.mk hE
  have HM := Aside0.mk hM
  have hm0 : (0 : Int) ≤ m := hm.1
  have hm1 : m ≤ 1099511627776 := hm.2
  obtain ⟨ρ, vI, vM, E, ms, hs⟩ := h
  obtain ⟨A0, c0, rfl⟩ := own_slice hs.far_
  have HS0 := Aside0.mk hs
  clear hs hcs hm hnf hE hM
  have hq1 := (cell_kb HS0.out HCS.out (by decide)).1
  have HA : Aside0 (HS 3 22 1 1 2 3 1 3 kb [Value.int .i64 (-1000 - m)] m W0 ρ0 (.slice A0 n0 c0) cs0 E0 ms0 (W0.alloc (.cells #[.slice A0 n0 c0] 22 (0, 0))) (.slice A0 n0 c0) n0 0 0 ρ vI vM E ms) := ⟨HS0.out.below ((Below.refl _ _).alloc (Nat.le_refl _) _)⟩
  have HBE := Aside0.mk (fits_E HA.out HE.out (by decide))
  go_enter Try.func38, Try.ntmps38
  go_upto_region 1 with (refine wpList_grew _ rfl (.tmp 12) (.tmp 14) 35 rfl 22 (.slice none 0 0) 1 24 Try.underlying35 infI rfl (by decide) (by decide) vI E.length (E.map (·.v)) (by simp [Act.eval, Act.put]) HA.out.fam.oI W0.heap.size 1 #[.slice A0 n0 c0] (by simp [Act.eval, Act.put]) (heap_alloc_new W0 _) rfl (one_slice _ _ _) HBE.out ?_; intro v1 w1 hg1; obtain ⟨Av, cv, rfl⟩ := own_slice hg1.own; have HG1 := Aside0.mk hg1; have hk1 := grown_kb HA.out.kbk HG1.out.grow HA.out.kbr HA.out.fam.bI (by decide) 1 _ (cell_kb HA.out HCS.out (by decide)).1; have hk1a := hk1.1; have hk1b := hk1.2; clear hk1 hg1 hq1)
  have HS1 := Aside0.mk (St.I (numsI _) HA.out HCS.out HG1.out)
  clear HS0 HA HBE HG1 hk1a hk1b
  generalize w1.setCell ⟨kb, 1, none⟩ (.slice Av (E.length + 1) cv) = wx at HS1 ⊢
  obtain ⟨ρ, vI, vM, E, ms, hs⟩ := HS1.out
  have HS0 := Aside0.mk hs
  clear hs HS1
  have hq1 := (cell_kb HS0.out HCS.out (by decide)).2
  have HA : Aside0 (HS 3 22 1 1 2 3 1 3 kb [Value.int .i64 (-1000 - m)] m W0 ρ0 (.slice A0 n0 c0) cs0 E0 ms0 (wx.alloc (.cells #[.int .i64 m] 3 (0, 0))) (.slice A0 n0 c0) n0 1 0 ρ vI vM E ms) := ⟨HS0.out.below ((Below.refl _ _).alloc (Nat.le_refl _) _)⟩
  have HBE := Aside0.mk (fits_M HA.out HM.out (by decide))
  go_upto_region 2 with (refine wpList_grew _ rfl (.tmp 22) (.tmp 24) 22 rfl 3 (.int .i64 0) 1 8 Try.underlying22 info3 rfl (by decide) (by decide) vM ms.length (ms.map (Value.int .i64)) (by simp [Act.eval, Act.put]) HA.out.fam.oM wx.heap.size 1 #[.int .i64 m] (by simp [Act.eval, Act.put]) (heap_alloc_new wx _) rfl (one_int _) HBE.out ?_; intro v1 w1 hg1; obtain ⟨Av, cv, rfl⟩ := own_slice hg1.own; have HG1 := Aside0.mk hg1; have hk1 := grown_kb HA.out.kbk HG1.out.grow HA.out.kbr HA.out.fam.bM (by decide) 3 _ (cell_kb HA.out HCS.out (by decide)).2; have hk1a := hk1.1; have hk1b := hk1.2; clear hk1 hg1 hq1)
  have HS1 := Aside0.mk (St.M (numsI _) HA.out HCS.out HG1.out)
  clear HS0 HA HBE HG1 hk1a hk1b
  generalize w1.setCell ⟨kb, 3, none⟩ (.slice Av (ms.length + 1) cv) = wy at HS1 ⊢
  go_wp2_with fail
  go_loopw [6, 7] (fun v6 v7 wr => ∃ (i : Nat) (A : Option Addr) (nf c : Nat), v6 = .slice A nf c ∧ v7 = .int .i64 (i : Int) ∧ Aside0 (i ≤ 40 ∧ nf = n0 + i ∧ St 3 22 1 1 2 3 1 3 kb [Value.int .i64 (-1000 - m)] m W0 ρ0 (.slice A0 n0 c0) cs0 E0 ms0 wr (.slice A nf c) nf (ct i) (ct i))) (fun _ v7 _ => 40 - (intOf v7).toNat)
  case atStart => exact ⟨0, A0, n0, c0, rfl, rfl, ⟨by decide, rfl, HS1.out⟩⟩
  case round =>
    obtain ⟨i, A, nf, c, rfl, rfl, HR⟩ := hrel
    by_cases hlt : i < 40
    · have hi0 : (0 : Int) ≤ (i : Int) := by omega
      have hi1 : (i : Int) < 40 := by omega
      obtain ⟨ρ, vI, vM, E, ms, hs⟩ := HR.out.2.2
      have HNF : Aside0 (nf = n0 + i) := ⟨HR.out.2.1⟩
      have HS0 := Aside0.mk hs
      clear hs HR
      have HA : Aside0 (HS 3 22 1 1 2 3 1 3 kb [Value.int .i64 (-1000 - m)] m W0 ρ0 (.slice A0 n0 c0) cs0 E0 ms0 (wr.alloc (.cells #[Value.int .i64 (-1000 - m)] 3 (0, 0))) (.slice A nf c) nf (ct i) (ct i) ρ vI vM E ms) := ⟨HS0.out.below ((Below.refl _ _).alloc (Nat.le_refl _) _)⟩
      have HBE : Aside0 ((nf + 1) * 8 ≤ 140737488355328) := ⟨by have := HN.out; have := HNF.out; omega⟩
      go_upto_region 7 with (refine wpList_grew _ rfl (.tmp 33) (.tmp 36) 22 rfl 3 (.int .i64 0) 1 8 Try.underlying22 info3 rfl (by decide) (by decide) (.slice A nf c) nf (List.replicate nf [Value.int .i64 (-1000 - m)]).flatten (by simp [Act.eval, Act.put]) HA.out.far_ wr.heap.size 1 #[Value.int .i64 (-1000 - m)] (by simp [Act.eval, Act.put]) (heap_alloc_new wr _) rfl (one_int _) HBE.out ?_; intro v1 w1 hg1; obtain ⟨Av, cv, rfl⟩ := own_slice hg1.own; have HG1 := Aside0.mk hg1; clear hg1)
      have HS2 := Aside0.mk (St.F (numsI _) HA.out HG1.out)
      clear HS0 HA HBE HG1
      have HI40 : Aside0 (i < 40) := ⟨hlt⟩
      have HW : Aside0 (∃ ww, ww = w1) := ⟨_, rfl⟩
      rcases Nat.lt_or_ge i 16 with h16 | h16
      · have hc1 : (i : Int) < 16 := by omega
        have HCT : Aside0 (ct (i + 1) = ct i + 1) := ⟨by unfold ct; rw [if_pos (by omega), if_pos (by omega)]; omega⟩
        have HCB : Aside0 (ct i + 1 ≤ 100) := ⟨by unfold ct; rw [if_pos (by omega)]; omega⟩
        obtain ⟨ρ, vI, vM, E, ms, hs⟩ := HS2.out
        have HS0 := Aside0.mk hs
        clear hs HS2
        have hq1 := (cell_kb HS0.out HCS.out (by decide)).1
        have HA : Aside0 (HS 3 22 1 1 2 3 1 3 kb [Value.int .i64 (-1000 - m)] m W0 ρ0 (.slice A0 n0 c0) cs0 E0 ms0 (w1.alloc (.cells #[.slice Av (nf + 1) cv] 22 (0, 0))) (.slice Av (nf + 1) cv) (nf + 1) (ct i) (ct i) ρ vI vM E ms) := ⟨HS0.out.below ((Below.refl _ _).alloc (Nat.le_refl _) _)⟩
        have HBE := Aside0.mk (fits_E HA.out HE.out (Nat.le_trans (Nat.le_succ _) HCB.out))
        go_upto_region 9 with (refine wpList_grew _ rfl (.tmp 48) (.tmp 50) 35 rfl 22 (.slice none 0 0) 1 24 Try.underlying35 infI rfl (by decide) (by decide) vI E.length (E.map (·.v)) (by simp [Act.eval, Act.put]) HA.out.fam.oI w1.heap.size 1 #[.slice Av (nf + 1) cv] (by simp [Act.eval, Act.put]) (heap_alloc_new w1 _) rfl (one_slice _ _ _) HBE.out ?_; intro v2 w2 hg1; obtain ⟨Ax, cx, rfl⟩ := own_slice hg1.own; have HG1 := Aside0.mk hg1; have hk1 := grown_kb HA.out.kbk HG1.out.grow HA.out.kbr HA.out.fam.bI (by decide) 1 _ (cell_kb HA.out HCS.out (by decide)).1; have hk1a := hk1.1; have hk1b := hk1.2; clear hk1 hg1 hq1)
        have HS1 := Aside0.mk (St.I (numsI _) HA.out HCS.out HG1.out)
        clear HS0 HA HBE HG1 hk1a hk1b
        generalize w2.setCell ⟨kb, 1, none⟩ (.slice Ax (E.length + 1) cx) = w3 at HS1 ⊢
        obtain ⟨ρ, vI, vM, E, ms, hs⟩ := HS1.out
        have HS0 := Aside0.mk hs
        clear hs HS1
        have hq1 := (cell_kb HS0.out HCS.out (by decide)).2
        have HA : Aside0 (HS 3 22 1 1 2 3 1 3 kb [Value.int .i64 (-1000 - m)] m W0 ρ0 (.slice A0 n0 c0) cs0 E0 ms0 (w3.alloc (.cells #[.int .i64 m] 3 (0, 0))) (.slice Av (nf + 1) cv) (nf + 1) (ct i + 1) (ct i) ρ vI vM E ms) := ⟨HS0.out.below ((Below.refl _ _).alloc (Nat.le_refl _) _)⟩
        have HBE := Aside0.mk (fits_M HA.out HM.out (Nat.le_trans (Nat.le_succ _) HCB.out))
        go_upto_region 5 with (refine wpList_grew _ rfl (.tmp 58) (.tmp 60) 22 rfl 3 (.int .i64 0) 1 8 Try.underlying22 info3 rfl (by decide) (by decide) vM ms.length (ms.map (Value.int .i64)) (by simp [Act.eval, Act.put]) HA.out.fam.oM w3.heap.size 1 #[.int .i64 m] (by simp [Act.eval, Act.put]) (heap_alloc_new w3 _) rfl (one_int _) HBE.out ?_; intro v4 w4 hg1; obtain ⟨Ay, cy, rfl⟩ := own_slice hg1.own; have HG1 := Aside0.mk hg1; have hk1 := grown_kb HA.out.kbk HG1.out.grow HA.out.kbr HA.out.fam.bM (by decide) 3 _ (cell_kb HA.out HCS.out (by decide)).2; have hk1a := hk1.1; have hk1b := hk1.2; clear hk1 hg1 hq1)
        have HS1 := Aside0.mk (St.M (numsI _) HA.out HCS.out HG1.out)
        clear HS0 HA HBE HG1 hk1a hk1b
        generalize w4.setCell ⟨kb, 3, none⟩ (.slice Ay (ms.length + 1) cy) = w5 at HS1 ⊢
        go_wp2_with fail
        go_roundw
        case rel => exact ⟨i + 1, Av, nf + 1, cv, rfl, by go_num, ⟨by have := HI40.out; omega, by have := HNF.out; omega, by rw [HCT.out]; exact HS1.out⟩⟩
        case measure => simp only [intOf]; have := HI40.out; first | omega | (go_num; omega) | (simp; omega)
      · by_cases h39 : i = 39
        · subst h39
          have HCT : Aside0 (ct (39 + 1) = ct 39 + 1) := ⟨rfl⟩
          have HCB : Aside0 (ct 39 + 1 ≤ 100) := ⟨by decide⟩
          obtain ⟨ρ, vI, vM, E, ms, hs⟩ := HS2.out
          have HS0 := Aside0.mk hs
          clear hs HS2
          have hq1 := (cell_kb HS0.out HCS.out (by decide)).1
          have HA : Aside0 (HS 3 22 1 1 2 3 1 3 kb [Value.int .i64 (-1000 - m)] m W0 ρ0 (.slice A0 n0 c0) cs0 E0 ms0 (w1.alloc (.cells #[.slice Av (nf + 1) cv] 22 (0, 0))) (.slice Av (nf + 1) cv) (nf + 1) (ct 39) (ct 39) ρ vI vM E ms) := ⟨HS0.out.below ((Below.refl _ _).alloc (Nat.le_refl _) _)⟩
          have HBE := Aside0.mk (fits_E HA.out HE.out (Nat.le_trans (Nat.le_succ _) HCB.out))
          go_upto_region 9 with (refine wpList_grew _ rfl (.tmp 48) (.tmp 50) 35 rfl 22 (.slice none 0 0) 1 24 Try.underlying35 infI rfl (by decide) (by decide) vI E.length (E.map (·.v)) (by simp [Act.eval, Act.put]) HA.out.fam.oI w1.heap.size 1 #[.slice Av (nf + 1) cv] (by simp [Act.eval, Act.put]) (heap_alloc_new w1 _) rfl (one_slice _ _ _) HBE.out ?_; intro v2 w2 hg1; obtain ⟨Ax, cx, rfl⟩ := own_slice hg1.own; have HG1 := Aside0.mk hg1; have hk1 := grown_kb HA.out.kbk HG1.out.grow HA.out.kbr HA.out.fam.bI (by decide) 1 _ (cell_kb HA.out HCS.out (by decide)).1; have hk1a := hk1.1; have hk1b := hk1.2; clear hk1 hg1 hq1)
          have HS1 := Aside0.mk (St.I (numsI _) HA.out HCS.out HG1.out)
          clear HS0 HA HBE HG1 hk1a hk1b
          generalize w2.setCell ⟨kb, 1, none⟩ (.slice Ax (E.length + 1) cx) = w3 at HS1 ⊢
          obtain ⟨ρ, vI, vM, E, ms, hs⟩ := HS1.out
          have HS0 := Aside0.mk hs
          clear hs HS1
          have hq1 := (cell_kb HS0.out HCS.out (by decide)).2
          have HA : Aside0 (HS 3 22 1 1 2 3 1 3 kb [Value.int .i64 (-1000 - m)] m W0 ρ0 (.slice A0 n0 c0) cs0 E0 ms0 (w3.alloc (.cells #[.int .i64 m] 3 (0, 0))) (.slice Av (nf + 1) cv) (nf + 1) (ct 39 + 1) (ct 39) ρ vI vM E ms) := ⟨HS0.out.below ((Below.refl _ _).alloc (Nat.le_refl _) _)⟩
          have HBE := Aside0.mk (fits_M HA.out HM.out (Nat.le_trans (Nat.le_succ _) HCB.out))
          go_upto_region 5 with (refine wpList_grew _ rfl (.tmp 58) (.tmp 60) 22 rfl 3 (.int .i64 0) 1 8 Try.underlying22 info3 rfl (by decide) (by decide) vM ms.length (ms.map (Value.int .i64)) (by simp [Act.eval, Act.put]) HA.out.fam.oM w3.heap.size 1 #[.int .i64 m] (by simp [Act.eval, Act.put]) (heap_alloc_new w3 _) rfl (one_int _) HBE.out ?_; intro v4 w4 hg1; obtain ⟨Ay, cy, rfl⟩ := own_slice hg1.own; have HG1 := Aside0.mk hg1; have hk1 := grown_kb HA.out.kbk HG1.out.grow HA.out.kbr HA.out.fam.bM (by decide) 3 _ (cell_kb HA.out HCS.out (by decide)).2; have hk1a := hk1.1; have hk1b := hk1.2; clear hk1 hg1 hq1)
          have HS1 := Aside0.mk (St.M (numsI _) HA.out HCS.out HG1.out)
          clear HS0 HA HBE HG1 hk1a hk1b
          generalize w4.setCell ⟨kb, 3, none⟩ (.slice Ay (ms.length + 1) cy) = w5 at HS1 ⊢
          go_wp2_with fail
          go_roundw
          case rel => exact ⟨40, Av, nf + 1, cv, rfl, by go_num, ⟨by have := HI40.out; omega, by have := HNF.out; omega, by rw [HCT.out]; exact HS1.out⟩⟩
          case measure => simp only [intOf]; have := HI40.out; first | omega | (go_num; omega) | (simp; omega)
        · have hc1 : ¬ (i : Int) < 16 := by omega
          have hc2 : ¬ (i : Int) = 39 := by omega
          have hc1' : decide ((i : Int) < 16) = false := decide_eq_false hc1
          have hc2' : ((i : Int) == 39) = false := by rw [beq_eq_false_iff_ne]; exact hc2
          clear hc1 hc2
          have HCT : Aside0 (ct (i + 1) = ct i) := ⟨by unfold ct; rw [if_neg (by omega), if_pos (by omega)]; by_cases h : i = 16; (subst h; rfl); rw [if_neg (by omega), if_pos (by omega)]⟩
          go_wp2_with fail
          go_roundw
          case rel => exact ⟨i + 1, Av, nf + 1, cv, rfl, by go_num, ⟨by have := HI40.out; omega, by have := HNF.out; omega, by rw [HCT.out]; exact HS2.out⟩⟩
          case measure => simp only [intOf]; have := HI40.out; first | omega | (go_num; omega) | (simp; omega)
    · obtain rfl : i = 40 := by have := HR.out.1; omega
      go_wp2_with fail
      first | go_end0 | ((try simp only [Exit.inBlock, Exit.then]); refine bodyPost_ret (results_none rfl _ _ _) rfl ?_)
      exact ⟨rfl, _, _, HR.out.2.2⟩

theorem numsR (m : Int) : Nums 50 46 2 4 5 6 4 6 [Value.int .i64 (-1000 - m), Value.int .i64 0] := ⟨by decide, by decide, by decide, by decide, rfl, by decide⟩
set_option maxHeartbeats 8000000 in
set_option maxRecDepth 100000 in
theorem holdR_calls (kb : Nat) (far0 : Value) (n0 : Nat) (m : Int) (W0 : World) (ρ0 : Nat → Nat) (cs0 : Array Value) (E0 : List Ent) (ms0 : List Int) (h : St 50 46 2 4 5 6 4 6 kb [Value.int .i64 (-1000 - m), Value.int .i64 0] m W0 ρ0 far0 cs0 E0 ms0 W0 far0 n0 0 0) (hcs : cs0.size = 7)
    (hm : 0 ≤ m ∧ m ≤ 1099511627776) (hnf : n0 ≤ 1099511627776) (hE : E0.length ≤ 1099511627776) (hM : ms0.length ≤ 1099511627776) :
    Calls Try.prog 40 #[.pointer (some ⟨kb, 0, none⟩), far0, .int .i64 m] W0 fun e w' => e = .returned (.tuple #[]) ∧ ∃ far nf', St 50 46 2 4 5 6 4 6 kb [Value.int .i64 (-1000 - m), Value.int .i64 0] m W0 ρ0 far0 cs0 E0 ms0 w' far nf' 18 18 := by
  have HCS : Aside0 ((4 < cs0.size ∧ 6 < cs0.size)) := ⟨by omega⟩
  have HN := Aside0.mk hnf
  have HE := Aside0.mk hE
  have HM := Aside0.mk hM
  have hm0 : (0 : Int) ≤ m := hm.1
  have hm1 : m ≤ 1099511627776 := hm.2
  obtain ⟨ρ, vI, vM, E, ms, hs⟩ := h
  obtain ⟨A0, c0, rfl⟩ := own_slice hs.far_
  have HS0 := Aside0.mk hs
  clear hs hcs hm hnf hE hM
  have hq1 := (cell_kb HS0.out HCS.out (by decide)).1
  have HA : Aside0 (HS 50 46 2 4 5 6 4 6 kb [Value.int .i64 (-1000 - m), Value.int .i64 0] m W0 ρ0 (.slice A0 n0 c0) cs0 E0 ms0 (W0.alloc (.cells #[.slice A0 n0 c0] 46 (0, 0))) (.slice A0 n0 c0) n0 0 0 ρ vI vM E ms) := ⟨HS0.out.below ((Below.refl _ _).alloc (Nat.le_refl _) _)⟩
  have HBE := Aside0.mk (fits_E HA.out HE.out (by decide))
  go_enter Try.func40, Try.ntmps40
  go_upto_region 1 with (refine wpList_grew _ rfl (.tmp 12) (.tmp 14) 36 rfl 46 (.slice none 0 0) 1 24 Try.underlying36 infR rfl (by decide) (by decide) vI E.length (E.map (·.v)) (by simp [Act.eval, Act.put]) HA.out.fam.oI W0.heap.size 1 #[.slice A0 n0 c0] (by simp [Act.eval, Act.put]) (heap_alloc_new W0 _) rfl (one_slice _ _ _) HBE.out ?_; intro v1 w1 hg1; obtain ⟨Av, cv, rfl⟩ := own_slice hg1.own; have HG1 := Aside0.mk hg1; have hk1 := grown_kb HA.out.kbk HG1.out.grow HA.out.kbr HA.out.fam.bI (by decide) 4 _ (cell_kb HA.out HCS.out (by decide)).1; have hk1a := hk1.1; have hk1b := hk1.2; clear hk1 hg1 hq1)
  have HS1 := Aside0.mk (St.I (numsR _) HA.out HCS.out HG1.out)
  clear HS0 HA HBE HG1 hk1a hk1b
  generalize w1.setCell ⟨kb, 4, none⟩ (.slice Av (E.length + 1) cv) = wx at HS1 ⊢
  obtain ⟨ρ, vI, vM, E, ms, hs⟩ := HS1.out
  have HS0 := Aside0.mk hs
  clear hs HS1
  have hq1 := (cell_kb HS0.out HCS.out (by decide)).2
  have HA : Aside0 (HS 50 46 2 4 5 6 4 6 kb [Value.int .i64 (-1000 - m), Value.int .i64 0] m W0 ρ0 (.slice A0 n0 c0) cs0 E0 ms0 (wx.alloc (.cells #[.int .i64 m] 3 (0, 0))) (.slice A0 n0 c0) n0 1 0 ρ vI vM E ms) := ⟨HS0.out.below ((Below.refl _ _).alloc (Nat.le_refl _) _)⟩
  have HBE := Aside0.mk (fits_M HA.out HM.out (by decide))
  go_upto_region 2 with (refine wpList_grew _ rfl (.tmp 22) (.tmp 24) 22 rfl 3 (.int .i64 0) 1 8 Try.underlying22 info3 rfl (by decide) (by decide) vM ms.length (ms.map (Value.int .i64)) (by simp [Act.eval, Act.put]) HA.out.fam.oM wx.heap.size 1 #[.int .i64 m] (by simp [Act.eval, Act.put]) (heap_alloc_new wx _) rfl (one_int _) HBE.out ?_; intro v1 w1 hg1; obtain ⟨Av, cv, rfl⟩ := own_slice hg1.own; have HG1 := Aside0.mk hg1; have hk1 := grown_kb HA.out.kbk HG1.out.grow HA.out.kbr HA.out.fam.bM (by decide) 6 _ (cell_kb HA.out HCS.out (by decide)).2; have hk1a := hk1.1; have hk1b := hk1.2; clear hk1 hg1 hq1)
  have HS1 := Aside0.mk (St.M (numsR _) HA.out HCS.out HG1.out)
  clear HS0 HA HBE HG1 hk1a hk1b
  generalize w1.setCell ⟨kb, 6, none⟩ (.slice Av (ms.length + 1) cv) = wy at HS1 ⊢
  go_wp2_with fail
  go_loopw [6, 7] (fun v6 v7 wr => ∃ (i : Nat) (A : Option Addr) (nf c : Nat), v6 = .slice A nf c ∧ v7 = .int .i64 (i : Int) ∧ Aside0 (i ≤ 40 ∧ nf = n0 + i ∧ St 50 46 2 4 5 6 4 6 kb [Value.int .i64 (-1000 - m), Value.int .i64 0] m W0 ρ0 (.slice A0 n0 c0) cs0 E0 ms0 wr (.slice A nf c) nf (ct i) (ct i))) (fun _ v7 _ => 40 - (intOf v7).toNat)
  case atStart => exact ⟨0, A0, n0, c0, rfl, rfl, ⟨by decide, rfl, HS1.out⟩⟩
  case round =>
    obtain ⟨i, A, nf, c, rfl, rfl, HR⟩ := hrel
    by_cases hlt : i < 40
    · have hi0 : (0 : Int) ≤ (i : Int) := by omega
      have hi1 : (i : Int) < 40 := by omega
      obtain ⟨ρ, vI, vM, E, ms, hs⟩ := HR.out.2.2
      have HNF : Aside0 (nf = n0 + i) := ⟨HR.out.2.1⟩
      have HS0 := Aside0.mk hs
      clear hs HR
      have HA : Aside0 (HS 50 46 2 4 5 6 4 6 kb [Value.int .i64 (-1000 - m), Value.int .i64 0] m W0 ρ0 (.slice A0 n0 c0) cs0 E0 ms0 (wr.alloc (.cells #[Value.int .i64 (-1000 - m), Value.int .i64 0] 50 (0, 0))) (.slice A nf c) nf (ct i) (ct i) ρ vI vM E ms) := ⟨HS0.out.below ((Below.refl _ _).alloc (Nat.le_refl _) _)⟩
      have HBE : Aside0 ((nf + 1) * 16 ≤ 140737488355328) := ⟨by have := HN.out; have := HNF.out; omega⟩
      go_upto_region 7 with (refine wpList_grew _ rfl (.tmp 33) (.tmp 37) 46 rfl 50 (.agg #[(.int .i64 0), (.int .i64 0)]) 2 16 Try.underlying46 info50 rfl (by decide) (by decide) (.slice A nf c) nf (List.replicate nf [Value.int .i64 (-1000 - m), Value.int .i64 0]).flatten (by simp [Act.eval, Act.put]) HA.out.far_ wr.heap.size 1 #[Value.int .i64 (-1000 - m), Value.int .i64 0] (by simp [Act.eval, Act.put]) (heap_alloc_new wr _) rfl (one_ints _ _) HBE.out ?_; intro v1 w1 hg1; obtain ⟨Av, cv, rfl⟩ := own_slice hg1.own; have HG1 := Aside0.mk hg1; clear hg1)
      have HS2 := Aside0.mk (St.F (numsR _) HA.out HG1.out)
      clear HS0 HA HBE HG1
      have HI40 : Aside0 (i < 40) := ⟨hlt⟩
      have HW : Aside0 (∃ ww, ww = w1) := ⟨_, rfl⟩
      rcases Nat.lt_or_ge i 16 with h16 | h16
      · have hc1 : (i : Int) < 16 := by omega
        have HCT : Aside0 (ct (i + 1) = ct i + 1) := ⟨by unfold ct; rw [if_pos (by omega), if_pos (by omega)]; omega⟩
        have HCB : Aside0 (ct i + 1 ≤ 100) := ⟨by unfold ct; rw [if_pos (by omega)]; omega⟩
        obtain ⟨ρ, vI, vM, E, ms, hs⟩ := HS2.out
        have HS0 := Aside0.mk hs
        clear hs HS2
        have hq1 := (cell_kb HS0.out HCS.out (by decide)).1
        have HA : Aside0 (HS 50 46 2 4 5 6 4 6 kb [Value.int .i64 (-1000 - m), Value.int .i64 0] m W0 ρ0 (.slice A0 n0 c0) cs0 E0 ms0 (w1.alloc (.cells #[.slice Av (nf + 1) cv] 46 (0, 0))) (.slice Av (nf + 1) cv) (nf + 1) (ct i) (ct i) ρ vI vM E ms) := ⟨HS0.out.below ((Below.refl _ _).alloc (Nat.le_refl _) _)⟩
        have HBE := Aside0.mk (fits_E HA.out HE.out (Nat.le_trans (Nat.le_succ _) HCB.out))
        go_upto_region 9 with (refine wpList_grew _ rfl (.tmp 49) (.tmp 51) 36 rfl 46 (.slice none 0 0) 1 24 Try.underlying36 infR rfl (by decide) (by decide) vI E.length (E.map (·.v)) (by simp [Act.eval, Act.put]) HA.out.fam.oI w1.heap.size 1 #[.slice Av (nf + 1) cv] (by simp [Act.eval, Act.put]) (heap_alloc_new w1 _) rfl (one_slice _ _ _) HBE.out ?_; intro v2 w2 hg1; obtain ⟨Ax, cx, rfl⟩ := own_slice hg1.own; have HG1 := Aside0.mk hg1; have hk1 := grown_kb HA.out.kbk HG1.out.grow HA.out.kbr HA.out.fam.bI (by decide) 4 _ (cell_kb HA.out HCS.out (by decide)).1; have hk1a := hk1.1; have hk1b := hk1.2; clear hk1 hg1 hq1)
        have HS1 := Aside0.mk (St.I (numsR _) HA.out HCS.out HG1.out)
        clear HS0 HA HBE HG1 hk1a hk1b
        generalize w2.setCell ⟨kb, 4, none⟩ (.slice Ax (E.length + 1) cx) = w3 at HS1 ⊢
        obtain ⟨ρ, vI, vM, E, ms, hs⟩ := HS1.out
        have HS0 := Aside0.mk hs
        clear hs HS1
        have hq1 := (cell_kb HS0.out HCS.out (by decide)).2
        have HA : Aside0 (HS 50 46 2 4 5 6 4 6 kb [Value.int .i64 (-1000 - m), Value.int .i64 0] m W0 ρ0 (.slice A0 n0 c0) cs0 E0 ms0 (w3.alloc (.cells #[.int .i64 m] 3 (0, 0))) (.slice Av (nf + 1) cv) (nf + 1) (ct i + 1) (ct i) ρ vI vM E ms) := ⟨HS0.out.below ((Below.refl _ _).alloc (Nat.le_refl _) _)⟩
        have HBE := Aside0.mk (fits_M HA.out HM.out (Nat.le_trans (Nat.le_succ _) HCB.out))
        go_upto_region 5 with (refine wpList_grew _ rfl (.tmp 59) (.tmp 61) 22 rfl 3 (.int .i64 0) 1 8 Try.underlying22 info3 rfl (by decide) (by decide) vM ms.length (ms.map (Value.int .i64)) (by simp [Act.eval, Act.put]) HA.out.fam.oM w3.heap.size 1 #[.int .i64 m] (by simp [Act.eval, Act.put]) (heap_alloc_new w3 _) rfl (one_int _) HBE.out ?_; intro v4 w4 hg1; obtain ⟨Ay, cy, rfl⟩ := own_slice hg1.own; have HG1 := Aside0.mk hg1; have hk1 := grown_kb HA.out.kbk HG1.out.grow HA.out.kbr HA.out.fam.bM (by decide) 6 _ (cell_kb HA.out HCS.out (by decide)).2; have hk1a := hk1.1; have hk1b := hk1.2; clear hk1 hg1 hq1)
        have HS1 := Aside0.mk (St.M (numsR _) HA.out HCS.out HG1.out)
        clear HS0 HA HBE HG1 hk1a hk1b
        generalize w4.setCell ⟨kb, 6, none⟩ (.slice Ay (ms.length + 1) cy) = w5 at HS1 ⊢
        go_wp2_with fail
        go_roundw
        case rel => exact ⟨i + 1, Av, nf + 1, cv, rfl, by go_num, ⟨by have := HI40.out; omega, by have := HNF.out; omega, by rw [HCT.out]; exact HS1.out⟩⟩
        case measure => simp only [intOf]; have := HI40.out; first | omega | (go_num; omega) | (simp; omega)
      · by_cases h39 : i = 39
        · subst h39
          have HCT : Aside0 (ct (39 + 1) = ct 39 + 1) := ⟨rfl⟩
          have HCB : Aside0 (ct 39 + 1 ≤ 100) := ⟨by decide⟩
          obtain ⟨ρ, vI, vM, E, ms, hs⟩ := HS2.out
          have HS0 := Aside0.mk hs
          clear hs HS2
          have hq1 := (cell_kb HS0.out HCS.out (by decide)).1
          have HA : Aside0 (HS 50 46 2 4 5 6 4 6 kb [Value.int .i64 (-1000 - m), Value.int .i64 0] m W0 ρ0 (.slice A0 n0 c0) cs0 E0 ms0 (w1.alloc (.cells #[.slice Av (nf + 1) cv] 46 (0, 0))) (.slice Av (nf + 1) cv) (nf + 1) (ct 39) (ct 39) ρ vI vM E ms) := ⟨HS0.out.below ((Below.refl _ _).alloc (Nat.le_refl _) _)⟩
          have HBE := Aside0.mk (fits_E HA.out HE.out (Nat.le_trans (Nat.le_succ _) HCB.out))
          go_upto_region 9 with (refine wpList_grew _ rfl (.tmp 49) (.tmp 51) 36 rfl 46 (.slice none 0 0) 1 24 Try.underlying36 infR rfl (by decide) (by decide) vI E.length (E.map (·.v)) (by simp [Act.eval, Act.put]) HA.out.fam.oI w1.heap.size 1 #[.slice Av (nf + 1) cv] (by simp [Act.eval, Act.put]) (heap_alloc_new w1 _) rfl (one_slice _ _ _) HBE.out ?_; intro v2 w2 hg1; obtain ⟨Ax, cx, rfl⟩ := own_slice hg1.own; have HG1 := Aside0.mk hg1; have hk1 := grown_kb HA.out.kbk HG1.out.grow HA.out.kbr HA.out.fam.bI (by decide) 4 _ (cell_kb HA.out HCS.out (by decide)).1; have hk1a := hk1.1; have hk1b := hk1.2; clear hk1 hg1 hq1)
          have HS1 := Aside0.mk (St.I (numsR _) HA.out HCS.out HG1.out)
          clear HS0 HA HBE HG1 hk1a hk1b
          generalize w2.setCell ⟨kb, 4, none⟩ (.slice Ax (E.length + 1) cx) = w3 at HS1 ⊢
          obtain ⟨ρ, vI, vM, E, ms, hs⟩ := HS1.out
          have HS0 := Aside0.mk hs
          clear hs HS1
          have hq1 := (cell_kb HS0.out HCS.out (by decide)).2
          have HA : Aside0 (HS 50 46 2 4 5 6 4 6 kb [Value.int .i64 (-1000 - m), Value.int .i64 0] m W0 ρ0 (.slice A0 n0 c0) cs0 E0 ms0 (w3.alloc (.cells #[.int .i64 m] 3 (0, 0))) (.slice Av (nf + 1) cv) (nf + 1) (ct 39 + 1) (ct 39) ρ vI vM E ms) := ⟨HS0.out.below ((Below.refl _ _).alloc (Nat.le_refl _) _)⟩
          have HBE := Aside0.mk (fits_M HA.out HM.out (Nat.le_trans (Nat.le_succ _) HCB.out))
          go_upto_region 5 with (refine wpList_grew _ rfl (.tmp 59) (.tmp 61) 22 rfl 3 (.int .i64 0) 1 8 Try.underlying22 info3 rfl (by decide) (by decide) vM ms.length (ms.map (Value.int .i64)) (by simp [Act.eval, Act.put]) HA.out.fam.oM w3.heap.size 1 #[.int .i64 m] (by simp [Act.eval, Act.put]) (heap_alloc_new w3 _) rfl (one_int _) HBE.out ?_; intro v4 w4 hg1; obtain ⟨Ay, cy, rfl⟩ := own_slice hg1.own; have HG1 := Aside0.mk hg1; have hk1 := grown_kb HA.out.kbk HG1.out.grow HA.out.kbr HA.out.fam.bM (by decide) 6 _ (cell_kb HA.out HCS.out (by decide)).2; have hk1a := hk1.1; have hk1b := hk1.2; clear hk1 hg1 hq1)
          have HS1 := Aside0.mk (St.M (numsR _) HA.out HCS.out HG1.out)
          clear HS0 HA HBE HG1 hk1a hk1b
          generalize w4.setCell ⟨kb, 6, none⟩ (.slice Ay (ms.length + 1) cy) = w5 at HS1 ⊢
          go_wp2_with fail
          go_roundw
          case rel => exact ⟨40, Av, nf + 1, cv, rfl, by go_num, ⟨by have := HI40.out; omega, by have := HNF.out; omega, by rw [HCT.out]; exact HS1.out⟩⟩
          case measure => simp only [intOf]; have := HI40.out; first | omega | (go_num; omega) | (simp; omega)
        · have hc1 : ¬ (i : Int) < 16 := by omega
          have hc2 : ¬ (i : Int) = 39 := by omega
          have hc1' : decide ((i : Int) < 16) = false := decide_eq_false hc1
          have hc2' : ((i : Int) == 39) = false := by rw [beq_eq_false_iff_ne]; exact hc2
          clear hc1 hc2
          have HCT : Aside0 (ct (i + 1) = ct i) := ⟨by unfold ct; rw [if_neg (by omega), if_pos (by omega)]; by_cases h : i = 16; (subst h; rfl); rw [if_neg (by omega), if_pos (by omega)]⟩
          go_wp2_with fail
          go_roundw
          case rel => exact ⟨i + 1, Av, nf + 1, cv, rfl, by go_num, ⟨by have := HI40.out; omega, by have := HNF.out; omega, by rw [HCT.out]; exact HS2.out⟩⟩
          case measure => simp only [intOf]; have := HI40.out; first | omega | (go_num; omega) | (simp; omega)
    · obtain rfl : i = 40 := by have := HR.out.1; omega
      go_wp2_with fail
      first | go_end0 | ((try simp only [Exit.inBlock, Exit.then]); refine bodyPost_ret (results_none rfl _ _ _) rfl ?_)
      exact ⟨rfl, _, _, HR.out.2.2⟩
end Go.Proofs.Ytnkkkbmkbmjghaa.Hd
