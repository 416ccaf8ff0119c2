/- texts that the proof needs, laid together by a program of this session. -/
import Derived.Test.YtnbfebjcfhbhiaaDoorKScriptParse15
section
namespace Go.Proofs.YtnbfebjcfhbhiaaDoor.Sc
open Go Go.RowKit Go.Proofs.YtnbfebjcfhbhiaaDoor.P Go.Proofs.YtnbfebjcfhbhiaaDoor.Bw Go.Proofs.YtnbfebjcfhbhiaaDoor.Lw Go.Proofs.YtnbfebjcfhbhiaaDoorW.PrintWords
set_option linter.unusedVariables false
set_option linter.unusedSimpArgs false
end Go.Proofs.YtnbfebjcfhbhiaaDoor.Sc
end
section
namespace Go.Proofs.YtnbfebjcfhbhiaaDoor.Sc
open Go Go.RowKit Go.Proofs.YtnbfebjcfhbhiaaDoor.Bw Go.Proofs.YtnbfebjcfhbhiaaDoor.Lw
set_option linter.unusedVariables false
set_option linter.unusedSimpArgs false
theorem lines_empty : ∀ (t : By), ∀ p ∈ lines t, p.1 = [] → p.2 = true
  | [], p, h, _ => by cases h
  | c :: l, p, h, h0 => by
    have ih := lines_empty l
    rw [lines] at h
    by_cases hc : c = 10
    · rw [if_pos hc] at h
      rcases List.mem_cons.1 h with rfl | h
      · rfl
      · exact ih p h h0
    · rw [if_neg hc] at h
      cases hl : lines l with
      | nil => rw [hl] at h; simp only [List.mem_singleton] at h; subst h; simp at h0
      | cons q r =>
        obtain ⟨t, w⟩ := q
        rw [hl] at h
        rcases List.mem_cons.1 h with rfl | h
        · simp at h0
        · exact ih p (by rw [hl]; exact .tail _ h) h0
theorem lines_len : ∀ (t : By), ∀ p ∈ lines t, p.1.length ≤ t.length
  | [], p, h => by cases h
  | c :: l, p, h => by
    have ih := lines_len l
    rw [lines] at h
    rw [List.length_cons]
    by_cases hc : c = 10
    · rw [if_pos hc] at h
      rcases List.mem_cons.1 h with rfl | h
      · exact Nat.zero_le _
      · have := ih p h; omega
    · rw [if_neg hc] at h
      cases hl : lines l with
      | nil => rw [hl] at h; simp only [List.mem_singleton] at h; subst h; simp
      | cons q r =>
        obtain ⟨t, w⟩ := q
        rw [hl] at h ih
        rcases List.mem_cons.1 h with rfl | h
        · have := ih (t, w) (.head _); simp only [List.length_cons] at *; omega
        · have := ih p (.tail _ h); omega
/-- All lines have ends. -/
def Ends (t : By) : Prop := ∀ p ∈ lines t, p.2 = true
theorem Ends.join : ∀ (t : By), Ends t → (lines t).flatMap (fun p => p.1 ++ [10]) = t
  | [], _ => rfl
  | c :: l, h => by
    unfold Ends at h
    rw [lines] at h ⊢
    by_cases hc : c = 10
    · rw [if_pos hc] at h ⊢
      rw [List.flatMap_cons, Ends.join l (fun p hp => h p (.tail _ hp)), hc]
      rfl
    · rw [if_neg hc] at h ⊢
      cases hl : lines l with
      | nil => rw [hl] at h; have := h _ (.head _); cases this
      | cons q r =>
        obtain ⟨t, w⟩ := q
        rw [hl] at h
        have hE : Ends l := fun p hp => by
          rw [hl] at hp
          rcases List.mem_cons.1 hp with rfl | hp
          · exact h (c :: t, w) (.head _)
          · exact h _ (.tail _ hp)
        have ih := Ends.join l hE
        rw [hl] at ih
        rw [List.flatMap_cons] at ih ⊢
        conv => rhs; rw [← ih]
        rfl
theorem meantT_le : ∀ ls : List (By × Bool), (meantT ls).length ≤ (ls.flatMap (fun p => p.1 ++ [10])).length
  | [] => Nat.le_refl _
  | p :: ls => by
    have ih := meantT_le ls
    have e : meantT (p :: ls) = (if Mute p.1 then [] else p.1 ++ [10]) ++ meantT ls := by simp [meantT]
    rw [e, List.flatMap_cons, List.length_append, List.length_append]
    split
    · simp only [List.length_nil]; omega
    · omega
/-- WHAT IS READ IS PRINTED AS IT WAS. -/
theorem form_law {t : By} {c : List Int} {l : List St} (h : parse t = .ok c l) :
    t.length ≤ 1048576 ∧ Ends t ∧ c.length = 10 ∧ (∀ x ∈ c, inI x) ∧ l.length ≤ 20000 ∧ printR c l = (meantT (lines t), 0) ∧ (∀ x ∈ l, sfit x ∧ x.name.length ≤ 1048577 ∧ x.data.length ≤ 1048577) := by
  unfold parse at h
  by_cases hb : 1048576 < t.length
  · rw [if_pos hb] at h; cases h
  · rw [if_neg hb] at h
    obtain ⟨h1, h2, h3, h4, h5, h6⟩ := one_go_none 1048576 (lines t) 0 c l (fun p hp => Nat.le_trans (lines_len t p hp) (by omega)) h
    have hE : Ends t := fun p hp => by
      by_cases hm : Mute p.1
      · rcases hm with hm | hm
        · exact lines_empty t p hp hm
        · exact h6 p hp (.inr hm)
      · exact h6 p hp (.inl hm)
    refine ⟨by omega, hE, h1, h2, h3, ?_, fun x hx => ?_⟩
    · have hl := meantT_le (lines t)
      rw [hE.join] at hl
      unfold printR
      rw [if_neg (by omega), cfgTS_eq h1, printGo_of l _ (fun x hx => (h5 x hx).1)]
      simp only
      rw [← h4, if_neg (by omega)]
    · obtain ⟨_, g1, g2, g3, g4, g5⟩ := h5 x hx
      exact ⟨⟨g2, g1 .r, g1 .s, g1 .n, g3, g1 .a, g1 .b, g1 .i, g1 .j, by omega, by omega⟩, by omega, by omega⟩
end Go.Proofs.YtnbfebjcfhbhiaaDoor.Sc
end
section
namespace Go.Proofs.YtnbfebjcfhbhiaaDoor.Bw
open Go Go.RowKit Go.Proofs.YtnbfebjcfhbhiaaDoor.P Go.Proofs.YtnbfebjcfhbhiaaDoor.Sc Go.Proofs.YtnbfebjcfhbhiaaDoor.Lw Go.Proofs.YtnbfebjcfhbhiaaDoorW.PrintWords Go.Proofs.YtnbfebjcfhbhiaaDoorW.PrintLast Go.Proofs.YtnbfebjcfhbhiaaDoorW.PrintMore
open Go.Proofs.YtnbfebjcfhbhiaaDoor.Rf (rparse_calls)
set_option linter.unusedVariables false
set_option linter.unusedSimpArgs false
/-- What is told of an outcome: the config, the steps, the line, the column, the error. -/
def cO : Out → List Int
  | .ok c _ => c
  | _ => [0, 0, 0, 0, 0, 0, 0, 0, 0, 0]
def lO : Out → List St
  | .ok _ l => l
  | _ => []
def tO : Out → Int × Int × Int
  | .long => (0, 0, 2)
  | .place l c => (l, c, 180)
  | .ok _ _ => (0, 0, 0)
def AllP (w : World) (c : List Int) (l : List St) (L C E : Int) (e : Ending) (w' : World) : Prop := ∃ A cp, e = .returned (.tuple #[.agg (cfc c), .slice A l.length cp, .int .i64 L, .int .i64 C, .int .i64 E]) ∧ l.length ≤ cp ∧ Kd.C k48 w' A l.length (l.map stS) ∧ Below w.heap.size w w'
theorem all_of {w w' : World} {o : Out} {e : Ending} (h : ParseP w w' o e) (hb : Below w.heap.size w w') : AllP w (cO o) (lO o) (tO o).1 (tO o).2.1 (tO o).2.2 e w' := by
  cases o with
  | long => exact ⟨none, 0, h, Nat.le_refl _, Kd.C_nil _ _, hb⟩
  | place l c => exact ⟨none, 0, h, Nat.le_refl _, Kd.C_nil _ _, hb⟩
  | ok c l =>
    obtain ⟨v, rfl, _, hR⟩ := h
    obtain ⟨A, cp, rfl, hcp, hC⟩ := Kd.R_reads hR
    rw [List.length_map] at hcp hC ⊢
    exact ⟨A, cp, rfl, hcp, hC, hb⟩
set_option maxHeartbeats 16000000 in
set_option maxRecDepth 100000 in
theorem parses_walk (w : World) (s : ByteArray) (hV : VS w) (hVC : VC w) (hs : s.size ≤ 4611686018427387904) (a0 a1 a2 a3 a4 a5 a6 a7 a8 a9 L C E : Int) (l : List St) (h1 : ∀ W, VS W → VC W → Calls Tryd.prog 16 #[.string s] W (AllP W [a0, a1, a2, a3, a4, a5, a6, a7, a8, a9] l L C E)) (h2 : ∀ W, Calls Tryd.prog 22 #[.string s] W (AllP W [a0, a1, a2, a3, a4, a5, a6, a7, a8, a9] l L C E)) {K : Nat} (hK : sluicelaw18_alike.f K (l.map stS) (l.map stS) = some true) :
    Calls Tryd.prog 11 #[.string s] w fun e w' => e = .returned (.bool true) ∧ Below w.heap.size w w' := by
  have HV := Aside0.mk hV
  have HC := Aside0.mk hVC
  have H1 := Aside0.mk h1
  have H2 := Aside0.mk h2
  have HK := Aside0.mk hK
  clear hV hVC h1 h2 hK hs
  go_enter Tryd.func11, Tryd.ntmps11
  go_upto_region 2 with (go_at_call 16; refine (H1.out _ HV.out HC.out).mono ?_; rintro e w2 ⟨A, cp, rfl, hcp, hC, hb⟩; have HB2 := Aside0.mk hb; have HL := Aside0.mk hC; have HCP := Aside0.mk hcp; clear hb hC hcp; simp only [cfc, cfl, List.map_cons, List.map_nil, List.length_cons, List.length_nil, List.cons_append, List.nil_append])
  obtain ⟨W2, hW2⟩ : ∃ W2, W2 = w2.alloc (.cells #[.int .i64 a0, .int .i64 a1, .int .i64 a2, .int .i64 a3, .int .i64 a4, .int .i64 a5, .int .i64 a6, .int .i64 a7, .int .i64 a8, .int .i64 a9] 25 (0, 0)) := ⟨_, rfl⟩
  have HW2 := Aside0.mk hW2
  have HX2 : Aside0 (Below w.heap.size w W2 ∧ W2.heap[w2.heap.size]? = some (.cells #[.int .i64 a0, .int .i64 a1, .int .i64 a2, .int .i64 a3, .int .i64 a4, .int .i64 a5, .int .i64 a6, .int .i64 a7, .int .i64 a8, .int .i64 a9] 25 (0, 0))) := ⟨by rw [hW2]; exact ⟨HB2.out.alloc HB2.out.size _, heap_alloc_new _ _⟩⟩
  have HL2 : Aside0 (Kd.C k48 W2 A l.length (l.map stS)) := ⟨by rw [hW2]; exact Kd.C_below HL.out ((Below.refl _ _).alloc (Nat.le_refl _) _)⟩
  rw [← HW2.out]
  clear hW2
  go_upto_region 3 with (go_at_call 22; refine (H2.out _).mono ?_; rintro e w4 ⟨A2, cp2, rfl, hcp, hC, hb⟩; have HB4 := Aside0.mk (HX2.out.1.trans (hb.mono HX2.out.1.size)); have HN4 := Aside0.mk ((hb.block _ (blk_lt HX2.out.2)).trans HX2.out.2); have HL4 := Aside0.mk (Kd.C_below HL2.out hb); have HC4 := Aside0.mk hC; have HCP2 := Aside0.mk hcp; clear hb hC hcp; simp only [cfc, cfl, List.map_cons, List.map_nil, List.length_cons, List.length_nil, List.cons_append, List.nil_append])
  obtain ⟨W6, hW6⟩ : ∃ W6, W6 = w4.alloc (.cells #[.int .i64 a0, .int .i64 a1, .int .i64 a2, .int .i64 a3, .int .i64 a4, .int .i64 a5, .int .i64 a6, .int .i64 a7, .int .i64 a8, .int .i64 a9] 25 (0, 0)) := ⟨_, rfl⟩
  have HW6 := Aside0.mk hW6
  have HX6 : Aside0 (Below w4.heap.size w4 W6) := ⟨by rw [hW6]; exact (Below.refl _ _).alloc (Nat.le_refl _) _⟩
  have H6 : Aside0 (Below w.heap.size w W6 ∧ W6.heap[w2.heap.size]? = some (.cells #[.int .i64 a0, .int .i64 a1, .int .i64 a2, .int .i64 a3, .int .i64 a4, .int .i64 a5, .int .i64 a6, .int .i64 a7, .int .i64 a8, .int .i64 a9] 25 (0, 0)) ∧ W6.heap[w4.heap.size]? = some (.cells #[.int .i64 a0, .int .i64 a1, .int .i64 a2, .int .i64 a3, .int .i64 a4, .int .i64 a5, .int .i64 a6, .int .i64 a7, .int .i64 a8, .int .i64 a9] 25 (0, 0))) := ⟨⟨HB4.out.trans (HX6.out.mono HB4.out.size), (HX6.out.block _ (blk_lt HN4.out)).trans HN4.out, by rw [hW6]; exact heap_alloc_new _ _⟩⟩
  have HL6 := Aside0.mk (Kd.C_below HL4.out HX6.out)
  have HC6 := Aside0.mk (Kd.C_below HC4.out HX6.out)
  rw [← HW6.out]
  clear hW6
  have d0 : W6.cell? ⟨w2.heap.size, 0, none⟩ = some (.int .i64 a0) := (blk_cell H6.out.2.1 0).trans rfl
  have d1 : W6.cell? ⟨w2.heap.size, 1, none⟩ = some (.int .i64 a1) := (blk_cell H6.out.2.1 1).trans rfl
  have d2 : W6.cell? ⟨w2.heap.size, 2, none⟩ = some (.int .i64 a2) := (blk_cell H6.out.2.1 2).trans rfl
  have d3 : W6.cell? ⟨w2.heap.size, 3, none⟩ = some (.int .i64 a3) := (blk_cell H6.out.2.1 3).trans rfl
  have d4 : W6.cell? ⟨w2.heap.size, 4, none⟩ = some (.int .i64 a4) := (blk_cell H6.out.2.1 4).trans rfl
  have d5 : W6.cell? ⟨w2.heap.size, 5, none⟩ = some (.int .i64 a5) := (blk_cell H6.out.2.1 5).trans rfl
  have d6 : W6.cell? ⟨w2.heap.size, 6, none⟩ = some (.int .i64 a6) := (blk_cell H6.out.2.1 6).trans rfl
  have d7 : W6.cell? ⟨w2.heap.size, 7, none⟩ = some (.int .i64 a7) := (blk_cell H6.out.2.1 7).trans rfl
  have d8 : W6.cell? ⟨w2.heap.size, 8, none⟩ = some (.int .i64 a8) := (blk_cell H6.out.2.1 8).trans rfl
  have d9 : W6.cell? ⟨w2.heap.size, 9, none⟩ = some (.int .i64 a9) := (blk_cell H6.out.2.1 9).trans rfl
  have e0 : W6.cell? ⟨w4.heap.size, 0, none⟩ = some (.int .i64 a0) := (blk_cell H6.out.2.2 0).trans rfl
  have e1 : W6.cell? ⟨w4.heap.size, 1, none⟩ = some (.int .i64 a1) := (blk_cell H6.out.2.2 1).trans rfl
  have e2 : W6.cell? ⟨w4.heap.size, 2, none⟩ = some (.int .i64 a2) := (blk_cell H6.out.2.2 2).trans rfl
  have e3 : W6.cell? ⟨w4.heap.size, 3, none⟩ = some (.int .i64 a3) := (blk_cell H6.out.2.2 3).trans rfl
  have e4 : W6.cell? ⟨w4.heap.size, 4, none⟩ = some (.int .i64 a4) := (blk_cell H6.out.2.2 4).trans rfl
  have e5 : W6.cell? ⟨w4.heap.size, 5, none⟩ = some (.int .i64 a5) := (blk_cell H6.out.2.2 5).trans rfl
  have e6 : W6.cell? ⟨w4.heap.size, 6, none⟩ = some (.int .i64 a6) := (blk_cell H6.out.2.2 6).trans rfl
  have e7 : W6.cell? ⟨w4.heap.size, 7, none⟩ = some (.int .i64 a7) := (blk_cell H6.out.2.2 7).trans rfl
  have e8 : W6.cell? ⟨w4.heap.size, 8, none⟩ = some (.int .i64 a8) := (blk_cell H6.out.2.2 8).trans rfl
  have e9 : W6.cell? ⟨w4.heap.size, 9, none⟩ = some (.int .i64 a9) := (blk_cell H6.out.2.2 9).trans rfl
  go_wp2_with (first
      | (go_at_call 17; refine (alike_calls _ l A A2 cp cp2 HK.out HL6.out HCP.out HC6.out HCP2.out).mono ?_; rintro e w7 ⟨rfl, hb⟩; have HB7 := Aside0.mk hb; clear hb)
      | (go_at_call 15; refine (num_calls _ _).mono ?_; rintro e w' ⟨rfl, rfl⟩))
  go_ret
  exact ⟨by first | rfl | trivial, H6.out.1.trans (HB7.out.mono H6.out.1.size)⟩
theorem parses_calls (w : World) (s : ByteArray) (hV : VS w) (hC : VC w) (hs : s.size ≤ 4611686018427387904) :
    Calls Tryd.prog 11 #[.string s] w fun e w' => e = .returned (.bool true) ∧ Below w.heap.size w w' := by
  obtain ⟨o, ho⟩ : ∃ o, Sc.parse (bs s) = o := ⟨_, rfl⟩
  have hl : (lO o).length ≤ 20000 ∧ (cO o).length = 10 := by
    cases o with
    | ok c l => obtain ⟨_, _, h3, _, h5, _⟩ := form_law ho; exact ⟨h5, h3⟩
    | long => exact ⟨Nat.zero_le _, rfl⟩
    | place l c => exact ⟨Nat.zero_le _, rfl⟩
  obtain ⟨K, hK⟩ := (alike_ev ((lO o).map stS) (by rw [List.length_map]; omega)).rounds
  have h1 : ∀ W, VS W → VC W → Calls Tryd.prog 16 #[.string s] W (AllP W (cO o) (lO o) (tO o).1 (tO o).2.1 (tO o).2.2) := fun W hV hC => (parse_calls W s hV hC hs).mono (fun e w' h => by rw [ho] at h; exact all_of h.1 h.2)
  have h2 : ∀ W, Calls Tryd.prog 22 #[.string s] W (AllP W (cO o) (lO o) (tO o).1 (tO o).2.1 (tO o).2.2) := fun W => by
    have := rparse_calls W (bs s) (by rw [sb_bs]; exact hs)
    rw [sb_bs] at this
    exact this.mono (fun e w' h => by rw [ho] at h; exact all_of h.1 h.2)
  obtain ⟨a0, a1, a2, a3, a4, a5, a6, a7, a8, a9, hc⟩ := ten hl.2
  rw [hc] at h1 h2
  exact parses_walk w s hV hC hs a0 a1 a2 a3 a4 a5 a6 a7 a8 a9 _ _ _ _ h1 h2 hK
set_option maxHeartbeats 4000000 in
set_option maxRecDepth 100000 in
/-- ScriptParse answers true. -/
theorem sparse_calls (w : World) (s : ByteArray) (hT : TB w) (hV : VS w) (hC : VC w) (hs : s.size ≤ 140737488355328) :
    Calls Tryd.prog 3 #[.string s] w fun e w' => e = .returned (.bool true) ∧ Below w.heap.size w w' := by
  have HT := Aside0.mk hT
  have HV := Aside0.mk hV
  have HC := Aside0.mk hC
  have HS : Aside0 (s.size ≤ 4611686018427387904) := ⟨by omega⟩
  clear hT hV hC hs
  go_enter Tryd.func3, Tryd.ntmps3
  go_wp2_with (first
      | (go_at_call 10; refine (alive_calls _ HT.out HV.out HC.out).mono ?_; rintro e w1 ⟨rfl, hb⟩; have HB1 := Aside0.mk hb; clear hb)
      | (go_at_call 11; refine (parses_calls _ s (HV.out.below HB1.out) (HC.out.below HB1.out) HS.out).mono ?_; rintro e w2 ⟨rfl, hb⟩; have HB2 := Aside0.mk hb; clear hb))
  go_ret
  exact ⟨by first | rfl | trivial, HB1.out.trans (HB2.out.mono HB1.out.size)⟩
end Go.Proofs.YtnbfebjcfhbhiaaDoor.Bw
end
