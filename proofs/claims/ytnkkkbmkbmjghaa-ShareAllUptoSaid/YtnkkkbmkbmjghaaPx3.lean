/- Contracts of Go functions, each for every input: laid by a program of this session over the kit's print, beside contracts that this session proved by hand. -/
import Derived.Laws.CopyOwn
import Derived.Deep.RegionLaw
import Derived.Shelf.SlSortCmp.Insertion
import Derived.Laws.EntriesVeiled
import Derived.Test.YtnkkkbmkbmjghaaPx0
import Derived.Test.YtnkkkbmkbmjghaaPx2
namespace Go.Proofs.Ytnkkkbmkbmjghaa.P
open Go.RowKit Go.Proofs.YtnkkkbmkbmjghaaW.PrintWords Go.Proofs.YtnkkkbmkbmjghaaW.PrintLast Go.Proofs.YtnkkkbmkbmjghaaW.PrintMore
attribute [local go_sem] max2_int min2_int max_two min_two max_three min_three max_four min_four   -- for this text's walks alone
set_option linter.unusedVariables false
set_option linter.unusedSimpArgs false

/-! ### share_Deal: function 12 -/
open Go.Lib
theorem mul_small : ∀ n : Fin 17, bits_Mul.f 1 (n.val : Int) = some (0, (n.val : Int)) := by decide +kernel
def onesV (m N : Nat) : List Value := List.replicate m (Value.int .i64 1) ++ List.replicate (N - m) (Value.int .i64 0)
theorem onesV_zero (N : Nat) : (onesV 0 N).toArray = madeCells #[Value.int .i64 0] N := by
  apply Array.toList_inj.1; rw [toList_madeCells_one]; simp [onesV]
theorem onesV_full (N : Nat) : onesV N N = List.replicate N (Value.int .i64 1) := by simp [onesV]
theorem onesV_splice (m c N : Nat) (h : m + c ≤ N) : splice (onesV m N) m (List.replicate c (Value.int .i64 1)) = onesV (m + c) N := by
  unfold splice onesV
  rw [List.take_append_of_le_length (by simp), List.take_of_length_le (by simp), List.drop_append]
  have e1 : List.drop (m + (List.replicate c (Value.int .i64 1)).length) (List.replicate m (Value.int .i64 1)) = [] := by apply List.drop_eq_nil_of_le; simp
  rw [e1, List.nil_append, List.length_replicate, List.length_replicate, List.drop_replicate, ← List.append_assoc, List.replicate_append_replicate]
  congr 2
  omega
theorem onesV_cell {w : World} {g m N : Nat} {t : TypeId} (h : w.heap[g]? = some (.cells (onesV m N).toArray t (0, 0))) (j : Nat) (hj : j < m) : w.cell? ⟨g, j, none⟩ = some (.int .i64 1) := by
  rw [cell_of_row w g j _ t (0, 0) h]
  simp [onesV, List.getElem?_append_left (show j < (List.replicate m (Value.int .i64 1)).length by simpa using hj), List.getElem?_replicate, hj]
theorem one_pos {W : World} {ad : Addr} {dp : Option Addr} (h : W.cell? (ad.add 0) = some (.int .i64 1)) : 0 < ([Value.int .i64 1] : List Value).length → dp = dp ∧ ∃ ad1, some ad = some ad1 ∧ ∀ j v, ([Value.int .i64 1] : List Value)[j]? = some v → W.cell? (ad1.add j) = some v := by
  intro _
  refine ⟨rfl, ad, rfl, ?_⟩
  intro j v hv
  have hj : j = 0 := by
    rcases Nat.eq_zero_or_pos j with h | h
    · exact h
    · rw [List.getElem?_eq_none (show ([Value.int .i64 1] : List Value).length ≤ j from h)] at hv
      cases hv
  subst hj
  obtain rfl := Option.some.inj hv
  exact h
theorem more_pos {W : World} {g m N : Nat} (h : W.heap[g]? = some (.cells (onesV m N).toArray 3 (0, 0))) : 0 < (List.replicate (min m (N - m)) (Value.int .i64 1)).length → (some ⟨g, m, none⟩ : Option Addr) = some ⟨g, m, none⟩ ∧ ∃ ad1, some (⟨g, 0, none⟩ : Addr) = some ad1 ∧ ∀ j v, (List.replicate (min m (N - m)) (Value.int .i64 1))[j]? = some v → W.drew.cell? (ad1.add j) = some v := by
  intro _
  refine ⟨rfl, ⟨g, 0, none⟩, rfl, ?_⟩
  intro j v hv
  have hj : j < m := by
    have := (List.getElem?_eq_some_iff.1 hv).1
    simp at this; omega
  rw [List.getElem?_replicate] at hv
  split at hv
  · obtain rfl := Option.some.inj hv
    rw [add_plain]
    exact onesV_cell h j hj
  · cases hv
set_option maxHeartbeats 1000000 in
set_option maxRecDepth 100000 in
theorem repeat_calls (w : World) (ad : Addr) (cx N : Nat) (h1 : 1 ≤ N) (h2 : N ≤ 16) (hc : w.cell? (ad.add 0) = some (.int .i64 1)) :
    Calls Try.prog 34 #[.slice (some ad) 1 cx, .int .i64 (N : Int)] w fun e w' =>
      ∃ g : Nat, e = .returned (.slice (some ⟨g, 0, none⟩) N N) ∧ Aside0 (w.heap.size ≤ g ∧ w'.heap[g]? = some (.cells (List.replicate N (Value.int .i64 1)).toArray 3 (0, 0)) ∧ Below w.heap.size w w') := by
  have hmul : bits_Mul.f 1 (N : Int) = some (0, (N : Int)) := mul_small ⟨N, by omega⟩
  have HMUL := Aside0.mk hmul
  have HC := Aside0.mk hc
  clear hmul hc
  have hmk := print_make (P := Try.prog) 22 3 .i64 8 Try.underlying22 info3 (by omega) N (by omega)
  have hN1 : (1 : Int) ≤ (N : Int) := by omega
  have hN2 : (N : Int) ≤ 16 := by omega
  go_enter Try.func34, Try.ntmps34
  go_wp2_with fail
  refine (bits_Mul.calls 1 (N : Int) 0 (N : Int) _ HMUL.out).mono ?_
  rintro e w1 ⟨rfl, HD⟩
  have HB1 := Aside0.mk HD.below
  have HC1 : Aside0 ((w1.alloc (.cells (madeCells #[Value.int .i64 0] N) 3)).cell? (ad.add 0) = some (.int .i64 1)) :=
    ⟨(World.cell?_of_block (w := w1) (Below.heap_alloc _ _ _ (Nat.lt_of_lt_of_le (World.block_lt_of_cell? w _ HC.out) HB1.out.size))).trans (pw_cell_below HB1.out HC.out)⟩
  have hf1 : Aside0 (0 + ([Value.int .i64 1] : List Value).length ≤ (onesV 0 N).length) := ⟨by simp [onesV]; omega⟩
  have hm1 : Aside0 (([Value.int .i64 1] : List Value).length = Nat.min 1 N) := ⟨by show 1 = min 1 N; omega⟩
  have ho1 : Aside0 (∀ v ∈ ([Value.int .i64 1] : List Value), v.oneCell' = true) := ⟨by simp; rfl⟩
  have hz1 : Aside0 ((w1.alloc (.cells (madeCells #[Value.int .i64 0] N) 3)).heap[w1.heap.size]? = some (.cells (onesV 0 N).toArray 3 (0, 0))) := ⟨by rw [onesV_zero]; exact heap_alloc_new w1 _⟩
  have hb1 : Aside0 (Below w.heap.size w (w1.alloc (.cells (madeCells #[Value.int .i64 0] N) 3))) := ⟨HB1.out.alloc HB1.out.size _⟩
  go_wp2_with (refine wpList_copy_splice rfl (.tmp 31) (.tmp 32) 22 22 rfl 3 Try.underlying22 (by kernel_rfl) (some ⟨w1.heap.size, 0, none⟩) (some ad) N N 1 cx rfl rfl w1.heap.size 0 (onesV 0 N) 3 hz1.out [.int .i64 1] hm1.out (one_pos HC1.out) hf1.out ho1.out w.heap.size w hb1.out HB1.out.size ?_)
  intro w2 hg2 hb2
  have HG2 : Aside0 (w2.heap[w1.heap.size]? = some (.cells (onesV 1 N).toArray 3 (0, 0))) := ⟨by
    have := hg2.out
    rwa [show ([Value.int .i64 1] : List Value) = List.replicate 1 (Value.int .i64 1) from rfl, onesV_splice 0 1 N (by omega)] at this⟩
  have HBB := Aside0.mk (And.intro HB1.out.size hb2)
  clear hg2 hb2
  obtain ⟨g, hg⟩ : ∃ g, g = w1.heap.size := ⟨_, rfl⟩
  rw [← hg] at HG2 HBB ⊢
  clear hg
  go_wp2_with fail
  go_loopw [8] (fun n wr => ∃ m : Nat, n = .int .i64 (m : Int) ∧ 1 ≤ m ∧ m ≤ N ∧ Aside0 (wr.heap[g]? = some (.cells (onesV m N).toArray 3 (0, 0)) ∧ Below w.heap.size w wr)) (fun n _ => N - (intOf n).toNat)
  case atStart => exact ⟨1, rfl, by omega, by omega, ⟨HG2.out, HBB.out.2⟩⟩
  case round =>
    obtain ⟨m, rfl, hm1, hm2, HS⟩ := hrel
    by_cases hlt : m < N
    · have hlt2 : (m : Int) < (N : Int) := by omega
      have hmm : (0 : Int) ≤ (m : Int) := by omega
      go_wp2_with fail
      have hnm : ¬ N = m := by omega
      have hf3 : Aside0 (m + (List.replicate (min m (N - m)) (Value.int .i64 1)).length ≤ (onesV m N).length) := ⟨by simp [onesV]; omega⟩
      have hn3 : Aside0 ((List.replicate (min m (N - m)) (Value.int .i64 1)).length = Nat.min m (N - m)) := ⟨by rw [List.length_replicate]⟩
      have ho3 : Aside0 (∀ v ∈ List.replicate (min m (N - m)) (Value.int .i64 1), v.oneCell' = true) := ⟨fun v hv => by rw [List.eq_of_mem_replicate hv]; rfl⟩
      have hgg : Aside0 (w.heap.size ≤ g) := ⟨HBB.out.1⟩
      go_region_law (refine step_copy_splice rfl (.tmp 41) (.tmp 44) 22 22 rfl 3 Try.underlying22 (by kernel_rfl) (some ⟨g, m, none⟩) (some ⟨g, 0, none⟩) (N - m) (N - m) m N (by simp [Act.eval, Act.put]) (by simp [Act.eval, Act.put]) g m (onesV m N) 3 HS.out.1 (List.replicate (min m (N - m)) (Value.int .i64 1)) hn3.out (more_pos HS.out.1) hf3.out ho3.out w.heap.size w HS.out.2.drew hgg.out ?_; intro w4 hg4 hb4)
      have HG4 : Aside0 (w4.heap[g]? = some (.cells (onesV (m + min m (N - m)) N).toArray 3 (0, 0)) ∧ Below w.heap.size w w4) := ⟨by
        have := hg4.out
        rwa [onesV_splice m (min m (N - m)) N (by omega)] at this, hb4⟩
      clear hg4 hb4
      simp only [Act.put, List.getElem_toArray, List.getElem_cons_succ, List.getElem_cons_zero, List.setIfInBounds_toArray, List.set_cons_succ, List.set_cons_zero, List.length_replicate]
      go_wp2
      have hw : IntKind.i64.wrap ((m : Int) + ((min m (N - m) : Nat) : Int)) = ((m + min m (N - m) : Nat) : Int) := by
        rw [IntWalk.i64_in _ (by omega)]; omega
      go_roundw
      case rel => exact ⟨m + min m (N - m), by rw [hw], by omega, by omega, HG4⟩
      case measure => simp only [intOf, hw]; omega
    · have hmN : m = N := by omega
      have HM := Aside0.mk hmN
      clear hmN
      go_wp2
      go_ret
      exact ⟨g, rfl, ⟨HBB.out.1, by rw [← onesV_full]; have := HS.out.1; rwa [HM.out] at this, HS.out.2⟩⟩

def okW (l : List Int) : Prop := 1 ≤ l.length ∧ l.length ≤ 16 ∧ ∀ i : Nat, i < l.length → 0 ≤ rd l (i : Int) ∧ rd l (i : Int) ≤ 1048576
def sumN (l : List Int) : Nat → Int
  | 0 => 0
  | k + 1 => sumN l k + rd l (k : Int)
theorem sumN_bd {l : List Int} {n : Nat} (h : ∀ i : Nat, i < n → 0 ≤ rd l (i : Int) ∧ rd l (i : Int) ≤ 1048576) : ∀ k, k ≤ n → 0 ≤ sumN l k ∧ sumN l k ≤ 1048576 * k := by
  intro k
  induction k with
  | zero => intro _; simp [sumN]
  | succ k ih => intro hk; have h1 := ih (by omega); have h2 := h k (by omega); simp only [sumN]; omega
set_option maxHeartbeats 1000000 in
set_option maxRecDepth 100000 in
theorem counted_bad (A : Option Addr) (c : Nat) (l : List Int) (w : World) (hr : Kd.C (Kd.int .i64) w A l.length l) (hb : ¬ okW l) :
    Calls Try.prog 19 #[.slice A l.length c] w fun e w' => e = .returned (.tuple #[.slice none 0 0, .int .i64 0, .bool false]) ∧ w = w' := by
  have hl := hr.2.1
  have HR := Aside0.mk hr
  have HB := Aside0.mk hb
  clear hr hb
  by_cases h0 : l.length = 0
  · have hz : ((l.length : Int) == 0) = true := by simp [h0]
    have H0 := Aside0.mk h0
    clear h0
    go_enter Try.func19, Try.ntmps19
    go_wp2
    go_ret3
    exact ⟨rfl, rfl⟩
  · have hz : ((l.length : Int) == 0) = false := by rw [beq_eq_false_iff_ne]; omega
    by_cases h16 : 16 < l.length
    · have hz2 : (16 : Int) < (l.length : Int) := by omega
      go_enter Try.func19, Try.ntmps19
      go_wp2
      go_ret3
      exact ⟨rfl, rfl⟩
    · have hz2 : ¬ (16 : Int) < (l.length : Int) := by omega
      go_enter Try.func19, Try.ntmps19
      go_wp2
      go_loop [5, 18] (fun s i => ∃ k : Nat, k ≤ l.length ∧ i = .int .i64 (k : Int) ∧ s = .int .i64 (sumN l k) ∧ Aside0 (∀ j : Nat, j < k → 0 ≤ rd l (j : Int) ∧ rd l (j : Int) ≤ 1048576)) (fun _ i => l.length - (intOf i).toNat)
      case atStart => exact ⟨0, Nat.zero_le _, rfl, rfl, ⟨fun j hj => absurd hj (Nat.not_lt_zero j)⟩⟩
      case round =>
        obtain ⟨k, hk, rfl, rfl, HA⟩ := hrel
        have hb1 := sumN_bd HA.out k (Nat.le_refl _)
        by_cases hlt : k < l.length
        · obtain ⟨ad, rfl, hc0⟩ := Kd.at_int HR.out (k : Int) (by omega) (by omega)
          have hc : w.cell? (ad.add k) = some (.int .i64 (rd l (k : Int))) := hc0
          clear hc0
          obtain ⟨x, hx⟩ : ∃ x, rd l (k : Int) = x := ⟨_, rfl⟩
          rw [hx] at hc
          have HX := Aside0.mk hx
          clear hx
          obtain ⟨s, hs⟩ : ∃ s, sumN l k = s := ⟨_, rfl⟩
          rw [hs] at hb1 ⊢
          have HS := Aside0.mk hs
          clear hs
          by_cases hx0 : x < 0
          · go_wp2
            go_ret3
            exact ⟨rfl, rfl⟩
          · by_cases hx1 : 1048576 < x
            · go_wp2
              go_ret3
              exact ⟨rfl, rfl⟩
            · go_wp2
              go_round
              case rel => exact ⟨k + 1, by omega, by go_num, by simp only [sumN]; rw [HS.out, HX.out], ⟨fun j hj => by
                rcases Nat.lt_or_ge j k with h | h
                · exact HA.out j h
                · obtain rfl : j = k := by omega
                  rw [HX.out]; omega⟩⟩
              case measure => simp [intOf]; omega
        · exact absurd ⟨by omega, by omega, fun i hi => HA.out i (by omega)⟩ HB.out
set_option maxHeartbeats 2000000 in
set_option maxRecDepth 100000 in
theorem counted_good (A : Option Addr) (c : Nat) (l : List Int) (w : World) (hr : Kd.C (Kd.int .i64) w A l.length l) (hb : okW l) (hp : 0 < sumN l l.length) :
    Calls Try.prog 19 #[.slice A l.length c] w fun e w' => e = .returned (.tuple #[.slice A l.length c, .int .i64 (sumN l l.length), .bool true]) ∧ w = w' := by
  obtain ⟨hl1, hl2, hall⟩ := hb
  have HR := Aside0.mk hr
  have HA := Aside0.mk hall
  have hz : ((l.length : Int) == 0) = false := by rw [beq_eq_false_iff_ne]; omega
  have hz2 : ¬ (16 : Int) < (l.length : Int) := by omega
  clear hr hall
  have HP := Aside0.mk hp
  clear hp
  go_enter Try.func19, Try.ntmps19
  go_wp2
  go_loop [5, 18] (fun s i => ∃ k : Nat, k ≤ l.length ∧ i = .int .i64 (k : Int) ∧ s = .int .i64 (sumN l k)) (fun _ i => l.length - (intOf i).toNat)
  case atStart => exact ⟨0, Nat.zero_le _, rfl, rfl⟩
  case round =>
    obtain ⟨k, hk, rfl, rfl⟩ := hrel
    have hb1 := sumN_bd HA.out k hk
    by_cases hlt : k < l.length
    · obtain ⟨ad, rfl, hc0⟩ := Kd.at_int HR.out (k : Int) (by omega) (by omega)
      have hc : w.cell? (ad.add k) = some (.int .i64 (rd l (k : Int))) := hc0
      have hx2 := HA.out k hlt
      clear hc0
      obtain ⟨x, hx⟩ : ∃ x, rd l (k : Int) = x := ⟨_, rfl⟩
      rw [hx] at hc hx2
      have HX := Aside0.mk hx
      clear hx
      obtain ⟨s, hs⟩ : ∃ s, sumN l k = s := ⟨_, rfl⟩
      rw [hs] at hb1 ⊢
      have HS := Aside0.mk hs
      clear hs
      have hx0 : ¬ x < 0 := by omega
      have hx1 : ¬ 1048576 < x := by omega
      go_wp2
      go_round
      case rel => exact ⟨k + 1, by omega, by go_num, by simp only [sumN]; rw [HS.out, HX.out]⟩
      case measure => simp [intOf]; omega
    · have e : k = l.length := by omega
      have hp : 0 < sumN l k := by rw [e]; exact HP.out
      have E : Aside0 (sumN l l.length = sumN l k) := ⟨by rw [e]⟩
      clear e
      obtain ⟨s, hs⟩ : ∃ s, sumN l k = s := ⟨_, rfl⟩
      rw [hs] at hb1 hp E ⊢
      clear hs
      go_wp2
      go_ret3
      exact ⟨by rw [E.out]; rfl, rfl⟩
set_option maxHeartbeats 2000000 in
set_option maxRecDepth 100000 in
theorem counted_even (A : Option Addr) (c : Nat) (l : List Int) (w : World) (hr : Kd.C (Kd.int .i64) w A l.length l) (hb : okW l) (hp : sumN l l.length = 0) :
    Calls Try.prog 19 #[.slice A l.length c] w fun e w' => ∃ g : Nat, e = .returned (.tuple #[.slice (some ⟨g, 0, none⟩) l.length l.length, .int .i64 (l.length : Int), .bool true]) ∧
      Aside0 (w.heap.size ≤ g ∧ w'.heap[g]? = some (.cells (List.replicate l.length (Value.int .i64 1)).toArray 3 (0, 0)) ∧ Below w.heap.size w w') := by
  obtain ⟨hl1, hl2, hall⟩ := hb
  have HR := Aside0.mk hr
  have HA := Aside0.mk hall
  have hz : ((l.length : Int) == 0) = false := by rw [beq_eq_false_iff_ne]; omega
  have hz2 : ¬ (16 : Int) < (l.length : Int) := by omega
  clear hr hall
  have HP := Aside0.mk hp
  clear hp
  go_enter Try.func19, Try.ntmps19
  go_wp2
  go_loop [5, 18] (fun s i => ∃ k : Nat, k ≤ l.length ∧ i = .int .i64 (k : Int) ∧ s = .int .i64 (sumN l k)) (fun _ i => l.length - (intOf i).toNat)
  case atStart => exact ⟨0, Nat.zero_le _, rfl, rfl⟩
  case round =>
    obtain ⟨k, hk, rfl, rfl⟩ := hrel
    have hb1 := sumN_bd HA.out k hk
    by_cases hlt : k < l.length
    · obtain ⟨ad, rfl, hc0⟩ := Kd.at_int HR.out (k : Int) (by omega) (by omega)
      have hc : w.cell? (ad.add k) = some (.int .i64 (rd l (k : Int))) := hc0
      have hx2 := HA.out k hlt
      clear hc0
      obtain ⟨x, hx⟩ : ∃ x, rd l (k : Int) = x := ⟨_, rfl⟩
      rw [hx] at hc hx2
      have HX := Aside0.mk hx
      clear hx
      obtain ⟨s, hs⟩ : ∃ s, sumN l k = s := ⟨_, rfl⟩
      rw [hs] at hb1 ⊢
      have HS := Aside0.mk hs
      clear hs
      have hx0 : ¬ x < 0 := by omega
      have hx1 : ¬ 1048576 < x := by omega
      go_wp2
      go_round
      case rel => exact ⟨k + 1, by omega, by go_num, by simp only [sumN]; rw [HS.out, HX.out]⟩
      case measure => simp [intOf]; omega
    · have e : k = l.length := by omega
      have hp : ¬ 0 < sumN l k := by rw [e, HP.out]; omega
      clear e
      obtain ⟨s, hs⟩ : ∃ s, sumN l k = s := ⟨_, rfl⟩
      rw [hs] at hb1 hp ⊢
      clear hs
      go_wp2_with fail
      refine (repeat_calls _ ⟨w.heap.size, 0, none⟩ 1 l.length hl1 hl2 (by rw [add_plain]; exact cell_of_one (heap_alloc_new w _))).mono ?_
      rintro e w1 ⟨g, rfl, HG⟩
      go_wp2
      go_ret3
      exact ⟨g, rfl, ⟨by have := HG.out.1; simp at this; omega, HG.out.2.1, ((Below.refl _ _).alloc (Nat.le_refl _) _).trans (HG.out.2.2.mono (by simp))⟩⟩

def restV (total sum : Int) (v : List Int) (i : Int) : Int := (total * rd v i) % sum
/-- What the closures of Deal read: the total, the weights, their sum. -/
structure Caps (W : World) (tb wb sb N c : Nat) (ad : Addr) (total sum : Int) (v : List Int) : Prop where
  t : W.cell? ⟨tb, 0, none⟩ = some (.int .i64 total)
  w : W.cell? ⟨wb, 0, none⟩ = some (.slice (some ad) N c)
  s : W.cell? ⟨sb, 0, none⟩ = some (.int .i64 sum)
  x : ∀ j, j < N → W.cell? (ad.add j) = some (.int .i64 (rd v (j : Int)))
structure CapsB (N : Nat) (total sum : Int) (v : List Int) : Prop where
  t0 : 0 ≤ total
  t1 : total ≤ 1099511627776
  s0 : 1 ≤ sum
  s1 : sum ≤ 16777216
  x : ∀ j, j < N → 0 ≤ rd v (j : Int) ∧ rd v (j : Int) ≤ 1048576
theorem prod_bd {a b A B : Int} (h0 : 0 ≤ a) (h1 : a ≤ A) (h2 : 0 ≤ b) (h3 : b ≤ B) : 0 ≤ a * b ∧ a * b ≤ A * B :=
  ⟨Int.mul_nonneg h0 h2, Int.le_trans (Int.mul_le_mul_of_nonneg_right h1 h2) (Int.mul_le_mul_of_nonneg_left h3 (Int.le_trans h0 h1))⟩
set_option maxHeartbeats 1000000 in
set_option maxRecDepth 100000 in
theorem deal1_calls (W : World) (tb wb sb N c i : Nat) (ad : Addr) (total sum : Int) (v : List Int) (h : Caps W tb wb sb N c ad total sum v) (hb : CapsB N total sum v) (hi : i < N) (hN : N ≤ 16) :
    Calls Try.prog 20 #[.int .i64 (i : Int), .pointer (some ⟨tb, 0, none⟩), .pointer (some ⟨wb, 0, none⟩), .pointer (some ⟨sb, 0, none⟩)] W fun e w' =>
      e = .returned (.int .i64 (restV total sum v (i : Int))) ∧ ∃ n, w' = W.drewN n := by
  have h1 := h.t; have h2 := h.w; have h3 := h.s; have h4 := h.x i hi
  have b0 := hb.t0; have b1 := hb.t1; have b2 := hb.s0; have b3 := hb.s1; have b4 := (hb.x i hi).1; have b5 := (hb.x i hi).2
  obtain ⟨x, hx⟩ : ∃ x, rd v (i : Int) = x := ⟨_, rfl⟩
  rw [hx] at h4 b4 b5
  have HX := Aside0.mk hx
  clear h hb hx
  obtain ⟨p0, p1⟩ := prod_bd b0 b1 b4 b5
  have p1' : total * x ≤ 1152921504606846976 := by omega
  clear p1
  have i0 : (i : Int) < (N : Int) := by omega
  have i1 : (0 : Int) ≤ (i : Int) := by omega
  have hs0 : ¬ sum = 0 := by omega
  go_enter Try.func20, Try.ntmps20
  go_wp2
  go_quiet (fail)
  go_wp2
  go_ret
  exact ⟨by unfold restV; rw [HX.out]; rfl, _, rfl⟩
set_option maxHeartbeats 1000000 in
set_option maxRecDepth 100000 in
theorem deal2_calls (W : World) (fb tb wb sb N c i j : Nat) (ad : Addr) (total sum : Int) (v : List Int) (h : Caps W tb wb sb N c ad total sum v) (hb : CapsB N total sum v) (hi : i < N) (hj : j < N) (hN : N ≤ 16)
    (hf : W.cell? ⟨fb, 0, none⟩ = some (.func (.func 20) #[] #[.pointer (some ⟨tb, 0, none⟩), .pointer (some ⟨wb, 0, none⟩), .pointer (some ⟨sb, 0, none⟩)])) :
    Calls Try.prog 22 #[.int .i64 (i : Int), .int .i64 (j : Int), .pointer (some ⟨fb, 0, none⟩)] W fun e w' =>
      e = .returned (.int .i64 (restV total sum v (j : Int) - restV total sum v (i : Int))) ∧ ∃ n, w' = W.drewN n := by
  have hc : ∀ (k : Nat) (n : Nat), k < N → Calls Try.prog 20 #[.int .i64 (k : Int), .pointer (some ⟨tb, 0, none⟩), .pointer (some ⟨wb, 0, none⟩), .pointer (some ⟨sb, 0, none⟩)] (W.drewN n) fun e w' => e = .returned (.int .i64 (restV total sum v (k : Int))) ∧ ∃ m, w' = (W.drewN n).drewN m := fun k n hk =>
    deal1_calls (W.drewN n) tb wb sb N c k ad total sum v ⟨h.t, h.w, h.s, h.x⟩ hb hk hN
  have r1 : 0 ≤ restV total sum v (j : Int) ∧ restV total sum v (j : Int) < sum := ⟨Int.emod_nonneg _ (by have := hb.s0; omega), Int.emod_lt_of_pos _ (by have := hb.s0; omega)⟩
  have r2 : 0 ≤ restV total sum v (i : Int) ∧ restV total sum v (i : Int) < sum := ⟨Int.emod_nonneg _ (by have := hb.s0; omega), Int.emod_lt_of_pos _ (by have := hb.s0; omega)⟩
  have b3 := hb.s1
  have HC := Aside0.mk hc
  clear hc h hb
  obtain ⟨rj, hrj⟩ : ∃ r, restV total sum v (j : Int) = r := ⟨_, rfl⟩
  obtain ⟨ri, hri⟩ : ∃ r, restV total sum v (i : Int) = r := ⟨_, rfl⟩
  have hcj : ∀ n, Calls Try.prog 20 #[.int .i64 (j : Int), .pointer (some ⟨tb, 0, none⟩), .pointer (some ⟨wb, 0, none⟩), .pointer (some ⟨sb, 0, none⟩)] (W.drewN n) fun e w' => e = .returned (.int .i64 rj) ∧ ∃ m, w' = (W.drewN n).drewN m := fun n => by rw [← hrj]; exact HC.out j n hj
  have hci : ∀ n, Calls Try.prog 20 #[.int .i64 (i : Int), .pointer (some ⟨tb, 0, none⟩), .pointer (some ⟨wb, 0, none⟩), .pointer (some ⟨sb, 0, none⟩)] (W.drewN n) fun e w' => e = .returned (.int .i64 ri) ∧ ∃ m, w' = (W.drewN n).drewN m := fun n => by rw [← hri]; exact HC.out i n hi
  have HCJ := Aside0.mk hcj
  have HCI := Aside0.mk hci
  rw [hrj] at r1 ⊢
  rw [hri] at r2 ⊢
  clear hcj hci hrj hri HC
  go_enter Try.func22, Try.ntmps22
  go_wp2
  go_quiet ((first | (go_at_call_of 20 (Value.int .i64 (j : Int)); refine Calls.quiet_of (HCJ.out _)) | (go_at_call_of 20 (Value.int .i64 (i : Int)); refine Calls.quiet_of (HCI.out _))))
  go_wp2
  go_ret
  exact ⟨rfl, _, rfl⟩

def SC.lays_ren : Go.Shelf.Ren := ⟨fun | 20 => 43 | n => n, fun | 24 => 3 | 22 => 22 | 3 => 3 | 25 => 32 | 4 => 4 | 0 => 0 | n => n, fun | n => n⟩
theorem SC.lays : Go.Proofs.SlLaysF.n20 Try.prog SC.lays_ren := {
  mixed := by kernel_rfl
  f20 := ⟨Try.f43.name, by decide, Try.func43.trans (congrArg some (by kernel_rfl))⟩
  t0 := Try.underlying0
  a0 := Try.isAgg0
  z0 := Try.sizeOf0
  v0 := Try.zeroValue0
  t3 := Try.underlying3
  a3 := Try.isAgg3
  z3 := Try.sizeOf3
  v3 := Try.zeroValue3
  t4 := Try.underlying4
  a4 := Try.isAgg4
  z4 := Try.sizeOf4
  v4 := Try.zeroValue4
  t22 := Try.underlying22
  a22 := Try.isAgg22
  z22 := Try.sizeOf22
  v22 := Try.zeroValue22
  a24 := Try.isAgg3
  z24 := Try.sizeOf3
  t25 := Try.underlying32
  a25 := Try.isAgg32
  z25 := Try.sizeOf32
  v25 := Try.zeroValue32 }
def encF (m : Nat) (x : Fin (m + 1)) : Value := .int .i64 (x.val : Int)
theorem encF_one (m : Nat) : OneCell (encF m) := fun _ => rfl
theorem cell_sortWorld {α : Type} [Inhabited α] (enc : α → Value) (W : World) (blk off n : Nat) (dk : Array α) (os : Array Obj) (a : Addr) (h1 : a.block ≠ blk) (h2 : a.block < W.heap.size) : (sortWorld enc W blk off n dk os).cell? a = W.cell? a := by
  unfold sortWorld
  rw [Sort.cell?_grow _ _ _ (by rw [Sort.size_putRow]; exact h2), Sort.cell?_putRow_other enc _ blk off dk a (Or.inl h1)]
  rfl
def cfV (m : Nat) (total sum : Int) (v : List Int) (x y : Fin (m + 1)) : Int := restV total sum v (y.val : Int) - restV total sum v (x.val : Int)
theorem cmp_reads (w : World) (m fb tb wb sb c blk off : Nat) (ad : Addr) (total sum : Int) (v : List Int) (h : Caps w tb wb sb (m + 1) c ad total sum v) (hb : CapsB (m + 1) total sum v) (hN : m + 1 ≤ 16)
    (hf : w.cell? ⟨fb, 0, none⟩ = some (.func (.func 20) #[] #[.pointer (some ⟨tb, 0, none⟩), .pointer (some ⟨wb, 0, none⟩), .pointer (some ⟨sb, 0, none⟩)]))
    (n1 : tb ≠ blk) (n2 : wb ≠ blk) (n3 : sb ≠ blk) (n4 : fb ≠ blk) (n5 : ad.block ≠ blk) :
    CmpReads Try.prog 22 #[.pointer (some ⟨fb, 0, none⟩)] (encF m) (cfV m total sum v) blk off (m + 1) w := by
  intro q os dk hs x y
  have key : ∀ a u, w.cell? a = some u → a.block ≠ blk → (sortWorld (encF m) w blk off q dk os).cell? a = some u := fun a u hu hne => (cell_sortWorld (encF m) w blk off q dk os a hne (World.block_lt_of_cell? w a hu)).trans hu
  have hadd : ∀ j, (ad.add j).block ≠ blk := fun j => by
    have : (ad.add j).block = ad.block := by unfold Addr.add; split <;> rfl
    rw [this]; exact n5
  exact deal2_calls (sortWorld (encF m) w blk off q dk os) fb tb wb sb (m + 1) c x.val y.val ad total sum v ⟨key _ _ h.t n1, key _ _ h.w n2, key _ _ h.s n3, fun j hj => key _ _ (h.x j hj) (hadd j)⟩ hb x.isLt y.isLt hN (key _ _ hf n4)
open Go.Sort in
set_option maxHeartbeats 1000000 in
set_option maxRecDepth 100000 in
theorem stable_calls (w : World) (m : Nat) (cf : Fin (m + 1) → Fin (m + 1) → Int) (g : Nat) (cb : Array Value) (blk cap : Nat) (d : Array (Fin (m + 1))) (hN : d.size ≤ 16)
    (eg : ∀ args w, (callFunc g args).run Try.prog w = .ok (.enter g args) w) (hcmp : CmpReads Try.prog g cb (encF m) cf blk 0 d.size w) (hH : Holds (encF m) w blk 0 d) :
    Calls Try.prog 21 #[.slice (some ⟨blk, 0, none⟩) d.size cap, .func (.func g) #[] cb] w fun e w' =>
      e = .returned (.tuple #[]) ∧ ∃ n, w' = (putRow (encF m) w blk 0 (Sort.insertionSort (ltOf cf) d 0 d.size)).drewN n := by
  have HI := Aside0.mk (Any.insertionSortCmpFunc_one SC.lays (encF m) (encF_one m) cf g cb blk 0 cap 0 d.size d w eg hcmp hH (Nat.zero_le _) (Nat.le_refl _) (by omega))
  clear hcmp hH eg
  have h20 : ¬ (20 : Int) ≤ (d.size : Int) := by omega
  have h20' : ¬ (20 : Int) < (d.size : Int) := by omega
  go_enter Try.func21, Try.ntmps21
  go_wp2
  refine wp_loop_rounds 1 ?_
  rw [rounds_succ]
  go_wp2_with fail
  refine HI.out.mono ?_
  rintro e w1 ⟨rfl, n, rfl⟩
  go_wp2
  refine wp_loop_rounds 1 ?_
  rw [rounds_succ]
  go_wp2
  go_end0
  go_wp2
  go_end0
  exact ⟨rfl, n, rfl⟩

instance (l : List Int) : Decidable (okW l) := by unfold okW; infer_instance
def vOf (l : List Int) : List Int := if 0 < sumN l l.length then l else List.replicate l.length 1
def sOf (l : List Int) : Int := if 0 < sumN l l.length then sumN l l.length else (l.length : Int)
def floorV (total sum : Int) (v : List Int) (i : Nat) : Int := total * rd v (i : Int) / sum
def leftV (total sum : Int) (v : List Int) : Nat → Int
  | 0 => total
  | k + 1 => leftV total sum v k - floorV total sum v k
def floorsV (total sum : Int) (v : List Int) (N k : Nat) : List Int := (List.range N).map fun i => if i < k then floorV total sum v i else 0
def placesV (N k : Nat) : List Int := (List.range N).map fun i => if i < k then (i : Int) else 0
/-- One more for each of these places. -/
def bumpV (p : List Int) : List Nat → List Int
  | [] => p
  | i :: r => bumpV (p.set i (p.getD i 0 + 1)) r
def orderV (m : Nat) (total sum : Int) (v : List Int) : List (Fin (m + 1)) := (Sort.insertionSort (ltOf (cfV m total sum v)) (Array.ofFn fun i : Fin (m + 1) => i) 0 (m + 1)).toList
def dealV (total sum : Int) (v : List Int) (m : Nat) : List Int :=
  bumpV (floorsV total sum v (m + 1) (m + 1)) (((orderV m total sum v).take (leftV total sum v (m + 1)).toNat).map (·.val))
def share_Deal.f (a0 : Int) (l1 : List Int) : Option (List Int × Int) :=
  if okW l1 ∧ 0 ≤ a0 ∧ a0 ≤ 1099511627776 then some (dealV a0 (sOf l1) (vOf l1) (l1.length - 1), 0) else some ([], 1)
/-! plain facts -/
theorem sumN_le {l : List Int} {n : Nat} (h : ∀ i : Nat, i < n → 0 ≤ rd l (i : Int) ∧ rd l (i : Int) ≤ 1048576) : ∀ k, k ≤ n → ∀ i, i < k → rd l (i : Int) ≤ sumN l k := by
  intro k
  induction k with
  | zero => intro _ i hi; omega
  | succ k ih =>
    intro hk i hi
    have h1 := sumN_bd h k (by omega)
    have h2 := h k (by omega)
    simp only [sumN]
    rcases Nat.lt_or_ge i k with h3 | h3
    · have := ih (by omega) i h3; omega
    · obtain rfl : i = k := by omega
      omega
theorem sumN_ones (N : Nat) : ∀ k, k ≤ N → sumN (List.replicate N 1) k = k := by
  intro k
  induction k with
  | zero => intro _; rfl
  | succ k ih =>
    intro hk
    simp only [sumN]
    rw [ih (by omega)]
    have : rd (List.replicate N 1) (k : Int) = 1 := by
      simp [rd, List.getD_eq_getElem?_getD, List.getElem?_replicate, show k < N from by omega]
    rw [this]; omega
theorem rd_ones {N k : Nat} (h : k < N) : rd (List.replicate N 1) (k : Int) = 1 := by simp [rd, List.getD_eq_getElem?_getD, List.getElem?_replicate, h]
/-- The weights that Deal goes by. -/
structure Good (N : Nat) (total sum : Int) (v : List Int) : Prop where
  b : CapsB N total sum v
  e : sumN v N = sum
  n1 : 1 ≤ N
  n2 : N ≤ 16
theorem good_of (l : List Int) (a0 : Int) (h : okW l) (h0 : 0 ≤ a0) (h1 : a0 ≤ 1099511627776) : Good l.length a0 (sOf l) (vOf l) := by
  obtain ⟨g1, g2, g3⟩ := h
  have hb := sumN_bd g3 l.length (Nat.le_refl _)
  unfold sOf vOf
  by_cases hp : 0 < sumN l l.length
  · rw [if_pos hp, if_pos hp]
    exact ⟨⟨h0, h1, by omega, by omega, g3⟩, rfl, g1, g2⟩
  · rw [if_neg hp, if_neg hp]
    exact ⟨⟨h0, h1, by omega, by omega, fun j hj => by rw [rd_ones hj]; omega⟩, sumN_ones _ _ (Nat.le_refl _), g1, g2⟩
theorem Good.le {N : Nat} {total sum : Int} {v : List Int} (h : Good N total sum v) {j : Nat} (hj : j < N) : rd v (j : Int) ≤ sum := by rw [← h.e]; exact sumN_le h.b.x N (Nat.le_refl _) j hj
theorem Good.floor {N : Nat} {total sum : Int} {v : List Int} (h : Good N total sum v) {j : Nat} (hj : j < N) : 0 ≤ floorV total sum v j ∧ floorV total sum v j ≤ total := by
  have h1 := (h.b.x j hj).1
  have h2 := h.le hj
  have h3 := h.b.t0
  have h4 := h.b.s0
  unfold floorV
  refine ⟨Int.ediv_nonneg (Int.mul_nonneg h3 h1) (by omega), ?_⟩
  have : total * rd v (j : Int) ≤ total * sum := Int.mul_le_mul_of_nonneg_left h2 h3
  calc total * rd v (j : Int) / sum ≤ total * sum / sum := Int.ediv_le_ediv (by omega) this
    _ = total := Int.mul_ediv_cancel _ (by omega)
theorem left_eq {N : Nat} {total sum : Int} {v : List Int} (h : Good N total sum v) : ∀ k, k ≤ N → 0 ≤ sum * (leftV total sum v k - total) + total * sumN v k ∧ sum * (leftV total sum v k - total) + total * sumN v k ≤ k * (sum - 1) := by
  intro k
  induction k with
  | zero => intro _; simp [leftV, sumN]
  | succ k ih =>
    intro hk
    have h1 := ih (by omega)
    have h4 := h.b.s0
    have h5 := Int.emod_nonneg (total * rd v (k : Int)) (show sum ≠ 0 by omega)
    have h6 := Int.emod_lt_of_pos (total * rd v (k : Int)) (show 0 < sum by omega)
    have h7 := Int.emod_add_mul_ediv (total * rd v (k : Int)) sum
    have e1 : sum * (leftV total sum v (k + 1) - total) + total * sumN v (k + 1) = (sum * (leftV total sum v k - total) + total * sumN v k) + (total * rd v (k : Int)) % sum := by
      simp only [leftV, sumN, floorV]
      rw [show leftV total sum v k - total * rd v (k : Int) / sum - total = (leftV total sum v k - total) - total * rd v (k : Int) / sum from by omega, Int.mul_sub, Int.mul_add]
      omega
    rw [e1]
    have e2 : ((k + 1 : Nat) : Int) * (sum - 1) = (k : Int) * (sum - 1) + (sum - 1) := by
      rw [show ((k + 1 : Nat) : Int) = (k : Int) + 1 from by omega, Int.add_mul, Int.one_mul]
    rw [e2]
    omega
theorem left_bd {N : Nat} {total sum : Int} {v : List Int} (h : Good N total sum v) : 0 ≤ leftV total sum v N ∧ leftV total sum v N < N := by
  have h1 := left_eq h N (Nat.le_refl _)
  have h4 := h.b.s0
  rw [h.e, Int.mul_sub, Int.mul_comm sum total] at h1
  have h2 : 0 ≤ sum * leftV total sum v N ∧ sum * leftV total sum v N ≤ N * (sum - 1) := by omega
  have hn := h.n1
  refine ⟨?_, ?_⟩
  · rcases Int.lt_or_le (leftV total sum v N) 0 with h3 | h3
    · have := Int.mul_neg_of_pos_of_neg (show 0 < sum by omega) h3; omega
    · exact h3
  · rcases Int.lt_or_le (leftV total sum v N) N with h3 | h3
    · exact h3
    · have h5 : sum * N ≤ sum * leftV total sum v N := Int.mul_le_mul_of_nonneg_left h3 (by omega)
      have h6 : (N : Int) * (sum - 1) = sum * N - N := by rw [Int.mul_sub, Int.mul_one, Int.mul_comm]
      omega
theorem left_mid {N : Nat} {total sum : Int} {v : List Int} (h : Good N total sum v) : ∀ k, k ≤ N → leftV total sum v k ≤ total ∧ total - k * total ≤ leftV total sum v k := by
  intro k
  induction k with
  | zero => intro _; simp [leftV]
  | succ k ih =>
    intro hk
    have h1 := ih (by omega)
    have h2 := h.floor (show k < N by omega)
    simp only [leftV]
    rw [show ((k + 1 : Nat) : Int) = (k : Int) + 1 from by omega, Int.add_mul, Int.one_mul]
    omega

theorem counted_ok (A : Option Addr) (c : Nat) (l : List Int) (w : World) (hr : Kd.C (Kd.int .i64) w A l.length l) (hb : okW l) :
    Calls Try.prog 19 #[.slice A l.length c] w fun e w' => ∃ (ad : Addr) (c' : Nat), e = .returned (.tuple #[.slice (some ad) l.length c', .int .i64 (sOf l), .bool true]) ∧
      Aside0 (Below w.heap.size w w' ∧ (∀ j, j < l.length → w'.cell? (ad.add j) = some (.int .i64 (rd (vOf l) (j : Int)))) ∧ ad.block < w'.heap.size) := by
  by_cases hp : 0 < sumN l l.length
  · obtain ⟨ad, rfl, h0⟩ := Kd.at_int hr 0 (by omega) (by have := hb.1; omega)
    have hlt := World.block_lt_of_cell? w _ h0
    have hbk : (ad.add (0 : Int).toNat).block = ad.block := by unfold Addr.add; split <;> rfl
    refine (counted_good (some ad) c l w hr hb hp).mono ?_
    rintro e w1 ⟨rfl, rfl⟩
    refine ⟨ad, c, by rw [show sOf l = sumN l l.length from by unfold sOf; rw [if_pos hp]], ⟨Below.refl _ _, fun j hj => ?_, by rw [← hbk]; exact hlt⟩⟩
    obtain ⟨ad2, h2, h3⟩ := Kd.at_int hr (j : Int) (by omega) (by omega)
    obtain rfl := Option.some.inj h2
    rw [show vOf l = l from by unfold vOf; rw [if_pos hp]]
    exact h3
  · have hz : sumN l l.length = 0 := by have := (sumN_bd hb.2.2 l.length (Nat.le_refl _)).1; omega
    refine (counted_even A c l w hr hb hz).mono ?_
    rintro e w1 ⟨g, rfl, HG⟩
    refine ⟨⟨g, 0, none⟩, l.length, by rw [show sOf l = (l.length : Int) from by unfold sOf; rw [if_neg hp]], ⟨HG.out.2.2, fun j hj => ?_, lt_of_block HG.out.2.1⟩⟩
    rw [show vOf l = List.replicate l.length 1 from by unfold vOf; rw [if_neg hp], rd_ones hj, add_plain, cell_of_row w1 g j _ 3 (0, 0) HG.out.2.1]
    simp [List.getElem?_replicate, hj]
/-! a row of whole numbers in a block -/
def rowV (L : List Int) : Array Value := (L.map (Value.int .i64)).toArray
theorem rowV_cell {w : World} {g : Nat} {L : List Int} {t : TypeId} (h : w.heap[g]? = some (.cells (rowV L) t (0, 0))) {k : Nat} (hk : k < L.length) : w.cell? ⟨g, k, none⟩ = some (.int .i64 (L.getD k 0)) := by
  rw [cell_of_row w g k _ t (0, 0) h]
  simp [rowV, List.getD_eq_getElem?_getD, List.getElem?_eq_getElem hk]
theorem rowV_free {w : World} {g : Nat} {L : List Int} {t : TypeId} (h : w.heap[g]? = some (.cells (rowV L) t (0, 0))) (k : Nat) : w.frozen? ⟨g, k, none⟩ = false := by simp [World.frozen?, h]
theorem rowV_set {w : World} {g : Nat} {L : List Int} {t : TypeId} (h : w.heap[g]? = some (.cells (rowV L) t (0, 0))) (k : Nat) (x : Int) : (w.setCell ⟨g, k, none⟩ (.int .i64 x)).heap[g]? = some (.cells (rowV (L.set k x)) t (0, 0)) := by
  have hlt := lt_of_block h
  have h' : w.heap[g] = .cells (rowV L) t (0, 0) := by simpa [Array.getElem?_eq_getElem hlt] using h
  show (w.heap.modify g _)[g]? = _
  rw [Array.getElem?_eq_getElem (by simpa using hlt), Array.getElem_modify_self, h']
  simp [rowV, List.map_set]
theorem rowV_made (W : World) (N : Nat) (t : TypeId) : (W.alloc (.cells (madeCells #[Value.int .i64 0] N) t)).heap[W.heap.size]? = some (.cells (rowV (List.replicate N 0)) t (0, 0)) := by
  have : madeCells #[Value.int .i64 0] N = rowV (List.replicate N 0) := by apply Array.toList_inj.1; rw [toList_madeCells_one]; simp [rowV]
  rw [this]; exact heap_alloc_new W _
theorem floors_set (total sum : Int) (v : List Int) (N k : Nat) : (floorsV total sum v N k).set k (floorV total sum v k) = floorsV total sum v N (k + 1) := by
  unfold floorsV
  apply List.ext_getElem?
  intro i
  rw [List.getElem?_set]
  by_cases h : k = i
  · subst h
    by_cases h2 : k < N <;> simp [h2]
  · rw [if_neg h]
    by_cases h2 : i < N
    · simp [h2, show (i < k + 1) = (i < k) from by apply propext; omega]
    · simp [h2]
theorem places_set (N k : Nat) : (placesV N k).set k (k : Int) = placesV N (k + 1) := by
  unfold placesV
  apply List.ext_getElem?
  intro i
  rw [List.getElem?_set]
  by_cases h : k = i
  · subst h
    by_cases h2 : k < N <;> simp [h2]
  · rw [if_neg h]
    by_cases h2 : i < N
    · simp [h2, show (i < k + 1) = (i < k) from by apply propext; omega]
    · simp [h2]
theorem floors_zero (total sum : Int) (v : List Int) (N : Nat) : floorsV total sum v N 0 = List.replicate N 0 := by simp [floorsV, List.map_const']
theorem places_zero (N : Nat) : placesV N 0 = List.replicate N 0 := by simp [placesV, List.map_const']
theorem floors_len (total sum : Int) (v : List Int) (N k : Nat) : (floorsV total sum v N k).length = N := by simp [floorsV]
theorem places_len (N k : Nat) : (placesV N k).length = N := by simp [placesV]
theorem floors_get (total sum : Int) (v : List Int) (N k i : Nat) (h : i < k) (hN : i < N) : (floorsV total sum v N k).getD i 0 = floorV total sum v i := by simp [floorsV, List.getD_eq_getElem?_getD, h, hN]
theorem bump_len (r : List Nat) : ∀ p : List Int, (bumpV p r).length = p.length := by
  induction r with
  | nil => intro p; rfl
  | cons i r ih => intro p; simp [bumpV, ih]
set_option maxHeartbeats 2000000 in
set_option maxRecDepth 100000 in
theorem share_Deal.calls_bad (a0 : Int) (A1 : Option Addr) (c1 : Nat) (l1 : List Int) (w : World) (hr1 : Kd.C (Kd.int .i64) w A1 l1.length l1) (h : ¬ (okW l1 ∧ 0 ≤ a0 ∧ a0 ≤ 1099511627776)) :
    Calls Try.prog 12 #[.int .i64 a0, .slice A1 l1.length c1] w fun e w' => e = .returned (.tuple #[.slice none 0 0, .int .i64 1]) ∧ Below w.heap.size w w' := by
  have HR : Aside0 (Kd.C (Kd.int .i64) (w.alloc (.cells #[.int .i64 a0] 3)) A1 l1.length l1) := ⟨Kd.C_below hr1 ((Below.refl _ _).alloc (Nat.le_refl _) _)⟩
  have H := Aside0.mk h
  clear hr1 h
  by_cases hb : okW l1
  · have HB := Aside0.mk hb
    clear hb
    have HC0 : Aside0 ((w.alloc (.cells #[.int .i64 a0] 3)).cell? ⟨w.heap.size, 0, none⟩ = some (.int .i64 a0)) := ⟨cell_of_one (heap_alloc_new w _)⟩
    by_cases h0 : a0 < 0
    · go_enter Try.func12, Try.ntmps12
      go_wp2_with fail
      refine (counted_ok A1 c1 l1 _ HR.out HB.out).mono ?_
      rintro e w1 ⟨ad, c', rfl, HG⟩
      have hc := (HG.out.1.cell (p := ⟨w.heap.size, 0, none⟩) (by simp)).trans HC0.out
      have hz : w.heap.size < w1.heap.size := by have := HG.out.1.size; simp at this; omega
      have hB : Aside0 (Below w.heap.size w w1) := ⟨((Below.refl _ _).alloc (Nat.le_refl _) _).trans (HG.out.1.mono (by simp))⟩
      go_wp2
      go_ret2
      exact ⟨rfl, (hB.out.alloc hB.out.size _).alloc (by simp; omega) _⟩
    · have h1 : 1099511627776 < a0 := by rcases Int.lt_or_le 1099511627776 a0 with h | h; exact h; exact absurd ⟨HB.out, by omega, h⟩ H.out
      go_enter Try.func12, Try.ntmps12
      go_wp2_with fail
      refine (counted_ok A1 c1 l1 _ HR.out HB.out).mono ?_
      rintro e w1 ⟨ad, c', rfl, HG⟩
      have hc := (HG.out.1.cell (p := ⟨w.heap.size, 0, none⟩) (by simp)).trans HC0.out
      have hz : w.heap.size < w1.heap.size := by have := HG.out.1.size; simp at this; omega
      have hB : Aside0 (Below w.heap.size w w1) := ⟨((Below.refl _ _).alloc (Nat.le_refl _) _).trans (HG.out.1.mono (by simp))⟩
      go_wp2
      go_ret2
      exact ⟨rfl, (hB.out.alloc hB.out.size _).alloc (by simp; omega) _⟩
  · have HB := Aside0.mk hb
    clear hb
    go_enter Try.func12, Try.ntmps12
    go_wp2_with fail
    refine (counted_bad A1 c1 l1 _ HR.out HB.out).mono ?_
    rintro e w1 ⟨rfl, rfl⟩
    go_wp2
    go_ret2
    exact ⟨rfl, (((Below.refl _ _).alloc (Nat.le_refl _) _).alloc (by simp) _).alloc (by simp; omega) _⟩

/-- What stands in memory in Deal's first loop. -/
structure DealS (w0 wr : World) (tb wb sb gp gq N c : Nat) (ad : Addr) (total sum : Int) (v P Q : List Int) : Prop where
  caps : Caps wr tb wb sb N c ad total sum v
  p : wr.heap[gp]? = some (.cells (rowV P) 3 (0, 0))
  q : wr.heap[gq]? = some (.cells (rowV Q) 3 (0, 0))
  below : Below w0.heap.size w0 wr
structure DealN (w0 : World) (tb wb sb gp gq : Nat) (ad : Addr) : Prop where
  p0 : w0.heap.size ≤ gp
  q0 : w0.heap.size ≤ gq
  pq : gp ≠ gq
  pt : tb ≠ gp
  pw : wb ≠ gp
  ps : sb ≠ gp
  pa : ad.block ≠ gp
  qt : tb ≠ gq
  qw : wb ≠ gq
  qs : sb ≠ gq
  qa : ad.block ≠ gq
theorem add_block (ad : Addr) (j : Nat) : (ad.add j).block = ad.block := by unfold Addr.add; split <;> rfl
theorem cell_far {w : World} {a p : Addr} {u x : Value} (h : w.cell? a = some x) (hne : a.block ≠ p.block) : (w.setCell p u).cell? a = some x := by
  rw [World.cell?_of_block (w := w) (Below.heap_setCell _ _ _ _ hne)]; exact h
theorem Caps.far {w : World} {tb wb sb N c : Nat} {ad : Addr} {total sum : Int} {v : List Int} (h : Caps w tb wb sb N c ad total sum v) {p : Addr} (h1 : tb ≠ p.block) (h2 : wb ≠ p.block) (h3 : sb ≠ p.block) (h4 : ad.block ≠ p.block) (u : Value) : Caps (w.setCell p u) tb wb sb N c ad total sum v :=
  ⟨cell_far h.t h1, cell_far h.w h2, cell_far h.s h3, fun j hj => cell_far (h.x j hj) (by rw [add_block]; exact h4)⟩
theorem DealS.setP {w0 wr : World} {tb wb sb gp gq N c : Nat} {ad : Addr} {total sum : Int} {v P Q : List Int} (h : DealS w0 wr tb wb sb gp gq N c ad total sum v P Q) (n : DealN w0 tb wb sb gp gq ad) (k : Nat) (x : Int) :
    DealS w0 (wr.setCell ⟨gp, k, none⟩ (.int .i64 x)) tb wb sb gp gq N c ad total sum v (P.set k x) Q :=
  ⟨h.caps.far n.pt n.pw n.ps n.pa _, rowV_set h.p k x, by rw [Below.heap_setCell _ _ _ _ (fun e => n.pq e.symm)]; exact h.q, h.below.setCell n.p0 _⟩
theorem DealS.setQ {w0 wr : World} {tb wb sb gp gq N c : Nat} {ad : Addr} {total sum : Int} {v P Q : List Int} (h : DealS w0 wr tb wb sb gp gq N c ad total sum v P Q) (n : DealN w0 tb wb sb gp gq ad) (k : Nat) (x : Int) :
    DealS w0 (wr.setCell ⟨gq, k, none⟩ (.int .i64 x)) tb wb sb gp gq N c ad total sum v P (Q.set k x) :=
  ⟨h.caps.far n.qt n.qw n.qs n.qa _, by rw [Below.heap_setCell _ _ _ _ n.pq]; exact h.p, rowV_set h.q k x, h.below.setCell n.q0 _⟩
theorem DealS.drewN {w0 wr : World} {tb wb sb gp gq N c : Nat} {ad : Addr} {total sum : Int} {v P Q : List Int} (h : DealS w0 wr tb wb sb gp gq N c ad total sum v P Q) (n : Nat) : DealS w0 (wr.drewN n) tb wb sb gp gq N c ad total sum v P Q :=
  ⟨⟨h.caps.t, h.caps.w, h.caps.s, h.caps.x⟩, h.p, h.q, pw_below_drewN h.below n⟩
theorem stable_at (w : World) (N m : Nat) (cf : Fin (m + 1) → Fin (m + 1) → Int) (g : Nat) (cb : Array Value) (blk cap : Nat) (d : Array (Fin (m + 1))) (hs : d.size = N) (hN : N ≤ 16)
    (eg : ∀ args w, (callFunc g args).run Try.prog w = .ok (.enter g args) w) (hcmp : CmpReads Try.prog g cb (encF m) cf blk 0 N w) (hH : Go.Sort.Holds (encF m) w blk 0 d) :
    Calls Try.prog 21 #[.slice (some ⟨blk, 0, none⟩) N cap, .func (.func g) #[] cb] w fun e w' =>
      e = .returned (.tuple #[]) ∧ ∃ n, w' = (Go.Sort.putRow (encF m) w blk 0 (Sort.insertionSort (ltOf cf) d 0 N)).drewN n := by
  subst hs
  exact stable_calls w m cf g cb blk cap d hN eg hcmp hH
theorem size_insInner {α : Type} [Inhabited α] (lt : α → α → Bool) (a : Nat) : ∀ j (d : Array α), (Sort.insInner lt a j d).size = d.size
  | 0, d => rfl
  | j + 1, d => by
    simp only [Sort.insInner]
    split
    · rw [size_insInner lt a j]; simp [Sort.swp]
    · rfl
theorem size_insOuter {α : Type} [Inhabited α] (lt : α → α → Bool) (a b : Nat) : ∀ (f i : Nat) (d : Array α), b - i = f → (Sort.insOuter lt a b i d).size = d.size
  | 0, i, d, h => by rw [Sort.insOuter, if_neg (by omega)]
  | f + 1, i, d, h => by rw [Sort.insOuter, if_pos (by omega), size_insOuter lt a b f (i + 1) _ (by omega), size_insInner]
theorem size_insSort {α : Type} [Inhabited α] (lt : α → α → Bool) (d : Array α) (a b : Nat) : (Sort.insertionSort lt d a b).size = d.size := size_insOuter lt a b _ _ d rfl
theorem heap_putRow {α : Type} [Inhabited α] (enc : α → Value) (W : World) (blk off : Nat) (d : Array α) (k : Nat) (h : k ≠ blk) : (Go.Sort.putRow enc W blk off d).heap[k]? = W.heap[k]? := by
  unfold Go.Sort.putRow Go.Sort.mapBlock
  rw [Array.getElem?_modify, if_neg (by omega)]
theorem below_putRow {α : Type} [Inhabited α] {B : Nat} {w W : World} (h : Below B w W) (enc : α → Value) {blk : Nat} (off : Nat) (d : Array α) (hb : B ≤ blk) : Below B w (Go.Sort.putRow enc W blk off d) :=
  h.trans ⟨rfl, rfl, rfl, by rw [Go.Sort.size_putRow]; exact Nat.le_refl _, fun k hk => heap_putRow enc W blk off d k (by omega)⟩
theorem bump_snoc (r : List Nat) (i : Nat) : ∀ p : List Int, bumpV p (r ++ [i]) = (bumpV p r).set i ((bumpV p r).getD i 0 + 1) := by
  induction r with
  | nil => intro p; rfl
  | cons j r ih => intro p; simp only [List.cons_append, bumpV, ih]
theorem getD_set_int (p : List Int) (i j : Nat) (x : Int) : (p.set i x).getD j 0 = if i = j ∧ j < p.length then x else p.getD j 0 := by
  simp only [List.getD_eq_getElem?_getD, List.getElem?_set]
  by_cases h : i = j
  · subst h
    by_cases h2 : i < p.length
    · simp [h2]
    · simp [h2]
  · simp [h]
theorem bump_bd {M : Int} (r : List Nat) : ∀ p : List Int, (∀ i : Nat, 0 ≤ p.getD i 0 ∧ p.getD i 0 ≤ M) → 0 ≤ M → ∀ i : Nat, 0 ≤ (bumpV p r).getD i 0 ∧ (bumpV p r).getD i 0 ≤ M + r.length := by
  intro p h hM
  have key : ∀ n (r : List Nat), r.length = n → ∀ i : Nat, 0 ≤ (bumpV p r).getD i 0 ∧ (bumpV p r).getD i 0 ≤ M + r.length := by
    intro n
    induction n with
    | zero => intro r hr i; obtain rfl := List.eq_nil_of_length_eq_zero hr; have := h i; simp only [bumpV]; simpa using this
    | succ n ih =>
      intro r hr i
      have hne : r ≠ [] := by intro e; simp [e] at hr
      rw [← List.dropLast_concat_getLast hne, bump_snoc, getD_set_int]
      have h1 := ih r.dropLast (by simp [hr])
      have h2 := h1 i
      have h3 := h1 (r.getLast hne)
      have h4 : r.dropLast.length = n := by simp [hr]
      split
      · simp only [List.length_append, List.length_cons, List.length_nil]; omega
      · simp only [List.length_append, List.length_cons, List.length_nil]; omega
  exact key r.length r rfl
set_option maxHeartbeats 4000000 in
set_option maxRecDepth 100000 in
theorem share_Deal.calls_good (a0 : Int) (A1 : Option Addr) (c1 : Nat) (l1 : List Int) (w : World) (hr1 : Kd.C (Kd.int .i64) w A1 l1.length l1) (hok : okW l1) (ha0 : 0 ≤ a0) (ha1 : a0 ≤ 1099511627776) :
    Calls Try.prog 12 #[.int .i64 a0, .slice A1 l1.length c1] w fun e w' => ∃ g : Nat, e = .returned (.tuple #[.slice (some ⟨g, 0, none⟩) l1.length l1.length, .int .i64 0]) ∧ Aside0 (w.heap.size ≤ g ∧
      w'.heap[g]? = some (.cells (rowV (dealV a0 (sOf l1) (vOf l1) (l1.length - 1))) 3 (0, 0)) ∧ Below w.heap.size w w') := by
  have HG := Aside0.mk (good_of l1 a0 hok ha0 ha1)
  have HR : Aside0 (Kd.C (Kd.int .i64) (w.alloc (.cells #[.int .i64 a0] 3)) A1 l1.length l1) := ⟨Kd.C_below hr1 ((Below.refl _ _).alloc (Nat.le_refl _) _)⟩
  have HOK := Aside0.mk hok
  clear hr1 hok
  have HC0 : Aside0 ((w.alloc (.cells #[.int .i64 a0] 3)).cell? ⟨w.heap.size, 0, none⟩ = some (.int .i64 a0)) := ⟨cell_of_one (heap_alloc_new w _)⟩
  obtain ⟨N, hN⟩ : ∃ N, l1.length = N := ⟨_, rfl⟩
  obtain ⟨v, hv⟩ : ∃ v, vOf l1 = v := ⟨_, rfl⟩
  obtain ⟨sum, hs⟩ : ∃ s, sOf l1 = s := ⟨_, rfl⟩
  have hn1 := HG.out.n1; have hn2 := HG.out.n2
  rw [hN] at hn1 hn2
  rw [hv, hs, hN]
  rw [hv, hs, hN] at HG
  have hmk := print_make (P := Try.prog) 22 3 .i64 8 Try.underlying22 info3 (by omega) N (by omega)
  have hmf : ∀ (fn : Fn) (first cap : Array Value) (w : World), (Instr.makeFunc fn first cap).run Try.prog w = .ok (.func fn first cap) w := fun _ _ _ _ => rfl
  have hnb1 : (1 : Int) ≤ (N : Int) := by omega
  have hnb2 : (N : Int) ≤ 16 := by omega
  have HNV := Aside0.mk (And.intro hN (And.intro hv hs))
  have h0 : ¬ a0 < 0 := by omega
  have h1 : ¬ 1099511627776 < a0 := by omega
  have HCK : Aside0 (Calls Try.prog 19 #[.slice A1 N c1] (w.alloc (.cells #[.int .i64 a0] 3)) fun e w' => ∃ (ad : Addr) (c' : Nat), e = .returned (.tuple #[.slice (some ad) N c', .int .i64 sum, .bool true]) ∧
      Aside0 (Below (w.alloc (.cells #[.int .i64 a0] 3)).heap.size (w.alloc (.cells #[.int .i64 a0] 3)) w' ∧ (∀ j, j < N → w'.cell? (ad.add j) = some (.int .i64 (rd v (j : Int)))) ∧ ad.block < w'.heap.size)) := ⟨by
    have := counted_ok A1 c1 l1 _ HR.out HOK.out
    rw [hN, hv, hs] at this
    exact this⟩
  clear hN hv hs HR HOK
  go_enter Try.func12, Try.ntmps12
  go_wp2_with fail
  refine HCK.out.mono ?_
  rintro e w1 ⟨ad, c', rfl, HW⟩
  have hc := (HW.out.1.cell (p := ⟨w.heap.size, 0, none⟩) (by simp)).trans HC0.out
  have hz : w.heap.size < w1.heap.size := by have := HW.out.1.size; simp at this; omega
  have hz1 : w.heap.size < w1.heap.size + 1 := by omega
  have hz2 : w.heap.size < w1.heap.size + 1 + 1 := by omega
  have hz3 : w.heap.size < w1.heap.size + 1 + 1 + 1 := by omega
  have hB : Aside0 (Below w.heap.size w w1) := ⟨((Below.refl _ _).alloc (Nat.le_refl _) _).trans (HW.out.1.mono (by simp))⟩
  go_wp2_with fail
  have b0 := HG.out.b.t0; have b1 := HG.out.b.t1; have b2 := HG.out.b.s0; have b3 := HG.out.b.s1
  have hs0 : ¬ sum = 0 := by omega
  obtain ⟨W0, hW0⟩ : ∃ W0 : World, W0 = ((((w1.alloc (.cells #[.slice (some ad) N c'] 22)).alloc (.cells #[.int .i64 sum] 3)).alloc (.cells (madeCells #[Value.int .i64 0] N) 3)).alloc (.cells (madeCells #[Value.int .i64 0] N) 3)) := ⟨_, rfl⟩
  have HS0 : Aside0 (DealS w W0 w.heap.size w1.heap.size (w1.heap.size + 1) (w1.heap.size + 1 + 1) (w1.heap.size + 1 + 1 + 1) N c' ad a0 sum v (floorsV a0 sum v N 0) (placesV N 0)) := by
    rw [hW0]
    have e1 : ∀ (o1 o2 o3 o4 : Obj) (p : Addr), p.block < w1.heap.size → ((((w1.alloc o1).alloc o2).alloc o3).alloc o4).cell? p = w1.cell? p := fun o1 o2 o3 o4 p hp => World.cell?_of_block (by rw [Below.heap_alloc _ _ _ (by simp <;> omega), Below.heap_alloc _ _ _ (by simp <;> omega), Below.heap_alloc _ _ _ (by simp <;> omega), Below.heap_alloc _ _ _ hp])
    refine ⟨⟨⟨?_, ?_, ?_, ?_⟩, ?_, ?_, ?_⟩⟩
    · rw [e1 _ _ _ _ _ hz]; exact hc
    · exact cell_of_one (by rw [Below.heap_alloc _ _ _ (by simp <;> omega), Below.heap_alloc _ _ _ (by simp <;> omega), Below.heap_alloc _ _ _ (by simp)]; exact heap_alloc_new w1 _)
    · refine cell_of_one (t := 3) ?_
      rw [Below.heap_alloc _ _ _ (by simp <;> omega), Below.heap_alloc _ _ _ (by simp)]
      have := heap_alloc_new (w1.alloc (.cells #[.slice (some ad) N c'] 22)) (.cells #[.int .i64 sum] 3)
      simpa using this
    · intro j hj
      rw [e1 _ _ _ _ _ (by rw [add_block]; exact HW.out.2.2)]; exact HW.out.2.1 j hj
    · rw [floors_zero, Below.heap_alloc _ _ _ (by simp)]
      have := rowV_made ((w1.alloc (.cells #[.slice (some ad) N c'] 22)).alloc (.cells #[.int .i64 sum] 3)) N 3
      simpa using this
    · rw [places_zero]
      have := rowV_made (((w1.alloc (.cells #[.slice (some ad) N c'] 22)).alloc (.cells #[.int .i64 sum] 3)).alloc (.cells (madeCells #[Value.int .i64 0] N) 3)) N 3
      simpa using this
    · exact (((hB.out.alloc hB.out.size _).alloc (by simp <;> omega) _).alloc (by simp <;> omega) _).alloc (by simp <;> omega) _
  have HDN : Aside0 (DealN w w.heap.size w1.heap.size (w1.heap.size + 1) (w1.heap.size + 1 + 1) (w1.heap.size + 1 + 1 + 1) ad) := by
    have := HW.out.2.2
    refine ⟨⟨?_, ?_, ?_, ?_, ?_, ?_, ?_, ?_, ?_, ?_, ?_⟩⟩ <;> omega
  rw [← hW0]
  clear hW0 hc
  obtain ⟨wb, hwb⟩ : ∃ x, x = w1.heap.size := ⟨_, rfl⟩
  obtain ⟨sb, hsb⟩ : ∃ x, x = w1.heap.size + 1 := ⟨_, rfl⟩
  obtain ⟨gp, hgp⟩ : ∃ x, x = w1.heap.size + 1 + 1 := ⟨_, rfl⟩
  obtain ⟨gq, hgq⟩ : ∃ x, x = w1.heap.size + 1 + 1 + 1 := ⟨_, rfl⟩
  obtain ⟨tb, htb⟩ : ∃ x, x = w.heap.size := ⟨_, rfl⟩
  rw [← hgq, ← hgp, ← hsb, ← hwb, ← htb] at HS0 HDN
  rw [← hgq, ← hgp, ← hsb, ← hwb, ← htb]
  clear hgq hgp hsb hwb htb hz hz1 hz2 hz3 HW HC0 HCK
  have HLE := Aside0.mk (left_mid HG.out)
  go_wp2_with fail
  go_loopw [11, 41] (fun lf i wr => ∃ k : Nat, i = .int .i64 (k : Int) ∧ k ≤ N ∧ lf = .int .i64 (leftV a0 sum v k) ∧ Aside0 (DealS w wr tb wb sb gp gq N c' ad a0 sum v (floorsV a0 sum v N k) (placesV N k))) (fun _ i _ => N - (intOf i).toNat)
  case atStart => exact ⟨0, rfl, Nat.zero_le _, rfl, HS0⟩
  case round =>
    obtain ⟨k, rfl, hk, rfl, HS⟩ := hrel
    by_cases hlt : k < N
    · have c1 := HS.out.caps.t; have c2 := HS.out.caps.w; have c3 := HS.out.caps.s; have c4 := HS.out.caps.x k hlt
      have fl := HG.out.floor hlt
      have lm := HLE.out k hk
      have x0 := (HG.out.b.x k hlt).1; have x1 := (HG.out.b.x k hlt).2
      obtain ⟨p0, p1⟩ := prod_bd b0 b1 x0 x1
      have cp := rowV_cell HS.out.p (k := k) (by rw [floors_len]; exact hlt)
      have fp := rowV_free HS.out.p k
      have cq := rowV_cell HS.out.q (k := k) (by rw [places_len]; exact hlt)
      have fq := rowV_free HS.out.q k
      have hkk : (k : Int) * a0 ≤ 16 * a0 := Int.mul_le_mul_of_nonneg_right (by omega) b0
      obtain ⟨L, hL⟩ : ∃ L, leftV a0 sum v k = L := ⟨_, rfl⟩
      rw [hL] at lm ⊢
      have lm1 : L ≤ 1099511627776 := by omega
      have lm2 : -17592186044416 ≤ L := by omega
      have HLL := Aside0.mk hL
      obtain ⟨F, hF⟩ : ∃ F, floorV a0 sum v k = F := ⟨_, rfl⟩
      rw [hF] at fl
      have fl0 := fl.1
      have fl1 : F ≤ 1099511627776 := by omega
      have HFF := Aside0.mk hF
      have HFX : Aside0 (a0 * rd v (k : Int) / sum = F) := ⟨hF⟩
      clear lm fl hL hF hkk
      obtain ⟨x, hx⟩ : ∃ x, rd v (k : Int) = x := ⟨_, rfl⟩
      rw [hx] at c4 x0 x1 p0 p1 HFX
      have HX := Aside0.mk hx
      clear hx
      obtain ⟨y, hy⟩ : ∃ y, (floorsV a0 sum v N k).getD k 0 = y := ⟨_, rfl⟩
      rw [hy] at cp
      clear hy
      obtain ⟨z, hz⟩ : ∃ z, (placesV N k).getD k 0 = z := ⟨_, rfl⟩
      rw [hz] at cq
      clear hz
      have p2 : a0 * x ≤ 1152921504606846976 := by omega
      have i0 : (0 : Int) ≤ (k : Int) := by omega
      have i1 : (k : Int) < (N : Int) := by omega
      clear p1
      go_wp2_with fail
      go_region
      have hpq : gp ≠ gq := HDN.out.pq
      obtain ⟨wx, hwx⟩ : ∃ wx, wx = (wr.setCell ⟨gp, k, none⟩ (.int .i64 (a0 * x / sum))).drew := ⟨_, rfl⟩
      have HX1 : Aside0 (DealS w wx tb wb sb gp gq N c' ad a0 sum v (floorsV a0 sum v N (k + 1)) (placesV N k)) := ⟨by
        rw [hwx, HFX.out, ← floors_set, HFF.out]
        exact (HS.out.setP HDN.out k F).drewN 1⟩
      rw [← hwx]
      clear hwx cp fp cq fq c4 p0 p2 HS
      have cpx := rowV_cell HX1.out.p (k := k) (by rw [floors_len]; exact hlt)
      rw [floors_get _ _ _ _ _ _ (by omega) hlt, HFF.out] at cpx
      have cqx := rowV_cell HX1.out.q (k := k) (by rw [places_len]; exact hlt)
      have fqx := rowV_free HX1.out.q k
      obtain ⟨z2, hz2⟩ : ∃ z, (placesV N k).getD k 0 = z := ⟨_, rfl⟩
      rw [hz2] at cqx
      clear hz2
      go_wp2
      go_roundw
      case rel => exact ⟨k + 1, by go_num, by omega, by simp only [leftV]; rw [HLL.out, HFF.out], ⟨by rw [← places_set]; exact HX1.out.setQ HDN.out k (k : Int)⟩⟩
      case measure => simp [intOf]; omega
    · have hkN : k = N := by omega
      have HKN := Aside0.mk hkN
      have lb := left_bd HG.out
      rw [← hkN] at lb
      clear hkN
      obtain ⟨L, hL⟩ : ∃ L, leftV a0 sum v k = L := ⟨_, rfl⟩
      rw [hL] at lb ⊢
      have lb0 := lb.1
      have lb1 : L < (N : Int) := by have := lb.2; omega
      have HL := Aside0.mk hL
      clear hL lb
      obtain ⟨m, hm⟩ : ∃ m, N = m + 1 := ⟨N - 1, by omega⟩
      have HM := Aside0.mk hm
      clear hm
      have HSS : Aside0 (DealS w wr tb wb sb gp gq (m + 1) c' ad a0 sum v (floorsV a0 sum v (m + 1) (m + 1)) (placesV (m + 1) (m + 1))) := ⟨by have := HS.out; rwa [HKN.out, HM.out] at this⟩
      have HHS : Aside0 (Go.Sort.Holds (encF m) wr gq 0 (Array.ofFn fun i : Fin (m + 1) => i)) := ⟨fun j hj => by
        have hj' : j < m + 1 := by simpa using hj
        refine ⟨?_, by rw [Nat.zero_add]; exact rowV_free HSS.out.q j⟩
        rw [Nat.zero_add, rowV_cell HSS.out.q (k := j) (by rw [places_len]; exact hj')]
        simp [placesV, List.getD_eq_getElem?_getD, hj', encF]⟩
      have HSTB : Aside0 (∀ cf g, cf = wr.heap.size → g = 20 → Calls Try.prog 21 #[.slice (some ⟨gq, 0, none⟩) N N, .func (.func 22) #[] #[.pointer (some ⟨cf, 0, none⟩)]]
          (wr.alloc (.cells #[.func (.func g) #[] #[.pointer (some ⟨tb, 0, none⟩), .pointer (some ⟨wb, 0, none⟩), .pointer (some ⟨sb, 0, none⟩)]] 54)) fun e w' => e = .returned (.tuple #[]) ∧
          Aside0 (Below w.heap.size w w' ∧ w'.heap[gp]? = some (.cells (rowV (floorsV a0 sum v (m + 1) (m + 1))) 3 (0, 0)) ∧ ∀ j, j < N → w'.cell? ⟨gq, j, none⟩ = some (.int .i64 (((orderV m a0 sum v).map fun x => (x.val : Int)).getD j 0)))) := ⟨by
        rintro _ _ rfl rfl
        have hblk : gq < wr.heap.size := lt_of_block HSS.out.q
        have hblp : gp < wr.heap.size := lt_of_block HSS.out.p
        have ho : ∀ a u, wr.cell? a = some u → (wr.alloc (.cells #[.func (.func 20) #[] #[.pointer (some ⟨tb, 0, none⟩), .pointer (some ⟨wb, 0, none⟩), .pointer (some ⟨sb, 0, none⟩)]] 54)).cell? a = some u := fun a u h => (World.cell?_of_block (Below.heap_alloc _ _ _ (World.block_lt_of_cell? wr a h))).trans h
        have hcr := cmp_reads (wr.alloc (.cells #[.func (.func 20) #[] #[.pointer (some ⟨tb, 0, none⟩), .pointer (some ⟨wb, 0, none⟩), .pointer (some ⟨sb, 0, none⟩)]] 54)) m wr.heap.size tb wb sb c' gq 0 ad a0 sum v
          ⟨ho _ _ HSS.out.caps.t, ho _ _ HSS.out.caps.w, ho _ _ HSS.out.caps.s, fun j hj => ho _ _ (HSS.out.caps.x j hj)⟩ (by have := HG.out.b; rwa [HM.out] at this) (by have := HM.out; omega) (cell_of_one (heap_alloc_new wr _))
          HDN.out.qt HDN.out.qw HDN.out.qs (by omega) HDN.out.qa
        have hst := stable_at (wr.alloc (.cells #[.func (.func 20) #[] #[.pointer (some ⟨tb, 0, none⟩), .pointer (some ⟨wb, 0, none⟩), .pointer (some ⟨sb, 0, none⟩)]] 54)) N m (cfV m a0 sum v) 22 #[.pointer (some ⟨wr.heap.size, 0, none⟩)] gq N (Array.ofFn fun i : Fin (m + 1) => i) (by simp [HM.out]) hn2
          (enters_of Try.func22 (by kernel_rfl) rfl) (by rw [HM.out]; exact hcr) (fun j hj => ⟨ho _ _ (HHS.out j hj).1, by
            rw [World.frozen?_of_block (w := wr) (Below.heap_alloc _ _ _ hblk)]; exact (HHS.out j hj).2⟩)
        refine hst.mono ?_
        rintro e w' ⟨rfl, n, rfl⟩
        refine ⟨rfl, ⟨?_, ?_, ?_⟩⟩
        · exact pw_below_drewN (below_putRow (HSS.out.below.alloc HSS.out.below.size _) _ _ _ HDN.out.q0) _
        · show (Go.Sort.putRow (encF m) _ gq 0 _).heap[gp]? = _
          rw [heap_putRow _ _ _ _ _ _ HDN.out.pq, Below.heap_alloc _ _ _ hblp]; exact HSS.out.p
        · intro j hj
          have hj' : j < m + 1 := by have := HM.out; omega
          have h1 := Go.Sort.cell?_putRow (encF m) (wr.alloc (.cells #[.func (.func 20) #[] #[.pointer (some ⟨tb, 0, none⟩), .pointer (some ⟨wb, 0, none⟩), .pointer (some ⟨sb, 0, none⟩)]] 54)) gq 0 (Array.ofFn fun i : Fin (m + 1) => i)
            (Sort.insertionSort (ltOf (cfV m a0 sum v)) (Array.ofFn fun i : Fin (m + 1) => i) 0 N) (fun j hj => ⟨ho _ _ (HHS.out j hj).1, by
            rw [World.frozen?_of_block (w := wr) (Below.heap_alloc _ _ _ hblk)]; exact (HHS.out j hj).2⟩) (size_insSort _ _ _ _) j (by rw [size_insSort]; simpa using hj')
          rw [Nat.zero_add] at h1
          rw [World.cell?_drewN, h1]
          have hsz : j < (Sort.insertionSort (ltOf (cfV m a0 sum v)) (Array.ofFn fun i : Fin (m + 1) => i) 0 (m + 1)).size := by rw [size_insSort]; simpa using hj'
          simp only [orderV, encF, HM.out, List.getD_eq_getElem?_getD, List.getElem?_map, Array.getElem?_toList, Array.getElem?_eq_getElem hsz, Option.map_some, Option.getD_some]
          rw [getElem!_pos (Sort.insertionSort (ltOf (cfV m a0 sum v)) (Array.ofFn fun i : Fin (m + 1) => i) 0 (m + 1)) j hsz]⟩
      go_wp2_with fail
      refine (HSTB.out _ _ rfl rfl).mono ?_
      rintro e w3 ⟨rfl, H3⟩
      have HNZ : Aside0 (m + 1 = N) := ⟨HM.out.symm⟩
      obtain ⟨idx, hidx⟩ : ∃ l : List Nat, l = (orderV m a0 sum v).map (·.val) := ⟨_, rfl⟩
      have HIDX := Aside0.mk hidx
      have hilen : Aside0 (idx.length = N) := ⟨by rw [hidx]; simp [orderV, size_insSort, HM.out]⟩
      have hilt : Aside0 (∀ j, j < N → idx.getD j 0 < N) := ⟨fun j hj => by
        have h1 : j < (orderV m a0 sum v).length := by simp [orderV, size_insSort]; have := HM.out; omega
        rw [hidx, List.getD_eq_getElem?_getD, List.getElem?_map, List.getElem?_eq_getElem h1]
        have := ((orderV m a0 sum v)[j]).isLt
        simp only [Option.map_some, Option.getD_some]; have := HM.out; omega⟩
      have HQ : Aside0 (∀ j, j < N → w3.cell? ⟨gq, j, none⟩ = some (.int .i64 ((idx.getD j 0 : Nat) : Int))) := ⟨fun j hj => by
        rw [H3.out.2.2 j hj, hidx]
        simp only [List.getD_eq_getElem?_getD, List.getElem?_map]
        cases (orderV m a0 sum v)[j]? <;> rfl⟩
      have HP : Aside0 (w3.heap[gp]? = some (.cells (rowV (bumpV (floorsV a0 sum v (m + 1) (m + 1)) (idx.take 0))) 3 (0, 0))) := ⟨H3.out.2.1⟩
      have HBW : Aside0 (Below w.heap.size w w3) := ⟨H3.out.1⟩
      have HFB : Aside0 (∀ i : Nat, 0 ≤ (floorsV a0 sum v (m + 1) (m + 1)).getD i 0 ∧ (floorsV a0 sum v (m + 1) (m + 1)).getD i 0 ≤ a0) := ⟨fun i => by
        rcases Nat.lt_or_ge i (m + 1) with h | h
        · rw [floors_get _ _ _ _ _ _ h h]; exact HG.out.floor (by have := HM.out; omega)
        · rw [List.getD_eq_getElem?_getD, List.getElem?_eq_none (by rw [floors_len]; exact h)]; simpa using b0⟩
      clear hidx H3
      obtain ⟨fl, hfl⟩ : ∃ l, floorsV a0 sum v (m + 1) (m + 1) = l := ⟨_, rfl⟩
      have hflen : Aside0 (fl.length = N) := ⟨by rw [← hfl, floors_len, HM.out]⟩
      have HFL := Aside0.mk hfl
      rw [hfl] at HP HFB
      clear hfl
      have hdec : Aside0 (dealV a0 sum v (N - 1) = bumpV fl (idx.take L.toNat)) := ⟨by
        have e : N - 1 = m := by have := HM.out; omega
        have e2 : leftV a0 sum v (m + 1) = L := by rw [← HM.out, ← HKN.out]; exact HL.out
        rw [e]; unfold dealV
        rw [e2, HFL.out, HIDX.out, List.map_take]⟩
      have HPQ : Aside0 (gp ≠ gq ∧ w.heap.size ≤ gp) := ⟨HDN.out.pq, HDN.out.p0⟩
      clear HFL HIDX HSTB HHS HSS HS HL HDN HKN HS0 HLE HG HNV
      go_wp2_with fail
      go_loopw [74] (fun i wr => ∃ k : Nat, i = .int .i64 (k : Int) ∧ (k : Int) ≤ L ∧ Aside0 (Below w.heap.size w wr ∧ wr.heap[gp]? = some (.cells (rowV (bumpV fl (idx.take k))) 3 (0, 0)) ∧ ∀ j, j < N → wr.cell? ⟨gq, j, none⟩ = some (.int .i64 ((idx.getD j 0 : Nat) : Int)))) (fun i _ => L.toNat - (intOf i).toNat)
      case atStart => exact ⟨0, rfl, lb0, ⟨HBW.out, HP.out, HQ.out⟩⟩
      case round =>
        obtain ⟨q, rfl, hq, HW⟩ := hrel
        by_cases hlt2 : (q : Int) < L
        · have hqN : q < N := by omega
          have cq := HW.out.2.2 q hqN
          have iq := hilt.out q hqN
          have hbd := bump_bd (idx.take q) fl HFB.out b0 (idx.getD q 0)
          have hql : (idx.take q).length ≤ 16 := by simp; omega
          obtain ⟨i, hi⟩ : ∃ i, idx.getD q 0 = i := ⟨_, rfl⟩
          rw [hi] at cq iq hbd
          have cp := rowV_cell HW.out.2.1 (k := i) (by rw [bump_len, hflen.out]; exact iq)
          have fp := rowV_free HW.out.2.1 i
          have HI := Aside0.mk hi
          clear hi
          obtain ⟨y, hy⟩ : ∃ y, (bumpV fl (idx.take q)).getD i 0 = y := ⟨_, rfl⟩
          rw [hy] at cp hbd
          have y0 := hbd.1
          have y1 : y ≤ 1099511627792 := by omega
          have HY := Aside0.mk hy
          clear hy hbd hql
          have i0 : (0 : Int) ≤ (q : Int) := by omega
          have i1 : (i : Int) < (N : Int) := by omega
          have i2 : (0 : Int) ≤ (i : Int) := by omega
          go_wp2
          go_roundw
          case measure => simp [intOf]; omega
          case rel =>
            refine ⟨q + 1, by go_num, by omega, ⟨HW.out.1.setCell HPQ.out.2 _, ?_, fun j hj => cell_far (HW.out.2.2 j hj) (fun e => HPQ.out.1 e.symm)⟩⟩
            have e1 : idx.take (q + 1) = idx.take q ++ [i] := by
              rw [List.take_succ_eq_append_getElem (by rw [hilen.out]; exact hqN)]
              congr 2
              rw [← HI.out, List.getD_eq_getElem?_getD, List.getElem?_eq_getElem (by rw [hilen.out]; exact hqN)]; rfl
            rw [e1, bump_snoc, HY.out]
            exact rowV_set HW.out.2.1 i (y + 1)
        · have hqL : L.toNat = q := by omega
          have HQL := Aside0.mk hqL
          clear hqL
          go_wp2
          go_ret2
          exact ⟨gp, rfl, ⟨HPQ.out.2, by rw [hdec.out, HQL.out]; exact HW.out.2.1, HW.out.1⟩⟩

theorem rowV_own {w : World} {base g : Nat} {L : List Int} {ok : Nat → Prop} (h : w.heap[g]? = some (.cells (rowV L) 3 (0, 0))) (hb : base ≤ g) (hl : L.length ≤ 9223372036854775807) (hok : ok g) : Kd.R (Kd.int .i64) 3 w base ok (.slice (some ⟨g, 0, none⟩) L.length L.length) L := by
  refine Kd.R_of_own (enc := Value.int .i64) (h1 := fun _ => rfl) ⟨by simp [encs], .inr ⟨g, L.length, rowV L, rfl, hb, h, Nat.le_refl _, by simpa [maxLen] using hl, by simp [rowV], ?_⟩⟩ ?_
  · simp only [rowV, encs, Nat.mul_one]; exact List.take_of_length_le (by simp)
  · intro k hk
    have : g = k := by simpa [Value.ownBlock] using hk
    subst this; exact hok
theorem deal_len (total sum : Int) (v : List Int) (m : Nat) : (dealV total sum v m).length = m + 1 := by unfold dealV; rw [bump_len, floors_len]
theorem share_Deal.calls (a0 : Int) (A1 : Option Addr) (c1 : Nat) (l1 : List Int) (r1 : List Int) (r2 : Int) (w : World) (hr1 : Kd.C (Kd.int .i64) w A1 l1.length l1) (hc1 : l1.length ≤ c1) (h : share_Deal.f a0 l1 = some (r1, r2)) :
    Calls Try.prog 12 #[.int .i64 a0, .slice A1 l1.length c1] w fun e w' => ∃ v0_ : Value, e = .returned (.tuple #[v0_, .int .i64 r2]) ∧ Kd.R (Kd.int .i64) 3 w' w.heap.size (fun _ => True) v0_ r1 ∧ Below w.heap.size w w' := by
  unfold share_Deal.f at h
  by_cases hg : okW l1 ∧ 0 ≤ a0 ∧ a0 ≤ 1099511627776
  · rw [if_pos hg] at h
    obtain ⟨rfl, rfl⟩ := Prod.mk.inj (Option.some.inj h)
    refine (share_Deal.calls_good a0 A1 c1 l1 w hr1 hg.1 hg.2.1 hg.2.2).mono ?_
    rintro e w' ⟨g, rfl, H⟩
    refine ⟨_, rfl, ?_, H.out.2.2⟩
    have e1 : l1.length = (dealV a0 (sOf l1) (vOf l1) (l1.length - 1)).length := by rw [deal_len]; have := hg.1.1; omega
    have h3 := rowV_own (ok := fun _ => True) H.out.2.1 H.out.1 (by rw [← e1]; have := hg.1.2.1; omega) trivial
    rw [← e1] at h3
    exact h3
  · rw [if_neg hg] at h
    obtain ⟨rfl, rfl⟩ := Prod.mk.inj (Option.some.inj h)
    refine (share_Deal.calls_bad a0 A1 c1 l1 w hr1 hg).mono ?_
    rintro e w' ⟨rfl, hb⟩
    exact ⟨_, rfl, Kd.R_nil _ _ _ _ _, hb⟩


end Go.Proofs.Ytnkkkbmkbmjghaa.P
