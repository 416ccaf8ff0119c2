/- texts that the proof needs, laid together by a program of this session. -/
import Derived.Test.YtpgdmmjbhjbbhaaKWireDecodes12
section
namespace Go.Proofs.Ytpgdmmjbhjbbhaa.Rf
open Go Go.RowKit Go.Proofs.Ytpgdmmjbhjbbhaa.P Go.Proofs.Ytpgdmmjbhjbbhaa.Sp Go.Proofs.Ytpgdmmjbhjbbhaa.Vd Go.Proofs.Ytpgdmmjbhjbbhaa.En Go.Proofs.Ytpgdmmjbhjbbhaa.Wr Go.Proofs.Ytpgdmmjbhjbbhaa.Rd Go.Proofs.Ytpgdmmjbhjbbhaa.Lw Go.Proofs.YtpgdmmjbhjbbhaaW.PrintWords Go.Proofs.YtpgdmmjbhjbbhaaW.PrintLast Go.Proofs.YtpgdmmjbhjbbhaaW.PrintMore
set_option linter.unusedVariables false
set_option linter.unusedSimpArgs false
/-- The reader's state: where it reads on, or how much was left where it went wrong. -/
def St (b : List Int) (s : R Unit) (at_ : Int) (wr : Bool) : Prop := match s with
  | .ok _ l => wr = false ∧ (∃ pre, b = pre ++ l) ∧ at_ = pl b l
  | .bad n => wr = true ∧ at_ = (b.length : Int) - n ∧ n ≤ b.length
/-- What a step answers: what p reads; once wrong, still wrong. -/
def Post {α : Type} (p : Rdr α) (s : R Unit) (x : α) (s' : R Unit) : Prop := match s with
  | .bad n => s' = .bad n
  | .ok _ l => match p l with
    | .bad n => s' = .bad n
    | .ok y r => x = y ∧ s' = .ok () r
theorem Post.bnd {α β : Type} {p : Rdr α} {f : α → Rdr β} {s s1 s2 : R Unit} {x : α} {y : β} (h1 : Post p s x s1) (h2 : Post (f x) s1 y s2) : Post (Sp.bnd p f) s y s2 := by
  cases s with
  | bad n =>
    simp only [Post] at h1
    subst h1
    exact h2
  | ok u l =>
    simp only [Post] at h1 ⊢
    cases hp : p l with
    | bad n =>
      rw [hp] at h1
      simp only at h1
      subst h1
      simp only [Post] at h2
      rw [bnd_bad hp]
      exact h2
    | ok z r =>
      rw [hp] at h1
      simp only at h1
      obtain ⟨rfl, rfl⟩ := h1
      simp only [Post] at h2
      rw [bnd_ok hp]
      exact h2
theorem Post.ret {α : Type} (x : α) (s : R Unit) : Post (Sp.ret x) s x s := by
  cases s with
  | bad n => rfl
  | ok u l => exact ⟨rfl, rfl⟩
theorem rd_drop {b l : List Int} (h : ∃ pre, b = pre ++ l) (j : Nat) (hj : j < l.length) : rd b (pl b l + (j : Int)) = l.getD j 0 := by
  obtain ⟨pre, rfl⟩ := h
  have : (pl (pre ++ l) l + (j : Int)).toNat = pre.length + j := by unfold pl; simp; omega
  unfold rd
  rw [this]
  simp [List.getD_eq_getElem?_getD, List.getElem?_append_right]
theorem pl_le {b l : List Int} (h : ∃ pre, b = pre ++ l) : 0 ≤ pl b l ∧ pl b l + l.length = b.length := by
  obtain ⟨pre, rfl⟩ := h
  unfold pl
  simp
theorem wrap_n (n : Int) (h0 : -9223372036854775808 ≤ n) (h1 : n ≤ 9223372036854775807) : wrap64 n = n := IntWalk.wrap64_in _ ⟨h0, h1⟩
def isCut : NR → Bool
  | .cut => true
  | _ => false
def cutN (n j : Nat) (l : List Int) : Bool := match n with
  | 0 => false
  | _ + 1 => isCut (numGo j l)
theorem cut_l (b l : List Int) (h : ∃ pre, b = pre ++ l) (hb : b.length ≤ 9223372036854775807) (hB : IsB l) (wr : Bool) : ∀ (n j : Nat) (l2 : List Int), j + n = 10 → l2 = l.drop j → j ≤ l.length → ∀ k, n + 1 ≤ k →
    sluiceref2_reader_cut.l0 k (j : Int) b (pl b l) wr = some (cutN n j l2, pl b l, wr) := by
  intro n
  induction n with
  | zero =>
    intro j l2 hj h2 hjl k hk
    obtain ⟨k, rfl⟩ : ∃ i, k = i + 1 := ⟨k - 1, by omega⟩
    rw [sluiceref2_reader_cut.l0, if_neg (by omega)]
    rfl
  | succ n ih =>
    intro j l2 hj h2 hjl k hk
    obtain ⟨k, rfl⟩ : ∃ i, k = i + 1 := ⟨k - 1, by omega⟩
    have hp := pl_le h
    rw [sluiceref2_reader_cut.l0, if_pos (by omega), wrap_n _ (by omega) (by omega)]
    show _ = some (isCut (numGo j l2), pl b l, wr)
    by_cases hl : j < l.length
    · have h3 : l.drop j = l[j] :: l.drop (j + 1) := List.drop_eq_getElem_cons hl
      have h4 := rd_drop h j hl
      have h5 : l.getD j 0 = l[j] := by simp [List.getD_eq_getElem?_getD, List.getElem?_eq_getElem hl]
      have hc := hB l[j] (List.getElem_mem hl)
      rw [if_neg (by omega), if_pos (by omega), if_pos (by omega), h4, h5, h2, h3, numGo]
      by_cases hlt : l[j] < 128
      · rw [if_pos hlt, if_pos hlt]
        split <;> rfl
      · rw [if_neg hlt, if_neg hlt, wrap_s (by omega), ih (j + 1) _ (by omega) rfl (by omega) k (by omega)]
        cases n with
        | zero => rw [if_pos (by omega)]; rfl
        | succ n =>
          rw [if_neg (by omega)]
          show some (isCut (numGo (j + 1) (l.drop (j + 1))), _, _) = _
          cases numGo (j + 1) (l.drop (j + 1)) <;> rfl
    · rw [if_pos (by omega), h2, List.drop_of_length_le (by omega)]
      rfl
theorem cut_f (b l : List Int) (h : ∃ pre, b = pre ++ l) (hb : b.length ≤ 9223372036854775807) (hB : IsB l) (wr : Bool) (k : Nat) (hk : 11 ≤ k) : sluiceref2_reader_cut.f k b (pl b l) wr = some (isCut (numGo 0 l), pl b l, wr) :=
  cut_l b l h hb hB wr 10 0 l rfl rfl (Nat.zero_le _) k hk
theorem u_in {n : Int} (h0 : 0 ≤ n) (h1 : n < 18446744073709551616) : IntKind.u64.wrap n = n := by simp [IntKind.wrap, IntKind.bits, IntKind.signed]; omega
/-- What raw answers of a number that is not cut. -/
theorem raw_l (b l : List Int) (h : ∃ pre, b = pre ++ l) (hb : b.length ≤ 9223372036854775807) (hB : IsB l) (wr : Bool) : ∀ (n j : Nat) (acc : Int) (P : Nat) (l2 : List Int), j + n = 9 → P = 128 ^ j → l2 = l.drop j → j ≤ l.length → 0 ≤ acc → acc < (P : Int) → ∀ k, n + 2 ≤ k →
    (∀ m r, numGo j l2 = .ok m r → sluiceref2_reader_raw.l0 k acc (P : Int) (j : Int) b (pl b l) wr = some (acc + (P : Int) * (m : Int), (l.length : Int) - r.length, true, pl b l, wr)) ∧
    (numGo j l2 = .bad → ∃ x y, sluiceref2_reader_raw.l0 k acc (P : Int) (j : Int) b (pl b l) wr = some (x, y, false, pl b l, wr)) := by
  intro n
  induction n with
  | zero =>
    intro j acc P l2 hj hP h2 hjl ha0 ha1 k hk
    obtain rfl : j = 9 := by omega
    obtain ⟨k, rfl⟩ : ∃ i, k = i + 1 := ⟨k - 1, by omega⟩
    have hp := pl_le h
    have hP9 : P = 9223372036854775808 := by rw [hP]
    subst hP9
    by_cases hl : 9 < l.length
    · have h3 : l.drop 9 = l[9] :: l.drop (9 + 1) := List.drop_eq_getElem_cons hl
      have h4 := rd_drop h 9 hl
      have h5 : l.getD 9 0 = l[9] := by simp [List.getD_eq_getElem?_getD, List.getElem?_eq_getElem hl]
      have hc := hB l[9] (List.getElem_mem hl)
      have hdl : (l.drop (9 + 1)).length = l.length - 10 := by rw [List.length_drop]
      obtain ⟨c, hcc⟩ : ∃ c, l[9] = c := ⟨_, rfl⟩
      rw [hcc] at h3 h5 hc
      rw [sluiceref2_reader_raw.l0, if_pos (by omega), wrap_n _ (by omega) (by omega), if_neg (by omega), if_pos (by omega), if_pos (by omega), h4, h5, h2, h3, numGo]
      by_cases hlt : c < 128
      · rw [if_pos hlt, if_pos hlt, if_neg (show ¬ ((9 : Nat) : Int) = 0 by omega)]
        by_cases h0 : c > 0
        · rw [if_pos h0, if_neg (show ¬ ((9 : Nat) : Int) < 9 by omega)]
          by_cases h1 : c = 1
          · subst h1
            rw [if_pos (by omega)]
            refine ⟨fun m r hm => ?_, fun hm => by cases hm⟩
            injection hm with hm1 hm2
            subst hm1 hm2
            have e1 : IntKind.u64.wrap (Int.tmod 1 128) = 1 := by decide
            rw [e1, u_in (n := ((9223372036854775808 : Nat) : Int) * 1) (by omega) (by omega), u_in (by omega) (by omega), wrap_n _ (by omega) (by omega), hdl]
            simp only [beq_self_eq_true, Option.some.injEq, Prod.mk.injEq, and_true, true_and]
            exact ⟨by omega, by omega⟩
          · rw [if_neg (by omega)]
            have : (c == 1) = false := by simp [h1]
            rw [this]
            exact ⟨(fun m r hm => by cases hm), fun _ => ⟨_, _, rfl⟩⟩
        · rw [if_neg h0, if_neg (by omega)]
          exact ⟨(fun m r hm => by cases hm), fun _ => ⟨_, _, rfl⟩⟩
      · rw [if_neg hlt, if_neg hlt, if_pos (by omega)]
        refine ⟨(fun m r hm => by cases hm), fun _ => ?_⟩
        obtain ⟨k, rfl⟩ : ∃ i, k = i + 1 := ⟨k - 1, by omega⟩
        rw [sluiceref2_reader_raw.l0, if_neg (by rw [wrap_n _ (by omega) (by omega)]; omega)]
        exact ⟨_, _, rfl⟩
    · rw [h2, List.drop_of_length_le (by omega)]
      exact ⟨(fun m r hm => by cases hm), fun hm => by cases hm⟩
  | succ n ih =>
    intro j acc P l2 hj hP h2 hjl ha0 ha1 k hk
    obtain ⟨k, rfl⟩ : ∃ i, k = i + 1 := ⟨k - 1, by omega⟩
    have hp := pl_le h
    have hPle : P * 128 ≤ 9223372036854775808 := by
      rw [hP, ← Nat.pow_succ]
      exact Nat.le_trans (Nat.pow_le_pow_right (by decide) (show j + 1 ≤ 9 by omega)) (by decide)
    by_cases hl : j < l.length
    · have h3 : l.drop j = l[j] :: l.drop (j + 1) := List.drop_eq_getElem_cons hl
      have h4 := rd_drop h j hl
      have h5 : l.getD j 0 = l[j] := by simp [List.getD_eq_getElem?_getD, List.getElem?_eq_getElem hl]
      have hc := hB l[j] (List.getElem_mem hl)
      have hdl : (l.drop (j + 1)).length = l.length - (j + 1) := by rw [List.length_drop]
      obtain ⟨c, hcc⟩ : ∃ c, l[j] = c := ⟨_, rfl⟩
      rw [hcc] at h3 h5 hc
      have hmod : Int.tmod c 128 = c % 128 := Int.tmod_eq_emod_of_nonneg hc.1
      have hm0 : 0 ≤ c % 128 ∧ c % 128 ≤ 127 := by omega
      have hq0 : 0 ≤ (P : Int) * (c % 128) := Int.mul_nonneg (by omega) hm0.1
      have hq1 : (P : Int) * (c % 128) ≤ (P : Int) * 127 := Int.mul_le_mul_of_nonneg_left hm0.2 (by omega)
      have hv : IntKind.u64.wrap (acc + IntKind.u64.wrap ((P : Int) * IntKind.u64.wrap (Int.tmod c 128))) = acc + (P : Int) * (c % 128) := by
        rw [hmod, u_in (n := c % 128) (by omega) (by omega), u_in hq0 (by omega), u_in (by omega) (by omega)]
      rw [sluiceref2_reader_raw.l0, if_pos (by omega), wrap_n (pl b l + (j : Int)) (by omega) (by omega), if_neg (by omega), if_pos (by omega), if_pos (by omega), h4, h5, hv, h2, h3, numGo]
      by_cases hlt : c < 128
      · have hcm : c % 128 = c := by omega
        rw [if_pos hlt, if_pos hlt, if_pos (show (j : Int) < 9 by omega), wrap_s (by omega), hcm]
        have fin : ∀ m r, NR.ok c.toNat (l.drop (j + 1)) = .ok m r → some (acc + (P : Int) * c, ((j + 1 : Nat) : Int), true, pl b l, wr) = some (acc + (P : Int) * (m : Int), (l.length : Int) - r.length, true, pl b l, wr) := fun m r hm => by
          injection hm with hm1 hm2
          subst hm1 hm2
          rw [hdl, show ((c.toNat : Nat) : Int) = c by omega]
          congr 2
          congr 1
          omega
        by_cases h0 : (j : Int) = 0
        · rw [if_pos h0, if_pos ⟨.inl (by omega), .inl (by omega)⟩]
          exact ⟨fin, fun hm => by cases hm⟩
        · rw [if_neg h0]
          by_cases h1 : c > 0
          · rw [if_pos h1, if_pos ⟨.inr h1, .inl (by omega)⟩]
            exact ⟨fin, fun hm => by cases hm⟩
          · rw [if_neg h1, if_neg (by omega)]
            exact ⟨(fun m r hm => by cases hm), fun _ => ⟨_, _, rfl⟩⟩
      · rw [if_neg hlt, if_neg hlt, if_neg (by omega), wrap_s (by omega), u_in (n := (P : Int) * 128) (by omega) (by omega)]
        have hI := ih (j + 1) (acc + (P : Int) * (c % 128)) (P * 128) (l.drop (j + 1)) (by omega) (by rw [Nat.pow_succ, hP]) rfl (by omega) (by omega) (by push_cast; omega) k (by omega)
        rw [show ((P * 128 : Nat) : Int) = (P : Int) * 128 by push_cast; rfl] at hI
        cases hg : numGo (j + 1) (l.drop (j + 1)) with
        | cut => exact ⟨(fun m r hm => by cases hm), fun hm => by cases hm⟩
        | bad => exact ⟨(fun m r hm => by cases hm), fun _ => hI.2 hg⟩
        | ok m' r' =>
          refine ⟨fun m r hm => ?_, fun hm => by cases hm⟩
          injection hm with hm1 hm2
          subst hm1 hm2
          rw [hI.1 m' r' hg]
          congr 2
          rw [show ((c.toNat % 128 + 128 * m' : Nat) : Int) = c % 128 + 128 * (m' : Int) by omega, Int.mul_add, ← Int.mul_assoc, Int.add_assoc]
    · rw [h2, List.drop_of_length_le (by omega)]
      exact ⟨(fun m r hm => by cases hm), fun hm => by cases hm⟩
theorem numGo_rest : ∀ (l : List Int) (k n : Nat) (r : List Int), numGo k l = .ok n r → ∃ pre, l = pre ++ r
  | [], k, n, r, h => by simp [numGo] at h
  | c :: l, k, n, r, h => by
    unfold numGo at h
    split at h
    · split at h
      · cases h; exact ⟨[c], rfl⟩
      · cases h
    · split at h
      · cases h
      · split at h
        · rename_i a b hq
          cases h
          obtain ⟨pre, rfl⟩ := numGo_rest l (k + 1) _ _ hq
          exact ⟨c :: pre, rfl⟩
        · rename_i x hx
          first | cases h | exact absurd h (hx n r)
theorem raw_f (b l : List Int) (h : ∃ pre, b = pre ++ l) (hb : b.length ≤ 9223372036854775807) (hB : IsB l) (wr : Bool) (k : Nat) (hk : 11 ≤ k) :
    (∀ m r, numGo 0 l = .ok m r → sluiceref2_reader_raw.f k b (pl b l) wr = some ((m : Int), (l.length : Int) - r.length, true, pl b l, wr)) ∧
    (numGo 0 l = .bad → ∃ x y, sluiceref2_reader_raw.f k b (pl b l) wr = some (x, y, false, pl b l, wr)) := by
  have := raw_l b l h hb hB wr 9 0 0 1 l rfl rfl rfl (Nat.zero_le _) (by omega) (by decide) k (by omega)
  refine ⟨fun m r hm => ?_, fun hm => ?_⟩
  · have h2 := this.1 m r hm
    rw [show (0 : Int) + ((1 : Nat) : Int) * (m : Int) = (m : Int) by omega] at h2
    exact h2
  · exact this.2 hm
/-- num: a number from lo to hi. -/
theorem num_f (b : List Int) (s : R Unit) (at_ : Int) (wr : Bool) (lo hi : Int) (hS : St b s at_ wr) (hb : b.length ≤ 9223372036854775807) (hB : IsB b) (h0 : 0 ≤ lo) (h1 : hi ≤ 9223372036854775807) (h2 : lo ≤ hi) (k : Nat) (hk : 11 ≤ k) :
    ∃ x at' wr' s', sluiceref2_reader_num.f k b at_ wr lo hi = some (x, at', wr') ∧ St b s' at' wr' ∧ Post (numP lo hi) s x s' ∧ 0 ≤ x ∧ x ≤ hi := by
  unfold sluiceref2_reader_num.f
  cases s with
  | bad n =>
    obtain ⟨rfl, ha, hn⟩ := hS
    rw [if_pos rfl]
    exact ⟨0, at_, true, .bad n, rfl, ⟨rfl, ha, hn⟩, rfl, by omega, by omega⟩
  | ok u l =>
    obtain ⟨rfl, hp, rfl⟩ := hS
    have hBl : IsB l := by obtain ⟨pre, rfl⟩ := hp; exact (IsB.append.mp hB).2
    have hle := pl_le hp
    rw [if_neg (by decide), cut_f b l hp hb hBl false k hk, Option.bind_some]
    have hr := raw_f b l hp hb hBl false k hk
    cases hg : numGo 0 l with
    | cut =>
      rw [if_pos (by rfl)]
      have hn : numP lo hi l = .bad 0 := by unfold numP rawP; rw [hg]
      refine ⟨0, b.length, true, .bad 0, rfl, ⟨rfl, by omega, Nat.zero_le _⟩, ?_, by omega, by omega⟩
      simp only [Post]
      rw [hn]
    | bad =>
      obtain ⟨x, y, he⟩ := hr.2 hg
      rw [if_neg (by simp [isCut])]
      simp only
      rw [he, Option.bind_some, if_neg (by simp)]
      have hn : numP lo hi l = .bad l.length := by unfold numP rawP; rw [hg]
      refine ⟨0, pl b l, true, .bad l.length, rfl, ⟨rfl, rfl, by omega⟩, ?_, by omega, by omega⟩
      simp only [Post]
      rw [hn]
    | ok m r =>
      have he := hr.1 m r hg
      have hm := numGo_one l 0 m r (by omega) hBl hg
      have hm2 : m < 18446744073709551616 := hm.2.1
      rw [if_neg (by simp [isCut])]
      simp only
      rw [he, Option.bind_some, if_pos rfl]
      simp only
      rw [u_in (n := hi) (by omega) (by omega), u_in h0 (by omega)]
      by_cases hhi : (m : Int) > hi
      · have hn : numP lo hi l = .bad l.length := by unfold numP rawP; rw [hg]; simp only; rw [if_neg (by omega)]
        rw [if_pos hhi]
        refine ⟨0, pl b l, true, .bad l.length, rfl, ⟨rfl, rfl, by omega⟩, ?_, by omega, by omega⟩
        simp only [Post]
        rw [hn]
      · rw [if_neg hhi]
        by_cases hlo : (m : Int) < lo
        · have hn : numP lo hi l = .bad l.length := by unfold numP rawP; rw [hg]; simp only; rw [if_neg (by omega)]
          rw [if_pos hlo]
          refine ⟨0, pl b l, true, .bad l.length, rfl, ⟨rfl, rfl, by omega⟩, ?_, by omega, by omega⟩
          simp only [Post]
          rw [hn]
        · have hn : numP lo hi l = .ok (m : Int) r := by unfold numP rawP; rw [hg]; simp only; rw [if_pos (by omega)]
          rw [if_neg hlo]
          obtain ⟨q, hq⟩ := numGo_rest l 0 m r hg
          obtain ⟨pre, hpre⟩ := hp
          have hrl : r.length ≤ l.length := by rw [hq]; simp
          rw [wrap_n (m : Int) (by omega) (by omega), wrap_n (pl b l + ((l.length : Int) - r.length)) (by omega) (by omega)]
          refine ⟨(m : Int), _, false, .ok () r, rfl, ⟨rfl, ⟨pre ++ q, by rw [List.append_assoc, ← hq]; exact hpre⟩, by unfold pl; omega⟩, ?_, by omega, by omega⟩
          simp only [Post]
          rw [hn]
          exact ⟨rfl, rfl⟩
/-- sign: a number with a sign. -/
theorem sign_f (b : List Int) (s : R Unit) (at_ : Int) (wr : Bool) (hS : St b s at_ wr) (hb : b.length ≤ 9223372036854775807) (hB : IsB b) (k : Nat) (hk : 11 ≤ k) :
    ∃ x at' wr' s', sluiceref2_reader_sign.f k b at_ wr = some (x, at', wr') ∧ St b s' at' wr' ∧ Post signP s x s' := by
  unfold sluiceref2_reader_sign.f
  cases s with
  | bad n =>
    obtain ⟨rfl, ha, hn⟩ := hS
    rw [if_pos rfl]
    exact ⟨0, at_, true, .bad n, rfl, ⟨rfl, ha, hn⟩, rfl⟩
  | ok u l =>
    obtain ⟨rfl, hp, rfl⟩ := hS
    have hBl : IsB l := by obtain ⟨pre, rfl⟩ := hp; exact (IsB.append.mp hB).2
    have hle := pl_le hp
    rw [if_neg (by decide), cut_f b l hp hb hBl false k hk, Option.bind_some]
    have hr := raw_f b l hp hb hBl false k hk
    cases hg : numGo 0 l with
    | cut =>
      rw [if_pos (by rfl)]
      have hn : signP l = .bad 0 := by unfold signP rawP; rw [hg]
      refine ⟨0, b.length, true, .bad 0, rfl, ⟨rfl, by omega, Nat.zero_le _⟩, ?_⟩
      simp only [Post]
      rw [hn]
    | bad =>
      obtain ⟨x, y, he⟩ := hr.2 hg
      rw [if_neg (by simp [isCut])]
      simp only
      rw [he, Option.bind_some, if_neg (by simp)]
      have hn : signP l = .bad l.length := by unfold signP rawP; rw [hg]
      refine ⟨0, pl b l, true, .bad l.length, rfl, ⟨rfl, rfl, by omega⟩, ?_⟩
      simp only [Post]
      rw [hn]
    | ok m r =>
      have he := hr.1 m r hg
      have hm := numGo_one l 0 m r (by omega) hBl hg
      have hm2 : m < 18446744073709551616 := hm.2.1
      rw [if_neg (by simp [isCut])]
      simp only
      rw [he, Option.bind_some, if_pos rfl]
      simp only
      have hn : signP l = .ok (unsign m) r := by unfold signP rawP; rw [hg]
      obtain ⟨q, hq⟩ := numGo_rest l 0 m r hg
      obtain ⟨pre, hpre⟩ := hp
      have hrl : r.length ≤ l.length := by rw [hq]; simp
      have hd : Int.tdiv (m : Int) 2 = ((m / 2 : Nat) : Int) := by rw [Int.tdiv_eq_ediv_of_nonneg (by omega)]; omega
      have hmd : Int.tmod (m : Int) 2 = ((m % 2 : Nat) : Int) := by rw [Int.tmod_eq_emod_of_nonneg (by omega)]; omega
      rw [hd, hmd, u_in (n := ((m / 2 : Nat) : Int)) (by omega) (by omega), wrap_n ((m / 2 : Nat) : Int) (by omega) (by omega), wrap_n (-((m / 2 : Nat) : Int)) (by omega) (by omega), wrap_n (-((m / 2 : Nat) : Int) - 1) (by omega) (by omega), wrap_n (pl b l + ((l.length : Int) - r.length)) (by omega) (by omega)]
      have fin : ∃ x at' wr' s', some (unsign m, pl b l + ((l.length : Int) - r.length), false) = some (x, at', wr') ∧ St b s' at' wr' ∧ Post signP (.ok u l) x s' := by
        refine ⟨unsign m, _, false, .ok () r, rfl, ⟨rfl, ⟨pre ++ q, by rw [List.append_assoc, ← hq]; exact hpre⟩, by unfold pl; omega⟩, ?_⟩
        simp only [Post]
        rw [hn]
        exact ⟨rfl, rfl⟩
      by_cases h2 : m % 2 = 0
      · rw [if_pos (by omega)]
        rw [show unsign m = ((m / 2 : Nat) : Int) by unfold unsign; rw [if_pos h2]] at fin
        exact fin
      · rw [if_neg (by omega)]
        rw [show unsign m = -((m / 2 : Nat) : Int) - 1 by unfold unsign; rw [if_neg h2]] at fin
        exact fin
end Go.Proofs.Ytpgdmmjbhjbbhaa.Rf
end
section
namespace Go.Proofs.Ytpgdmmjbhjbbhaa.Rf
open Go Go.RowKit Go.Proofs.Ytpgdmmjbhjbbhaa.P Go.Proofs.Ytpgdmmjbhjbbhaa.Sp Go.Proofs.Ytpgdmmjbhjbbhaa.Vd Go.Proofs.Ytpgdmmjbhjbbhaa.En Go.Proofs.Ytpgdmmjbhjbbhaa.Wr Go.Proofs.Ytpgdmmjbhjbbhaa.Rd Go.Proofs.Ytpgdmmjbhjbbhaa.Lw Go.Proofs.YtpgdmmjbhjbbhaaW.PrintWords Go.Proofs.YtpgdmmjbhjbbhaaW.PrintLast Go.Proofs.YtpgdmmjbhjbbhaaW.PrintMore
set_option linter.unusedVariables false
set_option linter.unusedSimpArgs false
/-- What is read: short, and of bytes. -/
structure Src (b : List Int) : Prop where
  len : b.length ≤ 9223372036854775807
  isB : IsB b
/-- The reader lies at g and reads b; it stands as s says. -/
def RSt (w0 w : World) (g : Nat) (b : List Int) (s : R Unit) : Prop := ∃ at_ wr, IsS132 w0 w g b at_ wr ∧ St b s at_ wr ∧ Below w0.heap.size w0 w
theorem RSt.below {w0 w w1 : World} {g : Nat} {b : List Int} {s : R Unit} (h : RSt w0 w g b s) (hb : Below w.heap.size w w1) : RSt w0 w1 g b s := by
  obtain ⟨at_, wr, h1, h2, h3⟩ := h
  exact ⟨at_, wr, h1.below hb, h2, h3.trans (hb.mono h3.size)⟩
theorem RSt.bel {w0 w : World} {g : Nat} {b : List Int} {s : R Unit} (h : RSt w0 w g b s) : Below w0.heap.size w0 w := by
  obtain ⟨at_, wr, h1, h2, h3⟩ := h
  exact h3
theorem num_calls (w0 w : World) (g : Nat) (b : List Int) (s : R Unit) (lo hi : Int) (h0 : 0 ≤ lo) (h1 : hi ≤ 9223372036854775807) (h2 : lo ≤ hi) (hs : Src b) (h : RSt w0 w g b s) :
    Calls Try.prog 102 #[.pointer (some ⟨g, 0, none⟩), .int .i64 lo, .int .i64 hi] w fun e w' => ∃ x s', e = .returned (.int .i64 x) ∧ RSt w0 w' g b s' ∧ Post (numP lo hi) s x s' ∧ KeepBut w w' g none ∧ 0 ≤ x ∧ x ≤ hi := by
  obtain ⟨at_, wr, hI, hS, hB⟩ := h
  obtain ⟨x, at', wr', s', hf, hS', hP, hx⟩ := num_f b s at_ wr lo hi hS hs.len hs.isB h0 h1 h2 11 (Nat.le_refl _)
  refine (sluiceref2_reader_num.calls 11 g b at_ wr lo hi x at' wr' w0 w hI hB hf).mono ?_
  rintro e w' ⟨he, hI', hB', hk⟩
  exact ⟨x, s', he, ⟨at', wr', hI', hS', hB'⟩, hP, hk, hx⟩
theorem sign_calls (w0 w : World) (g : Nat) (b : List Int) (s : R Unit) (hs : Src b) (h : RSt w0 w g b s) :
    Calls Try.prog 107 #[.pointer (some ⟨g, 0, none⟩)] w fun e w' => ∃ x s', e = .returned (.int .i64 x) ∧ RSt w0 w' g b s' ∧ Post signP s x s' ∧ KeepBut w w' g none := by
  obtain ⟨at_, wr, hI, hS, hB⟩ := h
  obtain ⟨x, at', wr', s', hf, hS', hP⟩ := sign_f b s at_ wr hS hs.len hs.isB 11 (Nat.le_refl _)
  refine (sluiceref2_reader_sign.calls 11 g b at_ wr x at' wr' w0 w hI hB hf).mono ?_
  rintro e w' ⟨he, hI', hB', hk⟩
  exact ⟨x, s', he, ⟨at', wr', hI', hS', hB'⟩, hP, hk⟩
theorem two_f {b : List Int} {s : R Unit} {at_ : Int} {wr : Bool} {l1 h1 l2 h2 : Int} (hS : St b s at_ wr) (hs : Src b) (a0 : 0 ≤ l1) (a1 : h1 ≤ 9223372036854775807) (a2 : l1 ≤ h1) (b0 : 0 ≤ l2) (b1 : h2 ≤ 9223372036854775807) (b2 : l2 ≤ h2) :
    ∃ x y at' wr' s', ((sluiceref2_reader_num.f 11 b at_ wr l1 h1).bind fun p => (sluiceref2_reader_num.f 11 b p.2.1 p.2.2 l2 h2).bind fun q => some (p.1, q.1, q.2.1, q.2.2)) = some (x, y, at', wr') ∧ St b s' at' wr' ∧ Post (pairP l1 h1 l2 h2) s ⟨x, y⟩ s' := by
  obtain ⟨x, at1, wr1, s1, hf1, hS1, hP1, _⟩ := num_f b s at_ wr l1 h1 hS hs.len hs.isB a0 a1 a2 11 (Nat.le_refl _)
  obtain ⟨y, at2, wr2, s2, hf2, hS2, hP2, _⟩ := num_f b s1 at1 wr1 l2 h2 hS1 hs.len hs.isB b0 b1 b2 11 (Nat.le_refl _)
  refine ⟨x, y, at2, wr2, s2, ?_, hS2, hP1.bnd (hP2.bnd (Post.ret _ _))⟩
  rw [hf1, Option.bind_some]
  show ((sluiceref2_reader_num.f 11 b at1 wr1 l2 h2).bind _) = _
  rw [hf2, Option.bind_some]
/-- What a pair of numbers leaves. -/
def Two (w0 w : World) (g : Nat) (b : List Int) (p : Rdr S25) (s : R Unit) (e : Ending) (w' : World) : Prop :=
  ∃ x s', e = .returned (.agg #[.int .i64 x.f0, .int .i64 x.f1]) ∧ RSt w0 w' g b s' ∧ Post p s x s' ∧ KeepBut w w' g none
theorem call_calls (w0 w : World) (g : Nat) (b : List Int) (s : R Unit) (hs : Src b) (h : RSt w0 w g b s) :
    Calls Try.prog 104 #[.pointer (some ⟨g, 0, none⟩)] w (Two w0 w g b callP s) := by
  obtain ⟨at_, wr, hI, hS, hB⟩ := h
  obtain ⟨x, y, at', wr', s', hf, hS', hP⟩ := two_f (l1 := 0) (h1 := 63) (l2 := 1) (h2 := 1099511627776) hS hs (by decide) (by decide) (by decide) (by decide) (by decide) (by decide)
  refine (sluiceref2_reader_call.calls 11 g b at_ wr x y at' wr' w0 w hI hB hf).mono ?_
  rintro e w' ⟨he, hI', hB', hk⟩
  exact ⟨⟨x, y⟩, s', he, ⟨at', wr', hI', hS', hB'⟩, hP, hk⟩
theorem rights_calls (w0 w : World) (g : Nat) (b : List Int) (s : R Unit) (hs : Src b) (h : RSt w0 w g b s) :
    Calls Try.prog 118 #[.pointer (some ⟨g, 0, none⟩)] w (Two w0 w g b rightsP s) := by
  obtain ⟨at_, wr, hI, hS, hB⟩ := h
  obtain ⟨x, y, at', wr', s', hf, hS', hP⟩ := two_f (l1 := 0) (h1 := 1099511627776) (l2 := 0) (h2 := 1099511627776) hS hs (by decide) (by decide) (by decide) (by decide) (by decide) (by decide)
  refine (sluiceref2_reader_rights.calls 11 g b at_ wr x y at' wr' w0 w hI hB hf).mono ?_
  rintro e w' ⟨he, hI', hB', hk⟩
  exact ⟨⟨x, y⟩, s', he, ⟨at', wr', hI', hS', hB'⟩, hP, hk⟩
theorem epoch_calls (w0 w : World) (g : Nat) (b : List Int) (s : R Unit) (hs : Src b) (h : RSt w0 w g b s) :
    Calls Try.prog 117 #[.pointer (some ⟨g, 0, none⟩)] w (Two w0 w g b epochP s) := by
  obtain ⟨at_, wr, hI, hS, hB⟩ := h
  obtain ⟨x, y, at', wr', s', hf, hS', hP⟩ := two_f (l1 := 1) (h1 := 1099511627776) (l2 := 0) (h2 := 15) hS hs (by decide) (by decide) (by decide) (by decide) (by decide) (by decide)
  refine (sluiceref2_reader_epoch.calls 11 g b at_ wr x y at' wr' w0 w hI hB hf).mono ?_
  rintro e w' ⟨he, hI', hB', hk⟩
  exact ⟨⟨x, y⟩, s', he, ⟨at', wr', hI', hS', hB'⟩, hP, hk⟩
/-- The end: nothing may be left. -/
def doneV (b : List Int) : R Unit → Int × Int
  | .bad n => ((b.length : Int) - n, 20)
  | .ok _ [] => (0, 0)
  | .ok _ (c :: l) => (pl b (c :: l), 20)
theorem done_calls (w0 w : World) (g : Nat) (b : List Int) (s : R Unit) (hs : Src b) (h : RSt w0 w g b s) :
    Calls Try.prog 93 #[.pointer (some ⟨g, 0, none⟩)] w fun e w' => e = .returned (.tuple #[.int .i64 (doneV b s).1, .int .i64 (doneV b s).2]) ∧ RSt w0 w' g b s ∧ KeepBut w w' g none := by
  obtain ⟨at_, wr, hI, hS, hB⟩ := h
  have hf : sluiceref2_reader_done.f b at_ wr = some ((doneV b s).1, (doneV b s).2, at_, wr) := by
    unfold sluiceref2_reader_done.f
    match s, hS with
    | .bad n, hS =>
      obtain ⟨rfl, rfl, hn⟩ := hS
      rw [if_pos rfl]
      rfl
    | .ok u [], hS =>
      obtain ⟨rfl, hp, rfl⟩ := hS
      have := pl_le hp
      simp only [List.length_nil] at this
      rw [if_neg (by decide), if_neg (by omega)]
      rfl
    | .ok u (c :: l), hS =>
      obtain ⟨rfl, hp, rfl⟩ := hS
      have := pl_le hp
      simp only [List.length_cons] at this
      rw [if_neg (by decide), if_pos (by omega)]
      rfl
  refine (sluiceref2_reader_done.calls g b at_ wr _ _ at_ wr w0 w hI hB hf).mono ?_
  rintro e w' ⟨he, hI', hB', hk⟩
  exact ⟨he, ⟨at_, wr, hI', hS, hB'⟩, hk⟩
set_option maxHeartbeats 4000000 in
set_option maxRecDepth 100000 in
theorem take_calls (w0 w : World) (g : Nat) (b : List Int) (s : R Unit) (n : Nat) (hn : n ≤ 1000000) (hs : Src b) (h : RSt w0 w g b s) :
    Calls Try.prog 103 #[.pointer (some ⟨g, 0, none⟩), .int .i64 (n : Int)] w fun e w' => ∃ x A1 c1 s', e = .returned (.slice A1 x.length c1) ∧ x.length ≤ c1 ∧ Kd.C (Kd.int .u8) w0 A1 x.length x ∧ RSt w0 w' g b s' ∧ Post (takeP n) s x s' ∧ KeepBut w w' g none ∧ x.length ≤ n := by
  have HR := Aside0.mk h
  obtain ⟨at_, wr, hI, hS, hB⟩ := h
  have HI := Aside0.mk hI
  obtain ⟨A, c, hb, ⟨hg, hcap⟩, hC⟩ := hI
  cases s with
  | bad k =>
    obtain ⟨rfl, ha, hk⟩ := hS
    have kz2 := cellS132_2 hb
    clear hb hg hcap hC hB ha hk
    go_enter Try.func103, Try.ntmps103
    go_wp2_with fail
    go_ret
    exact ⟨[], none, 0, .bad k, rfl, Nat.le_refl _, Kd.C_nil _ _, HR.out, rfl, KeepBut.refl _ _ _, Nat.zero_le _⟩
  | ok u l =>
    obtain ⟨rfl, hp, rfl⟩ := hS
    have hle := pl_le hp
    have hbl := hs.len
    have HS := Aside0.mk hp
    have HB := Aside0.mk hB
    have HC := Aside0.mk hC
    have hnI : (n : Int) ≤ 1000000 := by omega
    obtain ⟨j, hj⟩ : ∃ j, j = pl b l := ⟨_, rfl⟩
    rw [← hj] at hle hb HI
    have kz0 := cellS132_0 hb
    have kz1 := cellS132_1 hb
    have kz2 := cellS132_2 hb
    have hf1 := frozen_of_row w g 1 _ _ hb
    have HJ := Aside0.mk hj
    have hw : wrap64 ((b.length : Int) - j) = (l.length : Int) := by rw [wrap_n _ (by omega) (by omega)]; omega
    clear hp hb hC hB hj
    go_enter Try.func103, Try.ntmps103
    by_cases hsh : l.length < n
    · have HQ : Aside0 (takeP n l = .bad 0) := ⟨by unfold takeP; rw [if_pos hsh]⟩
      have hlt : (l.length : Int) < (n : Int) := by omega
      go_wp2_with fail
      go_quiet (fail)
      go_wp2_with (go_at_call 120; refine (sluiceref2_reader_short.calls g b j false b.length true w0 _ (HI.out.drewN _) (pw_below_drewN HB.out _) rfl).mono ?_; rintro e w1 ⟨rfl, hI1, hB1, hk1⟩; have HN := Aside0.mk (And.intro hI1 (And.intro hB1 hk1)); clear hI1 hB1 hk1)
      go_ret
      exact ⟨[], none, 0, .bad 0, rfl, Nat.le_refl _, Kd.C_nil _ _, ⟨_, _, HN.out.1, ⟨rfl, by omega, Nat.zero_le _⟩, HN.out.2.1⟩, by simp only [Post]; rw [HQ.out], HN.out.2.2, Nat.zero_le _⟩
    · have HQ : Aside0 (takeP n l = .ok (l.take n) (l.drop n)) := ⟨by unfold takeP; rw [if_neg hsh]⟩
      have hlt : ¬ ((l.length : Int) < (n : Int)) := by omega
      have hjn : wrap64 (j + (n : Int)) = j + (n : Int) := wrap_n _ (by omega) (by omega)
      have hcut := cut_mid (P := Try.prog) 36 5 .i64 .i64 Try.underlying36 inf8f 1 inf8s A b.length c j (j + (n : Int)) hle.1 (by omega) (by omega) hcap
      have HCUT : Aside0 ((l.take n).length = (j + (n : Int)).toNat - j.toNat ∧ (l.take n).length ≤ c - j.toNat ∧ Kd.C (Kd.int .u8) w0 (if c = j.toNat then A else A.map (·.add (j.toNat * 1))) (l.take n).length (l.take n)) := ⟨by
        obtain ⟨pre, hp⟩ := HS.out
        have hpj : j.toNat = pre.length := by rw [HJ.out]; unfold pl; rw [hp, List.length_append]; omega
        have hx : (b.take (j.toNat + n)).drop j.toNat = l.take n := by
          rw [hpj, hp, List.take_append, List.drop_append]
          simp
        have hm := Kd.C_mid (k := Kd.int .u8) (lo := j.toNat) (hi := j.toNat + n) HC.out (by omega) (by omega) hcap
        rw [hx] at hm
        have hl3 : (l.take n).length = n := by rw [List.length_take]; omega
        refine ⟨by rw [hl3]; omega, by rw [hl3]; omega, hm⟩⟩
      obtain ⟨A1, hA1⟩ : ∃ A1, A1 = (if c = j.toNat then A else A.map (·.add (j.toNat * 1))) := ⟨_, rfl⟩
      rw [← hA1] at hcut HCUT
      obtain ⟨n1, hn1⟩ : ∃ n1, n1 = (j + (n : Int)).toNat - j.toNat := ⟨_, rfl⟩
      rw [← hn1] at hcut HCUT
      obtain ⟨c1, hc1⟩ : ∃ c1, c1 = c - j.toNat := ⟨_, rfl⟩
      rw [← hc1] at hcut HCUT
      clear hA1 hn1 hc1
      go_wp2_with fail
      go_quiet (fail)
      go_wp2_with fail
      go_quiet (fail)
      go_wp2_with fail
      go_ret
      refine ⟨l.take n, A1, c1, .ok () (l.drop n), by rw [HCUT.out.1]; rfl, HCUT.out.2.1, HCUT.out.2.2, ⟨j + (n : Int), false, (HI.out.drewN _).set_1 _, ⟨rfl, ?_, by rw [HJ.out]; unfold pl; rw [List.length_drop]; omega⟩, below_set (pw_below_drewN HB.out _) (IsS132.ge HI.out)⟩, by simp only [Post]; rw [HQ.out]; exact ⟨rfl, rfl⟩, (keep_drewN (KeepBut.refl _ _ _) _).set_ _ _, List.length_take_le _ _⟩
      obtain ⟨pre, hp⟩ := HS.out
      exact ⟨pre ++ l.take n, by rw [hp, List.append_assoc, List.take_append_drop]⟩
end Go.Proofs.Ytpgdmmjbhjbbhaa.Rf
end
section
namespace Go.Proofs.Ytpgdmmjbhjbbhaa.Rf
open Go Go.RowKit Go.Proofs.Ytpgdmmjbhjbbhaa.P Go.Proofs.Ytpgdmmjbhjbbhaa.Sp Go.Proofs.Ytpgdmmjbhjbbhaa.Vd Go.Proofs.Ytpgdmmjbhjbbhaa.En Go.Proofs.Ytpgdmmjbhjbbhaa.Wr Go.Proofs.Ytpgdmmjbhjbbhaa.Lw Go.Proofs.YtpgdmmjbhjbbhaaW.PrintWords Go.Proofs.YtpgdmmjbhjbbhaaW.PrintLast Go.Proofs.YtpgdmmjbhjbbhaaW.PrintMore
open Go.Proofs.Ytpgdmmjbhjbbhaa.Rd (pl nameIn_ok nameIn_no nameIn_bad)
attribute [local go_sem] Go.Proofs.Ytpgdmmjbhjbbhaa.StrLe.leq_str Go.Proofs.Ytpgdmmjbhjbbhaa.StrLe.gtr_str
set_option linter.unusedVariables false
set_option linter.unusedSimpArgs false
theorem Post.okS {α : Type} {p : Rdr α} {s : R Unit} {x : α} {u : Unit} {r : List Int} (h : Post p s x (.ok u r)) : ∃ l, s = .ok () l ∧ p l = .ok x r := by
  cases s with
  | bad n => cases h
  | ok v l =>
    simp only [Post] at h
    cases hp : p l with
    | bad n => rw [hp] at h; cases h
    | ok y q =>
      rw [hp] at h
      simp only at h
      obtain ⟨rfl, h⟩ := h
      injection h with _ h
      subst h
      exact ⟨l, rfl, hp⟩
theorem name_bad {a : ByteArray} {m k : Nat} {s1 : R Unit} {x : List Int} (h : Post (takeP m) s1 x (.bad k)) (t : ByteArray) : Post (nameIn a m) s1 t (.bad k) := by
  cases s1 with
  | bad n => exact h
  | ok u l =>
    simp only [Post] at h ⊢
    cases hp : takeP m l with
    | bad n => rw [hp] at h; rw [nameIn_bad hp]; exact h
    | ok y q => rw [hp] at h; cases h.2
theorem name_yes {w0 w w2 w3 : World} {g : Nat} {b l x r2 : List Int} {s : R Unit} {a t : ByteArray} {m : Nat} {u : Unit} (h2 : RSt w0 w2 g b (.ok u r2)) (hb : Below w2.heap.size w2 w3) (hk : KeepBut w w2 g none) (hpp : ∀ t s', Post (nameIn a m) (.ok () l) t s' → Post (nameP a) s t s') (ht : takeP m l = .ok x r2) (hT : t = strOfNums x) (hn : nameOk x) (ha : above a t) :
    ∃ y s', Ending.returned (.string t) = .returned (.string y) ∧ RSt w0 w3 g b s' ∧ Post (nameP a) s y s' ∧ KeepBut w w3 g none :=
  ⟨t, .ok () r2, rfl, h2.below hb, hpp _ _ (by simp only [Post]; rw [hT, nameIn_ok ht ⟨hn, by rw [← hT]; exact ha⟩]; exact ⟨rfl, rfl⟩), hk.trans (KeepBut.of_below hb g none) (.inl rfl)⟩
theorem name_no {w0 w w2 w3 : World} {g : Nat} {b l x r2 : List Int} {s : R Unit} {a t : ByteArray} {m : Nat} {u : Unit} {at2 : Int} (h2 : RSt w0 w2 g b (.ok u r2)) (hI : IsS132 w0 w2 g b at2 false) (hb : Below w2.heap.size w2 w3) (hI3 : IsS132 w0 w3 g b at2 false) (hk : KeepBut w w2 g none) (hpp : ∀ t s', Post (nameIn a m) (.ok () l) t s' → Post (nameP a) s t s') (ht : takeP m l = .ok x r2) (hT : t = strOfNums x) (ha : at2 - (m : Int) = pl b l) (hl : ∃ pre, b = pre ++ l) (hn : ¬ (nameOk x ∧ above a t)) :
    ∃ y s', Ending.returned (.string t) = .returned (.string y) ∧ RSt w0 ((w3.setCell ⟨g, 1, none⟩ (.int .i64 (at2 - (m : Int)))).setCell ⟨g, 2, none⟩ (.bool true)) g b s' ∧ Post (nameP a) s y s' ∧ KeepBut w ((w3.setCell ⟨g, 1, none⟩ (.int .i64 (at2 - (m : Int)))).setCell ⟨g, 2, none⟩ (.bool true)) g none := by
  have hle := pl_le hl
  have hB : Below w0.heap.size w0 w3 := h2.bel.trans (hb.mono h2.bel.size)
  refine ⟨t, .bad l.length, rfl, ⟨_, _, (hI3.set_1 _).set_2 _, ⟨rfl, by rw [ha]; rfl, by omega⟩, below_set (below_set hB hI3.ge) hI3.ge⟩, hpp _ _ ?_, ((hk.trans (KeepBut.of_below hb g none) (.inl rfl)).set_ _ _).set_ _ _⟩
  simp only [Post]
  rw [nameIn_no ht (by rw [← hT]; exact hn)]
set_option maxHeartbeats 4000000 in
set_option maxRecDepth 100000 in
theorem name_calls (w0 w : World) (g : Nat) (b : List Int) (s : R Unit) (a : ByteArray) (hs : Src b) (h : RSt w0 w g b s) :
    Calls Try.prog 115 #[.pointer (some ⟨g, 0, none⟩), .string a] w fun e w' => ∃ x s', e = .returned (.string x) ∧ RSt w0 w' g b s' ∧ Post (nameP a) s x s' ∧ KeepBut w w' g none := by
  have HR := Aside0.mk h
  have HS := Aside0.mk hs
  clear h hs
  go_enter Try.func115, Try.ntmps115
  go_upto_region 3 with (first
    | (go_at_call 102; refine (num_calls w0 _ g b s 1 16 (by decide) (by decide) (by decide) HS.out HR.out).mono ?_; rintro e w1 ⟨x1, s1, rfl, h1, p1, k1, r0, r1⟩; obtain ⟨m, rfl⟩ : ∃ m : Nat, x1 = (m : Int) := ⟨x1.toNat, by omega⟩; have HK := Aside0.mk (And.intro h1 (And.intro p1 (And.intro k1 (And.intro r0 r1)))); clear h1 p1 k1 r0 r1)
    | (go_at_call 103; refine (take_calls w0 _ g b s1 m (by have := HK.out.2.2.2.2; omega) HS.out HK.out.1).mono ?_; rintro e w2 ⟨x, A1, c1, s2, rfl, hc1, hC, h2, p2, k2, -⟩; have hcv := Kd.C_string (P := Try.prog) (A := A1) (c := c1) Try.underlying36 Try.underlying5 Try.underlying9 (Kd.C_below hC h2.bel); obtain ⟨t, hT⟩ : ∃ t, t = strOfNums x := ⟨_, rfl⟩; rw [← hT] at hcv; have HT := Aside0.mk hT; have HK2 := Aside0.mk (And.intro h2 (And.intro p2 k2)); clear hc1 hC h2 p2 k2 hT))
  have HPP : Aside0 (∀ t s', Post (nameIn a m) s1 t s' → Post (nameP a) s t s') := ⟨fun t s' ht => by
    show Post (Sp.bnd (numP 1 16) fun n => nameIn a n.toNat) s t s'
    refine Post.bnd HK.out.2.1 ?_
    simp only [Int.toNat_natCast]
    exact ht⟩
  have HKB : Aside0 (KeepBut w w2 g none) := ⟨HK.out.2.2.1.trans HK2.out.2.2 (.inl rfl)⟩
  have HR2 := Aside0.mk HK2.out.1
  have HP2 := Aside0.mk HK2.out.2.1
  clear hcv
  obtain ⟨at2, wr2, hI, hS, hB⟩ := HK2.out.1
  have HI := Aside0.mk hI
  obtain ⟨A, c, hb, ⟨hg, hcap⟩, hC⟩ := hI
  cases s2 with
  | bad k =>
    obtain ⟨rfl, ha, hk⟩ := hS
    have kz2 := cellS132_2 hb
    clear hb hg hcap hC hB ha hk
    go_wp2_with fail
    go_ret
    exact ⟨_, .bad k, rfl, HR2.out, HPP.out _ _ (name_bad HP2.out _), HKB.out⟩
  | ok u r2 =>
    obtain ⟨rfl, hp, hat⟩ := hS
    obtain ⟨l, rfl, ht⟩ := HP2.out.okS
    have hx : x = l.take m ∧ r2 = l.drop m ∧ m ≤ l.length := by
      unfold takeP at ht
      split at ht
      · cases ht
      · injection ht with h1 h2
        exact ⟨h1.symm, h2.symm, by omega⟩
    have hbl : IsB l := by
      obtain ⟨at1, wr1, _, hS1, _⟩ := HK.out.1
      obtain ⟨_, ⟨pre, hpre⟩, _⟩ := hS1
      have := HS.out.isB
      rw [hpre] at this
      exact (IsB.append.mp this).2
    have hbx := Rd.takeP_isB ht hbl
    have hnb : nB t = dcd (nameOk x) := by unfold nB; rw [HT.out, bytesOf_strOf hbx]
    have HX : Aside0 (bytesOf t = x) := ⟨by rw [HT.out, bytesOf_strOf hbx]⟩
    have hr2 : r2.length + m = l.length := by rw [hx.2.1, List.length_drop]; omega
    have hle := pl_le hp
    have hbl2 := HS.out.len
    have hm := HK.out.2.2.2.2
    have hw : wrap64 (at2 - (m : Int)) = at2 - (m : Int) := wrap_n _ (by omega) (by rw [hat]; omega)
    have HA : Aside0 (at2 - (m : Int) = pl b l) := ⟨by rw [hat]; unfold pl; omega⟩
    have HL : Aside0 (takeP m l = .ok x r2) := ⟨ht⟩
    have HLL : Aside0 (∃ pre, b = pre ++ l) := ⟨by obtain ⟨at1, wr1, _, hS1, _⟩ := HK.out.1; exact hS1.2.1⟩
    have kz2 := cellS132_2 hb
    clear hx hbl hbx hr2 hle hbl2 hm hat hp ht hb hg hcap hC hB
    by_cases hn : nameOk x
    · have hn1 : nB t = true := by rw [hnb]; exact dcd_pos hn
      have HN := Aside0.mk hn
      clear hnb hn
      cases hne : a.toList.isEmpty
      case true =>
        go_wp2_with (go_at_call 49; refine (rname_calls _ t).mono ?_; rintro e w3 ⟨rfl, hb⟩; rw [hn1]; have HI3 := Aside0.mk (HI.out.below hb); have HB3 := Aside0.mk hb; obtain ⟨A_, c_, hb3, hg3, hC3⟩ := HI3.out; have kz1 := cellS132_1 hb3; have kz3 := cellS132_2 hb3; have hf1 := blk_frozen hb3 1; have hf2 := blk_frozen hb3 2; clear hb hb3 hg3 hC3)
        go_ret
        exact name_yes HR2.out HB3.out HKB.out HPP.out HL.out HT.out HN.out (by have h1 : nameOk (bytesOf t) := (by rw [HX.out]; exact HN.out); have h2 := above_nil h1; unfold above at h2 ⊢; rw [List.isEmpty_iff.mp hne]; rw [show (⟨#[]⟩ : ByteArray).toList = [] by simp] at h2; exact h2)
      case false =>
        by_cases hab : Go.Op.bytesLess a.toList t.toList = true
        · go_wp2_with (go_at_call 49; refine (rname_calls _ t).mono ?_; rintro e w3 ⟨rfl, hb⟩; rw [hn1]; have HI3 := Aside0.mk (HI.out.below hb); have HB3 := Aside0.mk hb; obtain ⟨A_, c_, hb3, hg3, hC3⟩ := HI3.out; have kz1 := cellS132_1 hb3; have kz3 := cellS132_2 hb3; have hf1 := blk_frozen hb3 1; have hf2 := blk_frozen hb3 2; clear hb hb3 hg3 hC3)
          go_ret
          exact name_yes HR2.out HB3.out HKB.out HPP.out HL.out HT.out HN.out hab
        · have hab : Go.Op.bytesLess a.toList t.toList = false := by simpa using hab
          go_wp2_with (go_at_call 49; refine (rname_calls _ t).mono ?_; rintro e w3 ⟨rfl, hb⟩; rw [hn1]; have HI3 := Aside0.mk (HI.out.below hb); have HB3 := Aside0.mk hb; obtain ⟨A_, c_, hb3, hg3, hC3⟩ := HI3.out; have kz1 := cellS132_1 hb3; have kz3 := cellS132_2 hb3; have hf1 := blk_frozen hb3 1; have hf2 := blk_frozen hb3 2; clear hb hb3 hg3 hC3)
          go_ret
          exact name_no HR2.out HI.out HB3.out HI3.out HKB.out HPP.out HL.out HT.out HA.out HLL.out (fun h => by have h2 : Go.Op.bytesLess a.toList t.toList = true := h.2; rw [hab] at h2; cases h2)
    · have hn1 : nB t = false := by rw [hnb]; exact dcd_neg hn
      have HN := Aside0.mk hn
      clear hnb hn
      go_wp2_with (go_at_call 49; refine (rname_calls _ t).mono ?_; rintro e w3 ⟨rfl, hb⟩; rw [hn1]; have HI3 := Aside0.mk (HI.out.below hb); have HB3 := Aside0.mk hb; obtain ⟨A_, c_, hb3, hg3, hC3⟩ := HI3.out; have kz1 := cellS132_1 hb3; have kz3 := cellS132_2 hb3; have hf1 := blk_frozen hb3 1; have hf2 := blk_frozen hb3 2; clear hb hb3 hg3 hC3)
      go_ret
      exact name_no HR2.out HI.out HB3.out HI3.out HKB.out HPP.out HL.out HT.out HA.out HLL.out (fun h => HN.out h.1)
end Go.Proofs.Ytpgdmmjbhjbbhaa.Rf
end
section
namespace Go.Proofs.Ytpgdmmjbhjbbhaa.Rf
open Go Go.RowKit Go.Proofs.Ytpgdmmjbhjbbhaa.P Go.Proofs.Ytpgdmmjbhjbbhaa.Sp Go.Proofs.Ytpgdmmjbhjbbhaa.Vd Go.Proofs.Ytpgdmmjbhjbbhaa.En Go.Proofs.Ytpgdmmjbhjbbhaa.Wr Go.Proofs.Ytpgdmmjbhjbbhaa.Lw Go.Proofs.YtpgdmmjbhjbbhaaW.PrintWords Go.Proofs.YtpgdmmjbhjbbhaaW.PrintLast Go.Proofs.YtpgdmmjbhjbbhaaW.PrintMore
open Go.Proofs.Ytpgdmmjbhjbbhaa.Rd (pl setRow_far setRow_blk)
set_option linter.unusedVariables false
set_option linter.unusedSimpArgs false
theorem IsS_heap {w0 W W1 : World} {g : Nat} {f0 : List Int} {f1 : Int} {f2 : Bool} (h : IsS132 w0 W g f0 f1 f2) (hq : W1.heap[g]? = W.heap[g]?) : IsS132 w0 W1 g f0 f1 f2 := by
  obtain ⟨A0, c0, hb, hg, hr0⟩ := h
  exact ⟨A0, c0, hq.trans hb, hg, hr0⟩
theorem RSt.lt {w0 w : World} {g : Nat} {b : List Int} {s : R Unit} (h : RSt w0 w g b s) : g < w.heap.size := by
  obtain ⟨at_, wr, h1, h2, h3⟩ := h
  exact h1.lt
theorem RSt.al {w0 w : World} {g : Nat} {b : List Int} {s : R Unit} (h : RSt w0 w g b s) (o : Obj) : RSt w0 (w.alloc o) g b s := h.below (below_alloc (Below.refl _ _) o)
theorem RSt.other {w0 w : World} {g : Nat} {b : List Int} {s : R Unit} (h : RSt w0 w g b s) {k : Nat} (hk : k ≠ g) (hg : w0.heap.size ≤ k) (j : Nat) (v : Value) : RSt w0 (w.setCell ⟨k, j, none⟩ v) g b s := by
  obtain ⟨at_, wr, h1, h2, h3⟩ := h
  exact ⟨at_, wr, h1.far (fun e => hk e.symm) v, h2, below_set h3 hg⟩
theorem RSt.row {w0 w : World} {g : Nat} {b : List Int} {s : R Unit} (h : RSt w0 w g b s) {k : Nat} (hk : k ≠ g) (hg : w0.heap.size ≤ k) (cs : Array Value) : RSt w0 (w.setRow k cs) g b s := by
  obtain ⟨at_, wr, h1, h2, h3⟩ := h
  exact ⟨at_, wr, IsS_heap h1 (setRow_far (fun e => hk e.symm) cs), h2, below_setRow h3 hg cs⟩
theorem keep_row {w w1 : World} {g k : Nat} (h : KeepBut w w1 g none) (hk : w.heap.size ≤ k) (cs : Array Value) : KeepBut w (w1.setRow k cs) g none :=
  ⟨by rw [size_setRow]; exact h.1, fun i hi h1 h2 => (setRow_far (by omega) cs).trans (h.2 i hi h1 h2)⟩
theorem keep_then {w w1 w2 : World} {g : Nat} (h : KeepBut w w1 g none) (k : KeepBut w1 w2 g none) : KeepBut w w2 g none := h.trans k (.inl rfl)
theorem kb1 {w w1 : World} {g k : Nat} {o : Obj} (h : KeepBut w w1 g none) (hk : k ≠ g) (hb : w.heap[k]? = some o) : w1.heap[k]? = some o := h.blk hb hk (by simp)
/-- A block's rows behind a store. -/
theorem blk_upd {w : World} {k j : Nat} {t : TypeId} {cs cs2 : Array Value} {v : Value} (h : w.heap[k]? = some (.cells cs t (0, 0))) (hc : cs.setIfInBounds j v = cs2) : (w.setCell ⟨k, j, none⟩ v).heap[k]? = some (.cells cs2 t (0, 0)) := by
  subst hc
  simpa using blk_set h j v
def Oc (k : Int) (s : ByteArray) (a b : Int) : Array Value := #[.int .i64 k, .string s, .int .i64 a, .int .i64 b]
set_option maxHeartbeats 4000000 in
set_option maxRecDepth 100000 in
theorem op_calls (w0 w : World) (g : Nat) (b : List Int) (s : R Unit) (hs : Src b) (h : RSt w0 w g b s) :
    Calls Try.prog 105 #[.pointer (some ⟨g, 0, none⟩)] w fun e w' => ∃ x : Sp.Op, ∃ s', e = .returned (.agg #[.int .i64 x.kind, .string x.name, .int .i64 x.a, .int .i64 x.b]) ∧ RSt w0 w' g b s' ∧ Post opP s x s' ∧ KeepBut w w' g none := by
  have HS := Aside0.mk hs
  obtain ⟨wa, hwa⟩ : ∃ wa, wa = w.alloc (.cells #[.int .i64 0, .string ⟨#[]⟩, .int .i64 0, .int .i64 0] 29 (0, 0)) := ⟨_, rfl⟩
  have HWA := Aside0.mk hwa
  have HN : Aside0 (w.heap.size ≠ g ∧ w0.heap.size ≤ w.heap.size) := ⟨fun e => by have := h.lt; omega, h.bel.size⟩
  have H0 : Aside0 (RSt w0 wa g b s ∧ KeepBut w wa g none ∧ wa.heap[w.heap.size]? = some (.cells #[.int .i64 0, .string ⟨#[]⟩, .int .i64 0, .int .i64 0] 29 (0, 0)) ∧ wa.heap.size = w.heap.size + 1) := ⟨by rw [hwa]; exact ⟨h.al _, KeepBut.of_below (al_below w _) _ _, heap_alloc_new w _, by simp⟩⟩
  clear hs h hwa
  have hu := Try.underlying29
  go_enter Try.func105, Try.ntmps105
  go_upto_region 1 with fail
  rw [← HWA.out]
  go_upto_region 2 with (first
    | (go_at_call 102; refine (num_calls w0 _ g b s 1 11 (by decide) (by decide) (by decide) HS.out H0.out.1).mono ?_; rintro e w1 ⟨x, s1, rfl, h1, p1, k1, -, -⟩; have H1 := Aside0.mk (And.intro h1 (And.intro p1 (And.intro (keep_then H0.out.2.1 k1) (And.intro (kb1 k1 HN.out.1 H0.out.2.2.1) (show w.heap.size < w1.heap.size from by have := k1.1; have := H0.out.2.2.2; omega))))); clear h1 p1 k1)
    | ((with_reducible refine gate_dst (N := 3) rfl ?_); refine box_event ?hg (N := 3) ?hd (cs := #[.int .i64 0, .string ⟨#[]⟩, .int .i64 0, .int .i64 0]) (t := 29) ?hr ?_; (case hd => rfl); (case hg => rfl); (case hr => first | (go_simp; done) | (go_simp; rfl)); intro gb hg w2 hbox hb; have HG : Aside0 (w.heap.size < gb ∧ gb ≠ g) := ⟨by rw [hg]; exact H1.out.2.2.2.2, fun e => by have := H1.out.1.lt; omega⟩; have H2 := Aside0.mk (And.intro (H1.out.1.below hb) (And.intro (keep_then H1.out.2.2.1 (KeepBut.of_below hb _ _)) (And.intro (blk_keep hb H1.out.2.2.2.1) hbox))); clear hg hb hbox; go_loud (refine wpList_store_row rfl 29 (.tmp 3) (.tmp 6) rfl gb #[.int .i64 x, .string ⟨#[]⟩, .int .i64 0, .int .i64 0] (by rfl) (by rfl) 29 _ H2.out.2.2.2 inf29 rfl (by simp [Value.oneCell']) ?_)))
  obtain ⟨w3, hw3⟩ : ∃ w3, w3 = w2.setRow gb #[.int .i64 x, .string ⟨#[]⟩, .int .i64 0, .int .i64 0] := ⟨_, rfl⟩
  have HGE : Aside0 (w0.heap.size ≤ gb) := ⟨by have := HN.out.2; have := HG.out.1; omega⟩
  have H3 : Aside0 (RSt w0 w3 g b s1 ∧ KeepBut w w3 g none ∧ w3.heap[w.heap.size]? = some (.cells (Oc 0 ⟨#[]⟩ 0 0) 29 (0, 0)) ∧ w3.heap[gb]? = some (.cells (Oc x ⟨#[]⟩ 0 0) 29 (0, 0))) := ⟨by
    rw [hw3]
    exact ⟨H2.out.1.row HG.out.2 HGE.out _, keep_row H2.out.2.1 (Nat.le_of_lt HG.out.1) _, (setRow_far (by have := HG.out.1; omega) _).trans H2.out.2.2.1, setRow_blk H2.out.2.2.2 _⟩⟩
  have HP1 := Aside0.mk H1.out.2.1
  (try simp only [Act.put, List.setIfInBounds_toArray, List.set_cons_zero, List.set_cons_succ])
  rw [← hw3]
  clear hw3 H1 H2
  go_wp2_with (first
    | (go_at_call 107; refine (sign_calls w0 _ g b s3 HS.out (H5.out.1.other HG.out.2 HGE.out 2 _)).mono ?_; rintro e w6 ⟨b2, s4, rfl, h1, p1, k1⟩; have H6 := Aside0.mk (And.intro h1 (And.intro p1 (And.intro (keep_then (keep_far H5.out.2.2.1 (p := ⟨gb, 2, none⟩) (Nat.le_of_lt HG.out.1) (.int .i64 a)) k1) (And.intro (kb1 k1 HN.out.1 (blk_far H5.out.2.2.2.1 (Nat.ne_of_lt HG.out.1) _)) (kb1 k1 HG.out.2 (blk_upd (cs2 := Oc x t a 0) H5.out.2.2.2.2 rfl)))))); clear h1 p1 k1 kc kf; have kc : w6.cell? ⟨gb, 3, none⟩ = some (.int .i64 0) := (blk_cell H6.out.2.2.2.2 3).trans rfl; have kf := blk_frozen H6.out.2.2.2.2 3)
    | (go_at_call 107; refine (sign_calls w0 _ g b s2 HS.out (H4.out.1.other HG.out.2 HGE.out 1 _)).mono ?_; rintro e w5 ⟨a, s3, rfl, h1, p1, k1⟩; have H5 := Aside0.mk (And.intro h1 (And.intro p1 (And.intro (keep_then (keep_far H4.out.2.2.1 (p := ⟨gb, 1, none⟩) (Nat.le_of_lt HG.out.1) (.string t)) k1) (And.intro (kb1 k1 HN.out.1 (blk_far H4.out.2.2.2.1 (Nat.ne_of_lt HG.out.1) _)) (kb1 k1 HG.out.2 (blk_upd (cs2 := Oc x t 0 0) H4.out.2.2.2.2 rfl)))))); clear h1 p1 k1 kc kf; have kc : w5.cell? ⟨gb, 2, none⟩ = some (.int .i64 0) := (blk_cell H5.out.2.2.2.2 2).trans rfl; have kf := blk_frozen H5.out.2.2.2.2 2)
    | (go_at_call 115; refine (name_calls w0 _ g b s1 ⟨#[]⟩ HS.out H3.out.1).mono ?_; rintro e w4 ⟨t, s2, rfl, h1, p1, k1⟩; have H4 := Aside0.mk (And.intro h1 (And.intro p1 (And.intro (keep_then H3.out.2.1 k1) (And.intro (kb1 k1 HN.out.1 H3.out.2.2.1) (kb1 k1 HG.out.2 H3.out.2.2.2))))); clear h1 p1 k1; have kc : w4.cell? ⟨gb, 1, none⟩ = some (.string ⟨#[]⟩) := (blk_cell H4.out.2.2.2.2 1).trans rfl; have kf := blk_frozen H4.out.2.2.2.2 1)
    | ((with_reducible refine gate_dst (N := 16) rfl ?_); refine wpList_load_row rfl 29 (.tmp 3) rfl gb (by rfl) 29 (Oc x t a b2) (0, 0) _ (blk_upd (cs2 := Oc x t a b2) H6.out.2.2.2.2 rfl) hu rfl inf29 ?_; go_loud (refine wpList_store_row rfl 29 (.tmp 2) (.tmp 16) rfl w.heap.size (Oc x t a b2) (by rfl) (by rfl) 29 _ (blk_far H6.out.2.2.2.1 (Nat.ne_of_lt HG.out.1) _) inf29 rfl (by simp [Oc, Value.oneCell']) ?_)))
  have HX : ((w6.setCell ⟨gb, 3, none⟩ (.int .i64 b2)).setRow w.heap.size (Oc x t a b2)).heap[w.heap.size]? = some (.cells (Oc x t a b2) 29 (0, 0)) := setRow_blk (blk_far H6.out.2.2.2.1 (Nat.ne_of_lt HG.out.1) _) _
  refine bodyPost_ret (results_cell_row rfl _ _ w.heap.size 29 _ (0, 0) _ (by rfl) HX hu rfl inf29) rfl ?_
  exact ⟨⟨x, t, a, b2⟩, s4, rfl, (H6.out.1.other HG.out.2 HGE.out 3 _).row HN.out.1 HN.out.2 _, HP1.out.bnd (H4.out.2.1.bnd (H5.out.2.1.bnd (H6.out.2.1.bnd (Post.ret _ _)))), keep_row (keep_far H6.out.2.2.1 (p := ⟨gb, 3, none⟩) (Nat.le_of_lt HG.out.1) _) (Nat.le_refl _) _⟩
end Go.Proofs.Ytpgdmmjbhjbbhaa.Rf
end
section
namespace Go.Proofs.Ytpgdmmjbhjbbhaa.Lw
open Go Go.RowKit Go.Proofs.Ytpgdmmjbhjbbhaa.P Go.Proofs.Ytpgdmmjbhjbbhaa.Sp Go.Proofs.Ytpgdmmjbhjbbhaa.Vd Go.Proofs.Ytpgdmmjbhjbbhaa.En Go.Proofs.Ytpgdmmjbhjbbhaa.Wr Go.Proofs.Ytpgdmmjbhjbbhaa.Rd Go.Proofs.YtpgdmmjbhjbbhaaW.PrintWords Go.Proofs.YtpgdmmjbhjbbhaaW.PrintLast Go.Proofs.YtpgdmmjbhjbbhaaW.PrintMore
set_option linter.unusedVariables false
set_option linter.unusedSimpArgs false
theorem kM87 {w W : World} {base : Nat} : ∀ (x : S87) (cs : List Value), k87.K w x cs → k87.M W base (fun _ => False) x cs := fun x cs h => by
  obtain rfl := k87_open h
  exact k87_mkM _ _ _ x
theorem inf87 : (Try.prog.info? 87).map (fun i => (i.zero, i.size, i.bytes)) = some (some (.agg #[.string ⟨#[]⟩, .int .i64 0, .int .i64 0, .int .i64 0, .int .i64 0, .int .i64 0, .int .i64 0]), 7, 64) := by kernel_rfl
end Go.Proofs.Ytpgdmmjbhjbbhaa.Lw
end
section
namespace Go.Proofs.Ytpgdmmjbhjbbhaa.Rf
open Go Go.RowKit Go.Proofs.Ytpgdmmjbhjbbhaa.P Go.Proofs.Ytpgdmmjbhjbbhaa.Sp Go.Proofs.Ytpgdmmjbhjbbhaa.Vd Go.Proofs.Ytpgdmmjbhjbbhaa.En Go.Proofs.Ytpgdmmjbhjbbhaa.Wr Go.Proofs.Ytpgdmmjbhjbbhaa.Lw Go.Proofs.YtpgdmmjbhjbbhaaW.PrintWords Go.Proofs.YtpgdmmjbhjbbhaaW.PrintLast Go.Proofs.YtpgdmmjbhjbbhaaW.PrintMore
open Go.Proofs.Ytpgdmmjbhjbbhaa.Rd (pl setRow_far setRow_blk)
set_option linter.unusedVariables false
set_option linter.unusedSimpArgs false
def Vc (t : ByteArray) (c r v d u h : Int) : Array Value := #[.string t, .int .i64 c, .int .i64 r, .int .i64 v, .int .i64 d, .int .i64 u, .int .i64 h]
/-- On the way through a view: the reader, the view's box, the list so far. -/
structure VX (w0 w W : World) (g gb hi : Nat) (b : List Int) (s : R Unit) (cs : Array Value) (v : Value) (l : List S87) : Prop where
  st : RSt w0 W g b s
  kb : KeepBut w W g none
  box : W.heap[gb]? = some (.cells cs 87 (0, 0))
  row : Kd.R k87 87 W w.heap.size (fun k => w.heap.size ≤ k ∧ k < hi) v l
section
variable {w0 w W W1 : World} {g gb hi : Nat} {b : List Int} {s s1 : R Unit} {cs cs2 : Array Value} {v : Value} {l : List S87}
/-- Where all of it lies. -/
def VP (w0 w : World) (g gb hi : Nat) : Prop := g < w.heap.size ∧ w.heap.size ≤ gb ∧ hi ≤ gb ∧ w0.heap.size ≤ gb
theorem VX.call (h : VX w0 w W g gb hi b s cs v l) (hp : VP w0 w g gb hi) (h1 : RSt w0 W1 g b s1) (k1 : KeepBut W W1 g none) : VX w0 w W1 g gb hi b s1 cs v l :=
  ⟨h1, keep_then h.kb k1, kb1 k1 (by have := hp; unfold VP at this; omega) h.box, Kd.R_keep h.row k1 (fun k hk => by have := hp.1; omega)⟩
theorem VX.set (h : VX w0 w W g gb hi b s cs v l) (hp : VP w0 w g gb hi) (j : Nat) (u : Value) (hc : cs.setIfInBounds j u = cs2) : VX w0 w (W.setCell ⟨gb, j, none⟩ u) g gb hi b s cs2 v l :=
  ⟨h.st.other (by have := hp; unfold VP at this; omega) hp.2.2.2 j u, keep_far h.kb (p := ⟨gb, j, none⟩) hp.2.1 u, blk_upd h.box hc, Kd.R_far h.row (p := ⟨gb, j, none⟩) (fun k hk => by have := hp.2.2.1; show k ≠ gb; omega) u⟩
theorem VX.below (h : VX w0 w W g gb hi b s cs v l) (k : Below W.heap.size W W1) : VX w0 w W1 g gb hi b s cs v l :=
  ⟨h.st.below k, keep_then h.kb (KeepBut.of_below k g none), blk_keep k h.box, Kd.R_below h.row k⟩
theorem VX.app (h : VX w0 w W g gb hi b s cs v l) (hp : VP w0 w g gb hi) (hw : w0.heap.size ≤ w.heap.size) (hg : W.grownBy W1 v.ownBlock) : RSt w0 W1 g b s ∧ KeepBut w W1 g none ∧ W1.heap[gb]? = some (.cells cs 87 (0, 0)) := by
  have ho : ∀ k, v.ownBlock = some k → w.heap.size ≤ k ∧ k < hi := h.row.1
  unfold VP at hp
  have hgg : W1.heap[g]? = W.heap[g]? := hg.block g h.st.lt (fun e => by have := ho g e.symm; omega)
  refine ⟨?_, ⟨Nat.le_trans h.kb.1 hg.size, fun i hi2 h1 h2 => ?_⟩, blk_grown h.box hg (fun e => by have := ho gb e.symm; omega)⟩
  · obtain ⟨at_, wr, h1, h2, h3⟩ := h.st
    refine ⟨at_, wr, IsS_heap h1 hgg, h2, h3.trans ⟨hg.os, hg.tape, hg.output, hg.size, fun k hk => ?_⟩⟩
    have := h3.size
    exact hg.block k (by omega) (fun e => by have := ho k e.symm; omega)
  · have := h.kb.1
    exact (hg.block i (by omega) (fun e => by have := ho i e.symm; omega)).trans (h.kb.2 i hi2 h1 h2)
end
theorem view_post {a t : ByteArray} {c r v h : Int} {x : S25} {s2 s3 s4 s5 s6 s7 s8 : R Unit} (h1 : Post (nameP a) s2 t s3) (h2 : Post (numP 1 1099511627776) s3 c s4) (h3 : Post (numP 0 1099511627776) s4 r s5) (h4 : Post (numP 0 1099511627776) s5 v s6) (h5 : Post rightsP s6 x s7) (h6 : Post (numP 0 1099511627776) s7 h s8) : Post (viewP a) s2 ⟨t, c, r, v, x, h⟩ s8 := by
  have hb : (1099511627776 : Int) = big := rfl
  rw [hb] at h2 h3 h4 h6
  have hc : Post capP s3 (⟨c, r⟩ : S25) s5 := by
    unfold capP pairP
    exact h2.bnd (h3.bnd (Post.ret (⟨c, r⟩ : S25) _))
  unfold viewP
  exact h1.bnd (hc.bnd (h4.bnd (h5.bnd (h6.bnd (Post.ret (⟨t, c, r, v, x, h⟩ : S87) _)))))
theorem inf87s : (Try.prog.info? 87).map (·.size) = some 7 := by kernel_rfl
theorem R_step' {α : Type} {d : Kd α} {e base : Nat} {ok : Nat → Prop} {w w1 : World} {v : Value} {xs : List α} (h : d.R e w base ok v xs) (hk : ∀ k, ok k → w1.heap[k]? = w.heap[k]?) : d.R e w1 base ok v xs := Kd.R_step h (fun k ho _ => hk k ho)
set_option maxHeartbeats 8000000 in
set_option maxRecDepth 100000 in
theorem rviews_calls (w0 w : World) (g : Nat) (b : List Int) (s : R Unit) (hs : Src b) (h : RSt w0 w g b s) :
    Calls Try.prog 116 #[.pointer (some ⟨g, 0, none⟩)] w fun e w' => ∃ (l : List S87) (s' : R Unit) (v : Value), e = .returned v ∧ RSt w0 w' g b s' ∧ Post viewsP s l s' ∧ KeepBut w w' g none ∧ Kd.R k87 87 w' w.heap.size (fun k => w.heap.size ≤ k ∧ k < w'.heap.size) v l := by
  have HS := Aside0.mk hs
  have H0 := Aside0.mk (And.intro h (And.intro h.lt h.bel.size))
  clear hs h
  have hu87 := Try.underlying87
  have hu25 := Try.underlying25
  have hu132 := Try.underlying132
  go_enter Try.func116, Try.ntmps116
  go_upto_region 4 with (go_at_call 102; refine (num_calls w0 _ g b s 0 64 (by decide) (by decide) (by decide) HS.out H0.out.1).mono ?_; rintro e w1 ⟨n, s1, rfl, h1, p1, k1, r0, r1⟩; obtain ⟨n, rfl⟩ : ∃ m : Nat, n = (m : Int) := ⟨n.toNat, by omega⟩; have H1 : Aside0 (RSt w0 w1 g b s1 ∧ KeepBut w w1 g none ∧ n ≤ 64 ∧ ∀ (r : List S87) s', Post (viewsGo n eB) s1 r s' → Post viewsP s r s') := ⟨h1, k1, by omega, fun r s' hr => p1.bnd (by rw [Int.toNat_natCast]; exact hr)⟩; clear h1 p1 k1 r0 r1)
  go_loopw [3, 4, 5] (fun v3 v4 v5 wr => ∃ (m : Nat) (a : ByteArray) (l : List S87) (s2 : R Unit), v4 = .string a ∧ v5 = .int .i64 (m : Int) ∧ Aside0 (RSt w0 wr g b s2 ∧ KeepBut w wr g none ∧ l.length + m ≤ 64 ∧ (∀ (r : List S87) s', Post (viewsGo m a) s2 r s' → Post viewsP s (l ++ r) s') ∧ Kd.R k87 87 wr w.heap.size (fun k => w.heap.size ≤ k ∧ k < wr.heap.size) v3 l)) (fun _ _ v5 _ => (intOf v5).toNat)
  case atStart => exact ⟨n, eB, [], s1, rfl, rfl, ⟨H1.out.1, H1.out.2.1, by have := H1.out.2.2.1; simpa using this, fun r s' hr => by simpa using H1.out.2.2.2 r s' hr, Kd.R_nil _ _ _ _ _⟩⟩
  case round =>
    obtain ⟨m, a, l, s2, rfl, rfl, HQ⟩ := hrel
    obtain ⟨at2, wr2, hI, hSt, hB⟩ := HQ.out.1
    have HI := Aside0.mk hI
    obtain ⟨A, c, hb, ⟨hg, hcap⟩, hC⟩ := hI
    have kz2 := cellS132_2 hb
    have HST := Aside0.mk hSt
    clear hb hg hcap hC hB hSt
    have fin : (m = 0 ∨ wr2 = true) → Post viewsP s l s2 := fun hd => by
      have h2 := HQ.out.2.2.2.1 [] s2
      rw [List.append_nil] at h2
      refine h2 ?_
      rcases hd with rfl | rfl
      · exact Post.ret _ _
      · have := HST.out
        cases s2 with
        | bad k => rfl
        | ok u r => exact absurd this.1 (by decide)
    have HF := Aside0.mk fin
    clear fin
    by_cases hm : 0 < m
    · have hmI : (0 : Int) < (m : Int) := by omega
      have HM := Aside0.mk hm
      cases wr2 with
      | true =>
        go_wp2_with fail
        go_ret
        exact ⟨l, s2, _, rfl, HQ.out.1, HF.out (.inr (by simp)), HQ.out.2.1, HQ.out.2.2.2.2⟩
      | false =>
        go_upto_region 6 with fail
        clear kz2 HF HI HST
        go_upto_region 7 with (first
          | (go_at_call 115; refine (name_calls w0 _ g b s2 a HS.out HQ.out.1).mono ?_; rintro e w1 ⟨t, s3, rfl, h1, p1, k1⟩; have H2 := Aside0.mk (And.intro h1 (And.intro p1 k1)); clear h1 p1 k1)
          | ((with_reducible refine gate_dst (N := 6) rfl ?_); refine box_event ?hg (N := 6) ?hd (cs := #[.string ⟨#[]⟩, .int .i64 0, .int .i64 0, .int .i64 0, .int .i64 0, .int .i64 0, .int .i64 0]) (t := 87) ?hr ?_; (case hd => rfl); (case hg => rfl); (case hr => first | (go_simp; done) | (go_simp; rfl)); intro gb hg w2 hbox hb; have HG : Aside0 (gb = w1.heap.size) := ⟨hg⟩; have H3 := Aside0.mk (And.intro (H2.out.1.below hb) (And.intro (KeepBut.of_below hb g none) hbox)); clear hg hb hbox; go_loud (refine wpList_store_row rfl 87 (.tmp 6) (.tmp 23) rfl gb (Vc t 0 0 0 0 0 0) (by rfl) (by rfl) 87 _ H3.out.2.2 inf87s rfl (by simp [Vc, Value.oneCell']) ?_)))
        (try simp only [Act.put, List.setIfInBounds_toArray, List.set_cons_zero, List.set_cons_succ])
        obtain ⟨w3, hw3⟩ : ∃ w3, w3 = w2.setRow gb (Vc t 0 0 0 0 0 0) := ⟨_, rfl⟩
        have HVP : Aside0 (VP w0 w g gb wr.heap.size) := ⟨by
          have h1 := H0.out.2.1
          have h2 := HG.out
          have h3 := H2.out.2.2.1
          have h4 := HQ.out.2.1.1
          have h5 := H0.out.2.2
          exact ⟨h1, by omega, by omega, by omega⟩⟩
        have V1 : Aside0 (VX w0 w w3 g gb wr.heap.size b s3 (Vc t 0 0 0 0 0 0) u3 l) := ⟨by
          have hk := keep_then H2.out.2.2 H3.out.2.1
          have hp := HVP.out
          unfold VP at hp
          rw [hw3]
          refine ⟨H3.out.1.row (by omega) hp.2.2.2 _, keep_row (keep_then HQ.out.2.1 hk) hp.2.1 _, setRow_blk H3.out.2.2 _, ?_⟩
          exact R_step' (Kd.R_keep HQ.out.2.2.2.2 hk (fun k hk => by omega)) (fun k hk => setRow_far (by omega) _)⟩
        rw [← hw3]
        clear hw3 H3
        go_upto_region 11 with (first
          | (go_at_call 118; refine (rights_calls w0 _ g b s6 HS.out (V4.out.1.set HVP.out 3 (.int .i64 v1) (cs2 := Vc t c1 r1 v1 0 0 0) rfl).st).mono ?_; rintro e w6 ⟨x, s7, rfl, h1, p1, k1⟩; have V5 := Aside0.mk (And.intro ((V4.out.1.set HVP.out 3 (.int .i64 v1) (cs2 := Vc t c1 r1 v1 0 0 0) rfl).call HVP.out h1 k1) p1); clear h1 p1 k1 kc kf; have kc4 : w6.cell? ⟨gb, 4, none⟩ = some (.int .i64 0) := (blk_cell V5.out.1.box 4).trans rfl; have kf4 := blk_frozen V5.out.1.box 4; have kc5 : w6.cell? ⟨gb, 5, none⟩ = some (.int .i64 0) := (blk_cell V5.out.1.box 5).trans rfl; have kf5 := blk_frozen V5.out.1.box 5)
          | (go_at_call 102; refine (num_calls w0 _ g b s5 0 1099511627776 (by decide) (by decide) (by decide) HS.out (V3.out.1.set HVP.out 2 (.int .i64 r1) (cs2 := Vc t c1 r1 0 0 0 0) rfl).st).mono ?_; rintro e w5 ⟨v1, s6, rfl, h1, p1, k1, -, -⟩; have V4 := Aside0.mk (And.intro (((V3.out.1.set HVP.out 2 (.int .i64 r1) (cs2 := Vc t c1 r1 0 0 0 0) rfl)).call HVP.out h1 k1) p1); clear h1 p1 k1; (try clear kc kf); have kc : w5.cell? ⟨gb, 3, none⟩ = some (.int .i64 0) := (blk_cell V4.out.1.box 3).trans rfl; have kf := blk_frozen V4.out.1.box 3)
          | (go_at_call 102; refine (num_calls w0 _ g b s4 0 1099511627776 (by decide) (by decide) (by decide) HS.out (V2.out.1.set HVP.out 1 (.int .i64 c1) (cs2 := Vc t c1 0 0 0 0 0) rfl).st).mono ?_; rintro e w4 ⟨r1, s5, rfl, h1, p1, k1, -, -⟩; have V3 := Aside0.mk (And.intro (((V2.out.1.set HVP.out 1 (.int .i64 c1) (cs2 := Vc t c1 0 0 0 0 0) rfl)).call HVP.out h1 k1) p1); clear h1 p1 k1; (try clear kc kf); have kc : w4.cell? ⟨gb, 2, none⟩ = some (.int .i64 0) := (blk_cell V3.out.1.box 2).trans rfl; have kf := blk_frozen V3.out.1.box 2)
          | (go_at_call 102; refine (num_calls w0 _ g b s3 1 1099511627776 (by decide) (by decide) (by decide) HS.out V1.out.st).mono ?_; rintro e w3 ⟨c1, s4, rfl, h1, p1, k1, -, -⟩; have V2 := Aside0.mk (And.intro ((V1.out).call HVP.out h1 k1) p1); clear h1 p1 k1; (try clear kc kf); have kc : w3.cell? ⟨gb, 1, none⟩ = some (.int .i64 0) := (blk_cell V2.out.1.box 1).trans rfl; have kf := blk_frozen V2.out.1.box 1))
        have V6 : Aside0 (VX w0 w ((w6.setCell ⟨gb, 4, none⟩ (.int .i64 x.f0)).setCell ⟨gb, 5, none⟩ (.int .i64 x.f1)) g gb wr.heap.size b s7 (Vc t c1 r1 v1 x.f0 x.f1 0) u3 l) := ⟨(V5.out.1.set HVP.out 4 (.int .i64 x.f0) (cs2 := Vc t c1 r1 v1 x.f0 0 0) rfl).set HVP.out 5 (.int .i64 x.f1) (cs2 := Vc t c1 r1 v1 x.f0 x.f1 0) rfl⟩
        clear kc4 kc5 kf4 kf5
        go_upto_region 12 with (go_at_call 102; refine (num_calls w0 _ g b s7 0 1099511627776 (by decide) (by decide) (by decide) HS.out V6.out.st).mono ?_; rintro e w7 ⟨h, s8, rfl, h1, p1, k1, -, -⟩; have V7 := Aside0.mk (And.intro (V6.out.call HVP.out h1 k1) p1); clear h1 p1 k1; have kc : w7.cell? ⟨gb, 6, none⟩ = some (.int .i64 0) := (blk_cell V7.out.1.box 6).trans rfl; have kf := blk_frozen V7.out.1.box 6)
        obtain ⟨w8, hw8⟩ : ∃ w8, w8 = w7.setCell ⟨gb, 6, none⟩ (.int .i64 h) := ⟨_, rfl⟩
        have V8 : Aside0 (VX w0 w w8 g gb wr.heap.size b s8 (Vc t c1 r1 v1 x.f0 x.f1 h) u3 l) := ⟨by rw [hw8]; exact V7.out.1.set HVP.out 6 (.int .i64 h) rfl⟩
        rw [← hw8]
        clear hw8 kc kf
        have HPV : Aside0 (Post (viewP a) s2 ⟨t, c1, r1, v1, x, h⟩ s8) := ⟨view_post H2.out.2.1 V2.out.2 V3.out.2 V4.out.2 V5.out.2 V7.out.2⟩
        have V9 : Aside0 (VX w0 w (w8.alloc (.cells #[.string t, .int .i64 c1, .int .i64 r1, .int .i64 v1, .int .i64 x.f0, .int .i64 x.f1, .int .i64 h] 87 (0, 0))) g gb wr.heap.size b s8 (Vc t c1 r1 v1 x.f0 x.f1 h) u3 l ∧ Kd.C k87 (w8.alloc (.cells #[.string t, .int .i64 c1, .int .i64 r1, .int .i64 v1, .int .i64 x.f0, .int .i64 x.f1, .int .i64 h] 87 (0, 0))) (some ⟨w8.heap.size, 0, none⟩) 1 [⟨t, c1, r1, v1, x, h⟩]) := ⟨V8.out.below (al_below w8 _), views_row (xs := [⟨t, c1, r1, v1, x, h⟩]) (heap_alloc_new w8 _) (by simp)⟩
        have HL9 : Aside0 ((l.length + 1) * 64 ≤ 140737488355328) := ⟨by have := HQ.out.2.2.1; omega⟩
        clear H2 V1 V2 V3 V4 V5 V6 V7
        go_upto_region 13 with (first
          | ((with_reducible refine gate_dst (N := 40) rfl ?_); refine wpList_load_row rfl 87 (.tmp 6) rfl gb (by rfl) 87 #[.string t, .int .i64 c1, .int .i64 r1, .int .i64 v1, .int .i64 x.f0, .int .i64 x.f1, .int .i64 h] (0, 0) _ V8.out.box hu87 rfl inf87s ?_)
          | ((with_reducible refine gate_dst (N := 42) rfl ?_); refine Kd.R_append_rows k87 (Rr := Kd.K k87 _) (w0 := w8.alloc (.cells #[.string t, .int .i64 c1, .int .i64 r1, .int .i64 v1, .int .i64 x.f0, .int .i64 x.f1, .int .i64 h] 87 (0, 0))) w.heap.size rfl (.tmp 39) (.tmp 41) 31 87 _ 64 (by rfl) Try.underlying31 inf87 rfl (by decide) (by decide) u3 l [⟨t, c1, r1, v1, x, h⟩] (some ⟨w8.heap.size, 0, none⟩) 1 1 (fun k => w.heap.size ≤ k) (fun _ => False) (by rfl) (by rfl) (Kd.R_mono V9.out.1.row (fun k hk => hk.1)) V9.out.2 kM87 (fun _ hk => hk.elim) (fun k hk => Nat.le_trans V9.out.1.kb.1 hk) (Below.refl _ _) V9.out.1.kb.1 HL9.out ?_; intro v10 w10 hR hB hg hat; have HA := Aside0.mk (And.intro hR (V9.out.1.app HVP.out H0.out.2.2 hg)); clear hR hB hg hat; have kc : w10.cell? ⟨gb, 0, none⟩ = some (.string t) := (blk_cell HA.out.2.2.2 0).trans rfl))
        have HNX : Aside0 (∀ (r : List S87) s', Post (viewsGo (m - 1) t) s8 r s' → Post viewsP s ((l ++ [⟨t, c1, r1, v1, x, h⟩]) ++ r) s') := ⟨fun r s' hr => by
          have h2 := HQ.out.2.2.2.1 (⟨t, c1, r1, v1, x, h⟩ :: r) s'
          rw [show l ++ (⟨t, c1, r1, v1, x, h⟩ : S87) :: r = (l ++ [⟨t, c1, r1, v1, x, h⟩]) ++ r by simp, show m = (m - 1) + 1 by have := HM.out; omega] at h2
          refine h2 ?_
          show Post (bnd (viewP a) fun v => bnd (viewsGo (m - 1) v.f0) fun r => Sp.ret (v :: r)) s2 _ s'
          exact HPV.out.bnd (hr.bnd (Post.ret _ _))⟩
        have HFI : Aside0 (RSt w0 w10 g b s8 ∧ KeepBut w w10 g none ∧ (l ++ [(⟨t, c1, r1, v1, x, h⟩ : S87)]).length + (m - 1) ≤ 64 ∧ (∀ (r : List S87) s', Post (viewsGo (m - 1) t) s8 r s' → Post viewsP s ((l ++ [⟨t, c1, r1, v1, x, h⟩]) ++ r) s') ∧ Kd.R k87 87 w10 w.heap.size (fun k => w.heap.size ≤ k ∧ k < w10.heap.size) v10 (l ++ [⟨t, c1, r1, v1, x, h⟩])) := ⟨HA.out.2.1, HA.out.2.2.1, by have h1 := HQ.out.2.2.1; have h2 := HM.out; simp only [List.length_append, List.length_cons, List.length_nil]; omega, HNX.out, Kd.R_mono (Kd.R_bound HA.out.1) (fun k hk => ⟨hk.2.1, hk.2.2.1⟩)⟩
        have hm64 : (m : Int) ≤ 64 := by have := HQ.out.2.2.1; omega
        clear HNX HA HPV V8 V9 HL9 HQ HVP HG
        go_wp2_with fail
        go_roundw
        case rel => exact ⟨m - 1, t, _, s8, rfl, by have := HM.out; first | (go_num; omega) | go_num | (congr 1; omega), HFI⟩
        case measure => simp only [intOf]; have := HM.out; first | omega | (go_num; omega) | (simp; omega)
    · have hmI : ¬ ((0 : Int) < (m : Int)) := by omega
      go_wp2_with fail
      go_ret
      exact ⟨l, s2, _, rfl, HQ.out.1, HF.out (.inl (by omega)), HQ.out.2.1, HQ.out.2.2.2.2⟩
end Go.Proofs.Ytpgdmmjbhjbbhaa.Rf
end
section
namespace Go.Proofs.Ytpgdmmjbhjbbhaa.Rf
open Go Go.RowKit Go.Proofs.Ytpgdmmjbhjbbhaa.P Go.Proofs.Ytpgdmmjbhjbbhaa.Sp Go.Proofs.Ytpgdmmjbhjbbhaa.Vd Go.Proofs.Ytpgdmmjbhjbbhaa.En Go.Proofs.Ytpgdmmjbhjbbhaa.Wr Go.Proofs.Ytpgdmmjbhjbbhaa.Lw Go.Proofs.YtpgdmmjbhjbbhaaW.PrintWords Go.Proofs.YtpgdmmjbhjbbhaaW.PrintLast Go.Proofs.YtpgdmmjbhjbbhaaW.PrintMore
open Go.Proofs.Ytpgdmmjbhjbbhaa.Rd (pl setRow_far setRow_blk mv_zero mv_one)
set_option linter.unusedVariables false
set_option linter.unusedSimpArgs false
theorem opt_yes {α : Type} {c : Prop} [Decidable c] {z x : α} {p : Rdr α} {s s' : R Unit} (hc : c) (h : Post p s x s') : Post (optP c z p) s x s' := by unfold optP; rw [if_pos hc]; exact h
theorem opt_no {α : Type} {c : Prop} [Decidable c] {z : α} {p : Rdr α} {s : R Unit} (hc : ¬ c) : Post (optP c z p) s z s := by unfold optP; rw [if_neg hc]; exact Post.ret _ _
theorem cap_post {c r : Int} {s s1 s2 : R Unit} (h2 : Post (numP 1 1099511627776) s c s1) (h3 : Post (numP 0 1099511627776) s1 r s2) : Post capP s (⟨c, r⟩ : S25) s2 := by
  have hb : (1099511627776 : Int) = big := rfl
  rw [hb] at h2 h3
  unfold capP pairP
  exact h2.bnd (h3.bnd (Post.ret (⟨c, r⟩ : S25) _))
theorem held_post {h : Int} {s s1 : R Unit} (h2 : Post (numP 0 1099511627776) s h s1) : Post (numP 0 big) s h s1 := by
  have hb : (1099511627776 : Int) = big := rfl
  rw [hb] at h2
  exact h2
theorem of_post {k : Int} {t : ByteArray} {q ep ov rt : S25} {h : Int} {s1 s2 s3 s4 s5 s6 s7 : R Unit} (h1 : Post (nameP eB) s1 t s2) (hc : Post capP s2 q s3) (he : Post (optP (hasEp k) z25 epochP) s3 ep s4) (ho : Post (optP (k = 7) z25 epochP) s4 ov s5) (hr : Post (optP (hasRt k) z25 rightsP) s5 rt s6) (hh : Post (optP (k = 4) 0 (numP 0 big)) s6 h s7) : Post (ofP k) s1 (mOf k t q ep ov rt h) s7 := by
  unfold ofP
  exact h1.bnd (hc.bnd (he.bnd (ho.bnd (hr.bnd (hh.bnd (Post.ret _ _))))))
theorem bad_post {α : Type} {p : Rdr α} {n : Nat} {x : α} {s' : R Unit} (h : Post p (.bad n) x s') : s' = .bad n := h
theorem rest_of {k : Int} (h1 : k ≠ 1) (h2 : k ≠ 2) (h3 : k ≠ 10) : restP k = ofP k := by unfold restP; rw [if_neg h1, if_neg h2, if_neg h3]
/-- A kind that was read, or the reader is wrong. -/
theorem kind_bad {s s1 : R Unit} (h : Post (numP 1 10) s 0 s1) : ∃ n, s1 = .bad n := by
  cases s1 with
  | bad n => exact ⟨n, rfl⟩
  | ok u r =>
    obtain ⟨l, _, hp⟩ := h.okS
    unfold numP at hp
    cases hr : rawP l with
    | bad n => rw [hr] at hp; cases hp
    | ok n r2 =>
      rw [hr] at hp
      simp only at hp
      split at hp
      · rename_i hc
        injection hp with h1 _
        rw [h1] at hc
        exact absurd hc.1 (by decide)
      · cases hp
structure MX (w0 w W : World) (g gb : Nat) (b : List Int) (s : R Unit) (cs : Array Value) : Prop where
  st : RSt w0 W g b s
  kb : KeepBut w W g none
  res : W.heap[w.heap.size]? = some (.cells (MVc zMsg none 0) 33 (0, 0))
  box : W.heap[gb]? = some (.cells cs 33 (0, 0))
section
variable {w0 w W W1 : World} {g gb : Nat} {b : List Int} {s s1 : R Unit} {cs cs2 : Array Value}
def MP (w0 w : World) (g gb : Nat) : Prop := g < w.heap.size ∧ w.heap.size < gb ∧ w0.heap.size ≤ w.heap.size
theorem MX.call (h : MX w0 w W g gb b s cs) (hp : MP w0 w g gb) (h1 : RSt w0 W1 g b s1) (k1 : KeepBut W W1 g none) : MX w0 w W1 g gb b s1 cs :=
  ⟨h1, keep_then h.kb k1, kb1 k1 (by have := hp; unfold MP at this; omega) h.res, kb1 k1 (by have := hp; unfold MP at this; omega) h.box⟩
theorem MX.set (h : MX w0 w W g gb b s cs) (hp : MP w0 w g gb) (j : Nat) (u : Value) (hc : cs.setIfInBounds j u = cs2) : MX w0 w (W.setCell ⟨gb, j, none⟩ u) g gb b s cs2 :=
  ⟨h.st.other (by have := hp; unfold MP at this; omega) (by have := hp; unfold MP at this; omega) j u, keep_far h.kb (p := ⟨gb, j, none⟩) (Nat.le_of_lt hp.2.1) u, blk_far h.res (Nat.ne_of_lt hp.2.1) u, blk_upd h.box hc⟩
theorem MX.done (h : MX w0 w W g gb b s cs) (hp : MP w0 w g gb) (cs2 : Array Value) : RSt w0 (W.setRow w.heap.size cs2) g b s ∧ KeepBut w (W.setRow w.heap.size cs2) g none ∧ (W.setRow w.heap.size cs2).heap[w.heap.size]? = some (.cells cs2 33 (0, 0)) :=
  ⟨h.st.row (by have := hp; unfold MP at this; omega) hp.2.2 _, keep_row h.kb (Nat.le_refl _) _, setRow_blk h.res _⟩
/-- What a message's reading leaves. -/
def RMsg (w0 w : World) (g : Nat) (b : List Int) (s : R Unit) (e : Ending) (w' : World) : Prop :=
  ∃ (m : Msg) (s' : R Unit) (A : Option Addr) (c : Nat), e = .returned (.agg (MVc m A c)) ∧ RSt w0 w' g b s' ∧ Post msgP s m s' ∧ KeepBut w w' g none ∧ Kd.R k87 87 w' w.heap.size (fun k => w.heap.size ≤ k ∧ k < w'.heap.size) (.slice A m.views.length c) m.views
theorem MX.end_ (h : MX w0 w W g gb b s1 cs) (hp : MP w0 w g gb) (m : Msg) (hm : m.views = []) (hpo : Post msgP s m s1) : RMsg w0 w g b s (.returned (.agg (MVc m none 0))) (W.setRow w.heap.size (MVc m none 0)) := by
  have h2 := h.done hp (MVc m none 0)
  exact ⟨m, s1, none, 0, rfl, h2.1, hpo, h2.2.1, by rw [hm]; exact Kd.R_nil _ _ _ _ _⟩
end
set_option maxHeartbeats 8000000 in
set_option maxRecDepth 100000 in
theorem rmsg_calls (w0 w : World) (g : Nat) (b : List Int) (s : R Unit) (hs : Src b) (h : RSt w0 w g b s) :
    Calls Try.prog 92 #[.pointer (some ⟨g, 0, none⟩)] w (RMsg w0 w g b s) := by
  have HS := Aside0.mk hs
  obtain ⟨wa, hwa⟩ : ∃ wa, wa = w.alloc (.cells (MVc zMsg none 0) 33 (0, 0)) := ⟨_, rfl⟩
  have HWA := Aside0.mk hwa
  rw [mv_zero] at HWA
  have H0 : Aside0 (RSt w0 wa g b s ∧ KeepBut w wa g none ∧ wa.heap[w.heap.size]? = some (.cells (MVc zMsg none 0) 33 (0, 0)) ∧ wa.heap.size = w.heap.size + 1 ∧ g < w.heap.size ∧ w0.heap.size ≤ w.heap.size) := ⟨by rw [hwa]; exact ⟨h.al _, KeepBut.of_below (al_below w _) _ _, heap_alloc_new w _, by simp, h.lt, h.bel.size⟩⟩
  clear hs h hwa
  have hu33 := Try.underlying33
  have hu23 := Try.underlying23
  have hu25 := Try.underlying25
  have hu27 := Try.underlying27
  have hu29 := Try.underlying29
  go_enter Try.func92, Try.ntmps92
  go_upto_region 1 with fail
  rw [← HWA.out]
  go_upto_region 2 with (first
    | (go_at_call 102; refine (num_calls w0 _ g b s 1 10 (by decide) (by decide) (by decide) HS.out H0.out.1).mono ?_; rintro e w1 ⟨k, s1, rfl, h1, p1, k1, r0, r1⟩; have H1 : Aside0 (RSt w0 w1 g b s1 ∧ Post (numP 1 10) s k s1 ∧ KeepBut w w1 g none ∧ w1.heap[w.heap.size]? = some (.cells (MVc zMsg none 0) 33 (0, 0)) ∧ w.heap.size < w1.heap.size ∧ 0 ≤ k ∧ k ≤ 10) := ⟨h1, p1, keep_then H0.out.2.1 k1, kb1 k1 (by have := H0.out.2.2.2.2.1; omega) H0.out.2.2.1, by have := k1.1; have := H0.out.2.2.2.1; omega, r0, r1⟩; clear h1 p1 k1 r0 r1)
    | ((with_reducible refine gate_dst (N := 3) rfl ?_); refine box_event ?hg (N := 3) ?hd (cs := #[.int .i64 0, .string ⟨#[]⟩, .int .i64 0, .int .i64 0, .int .i64 0, .int .i64 0, .int .i64 0, .int .i64 0, .int .i64 0, .int .i64 0, .int .i64 0, .int .i64 0, .int .i64 0, .int .i64 0, .string ⟨#[]⟩, .int .i64 0, .int .i64 0, .int .i64 0, .int .i64 0, .slice none 0 0]) (t := 33) ?hr ?_; (case hd => rfl); (case hg => rfl); (case hr => first | (go_simp; done) | (go_simp; rfl)); intro gb hg w2 hbox hb; have HG : Aside0 (gb = w1.heap.size) := ⟨hg⟩; have H2 := Aside0.mk (And.intro (H1.out.1.below hb) (And.intro (keep_then H1.out.2.2.1 (KeepBut.of_below hb g none)) (And.intro (blk_keep hb H1.out.2.2.2.1) hbox))); clear hg hb hbox; go_loud (refine wpList_store_row rfl 33 (.tmp 3) (.tmp 6) rfl gb (MVc { zMsg with kind := k } none 0) (by rfl) (by rfl) 33 _ H2.out.2.2.2 inf33 rfl (mv_one _ _ _) ?_)))
  (try simp only [Act.put, List.setIfInBounds_toArray, List.set_cons_zero, List.set_cons_succ])
  obtain ⟨w3, hw3⟩ : ∃ w3, w3 = w2.setRow gb (MVc { zMsg with kind := k } none 0) := ⟨_, rfl⟩
  have HMP : Aside0 (MP w0 w g gb) := ⟨by have := HG.out; have := H0.out; have := H1.out.2.2.2.2.1; unfold MP; omega⟩
  have M1 : Aside0 (MX w0 w w3 g gb b s1 (MVc { zMsg with kind := k } none 0)) := ⟨by
    have hp := HMP.out
    unfold MP at hp
    rw [hw3]
    exact ⟨H2.out.1.row (by omega) (by omega) _, keep_row H2.out.2.1 (by omega) _, (setRow_far (by omega) _).trans H2.out.2.2.1, setRow_blk H2.out.2.2.2 _⟩⟩
  have HK : Aside0 (Post (numP 1 10) s k s1 ∧ 0 ≤ k ∧ k ≤ 10) := ⟨H1.out.2.1, H1.out.2.2.2.2.2⟩
  rw [← hw3]
  clear hw3 H0 H1 H2 HG HWA
  have kk : w3.cell? ⟨gb, 0, none⟩ = some (.int .i64 k) := (blk_cell M1.out.box 0).trans rfl
  by_cases k1 : k = 1
  · have t1 : (k == 1) = true := by simp [k1]
    have HKI := Aside0.mk k1
    clear k1
    go_upto_region 6 with (first
      | (go_at_call 105; refine (op_calls w0 _ g b s2 HS.out ((M2.out.1.set HMP.out 11 (.int .i64 x.f0) rfl).set HMP.out 12 (.int .i64 x.f1) (cs2 := MVc { zMsg with kind := k, call := x } none 0) rfl).st).mono ?_; rintro e w5 ⟨o, s3, rfl, h1, p1, k1⟩; have M3 := Aside0.mk (And.intro (((M2.out.1.set HMP.out 11 (.int .i64 x.f0) rfl).set HMP.out 12 (.int .i64 x.f1) (cs2 := MVc { zMsg with kind := k, call := x } none 0) rfl).call HMP.out h1 k1) p1); clear h1 p1 k1 kc11 kf11 kc12 kf12; have kc13 : w5.cell? ⟨gb, 13, none⟩ = some (.int .i64 0) := (blk_cell M3.out.1.box 13).trans rfl; have kf13 := blk_frozen M3.out.1.box 13; have kc14 : w5.cell? ⟨gb, 14, none⟩ = some (.string ⟨#[]⟩) := (blk_cell M3.out.1.box 14).trans rfl; have kf14 := blk_frozen M3.out.1.box 14; have kc15 : w5.cell? ⟨gb, 15, none⟩ = some (.int .i64 0) := (blk_cell M3.out.1.box 15).trans rfl; have kf15 := blk_frozen M3.out.1.box 15; have kc16 : w5.cell? ⟨gb, 16, none⟩ = some (.int .i64 0) := (blk_cell M3.out.1.box 16).trans rfl; have kf16 := blk_frozen M3.out.1.box 16)
      | (go_at_call 104; refine (call_calls w0 _ g b s1 HS.out M1.out.st).mono ?_; rintro e w4 ⟨x, s2, rfl, h1, p1, k1⟩; have M2 := Aside0.mk (And.intro (M1.out.call HMP.out h1 k1) p1); clear h1 p1 k1 kk; have kc11 : w4.cell? ⟨gb, 11, none⟩ = some (.int .i64 0) := (blk_cell M2.out.1.box 11).trans rfl; have kf11 := blk_frozen M2.out.1.box 11; have kc12 : w4.cell? ⟨gb, 12, none⟩ = some (.int .i64 0) := (blk_cell M2.out.1.box 12).trans rfl; have kf12 := blk_frozen M2.out.1.box 12))
    clear kc13 kf13 kc14 kf14 kc15 kf15 kc16 kf16
    have MZ : Aside0 (MX w0 w _ g gb b s3 (MVc (mAsk k x o) none 0)) := ⟨((((M3.out.1.set HMP.out 13 (.int .i64 o.kind) rfl).set HMP.out 14 (.string o.name) rfl).set HMP.out 15 (.int .i64 o.a) rfl).set HMP.out 16 (.int .i64 o.b) (cs2 := MVc (mAsk k x o) none 0) rfl)⟩
    go_wp2_with ((with_reducible refine gate_dst (N := 17) rfl ?_); refine wpList_load_row rfl 33 (.tmp 3) rfl gb (by rfl) 33 (MVc (mAsk k x o) none 0) (0, 0) _ MZ.out.box hu33 rfl inf33 ?_; go_loud (refine wpList_store_row rfl 33 (.tmp 2) (.tmp 17) rfl w.heap.size (MVc (mAsk k x o) none 0) (by rfl) (by rfl) 33 _ MZ.out.res inf33 rfl (mv_one _ _ _) ?_))
    refine bodyPost_ret (results_cell_row rfl _ _ w.heap.size 33 _ (0, 0) _ (by rfl) (MZ.out.done HMP.out _).2.2 hu33 rfl inf33) rfl ?_
    exact MZ.out.end_ HMP.out _ rfl (HK.out.1.bnd (show Post (restP k) s1 (mAsk k x o) s3 from by unfold restP; rw [if_pos HKI.out]; exact M2.out.2.bnd (M3.out.2.bnd (Post.ret _ _))))
  have t1 : (k == 1) = false := by simp [k1]
  by_cases k2 : k = 2
  · have t2 : (k == 2) = true := by simp [k2]
    have HKI := Aside0.mk (And.intro k1 k2)
    clear k1 k2
    go_upto_region 11 with (first
      | (go_at_call 102; refine (num_calls w0 _ g b s3 0 255 (by decide) (by decide) (by decide) HS.out (M3.out.1.set HMP.out 1 (.string t) (cs2 := MVc { zMsg with kind := k, call := x, name := t } none 0) rfl).st).mono ?_; rintro e w6 ⟨er, s4, rfl, h1, p1, k1, -, -⟩; have M4 := Aside0.mk (And.intro ((M3.out.1.set HMP.out 1 (.string t) (cs2 := MVc { zMsg with kind := k, call := x, name := t } none 0) rfl).call HMP.out h1 k1) p1); clear h1 p1 k1 kc1 kf1; have kc17 : w6.cell? ⟨gb, 17, none⟩ = some (.int .i64 0) := (blk_cell M4.out.1.box 17).trans rfl; have kf17 := blk_frozen M4.out.1.box 17)
      | (go_at_call 115; refine (name_calls w0 _ g b s2 ⟨#[]⟩ HS.out ((M2.out.1.set HMP.out 11 (.int .i64 x.f0) rfl).set HMP.out 12 (.int .i64 x.f1) (cs2 := MVc { zMsg with kind := k, call := x } none 0) rfl).st).mono ?_; rintro e w5 ⟨t, s3, rfl, h1, p1, k1⟩; have M3 := Aside0.mk (And.intro (((M2.out.1.set HMP.out 11 (.int .i64 x.f0) rfl).set HMP.out 12 (.int .i64 x.f1) (cs2 := MVc { zMsg with kind := k, call := x } none 0) rfl).call HMP.out h1 k1) p1); clear h1 p1 k1 kc11 kf11 kc12 kf12; have kc1 : w5.cell? ⟨gb, 1, none⟩ = some (.string ⟨#[]⟩) := (blk_cell M3.out.1.box 1).trans rfl; have kf1 := blk_frozen M3.out.1.box 1)
      | (go_at_call 104; refine (call_calls w0 _ g b s1 HS.out M1.out.st).mono ?_; rintro e w4 ⟨x, s2, rfl, h1, p1, k1⟩; have M2 := Aside0.mk (And.intro (M1.out.call HMP.out h1 k1) p1); clear h1 p1 k1 kk; have kc11 : w4.cell? ⟨gb, 11, none⟩ = some (.int .i64 0) := (blk_cell M2.out.1.box 11).trans rfl; have kf11 := blk_frozen M2.out.1.box 11; have kc12 : w4.cell? ⟨gb, 12, none⟩ = some (.int .i64 0) := (blk_cell M2.out.1.box 12).trans rfl; have kf12 := blk_frozen M2.out.1.box 12))
    clear kc17 kf17
    obtain ⟨w7, hw7⟩ : ∃ w7, w7 = w6.setCell ⟨gb, 17, none⟩ (.int .i64 er) := ⟨_, rfl⟩
    have M5 : Aside0 (MX w0 w w7 g gb b s4 (MVc { zMsg with kind := k, call := x, name := t, err := er } none 0)) := ⟨by rw [hw7]; exact (M4.out.1.set HMP.out 17 (.int .i64 er) (cs2 := MVc { zMsg with kind := k, call := x, name := t, err := er } none 0) rfl)⟩
    rw [← hw7]
    clear hw7
    have ke : w7.cell? ⟨gb, 17, none⟩ = some (.int .i64 er) := (blk_cell M5.out.box 17).trans rfl
    by_cases q0 : er = 0
    · have e0 : (er == 0) = true := by simp [q0]
      have HQ0 := Aside0.mk q0
      clear q0
      go_upto_region 14 with (first
        | (go_at_call 102; refine (num_calls w0 _ g b s6 0 1099511627776 (by decide) (by decide) (by decide) HS.out (M6.out.1.set HMP.out 2 (.int .i64 cp) (cs2 := MVc { zMsg with kind := k, call := x, name := t, err := er, cap := cp } none 0) rfl).st).mono ?_; rintro e w9 ⟨rc, s7, rfl, h1, p1, k1, -, -⟩; have M7 := Aside0.mk (And.intro ((M6.out.1.set HMP.out 2 (.int .i64 cp) (cs2 := MVc { zMsg with kind := k, call := x, name := t, err := er, cap := cp } none 0) rfl).call HMP.out h1 k1) p1); clear h1 p1 k1 kc2 kf2; have kc3 : w9.cell? ⟨gb, 3, none⟩ = some (.int .i64 0) := (blk_cell M7.out.1.box 3).trans rfl; have kf3 := blk_frozen M7.out.1.box 3)
        | (go_at_call 102; refine (num_calls w0 _ g b s4 1 1099511627776 (by decide) (by decide) (by decide) HS.out M5.out.st).mono ?_; rintro e w8 ⟨cp, s6, rfl, h1, p1, k1, -, -⟩; have M6 := Aside0.mk (And.intro (M5.out.call HMP.out h1 k1) p1); clear h1 p1 k1 ke; have kc2 : w8.cell? ⟨gb, 2, none⟩ = some (.int .i64 0) := (blk_cell M6.out.1.box 2).trans rfl; have kf2 := blk_frozen M6.out.1.box 2))
      clear kc3 kf3
      have MZ : Aside0 (MX w0 w _ g gb b s7 (MVc (mTold k x t er ⟨cp, rc⟩) none 0)) := ⟨(M7.out.1.set HMP.out 3 (.int .i64 rc) (cs2 := MVc (mTold k x t er ⟨cp, rc⟩) none 0) rfl)⟩
      go_wp2_with ((with_reducible refine gate_dst (N := 43) rfl ?_); refine wpList_load_row rfl 33 (.tmp 3) rfl gb (by rfl) 33 (MVc (mTold k x t er ⟨cp, rc⟩) none 0) (0, 0) _ MZ.out.box hu33 rfl inf33 ?_; go_loud (refine wpList_store_row rfl 33 (.tmp 2) (.tmp 43) rfl w.heap.size (MVc (mTold k x t er ⟨cp, rc⟩) none 0) (by rfl) (by rfl) 33 _ MZ.out.res inf33 rfl (mv_one _ _ _) ?_))
      refine bodyPost_ret (results_cell_row rfl _ _ w.heap.size 33 _ (0, 0) _ (by rfl) (MZ.out.done HMP.out _).2.2 hu33 rfl inf33) rfl ?_
      exact MZ.out.end_ HMP.out _ rfl (HK.out.1.bnd (show Post (restP k) s1 (mTold k x t er (⟨cp, rc⟩ : S25)) s7 from by unfold restP; rw [if_neg HKI.out.1, if_pos HKI.out.2]; exact M2.out.2.bnd (M3.out.2.bnd (M4.out.2.bnd ((opt_yes (Or.inl HQ0.out) (cap_post M6.out.2 M7.out.2) : Post (optP (capped er) z25 capP) s4 (⟨cp, rc⟩ : S25) s7).bnd (Post.ret _ _))))))
    have e0 : (er == 0) = false := by simp [q0]
    by_cases q1 : er = 101
    · have e1 : (er == 101) = true := by simp [q1]
      have HQ0 := Aside0.mk q1
      clear q0 q1
      go_upto_region 14 with (first
        | (go_at_call 102; refine (num_calls w0 _ g b s6 0 1099511627776 (by decide) (by decide) (by decide) HS.out (M6.out.1.set HMP.out 2 (.int .i64 cp) (cs2 := MVc { zMsg with kind := k, call := x, name := t, err := er, cap := cp } none 0) rfl).st).mono ?_; rintro e w9 ⟨rc, s7, rfl, h1, p1, k1, -, -⟩; have M7 := Aside0.mk (And.intro ((M6.out.1.set HMP.out 2 (.int .i64 cp) (cs2 := MVc { zMsg with kind := k, call := x, name := t, err := er, cap := cp } none 0) rfl).call HMP.out h1 k1) p1); clear h1 p1 k1 kc2 kf2; have kc3 : w9.cell? ⟨gb, 3, none⟩ = some (.int .i64 0) := (blk_cell M7.out.1.box 3).trans rfl; have kf3 := blk_frozen M7.out.1.box 3)
        | (go_at_call 102; refine (num_calls w0 _ g b s4 1 1099511627776 (by decide) (by decide) (by decide) HS.out M5.out.st).mono ?_; rintro e w8 ⟨cp, s6, rfl, h1, p1, k1, -, -⟩; have M6 := Aside0.mk (And.intro (M5.out.call HMP.out h1 k1) p1); clear h1 p1 k1 ke; have kc2 : w8.cell? ⟨gb, 2, none⟩ = some (.int .i64 0) := (blk_cell M6.out.1.box 2).trans rfl; have kf2 := blk_frozen M6.out.1.box 2))
      clear kc3 kf3
      have MZ : Aside0 (MX w0 w _ g gb b s7 (MVc (mTold k x t er ⟨cp, rc⟩) none 0)) := ⟨(M7.out.1.set HMP.out 3 (.int .i64 rc) (cs2 := MVc (mTold k x t er ⟨cp, rc⟩) none 0) rfl)⟩
      go_wp2_with ((with_reducible refine gate_dst (N := 43) rfl ?_); refine wpList_load_row rfl 33 (.tmp 3) rfl gb (by rfl) 33 (MVc (mTold k x t er ⟨cp, rc⟩) none 0) (0, 0) _ MZ.out.box hu33 rfl inf33 ?_; go_loud (refine wpList_store_row rfl 33 (.tmp 2) (.tmp 43) rfl w.heap.size (MVc (mTold k x t er ⟨cp, rc⟩) none 0) (by rfl) (by rfl) 33 _ MZ.out.res inf33 rfl (mv_one _ _ _) ?_))
      refine bodyPost_ret (results_cell_row rfl _ _ w.heap.size 33 _ (0, 0) _ (by rfl) (MZ.out.done HMP.out _).2.2 hu33 rfl inf33) rfl ?_
      exact MZ.out.end_ HMP.out _ rfl (HK.out.1.bnd (show Post (restP k) s1 (mTold k x t er (⟨cp, rc⟩ : S25)) s7 from by unfold restP; rw [if_neg HKI.out.1, if_pos HKI.out.2]; exact M2.out.2.bnd (M3.out.2.bnd (M4.out.2.bnd ((opt_yes (Or.inr HQ0.out) (cap_post M6.out.2 M7.out.2) : Post (optP (capped er) z25 capP) s4 (⟨cp, rc⟩ : S25) s7).bnd (Post.ret _ _))))))
    · have e1 : (er == 101) = false := by simp [q1]
      have HQ0 : Aside0 (¬ capped er) := ⟨fun h => h.elim q0 q1⟩
      clear q0 q1
      go_upto_region 14 with fail
      clear ke
      have MZ : Aside0 (MX w0 w _ g gb b s4 (MVc (mTold k x t er z25) none 0)) := ⟨M5.out⟩
      go_wp2_with ((with_reducible refine gate_dst (N := 43) rfl ?_); refine wpList_load_row rfl 33 (.tmp 3) rfl gb (by rfl) 33 (MVc (mTold k x t er z25) none 0) (0, 0) _ MZ.out.box hu33 rfl inf33 ?_; go_loud (refine wpList_store_row rfl 33 (.tmp 2) (.tmp 43) rfl w.heap.size (MVc (mTold k x t er z25) none 0) (by rfl) (by rfl) 33 _ MZ.out.res inf33 rfl (mv_one _ _ _) ?_))
      refine bodyPost_ret (results_cell_row rfl _ _ w.heap.size 33 _ (0, 0) _ (by rfl) (MZ.out.done HMP.out _).2.2 hu33 rfl inf33) rfl ?_
      exact MZ.out.end_ HMP.out _ rfl (HK.out.1.bnd (show Post (restP k) s1 (mTold k x t er z25) s4 from by unfold restP; rw [if_neg HKI.out.1, if_pos HKI.out.2]; exact M2.out.2.bnd (M3.out.2.bnd (M4.out.2.bnd ((opt_no HQ0.out : Post (optP (capped er) z25 capP) s4 z25 s4).bnd (Post.ret _ _))))))
  have t2 : (k == 2) = false := by simp [k2]
  by_cases k10 : k = 10
  · have t10 : (k == 10) = true := by simp [k10]
    have HKI := Aside0.mk (And.intro k1 (And.intro k2 k10))
    clear k1 k2 k10
    go_upto_region 17 with (go_at_call 116; refine (rviews_calls w0 _ g b s1 HS.out M1.out.st).mono ?_; rintro e w4 ⟨l, s2, v, rfl, h1, p1, k1, hR⟩; obtain ⟨A, c, rfl⟩ := Kd.R_slice hR; have M2 := Aside0.mk (And.intro (M1.out.call HMP.out h1 k1) (And.intro p1 (And.intro hR (And.intro (blk_lt M1.out.box) (And.intro (blk_lt M1.out.res) k1.1))))); clear h1 p1 k1 hR kk; have kc19 : w4.cell? ⟨gb, 19, none⟩ = some (.slice none 0 0) := (blk_cell M2.out.1.box 19).trans rfl; have kf19 := blk_frozen M2.out.1.box 19)
    clear kc19 kf19
    have MZ : Aside0 (MX w0 w (w4.setCell ⟨gb, 19, none⟩ (.slice A l.length c)) g gb b s2 (MVc (mDig k l) A c)) := ⟨M2.out.1.set HMP.out 19 _ rfl⟩
    go_wp2_with ((with_reducible refine gate_dst (N := 49) rfl ?_); refine wpList_load_row rfl 33 (.tmp 3) rfl gb (by rfl) 33 (MVc (mDig k l) A c) (0, 0) _ MZ.out.box hu33 rfl inf33 ?_; go_loud (refine wpList_store_row rfl 33 (.tmp 2) (.tmp 49) rfl w.heap.size (MVc (mDig k l) A c) (by rfl) (by rfl) 33 _ MZ.out.res inf33 rfl (mv_one _ _ _) ?_))
    refine bodyPost_ret (results_cell_row rfl _ _ w.heap.size 33 _ (0, 0) _ (by rfl) (MZ.out.done HMP.out _).2.2 hu33 rfl inf33) rfl ?_
    refine ⟨mDig k l, s2, A, c, rfl, (MZ.out.done HMP.out _).1, HK.out.1.bnd (show Post (restP k) s1 (mDig k l) s2 from by unfold restP; rw [if_neg HKI.out.1, if_neg HKI.out.2.1, if_pos HKI.out.2.2]; exact M2.out.2.1.bnd (Post.ret _ _)), (MZ.out.done HMP.out _).2.1, ?_⟩
    have h5 : w3.heap.size ≤ w4.heap.size ∧ gb < w3.heap.size ∧ w.heap.size < w3.heap.size := ⟨M2.out.2.2.2.2.2, M2.out.2.2.2.1, M2.out.2.2.2.2.1⟩
    refine Kd.R_mono (Kd.R_lower (R_step' M2.out.2.2.1 (fun k hk => ?_)) (Nat.le_of_lt h5.2.2)) (fun k hk => ⟨by omega, by rw [size_setRow]; simpa [World.setCell] using hk.2⟩)
    exact (setRow_far (by omega) _).trans (Below.heap_setCell w4 ⟨gb, 19, none⟩ _ k (by show k ≠ gb; omega))
  have t10 : (k == 10) = false := by simp [k10]
  have HKI := Aside0.mk (And.intro k1 (And.intro k2 k10))
  clear k1 k2 k10
  go_upto_region 21 with (first
    | (go_at_call 102; refine (num_calls w0 _ g b s3 0 1099511627776 (by decide) (by decide) (by decide) HS.out (M3.out.1.set HMP.out 2 (.int .i64 cp) (cs2 := MVc { zMsg with kind := k, name := t, cap := cp } none 0) rfl).st).mono ?_; rintro e w6 ⟨rc, s4, rfl, h1, p1, k1, -, -⟩; have M4 := Aside0.mk (And.intro ((M3.out.1.set HMP.out 2 (.int .i64 cp) (cs2 := MVc { zMsg with kind := k, name := t, cap := cp } none 0) rfl).call HMP.out h1 k1) p1); clear h1 p1 k1 kc2 kf2; have kc3 : w6.cell? ⟨gb, 3, none⟩ = some (.int .i64 0) := (blk_cell M4.out.1.box 3).trans rfl; have kf3 := blk_frozen M4.out.1.box 3)
    | (go_at_call 102; refine (num_calls w0 _ g b s2 1 1099511627776 (by decide) (by decide) (by decide) HS.out (M2.out.1.set HMP.out 1 (.string t) (cs2 := MVc { zMsg with kind := k, name := t } none 0) rfl).st).mono ?_; rintro e w5 ⟨cp, s3, rfl, h1, p1, k1, -, -⟩; have M3 := Aside0.mk (And.intro ((M2.out.1.set HMP.out 1 (.string t) (cs2 := MVc { zMsg with kind := k, name := t } none 0) rfl).call HMP.out h1 k1) p1); clear h1 p1 k1 kc1 kf1; have kc2 : w5.cell? ⟨gb, 2, none⟩ = some (.int .i64 0) := (blk_cell M3.out.1.box 2).trans rfl; have kf2 := blk_frozen M3.out.1.box 2)
    | (go_at_call 115; refine (name_calls w0 _ g b s1 ⟨#[]⟩ HS.out M1.out.st).mono ?_; rintro e w4 ⟨t, s2, rfl, h1, p1, k1⟩; have M2 := Aside0.mk (And.intro (M1.out.call HMP.out h1 k1) p1); clear h1 p1 k1 kk; have kc1 : w4.cell? ⟨gb, 1, none⟩ = some (.string ⟨#[]⟩) := (blk_cell M2.out.1.box 1).trans rfl; have kf1 := blk_frozen M2.out.1.box 1))
  clear kc3 kf3
  obtain ⟨w7, hw7⟩ : ∃ w7, w7 = w6.setCell ⟨gb, 3, none⟩ (.int .i64 rc) := ⟨_, rfl⟩
  have M5 : Aside0 (MX w0 w w7 g gb b s4 (MVc (mOf k t ⟨cp, rc⟩ z25 z25 z25 0) none 0)) := ⟨by rw [hw7]; exact (M4.out.1.set HMP.out 3 (.int .i64 rc) (cs2 := MVc (mOf k t ⟨cp, rc⟩ z25 z25 z25 0) none 0) rfl)⟩
  rw [← hw7]
  clear hw7
  have HPF : Aside0 (∀ (ep ov rt : S25) (h : Int) (s5 s6 s7 s8 : R Unit), Post (optP (hasEp k) z25 epochP) s4 ep s5 → Post (optP (k = 7) z25 epochP) s5 ov s6 → Post (optP (hasRt k) z25 rightsP) s6 rt s7 → Post (optP (k = 4) 0 (numP 0 big)) s7 h s8 → Post (restP k) s1 (mOf k t ⟨cp, rc⟩ ep ov rt h) s8) := ⟨fun ep ov rt h s5 s6 s7 s8 h1 h2 h3 h4 => by rw [rest_of HKI.out.1 HKI.out.2.1 HKI.out.2.2]; exact of_post M2.out.2 (cap_post M3.out.2 M4.out.2) h1 h2 h3 h4⟩
  have HB0 : Aside0 (k = 0 → ∃ n, s1 = .bad n ∧ s4 = .bad n) := ⟨fun h0 => by
    have h1 := HK.out.1
    rw [h0] at h1
    obtain ⟨n, hn⟩ := kind_bad h1
    have h2 := M2.out.2; have h3 := M3.out.2; have h4 := M4.out.2
    rw [hn] at h2
    rw [bad_post h2] at h3
    rw [bad_post h3] at h4
    exact ⟨n, hn, bad_post h4⟩⟩
  have hk7 : k = 3 ∨ k = 4 ∨ (k = 0 ∨ k = 5 ∨ k = 6) ∨ k = 7 ∨ (k = 8 ∨ k = 9) := by have := HK.out.2; have := HKI.out; omega
  have kk : w7.cell? ⟨gb, 0, none⟩ = some (.int .i64 k) := (blk_cell M5.out.box 0).trans rfl
  clear M1 M2 M3 M4
  rcases hk7 with hk | hk | hk | hk | hk
  · have l7 : k ≤ 7 := by omega
    have e7 : (k == 7) = false := by simp [hk]
    have e3 : (k == 3) = true := by simp [hk]
    have e4 : (k == 4) = false := by simp [hk]
    have HKK := Aside0.mk hk
    clear hk
    go_upto_region 30 with (first
      | (go_at_call 117; refine (epoch_calls w0 _ g b s4 HS.out M5.out.st).mono ?_; rintro e w8 ⟨ep, s6, rfl, h1, p1, k1⟩; have M6 := Aside0.mk (And.intro (M5.out.call HMP.out h1 k1) p1); clear h1 p1 k1 kk; have kc4 : w8.cell? ⟨gb, 4, none⟩ = some (.int .i64 0) := (blk_cell M6.out.1.box 4).trans rfl; have kf4 := blk_frozen M6.out.1.box 4; have kc5 : w8.cell? ⟨gb, 5, none⟩ = some (.int .i64 0) := (blk_cell M6.out.1.box 5).trans rfl; have kf5 := blk_frozen M6.out.1.box 5; have kk : w8.cell? ⟨gb, 0, none⟩ = some (.int .i64 k) := (blk_cell M6.out.1.box 0).trans rfl))
    clear kc4 kf4 kc5 kf5 kk
    have MZ : Aside0 (MX w0 w _ g gb b s6 (MVc (mOf k t ⟨cp, rc⟩ ep z25 z25 0) none 0)) := ⟨((M6.out.1.set HMP.out 4 (.int .i64 ep.f0) rfl).set HMP.out 5 (.int .i64 ep.f1) (cs2 := MVc (mOf k t ⟨cp, rc⟩ ep z25 z25 0) none 0) rfl)⟩
    go_wp2_with ((with_reducible refine gate_dst (N := 84) rfl ?_); refine wpList_load_row rfl 33 (.tmp 3) rfl gb (by rfl) 33 (MVc (mOf k t ⟨cp, rc⟩ ep z25 z25 0) none 0) (0, 0) _ MZ.out.box hu33 rfl inf33 ?_; go_loud (refine wpList_store_row rfl 33 (.tmp 2) (.tmp 84) rfl w.heap.size (MVc (mOf k t ⟨cp, rc⟩ ep z25 z25 0) none 0) (by rfl) (by rfl) 33 _ MZ.out.res inf33 rfl (mv_one _ _ _) ?_))
    refine bodyPost_ret (results_cell_row rfl _ _ w.heap.size 33 _ (0, 0) _ (by rfl) (MZ.out.done HMP.out _).2.2 hu33 rfl inf33) rfl ?_
    exact MZ.out.end_ HMP.out _ rfl (HK.out.1.bnd (HPF.out ep z25 z25 0 _ _ _ _ (opt_yes (by simp [hasEp, HKK.out]) M6.out.2) (opt_no (by simp [HKK.out])) (opt_no (by simp [hasRt, HKK.out])) (opt_no (by simp [HKK.out]))))
  · have l7 : k ≤ 7 := by omega
    have e7 : (k == 7) = false := by simp [hk]
    have e3 : (k == 3) = false := by simp [hk]
    have e4 : (k == 4) = true := by simp [hk]
    have HKK := Aside0.mk hk
    clear hk
    go_upto_region 30 with (first
      | (go_at_call 102; refine (num_calls w0 _ g b s7 0 1099511627776 (by decide) (by decide) (by decide) HS.out ((M7.out.1.set HMP.out 8 (.int .i64 rt.f0) rfl).set HMP.out 9 (.int .i64 rt.f1) (cs2 := MVc (mOf k t ⟨cp, rc⟩ ep z25 rt 0) none 0) rfl).st).mono ?_; rintro e w10 ⟨h, s8, rfl, h1, p1, k1, -, -⟩; have M8 := Aside0.mk (And.intro (((M7.out.1.set HMP.out 8 (.int .i64 rt.f0) rfl).set HMP.out 9 (.int .i64 rt.f1) (cs2 := MVc (mOf k t ⟨cp, rc⟩ ep z25 rt 0) none 0) rfl).call HMP.out h1 k1) p1); clear h1 p1 k1 kc8 kf8 kc9 kf9 kk; have kc10 : w10.cell? ⟨gb, 10, none⟩ = some (.int .i64 0) := (blk_cell M8.out.1.box 10).trans rfl; have kf10 := blk_frozen M8.out.1.box 10; have kk : w10.cell? ⟨gb, 0, none⟩ = some (.int .i64 k) := (blk_cell M8.out.1.box 0).trans rfl)
      | (go_at_call 118; refine (rights_calls w0 _ g b s6 HS.out ((M6.out.1.set HMP.out 4 (.int .i64 ep.f0) rfl).set HMP.out 5 (.int .i64 ep.f1) (cs2 := MVc (mOf k t ⟨cp, rc⟩ ep z25 z25 0) none 0) rfl).st).mono ?_; rintro e w9 ⟨rt, s7, rfl, h1, p1, k1⟩; have M7 := Aside0.mk (And.intro (((M6.out.1.set HMP.out 4 (.int .i64 ep.f0) rfl).set HMP.out 5 (.int .i64 ep.f1) (cs2 := MVc (mOf k t ⟨cp, rc⟩ ep z25 z25 0) none 0) rfl).call HMP.out h1 k1) p1); clear h1 p1 k1 kc4 kf4 kc5 kf5 kk; have kc8 : w9.cell? ⟨gb, 8, none⟩ = some (.int .i64 0) := (blk_cell M7.out.1.box 8).trans rfl; have kf8 := blk_frozen M7.out.1.box 8; have kc9 : w9.cell? ⟨gb, 9, none⟩ = some (.int .i64 0) := (blk_cell M7.out.1.box 9).trans rfl; have kf9 := blk_frozen M7.out.1.box 9; have kk : w9.cell? ⟨gb, 0, none⟩ = some (.int .i64 k) := (blk_cell M7.out.1.box 0).trans rfl)
      | (go_at_call 117; refine (epoch_calls w0 _ g b s4 HS.out M5.out.st).mono ?_; rintro e w8 ⟨ep, s6, rfl, h1, p1, k1⟩; have M6 := Aside0.mk (And.intro (M5.out.call HMP.out h1 k1) p1); clear h1 p1 k1 kk; have kc4 : w8.cell? ⟨gb, 4, none⟩ = some (.int .i64 0) := (blk_cell M6.out.1.box 4).trans rfl; have kf4 := blk_frozen M6.out.1.box 4; have kc5 : w8.cell? ⟨gb, 5, none⟩ = some (.int .i64 0) := (blk_cell M6.out.1.box 5).trans rfl; have kf5 := blk_frozen M6.out.1.box 5; have kk : w8.cell? ⟨gb, 0, none⟩ = some (.int .i64 k) := (blk_cell M6.out.1.box 0).trans rfl))
    clear kc10 kf10 kk
    have MZ : Aside0 (MX w0 w _ g gb b s8 (MVc (mOf k t ⟨cp, rc⟩ ep z25 rt h) none 0)) := ⟨(M8.out.1.set HMP.out 10 (.int .i64 h) (cs2 := MVc (mOf k t ⟨cp, rc⟩ ep z25 rt h) none 0) rfl)⟩
    go_wp2_with ((with_reducible refine gate_dst (N := 84) rfl ?_); refine wpList_load_row rfl 33 (.tmp 3) rfl gb (by rfl) 33 (MVc (mOf k t ⟨cp, rc⟩ ep z25 rt h) none 0) (0, 0) _ MZ.out.box hu33 rfl inf33 ?_; go_loud (refine wpList_store_row rfl 33 (.tmp 2) (.tmp 84) rfl w.heap.size (MVc (mOf k t ⟨cp, rc⟩ ep z25 rt h) none 0) (by rfl) (by rfl) 33 _ MZ.out.res inf33 rfl (mv_one _ _ _) ?_))
    refine bodyPost_ret (results_cell_row rfl _ _ w.heap.size 33 _ (0, 0) _ (by rfl) (MZ.out.done HMP.out _).2.2 hu33 rfl inf33) rfl ?_
    exact MZ.out.end_ HMP.out _ rfl (HK.out.1.bnd (HPF.out ep z25 rt h _ _ _ _ (opt_yes (by simp [hasEp, HKK.out]) M6.out.2) (opt_no (by simp [HKK.out])) (opt_yes (by simp [hasRt, HKK.out]) M7.out.2) (opt_yes HKK.out (held_post M8.out.2))))
  · have l7 : k ≤ 7 := by omega
    have e7 : (k == 7) = false := by simp; omega
    have e3 : (k == 3) = false := by simp; omega
    have e4 : (k == 4) = false := by simp; omega
    have HKK := Aside0.mk hk
    clear hk
    go_upto_region 30 with (first
      | (go_at_call 118; refine (rights_calls w0 _ g b s6 HS.out ((M6.out.1.set HMP.out 4 (.int .i64 ep.f0) rfl).set HMP.out 5 (.int .i64 ep.f1) (cs2 := MVc (mOf k t ⟨cp, rc⟩ ep z25 z25 0) none 0) rfl).st).mono ?_; rintro e w9 ⟨rt, s7, rfl, h1, p1, k1⟩; have M7 := Aside0.mk (And.intro (((M6.out.1.set HMP.out 4 (.int .i64 ep.f0) rfl).set HMP.out 5 (.int .i64 ep.f1) (cs2 := MVc (mOf k t ⟨cp, rc⟩ ep z25 z25 0) none 0) rfl).call HMP.out h1 k1) p1); clear h1 p1 k1 kc4 kf4 kc5 kf5 kk; have kc8 : w9.cell? ⟨gb, 8, none⟩ = some (.int .i64 0) := (blk_cell M7.out.1.box 8).trans rfl; have kf8 := blk_frozen M7.out.1.box 8; have kc9 : w9.cell? ⟨gb, 9, none⟩ = some (.int .i64 0) := (blk_cell M7.out.1.box 9).trans rfl; have kf9 := blk_frozen M7.out.1.box 9; have kk : w9.cell? ⟨gb, 0, none⟩ = some (.int .i64 k) := (blk_cell M7.out.1.box 0).trans rfl)
      | (go_at_call 117; refine (epoch_calls w0 _ g b s4 HS.out M5.out.st).mono ?_; rintro e w8 ⟨ep, s6, rfl, h1, p1, k1⟩; have M6 := Aside0.mk (And.intro (M5.out.call HMP.out h1 k1) p1); clear h1 p1 k1 kk; have kc4 : w8.cell? ⟨gb, 4, none⟩ = some (.int .i64 0) := (blk_cell M6.out.1.box 4).trans rfl; have kf4 := blk_frozen M6.out.1.box 4; have kc5 : w8.cell? ⟨gb, 5, none⟩ = some (.int .i64 0) := (blk_cell M6.out.1.box 5).trans rfl; have kf5 := blk_frozen M6.out.1.box 5; have kk : w8.cell? ⟨gb, 0, none⟩ = some (.int .i64 k) := (blk_cell M6.out.1.box 0).trans rfl))
    clear kc8 kf8 kc9 kf9 kk
    have MZ : Aside0 (MX w0 w _ g gb b s7 (MVc (mOf k t ⟨cp, rc⟩ ep z25 rt 0) none 0)) := ⟨((M7.out.1.set HMP.out 8 (.int .i64 rt.f0) rfl).set HMP.out 9 (.int .i64 rt.f1) (cs2 := MVc (mOf k t ⟨cp, rc⟩ ep z25 rt 0) none 0) rfl)⟩
    go_wp2_with ((with_reducible refine gate_dst (N := 84) rfl ?_); refine wpList_load_row rfl 33 (.tmp 3) rfl gb (by rfl) 33 (MVc (mOf k t ⟨cp, rc⟩ ep z25 rt 0) none 0) (0, 0) _ MZ.out.box hu33 rfl inf33 ?_; go_loud (refine wpList_store_row rfl 33 (.tmp 2) (.tmp 84) rfl w.heap.size (MVc (mOf k t ⟨cp, rc⟩ ep z25 rt 0) none 0) (by rfl) (by rfl) 33 _ MZ.out.res inf33 rfl (mv_one _ _ _) ?_))
    refine bodyPost_ret (results_cell_row rfl _ _ w.heap.size 33 _ (0, 0) _ (by rfl) (MZ.out.done HMP.out _).2.2 hu33 rfl inf33) rfl ?_
    exact MZ.out.end_ HMP.out _ rfl (HK.out.1.bnd (by
      by_cases h0 : k = 0
      · obtain ⟨n, e1, e4⟩ := HB0.out h0
        have h6 := M6.out.2; have h7 := M7.out.2
        rw [e4] at h6
        rw [bad_post h6] at h7
        rw [bad_post h7, e1]
        rfl
      · have hk := HKK.out
        exact HPF.out ep z25 rt 0 _ _ _ _ (opt_yes (by unfold hasEp; omega) M6.out.2) (opt_no (by omega)) (opt_yes (by unfold hasRt; omega) M7.out.2) (opt_no (by omega))))
  · have l7 : k ≤ 7 := by omega
    have e7 : (k == 7) = true := by simp [hk]
    have HKK := Aside0.mk hk
    clear hk
    go_upto_region 25 with (first
      | (go_at_call 117; refine (epoch_calls w0 _ g b s6 HS.out ((M6.out.1.set HMP.out 4 (.int .i64 ep.f0) rfl).set HMP.out 5 (.int .i64 ep.f1) (cs2 := MVc (mOf k t ⟨cp, rc⟩ ep z25 z25 0) none 0) rfl).st).mono ?_; rintro e w9 ⟨ov, s7, rfl, h1, p1, k1⟩; have M7 := Aside0.mk (And.intro (((M6.out.1.set HMP.out 4 (.int .i64 ep.f0) rfl).set HMP.out 5 (.int .i64 ep.f1) (cs2 := MVc (mOf k t ⟨cp, rc⟩ ep z25 z25 0) none 0) rfl).call HMP.out h1 k1) p1); clear h1 p1 k1 kc4 kf4 kc5 kf5 kk; have kc6 : w9.cell? ⟨gb, 6, none⟩ = some (.int .i64 0) := (blk_cell M7.out.1.box 6).trans rfl; have kf6 := blk_frozen M7.out.1.box 6; have kc7 : w9.cell? ⟨gb, 7, none⟩ = some (.int .i64 0) := (blk_cell M7.out.1.box 7).trans rfl; have kf7 := blk_frozen M7.out.1.box 7; have kk : w9.cell? ⟨gb, 0, none⟩ = some (.int .i64 k) := (blk_cell M7.out.1.box 0).trans rfl)
      | (go_at_call 117; refine (epoch_calls w0 _ g b s4 HS.out M5.out.st).mono ?_; rintro e w8 ⟨ep, s6, rfl, h1, p1, k1⟩; have M6 := Aside0.mk (And.intro (M5.out.call HMP.out h1 k1) p1); clear h1 p1 k1 kk; have kc4 : w8.cell? ⟨gb, 4, none⟩ = some (.int .i64 0) := (blk_cell M6.out.1.box 4).trans rfl; have kf4 := blk_frozen M6.out.1.box 4; have kc5 : w8.cell? ⟨gb, 5, none⟩ = some (.int .i64 0) := (blk_cell M6.out.1.box 5).trans rfl; have kf5 := blk_frozen M6.out.1.box 5; have kk : w8.cell? ⟨gb, 0, none⟩ = some (.int .i64 k) := (blk_cell M6.out.1.box 0).trans rfl))
    clear kc6 kf6 kc7 kf7 kk
    have MZ : Aside0 (MX w0 w _ g gb b s7 (MVc (mOf k t ⟨cp, rc⟩ ep ov z25 0) none 0)) := ⟨((M7.out.1.set HMP.out 6 (.int .i64 ov.f0) rfl).set HMP.out 7 (.int .i64 ov.f1) (cs2 := MVc (mOf k t ⟨cp, rc⟩ ep ov z25 0) none 0) rfl)⟩
    go_wp2_with ((with_reducible refine gate_dst (N := 71) rfl ?_); refine wpList_load_row rfl 33 (.tmp 3) rfl gb (by rfl) 33 (MVc (mOf k t ⟨cp, rc⟩ ep ov z25 0) none 0) (0, 0) _ MZ.out.box hu33 rfl inf33 ?_; go_loud (refine wpList_store_row rfl 33 (.tmp 2) (.tmp 71) rfl w.heap.size (MVc (mOf k t ⟨cp, rc⟩ ep ov z25 0) none 0) (by rfl) (by rfl) 33 _ MZ.out.res inf33 rfl (mv_one _ _ _) ?_))
    refine bodyPost_ret (results_cell_row rfl _ _ w.heap.size 33 _ (0, 0) _ (by rfl) (MZ.out.done HMP.out _).2.2 hu33 rfl inf33) rfl ?_
    exact MZ.out.end_ HMP.out _ rfl (HK.out.1.bnd (HPF.out ep ov z25 0 _ _ _ _ (opt_yes (by simp [hasEp, HKK.out]) M6.out.2) (opt_yes HKK.out M7.out.2) (opt_no (by simp [hasRt, HKK.out])) (opt_no (by simp [HKK.out]))))
  · have l7 : ¬ k ≤ 7 := by omega
    have e7 : (k == 7) = false := by simp; omega
    have e3 : (k == 3) = false := by simp; omega
    have e4 : (k == 4) = false := by simp; omega
    have HKK := Aside0.mk hk
    clear hk
    go_upto_region 30 with (first
      | (go_at_call 118; refine (rights_calls w0 _ g b s4 HS.out M5.out.st).mono ?_; rintro e w8 ⟨rt, s6, rfl, h1, p1, k1⟩; have M6 := Aside0.mk (And.intro (M5.out.call HMP.out h1 k1) p1); clear h1 p1 k1 kk; have kc8 : w8.cell? ⟨gb, 8, none⟩ = some (.int .i64 0) := (blk_cell M6.out.1.box 8).trans rfl; have kf8 := blk_frozen M6.out.1.box 8; have kc9 : w8.cell? ⟨gb, 9, none⟩ = some (.int .i64 0) := (blk_cell M6.out.1.box 9).trans rfl; have kf9 := blk_frozen M6.out.1.box 9; have kk : w8.cell? ⟨gb, 0, none⟩ = some (.int .i64 k) := (blk_cell M6.out.1.box 0).trans rfl))
    clear kc8 kf8 kc9 kf9 kk
    have MZ : Aside0 (MX w0 w _ g gb b s6 (MVc (mOf k t ⟨cp, rc⟩ z25 z25 rt 0) none 0)) := ⟨((M6.out.1.set HMP.out 8 (.int .i64 rt.f0) rfl).set HMP.out 9 (.int .i64 rt.f1) (cs2 := MVc (mOf k t ⟨cp, rc⟩ z25 z25 rt 0) none 0) rfl)⟩
    go_wp2_with ((with_reducible refine gate_dst (N := 84) rfl ?_); refine wpList_load_row rfl 33 (.tmp 3) rfl gb (by rfl) 33 (MVc (mOf k t ⟨cp, rc⟩ z25 z25 rt 0) none 0) (0, 0) _ MZ.out.box hu33 rfl inf33 ?_; go_loud (refine wpList_store_row rfl 33 (.tmp 2) (.tmp 84) rfl w.heap.size (MVc (mOf k t ⟨cp, rc⟩ z25 z25 rt 0) none 0) (by rfl) (by rfl) 33 _ MZ.out.res inf33 rfl (mv_one _ _ _) ?_))
    refine bodyPost_ret (results_cell_row rfl _ _ w.heap.size 33 _ (0, 0) _ (by rfl) (MZ.out.done HMP.out _).2.2 hu33 rfl inf33) rfl ?_
    exact MZ.out.end_ HMP.out _ rfl (HK.out.1.bnd (by
      have hk := HKK.out
      exact HPF.out z25 z25 rt 0 _ _ _ _ (opt_no (by unfold hasEp; omega)) (opt_no (by omega)) (opt_yes (by unfold hasRt; omega) M6.out.2) (opt_no (by omega))))
end Go.Proofs.Ytpgdmmjbhjbbhaa.Rf
end
section
namespace Go.Proofs.Ytpgdmmjbhjbbhaa.Rf
open Go Go.RowKit Go.Proofs.Ytpgdmmjbhjbbhaa.P Go.Proofs.Ytpgdmmjbhjbbhaa.Sp Go.Proofs.Ytpgdmmjbhjbbhaa.Vd Go.Proofs.Ytpgdmmjbhjbbhaa.En Go.Proofs.Ytpgdmmjbhjbbhaa.Wr Go.Proofs.Ytpgdmmjbhjbbhaa.Lw Go.Proofs.YtpgdmmjbhjbbhaaW.PrintWords Go.Proofs.YtpgdmmjbhjbbhaaW.PrintLast Go.Proofs.YtpgdmmjbhjbbhaaW.PrintMore
open Go.Proofs.Ytpgdmmjbhjbbhaa.Rd (pl In setRow_far setRow_blk CVc OVc DecQP results_two_two blk_as)
set_option linter.unusedVariables false
set_option linter.unusedSimpArgs false
/-- What the end says, and what is read in whole. -/
theorem done_whole {α : Type} {p : Rdr α} {b : List Int} {x : α} {s : R Unit} (h : Post p (.ok () b) x s) (z : α) : (doneV b s = (0, 0) ∧ whole z p b = (x, 0, 0)) ∨ ∃ pt, doneV b s = (pt, 20) ∧ whole z p b = (z, pt, 20) := by
  simp only [Post] at h
  unfold whole
  cases hp : p b with
  | bad n =>
    rw [hp] at h
    subst h
    exact .inr ⟨_, rfl, rfl⟩
  | ok y r =>
    rw [hp] at h
    simp only at h
    obtain ⟨rfl, rfl⟩ := h
    cases r with
    | nil => exact .inl ⟨rfl, rfl⟩
    | cons c l =>
      refine .inr ⟨_, rfl, ?_⟩
      simp only [pl, List.length_cons]
      push_cast
      rfl
/-- The reader as it begins. -/
theorem RSt.new {w W : World} {A : Option Addr} {c : Nat} {b : List Int} (hB : Below w.heap.size w W) (hc : b.length ≤ c) (hC : Kd.C (Kd.int .u8) w A b.length b) {g : Nat} {W1 : World} (hb : W1.heap[g]? = some (.cells #[.slice A b.length c, .int .i64 0, .bool false] 132 (0, 0))) (hg : g = W.heap.size) (h1 : Below W.heap.size W W1) : RSt w W1 g b (.ok () b) :=
  ⟨0, false, ⟨A, c, hb, ⟨by rw [hg]; exact hB.size, hc⟩, hC⟩, ⟨rfl, ⟨[], rfl⟩, by unfold pl; omega⟩, hB.trans (h1.mono hB.size)⟩
end Go.Proofs.Ytpgdmmjbhjbbhaa.Rf
end
section
namespace Go.Proofs.Ytpgdmmjbhjbbhaa.Rf
open Go Go.RowKit Go.Proofs.Ytpgdmmjbhjbbhaa.P Go.Proofs.Ytpgdmmjbhjbbhaa.Sp Go.Proofs.Ytpgdmmjbhjbbhaa.Vd Go.Proofs.Ytpgdmmjbhjbbhaa.En Go.Proofs.Ytpgdmmjbhjbbhaa.Wr Go.Proofs.Ytpgdmmjbhjbbhaa.Lw Go.Proofs.YtpgdmmjbhjbbhaaW.PrintWords Go.Proofs.YtpgdmmjbhjbbhaaW.PrintLast Go.Proofs.YtpgdmmjbhjbbhaaW.PrintMore
open Go.Proofs.Ytpgdmmjbhjbbhaa.Rd (pl In setRow_far setRow_blk RVc DecRP results_cell_two inf50)
set_option linter.unusedVariables false
set_option linter.unusedSimpArgs false
end Go.Proofs.Ytpgdmmjbhjbbhaa.Rf
end
section
namespace Go.Proofs.Ytpgdmmjbhjbbhaa.Rf
open Go Go.RowKit Go.Proofs.Ytpgdmmjbhjbbhaa.P Go.Proofs.Ytpgdmmjbhjbbhaa.Sp Go.Proofs.Ytpgdmmjbhjbbhaa.Vd Go.Proofs.Ytpgdmmjbhjbbhaa.En Go.Proofs.Ytpgdmmjbhjbbhaa.Wr Go.Proofs.Ytpgdmmjbhjbbhaa.Lw Go.Proofs.YtpgdmmjbhjbbhaaW.PrintWords Go.Proofs.YtpgdmmjbhjbbhaaW.PrintLast Go.Proofs.YtpgdmmjbhjbbhaaW.PrintMore
open Go.Proofs.Ytpgdmmjbhjbbhaa.Rd (pl In setRow_far setRow_blk SGc DecSP results_cell_two inf47 R_keep2 sg_one)
set_option linter.unusedVariables false
set_option linter.unusedSimpArgs false
end Go.Proofs.Ytpgdmmjbhjbbhaa.Rf
end
