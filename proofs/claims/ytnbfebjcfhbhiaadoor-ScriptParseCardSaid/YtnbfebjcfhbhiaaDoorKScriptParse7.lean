/- texts that the proof needs, laid together by a program of this session. -/
import Derived.Test.YtnbfebjcfhbhiaaDoorKScriptParse6
section
namespace Go.Proofs.YtnbfebjcfhbhiaaDoor.Sc
open Go Go.RowKit Go.Proofs.YtnbfebjcfhbhiaaDoor.P Go.Proofs.YtnbfebjcfhbhiaaDoorW.PrintWords Go.Proofs.YtnbfebjcfhbhiaaDoorW.PrintLast Go.Proofs.YtnbfebjcfhbhiaaDoorW.PrintMore
set_option linter.unusedVariables false
set_option linter.unusedSimpArgs false
def nums (x : By) : List Int := x.map fun c => (c.toNat : Int)
theorem plain_f (c : UInt8) : script_plain.f (c.toNat : Int) = some (plainB c) := by
  have h : ∀ n : Fin 256, script_plain.f (n.val : Int) = some (n.val == 95 || n.val == 46 || (decide (48 ≤ n.val) && decide (n.val ≤ 57)) || (decide (65 ≤ n.val) && decide (n.val ≤ 90)) || (decide (97 ≤ n.val) && decide (n.val ≤ 122))) := by decide +kernel
  exact h ⟨c.toNat, c.toNat_lt⟩
theorem idx_hex (c : UInt8) : Lib.indexByte [48, 49, 50, 51, 52, 53, 54, 55, 56, 57, 65, 66, 67, 68, 69, 70] c = match hexV c with
    | some n => (n : Int)
    | none => -1 := by
  have h : ∀ n : Fin 256, Lib.indexByte [48, 49, 50, 51, 52, 53, 54, 55, 56, 57, 65, 66, 67, 68, 69, 70] (UInt8.ofNat n.val) = match hexV (UInt8.ofNat n.val) with
    | some n => (n : Int)
    | none => -1 := by decide +kernel
  have := h ⟨c.toNat, c.toNat_lt⟩
  simpa using this
theorem hexV_lt {c : UInt8} {n : Nat} (h : hexV c = some n) : n < 16 := by
  unfold hexV at h
  split at h
  · rename_i hh; simp at hh; injection h with h; omega
  · split at h
    · rename_i hh; simp at hh; injection h with h; omega
    · cases h
theorem or_hex (a b : Nat) (ha : a < 16) (hb : b < 16) : Go.bits .or .u8 (((a : Int) * 16) % 256) ((b : Int) % 256) = ((16 * a + b : Nat) : Int) := by
  have h : ∀ a b : Fin 16, Go.bits .or .u8 (((a.val : Int) * 16) % 256) ((b.val : Int) % 256) = ((16 * a.val + b.val : Nat) : Int) := by decide +kernel
  exact h ⟨a, ha⟩ ⟨b, hb⟩
theorem or_hex0 (b : Nat) (hb : b < 16) : Go.bits .or .u8 (((0 : Int) * 16) % 256) ((b : Int) % 256) = (b : Int) := by
  have := or_hex 0 b (by decide) hb
  simpa using this
/-- A sign: its byte, how many bytes, is it one. -/
def signS : By → Nat × Nat × Bool
  | [] => (0, 0, false)
  | c :: l => if plainB c then (c.toNat, 1, true) else if c.toNat = 37 then
      match l with
      | [] => (0, 1, false)
      | h :: l1 => match hexV h with
        | none => (0, 1, false)
        | some a => match l1 with
          | [] => (0, 2, false)
          | k :: l2 => match hexV k with
            | none => (0, 2, false)
            | some b => if plainB (hexB a b) then (0, 2, false) else (16 * a + b, 3, true)
    else (0, 0, false)
theorem text_sign (l : By) : (signS l).2.1 ≤ l.length ∧ (if (signS l).2.2 = true then 0 < (signS l).2.1 ∧ (signS l).1 < 256 ∧ textGo l = (textGo (l.drop (signS l).2.1)).bnd (fun x r => .good ((signS l).1.toUInt8 :: x) r)
    else if (signS l).2.1 = 0 then textGo l = .good [] l else textGo l = .bad (l.drop (signS l).2.1)) := by
  match l with
  | [] => exact ⟨Nat.le_refl _, by simp [signS, textGo]⟩
  | c :: l =>
    by_cases hc : plainB c = true
    · rw [textGo_plain hc]
      simp only [signS, hc, if_true]
      exact ⟨by simp, by decide, c.toNat_lt, by simp [Nat.toUInt8]⟩
    · by_cases h37 : c.toNat = 37
      · match l with
        | [] => simp [signS, textGo, hc, h37]
        | h :: l1 =>
          cases hh : hexV h with
          | none => simp [signS, textGo, hc, h37, hh]
          | some a =>
            match l1 with
            | [] => simp [signS, textGo, hc, h37, hh]
            | k :: l2 =>
              cases hk : hexV k with
              | none => simp [signS, textGo, hc, h37, hh, hk]
              | some b =>
                have ha := hexV_lt hh
                have hb := hexV_lt hk
                by_cases hp : plainB (hexB a b) = true
                · simp [signS, textGo, hc, h37, hh, hk, hp]
                · have h1 : 16 * a + b < 256 := by omega
                  have h2 : (16 * a + b).toUInt8 = hexB a b := rfl
                  simp [signS, textGo, hc, h37, hh, hk, hp, h1, h2]
      · rw [textGo_stop hc h37]; simp [signS, hc, h37]
theorem plain_n (n : Nat) (h : n < 256) : script_plain.f (n : Int) = some (plainB (UInt8.ofNat n)) := by
  have := plain_f (UInt8.ofNat n)
  rwa [UInt8.toNat_ofNat', Nat.mod_eq_of_lt (by omega)] at this
theorem sign_ev (l : By) (hl : l.length ≤ 4611686018427387904) : Ev (fun k => script_sign.f k (sb l)) (((signS l).1 : Int), ((signS l).2.1 : Int), (signS l).2.2) := by
  have hsz : (sb l).size = l.length := by rw [← bs_len, bs_sb]
  match l, hl, hsz with
  | [], hl, hsz =>
    refine Ev.congr (f := fun _ => some _) (fun k => ?_) (Ev.now _)
    unfold script_sign.f
    rw [toList_bs, bs_sb, if_pos rfl]
    rfl
  | c :: l, hl, hsz =>
    simp only [List.length_cons] at hsz hl
    have hb0 : bt (sb (c :: l)) 0 = (c.toNat : Int) := by
      have := bt_bs (sb (c :: l)) 0 (by rw [bs_sb]; simp)
      simpa [bs_sb] using this
    have e0 : ∀ k, script_sign.f k (sb (c :: l)) = if plainB c = true then some ((c.toNat : Int), 1, true) else if (c.toNat : Int) = 37 then script_sign.l0 k (sb (c :: l)) 0 1 else some (0, 0, false) := fun k => by
      unfold script_sign.f
      rw [toList_bs, bs_sb, if_neg (by simp), if_pos (by omega), hb0, plain_f, Option.bind_some]
    refine Ev.congr e0 ?_
    by_cases hc : plainB c = true
    · simp only [hc, if_true, signS]; exact Ev.now _
    · simp only [hc, if_false, Bool.false_eq_true]
      by_cases h37 : c.toNat = 37
      · have h37i : (c.toNat : Int) = 37 := by omega
        simp only [h37i, if_true]
        -- the first digit
        have st : ∀ (k : Nat) (x2 : Int) (i : Nat) (hi : i < 3), script_sign.l0 (k + 1) (sb (c :: l)) x2 (i : Int) = if h : i < l.length + 1 then (match hexV ((c :: l)[i]'(by simpa using h)) with
            | none => some (0, (i : Int), false)
            | some n => script_sign.l0 k (sb (c :: l)) (Go.bits .or .u8 ((x2 * 16) % 256) ((n : Int) % 256)) ((i + 1 : Nat) : Int)) else some (0, (i : Int), false) := fun k x2 i hi => by
          by_cases h : i < l.length + 1
          · have hbi : bt (sb (c :: l)) (i : Int) = (((c :: l)[i]'(by simpa using h)).toNat : Int) := by
              have := bt_bs (sb (c :: l)) i (by rw [bs_sb]; simpa using h)
              simpa [bs_sb] using this
            rw [dif_pos h, script_sign.l0, if_pos (by omega), if_neg (by omega), if_pos (by omega), if_pos (by omega), hbi]
            unfold strings_IndexByte.f
            rw [Option.bind_some]
            have hu : (((c :: l)[i]'(by simpa using h)).toNat : Int).toNat.toUInt8 = (c :: l)[i]'(by simpa using h) := by
              rw [Int.toNat_natCast]; simp [Nat.toUInt8]
            rw [hu, show (⟨#[48, 49, 50, 51, 52, 53, 54, 55, 56, 57, 65, 66, 67, 68, 69, 70]⟩ : ByteArray).data.toList = [48, 49, 50, 51, 52, 53, 54, 55, 56, 57, 65, 66, 67, 68, 69, 70] from rfl, idx_hex]
            cases hexV ((c :: l)[i]'(by simpa using h)) with
            | none => rfl
            | some n =>
              simp only
              rw [if_neg (by omega), w64 (by omega) (by omega)]
              rfl
          · rw [dif_neg h, script_sign.l0, if_pos (by omega), if_pos (by omega)]
        have st3 : ∀ (k x2 : Nat) (hx : x2 < 256), script_sign.l0 (k + 1) (sb (c :: l)) (x2 : Int) ((3 : Nat) : Int) = if plainB (UInt8.ofNat x2) = true then some (0, 2, false) else some ((x2 : Int), 3, true) := fun k x2 hx => by
          rw [script_sign.l0, if_neg (by omega), plain_n x2 hx, Option.bind_some]
        match l, st, st3 with
        | [], st, st3 =>
          refine Ev.step (f := fun _ => some _) (fun k => ?_) (Ev.now _)
          have := st k 0 1 (by decide)
          rw [dif_neg (by simp)] at this
          simpa [signS, hc, h37] using this
        | h :: l1, st, st3 =>
          cases hh : hexV h with
          | none =>
            refine Ev.step (f := fun _ => some _) (fun k => ?_) (Ev.now _)
            have := st k 0 1 (by decide)
            rw [dif_pos (by simp)] at this
            simpa [signS, hc, h37, hh] using this
          | some a =>
            have ha := hexV_lt hh
            refine Ev.step (f := fun k => script_sign.l0 k (sb (c :: h :: l1)) (a : Int) ((2 : Nat) : Int)) (fun k => ?_) ?_
            · have := st k 0 1 (by decide)
              rw [dif_pos (by simp)] at this
              simp only [List.getElem_cons_succ, List.getElem_cons_zero, hh, or_hex0 a ha] at this
              exact this
            · match l1, st, st3 with
              | [], st, st3 =>
                refine Ev.step (f := fun _ => some _) (fun k => ?_) (Ev.now _)
                have := st k a 2 (by decide)
                rw [dif_neg (by simp)] at this
                simpa [signS, hc, h37, hh] using this
              | k0 :: l2, st, st3 =>
                cases hk : hexV k0 with
                | none =>
                  refine Ev.step (f := fun _ => some _) (fun k => ?_) (Ev.now _)
                  have := st k a 2 (by decide)
                  rw [dif_pos (by simp)] at this
                  simpa [signS, hc, h37, hh, hk] using this
                | some b =>
                  have hb := hexV_lt hk
                  refine Ev.step (f := fun k => script_sign.l0 k (sb (c :: h :: k0 :: l2)) ((16 * a + b : Nat) : Int) ((3 : Nat) : Int)) (fun k => ?_) ?_
                  · have := st k a 2 (by decide)
                    rw [dif_pos (by simp)] at this
                    simp only [List.getElem_cons_succ, List.getElem_cons_zero, hk, or_hex a b ha hb] at this
                    exact this
                  · refine Ev.step (f := fun _ => some _) (fun k => ?_) (Ev.now _)
                    rw [st3 k (16 * a + b) (by omega), show UInt8.ofNat (16 * a + b) = hexB a b from rfl]
                    by_cases hp : plainB (hexB a b) = true
                    · simp [signS, hc, h37, hh, hk, hp]
                    · simp [signS, hc, h37, hh, hk, hp]
      · have hn : ¬ (c.toNat : Int) = 37 := by omega
        simp only [hn, signS, hc, h37, if_false, Bool.false_eq_true]
        exact Ev.now _
theorem nums_append (a b : By) : nums (a ++ b) = nums a ++ nums b := by simp [nums]
theorem bytes_go (t : ByteArray) (hs : t.size ≤ 2097152) (w bad : Bool) : ∀ (n : Nat) (l : By) (at_ : Int) (acc : By), l.length ≤ n → acc.length + l.length ≤ 2097152 → LSt (bs t) (.good () l) at_ bad →
    ∃ x at' bad' r', Ev (fun k => script_line_bytes.l0 k (nums acc) t at_ w bad) (nums x, t, at', w, bad') ∧ LSt (bs t) r' at' bad' ∧ match textGo l with
      | .good y l' => if acc ++ y = [] then r' = .bad l' else x = acc ++ y ∧ r' = .good () l'
      | .bad l' => r' = .bad l' := by
  intro n
  induction n with
  | zero =>
    intro l at_ acc hn ha h
    obtain rfl : l = [] := List.length_eq_zero_iff.1 (by omega)
    have hr := rest_f (w := w) h
    have hsg := sign_ev [] (by simp)
    simp only [signS] at hsg
    have hb := h.1
    obtain ⟨at1, hf1, hS1⟩ := fail_f (w := w) (n := ((0 : Nat) : Int)) h 0 rfl (Nat.le_refl _) (by omega)
    have st : ∀ k, script_line_bytes.l0 (k + 1) (nums acc) t at_ w bad = (script_sign.f k (sb [])).bind fun s => if s.2.2 = true then (if (nums acc).length < 140737488355328 then script_line_bytes.l0 k (nums acc ++ [s.1]) t (wrap64 (at_ + s.2.1)) w bad else none) else if s.2.1 > 0 then ((script_line_fail.f t at_ w bad s.2.1).bind fun b => some (([] : List Int), b.1, b.2.1, b.2.2.1, b.2.2.2)) else if ((nums acc).length : Int) = 0 then ((script_line_fail.f t at_ w bad s.2.1).bind fun b => some (([] : List Int), b.1, b.2.1, b.2.2.1, b.2.2.2)) else some (nums acc, t, at_, w, bad) := fun k => by
      rw [script_line_bytes.l0, hr, Option.bind_some]
    by_cases hacc : acc = []
    · subst hacc
      refine ⟨[], at1, true, .bad [], Ev.step st (Ev.bind hsg (Ev.congr (f := fun _ => some _) (fun k => ?_) (Ev.now _))), hS1, by simp [textGo]⟩
      simp only [Bool.false_eq_true, if_false]
      rw [if_neg (by decide), if_pos (by simp [nums]), hf1]
      rfl
    · refine ⟨acc, at_, bad, .good () [], Ev.step st (Ev.bind hsg (Ev.congr (f := fun _ => some _) (fun k => ?_) (Ev.now _))), h, by simp [textGo, hacc]⟩
      simp only [Bool.false_eq_true, if_false]
      rw [if_neg (by decide), if_neg (by simp [nums, hacc])]
  | succ n ih =>
    intro l at_ acc hn ha h
    have hr := rest_f (w := w) h
    have hsg := sign_ev l (by omega)
    obtain ⟨hle, hsem⟩ := text_sign l
    obtain ⟨c, m, ok, hcm⟩ : ∃ c m ok, signS l = (c, m, ok) := ⟨_, _, _, rfl⟩
    rw [hcm] at hsg hle hsem
    simp only at hsg hle hsem
    have st : ∀ k, script_line_bytes.l0 (k + 1) (nums acc) t at_ w bad = (script_sign.f k (sb l)).bind fun s => if s.2.2 = true then (if (nums acc).length < 140737488355328 then script_line_bytes.l0 k (nums acc ++ [s.1]) t (wrap64 (at_ + s.2.1)) w bad else none) else if s.2.1 > 0 then ((script_line_fail.f t at_ w bad s.2.1).bind fun b => some (([] : List Int), b.1, b.2.1, b.2.2.1, b.2.2.2)) else if ((nums acc).length : Int) = 0 then ((script_line_fail.f t at_ w bad s.2.1).bind fun b => some (([] : List Int), b.1, b.2.1, b.2.2.1, b.2.2.2)) else some (nums acc, t, at_, w, bad) := fun k => by
      rw [script_line_bytes.l0, hr, Option.bind_some]
    obtain ⟨hb0, p, hp, hat⟩ := id h
    have hpl : p.length + l.length = t.size := by rw [← bs_len, hp, List.length_append]
    cases ok with
    | true =>
      simp only [if_true] at hsem
      obtain ⟨hm0, hc, htx⟩ := hsem
      have hacc : nums acc ++ [(c : Int)] = nums (acc ++ [c.toUInt8]) := by
        rw [nums_append]
        simp [nums, Nat.toUInt8]
        omega
      obtain ⟨x, at', bad', r', h1, h2, h3⟩ := ih (l.drop m) (at_ + m) (acc ++ [c.toUInt8]) (by rw [List.length_drop]; omega) (by rw [List.length_drop, List.length_append]; simp; omega) ⟨hb0, p ++ l.take m, by rw [List.append_assoc, List.take_append_drop]; exact hp, by rw [List.length_append, List.length_take, Nat.min_eq_left hle]; omega⟩
      refine ⟨x, at', bad', r', Ev.step st (Ev.bind hsg (Ev.congr (f := fun k => script_line_bytes.l0 k (nums (acc ++ [c.toUInt8])) t (at_ + m) w bad) (fun k => ?_) h1)), h2, ?_⟩
      · simp only [if_true]
        rw [if_pos (by simp [nums]; omega), hacc, w64 (by omega) (by omega)]
      · rw [htx]
        cases ht : textGo (l.drop m) with
        | bad l' => rw [ht] at h3; simpa [R.bnd] using h3
        | good y l' => rw [ht] at h3; simpa [R.bnd] using h3
    | false =>
      simp only [Bool.false_eq_true, if_false] at hsem
      obtain ⟨at1, hf1, hS1⟩ := fail_f (w := w) (n := (m : Int)) h m rfl hle (by omega)
      by_cases hm : m = 0
      · subst hm
        simp only [if_true] at hsem
        by_cases hacc : acc = []
        · subst hacc
          refine ⟨[], at1, true, .bad (l.drop 0), Ev.step st (Ev.bind hsg (Ev.congr (f := fun _ => some _) (fun k => ?_) (Ev.now _))), hS1, by rw [hsem]; simp⟩
          simp only [Bool.false_eq_true, if_false]
          rw [if_neg (by decide), if_pos (by simp [nums]), hf1]
          rfl
        · refine ⟨acc, at_, bad, .good () l, Ev.step st (Ev.bind hsg (Ev.congr (f := fun _ => some _) (fun k => ?_) (Ev.now _))), h, by rw [hsem]; simp [hacc]⟩
          simp only [Bool.false_eq_true, if_false]
          rw [if_neg (by decide), if_neg (by simp [nums, hacc])]
      · rw [if_neg hm] at hsem
        refine ⟨[], at1, true, .bad (l.drop m), Ev.step st (Ev.bind hsg (Ev.congr (f := fun _ => some _) (fun k => ?_) (Ev.now _))), hS1, by rw [hsem]⟩
        simp only [Bool.false_eq_true, if_false]
        rw [if_pos (by omega), hf1]
        rfl
theorem bytes_f (t : ByteArray) (r : R Unit) (at_ : Int) (w bad : Bool) (h : LSt (bs t) r at_ bad) (hs : t.size ≤ 2097152) :
    ∃ x at' bad' r', Ev (fun k => script_line_bytes.f k t at_ w bad) (nums x, t, at', w, bad') ∧ LSt (bs t) r' at' bad' ∧ Pst textP r x r' := by
  cases r with
  | bad l =>
    refine ⟨[], at_, bad, .bad l, Ev.congr (f := fun _ => some _) (fun k => ?_) (Ev.now _), h, rfl⟩
    unfold script_line_bytes.f
    rw [if_pos h.1]
    rfl
  | good u l =>
    obtain ⟨hb0, p, hp, hat⟩ := id h
    have hpl : p.length + l.length = t.size := by rw [← bs_len, hp, List.length_append]
    have e0 : ∀ k, script_line_bytes.f k t at_ w bad = if (decide ((bs ⟨#[45]⟩) <+: l)) = true then some (([] : List Int), t, wrap64 (at_ + 1), w, bad) else script_line_bytes.l0 k ([] : List Int) t at_ w bad := fun k => by
      unfold script_line_bytes.f
      rw [if_neg (by rw [hb0]; decide), rest_f h, Option.bind_some, pre_f, bs_sb, Option.bind_some]
    by_cases hm : l.head? = some 45
    · have hd : decide ((bs ⟨#[45]⟩) <+: l) = true := by
        cases l with
        | nil => cases hm
        | cons c l => obtain rfl : c = 45 := by simpa using hm
                      simp [bs]
      have hl0 : 0 < l.length := by cases l <;> simp_all
      refine ⟨[], at_ + 1, bad, .good () (l.drop 1), Ev.congr (f := fun _ => some _) (fun k => ?_) (Ev.now _), ⟨hb0, p ++ l.take 1, by rw [List.append_assoc, List.take_append_drop]; exact hp, by rw [List.length_append, List.length_take, Nat.min_eq_left (by omega)]; omega⟩, ?_⟩
      · rw [e0, if_pos hd, w64 (by omega) (by omega)]; rfl
      · unfold Pst textP; simp only [hm, if_true]; exact ⟨trivial, by rw [List.drop_one]⟩
    · have hd : ¬ decide ((bs ⟨#[45]⟩) <+: l) = true := by
        cases l with
        | nil => simp [bs]
        | cons c l => simp [bs]; intro e; exact hm (by rw [← e]; rfl)
      obtain ⟨x, at', bad', r', h1, h2, h3⟩ := bytes_go t hs w bad l.length l at_ [] (Nat.le_refl _) (by simp; omega) h
      refine ⟨x, at', bad', r', Ev.congr (fun k => by rw [e0, if_neg hd]; rfl) h1, h2, ?_⟩
      unfold Pst textP
      simp only [hm, if_false]
      cases ht : textGo l with
      | bad l' => rw [ht] at h3; simpa [R.bnd] using h3
      | good y l' =>
        rw [ht] at h3
        simp only [List.nil_append] at h3
        by_cases hy : y = []
        · simp only [hy, if_true, R.bnd] at h3 ⊢; exact h3
        · simp only [hy, if_false, R.bnd] at h3 ⊢; exact h3
end Go.Proofs.YtnbfebjcfhbhiaaDoor.Sc
end
section
namespace Go.Proofs.YtnbfebjcfhbhiaaDoor.P
open Go.RowKit Go.Proofs.YtnbfebjcfhbhiaaDoorW.PrintWords Go.Proofs.YtnbfebjcfhbhiaaDoorW.PrintLast Go.Proofs.YtnbfebjcfhbhiaaDoorW.PrintMore
attribute [local go_sem] max2_int min2_int max_two min_two max_three min_three max_four min_four   -- for this text's walks alone
set_option linter.unusedVariables false
set_option linter.unusedSimpArgs false

def sluicelaw18_alike.l0 : Nat → List (S48) → List (S48) → Int → Option (Bool)
  | 0, _, _, _ => none
  | k + 1, x0, x1, x5 => if x5 < (x0.length : Int) then (if 0 ≤ x5 then (if x5 < (x1.length : Int) then ((sluicelaw18_same.f ((rd_T48 x0 x5).f0) ((rd_T48 x0 x5).f1) ((rd_T48 x0 x5).f2.f0) ((rd_T48 x0 x5).f2.f1) ((rd_T48 x0 x5).f3.f0) ((rd_T48 x0 x5).f3.f1) ((rd_T48 x0 x5).f3.f2) ((rd_T48 x0 x5).f3.f3) ((rd_T48 x0 x5).f4) ((rd_T48 x0 x5).f5) ((rd_T48 x0 x5).f6) ((rd_T48 x1 x5).f0) ((rd_T48 x1 x5).f1) ((rd_T48 x1 x5).f2.f0) ((rd_T48 x1 x5).f2.f1) ((rd_T48 x1 x5).f3.f0) ((rd_T48 x1 x5).f3.f1) ((rd_T48 x1 x5).f3.f2) ((rd_T48 x1 x5).f3.f3) ((rd_T48 x1 x5).f4) ((rd_T48 x1 x5).f5) ((rd_T48 x1 x5).f6)).bind fun t212 => (if t212 = true then (sluicelaw18_alike.l0 k x0 x1 (wrap64 (x5 + 1))) else (some false))) else (none)) else (none)) else (some true)
def sluicelaw18_alike.f (k : Nat) (l0 : List (S48)) (l1 : List (S48)) : Option (Bool) := if (l0.length : Int) = (l1.length : Int) then (sluicelaw18_alike.l0 k l0 l1 0) else (some false)
def sluicelaw18_alike.T6 : Bool × List (List Nat × List Nat) := (true, [([], []), ([], []), ([0, 1], [0, 1]), ([2], [2]), ([], []), ([], []), ([4, 5], [4, 5]), ([6], [6]), ([3, 7], [3, 7]), ([8, 8, 0, 1, 2, 3, 4, 5, 6, 7, 8], [8])])
def sluicelaw18_alike.B6 : List Nat := [0, 0, 3, 7, 0, 0, 48, 112, 255, 511]
theorem sluicelaw18_alike.tab6 : rtab .any (opsOf Tryd.f17 6) = sluicelaw18_alike.T6 := by kernel_rfl
theorem sluicelaw18_alike.bits6 : waitsOk sluicelaw18_alike.T6.2 sluicelaw18_alike.B6 = true := by kernel_rfl
set_option maxHeartbeats 8000000 in
set_option maxRecDepth 100000 in
theorem sluicelaw18_alike.calls (k : Nat) (A0 : Option Addr) (c0 : Nat) (l0 : List (S48)) (A1 : Option Addr) (c1 : Nat) (l1 : List (S48)) (r : Bool) (w : World) (hr0 : Kd.C k48 w A0 l0.length l0) (hc0 : l0.length ≤ c0) (hr1 : Kd.C k48 w A1 l1.length l1) (hc1 : l1.length ≤ c1) (h : sluicelaw18_alike.f k l0 l1 = some r) :
    Calls Tryd.prog 17 #[.slice A0 l0.length c0, .slice A1 l1.length c1] w fun e w' => e = .returned (.bool r) ∧ Below w.heap.size w w' := by
  have hu48 := Tryd.underlying48
  have HR0 := Aside0.mk hr0
  have HC0 := Aside0.mk hc0
  clear hr0 hc0
  have HR1 := Aside0.mk hr1
  have HC1 := Aside0.mk hc1
  clear hr1 hc1
  have HB := Aside0.mk (Below.refl w.heap.size w)
  have H : (if (l0.length : Int) = (l1.length : Int) then (sluicelaw18_alike.l0 k l0 l1 0) else (some false)) = some r := h
  clear h
  by_cases c3 : (l0.length : Int) = (l1.length : Int)
  · rw [if_pos c3] at H
    have c3b0 : ((l0.length : Int) == (l1.length : Int)) = true := beq_iff_eq.mpr c3
    have c3b1 : ((l0.length : Int) != (l1.length : Int)) = false := bne_eq_false_iff_eq.mpr c3
    have c3b2 : (l0.length == l1.length) = true := by first | simpa using c3 | (simp at c3 ⊢; omega)
    clear c3
    have H' := Aside0.mk H
    clear H
    go_enter Tryd.func17, Tryd.ntmps17
    go_wp2
    go_loopg [5] k (fun kq v5 w' => ∃ (x5_1 : Int), v5 = .int .i64 x5_1 ∧ Aside0 (sluicelaw18_alike.l0 kq l0 l1 x5_1 = some r) ∧ Aside0 (kq ≤ k) ∧ Aside0 (Below w.heap.size w w'))
    case atStart => exact ⟨(0), (by first | rfl | (simp; done) | (simp [*]; done)), H', ⟨Nat.le_refl _⟩, ⟨by repeat (first | (with_reducible first | exact HB.out | apply below_alloc | apply pw_below_drewN | apply below_drew1) | exact HB.out)⟩⟩
    case round =>
      clear H'
      try clear c1
      try clear p2
      try clear c3
      try clear c3b0
      try clear c3b1
      try clear c3b2
      obtain ⟨x5_1, rfl, HA, HK1, HB⟩ := hrel
      cases gk with
      | zero => exact absurd HA.out (by simp [sluicelaw18_alike.l0])
      | succ k1 =>
        have H := HA.out
        clear HA
        simp only [sluicelaw18_alike.l0] at H
        by_cases c4 : x5_1 < (l0.length : Int)
        · rw [if_pos c4] at H
          have c4b0 : decide (x5_1 < (l0.length : Int)) = true := decide_eq_true c4
          clear c4
          by_cases c5 : 0 ≤ x5_1
          · rw [if_pos c5] at H
            have c5b0 : decide (0 ≤ x5_1) = true := decide_eq_true c5
            clear c5
            by_cases c6 : x5_1 < (l1.length : Int)
            · rw [if_pos c6] at H
              have c6b0 : decide (x5_1 < (l1.length : Int)) = true := decide_eq_true c6
              clear c6
              replace H := Option.bind_eq_some_iff.mp H
              obtain ⟨t212, A70, H⟩ := H
              replace H : (if t212 = true then (sluicelaw18_alike.l0 k1 l0 l1 (wrap64 (x5_1 + 1))) else (some false)) = some r := H
              have A7 := Aside0.mk A70
              clear A70
              by_cases c8 : t212 = true
              · subst c8
                have H1 : (sluicelaw18_alike.l0 k1 l0 l1 (wrap64 (x5_1 + 1))) = some r := by rw [if_pos rfl] at H; exact H
                clear H
                have H := H1
                clear H1
                have H' := Aside0.mk H
                clear H
                try go_wp2
                have n0_ := Aside0.mk (below_drew1 HB.out)
                clear HB
                have HB := n0_
                clear n0_
                have p210 : 0 ≤ (x5_1 : Int) := of_decide_eq_true (by first | (with_reducible assumption) | assumption)
                have q210 : x5_1 < (l0.length : Int) := of_decide_eq_true (by first | (with_reducible assumption) | assumption)
                obtain ⟨ad210, A210_10, c210_10, e210, hx210_0, hx210_1, hx210_2, hx210_3, hx210_4, hx210_5, hx210_6, hx210_7, hx210_8, hx210_9, hx210_10, hl210_10, hi210_10⟩ := at_T48 HR0.out x5_1 p210 q210
                have hw210_10 := hx210_10
                have hw210_9 := hx210_9
                have hw210_8 := hx210_8
                have hw210_7 := hx210_7
                have hw210_6 := hx210_6
                have hw210_5 := hx210_5
                have hw210_4 := hx210_4
                have hw210_3 := hx210_3
                have hw210_2 := hx210_2
                have hw210_1 := hx210_1
                have hw210_0 := hx210_0
                cases e210
                replace hx210_0 := (HB.out.cell (World.block_lt_of_cell? w _ hx210_0)).trans hx210_0
                replace hx210_1 := (HB.out.cell (World.block_lt_of_cell? w _ hx210_1)).trans hx210_1
                replace hx210_2 := (HB.out.cell (World.block_lt_of_cell? w _ hx210_2)).trans hx210_2
                replace hx210_3 := (HB.out.cell (World.block_lt_of_cell? w _ hx210_3)).trans hx210_3
                replace hx210_4 := (HB.out.cell (World.block_lt_of_cell? w _ hx210_4)).trans hx210_4
                replace hx210_5 := (HB.out.cell (World.block_lt_of_cell? w _ hx210_5)).trans hx210_5
                replace hx210_6 := (HB.out.cell (World.block_lt_of_cell? w _ hx210_6)).trans hx210_6
                replace hx210_7 := (HB.out.cell (World.block_lt_of_cell? w _ hx210_7)).trans hx210_7
                replace hx210_8 := (HB.out.cell (World.block_lt_of_cell? w _ hx210_8)).trans hx210_8
                replace hx210_9 := (HB.out.cell (World.block_lt_of_cell? w _ hx210_9)).trans hx210_9
                replace hx210_10 := (HB.out.cell (World.block_lt_of_cell? w _ hx210_10)).trans hx210_10
                have HR210_10 := Aside0.mk hi210_10
                have HC210_10 := Aside0.mk hl210_10
                clear hi210_10 hl210_10
                replace p210 := eq_true p210
                replace q210 := eq_true q210
                have p211 : 0 ≤ (x5_1 : Int) := of_decide_eq_true (by first | (with_reducible assumption) | assumption)
                have q211 : x5_1 < (l1.length : Int) := of_decide_eq_true (by first | (with_reducible assumption) | assumption)
                obtain ⟨ad211, A211_10, c211_10, e211, hx211_0, hx211_1, hx211_2, hx211_3, hx211_4, hx211_5, hx211_6, hx211_7, hx211_8, hx211_9, hx211_10, hl211_10, hi211_10⟩ := at_T48 HR1.out x5_1 p211 q211
                have hw211_10 := hx211_10
                have hw211_9 := hx211_9
                have hw211_8 := hx211_8
                have hw211_7 := hx211_7
                have hw211_6 := hx211_6
                have hw211_5 := hx211_5
                have hw211_4 := hx211_4
                have hw211_3 := hx211_3
                have hw211_2 := hx211_2
                have hw211_1 := hx211_1
                have hw211_0 := hx211_0
                cases e211
                replace hx211_0 := (HB.out.cell (World.block_lt_of_cell? w _ hx211_0)).trans hx211_0
                replace hx211_1 := (HB.out.cell (World.block_lt_of_cell? w _ hx211_1)).trans hx211_1
                replace hx211_2 := (HB.out.cell (World.block_lt_of_cell? w _ hx211_2)).trans hx211_2
                replace hx211_3 := (HB.out.cell (World.block_lt_of_cell? w _ hx211_3)).trans hx211_3
                replace hx211_4 := (HB.out.cell (World.block_lt_of_cell? w _ hx211_4)).trans hx211_4
                replace hx211_5 := (HB.out.cell (World.block_lt_of_cell? w _ hx211_5)).trans hx211_5
                replace hx211_6 := (HB.out.cell (World.block_lt_of_cell? w _ hx211_6)).trans hx211_6
                replace hx211_7 := (HB.out.cell (World.block_lt_of_cell? w _ hx211_7)).trans hx211_7
                replace hx211_8 := (HB.out.cell (World.block_lt_of_cell? w _ hx211_8)).trans hx211_8
                replace hx211_9 := (HB.out.cell (World.block_lt_of_cell? w _ hx211_9)).trans hx211_9
                replace hx211_10 := (HB.out.cell (World.block_lt_of_cell? w _ hx211_10)).trans hx211_10
                have HR211_10 := Aside0.mk hi211_10
                have HC211_10 := Aside0.mk hl211_10
                clear hi211_10 hl211_10
                replace p211 := eq_true p211
                replace q211 := eq_true q211
                refine start_ (n := 10) (S := fun w' => w'.cell? (ad210.add ((x5_1).toNat * 11)) = some (.int .i64 ((rd_T48 l0 x5_1).f0)) ∧ w'.cell? ⟨(ad210.add ((x5_1).toNat * 11)).block, (ad210.add ((x5_1).toNat * 11)).off + 1, none⟩ = some (.int .i64 ((rd_T48 l0 x5_1).f1)) ∧ w'.cell? ⟨(ad210.add ((x5_1).toNat * 11)).block, (ad210.add ((x5_1).toNat * 11)).off + 2, none⟩ = some (.int .i64 ((rd_T48 l0 x5_1).f2.f0)) ∧ w'.cell? ⟨(ad210.add ((x5_1).toNat * 11)).block, (ad210.add ((x5_1).toNat * 11)).off + 3, none⟩ = some (.int .i64 ((rd_T48 l0 x5_1).f2.f1)) ∧ w'.cell? ⟨(ad210.add ((x5_1).toNat * 11)).block, (ad210.add ((x5_1).toNat * 11)).off + 4, none⟩ = some (.int .i64 ((rd_T48 l0 x5_1).f3.f0)) ∧ w'.cell? ⟨(ad210.add ((x5_1).toNat * 11)).block, (ad210.add ((x5_1).toNat * 11)).off + 5, none⟩ = some (.string ((rd_T48 l0 x5_1).f3.f1)) ∧ w'.cell? ⟨(ad210.add ((x5_1).toNat * 11)).block, (ad210.add ((x5_1).toNat * 11)).off + 6, none⟩ = some (.int .i64 ((rd_T48 l0 x5_1).f3.f2)) ∧ w'.cell? ⟨(ad210.add ((x5_1).toNat * 11)).block, (ad210.add ((x5_1).toNat * 11)).off + 7, none⟩ = some (.int .i64 ((rd_T48 l0 x5_1).f3.f3)) ∧ w'.cell? ⟨(ad210.add ((x5_1).toNat * 11)).block, (ad210.add ((x5_1).toNat * 11)).off + 8, none⟩ = some (.int .i64 ((rd_T48 l0 x5_1).f4)) ∧ w'.cell? ⟨(ad210.add ((x5_1).toNat * 11)).block, (ad210.add ((x5_1).toNat * 11)).off + 9, none⟩ = some (.int .i64 ((rd_T48 l0 x5_1).f5)) ∧ w'.cell? ⟨(ad210.add ((x5_1).toNat * 11)).block, (ad210.add ((x5_1).toNat * 11)).off + 10, none⟩ = some (.slice A210_10 ((rd_T48 l0 x5_1).f6).length c210_10) ∧ w'.cell? (ad211.add ((x5_1).toNat * 11)) = some (.int .i64 ((rd_T48 l1 x5_1).f0)) ∧ w'.cell? ⟨(ad211.add ((x5_1).toNat * 11)).block, (ad211.add ((x5_1).toNat * 11)).off + 1, none⟩ = some (.int .i64 ((rd_T48 l1 x5_1).f1)) ∧ w'.cell? ⟨(ad211.add ((x5_1).toNat * 11)).block, (ad211.add ((x5_1).toNat * 11)).off + 2, none⟩ = some (.int .i64 ((rd_T48 l1 x5_1).f2.f0)) ∧ w'.cell? ⟨(ad211.add ((x5_1).toNat * 11)).block, (ad211.add ((x5_1).toNat * 11)).off + 3, none⟩ = some (.int .i64 ((rd_T48 l1 x5_1).f2.f1)) ∧ w'.cell? ⟨(ad211.add ((x5_1).toNat * 11)).block, (ad211.add ((x5_1).toNat * 11)).off + 4, none⟩ = some (.int .i64 ((rd_T48 l1 x5_1).f3.f0)) ∧ w'.cell? ⟨(ad211.add ((x5_1).toNat * 11)).block, (ad211.add ((x5_1).toNat * 11)).off + 5, none⟩ = some (.string ((rd_T48 l1 x5_1).f3.f1)) ∧ w'.cell? ⟨(ad211.add ((x5_1).toNat * 11)).block, (ad211.add ((x5_1).toNat * 11)).off + 6, none⟩ = some (.int .i64 ((rd_T48 l1 x5_1).f3.f2)) ∧ w'.cell? ⟨(ad211.add ((x5_1).toNat * 11)).block, (ad211.add ((x5_1).toNat * 11)).off + 7, none⟩ = some (.int .i64 ((rd_T48 l1 x5_1).f3.f3)) ∧ w'.cell? ⟨(ad211.add ((x5_1).toNat * 11)).block, (ad211.add ((x5_1).toNat * 11)).off + 8, none⟩ = some (.int .i64 ((rd_T48 l1 x5_1).f4)) ∧ w'.cell? ⟨(ad211.add ((x5_1).toNat * 11)).block, (ad211.add ((x5_1).toNat * 11)).off + 9, none⟩ = some (.int .i64 ((rd_T48 l1 x5_1).f5)) ∧ w'.cell? ⟨(ad211.add ((x5_1).toNat * 11)).block, (ad211.add ((x5_1).toNat * 11)).off + 10, none⟩ = some (.slice A211_10 ((rd_T48 l1 x5_1).f6).length c211_10)) (ds := []) #[false, false, false, false, false, false, false, false, false, false] (by kernel_rfl) rfl rfl ⟨((HB.out.cell (World.block_lt_of_cell? w _ hw210_0)).trans hw210_0), ((HB.out.cell (World.block_lt_of_cell? w _ hw210_1)).trans hw210_1), ((HB.out.cell (World.block_lt_of_cell? w _ hw210_2)).trans hw210_2), ((HB.out.cell (World.block_lt_of_cell? w _ hw210_3)).trans hw210_3), ((HB.out.cell (World.block_lt_of_cell? w _ hw210_4)).trans hw210_4), ((HB.out.cell (World.block_lt_of_cell? w _ hw210_5)).trans hw210_5), ((HB.out.cell (World.block_lt_of_cell? w _ hw210_6)).trans hw210_6), ((HB.out.cell (World.block_lt_of_cell? w _ hw210_7)).trans hw210_7), ((HB.out.cell (World.block_lt_of_cell? w _ hw210_8)).trans hw210_8), ((HB.out.cell (World.block_lt_of_cell? w _ hw210_9)).trans hw210_9), ((HB.out.cell (World.block_lt_of_cell? w _ hw210_10)).trans hw210_10), ((HB.out.cell (World.block_lt_of_cell? w _ hw211_0)).trans hw211_0), ((HB.out.cell (World.block_lt_of_cell? w _ hw211_1)).trans hw211_1), ((HB.out.cell (World.block_lt_of_cell? w _ hw211_2)).trans hw211_2), ((HB.out.cell (World.block_lt_of_cell? w _ hw211_3)).trans hw211_3), ((HB.out.cell (World.block_lt_of_cell? w _ hw211_4)).trans hw211_4), ((HB.out.cell (World.block_lt_of_cell? w _ hw211_5)).trans hw211_5), ((HB.out.cell (World.block_lt_of_cell? w _ hw211_6)).trans hw211_6), ((HB.out.cell (World.block_lt_of_cell? w _ hw211_7)).trans hw211_7), ((HB.out.cell (World.block_lt_of_cell? w _ hw211_8)).trans hw211_8), ((HB.out.cell (World.block_lt_of_cell? w _ hw211_9)).trans hw211_9), ((HB.out.cell (World.block_lt_of_cell? w _ hw211_10)).trans hw211_10)⟩ (fun hHeld => ?_); refine with_tabW sluicelaw18_alike.tab6 sluicelaw18_alike.bits6 (fun HT_ HW_ => ?_)
                generalize wr.drew = w9 at HB HR210_10 HR211_10 hx210_0 hx210_1 hx210_10 hx210_2 hx210_3 hx210_4 hx210_5 hx210_6 hx210_7 hx210_8 hx210_9 hx211_0 hx211_1 hx211_10 hx211_2 hx211_3 hx211_4 hx211_5 hx211_6 hx211_7 hx211_8 hx211_9 hHeld ⊢
                refine pure_ (i := 0) (N := some 18) (v := ?_) (a' := ?_) #[true, false, false, false, false, false, false, false, false, false] rfl rfl (any_of HT_.out (by kernel_rfl)) (fun _ _ _ h => h) (Or.inl ⟨by rfl, ?_⟩) ?_ ?_
                rotate_left
                · intro w'
                  go_simp
                  with_reducible rfl
                rotate_left
                · simp only [Act.put, List.setIfInBounds_toArray, List.set_cons_zero, List.set_cons_succ, i64_w, i32_w]
                  rfl
                refine pure_ (i := 1) (N := some 19) (v := ?_) (a' := ?_) #[true, true, false, false, false, false, false, false, false, false] rfl rfl (any_of HT_.out (by kernel_rfl)) (fun _ _ _ h => h) (Or.inl ⟨by rfl, ?_⟩) ?_ ?_
                rotate_left
                · intro w'
                  go_simp
                  with_reducible rfl
                rotate_left
                · simp only [Act.put, List.setIfInBounds_toArray, List.set_cons_zero, List.set_cons_succ, i64_w, i32_w]
                  rfl
                refine pure_ (i := 2) (N := some 20) (v := ?_) (a' := ?_) #[true, true, true, false, false, false, false, false, false, false] rfl rfl (any_of HT_.out (by kernel_rfl)) (fun _ _ _ h => h) (Or.inl ⟨by rfl, ?_⟩) ?_ ?_
                rotate_left
                · intro w'
                  go_simp
                  with_reducible rfl
                rotate_left
                · simp only [Act.put, List.setIfInBounds_toArray, List.set_cons_zero, List.set_cons_succ, i64_w, i32_w]
                  rfl
                refine pure_ (i := 4) (N := some 22) (v := ?_) (a' := ?_) #[true, true, true, false, true, false, false, false, false, false] rfl rfl (any_of HT_.out (by kernel_rfl)) (fun _ _ _ h => h) (Or.inl ⟨by rfl, ?_⟩) ?_ ?_
                rotate_left
                · intro w'
                  go_simp
                  with_reducible rfl
                rotate_left
                · simp only [Act.put, List.setIfInBounds_toArray, List.set_cons_zero, List.set_cons_succ, i64_w, i32_w]
                  rfl
                refine pure_ (i := 5) (N := some 23) (v := ?_) (a' := ?_) #[true, true, true, false, true, true, false, false, false, false] rfl rfl (any_of HT_.out (by kernel_rfl)) (fun _ _ _ h => h) (Or.inl ⟨by rfl, ?_⟩) ?_ ?_
                rotate_left
                · intro w'
                  go_simp
                  with_reducible rfl
                rotate_left
                · simp only [Act.put, List.setIfInBounds_toArray, List.set_cons_zero, List.set_cons_succ, i64_w, i32_w]
                  rfl
                refine pure_ (i := 6) (N := some 24) (v := ?_) (a' := ?_) #[true, true, true, false, true, true, true, false, false, false] rfl rfl (any_of HT_.out (by kernel_rfl)) (fun _ _ _ h => h) (Or.inl ⟨by rfl, ?_⟩) ?_ ?_
                rotate_left
                · intro w'
                  go_simp
                  with_reducible rfl
                rotate_left
                · simp only [Act.put, List.setIfInBounds_toArray, List.set_cons_zero, List.set_cons_succ, i64_w, i32_w]
                  rfl
                refine take_ (i := 3) (N := some 21) (v := ?_) (a' := ?_) #[true, true, true, true, true, true, true, false, false, false] rfl rfl (take_ofW HT_.out HW_.out (by kernel_rfl)) (fun _ _ _ h => h) (Or.inl ⟨by rfl, ?_⟩) hHeld ?_ ?_
                rotate_left
                · rintro w' ⟨s0, s1, s2, s3, s4, s5, s6, s7, s8, s9, s10, s11, s12, s13, s14, s15, s16, s17, s18, s19, s20, s21⟩
                  go_simp
                  with_reducible rfl
                rotate_left
                · simp only [Act.put, List.setIfInBounds_toArray, List.set_cons_zero, List.set_cons_succ, i64_w, i32_w]
                  rfl
                refine take_ (i := 7) (N := some 25) (v := ?_) (a' := ?_) #[true, true, true, true, true, true, true, true, false, false] rfl rfl (take_ofW HT_.out HW_.out (by kernel_rfl)) (fun _ _ _ h => h) (Or.inl ⟨by rfl, ?_⟩) hHeld ?_ ?_
                rotate_left
                · rintro w' ⟨s0, s1, s2, s3, s4, s5, s6, s7, s8, s9, s10, s11, s12, s13, s14, s15, s16, s17, s18, s19, s20, s21⟩
                  go_simp
                  with_reducible rfl
                rotate_left
                · simp only [Act.put, List.setIfInBounds_toArray, List.set_cons_zero, List.set_cons_succ, i64_w, i32_w]
                  rfl
                refine one_ (i := 8) (N := some 26) #[true, true, true, true, true, true, true, true, true, false] rfl rfl (one_of HT_.out (by kernel_rfl)) (by decide) (fun K hK => ?_)
                refine goes_ Tryd.func40 (by kernel_rfl) rfl #[.agg #[.int .i64 ((rd_T48 l0 x5_1).f0), .int .i64 ((rd_T48 l0 x5_1).f1), .int .i64 ((rd_T48 l0 x5_1).f2.f0), .int .i64 ((rd_T48 l0 x5_1).f2.f1), .int .i64 ((rd_T48 l0 x5_1).f3.f0), .string ((rd_T48 l0 x5_1).f3.f1), .int .i64 ((rd_T48 l0 x5_1).f3.f2), .int .i64 ((rd_T48 l0 x5_1).f3.f3), .int .i64 ((rd_T48 l0 x5_1).f4), .int .i64 ((rd_T48 l0 x5_1).f5), .slice A210_10 ((rd_T48 l0 x5_1).f6).length c210_10], .agg #[.int .i64 ((rd_T48 l1 x5_1).f0), .int .i64 ((rd_T48 l1 x5_1).f1), .int .i64 ((rd_T48 l1 x5_1).f2.f0), .int .i64 ((rd_T48 l1 x5_1).f2.f1), .int .i64 ((rd_T48 l1 x5_1).f3.f0), .string ((rd_T48 l1 x5_1).f3.f1), .int .i64 ((rd_T48 l1 x5_1).f3.f2), .int .i64 ((rd_T48 l1 x5_1).f3.f3), .int .i64 ((rd_T48 l1 x5_1).f4), .int .i64 ((rd_T48 l1 x5_1).f5), .slice A211_10 ((rd_T48 l1 x5_1).f6).length c211_10]] (by rfl) rfl rfl (by (try simp only [List.map_toArray, List.map_cons, List.map_nil]); first | done | rfl | (simp only [List.length_drop, List.length_take]; rfl)) ?_
                with_reducible refine (sluicelaw18_same.calls ((rd_T48 l0 x5_1).f0) ((rd_T48 l0 x5_1).f1) ((rd_T48 l0 x5_1).f2.f0) ((rd_T48 l0 x5_1).f2.f1) ((rd_T48 l0 x5_1).f3.f0) ((rd_T48 l0 x5_1).f3.f1) ((rd_T48 l0 x5_1).f3.f2) ((rd_T48 l0 x5_1).f3.f3) ((rd_T48 l0 x5_1).f4) ((rd_T48 l0 x5_1).f5) _ _ ((rd_T48 l0 x5_1).f6) ((rd_T48 l1 x5_1).f0) ((rd_T48 l1 x5_1).f1) ((rd_T48 l1 x5_1).f2.f0) ((rd_T48 l1 x5_1).f2.f1) ((rd_T48 l1 x5_1).f3.f0) ((rd_T48 l1 x5_1).f3.f1) ((rd_T48 l1 x5_1).f3.f2) ((rd_T48 l1 x5_1).f3.f3) ((rd_T48 l1 x5_1).f4) ((rd_T48 l1 x5_1).f5) _ _ ((rd_T48 l1 x5_1).f6) true _ ?side1 ?side2 ?side3 ?side4 A7.out).mono ?_
                (case side1 => repeat (first | exact (Kd.C_below HR210_10.out HB.out) | (with_reducible refine Kd.C_alloc ?_ _) | (with_reducible refine Kd.C_drewN ?_ _) | (with_reducible refine Kd.C_drew ?_)))
                (case side2 => exact HC210_10.out)
                (case side3 => repeat (first | exact (Kd.C_below HR211_10.out HB.out) | (with_reducible refine Kd.C_alloc ?_ _) | (with_reducible refine Kd.C_drewN ?_ _) | (with_reducible refine Kd.C_drew ?_)))
                (case side4 => exact HC211_10.out)
                rintro e w10 ⟨rfl, hb⟩
                refine ⟨_, rfl, ?_⟩
                have n0_ := Aside0.mk (below_step (by repeat (first | (with_reducible first | exact HB.out | apply below_alloc | apply pw_below_drewN | apply below_drew1) | exact HB.out)) hb)
                clear HB
                have HB := n0_
                clear n0_
                (try clear hb)
                (try clear hb2)
                (try clear hk)
                (try clear hi)
                refine hK.out _ _ ⟨((HB.out.cell (World.block_lt_of_cell? w _ hw210_0)).trans hw210_0), ((HB.out.cell (World.block_lt_of_cell? w _ hw210_1)).trans hw210_1), ((HB.out.cell (World.block_lt_of_cell? w _ hw210_2)).trans hw210_2), ((HB.out.cell (World.block_lt_of_cell? w _ hw210_3)).trans hw210_3), ((HB.out.cell (World.block_lt_of_cell? w _ hw210_4)).trans hw210_4), ((HB.out.cell (World.block_lt_of_cell? w _ hw210_5)).trans hw210_5), ((HB.out.cell (World.block_lt_of_cell? w _ hw210_6)).trans hw210_6), ((HB.out.cell (World.block_lt_of_cell? w _ hw210_7)).trans hw210_7), ((HB.out.cell (World.block_lt_of_cell? w _ hw210_8)).trans hw210_8), ((HB.out.cell (World.block_lt_of_cell? w _ hw210_9)).trans hw210_9), ((HB.out.cell (World.block_lt_of_cell? w _ hw210_10)).trans hw210_10), ((HB.out.cell (World.block_lt_of_cell? w _ hw211_0)).trans hw211_0), ((HB.out.cell (World.block_lt_of_cell? w _ hw211_1)).trans hw211_1), ((HB.out.cell (World.block_lt_of_cell? w _ hw211_2)).trans hw211_2), ((HB.out.cell (World.block_lt_of_cell? w _ hw211_3)).trans hw211_3), ((HB.out.cell (World.block_lt_of_cell? w _ hw211_4)).trans hw211_4), ((HB.out.cell (World.block_lt_of_cell? w _ hw211_5)).trans hw211_5), ((HB.out.cell (World.block_lt_of_cell? w _ hw211_6)).trans hw211_6), ((HB.out.cell (World.block_lt_of_cell? w _ hw211_7)).trans hw211_7), ((HB.out.cell (World.block_lt_of_cell? w _ hw211_8)).trans hw211_8), ((HB.out.cell (World.block_lt_of_cell? w _ hw211_9)).trans hw211_9), ((HB.out.cell (World.block_lt_of_cell? w _ hw211_10)).trans hw211_10)⟩ (fun hHeld => ?_)
                clear hK K
                refine norm_ (a' := ?_) ?_ ?_
                rotate_left
                · show Act.put _ (some 26) _ = _
                  simp only [Act.put, List.setIfInBounds_toArray, List.set_cons_zero, List.set_cons_succ, i64_w, i32_w]
                  rfl
                refine pure_ (i := 9) (N := some 6) (v := ?_) (a' := ?_) #[true, true, true, true, true, true, true, true, true, true] rfl rfl (any_of HT_.out (by kernel_rfl)) (fun _ _ _ h => h) (Or.inl ⟨by rfl, ?_⟩) ?_ ?_
                rotate_left
                · intro w'
                  go_simp
                  with_reducible rfl
                rotate_left
                · simp only [Act.put, List.setIfInBounds_toArray, List.set_cons_zero, List.set_cons_succ, i64_w, i32_w]
                  rfl
                refine done_ (done_of HT_.out (by kernel_rfl)) ?_
                try go_wp2
                go_roundg k1
                case measure => have := HK1.out; omega
                case rel => exact ⟨(wrap64 (x5_1 + 1)), (by first | rfl | (simp; done) | (simp [*]; done)), H', ⟨by have := HK1.out; omega⟩, ⟨by repeat (first | (with_reducible first | exact HB.out | apply below_alloc | apply pw_below_drewN | apply below_drew1) | exact HB.out)⟩⟩
              · replace c8 := Bool.eq_false_iff.mpr c8
                subst c8
                have H1 : (some false) = some r := by rw [if_neg (show ¬ (false = true) by decide)] at H; exact H
                clear H
                have H := H1
                clear H1
                obtain rfl := Option.some.inj H
                try go_wp2
                have n0_ := Aside0.mk (below_drew1 HB.out)
                clear HB
                have HB := n0_
                clear n0_
                have p210 : 0 ≤ (x5_1 : Int) := of_decide_eq_true (by first | (with_reducible assumption) | assumption)
                have q210 : x5_1 < (l0.length : Int) := of_decide_eq_true (by first | (with_reducible assumption) | assumption)
                obtain ⟨ad210, A210_10, c210_10, e210, hx210_0, hx210_1, hx210_2, hx210_3, hx210_4, hx210_5, hx210_6, hx210_7, hx210_8, hx210_9, hx210_10, hl210_10, hi210_10⟩ := at_T48 HR0.out x5_1 p210 q210
                have hw210_10 := hx210_10
                have hw210_9 := hx210_9
                have hw210_8 := hx210_8
                have hw210_7 := hx210_7
                have hw210_6 := hx210_6
                have hw210_5 := hx210_5
                have hw210_4 := hx210_4
                have hw210_3 := hx210_3
                have hw210_2 := hx210_2
                have hw210_1 := hx210_1
                have hw210_0 := hx210_0
                cases e210
                replace hx210_0 := (HB.out.cell (World.block_lt_of_cell? w _ hx210_0)).trans hx210_0
                replace hx210_1 := (HB.out.cell (World.block_lt_of_cell? w _ hx210_1)).trans hx210_1
                replace hx210_2 := (HB.out.cell (World.block_lt_of_cell? w _ hx210_2)).trans hx210_2
                replace hx210_3 := (HB.out.cell (World.block_lt_of_cell? w _ hx210_3)).trans hx210_3
                replace hx210_4 := (HB.out.cell (World.block_lt_of_cell? w _ hx210_4)).trans hx210_4
                replace hx210_5 := (HB.out.cell (World.block_lt_of_cell? w _ hx210_5)).trans hx210_5
                replace hx210_6 := (HB.out.cell (World.block_lt_of_cell? w _ hx210_6)).trans hx210_6
                replace hx210_7 := (HB.out.cell (World.block_lt_of_cell? w _ hx210_7)).trans hx210_7
                replace hx210_8 := (HB.out.cell (World.block_lt_of_cell? w _ hx210_8)).trans hx210_8
                replace hx210_9 := (HB.out.cell (World.block_lt_of_cell? w _ hx210_9)).trans hx210_9
                replace hx210_10 := (HB.out.cell (World.block_lt_of_cell? w _ hx210_10)).trans hx210_10
                have HR210_10 := Aside0.mk hi210_10
                have HC210_10 := Aside0.mk hl210_10
                clear hi210_10 hl210_10
                replace p210 := eq_true p210
                replace q210 := eq_true q210
                have p211 : 0 ≤ (x5_1 : Int) := of_decide_eq_true (by first | (with_reducible assumption) | assumption)
                have q211 : x5_1 < (l1.length : Int) := of_decide_eq_true (by first | (with_reducible assumption) | assumption)
                obtain ⟨ad211, A211_10, c211_10, e211, hx211_0, hx211_1, hx211_2, hx211_3, hx211_4, hx211_5, hx211_6, hx211_7, hx211_8, hx211_9, hx211_10, hl211_10, hi211_10⟩ := at_T48 HR1.out x5_1 p211 q211
                have hw211_10 := hx211_10
                have hw211_9 := hx211_9
                have hw211_8 := hx211_8
                have hw211_7 := hx211_7
                have hw211_6 := hx211_6
                have hw211_5 := hx211_5
                have hw211_4 := hx211_4
                have hw211_3 := hx211_3
                have hw211_2 := hx211_2
                have hw211_1 := hx211_1
                have hw211_0 := hx211_0
                cases e211
                replace hx211_0 := (HB.out.cell (World.block_lt_of_cell? w _ hx211_0)).trans hx211_0
                replace hx211_1 := (HB.out.cell (World.block_lt_of_cell? w _ hx211_1)).trans hx211_1
                replace hx211_2 := (HB.out.cell (World.block_lt_of_cell? w _ hx211_2)).trans hx211_2
                replace hx211_3 := (HB.out.cell (World.block_lt_of_cell? w _ hx211_3)).trans hx211_3
                replace hx211_4 := (HB.out.cell (World.block_lt_of_cell? w _ hx211_4)).trans hx211_4
                replace hx211_5 := (HB.out.cell (World.block_lt_of_cell? w _ hx211_5)).trans hx211_5
                replace hx211_6 := (HB.out.cell (World.block_lt_of_cell? w _ hx211_6)).trans hx211_6
                replace hx211_7 := (HB.out.cell (World.block_lt_of_cell? w _ hx211_7)).trans hx211_7
                replace hx211_8 := (HB.out.cell (World.block_lt_of_cell? w _ hx211_8)).trans hx211_8
                replace hx211_9 := (HB.out.cell (World.block_lt_of_cell? w _ hx211_9)).trans hx211_9
                replace hx211_10 := (HB.out.cell (World.block_lt_of_cell? w _ hx211_10)).trans hx211_10
                have HR211_10 := Aside0.mk hi211_10
                have HC211_10 := Aside0.mk hl211_10
                clear hi211_10 hl211_10
                replace p211 := eq_true p211
                replace q211 := eq_true q211
                refine start_ (n := 10) (S := fun w' => w'.cell? (ad210.add ((x5_1).toNat * 11)) = some (.int .i64 ((rd_T48 l0 x5_1).f0)) ∧ w'.cell? ⟨(ad210.add ((x5_1).toNat * 11)).block, (ad210.add ((x5_1).toNat * 11)).off + 1, none⟩ = some (.int .i64 ((rd_T48 l0 x5_1).f1)) ∧ w'.cell? ⟨(ad210.add ((x5_1).toNat * 11)).block, (ad210.add ((x5_1).toNat * 11)).off + 2, none⟩ = some (.int .i64 ((rd_T48 l0 x5_1).f2.f0)) ∧ w'.cell? ⟨(ad210.add ((x5_1).toNat * 11)).block, (ad210.add ((x5_1).toNat * 11)).off + 3, none⟩ = some (.int .i64 ((rd_T48 l0 x5_1).f2.f1)) ∧ w'.cell? ⟨(ad210.add ((x5_1).toNat * 11)).block, (ad210.add ((x5_1).toNat * 11)).off + 4, none⟩ = some (.int .i64 ((rd_T48 l0 x5_1).f3.f0)) ∧ w'.cell? ⟨(ad210.add ((x5_1).toNat * 11)).block, (ad210.add ((x5_1).toNat * 11)).off + 5, none⟩ = some (.string ((rd_T48 l0 x5_1).f3.f1)) ∧ w'.cell? ⟨(ad210.add ((x5_1).toNat * 11)).block, (ad210.add ((x5_1).toNat * 11)).off + 6, none⟩ = some (.int .i64 ((rd_T48 l0 x5_1).f3.f2)) ∧ w'.cell? ⟨(ad210.add ((x5_1).toNat * 11)).block, (ad210.add ((x5_1).toNat * 11)).off + 7, none⟩ = some (.int .i64 ((rd_T48 l0 x5_1).f3.f3)) ∧ w'.cell? ⟨(ad210.add ((x5_1).toNat * 11)).block, (ad210.add ((x5_1).toNat * 11)).off + 8, none⟩ = some (.int .i64 ((rd_T48 l0 x5_1).f4)) ∧ w'.cell? ⟨(ad210.add ((x5_1).toNat * 11)).block, (ad210.add ((x5_1).toNat * 11)).off + 9, none⟩ = some (.int .i64 ((rd_T48 l0 x5_1).f5)) ∧ w'.cell? ⟨(ad210.add ((x5_1).toNat * 11)).block, (ad210.add ((x5_1).toNat * 11)).off + 10, none⟩ = some (.slice A210_10 ((rd_T48 l0 x5_1).f6).length c210_10) ∧ w'.cell? (ad211.add ((x5_1).toNat * 11)) = some (.int .i64 ((rd_T48 l1 x5_1).f0)) ∧ w'.cell? ⟨(ad211.add ((x5_1).toNat * 11)).block, (ad211.add ((x5_1).toNat * 11)).off + 1, none⟩ = some (.int .i64 ((rd_T48 l1 x5_1).f1)) ∧ w'.cell? ⟨(ad211.add ((x5_1).toNat * 11)).block, (ad211.add ((x5_1).toNat * 11)).off + 2, none⟩ = some (.int .i64 ((rd_T48 l1 x5_1).f2.f0)) ∧ w'.cell? ⟨(ad211.add ((x5_1).toNat * 11)).block, (ad211.add ((x5_1).toNat * 11)).off + 3, none⟩ = some (.int .i64 ((rd_T48 l1 x5_1).f2.f1)) ∧ w'.cell? ⟨(ad211.add ((x5_1).toNat * 11)).block, (ad211.add ((x5_1).toNat * 11)).off + 4, none⟩ = some (.int .i64 ((rd_T48 l1 x5_1).f3.f0)) ∧ w'.cell? ⟨(ad211.add ((x5_1).toNat * 11)).block, (ad211.add ((x5_1).toNat * 11)).off + 5, none⟩ = some (.string ((rd_T48 l1 x5_1).f3.f1)) ∧ w'.cell? ⟨(ad211.add ((x5_1).toNat * 11)).block, (ad211.add ((x5_1).toNat * 11)).off + 6, none⟩ = some (.int .i64 ((rd_T48 l1 x5_1).f3.f2)) ∧ w'.cell? ⟨(ad211.add ((x5_1).toNat * 11)).block, (ad211.add ((x5_1).toNat * 11)).off + 7, none⟩ = some (.int .i64 ((rd_T48 l1 x5_1).f3.f3)) ∧ w'.cell? ⟨(ad211.add ((x5_1).toNat * 11)).block, (ad211.add ((x5_1).toNat * 11)).off + 8, none⟩ = some (.int .i64 ((rd_T48 l1 x5_1).f4)) ∧ w'.cell? ⟨(ad211.add ((x5_1).toNat * 11)).block, (ad211.add ((x5_1).toNat * 11)).off + 9, none⟩ = some (.int .i64 ((rd_T48 l1 x5_1).f5)) ∧ w'.cell? ⟨(ad211.add ((x5_1).toNat * 11)).block, (ad211.add ((x5_1).toNat * 11)).off + 10, none⟩ = some (.slice A211_10 ((rd_T48 l1 x5_1).f6).length c211_10)) (ds := []) #[false, false, false, false, false, false, false, false, false, false] (by kernel_rfl) rfl rfl ⟨((HB.out.cell (World.block_lt_of_cell? w _ hw210_0)).trans hw210_0), ((HB.out.cell (World.block_lt_of_cell? w _ hw210_1)).trans hw210_1), ((HB.out.cell (World.block_lt_of_cell? w _ hw210_2)).trans hw210_2), ((HB.out.cell (World.block_lt_of_cell? w _ hw210_3)).trans hw210_3), ((HB.out.cell (World.block_lt_of_cell? w _ hw210_4)).trans hw210_4), ((HB.out.cell (World.block_lt_of_cell? w _ hw210_5)).trans hw210_5), ((HB.out.cell (World.block_lt_of_cell? w _ hw210_6)).trans hw210_6), ((HB.out.cell (World.block_lt_of_cell? w _ hw210_7)).trans hw210_7), ((HB.out.cell (World.block_lt_of_cell? w _ hw210_8)).trans hw210_8), ((HB.out.cell (World.block_lt_of_cell? w _ hw210_9)).trans hw210_9), ((HB.out.cell (World.block_lt_of_cell? w _ hw210_10)).trans hw210_10), ((HB.out.cell (World.block_lt_of_cell? w _ hw211_0)).trans hw211_0), ((HB.out.cell (World.block_lt_of_cell? w _ hw211_1)).trans hw211_1), ((HB.out.cell (World.block_lt_of_cell? w _ hw211_2)).trans hw211_2), ((HB.out.cell (World.block_lt_of_cell? w _ hw211_3)).trans hw211_3), ((HB.out.cell (World.block_lt_of_cell? w _ hw211_4)).trans hw211_4), ((HB.out.cell (World.block_lt_of_cell? w _ hw211_5)).trans hw211_5), ((HB.out.cell (World.block_lt_of_cell? w _ hw211_6)).trans hw211_6), ((HB.out.cell (World.block_lt_of_cell? w _ hw211_7)).trans hw211_7), ((HB.out.cell (World.block_lt_of_cell? w _ hw211_8)).trans hw211_8), ((HB.out.cell (World.block_lt_of_cell? w _ hw211_9)).trans hw211_9), ((HB.out.cell (World.block_lt_of_cell? w _ hw211_10)).trans hw211_10)⟩ (fun hHeld => ?_); refine with_tabW sluicelaw18_alike.tab6 sluicelaw18_alike.bits6 (fun HT_ HW_ => ?_)
                generalize wr.drew = w11 at HB HR210_10 HR211_10 hx210_0 hx210_1 hx210_10 hx210_2 hx210_3 hx210_4 hx210_5 hx210_6 hx210_7 hx210_8 hx210_9 hx211_0 hx211_1 hx211_10 hx211_2 hx211_3 hx211_4 hx211_5 hx211_6 hx211_7 hx211_8 hx211_9 hHeld ⊢
                refine pure_ (i := 0) (N := some 18) (v := ?_) (a' := ?_) #[true, false, false, false, false, false, false, false, false, false] rfl rfl (any_of HT_.out (by kernel_rfl)) (fun _ _ _ h => h) (Or.inl ⟨by rfl, ?_⟩) ?_ ?_
                rotate_left
                · intro w'
                  go_simp
                  with_reducible rfl
                rotate_left
                · simp only [Act.put, List.setIfInBounds_toArray, List.set_cons_zero, List.set_cons_succ, i64_w, i32_w]
                  rfl
                refine pure_ (i := 1) (N := some 19) (v := ?_) (a' := ?_) #[true, true, false, false, false, false, false, false, false, false] rfl rfl (any_of HT_.out (by kernel_rfl)) (fun _ _ _ h => h) (Or.inl ⟨by rfl, ?_⟩) ?_ ?_
                rotate_left
                · intro w'
                  go_simp
                  with_reducible rfl
                rotate_left
                · simp only [Act.put, List.setIfInBounds_toArray, List.set_cons_zero, List.set_cons_succ, i64_w, i32_w]
                  rfl
                refine pure_ (i := 2) (N := some 20) (v := ?_) (a' := ?_) #[true, true, true, false, false, false, false, false, false, false] rfl rfl (any_of HT_.out (by kernel_rfl)) (fun _ _ _ h => h) (Or.inl ⟨by rfl, ?_⟩) ?_ ?_
                rotate_left
                · intro w'
                  go_simp
                  with_reducible rfl
                rotate_left
                · simp only [Act.put, List.setIfInBounds_toArray, List.set_cons_zero, List.set_cons_succ, i64_w, i32_w]
                  rfl
                refine pure_ (i := 4) (N := some 22) (v := ?_) (a' := ?_) #[true, true, true, false, true, false, false, false, false, false] rfl rfl (any_of HT_.out (by kernel_rfl)) (fun _ _ _ h => h) (Or.inl ⟨by rfl, ?_⟩) ?_ ?_
                rotate_left
                · intro w'
                  go_simp
                  with_reducible rfl
                rotate_left
                · simp only [Act.put, List.setIfInBounds_toArray, List.set_cons_zero, List.set_cons_succ, i64_w, i32_w]
                  rfl
                refine pure_ (i := 5) (N := some 23) (v := ?_) (a' := ?_) #[true, true, true, false, true, true, false, false, false, false] rfl rfl (any_of HT_.out (by kernel_rfl)) (fun _ _ _ h => h) (Or.inl ⟨by rfl, ?_⟩) ?_ ?_
                rotate_left
                · intro w'
                  go_simp
                  with_reducible rfl
                rotate_left
                · simp only [Act.put, List.setIfInBounds_toArray, List.set_cons_zero, List.set_cons_succ, i64_w, i32_w]
                  rfl
                refine pure_ (i := 6) (N := some 24) (v := ?_) (a' := ?_) #[true, true, true, false, true, true, true, false, false, false] rfl rfl (any_of HT_.out (by kernel_rfl)) (fun _ _ _ h => h) (Or.inl ⟨by rfl, ?_⟩) ?_ ?_
                rotate_left
                · intro w'
                  go_simp
                  with_reducible rfl
                rotate_left
                · simp only [Act.put, List.setIfInBounds_toArray, List.set_cons_zero, List.set_cons_succ, i64_w, i32_w]
                  rfl
                refine take_ (i := 3) (N := some 21) (v := ?_) (a' := ?_) #[true, true, true, true, true, true, true, false, false, false] rfl rfl (take_ofW HT_.out HW_.out (by kernel_rfl)) (fun _ _ _ h => h) (Or.inl ⟨by rfl, ?_⟩) hHeld ?_ ?_
                rotate_left
                · rintro w' ⟨s0, s1, s2, s3, s4, s5, s6, s7, s8, s9, s10, s11, s12, s13, s14, s15, s16, s17, s18, s19, s20, s21⟩
                  go_simp
                  with_reducible rfl
                rotate_left
                · simp only [Act.put, List.setIfInBounds_toArray, List.set_cons_zero, List.set_cons_succ, i64_w, i32_w]
                  rfl
                refine take_ (i := 7) (N := some 25) (v := ?_) (a' := ?_) #[true, true, true, true, true, true, true, true, false, false] rfl rfl (take_ofW HT_.out HW_.out (by kernel_rfl)) (fun _ _ _ h => h) (Or.inl ⟨by rfl, ?_⟩) hHeld ?_ ?_
                rotate_left
                · rintro w' ⟨s0, s1, s2, s3, s4, s5, s6, s7, s8, s9, s10, s11, s12, s13, s14, s15, s16, s17, s18, s19, s20, s21⟩
                  go_simp
                  with_reducible rfl
                rotate_left
                · simp only [Act.put, List.setIfInBounds_toArray, List.set_cons_zero, List.set_cons_succ, i64_w, i32_w]
                  rfl
                refine one_ (i := 8) (N := some 26) #[true, true, true, true, true, true, true, true, true, false] rfl rfl (one_of HT_.out (by kernel_rfl)) (by decide) (fun K hK => ?_)
                refine goes_ Tryd.func40 (by kernel_rfl) rfl #[.agg #[.int .i64 ((rd_T48 l0 x5_1).f0), .int .i64 ((rd_T48 l0 x5_1).f1), .int .i64 ((rd_T48 l0 x5_1).f2.f0), .int .i64 ((rd_T48 l0 x5_1).f2.f1), .int .i64 ((rd_T48 l0 x5_1).f3.f0), .string ((rd_T48 l0 x5_1).f3.f1), .int .i64 ((rd_T48 l0 x5_1).f3.f2), .int .i64 ((rd_T48 l0 x5_1).f3.f3), .int .i64 ((rd_T48 l0 x5_1).f4), .int .i64 ((rd_T48 l0 x5_1).f5), .slice A210_10 ((rd_T48 l0 x5_1).f6).length c210_10], .agg #[.int .i64 ((rd_T48 l1 x5_1).f0), .int .i64 ((rd_T48 l1 x5_1).f1), .int .i64 ((rd_T48 l1 x5_1).f2.f0), .int .i64 ((rd_T48 l1 x5_1).f2.f1), .int .i64 ((rd_T48 l1 x5_1).f3.f0), .string ((rd_T48 l1 x5_1).f3.f1), .int .i64 ((rd_T48 l1 x5_1).f3.f2), .int .i64 ((rd_T48 l1 x5_1).f3.f3), .int .i64 ((rd_T48 l1 x5_1).f4), .int .i64 ((rd_T48 l1 x5_1).f5), .slice A211_10 ((rd_T48 l1 x5_1).f6).length c211_10]] (by rfl) rfl rfl (by (try simp only [List.map_toArray, List.map_cons, List.map_nil]); first | done | rfl | (simp only [List.length_drop, List.length_take]; rfl)) ?_
                with_reducible refine (sluicelaw18_same.calls ((rd_T48 l0 x5_1).f0) ((rd_T48 l0 x5_1).f1) ((rd_T48 l0 x5_1).f2.f0) ((rd_T48 l0 x5_1).f2.f1) ((rd_T48 l0 x5_1).f3.f0) ((rd_T48 l0 x5_1).f3.f1) ((rd_T48 l0 x5_1).f3.f2) ((rd_T48 l0 x5_1).f3.f3) ((rd_T48 l0 x5_1).f4) ((rd_T48 l0 x5_1).f5) _ _ ((rd_T48 l0 x5_1).f6) ((rd_T48 l1 x5_1).f0) ((rd_T48 l1 x5_1).f1) ((rd_T48 l1 x5_1).f2.f0) ((rd_T48 l1 x5_1).f2.f1) ((rd_T48 l1 x5_1).f3.f0) ((rd_T48 l1 x5_1).f3.f1) ((rd_T48 l1 x5_1).f3.f2) ((rd_T48 l1 x5_1).f3.f3) ((rd_T48 l1 x5_1).f4) ((rd_T48 l1 x5_1).f5) _ _ ((rd_T48 l1 x5_1).f6) false _ ?side1 ?side2 ?side3 ?side4 A7.out).mono ?_
                (case side1 => repeat (first | exact (Kd.C_below HR210_10.out HB.out) | (with_reducible refine Kd.C_alloc ?_ _) | (with_reducible refine Kd.C_drewN ?_ _) | (with_reducible refine Kd.C_drew ?_)))
                (case side2 => exact HC210_10.out)
                (case side3 => repeat (first | exact (Kd.C_below HR211_10.out HB.out) | (with_reducible refine Kd.C_alloc ?_ _) | (with_reducible refine Kd.C_drewN ?_ _) | (with_reducible refine Kd.C_drew ?_)))
                (case side4 => exact HC211_10.out)
                rintro e w12 ⟨rfl, hb⟩
                refine ⟨_, rfl, ?_⟩
                have n0_ := Aside0.mk (below_step (by repeat (first | (with_reducible first | exact HB.out | apply below_alloc | apply pw_below_drewN | apply below_drew1) | exact HB.out)) hb)
                clear HB
                have HB := n0_
                clear n0_
                (try clear hb)
                (try clear hb2)
                (try clear hk)
                (try clear hi)
                refine hK.out _ _ ⟨((HB.out.cell (World.block_lt_of_cell? w _ hw210_0)).trans hw210_0), ((HB.out.cell (World.block_lt_of_cell? w _ hw210_1)).trans hw210_1), ((HB.out.cell (World.block_lt_of_cell? w _ hw210_2)).trans hw210_2), ((HB.out.cell (World.block_lt_of_cell? w _ hw210_3)).trans hw210_3), ((HB.out.cell (World.block_lt_of_cell? w _ hw210_4)).trans hw210_4), ((HB.out.cell (World.block_lt_of_cell? w _ hw210_5)).trans hw210_5), ((HB.out.cell (World.block_lt_of_cell? w _ hw210_6)).trans hw210_6), ((HB.out.cell (World.block_lt_of_cell? w _ hw210_7)).trans hw210_7), ((HB.out.cell (World.block_lt_of_cell? w _ hw210_8)).trans hw210_8), ((HB.out.cell (World.block_lt_of_cell? w _ hw210_9)).trans hw210_9), ((HB.out.cell (World.block_lt_of_cell? w _ hw210_10)).trans hw210_10), ((HB.out.cell (World.block_lt_of_cell? w _ hw211_0)).trans hw211_0), ((HB.out.cell (World.block_lt_of_cell? w _ hw211_1)).trans hw211_1), ((HB.out.cell (World.block_lt_of_cell? w _ hw211_2)).trans hw211_2), ((HB.out.cell (World.block_lt_of_cell? w _ hw211_3)).trans hw211_3), ((HB.out.cell (World.block_lt_of_cell? w _ hw211_4)).trans hw211_4), ((HB.out.cell (World.block_lt_of_cell? w _ hw211_5)).trans hw211_5), ((HB.out.cell (World.block_lt_of_cell? w _ hw211_6)).trans hw211_6), ((HB.out.cell (World.block_lt_of_cell? w _ hw211_7)).trans hw211_7), ((HB.out.cell (World.block_lt_of_cell? w _ hw211_8)).trans hw211_8), ((HB.out.cell (World.block_lt_of_cell? w _ hw211_9)).trans hw211_9), ((HB.out.cell (World.block_lt_of_cell? w _ hw211_10)).trans hw211_10)⟩ (fun hHeld => ?_)
                clear hK K
                refine norm_ (a' := ?_) ?_ ?_
                rotate_left
                · show Act.put _ (some 26) _ = _
                  simp only [Act.put, List.setIfInBounds_toArray, List.set_cons_zero, List.set_cons_succ, i64_w, i32_w]
                  rfl
                refine pure_ (i := 9) (N := some 6) (v := ?_) (a' := ?_) #[true, true, true, true, true, true, true, true, true, true] rfl rfl (any_of HT_.out (by kernel_rfl)) (fun _ _ _ h => h) (Or.inl ⟨by rfl, ?_⟩) ?_ ?_
                rotate_left
                · intro w'
                  go_simp
                  with_reducible rfl
                rotate_left
                · simp only [Act.put, List.setIfInBounds_toArray, List.set_cons_zero, List.set_cons_succ, i64_w, i32_w]
                  rfl
                refine done_ (done_of HT_.out (by kernel_rfl)) ?_
                try go_wp2
                go_ret
                exact ⟨by first | rfl | (simp [errW_none, errW_some] <;> rfl) | (simp [*, errW_none, errW_some] <;> rfl), by repeat (first | (with_reducible first | exact HB.out | apply below_alloc | apply pw_below_drewN | apply below_drew1) | exact HB.out)⟩
            · rw [if_neg c6] at H
              exact absurd H (by simp)
          · rw [if_neg c5] at H
            exact absurd H (by simp)
        · rw [if_neg c4] at H
          have c4b0 : decide (x5_1 < (l0.length : Int)) = false := decide_eq_false c4
          clear c4
          obtain rfl := Option.some.inj H
          go_wp2
          go_ret
          exact ⟨by first | rfl | (simp [errW_none, errW_some] <;> rfl) | (simp [*, errW_none, errW_some] <;> rfl), by repeat (first | (with_reducible first | exact HB.out | apply below_alloc | apply pw_below_drewN | apply below_drew1) | exact HB.out)⟩
  · rw [if_neg c3] at H
    have c3b0 : ((l0.length : Int) == (l1.length : Int)) = false := beq_eq_false_iff_ne.mpr c3
    have c3b1 : ((l0.length : Int) != (l1.length : Int)) = true := bne_iff_ne.mpr c3
    have c3b2 : (l0.length == l1.length) = false := by first | simpa using c3 | (simp at c3 ⊢; omega)
    obtain rfl := Option.some.inj H
    go_enter Tryd.func17, Tryd.ntmps17
    go_wp2
    go_ret
    exact ⟨by first | rfl | (simp [errW_none, errW_some] <;> rfl) | (simp [*, errW_none, errW_some] <;> rfl), by repeat (first | (with_reducible first | exact HB.out | apply below_alloc | apply pw_below_drewN | apply below_drew1) | exact HB.out)⟩

/-- A state of type 122 at block g of W; what its slices lead to came in by w0. -/
def IsS122 (w0 W : World) (g : Nat) (f0 : ByteArray) (f1 : Int) (f2 : Bool) : Prop := W.heap[g]? = some (.cells #[.string f0, .int .i64 f1, .bool f2] 122 (0, 0)) ∧ w0.heap.size ≤ g
theorem IsS122.grown {w0 W : World} {g : Nat} {f0 : ByteArray} {f1 : Int} {f2 : Bool} {W1 : World} {row : Option Nat} (h : IsS122 w0 W g f0 f1 f2) (hw : W.grownBy W1 row) (hne : some g ≠ row) : IsS122 w0 W1 g f0 f1 f2 := by
  obtain ⟨hb, hg⟩ := h
  exact ⟨blk_grown hb hw hne, hg⟩
theorem IsS122.below {w0 W : World} {g : Nat} {f0 : ByteArray} {f1 : Int} {f2 : Bool} {W1 : World} (h : IsS122 w0 W g f0 f1 f2) (hw : Below W.heap.size W W1) : IsS122 w0 W1 g f0 f1 f2 := h.grown (grown_of_below hw none) (by simp)
theorem IsS122.alloc {w0 W : World} {g : Nat} {f0 : ByteArray} {f1 : Int} {f2 : Bool} (h : IsS122 w0 W g f0 f1 f2) (o : Obj) : IsS122 w0 (W.alloc o) g f0 f1 f2 := h.below (below_alloc (Below.refl _ _) o)
theorem IsS122.drewN {w0 W : World} {g : Nat} {f0 : ByteArray} {f1 : Int} {f2 : Bool} (h : IsS122 w0 W g f0 f1 f2) (m : Nat) : IsS122 w0 (W.drewN m) g f0 f1 f2 := h
theorem IsS122.drew {w0 W : World} {g : Nat} {f0 : ByteArray} {f1 : Int} {f2 : Bool} (h : IsS122 w0 W g f0 f1 f2) : IsS122 w0 W.drew g f0 f1 f2 := h
theorem IsS122.at_ {w0 W : World} {g : Nat} {f0 : ByteArray} {f1 : Int} {f2 : Bool} {w' : World} {m : Nat} (hq : W.drewN m = w') (h : IsS122 w0 W g f0 f1 f2) : IsS122 w0 w' g f0 f1 f2 := by subst hq; exact IsS122.drewN h m
theorem IsS122.apart {w0 W : World} {g : Nat} {f0 : ByteArray} {f1 : Int} {f2 : Bool} {α : Type} {d : Kd α} {e : Nat} {base : Nat} {ok : Nat → Prop} {v : Value} {xs : List α} (h : IsS122 w0 W g f0 f1 f2) (ho : d.R e W base ok v xs) (ht : ∀ q, q ∈ e :: d.E → q ≠ 122) : d.R e W base (fun k => ok k ∧ k ≠ g) v xs := by
  obtain ⟨hb, hg⟩ := h
  exact Kd.R_types ho hb ht
theorem IsS122.own_ne {w0 W : World} {g : Nat} {f0 : ByteArray} {f1 : Int} {f2 : Bool} {α : Type} {d : Kd α} {e : Nat} {base : Nat} {ok : Nat → Prop} {v : Value} {xs : List α} (h : IsS122 w0 W g f0 f1 f2) (ho : d.R e W base ok v xs) (ht : e ≠ 122) : some g ≠ v.ownBlock := by
  obtain ⟨hb, hg⟩ := h
  exact Kd.R_ne ho hb ht
theorem IsS122.lt {w0 W : World} {g : Nat} {f0 : ByteArray} {f1 : Int} {f2 : Bool} (h : IsS122 w0 W g f0 f1 f2) : g < W.heap.size := by
  obtain ⟨hb, hg⟩ := h
  exact blk_lt hb
theorem IsS122.ge {w0 W : World} {g : Nat} {f0 : ByteArray} {f1 : Int} {f2 : Bool} (h : IsS122 w0 W g f0 f1 f2) : w0.heap.size ≤ g := by
  obtain ⟨hb, hg⟩ := h
  exact hg
theorem IsS122.far {w0 W : World} {g : Nat} {f0 : ByteArray} {f1 : Int} {f2 : Bool} {p : Addr} (h : IsS122 w0 W g f0 f1 f2) (hne : g ≠ p.block) (u : Value) : IsS122 w0 (W.setCell p u) g f0 f1 f2 := by
  obtain ⟨hb, hg⟩ := h
  exact ⟨blk_far hb hne u, hg⟩
theorem cellS122_0 {W : World} {g : Nat} {f0 : ByteArray} {f1 : Int} {f2 : Bool} (h : W.heap[g]? = some (.cells #[.string f0, .int .i64 f1, .bool f2] 122 (0, 0))) : W.cell? ⟨g, 0, none⟩ = some (.string f0) := (blk_cell h 0).trans rfl
theorem IsS122.set_0 {w0 W : World} {g : Nat} {f0 : ByteArray} {f1 : Int} {f2 : Bool} (h : IsS122 w0 W g f0 f1 f2) (x : ByteArray) : IsS122 w0 (W.setCell ⟨g, 0, none⟩ (.string x)) g x f1 f2 := by
  obtain ⟨hb, hg⟩ := h
  exact ⟨by simpa using blk_set hb 0 (.string x), hg⟩
theorem cellS122_1 {W : World} {g : Nat} {f0 : ByteArray} {f1 : Int} {f2 : Bool} (h : W.heap[g]? = some (.cells #[.string f0, .int .i64 f1, .bool f2] 122 (0, 0))) : W.cell? ⟨g, 1, none⟩ = some (.int .i64 f1) := (blk_cell h 1).trans rfl
theorem IsS122.set_1 {w0 W : World} {g : Nat} {f0 : ByteArray} {f1 : Int} {f2 : Bool} (h : IsS122 w0 W g f0 f1 f2) (x : Int) : IsS122 w0 (W.setCell ⟨g, 1, none⟩ (.int .i64 x)) g f0 x f2 := by
  obtain ⟨hb, hg⟩ := h
  exact ⟨by simpa using blk_set hb 1 (.int .i64 x), hg⟩
theorem cellS122_2 {W : World} {g : Nat} {f0 : ByteArray} {f1 : Int} {f2 : Bool} (h : W.heap[g]? = some (.cells #[.string f0, .int .i64 f1, .bool f2] 122 (0, 0))) : W.cell? ⟨g, 2, none⟩ = some (.bool f2) := (blk_cell h 2).trans rfl
theorem IsS122.set_2 {w0 W : World} {g : Nat} {f0 : ByteArray} {f1 : Int} {f2 : Bool} (h : IsS122 w0 W g f0 f1 f2) (x : Bool) : IsS122 w0 (W.setCell ⟨g, 2, none⟩ (.bool x)) g f0 f1 x := by
  obtain ⟨hb, hg⟩ := h
  exact ⟨by simpa using blk_set hb 2 (.bool x), hg⟩
def sluiceref18_reader_next.f (s0_0 : ByteArray) (s0_1 : Int) (s0_2 : Bool) : Option (Int × ByteArray × Int × Bool) := if s0_1 ≥ (s0_0.size : Int) then (some ((-1), s0_0, s0_1, s0_2)) else (if 0 ≤ s0_1 then (if s0_1 < (s0_0.size : Int) then (some (wrap64 (bt s0_0 s0_1), s0_0, s0_1, s0_2)) else (none)) else (none))
set_option maxHeartbeats 8000000 in
set_option maxRecDepth 100000 in
theorem sluiceref18_reader_next.calls (g : Nat) (s0_0 : ByteArray) (s0_1 : Int) (s0_2 : Bool) (r1 : Int) (r2 : ByteArray) (r3 : Int) (r4 : Bool) (w0 w : World) (hI : IsS122 w0 w g s0_0 s0_1 s0_2) (hB : Below w0.heap.size w0 w) (h : sluiceref18_reader_next.f s0_0 s0_1 s0_2 = some (r1, r2, r3, r4)) :
    Calls Tryd.prog 44 #[.pointer (some ⟨g, 0, none⟩)] w fun e w' => e = .returned (.int .i64 r1) ∧ IsS122 w0 w' g r2 r3 r4 ∧ Below w0.heap.size w0 w' ∧ KeepBut w w' g none := by
  have HI0 := Aside0.mk hI
  have HK := Aside0.mk (KeepBut.refl w g none)
  have HL := Aside0.mk hB.size
  clear hI
  have HW0 := Aside0.mk hB.size
  have HB := Aside0.mk hB
  clear hB
  have H : (if s0_1 ≥ (s0_0.size : Int) then (some ((-1), s0_0, s0_1, s0_2)) else (if 0 ≤ s0_1 then (if s0_1 < (s0_0.size : Int) then (some (wrap64 (bt s0_0 s0_1), s0_0, s0_1, s0_2)) else (none)) else (none))) = some (r1, r2, r3, r4) := h
  clear h
  by_cases c2 : s0_1 ≥ (s0_0.size : Int)
  · rw [if_pos c2] at H
    have c2b0 : decide ((s0_0.size : Int) ≤ s0_1) = true := decide_eq_true c2
    clear c2
    simp only [Option.some.injEq, Prod.mk.injEq] at H
    obtain ⟨rfl, rfl, rfl, rfl⟩ := H
    obtain ⟨HGz3, hgz3⟩ := HI0.out
    have hcz3_0 := cellS122_0 HGz3
    have hcz3_1 := cellS122_1 HGz3
    have hcz3_2 := cellS122_2 HGz3
    have hfz3_0 := blk_frozen HGz3 0
    have hfz3_1 := blk_frozen HGz3 1
    have hfz3_2 := blk_frozen HGz3 2
    clear HGz3 hgz3
    go_enter Tryd.func44, Tryd.ntmps44
    go_wp2
    repeat (go_quiet (fail); try go_wp2)
    go_ret
    exact ⟨by first | rfl | (simp [errW_none, errW_some] <;> rfl) | (simp [*, errW_none, errW_some] <;> rfl), by repeat (first | (with_reducible first | exact HI0.out | apply IsS122.alloc | apply IsS122.drewN | apply IsS122.drew | apply IsS122.set_0 | apply IsS122.set_1 | apply IsS122.set_2) | exact HI0.out), by repeat (first | (with_reducible first | exact HB.out | apply below_alloc | apply pw_below_drewN | apply below_drew1 | refine below_set ?_ (IsS122.ge HI0.out)) | exact HB.out), by repeat (first | (with_reducible first | exact HK.out | apply KeepBut.set_ | apply keep_drewN | apply keep_drew | apply keep_alloc) | exact HK.out)⟩
  · rw [if_neg c2] at H
    have c2b0 : decide ((s0_0.size : Int) ≤ s0_1) = false := decide_eq_false c2
    clear c2
    by_cases c4 : 0 ≤ s0_1
    · rw [if_pos c4] at H
      have c4b0 : decide (0 ≤ s0_1) = true := decide_eq_true c4
      clear c4
      by_cases c5 : s0_1 < (s0_0.size : Int)
      · rw [if_pos c5] at H
        have c5b0 : decide (s0_1 < (s0_0.size : Int)) = true := decide_eq_true c5
        clear c5
        simp only [Option.some.injEq, Prod.mk.injEq] at H
        obtain ⟨rfl, rfl, rfl, rfl⟩ := H
        obtain ⟨HGz7, hgz7⟩ := HI0.out
        have hcz7_0 := cellS122_0 HGz7
        have hcz7_1 := cellS122_1 HGz7
        have hcz7_2 := cellS122_2 HGz7
        have hfz7_0 := blk_frozen HGz7 0
        have hfz7_1 := blk_frozen HGz7 1
        have hfz7_2 := blk_frozen HGz7 2
        clear HGz7 hgz7
        have p6 : 0 ≤ (s0_1 : Int) := of_decide_eq_true (by first | (with_reducible assumption) | assumption)
        have q6 : s0_1 < (s0_0.size : Int) := of_decide_eq_true (by first | (with_reducible assumption) | assumption)
        have hx6 := bt_at s0_0 s0_1
        replace p6 := eq_true p6
        replace q6 := eq_true q6
        go_enter Tryd.func44, Tryd.ntmps44
        go_wp2
        repeat (go_quiet (fail); try go_wp2)
        go_ret
        exact ⟨by first | rfl | (simp [errW_none, errW_some] <;> rfl) | (simp [*, errW_none, errW_some] <;> rfl), by repeat (first | (with_reducible first | exact HI0.out | apply IsS122.alloc | apply IsS122.drewN | apply IsS122.drew | apply IsS122.set_0 | apply IsS122.set_1 | apply IsS122.set_2) | exact HI0.out), by repeat (first | (with_reducible first | exact HB.out | apply below_alloc | apply pw_below_drewN | apply below_drew1 | refine below_set ?_ (IsS122.ge HI0.out)) | exact HB.out), by repeat (first | (with_reducible first | exact HK.out | apply KeepBut.set_ | apply keep_drewN | apply keep_drew | apply keep_alloc) | exact HK.out)⟩
      · rw [if_neg c5] at H
        exact absurd H (by simp)
    · rw [if_neg c4] at H
      exact absurd H (by simp)

def sluiceref18_reader_want.f (s0_0 : ByteArray) (s0_1 : Int) (s0_2 : Bool) (a1 : Int) : Option (ByteArray × Int × Bool) := if s0_2 = true then (some (s0_0, s0_1, s0_2)) else ((sluiceref18_reader_next.f s0_0 s0_1 s0_2).bind fun bt213 => (if bt213.1 = a1 then (some (bt213.2.1, wrap64 (bt213.2.2.1 + 1), bt213.2.2.2)) else (some (bt213.2.1, bt213.2.2.1, true))))
set_option maxHeartbeats 8000000 in
set_option maxRecDepth 100000 in
theorem sluiceref18_reader_want.calls (g : Nat) (s0_0 : ByteArray) (s0_1 : Int) (s0_2 : Bool) (a1 : Int) (r1 : ByteArray) (r2 : Int) (r3 : Bool) (w0 w : World) (hI : IsS122 w0 w g s0_0 s0_1 s0_2) (hB : Below w0.heap.size w0 w) (h : sluiceref18_reader_want.f s0_0 s0_1 s0_2 a1 = some (r1, r2, r3)) :
    Calls Tryd.prog 45 #[.pointer (some ⟨g, 0, none⟩), .int .i64 a1] w fun e w' => e = .returned (.tuple #[]) ∧ IsS122 w0 w' g r1 r2 r3 ∧ Below w0.heap.size w0 w' ∧ KeepBut w w' g none := by
  have HI0 := Aside0.mk hI
  have HK := Aside0.mk (KeepBut.refl w g none)
  have HL := Aside0.mk hB.size
  clear hI
  have HW0 := Aside0.mk hB.size
  have HB := Aside0.mk hB
  clear hB
  have H : (if s0_2 = true then (some (s0_0, s0_1, s0_2)) else ((sluiceref18_reader_next.f s0_0 s0_1 s0_2).bind fun bt213 => (if bt213.1 = a1 then (some (bt213.2.1, wrap64 (bt213.2.2.1 + 1), bt213.2.2.2)) else (some (bt213.2.1, bt213.2.2.1, true))))) = some (r1, r2, r3) := h
  clear h
  by_cases c3 : s0_2 = true
  · subst c3
    have H1 : (some (s0_0, s0_1, true)) = some (r1, r2, r3) := by rw [if_pos rfl] at H; exact H
    clear H
    have H := H1
    clear H1
    simp only [Option.some.injEq, Prod.mk.injEq] at H
    obtain ⟨rfl, rfl, rfl⟩ := H
    obtain ⟨HGz4, hgz4⟩ := HI0.out
    have hcz4_0 := cellS122_0 HGz4
    have hcz4_1 := cellS122_1 HGz4
    have hcz4_2 := cellS122_2 HGz4
    have hfz4_0 := blk_frozen HGz4 0
    have hfz4_1 := blk_frozen HGz4 1
    have hfz4_2 := blk_frozen HGz4 2
    clear HGz4 hgz4
    go_enter Tryd.func45, Tryd.ntmps45
    go_wp2
    first | go_end0 | ((try simp only [Exit.inBlock, Exit.then]); refine bodyPost_ret (results_none rfl _ _ _) rfl ?_)
    exact ⟨by first | rfl | (simp [errW_none, errW_some] <;> rfl) | (simp [*, errW_none, errW_some] <;> rfl), by repeat (first | (with_reducible first | exact HI0.out | apply IsS122.alloc | apply IsS122.drewN | apply IsS122.drew | apply IsS122.set_0 | apply IsS122.set_1 | apply IsS122.set_2) | exact HI0.out), by repeat (first | (with_reducible first | exact HB.out | apply below_alloc | apply pw_below_drewN | apply below_drew1 | refine below_set ?_ (IsS122.ge HI0.out)) | exact HB.out), by repeat (first | (with_reducible first | exact HK.out | apply KeepBut.set_ | apply keep_drewN | apply keep_drew | apply keep_alloc) | exact HK.out)⟩
  · replace c3 := Bool.eq_false_iff.mpr c3
    subst c3
    have H1 : ((sluiceref18_reader_next.f s0_0 s0_1 false).bind fun bt213 => (if bt213.1 = a1 then (some (bt213.2.1, wrap64 (bt213.2.2.1 + 1), bt213.2.2.2)) else (some (bt213.2.1, bt213.2.2.1, true)))) = some (r1, r2, r3) := by rw [if_neg (show ¬ (false = true) by decide)] at H; exact H
    clear H
    have H := H1
    clear H1
    replace H := Option.bind_eq_some_iff.mp H
    obtain ⟨⟨t213, t214, t215, t216⟩, A50, H⟩ := H
    replace H : (if t213 = a1 then (some (t214, wrap64 (t215 + 1), t216)) else (some (t214, t215, true))) = some (r1, r2, r3) := H
    have A5 := Aside0.mk A50
    clear A50
    by_cases c6 : t213 = a1
    · rw [if_pos c6] at H
      have c6b0 : (t213 == a1) = true := beq_iff_eq.mpr c6
      have c6b1 : (t213 != a1) = false := bne_eq_false_iff_eq.mpr c6
      clear c6
      simp only [Option.some.injEq, Prod.mk.injEq] at H
      obtain ⟨rfl, rfl, rfl⟩ := H
      obtain ⟨HGz7, hgz7⟩ := HI0.out
      have hcz7_0 := cellS122_0 HGz7
      have hcz7_1 := cellS122_1 HGz7
      have hcz7_2 := cellS122_2 HGz7
      have hfz7_0 := blk_frozen HGz7 0
      have hfz7_1 := blk_frozen HGz7 1
      have hfz7_2 := blk_frozen HGz7 2
      clear HGz7 hgz7
      go_enter Tryd.func45, Tryd.ntmps45
      go_wp2_with (first | ((with_reducible refine gate_callee (f := 44) rfl ?_); refine goesL_ (some 9) rfl rfl Tryd.func44 (by kernel_rfl) rfl #[.pointer (some ⟨g, 0, none⟩)] rfl (by (try simp only [List.map_toArray, List.map_cons, List.map_nil]); first | done | rfl | (simp only [List.length_drop, List.length_take]; rfl)) ?_; (with_reducible refine (sluiceref18_reader_next.calls g s0_0 s0_1 false t213 t214 t215 t216 w0 _ ?side1 ?side2 A5.out).mono ?_); (case side1 => repeat (first | (with_reducible first | exact HI0.out | apply IsS122.alloc | apply IsS122.drewN | apply IsS122.drew | apply IsS122.set_0 | apply IsS122.set_1 | apply IsS122.set_2) | exact HI0.out)); (case side2 => repeat (first | (with_reducible first | exact HB.out | apply below_alloc | apply pw_below_drewN | apply below_drew1 | refine below_set ?_ (IsS122.ge HI0.out)) | exact HB.out)); rintro e w8 ⟨rfl, hi, hb, hk⟩; refine ⟨_, rfl, ?_⟩; have n0_ := Aside0.mk (KeepBut.trans (by repeat (first | (with_reducible first | exact HK.out | apply KeepBut.set_ | apply keep_drewN | apply keep_drew | apply keep_alloc) | exact HK.out)) hk (.inl rfl)); have n1_ := Aside0.mk (hb); have n2_ := Aside0.mk (hi); clear HK; clear HB; clear HI0; have HK := n0_; have HB := n1_; have HI0 := n2_; clear n0_ n1_ n2_; (try clear hb); (try clear hb2); (try clear hk); (try clear hi); obtain ⟨HGz9, hgz9⟩ := HI0.out; have hcz9_0 := cellS122_0 HGz9; have hcz9_1 := cellS122_1 HGz9; have hcz9_2 := cellS122_2 HGz9; have hfz9_0 := blk_frozen HGz9 0; have hfz9_1 := blk_frozen HGz9 1; have hfz9_2 := blk_frozen HGz9 2; clear HGz9 hgz9))
      first | go_end0 | ((try simp only [Exit.inBlock, Exit.then]); refine bodyPost_ret (results_none rfl _ _ _) rfl ?_)
      exact ⟨by first | rfl | (simp [errW_none, errW_some] <;> rfl) | (simp [*, errW_none, errW_some] <;> rfl), by repeat (first | (with_reducible first | exact HI0.out | apply IsS122.alloc | apply IsS122.drewN | apply IsS122.drew | apply IsS122.set_0 | apply IsS122.set_1 | apply IsS122.set_2) | exact HI0.out), by repeat (first | (with_reducible first | exact HB.out | apply below_alloc | apply pw_below_drewN | apply below_drew1 | refine below_set ?_ (IsS122.ge HI0.out)) | exact HB.out), by repeat (first | (with_reducible first | exact HK.out | apply KeepBut.set_ | apply keep_drewN | apply keep_drew | apply keep_alloc) | exact HK.out)⟩
    · rw [if_neg c6] at H
      have c6b0 : (t213 == a1) = false := beq_eq_false_iff_ne.mpr c6
      have c6b1 : (t213 != a1) = true := bne_iff_ne.mpr c6
      simp only [Option.some.injEq, Prod.mk.injEq] at H
      obtain ⟨rfl, rfl, rfl⟩ := H
      obtain ⟨HGz10, hgz10⟩ := HI0.out
      have hcz10_0 := cellS122_0 HGz10
      have hcz10_1 := cellS122_1 HGz10
      have hcz10_2 := cellS122_2 HGz10
      have hfz10_0 := blk_frozen HGz10 0
      have hfz10_1 := blk_frozen HGz10 1
      have hfz10_2 := blk_frozen HGz10 2
      clear HGz10 hgz10
      go_enter Tryd.func45, Tryd.ntmps45
      go_wp2_with (first | ((with_reducible refine gate_callee (f := 44) rfl ?_); refine goesL_ (some 9) rfl rfl Tryd.func44 (by kernel_rfl) rfl #[.pointer (some ⟨g, 0, none⟩)] rfl (by (try simp only [List.map_toArray, List.map_cons, List.map_nil]); first | done | rfl | (simp only [List.length_drop, List.length_take]; rfl)) ?_; (with_reducible refine (sluiceref18_reader_next.calls g s0_0 s0_1 false t213 t214 t215 t216 w0 _ ?side1 ?side2 A5.out).mono ?_); (case side1 => repeat (first | (with_reducible first | exact HI0.out | apply IsS122.alloc | apply IsS122.drewN | apply IsS122.drew | apply IsS122.set_0 | apply IsS122.set_1 | apply IsS122.set_2) | exact HI0.out)); (case side2 => repeat (first | (with_reducible first | exact HB.out | apply below_alloc | apply pw_below_drewN | apply below_drew1 | refine below_set ?_ (IsS122.ge HI0.out)) | exact HB.out)); rintro e w11 ⟨rfl, hi, hb, hk⟩; refine ⟨_, rfl, ?_⟩; have n0_ := Aside0.mk (KeepBut.trans (by repeat (first | (with_reducible first | exact HK.out | apply KeepBut.set_ | apply keep_drewN | apply keep_drew | apply keep_alloc) | exact HK.out)) hk (.inl rfl)); have n1_ := Aside0.mk (hb); have n2_ := Aside0.mk (hi); clear HK; clear HB; clear HI0; have HK := n0_; have HB := n1_; have HI0 := n2_; clear n0_ n1_ n2_; (try clear hb); (try clear hb2); (try clear hk); (try clear hi); obtain ⟨HGz12, hgz12⟩ := HI0.out; have hcz12_0 := cellS122_0 HGz12; have hcz12_1 := cellS122_1 HGz12; have hcz12_2 := cellS122_2 HGz12; have hfz12_0 := blk_frozen HGz12 0; have hfz12_1 := blk_frozen HGz12 1; have hfz12_2 := blk_frozen HGz12 2; clear HGz12 hgz12))
      first | go_end0 | ((try simp only [Exit.inBlock, Exit.then]); refine bodyPost_ret (results_none rfl _ _ _) rfl ?_)
      exact ⟨by first | rfl | (simp [errW_none, errW_some] <;> rfl) | (simp [*, errW_none, errW_some] <;> rfl), by repeat (first | (with_reducible first | exact HI0.out | apply IsS122.alloc | apply IsS122.drewN | apply IsS122.drew | apply IsS122.set_0 | apply IsS122.set_1 | apply IsS122.set_2) | exact HI0.out), by repeat (first | (with_reducible first | exact HB.out | apply below_alloc | apply pw_below_drewN | apply below_drew1 | refine below_set ?_ (IsS122.ge HI0.out)) | exact HB.out), by repeat (first | (with_reducible first | exact HK.out | apply KeepBut.set_ | apply keep_drewN | apply keep_drew | apply keep_alloc) | exact HK.out)⟩

def sluiceref18_begins.f (a0 : ByteArray) (a1 : ByteArray) : Option (Bool) := if (a0.size : Int) ≥ (a1.size : Int) then (if 0 ≤ (a1.size : Int) then (if (a1.size : Int) ≤ (a0.size : Int) then (some ((a0.extract 0 ((a1.size : Int) : Int).toNat).toList == a1.toList)) else (none)) else (none)) else (some false)
set_option maxHeartbeats 8000000 in
set_option maxRecDepth 100000 in
theorem sluiceref18_begins.calls (a0 : ByteArray) (a1 : ByteArray) (r : Bool) (w : World) (h : sluiceref18_begins.f a0 a1 = some r) :
    Calls Tryd.prog 89 #[.string a0, .string a1] w fun e w' => e = .returned (.bool r) ∧ Drawn0 w w' := by
  have H : (if (a0.size : Int) ≥ (a1.size : Int) then (if 0 ≤ (a1.size : Int) then (if (a1.size : Int) ≤ (a0.size : Int) then (some ((a0.extract 0 ((a1.size : Int) : Int).toNat).toList == a1.toList)) else (none)) else (none)) else (some false)) = some r := h
  clear h
  by_cases c3 : (a0.size : Int) ≥ (a1.size : Int)
  · rw [if_pos c3] at H
    have c3b0 : decide ((a1.size : Int) ≤ (a0.size : Int)) = true := decide_eq_true c3
    have c3b1 : decide (a1.size ≤ a0.size) = true := decide_eq_true (Int.ofNat_le.mp c3)
    clear c3
    by_cases c4 : 0 ≤ (a1.size : Int)
    · rw [if_pos c4] at H
      have c4b0 := eq_true c4
      have c4b1 : decide (0 ≤ (a1.size : Int)) = true := decide_eq_true c4
      clear c4
      by_cases c5 : (a1.size : Int) ≤ (a0.size : Int)
      · rw [if_pos c5] at H
        have c5b0 := eq_true c5
        have c5b1 : decide ((a1.size : Int) ≤ (a0.size : Int)) = true := decide_eq_true c5
        clear c5
        obtain rfl := Option.some.inj H
        go_enter Tryd.func89, Tryd.ntmps89
        go_wp2
        go_ret
        exact ⟨by first | rfl | (simp; done) | (simp [*]; done), by repeat (first | exact Drawn0.refl _ | apply Drawn0.step)⟩
      · rw [if_neg c5] at H
        exact absurd H (by simp)
    · rw [if_neg c4] at H
      exact absurd H (by simp)
  · rw [if_neg c3] at H
    have c3b0 : decide ((a1.size : Int) ≤ (a0.size : Int)) = false := decide_eq_false c3
    have c3b1 : decide (a1.size ≤ a0.size) = false := decide_eq_false (fun h => c3 (Int.ofNat_le.mpr h))
    clear c3
    obtain rfl := Option.some.inj H
    go_enter Tryd.func89, Tryd.ntmps89
    go_wp2
    go_ret
    exact ⟨by first | rfl | (simp; done) | (simp [*]; done), by repeat (first | exact Drawn0.refl _ | apply Drawn0.step)⟩

end Go.Proofs.YtnbfebjcfhbhiaaDoor.P
end
section
namespace Go.Proofs.YtnbfebjcfhbhiaaDoor.Lw
open Go Go.RowKit Go.Proofs.YtnbfebjcfhbhiaaDoor.P Go.Proofs.YtnbfebjcfhbhiaaDoor.Sc Go.Proofs.YtnbfebjcfhbhiaaDoorW.PrintWords Go.Proofs.YtnbfebjcfhbhiaaDoorW.PrintLast Go.Proofs.YtnbfebjcfhbhiaaDoorW.PrintMore
set_option linter.unusedVariables false
set_option linter.unusedSimpArgs false
def stc (x : St) (dv : Value) : Array Value := #[.int .i64 x.kind, .int .i64 x.rep, .int .i64 x.ses, .int .i64 x.id, .int .i64 x.ok, .string (sb x.name), .int .i64 x.a, .int .i64 x.b, .int .i64 x.i, .int .i64 x.j, dv]
/-- Beside g and b nothing has turned. -/
def KB (W wx : World) (g b : Nat) : Prop := W.heap.size ≤ wx.heap.size ∧ ∀ i, i < W.heap.size → i ≠ g → i ≠ b → wx.heap[i]? = W.heap[i]?
theorem KB.refl (W : World) (g b : Nat) : KB W W g b := ⟨Nat.le_refl _, fun _ _ _ _ => rfl⟩
theorem KB.keep {W wx w1 : World} {g b : Nat} (h : KB W wx g b) (k : KeepBut wx w1 g none) : KB W w1 g b :=
  ⟨Nat.le_trans h.1 k.1, fun i hi hg hb => (k.2 i (Nat.lt_of_lt_of_le hi h.1) hg (by simp)).trans (h.2 i hi hg hb)⟩
theorem KB.trans {W wx w1 : World} {g b : Nat} (h : KB W wx g b) (k : KB wx w1 g b) : KB W w1 g b :=
  ⟨Nat.le_trans h.1 k.1, fun i hi hg hb => (k.2 i (Nat.lt_of_lt_of_le hi h.1) hg hb).trans (h.2 i hi hg hb)⟩
theorem KB.set {W wx : World} {g b : Nat} (h : KB W wx g b) (j : Nat) (v : Value) : KB W (wx.setCell ⟨b, j, none⟩ v) g b :=
  ⟨by simpa [World.setCell] using h.1, fun i hi hg hb => (Below.heap_setCell wx ⟨b, j, none⟩ v i hb).trans (h.2 i hi hg hb)⟩
/-- The line stands as r says, the step is x; its data lie from N on. -/
structure SX (w0 : World) (N : Nat) (W wx : World) (g b : Nat) (t : ByteArray) (wh : Bool) (r : R Unit) (x : St) : Prop where
  ls : LS w0 wx wx g t wh r
  st : ∃ dv, wx.heap[b]? = some (.cells (stc x dv) 48 (0, 0)) ∧ Kd.R (Kd.int .u8) 5 wx N (fun _ => True) dv (nums x.data)
  pl : g < N ∧ b < N ∧ w0.heap.size ≤ b ∧ g ≠ b
  kb : KB W wx g b
  nw : N ≤ W.heap.size
section
variable {w0 W wx w1 : World} {N g b : Nat} {t : ByteArray} {wh : Bool} {r r' : R Unit} {x : St}
theorem SX.call (h : SX w0 N W wx g b t wh r x) (k : LS w0 wx w1 g t wh r') : SX w0 N W w1 g b t wh r' x := by
  obtain ⟨dv, h1, h2⟩ := h.st
  refine ⟨k.from_, ⟨dv, (k.keep.2 b (blk_lt h1) (Ne.symm h.pl.2.2.2) (by simp)).trans h1, ?_⟩, h.pl, h.kb.keep k.keep, h.nw⟩
  exact Kd.R_mono (Kd.R_step (Kd.R_bound h2) (fun i hi hlt => k.keep.2 i hlt (by have := h.pl.1; have := hi.2.1; omega) (by simp))) (fun _ _ => trivial)
theorem SX.below (h : SX w0 N W wx g b t wh r x) (hb : Below wx.heap.size wx w1) : SX w0 N W w1 g b t wh r x := h.call (h.ls.below hb)
/-- A cell of the step is written. -/
theorem SX.set (h : SX w0 N W wx g b t wh r x) (j : Nat) (v : Value) (x' : St) (hd : x'.data = x.data) (hc : ∀ dv, (stc x dv).setIfInBounds j v = stc x' dv) : SX w0 N W (wx.setCell ⟨b, j, none⟩ v) g b t wh r x' := by
  obtain ⟨dv, h1, h2⟩ := h.st
  have hgb := h.pl.2.2.2
  refine ⟨?_, ⟨dv, by rw [heap_setCell_same wx b j _ _ v h1, hc], ?_⟩, h.pl, h.kb.set j v, h.nw⟩
  · obtain ⟨a, bd, k1, k2, k3, k4, k5⟩ := h.ls
    exact ⟨a, bd, ⟨(Below.heap_setCell wx ⟨b, j, none⟩ v g hgb).trans k1.1, k1.2⟩, k2, k3.setCell (p := ⟨b, j, none⟩) h.pl.2.2.1 v, KeepBut.refl _ _ _, k5⟩
  · rw [hd]
    exact Kd.R_mono (Kd.R_step (Kd.R_bound h2) (fun i hi hlt => Below.heap_setCell wx ⟨b, j, none⟩ v i (by have := h.pl.2.1; have := hi.2.1; show i ≠ b; omega))) (fun _ _ => trivial)
/-- The data are stored. -/
theorem SX.data (h : SX w0 N W wx g b t wh r x) (v : Value) (d : By) (hv : Kd.R (Kd.int .u8) 5 wx N (fun _ => True) v (nums d)) : SX w0 N W (wx.setCell ⟨b, 10, none⟩ v) g b t wh r { x with data := d } := by
  obtain ⟨dv, h1, h2⟩ := h.st
  have hgb := h.pl.2.2.2
  refine ⟨?_, ⟨v, by rw [heap_setCell_same wx b 10 _ _ v h1]; rfl, ?_⟩, h.pl, h.kb.set 10 v, h.nw⟩
  · obtain ⟨a, bd, k1, k2, k3, k4, k5⟩ := h.ls
    exact ⟨a, bd, ⟨(Below.heap_setCell wx ⟨b, 10, none⟩ v g hgb).trans k1.1, k1.2⟩, k2, k3.setCell (p := ⟨b, 10, none⟩) h.pl.2.2.1 v, KeepBut.refl _ _ _, k5⟩
  · exact Kd.R_mono (Kd.R_step (Kd.R_bound hv) (fun i hi hlt => Below.heap_setCell wx ⟨b, 10, none⟩ v i (by have := h.pl.2.1; have := hi.2.1; show i ≠ b; omega))) (fun _ _ => trivial)
end
/-- bytes, in ScSpec's words. -/
theorem bytes_calls {w0 W wx : World} {g : Nat} {t : ByteArray} {wh : Bool} {r : R Unit} (h : LS w0 W wx g t wh r) :
    Calls Tryd.prog 86 #[.pointer (some ⟨g, 0, none⟩)] wx fun e w' => ∃ v x r', e = .returned v ∧ Kd.R (Kd.int .u8) 5 w' wx.heap.size (fun _ => True) v (nums x) ∧ LS w0 W w' g t wh r' ∧ Pst textP r x r' := by
  obtain ⟨a, bd, h1, h2, h3, h4, h5⟩ := h
  obtain ⟨x, at', bad', r', hf, hS, hP⟩ := bytes_f t r a wh bd h2 h5
  obtain ⟨k, hk⟩ := hf.rounds
  refine (script_line_bytes.calls k g t a wh bd _ _ _ _ _ w0 wx h1 h3 hk).mono ?_
  rintro e w' ⟨v, he, hR, k1, k2, k3⟩
  exact ⟨v, x, r', he, hR, ⟨at', bad', k1, hS, k2, h4.trans k3 (.inl rfl), h5⟩, hP⟩
/-- The letters of the parts. -/
def partOf (c : UInt8) : Part := if c.toNat = 114 then .r else if c.toNat = 115 then .s else if c.toNat = 110 then .n else if c.toNat = 105 then .i else if c.toNat = 106 then .j else if c.toNat = 97 then .a else if c.toNat = 107 then .k else if c.toNat = 100 then .d else if c.toNat = 111 then .o else .b
/-- Where a part's number stands in a step. -/
def cellOf : Part → Nat
  | .r => 1 | .s => 2 | .n => 3 | .i => 8 | .j => 9 | .a => 6 | _ => 7
set_option maxHeartbeats 4000000 in
set_option maxRecDepth 100000 in
theorem field_calls (w : World) (b : Nat) (c : UInt8) : Calls Tryd.prog 57 #[.pointer (some ⟨b, 0, none⟩), .int .i32 (c.toNat : Int)] w fun e w' => e = .returned (.pointer (some ⟨b, cellOf (partOf c), none⟩)) ∧ Below w.heap.size w w' := by
  have hu48 := Tryd.underlying48
  obtain ⟨n, hn⟩ : ∃ n, c.toNat = n := ⟨_, rfl⟩
  unfold partOf
  rw [hn]
  clear hn
  go_enter Tryd.func57, Tryd.ntmps57
  by_cases h0 : n = 114
  · subst h0
    go_wp2_with fail
    go_ret
    exact ⟨rfl, Below.refl _ _⟩
  have e0 : ((n : Int) == 114) = false := by simp; omega
  by_cases h1 : n = 115
  · subst h1
    go_wp2_with fail
    go_ret
    exact ⟨rfl, Below.refl _ _⟩
  have e1 : ((n : Int) == 115) = false := by simp; omega
  by_cases h2 : n = 110
  · subst h2
    go_wp2_with fail
    go_ret
    exact ⟨rfl, Below.refl _ _⟩
  have e2 : ((n : Int) == 110) = false := by simp; omega
  by_cases h3 : n = 105
  · subst h3
    go_wp2_with fail
    go_ret
    exact ⟨rfl, Below.refl _ _⟩
  have e3 : ((n : Int) == 105) = false := by simp; omega
  by_cases h4 : n = 106
  · subst h4
    go_wp2_with fail
    go_ret
    exact ⟨rfl, Below.refl _ _⟩
  have e4 : ((n : Int) == 106) = false := by simp; omega
  by_cases h5 : n = 97
  · subst h5
    go_wp2_with fail
    go_ret
    exact ⟨rfl, Below.refl _ _⟩
  have e5 : ((n : Int) == 97) = false := by simp; omega
  go_wp2_with fail
  all_goals
    go_ret
    refine ⟨?_, Below.refl _ _⟩
    first | rfl | (split <;> rfl)
def stepFs : List S153 := [⟨⟨#[99, 97, 108, 108]⟩, ⟨#[114, 115, 110, 111]⟩, 1⟩, ⟨⟨#[100, 101, 108, 105, 118, 101, 114]⟩, ⟨#[105]⟩, 2⟩, ⟨⟨#[100, 114, 111, 112]⟩, ⟨#[105]⟩, 3⟩, ⟨⟨#[100, 111, 117, 98, 108, 101]⟩, ⟨#[105]⟩, 4⟩, ⟨⟨#[109, 111, 118, 101]⟩, ⟨#[105, 106]⟩, 5⟩, ⟨⟨#[116, 105, 99, 107]⟩, ⟨#[114]⟩, 6⟩, ⟨⟨#[102, 114, 97, 109, 101]⟩, ⟨#[114, 100]⟩, 7⟩, ⟨⟨#[114, 101, 113, 117, 101, 115, 116]⟩, ⟨#[114, 100]⟩, 8⟩, ⟨⟨#[115, 101, 101]⟩, ⟨#[114]⟩, 9⟩, ⟨⟨#[98, 97, 103]⟩, ⟨#[]⟩, 10⟩, ⟨⟨#[119, 105, 116, 110, 101, 115, 115]⟩, ⟨#[]⟩, 11⟩, ⟨⟨#[99, 114, 97, 115, 104]⟩, ⟨#[114]⟩, 12⟩, ⟨⟨#[97, 114, 109]⟩, ⟨#[114, 105, 106]⟩, 13⟩, ⟨⟨#[114, 101, 115, 116, 97, 114, 116]⟩, ⟨#[114]⟩, 14⟩, ⟨⟨#[105, 109, 97, 103, 101]⟩, ⟨#[114]⟩, 15⟩]
def opFs : List S153 := [⟨⟨#[99, 114, 101, 97, 116, 101]⟩, ⟨#[107, 97, 98]⟩, 1⟩, ⟨⟨#[105, 110, 99]⟩, ⟨#[107, 97]⟩, 2⟩, ⟨⟨#[100, 101, 99]⟩, ⟨#[107, 97]⟩, 3⟩, ⟨⟨#[104, 111, 108, 100]⟩, ⟨#[107, 97, 98]⟩, 4⟩, ⟨⟨#[99, 111, 109, 109, 105, 116]⟩, ⟨#[107, 97]⟩, 5⟩, ⟨⟨#[114, 101, 108, 101, 97, 115, 101]⟩, ⟨#[107, 97]⟩, 6⟩, ⟨⟨#[114, 101, 97, 100]⟩, ⟨#[107]⟩, 7⟩, ⟨⟨#[116, 97, 107, 101]⟩, ⟨#[107, 97, 98]⟩, 8⟩, ⟨⟨#[114, 101, 115, 101, 116]⟩, ⟨#[107, 97]⟩, 9⟩, ⟨⟨#[114, 101, 99, 97, 112]⟩, ⟨#[107, 97]⟩, 10⟩, ⟨⟨#[108, 111, 111, 107]⟩, ⟨#[107]⟩, 11⟩]
theorem stepFs_ws : wordsOf stepFs = stepWs := by rfl
theorem opFs_ws : wordsOf opFs = opWs := by rfl
theorem stepFs_parts (i : Nat) (x : S153) (h : stepFs[i]? = some x) : (bs x.f1).map partOf = stepParts i ∧ x.f2 = (i : Int) + 1 ∧ ∀ c ∈ bs x.f1, c.toNat < 128 := by
  have hi : i < 15 := (List.getElem?_eq_some_iff.1 h).1
  have : ∀ i : Fin 15, ∀ x, stepFs[i.val]? = some x → (bs x.f1).map partOf = stepParts i.val ∧ x.f2 = (i.val : Int) + 1 ∧ ∀ c ∈ bs x.f1, c.toNat < 128 := by
    intro i x h
    match i, h with
    | ⟨0, _⟩, h => obtain rfl := Option.some.inj h; exact ⟨by rfl, by rfl, by decide⟩
    | ⟨1, _⟩, h => obtain rfl := Option.some.inj h; exact ⟨by rfl, by rfl, by decide⟩
    | ⟨2, _⟩, h => obtain rfl := Option.some.inj h; exact ⟨by rfl, by rfl, by decide⟩
    | ⟨3, _⟩, h => obtain rfl := Option.some.inj h; exact ⟨by rfl, by rfl, by decide⟩
    | ⟨4, _⟩, h => obtain rfl := Option.some.inj h; exact ⟨by rfl, by rfl, by decide⟩
    | ⟨5, _⟩, h => obtain rfl := Option.some.inj h; exact ⟨by rfl, by rfl, by decide⟩
    | ⟨6, _⟩, h => obtain rfl := Option.some.inj h; exact ⟨by rfl, by rfl, by decide⟩
    | ⟨7, _⟩, h => obtain rfl := Option.some.inj h; exact ⟨by rfl, by rfl, by decide⟩
    | ⟨8, _⟩, h => obtain rfl := Option.some.inj h; exact ⟨by rfl, by rfl, by decide⟩
    | ⟨9, _⟩, h => obtain rfl := Option.some.inj h; exact ⟨by rfl, by rfl, by decide⟩
    | ⟨10, _⟩, h => obtain rfl := Option.some.inj h; exact ⟨by rfl, by rfl, by decide⟩
    | ⟨11, _⟩, h => obtain rfl := Option.some.inj h; exact ⟨by rfl, by rfl, by decide⟩
    | ⟨12, _⟩, h => obtain rfl := Option.some.inj h; exact ⟨by rfl, by rfl, by decide⟩
    | ⟨13, _⟩, h => obtain rfl := Option.some.inj h; exact ⟨by rfl, by rfl, by decide⟩
    | ⟨14, _⟩, h => obtain rfl := Option.some.inj h; exact ⟨by rfl, by rfl, by decide⟩
  exact this ⟨i, hi⟩ x h
theorem opFs_parts (i : Nat) (x : S153) (h : opFs[i]? = some x) : (bs x.f1).map partOf = opParts i ∧ x.f2 = (i : Int) + 1 ∧ (∀ c ∈ bs x.f1, c.toNat < 128) ∧ .o ∉ opParts i := by
  have hi : i < 11 := (List.getElem?_eq_some_iff.1 h).1
  have : ∀ i : Fin 11, ∀ x, opFs[i.val]? = some x → (bs x.f1).map partOf = opParts i.val ∧ x.f2 = (i.val : Int) + 1 ∧ (∀ c ∈ bs x.f1, c.toNat < 128) ∧ .o ∉ opParts i.val := by
    intro i x h
    match i, h with
    | ⟨0, _⟩, h => obtain rfl := Option.some.inj h; exact ⟨by rfl, by rfl, by decide, (show .o ∉ opParts 0 by decide)⟩
    | ⟨1, _⟩, h => obtain rfl := Option.some.inj h; exact ⟨by rfl, by rfl, by decide, (show .o ∉ opParts 1 by decide)⟩
    | ⟨2, _⟩, h => obtain rfl := Option.some.inj h; exact ⟨by rfl, by rfl, by decide, (show .o ∉ opParts 2 by decide)⟩
    | ⟨3, _⟩, h => obtain rfl := Option.some.inj h; exact ⟨by rfl, by rfl, by decide, (show .o ∉ opParts 3 by decide)⟩
    | ⟨4, _⟩, h => obtain rfl := Option.some.inj h; exact ⟨by rfl, by rfl, by decide, (show .o ∉ opParts 4 by decide)⟩
    | ⟨5, _⟩, h => obtain rfl := Option.some.inj h; exact ⟨by rfl, by rfl, by decide, (show .o ∉ opParts 5 by decide)⟩
    | ⟨6, _⟩, h => obtain rfl := Option.some.inj h; exact ⟨by rfl, by rfl, by decide, (show .o ∉ opParts 6 by decide)⟩
    | ⟨7, _⟩, h => obtain rfl := Option.some.inj h; exact ⟨by rfl, by rfl, by decide, (show .o ∉ opParts 7 by decide)⟩
    | ⟨8, _⟩, h => obtain rfl := Option.some.inj h; exact ⟨by rfl, by rfl, by decide, (show .o ∉ opParts 8 by decide)⟩
    | ⟨9, _⟩, h => obtain rfl := Option.some.inj h; exact ⟨by rfl, by rfl, by decide, (show .o ∉ opParts 9 by decide)⟩
    | ⟨10, _⟩, h => obtain rfl := Option.some.inj h; exact ⟨by rfl, by rfl, by decide, (show .o ∉ opParts 10 by decide)⟩
  exact this ⟨i, hi⟩ x h
end Go.Proofs.YtnbfebjcfhbhiaaDoor.Lw
end
