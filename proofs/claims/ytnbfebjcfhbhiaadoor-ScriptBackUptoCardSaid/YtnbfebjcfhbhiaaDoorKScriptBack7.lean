/- texts that the proof needs, laid together by a program of this session. -/
import Derived.Lib.OthersKept
import Derived.Laws.IdiomStrings
import Derived.Test.YtnbfebjcfhbhiaaDoorKScriptBack6
section
namespace Go.Proofs.YtnbfebjcfhbhiaaDoor.Sc
open Go Go.RowKit Go.Proofs.YtnbfebjcfhbhiaaDoor.P Go.Proofs.YtnbfebjcfhbhiaaDoorW.PrintWords Go.Proofs.YtnbfebjcfhbhiaaDoorW.PrintLast Go.Proofs.YtnbfebjcfhbhiaaDoorW.PrintMore
set_option linter.unusedVariables false
set_option linter.unusedSimpArgs false
def nums (x : By) : List Int := x.map fun c => (c.toNat : Int)
theorem plain_f (c : UInt8) : script_plain.f (c.toNat : Int) = some (plainB c) := by
  have h : ∀ n : Fin 256, script_plain.f (n.val : Int) = some (n.val == 95 || n.val == 46 || (decide (48 ≤ n.val) && decide (n.val ≤ 57)) || (decide (65 ≤ n.val) && decide (n.val ≤ 90)) || (decide (97 ≤ n.val) && decide (n.val ≤ 122))) := by decide +kernel
  exact h ⟨c.toNat, c.toNat_lt⟩
theorem idx_hex (c : UInt8) : Lib.indexByte [48, 49, 50, 51, 52, 53, 54, 55, 56, 57, 65, 66, 67, 68, 69, 70] c = match hexV c with
    | some n => (n : Int)
    | none => -1 := by
  have h : ∀ n : Fin 256, Lib.indexByte [48, 49, 50, 51, 52, 53, 54, 55, 56, 57, 65, 66, 67, 68, 69, 70] (UInt8.ofNat n.val) = match hexV (UInt8.ofNat n.val) with
    | some n => (n : Int)
    | none => -1 := by decide +kernel
  have := h ⟨c.toNat, c.toNat_lt⟩
  simpa using this
theorem hexV_lt {c : UInt8} {n : Nat} (h : hexV c = some n) : n < 16 := by
  unfold hexV at h
  split at h
  · rename_i hh; simp at hh; injection h with h; omega
  · split at h
    · rename_i hh; simp at hh; injection h with h; omega
    · cases h
theorem or_hex (a b : Nat) (ha : a < 16) (hb : b < 16) : Go.bits .or .u8 (((a : Int) * 16) % 256) ((b : Int) % 256) = ((16 * a + b : Nat) : Int) := by
  have h : ∀ a b : Fin 16, Go.bits .or .u8 (((a.val : Int) * 16) % 256) ((b.val : Int) % 256) = ((16 * a.val + b.val : Nat) : Int) := by decide +kernel
  exact h ⟨a, ha⟩ ⟨b, hb⟩
theorem or_hex0 (b : Nat) (hb : b < 16) : Go.bits .or .u8 (((0 : Int) * 16) % 256) ((b : Int) % 256) = (b : Int) := by
  have := or_hex 0 b (by decide) hb
  simpa using this
/-- A sign: its byte, how many bytes, is it one. -/
def signS : By → Nat × Nat × Bool
  | [] => (0, 0, false)
  | c :: l => if plainB c then (c.toNat, 1, true) else if c.toNat = 37 then
      match l with
      | [] => (0, 1, false)
      | h :: l1 => match hexV h with
        | none => (0, 1, false)
        | some a => match l1 with
          | [] => (0, 2, false)
          | k :: l2 => match hexV k with
            | none => (0, 2, false)
            | some b => if plainB (hexB a b) then (0, 2, false) else (16 * a + b, 3, true)
    else (0, 0, false)
theorem text_sign (l : By) : (signS l).2.1 ≤ l.length ∧ (if (signS l).2.2 = true then 0 < (signS l).2.1 ∧ (signS l).1 < 256 ∧ textGo l = (textGo (l.drop (signS l).2.1)).bnd (fun x r => .good ((signS l).1.toUInt8 :: x) r)
    else if (signS l).2.1 = 0 then textGo l = .good [] l else textGo l = .bad (l.drop (signS l).2.1)) := by
  match l with
  | [] => exact ⟨Nat.le_refl _, by simp [signS, textGo]⟩
  | c :: l =>
    by_cases hc : plainB c = true
    · rw [textGo_plain hc]
      simp only [signS, hc, if_true]
      exact ⟨by simp, by decide, c.toNat_lt, by simp [Nat.toUInt8]⟩
    · by_cases h37 : c.toNat = 37
      · match l with
        | [] => simp [signS, textGo, hc, h37]
        | h :: l1 =>
          cases hh : hexV h with
          | none => simp [signS, textGo, hc, h37, hh]
          | some a =>
            match l1 with
            | [] => simp [signS, textGo, hc, h37, hh]
            | k :: l2 =>
              cases hk : hexV k with
              | none => simp [signS, textGo, hc, h37, hh, hk]
              | some b =>
                have ha := hexV_lt hh
                have hb := hexV_lt hk
                by_cases hp : plainB (hexB a b) = true
                · simp [signS, textGo, hc, h37, hh, hk, hp]
                · have h1 : 16 * a + b < 256 := by omega
                  have h2 : (16 * a + b).toUInt8 = hexB a b := rfl
                  simp [signS, textGo, hc, h37, hh, hk, hp, h1, h2]
      · rw [textGo_stop hc h37]; simp [signS, hc, h37]
theorem plain_n (n : Nat) (h : n < 256) : script_plain.f (n : Int) = some (plainB (UInt8.ofNat n)) := by
  have := plain_f (UInt8.ofNat n)
  rwa [UInt8.toNat_ofNat', Nat.mod_eq_of_lt (by omega)] at this
theorem sign_ev (l : By) (hl : l.length ≤ 4611686018427387904) : Ev (fun k => script_sign.f k (sb l)) (((signS l).1 : Int), ((signS l).2.1 : Int), (signS l).2.2) := by
  have hsz : (sb l).size = l.length := by rw [← bs_len, bs_sb]
  match l, hl, hsz with
  | [], hl, hsz =>
    refine Ev.congr (f := fun _ => some _) (fun k => ?_) (Ev.now _)
    unfold script_sign.f
    rw [toList_bs, bs_sb, if_pos rfl]
    rfl
  | c :: l, hl, hsz =>
    simp only [List.length_cons] at hsz hl
    have hb0 : bt (sb (c :: l)) 0 = (c.toNat : Int) := by
      have := bt_bs (sb (c :: l)) 0 (by rw [bs_sb]; simp)
      simpa [bs_sb] using this
    have e0 : ∀ k, script_sign.f k (sb (c :: l)) = if plainB c = true then some ((c.toNat : Int), 1, true) else if (c.toNat : Int) = 37 then script_sign.l0 k (sb (c :: l)) 0 1 else some (0, 0, false) := fun k => by
      unfold script_sign.f
      rw [toList_bs, bs_sb, if_neg (by simp), if_pos (by omega), hb0, plain_f, Option.bind_some]
    refine Ev.congr e0 ?_
    by_cases hc : plainB c = true
    · simp only [hc, if_true, signS]; exact Ev.now _
    · simp only [hc, if_false, Bool.false_eq_true]
      by_cases h37 : c.toNat = 37
      · have h37i : (c.toNat : Int) = 37 := by omega
        simp only [h37i, if_true]
        -- the first digit
        have st : ∀ (k : Nat) (x2 : Int) (i : Nat) (hi : i < 3), script_sign.l0 (k + 1) (sb (c :: l)) x2 (i : Int) = if h : i < l.length + 1 then (match hexV ((c :: l)[i]'(by simpa using h)) with
            | none => some (0, (i : Int), false)
            | some n => script_sign.l0 k (sb (c :: l)) (Go.bits .or .u8 ((x2 * 16) % 256) ((n : Int) % 256)) ((i + 1 : Nat) : Int)) else some (0, (i : Int), false) := fun k x2 i hi => by
          by_cases h : i < l.length + 1
          · have hbi : bt (sb (c :: l)) (i : Int) = (((c :: l)[i]'(by simpa using h)).toNat : Int) := by
              have := bt_bs (sb (c :: l)) i (by rw [bs_sb]; simpa using h)
              simpa [bs_sb] using this
            rw [dif_pos h, script_sign.l0, if_pos (by omega), if_neg (by omega), if_pos (by omega), if_pos (by omega), hbi]
            unfold strings_IndexByte.f
            rw [Option.bind_some]
            have hu : (((c :: l)[i]'(by simpa using h)).toNat : Int).toNat.toUInt8 = (c :: l)[i]'(by simpa using h) := by
              rw [Int.toNat_natCast]; simp [Nat.toUInt8]
            rw [hu, show (⟨#[48, 49, 50, 51, 52, 53, 54, 55, 56, 57, 65, 66, 67, 68, 69, 70]⟩ : ByteArray).data.toList = [48, 49, 50, 51, 52, 53, 54, 55, 56, 57, 65, 66, 67, 68, 69, 70] from rfl, idx_hex]
            cases hexV ((c :: l)[i]'(by simpa using h)) with
            | none => rfl
            | some n =>
              simp only
              rw [if_neg (by omega), w64 (by omega) (by omega)]
              rfl
          · rw [dif_neg h, script_sign.l0, if_pos (by omega), if_pos (by omega)]
        have st3 : ∀ (k x2 : Nat) (hx : x2 < 256), script_sign.l0 (k + 1) (sb (c :: l)) (x2 : Int) ((3 : Nat) : Int) = if plainB (UInt8.ofNat x2) = true then some (0, 2, false) else some ((x2 : Int), 3, true) := fun k x2 hx => by
          rw [script_sign.l0, if_neg (by omega), plain_n x2 hx, Option.bind_some]
        match l, st, st3 with
        | [], st, st3 =>
          refine Ev.step (f := fun _ => some _) (fun k => ?_) (Ev.now _)
          have := st k 0 1 (by decide)
          rw [dif_neg (by simp)] at this
          simpa [signS, hc, h37] using this
        | h :: l1, st, st3 =>
          cases hh : hexV h with
          | none =>
            refine Ev.step (f := fun _ => some _) (fun k => ?_) (Ev.now _)
            have := st k 0 1 (by decide)
            rw [dif_pos (by simp)] at this
            simpa [signS, hc, h37, hh] using this
          | some a =>
            have ha := hexV_lt hh
            refine Ev.step (f := fun k => script_sign.l0 k (sb (c :: h :: l1)) (a : Int) ((2 : Nat) : Int)) (fun k => ?_) ?_
            · have := st k 0 1 (by decide)
              rw [dif_pos (by simp)] at this
              simp only [List.getElem_cons_succ, List.getElem_cons_zero, hh, or_hex0 a ha] at this
              exact this
            · match l1, st, st3 with
              | [], st, st3 =>
                refine Ev.step (f := fun _ => some _) (fun k => ?_) (Ev.now _)
                have := st k a 2 (by decide)
                rw [dif_neg (by simp)] at this
                simpa [signS, hc, h37, hh] using this
              | k0 :: l2, st, st3 =>
                cases hk : hexV k0 with
                | none =>
                  refine Ev.step (f := fun _ => some _) (fun k => ?_) (Ev.now _)
                  have := st k a 2 (by decide)
                  rw [dif_pos (by simp)] at this
                  simpa [signS, hc, h37, hh, hk] using this
                | some b =>
                  have hb := hexV_lt hk
                  refine Ev.step (f := fun k => script_sign.l0 k (sb (c :: h :: k0 :: l2)) ((16 * a + b : Nat) : Int) ((3 : Nat) : Int)) (fun k => ?_) ?_
                  · have := st k a 2 (by decide)
                    rw [dif_pos (by simp)] at this
                    simp only [List.getElem_cons_succ, List.getElem_cons_zero, hk, or_hex a b ha hb] at this
                    exact this
                  · refine Ev.step (f := fun _ => some _) (fun k => ?_) (Ev.now _)
                    rw [st3 k (16 * a + b) (by omega), show UInt8.ofNat (16 * a + b) = hexB a b from rfl]
                    by_cases hp : plainB (hexB a b) = true
                    · simp [signS, hc, h37, hh, hk, hp]
                    · simp [signS, hc, h37, hh, hk, hp]
      · have hn : ¬ (c.toNat : Int) = 37 := by omega
        simp only [hn, signS, hc, h37, if_false, Bool.false_eq_true]
        exact Ev.now _
theorem nums_append (a b : By) : nums (a ++ b) = nums a ++ nums b := by simp [nums]
theorem bytes_go (t : ByteArray) (hs : t.size ≤ 2097152) (w bad : Bool) : ∀ (n : Nat) (l : By) (at_ : Int) (acc : By), l.length ≤ n → acc.length + l.length ≤ 2097152 → LSt (bs t) (.good () l) at_ bad →
    ∃ x at' bad' r', Ev (fun k => script_line_bytes.l0 k (nums acc) t at_ w bad) (nums x, t, at', w, bad') ∧ LSt (bs t) r' at' bad' ∧ match textGo l with
      | .good y l' => if acc ++ y = [] then r' = .bad l' else x = acc ++ y ∧ r' = .good () l'
      | .bad l' => r' = .bad l' := by
  intro n
  induction n with
  | zero =>
    intro l at_ acc hn ha h
    obtain rfl : l = [] := List.length_eq_zero_iff.1 (by omega)
    have hr := rest_f (w := w) h
    have hsg := sign_ev [] (by simp)
    simp only [signS] at hsg
    have hb := h.1
    obtain ⟨at1, hf1, hS1⟩ := fail_f (w := w) (n := ((0 : Nat) : Int)) h 0 rfl (Nat.le_refl _) (by omega)
    have st : ∀ k, script_line_bytes.l0 (k + 1) (nums acc) t at_ w bad = (script_sign.f k (sb [])).bind fun s => if s.2.2 = true then (if (nums acc).length < 140737488355328 then script_line_bytes.l0 k (nums acc ++ [s.1]) t (wrap64 (at_ + s.2.1)) w bad else none) else if s.2.1 > 0 then ((script_line_fail.f t at_ w bad s.2.1).bind fun b => some (([] : List Int), b.1, b.2.1, b.2.2.1, b.2.2.2)) else if ((nums acc).length : Int) = 0 then ((script_line_fail.f t at_ w bad s.2.1).bind fun b => some (([] : List Int), b.1, b.2.1, b.2.2.1, b.2.2.2)) else some (nums acc, t, at_, w, bad) := fun k => by
      rw [script_line_bytes.l0, hr, Option.bind_some]
    by_cases hacc : acc = []
    · subst hacc
      refine ⟨[], at1, true, .bad [], Ev.step st (Ev.bind hsg (Ev.congr (f := fun _ => some _) (fun k => ?_) (Ev.now _))), hS1, by simp [textGo]⟩
      simp only [Bool.false_eq_true, if_false]
      rw [if_neg (by decide), if_pos (by simp [nums]), hf1]
      rfl
    · refine ⟨acc, at_, bad, .good () [], Ev.step st (Ev.bind hsg (Ev.congr (f := fun _ => some _) (fun k => ?_) (Ev.now _))), h, by simp [textGo, hacc]⟩
      simp only [Bool.false_eq_true, if_false]
      rw [if_neg (by decide), if_neg (by simp [nums, hacc])]
  | succ n ih =>
    intro l at_ acc hn ha h
    have hr := rest_f (w := w) h
    have hsg := sign_ev l (by omega)
    obtain ⟨hle, hsem⟩ := text_sign l
    obtain ⟨c, m, ok, hcm⟩ : ∃ c m ok, signS l = (c, m, ok) := ⟨_, _, _, rfl⟩
    rw [hcm] at hsg hle hsem
    simp only at hsg hle hsem
    have st : ∀ k, script_line_bytes.l0 (k + 1) (nums acc) t at_ w bad = (script_sign.f k (sb l)).bind fun s => if s.2.2 = true then (if (nums acc).length < 140737488355328 then script_line_bytes.l0 k (nums acc ++ [s.1]) t (wrap64 (at_ + s.2.1)) w bad else none) else if s.2.1 > 0 then ((script_line_fail.f t at_ w bad s.2.1).bind fun b => some (([] : List Int), b.1, b.2.1, b.2.2.1, b.2.2.2)) else if ((nums acc).length : Int) = 0 then ((script_line_fail.f t at_ w bad s.2.1).bind fun b => some (([] : List Int), b.1, b.2.1, b.2.2.1, b.2.2.2)) else some (nums acc, t, at_, w, bad) := fun k => by
      rw [script_line_bytes.l0, hr, Option.bind_some]
    obtain ⟨hb0, p, hp, hat⟩ := id h
    have hpl : p.length + l.length = t.size := by rw [← bs_len, hp, List.length_append]
    cases ok with
    | true =>
      simp only [if_true] at hsem
      obtain ⟨hm0, hc, htx⟩ := hsem
      have hacc : nums acc ++ [(c : Int)] = nums (acc ++ [c.toUInt8]) := by
        rw [nums_append]
        simp [nums, Nat.toUInt8]
        omega
      obtain ⟨x, at', bad', r', h1, h2, h3⟩ := ih (l.drop m) (at_ + m) (acc ++ [c.toUInt8]) (by rw [List.length_drop]; omega) (by rw [List.length_drop, List.length_append]; simp; omega) ⟨hb0, p ++ l.take m, by rw [List.append_assoc, List.take_append_drop]; exact hp, by rw [List.length_append, List.length_take, Nat.min_eq_left hle]; omega⟩
      refine ⟨x, at', bad', r', Ev.step st (Ev.bind hsg (Ev.congr (f := fun k => script_line_bytes.l0 k (nums (acc ++ [c.toUInt8])) t (at_ + m) w bad) (fun k => ?_) h1)), h2, ?_⟩
      · simp only [if_true]
        rw [if_pos (by simp [nums]; omega), hacc, w64 (by omega) (by omega)]
      · rw [htx]
        cases ht : textGo (l.drop m) with
        | bad l' => rw [ht] at h3; simpa [R.bnd] using h3
        | good y l' => rw [ht] at h3; simpa [R.bnd] using h3
    | false =>
      simp only [Bool.false_eq_true, if_false] at hsem
      obtain ⟨at1, hf1, hS1⟩ := fail_f (w := w) (n := (m : Int)) h m rfl hle (by omega)
      by_cases hm : m = 0
      · subst hm
        simp only [if_true] at hsem
        by_cases hacc : acc = []
        · subst hacc
          refine ⟨[], at1, true, .bad (l.drop 0), Ev.step st (Ev.bind hsg (Ev.congr (f := fun _ => some _) (fun k => ?_) (Ev.now _))), hS1, by rw [hsem]; simp⟩
          simp only [Bool.false_eq_true, if_false]
          rw [if_neg (by decide), if_pos (by simp [nums]), hf1]
          rfl
        · refine ⟨acc, at_, bad, .good () l, Ev.step st (Ev.bind hsg (Ev.congr (f := fun _ => some _) (fun k => ?_) (Ev.now _))), h, by rw [hsem]; simp [hacc]⟩
          simp only [Bool.false_eq_true, if_false]
          rw [if_neg (by decide), if_neg (by simp [nums, hacc])]
      · rw [if_neg hm] at hsem
        refine ⟨[], at1, true, .bad (l.drop m), Ev.step st (Ev.bind hsg (Ev.congr (f := fun _ => some _) (fun k => ?_) (Ev.now _))), hS1, by rw [hsem]⟩
        simp only [Bool.false_eq_true, if_false]
        rw [if_pos (by omega), hf1]
        rfl
theorem bytes_f (t : ByteArray) (r : R Unit) (at_ : Int) (w bad : Bool) (h : LSt (bs t) r at_ bad) (hs : t.size ≤ 2097152) :
    ∃ x at' bad' r', Ev (fun k => script_line_bytes.f k t at_ w bad) (nums x, t, at', w, bad') ∧ LSt (bs t) r' at' bad' ∧ Pst textP r x r' := by
  cases r with
  | bad l =>
    refine ⟨[], at_, bad, .bad l, Ev.congr (f := fun _ => some _) (fun k => ?_) (Ev.now _), h, rfl⟩
    unfold script_line_bytes.f
    rw [if_pos h.1]
    rfl
  | good u l =>
    obtain ⟨hb0, p, hp, hat⟩ := id h
    have hpl : p.length + l.length = t.size := by rw [← bs_len, hp, List.length_append]
    have e0 : ∀ k, script_line_bytes.f k t at_ w bad = if (decide ((bs ⟨#[45]⟩) <+: l)) = true then some (([] : List Int), t, wrap64 (at_ + 1), w, bad) else script_line_bytes.l0 k ([] : List Int) t at_ w bad := fun k => by
      unfold script_line_bytes.f
      rw [if_neg (by rw [hb0]; decide), rest_f h, Option.bind_some, pre_f, bs_sb, Option.bind_some]
    by_cases hm : l.head? = some 45
    · have hd : decide ((bs ⟨#[45]⟩) <+: l) = true := by
        cases l with
        | nil => cases hm
        | cons c l => obtain rfl : c = 45 := by simpa using hm
                      simp [bs]
      have hl0 : 0 < l.length := by cases l <;> simp_all
      refine ⟨[], at_ + 1, bad, .good () (l.drop 1), Ev.congr (f := fun _ => some _) (fun k => ?_) (Ev.now _), ⟨hb0, p ++ l.take 1, by rw [List.append_assoc, List.take_append_drop]; exact hp, by rw [List.length_append, List.length_take, Nat.min_eq_left (by omega)]; omega⟩, ?_⟩
      · rw [e0, if_pos hd, w64 (by omega) (by omega)]; rfl
      · unfold Pst textP; simp only [hm, if_true]; exact ⟨trivial, by rw [List.drop_one]⟩
    · have hd : ¬ decide ((bs ⟨#[45]⟩) <+: l) = true := by
        cases l with
        | nil => simp [bs]
        | cons c l => simp [bs]; intro e; exact hm (by rw [← e]; rfl)
      obtain ⟨x, at', bad', r', h1, h2, h3⟩ := bytes_go t hs w bad l.length l at_ [] (Nat.le_refl _) (by simp; omega) h
      refine ⟨x, at', bad', r', Ev.congr (fun k => by rw [e0, if_neg hd]; rfl) h1, h2, ?_⟩
      unfold Pst textP
      simp only [hm, if_false]
      cases ht : textGo l with
      | bad l' => rw [ht] at h3; simpa [R.bnd] using h3
      | good y l' =>
        rw [ht] at h3
        simp only [List.nil_append] at h3
        by_cases hy : y = []
        · simp only [hy, if_true, R.bnd] at h3 ⊢; exact h3
        · simp only [hy, if_false, R.bnd] at h3 ⊢; exact h3
end Go.Proofs.YtnbfebjcfhbhiaaDoor.Sc
end
section
namespace Go.Proofs.YtnbfebjcfhbhiaaDoor.P
open Go.RowKit Go.Proofs.YtnbfebjcfhbhiaaDoorW.PrintWords Go.Proofs.YtnbfebjcfhbhiaaDoorW.PrintLast Go.Proofs.YtnbfebjcfhbhiaaDoorW.PrintMore
attribute [local go_sem] max2_int min2_int max_two min_two max_three min_three max_four min_four   -- for this text's walks alone
set_option linter.unusedVariables false
set_option linter.unusedSimpArgs false

def sluicelaw18_alike.l0 : Nat → List (S48) → List (S48) → Int → Option (Bool)
  | 0, _, _, _ => none
  | k + 1, x0, x1, x5 => if x5 < (x0.length : Int) then (if 0 ≤ x5 then (if x5 < (x1.length : Int) then ((sluicelaw18_same.f ((rd_T48 x0 x5).f0) ((rd_T48 x0 x5).f1) ((rd_T48 x0 x5).f2.f0) ((rd_T48 x0 x5).f2.f1) ((rd_T48 x0 x5).f3.f0) ((rd_T48 x0 x5).f3.f1) ((rd_T48 x0 x5).f3.f2) ((rd_T48 x0 x5).f3.f3) ((rd_T48 x0 x5).f4) ((rd_T48 x0 x5).f5) ((rd_T48 x0 x5).f6) ((rd_T48 x1 x5).f0) ((rd_T48 x1 x5).f1) ((rd_T48 x1 x5).f2.f0) ((rd_T48 x1 x5).f2.f1) ((rd_T48 x1 x5).f3.f0) ((rd_T48 x1 x5).f3.f1) ((rd_T48 x1 x5).f3.f2) ((rd_T48 x1 x5).f3.f3) ((rd_T48 x1 x5).f4) ((rd_T48 x1 x5).f5) ((rd_T48 x1 x5).f6)).bind fun t212 => (if t212 = true then (sluicelaw18_alike.l0 k x0 x1 (wrap64 (x5 + 1))) else (some false))) else (none)) else (none)) else (some true)
def sluicelaw18_alike.f (k : Nat) (l0 : List (S48)) (l1 : List (S48)) : Option (Bool) := if (l0.length : Int) = (l1.length : Int) then (sluicelaw18_alike.l0 k l0 l1 0) else (some false)
def sluicelaw18_alike.T6 : Bool × List (List Nat × List Nat) := (true, [([], []), ([], []), ([0, 1], [0, 1]), ([2], [2]), ([], []), ([], []), ([4, 5], [4, 5]), ([6], [6]), ([3, 7], [3, 7]), ([8, 8, 0, 1, 2, 3, 4, 5, 6, 7, 8], [8])])
def sluicelaw18_alike.B6 : List Nat := [0, 0, 3, 7, 0, 0, 48, 112, 255, 511]
theorem sluicelaw18_alike.tab6 : rtab .any (opsOf Tryd.f17 6) = sluicelaw18_alike.T6 := by kernel_rfl
theorem sluicelaw18_alike.bits6 : waitsOk sluicelaw18_alike.T6.2 sluicelaw18_alike.B6 = true := by kernel_rfl
set_option maxHeartbeats 8000000 in
set_option maxRecDepth 100000 in
theorem sluicelaw18_alike.calls (k : Nat) (A0 : Option Addr) (c0 : Nat) (l0 : List (S48)) (A1 : Option Addr) (c1 : Nat) (l1 : List (S48)) (r : Bool) (w : World) (hr0 : Kd.C k48 w A0 l0.length l0) (hc0 : l0.length ≤ c0) (hr1 : Kd.C k48 w A1 l1.length l1) (hc1 : l1.length ≤ c1) (h : sluicelaw18_alike.f k l0 l1 = some r) :
    Calls Tryd.prog 17 #[.slice A0 l0.length c0, .slice A1 l1.length c1] w fun e w' => e = .returned (.bool r) ∧ Below w.heap.size w w' := by
  have hu48 := Tryd.underlying48
  have HR0 := Aside0.mk hr0
  have HC0 := Aside0.mk hc0
  clear hr0 hc0
  have HR1 := Aside0.mk hr1
  have HC1 := Aside0.mk hc1
  clear hr1 hc1
  have HB := Aside0.mk (Below.refl w.heap.size w)
  have H : (if (l0.length : Int) = (l1.length : Int) then (sluicelaw18_alike.l0 k l0 l1 0) else (some false)) = some r := h
  clear h
  by_cases c3 : (l0.length : Int) = (l1.length : Int)
  · rw [if_pos c3] at H
    have c3b0 : ((l0.length : Int) == (l1.length : Int)) = true := beq_iff_eq.mpr c3
    have c3b1 : ((l0.length : Int) != (l1.length : Int)) = false := bne_eq_false_iff_eq.mpr c3
    have c3b2 : (l0.length == l1.length) = true := by first | simpa using c3 | (simp at c3 ⊢; omega)
    clear c3
    have H' := Aside0.mk H
    clear H
    go_enter Tryd.func17, Tryd.ntmps17
    go_wp2
    go_loopg [5] k (fun kq v5 w' => ∃ (x5_1 : Int), v5 = .int .i64 x5_1 ∧ Aside0 (sluicelaw18_alike.l0 kq l0 l1 x5_1 = some r) ∧ Aside0 (kq ≤ k) ∧ Aside0 (Below w.heap.size w w'))
    case atStart => exact ⟨(0), (by first | rfl | (simp; done) | (simp [*]; done)), H', ⟨Nat.le_refl _⟩, ⟨by repeat (first | (with_reducible first | exact HB.out | apply below_alloc | apply pw_below_drewN | apply below_drew1) | exact HB.out)⟩⟩
    case round =>
      clear H'
      try clear c1
      try clear p2
      try clear c3
      try clear c3b0
      try clear c3b1
      try clear c3b2
      obtain ⟨x5_1, rfl, HA, HK1, HB⟩ := hrel
      cases gk with
      | zero => exact absurd HA.out (by simp [sluicelaw18_alike.l0])
      | succ k1 =>
        have H := HA.out
        clear HA
        simp only [sluicelaw18_alike.l0] at H
        by_cases c4 : x5_1 < (l0.length : Int)
        · rw [if_pos c4] at H
          have c4b0 : decide (x5_1 < (l0.length : Int)) = true := decide_eq_true c4
          clear c4
          by_cases c5 : 0 ≤ x5_1
          · rw [if_pos c5] at H
            have c5b0 : decide (0 ≤ x5_1) = true := decide_eq_true c5
            clear c5
            by_cases c6 : x5_1 < (l1.length : Int)
            · rw [if_pos c6] at H
              have c6b0 : decide (x5_1 < (l1.length : Int)) = true := decide_eq_true c6
              clear c6
              replace H := Option.bind_eq_some_iff.mp H
              obtain ⟨t212, A70, H⟩ := H
              replace H : (if t212 = true then (sluicelaw18_alike.l0 k1 l0 l1 (wrap64 (x5_1 + 1))) else (some false)) = some r := H
              have A7 := Aside0.mk A70
              clear A70
              by_cases c8 : t212 = true
              · subst c8
                have H1 : (sluicelaw18_alike.l0 k1 l0 l1 (wrap64 (x5_1 + 1))) = some r := by rw [if_pos rfl] at H; exact H
                clear H
                have H := H1
                clear H1
                have H' := Aside0.mk H
                clear H
                try go_wp2
                have n0_ := Aside0.mk (below_drew1 HB.out)
                clear HB
                have HB := n0_
                clear n0_
                have p210 : 0 ≤ (x5_1 : Int) := of_decide_eq_true (by first | (with_reducible assumption) | assumption)
                have q210 : x5_1 < (l0.length : Int) := of_decide_eq_true (by first | (with_reducible assumption) | assumption)
                obtain ⟨ad210, A210_10, c210_10, e210, hx210_0, hx210_1, hx210_2, hx210_3, hx210_4, hx210_5, hx210_6, hx210_7, hx210_8, hx210_9, hx210_10, hl210_10, hi210_10⟩ := at_T48 HR0.out x5_1 p210 q210
                have hw210_10 := hx210_10
                have hw210_9 := hx210_9
                have hw210_8 := hx210_8
                have hw210_7 := hx210_7
                have hw210_6 := hx210_6
                have hw210_5 := hx210_5
                have hw210_4 := hx210_4
                have hw210_3 := hx210_3
                have hw210_2 := hx210_2
                have hw210_1 := hx210_1
                have hw210_0 := hx210_0
                cases e210
                replace hx210_0 := (HB.out.cell (World.block_lt_of_cell? w _ hx210_0)).trans hx210_0
                replace hx210_1 := (HB.out.cell (World.block_lt_of_cell? w _ hx210_1)).trans hx210_1
                replace hx210_2 := (HB.out.cell (World.block_lt_of_cell? w _ hx210_2)).trans hx210_2
                replace hx210_3 := (HB.out.cell (World.block_lt_of_cell? w _ hx210_3)).trans hx210_3
                replace hx210_4 := (HB.out.cell (World.block_lt_of_cell? w _ hx210_4)).trans hx210_4
                replace hx210_5 := (HB.out.cell (World.block_lt_of_cell? w _ hx210_5)).trans hx210_5
                replace hx210_6 := (HB.out.cell (World.block_lt_of_cell? w _ hx210_6)).trans hx210_6
                replace hx210_7 := (HB.out.cell (World.block_lt_of_cell? w _ hx210_7)).trans hx210_7
                replace hx210_8 := (HB.out.cell (World.block_lt_of_cell? w _ hx210_8)).trans hx210_8
                replace hx210_9 := (HB.out.cell (World.block_lt_of_cell? w _ hx210_9)).trans hx210_9
                replace hx210_10 := (HB.out.cell (World.block_lt_of_cell? w _ hx210_10)).trans hx210_10
                have HR210_10 := Aside0.mk hi210_10
                have HC210_10 := Aside0.mk hl210_10
                clear hi210_10 hl210_10
                replace p210 := eq_true p210
                replace q210 := eq_true q210
                have p211 : 0 ≤ (x5_1 : Int) := of_decide_eq_true (by first | (with_reducible assumption) | assumption)
                have q211 : x5_1 < (l1.length : Int) := of_decide_eq_true (by first | (with_reducible assumption) | assumption)
                obtain ⟨ad211, A211_10, c211_10, e211, hx211_0, hx211_1, hx211_2, hx211_3, hx211_4, hx211_5, hx211_6, hx211_7, hx211_8, hx211_9, hx211_10, hl211_10, hi211_10⟩ := at_T48 HR1.out x5_1 p211 q211
                have hw211_10 := hx211_10
                have hw211_9 := hx211_9
                have hw211_8 := hx211_8
                have hw211_7 := hx211_7
                have hw211_6 := hx211_6
                have hw211_5 := hx211_5
                have hw211_4 := hx211_4
                have hw211_3 := hx211_3
                have hw211_2 := hx211_2
                have hw211_1 := hx211_1
                have hw211_0 := hx211_0
                cases e211
                replace hx211_0 := (HB.out.cell (World.block_lt_of_cell? w _ hx211_0)).trans hx211_0
                replace hx211_1 := (HB.out.cell (World.block_lt_of_cell? w _ hx211_1)).trans hx211_1
                replace hx211_2 := (HB.out.cell (World.block_lt_of_cell? w _ hx211_2)).trans hx211_2
                replace hx211_3 := (HB.out.cell (World.block_lt_of_cell? w _ hx211_3)).trans hx211_3
                replace hx211_4 := (HB.out.cell (World.block_lt_of_cell? w _ hx211_4)).trans hx211_4
                replace hx211_5 := (HB.out.cell (World.block_lt_of_cell? w _ hx211_5)).trans hx211_5
                replace hx211_6 := (HB.out.cell (World.block_lt_of_cell? w _ hx211_6)).trans hx211_6
                replace hx211_7 := (HB.out.cell (World.block_lt_of_cell? w _ hx211_7)).trans hx211_7
                replace hx211_8 := (HB.out.cell (World.block_lt_of_cell? w _ hx211_8)).trans hx211_8
                replace hx211_9 := (HB.out.cell (World.block_lt_of_cell? w _ hx211_9)).trans hx211_9
                replace hx211_10 := (HB.out.cell (World.block_lt_of_cell? w _ hx211_10)).trans hx211_10
                have HR211_10 := Aside0.mk hi211_10
                have HC211_10 := Aside0.mk hl211_10
                clear hi211_10 hl211_10
                replace p211 := eq_true p211
                replace q211 := eq_true q211
                refine start_ (n := 10) (S := fun w' => w'.cell? (ad210.add ((x5_1).toNat * 11)) = some (.int .i64 ((rd_T48 l0 x5_1).f0)) ∧ w'.cell? ⟨(ad210.add ((x5_1).toNat * 11)).block, (ad210.add ((x5_1).toNat * 11)).off + 1, none⟩ = some (.int .i64 ((rd_T48 l0 x5_1).f1)) ∧ w'.cell? ⟨(ad210.add ((x5_1).toNat * 11)).block, (ad210.add ((x5_1).toNat * 11)).off + 2, none⟩ = some (.int .i64 ((rd_T48 l0 x5_1).f2.f0)) ∧ w'.cell? ⟨(ad210.add ((x5_1).toNat * 11)).block, (ad210.add ((x5_1).toNat * 11)).off + 3, none⟩ = some (.int .i64 ((rd_T48 l0 x5_1).f2.f1)) ∧ w'.cell? ⟨(ad210.add ((x5_1).toNat * 11)).block, (ad210.add ((x5_1).toNat * 11)).off + 4, none⟩ = some (.int .i64 ((rd_T48 l0 x5_1).f3.f0)) ∧ w'.cell? ⟨(ad210.add ((x5_1).toNat * 11)).block, (ad210.add ((x5_1).toNat * 11)).off + 5, none⟩ = some (.string ((rd_T48 l0 x5_1).f3.f1)) ∧ w'.cell? ⟨(ad210.add ((x5_1).toNat * 11)).block, (ad210.add ((x5_1).toNat * 11)).off + 6, none⟩ = some (.int .i64 ((rd_T48 l0 x5_1).f3.f2)) ∧ w'.cell? ⟨(ad210.add ((x5_1).toNat * 11)).block, (ad210.add ((x5_1).toNat * 11)).off + 7, none⟩ = some (.int .i64 ((rd_T48 l0 x5_1).f3.f3)) ∧ w'.cell? ⟨(ad210.add ((x5_1).toNat * 11)).block, (ad210.add ((x5_1).toNat * 11)).off + 8, none⟩ = some (.int .i64 ((rd_T48 l0 x5_1).f4)) ∧ w'.cell? ⟨(ad210.add ((x5_1).toNat * 11)).block, (ad210.add ((x5_1).toNat * 11)).off + 9, none⟩ = some (.int .i64 ((rd_T48 l0 x5_1).f5)) ∧ w'.cell? ⟨(ad210.add ((x5_1).toNat * 11)).block, (ad210.add ((x5_1).toNat * 11)).off + 10, none⟩ = some (.slice A210_10 ((rd_T48 l0 x5_1).f6).length c210_10) ∧ w'.cell? (ad211.add ((x5_1).toNat * 11)) = some (.int .i64 ((rd_T48 l1 x5_1).f0)) ∧ w'.cell? ⟨(ad211.add ((x5_1).toNat * 11)).block, (ad211.add ((x5_1).toNat * 11)).off + 1, none⟩ = some (.int .i64 ((rd_T48 l1 x5_1).f1)) ∧ w'.cell? ⟨(ad211.add ((x5_1).toNat * 11)).block, (ad211.add ((x5_1).toNat * 11)).off + 2, none⟩ = some (.int .i64 ((rd_T48 l1 x5_1).f2.f0)) ∧ w'.cell? ⟨(ad211.add ((x5_1).toNat * 11)).block, (ad211.add ((x5_1).toNat * 11)).off + 3, none⟩ = some (.int .i64 ((rd_T48 l1 x5_1).f2.f1)) ∧ w'.cell? ⟨(ad211.add ((x5_1).toNat * 11)).block, (ad211.add ((x5_1).toNat * 11)).off + 4, none⟩ = some (.int .i64 ((rd_T48 l1 x5_1).f3.f0)) ∧ w'.cell? ⟨(ad211.add ((x5_1).toNat * 11)).block, (ad211.add ((x5_1).toNat * 11)).off + 5, none⟩ = some (.string ((rd_T48 l1 x5_1).f3.f1)) ∧ w'.cell? ⟨(ad211.add ((x5_1).toNat * 11)).block, (ad211.add ((x5_1).toNat * 11)).off + 6, none⟩ = some (.int .i64 ((rd_T48 l1 x5_1).f3.f2)) ∧ w'.cell? ⟨(ad211.add ((x5_1).toNat * 11)).block, (ad211.add ((x5_1).toNat * 11)).off + 7, none⟩ = some (.int .i64 ((rd_T48 l1 x5_1).f3.f3)) ∧ w'.cell? ⟨(ad211.add ((x5_1).toNat * 11)).block, (ad211.add ((x5_1).toNat * 11)).off + 8, none⟩ = some (.int .i64 ((rd_T48 l1 x5_1).f4)) ∧ w'.cell? ⟨(ad211.add ((x5_1).toNat * 11)).block, (ad211.add ((x5_1).toNat * 11)).off + 9, none⟩ = some (.int .i64 ((rd_T48 l1 x5_1).f5)) ∧ w'.cell? ⟨(ad211.add ((x5_1).toNat * 11)).block, (ad211.add ((x5_1).toNat * 11)).off + 10, none⟩ = some (.slice A211_10 ((rd_T48 l1 x5_1).f6).length c211_10)) (ds := []) #[false, false, false, false, false, false, false, false, false, false] (by kernel_rfl) rfl rfl ⟨((HB.out.cell (World.block_lt_of_cell? w _ hw210_0)).trans hw210_0), ((HB.out.cell (World.block_lt_of_cell? w _ hw210_1)).trans hw210_1), ((HB.out.cell (World.block_lt_of_cell? w _ hw210_2)).trans hw210_2), ((HB.out.cell (World.block_lt_of_cell? w _ hw210_3)).trans hw210_3), ((HB.out.cell (World.block_lt_of_cell? w _ hw210_4)).trans hw210_4), ((HB.out.cell (World.block_lt_of_cell? w _ hw210_5)).trans hw210_5), ((HB.out.cell (World.block_lt_of_cell? w _ hw210_6)).trans hw210_6), ((HB.out.cell (World.block_lt_of_cell? w _ hw210_7)).trans hw210_7), ((HB.out.cell (World.block_lt_of_cell? w _ hw210_8)).trans hw210_8), ((HB.out.cell (World.block_lt_of_cell? w _ hw210_9)).trans hw210_9), ((HB.out.cell (World.block_lt_of_cell? w _ hw210_10)).trans hw210_10), ((HB.out.cell (World.block_lt_of_cell? w _ hw211_0)).trans hw211_0), ((HB.out.cell (World.block_lt_of_cell? w _ hw211_1)).trans hw211_1), ((HB.out.cell (World.block_lt_of_cell? w _ hw211_2)).trans hw211_2), ((HB.out.cell (World.block_lt_of_cell? w _ hw211_3)).trans hw211_3), ((HB.out.cell (World.block_lt_of_cell? w _ hw211_4)).trans hw211_4), ((HB.out.cell (World.block_lt_of_cell? w _ hw211_5)).trans hw211_5), ((HB.out.cell (World.block_lt_of_cell? w _ hw211_6)).trans hw211_6), ((HB.out.cell (World.block_lt_of_cell? w _ hw211_7)).trans hw211_7), ((HB.out.cell (World.block_lt_of_cell? w _ hw211_8)).trans hw211_8), ((HB.out.cell (World.block_lt_of_cell? w _ hw211_9)).trans hw211_9), ((HB.out.cell (World.block_lt_of_cell? w _ hw211_10)).trans hw211_10)⟩ (fun hHeld => ?_); refine with_tabW sluicelaw18_alike.tab6 sluicelaw18_alike.bits6 (fun HT_ HW_ => ?_)
                generalize wr.drew = w9 at HB HR210_10 HR211_10 hx210_0 hx210_1 hx210_10 hx210_2 hx210_3 hx210_4 hx210_5 hx210_6 hx210_7 hx210_8 hx210_9 hx211_0 hx211_1 hx211_10 hx211_2 hx211_3 hx211_4 hx211_5 hx211_6 hx211_7 hx211_8 hx211_9 hHeld ⊢
                refine pure_ (i := 0) (N := some 18) (v := ?_) (a' := ?_) #[true, false, false, false, false, false, false, false, false, false] rfl rfl (any_of HT_.out (by kernel_rfl)) (fun _ _ _ h => h) (Or.inl ⟨by rfl, ?_⟩) ?_ ?_
                rotate_left
                · intro w'
                  go_simp
                  with_reducible rfl
                rotate_left
                · simp only [Act.put, List.setIfInBounds_toArray, List.set_cons_zero, List.set_cons_succ, i64_w, i32_w]
                  rfl
                refine pure_ (i := 1) (N := some 19) (v := ?_) (a' := ?_) #[true, true, false, false, false, false, false, false, false, false] rfl rfl (any_of HT_.out (by kernel_rfl)) (fun _ _ _ h => h) (Or.inl ⟨by rfl, ?_⟩) ?_ ?_
                rotate_left
                · intro w'
                  go_simp
                  with_reducible rfl
                rotate_left
                · simp only [Act.put, List.setIfInBounds_toArray, List.set_cons_zero, List.set_cons_succ, i64_w, i32_w]
                  rfl
                refine pure_ (i := 2) (N := some 20) (v := ?_) (a' := ?_) #[true, true, true, false, false, false, false, false, false, false] rfl rfl (any_of HT_.out (by kernel_rfl)) (fun _ _ _ h => h) (Or.inl ⟨by rfl, ?_⟩) ?_ ?_
                rotate_left
                · intro w'
                  go_simp
                  with_reducible rfl
                rotate_left
                · simp only [Act.put, List.setIfInBounds_toArray, List.set_cons_zero, List.set_cons_succ, i64_w, i32_w]
                  rfl
                refine pure_ (i := 4) (N := some 22) (v := ?_) (a' := ?_) #[true, true, true, false, true, false, false, false, false, false] rfl rfl (any_of HT_.out (by kernel_rfl)) (fun _ _ _ h => h) (Or.inl ⟨by rfl, ?_⟩) ?_ ?_
                rotate_left
                · intro w'
                  go_simp
                  with_reducible rfl
                rotate_left
                · simp only [Act.put, List.setIfInBounds_toArray, List.set_cons_zero, List.set_cons_succ, i64_w, i32_w]
                  rfl
                refine pure_ (i := 5) (N := some 23) (v := ?_) (a' := ?_) #[true, true, true, false, true, true, false, false, false, false] rfl rfl (any_of HT_.out (by kernel_rfl)) (fun _ _ _ h => h) (Or.inl ⟨by rfl, ?_⟩) ?_ ?_
                rotate_left
                · intro w'
                  go_simp
                  with_reducible rfl
                rotate_left
                · simp only [Act.put, List.setIfInBounds_toArray, List.set_cons_zero, List.set_cons_succ, i64_w, i32_w]
                  rfl
                refine pure_ (i := 6) (N := some 24) (v := ?_) (a' := ?_) #[true, true, true, false, true, true, true, false, false, false] rfl rfl (any_of HT_.out (by kernel_rfl)) (fun _ _ _ h => h) (Or.inl ⟨by rfl, ?_⟩) ?_ ?_
                rotate_left
                · intro w'
                  go_simp
                  with_reducible rfl
                rotate_left
                · simp only [Act.put, List.setIfInBounds_toArray, List.set_cons_zero, List.set_cons_succ, i64_w, i32_w]
                  rfl
                refine take_ (i := 3) (N := some 21) (v := ?_) (a' := ?_) #[true, true, true, true, true, true, true, false, false, false] rfl rfl (take_ofW HT_.out HW_.out (by kernel_rfl)) (fun _ _ _ h => h) (Or.inl ⟨by rfl, ?_⟩) hHeld ?_ ?_
                rotate_left
                · rintro w' ⟨s0, s1, s2, s3, s4, s5, s6, s7, s8, s9, s10, s11, s12, s13, s14, s15, s16, s17, s18, s19, s20, s21⟩
                  go_simp
                  with_reducible rfl
                rotate_left
                · simp only [Act.put, List.setIfInBounds_toArray, List.set_cons_zero, List.set_cons_succ, i64_w, i32_w]
                  rfl
                refine take_ (i := 7) (N := some 25) (v := ?_) (a' := ?_) #[true, true, true, true, true, true, true, true, false, false] rfl rfl (take_ofW HT_.out HW_.out (by kernel_rfl)) (fun _ _ _ h => h) (Or.inl ⟨by rfl, ?_⟩) hHeld ?_ ?_
                rotate_left
                · rintro w' ⟨s0, s1, s2, s3, s4, s5, s6, s7, s8, s9, s10, s11, s12, s13, s14, s15, s16, s17, s18, s19, s20, s21⟩
                  go_simp
                  with_reducible rfl
                rotate_left
                · simp only [Act.put, List.setIfInBounds_toArray, List.set_cons_zero, List.set_cons_succ, i64_w, i32_w]
                  rfl
                refine one_ (i := 8) (N := some 26) #[true, true, true, true, true, true, true, true, true, false] rfl rfl (one_of HT_.out (by kernel_rfl)) (by decide) (fun K hK => ?_)
                refine goes_ Tryd.func40 (by kernel_rfl) rfl #[.agg #[.int .i64 ((rd_T48 l0 x5_1).f0), .int .i64 ((rd_T48 l0 x5_1).f1), .int .i64 ((rd_T48 l0 x5_1).f2.f0), .int .i64 ((rd_T48 l0 x5_1).f2.f1), .int .i64 ((rd_T48 l0 x5_1).f3.f0), .string ((rd_T48 l0 x5_1).f3.f1), .int .i64 ((rd_T48 l0 x5_1).f3.f2), .int .i64 ((rd_T48 l0 x5_1).f3.f3), .int .i64 ((rd_T48 l0 x5_1).f4), .int .i64 ((rd_T48 l0 x5_1).f5), .slice A210_10 ((rd_T48 l0 x5_1).f6).length c210_10], .agg #[.int .i64 ((rd_T48 l1 x5_1).f0), .int .i64 ((rd_T48 l1 x5_1).f1), .int .i64 ((rd_T48 l1 x5_1).f2.f0), .int .i64 ((rd_T48 l1 x5_1).f2.f1), .int .i64 ((rd_T48 l1 x5_1).f3.f0), .string ((rd_T48 l1 x5_1).f3.f1), .int .i64 ((rd_T48 l1 x5_1).f3.f2), .int .i64 ((rd_T48 l1 x5_1).f3.f3), .int .i64 ((rd_T48 l1 x5_1).f4), .int .i64 ((rd_T48 l1 x5_1).f5), .slice A211_10 ((rd_T48 l1 x5_1).f6).length c211_10]] (by rfl) rfl rfl (by (try simp only [List.map_toArray, List.map_cons, List.map_nil]); first | done | rfl | (simp only [List.length_drop, List.length_take]; rfl)) ?_
                with_reducible refine (sluicelaw18_same.calls ((rd_T48 l0 x5_1).f0) ((rd_T48 l0 x5_1).f1) ((rd_T48 l0 x5_1).f2.f0) ((rd_T48 l0 x5_1).f2.f1) ((rd_T48 l0 x5_1).f3.f0) ((rd_T48 l0 x5_1).f3.f1) ((rd_T48 l0 x5_1).f3.f2) ((rd_T48 l0 x5_1).f3.f3) ((rd_T48 l0 x5_1).f4) ((rd_T48 l0 x5_1).f5) _ _ ((rd_T48 l0 x5_1).f6) ((rd_T48 l1 x5_1).f0) ((rd_T48 l1 x5_1).f1) ((rd_T48 l1 x5_1).f2.f0) ((rd_T48 l1 x5_1).f2.f1) ((rd_T48 l1 x5_1).f3.f0) ((rd_T48 l1 x5_1).f3.f1) ((rd_T48 l1 x5_1).f3.f2) ((rd_T48 l1 x5_1).f3.f3) ((rd_T48 l1 x5_1).f4) ((rd_T48 l1 x5_1).f5) _ _ ((rd_T48 l1 x5_1).f6) true _ ?side1 ?side2 ?side3 ?side4 A7.out).mono ?_
                (case side1 => repeat (first | exact (Kd.C_below HR210_10.out HB.out) | (with_reducible refine Kd.C_alloc ?_ _) | (with_reducible refine Kd.C_drewN ?_ _) | (with_reducible refine Kd.C_drew ?_)))
                (case side2 => exact HC210_10.out)
                (case side3 => repeat (first | exact (Kd.C_below HR211_10.out HB.out) | (with_reducible refine Kd.C_alloc ?_ _) | (with_reducible refine Kd.C_drewN ?_ _) | (with_reducible refine Kd.C_drew ?_)))
                (case side4 => exact HC211_10.out)
                rintro e w10 ⟨rfl, hb⟩
                refine ⟨_, rfl, ?_⟩
                have n0_ := Aside0.mk (below_step (by repeat (first | (with_reducible first | exact HB.out | apply below_alloc | apply pw_below_drewN | apply below_drew1) | exact HB.out)) hb)
                clear HB
                have HB := n0_
                clear n0_
                (try clear hb)
                (try clear hb2)
                (try clear hk)
                (try clear hi)
                refine hK.out _ _ ⟨((HB.out.cell (World.block_lt_of_cell? w _ hw210_0)).trans hw210_0), ((HB.out.cell (World.block_lt_of_cell? w _ hw210_1)).trans hw210_1), ((HB.out.cell (World.block_lt_of_cell? w _ hw210_2)).trans hw210_2), ((HB.out.cell (World.block_lt_of_cell? w _ hw210_3)).trans hw210_3), ((HB.out.cell (World.block_lt_of_cell? w _ hw210_4)).trans hw210_4), ((HB.out.cell (World.block_lt_of_cell? w _ hw210_5)).trans hw210_5), ((HB.out.cell (World.block_lt_of_cell? w _ hw210_6)).trans hw210_6), ((HB.out.cell (World.block_lt_of_cell? w _ hw210_7)).trans hw210_7), ((HB.out.cell (World.block_lt_of_cell? w _ hw210_8)).trans hw210_8), ((HB.out.cell (World.block_lt_of_cell? w _ hw210_9)).trans hw210_9), ((HB.out.cell (World.block_lt_of_cell? w _ hw210_10)).trans hw210_10), ((HB.out.cell (World.block_lt_of_cell? w _ hw211_0)).trans hw211_0), ((HB.out.cell (World.block_lt_of_cell? w _ hw211_1)).trans hw211_1), ((HB.out.cell (World.block_lt_of_cell? w _ hw211_2)).trans hw211_2), ((HB.out.cell (World.block_lt_of_cell? w _ hw211_3)).trans hw211_3), ((HB.out.cell (World.block_lt_of_cell? w _ hw211_4)).trans hw211_4), ((HB.out.cell (World.block_lt_of_cell? w _ hw211_5)).trans hw211_5), ((HB.out.cell (World.block_lt_of_cell? w _ hw211_6)).trans hw211_6), ((HB.out.cell (World.block_lt_of_cell? w _ hw211_7)).trans hw211_7), ((HB.out.cell (World.block_lt_of_cell? w _ hw211_8)).trans hw211_8), ((HB.out.cell (World.block_lt_of_cell? w _ hw211_9)).trans hw211_9), ((HB.out.cell (World.block_lt_of_cell? w _ hw211_10)).trans hw211_10)⟩ (fun hHeld => ?_)
                clear hK K
                refine norm_ (a' := ?_) ?_ ?_
                rotate_left
                · show Act.put _ (some 26) _ = _
                  simp only [Act.put, List.setIfInBounds_toArray, List.set_cons_zero, List.set_cons_succ, i64_w, i32_w]
                  rfl
                refine pure_ (i := 9) (N := some 6) (v := ?_) (a' := ?_) #[true, true, true, true, true, true, true, true, true, true] rfl rfl (any_of HT_.out (by kernel_rfl)) (fun _ _ _ h => h) (Or.inl ⟨by rfl, ?_⟩) ?_ ?_
                rotate_left
                · intro w'
                  go_simp
                  with_reducible rfl
                rotate_left
                · simp only [Act.put, List.setIfInBounds_toArray, List.set_cons_zero, List.set_cons_succ, i64_w, i32_w]
                  rfl
                refine done_ (done_of HT_.out (by kernel_rfl)) ?_
                try go_wp2
                go_roundg k1
                case measure => have := HK1.out; omega
                case rel => exact ⟨(wrap64 (x5_1 + 1)), (by first | rfl | (simp; done) | (simp [*]; done)), H', ⟨by have := HK1.out; omega⟩, ⟨by repeat (first | (with_reducible first | exact HB.out | apply below_alloc | apply pw_below_drewN | apply below_drew1) | exact HB.out)⟩⟩
              · replace c8 := Bool.eq_false_iff.mpr c8
                subst c8
                have H1 : (some false) = some r := by rw [if_neg (show ¬ (false = true) by decide)] at H; exact H
                clear H
                have H := H1
                clear H1
                obtain rfl := Option.some.inj H
                try go_wp2
                have n0_ := Aside0.mk (below_drew1 HB.out)
                clear HB
                have HB := n0_
                clear n0_
                have p210 : 0 ≤ (x5_1 : Int) := of_decide_eq_true (by first | (with_reducible assumption) | assumption)
                have q210 : x5_1 < (l0.length : Int) := of_decide_eq_true (by first | (with_reducible assumption) | assumption)
                obtain ⟨ad210, A210_10, c210_10, e210, hx210_0, hx210_1, hx210_2, hx210_3, hx210_4, hx210_5, hx210_6, hx210_7, hx210_8, hx210_9, hx210_10, hl210_10, hi210_10⟩ := at_T48 HR0.out x5_1 p210 q210
                have hw210_10 := hx210_10
                have hw210_9 := hx210_9
                have hw210_8 := hx210_8
                have hw210_7 := hx210_7
                have hw210_6 := hx210_6
                have hw210_5 := hx210_5
                have hw210_4 := hx210_4
                have hw210_3 := hx210_3
                have hw210_2 := hx210_2
                have hw210_1 := hx210_1
                have hw210_0 := hx210_0
                cases e210
                replace hx210_0 := (HB.out.cell (World.block_lt_of_cell? w _ hx210_0)).trans hx210_0
                replace hx210_1 := (HB.out.cell (World.block_lt_of_cell? w _ hx210_1)).trans hx210_1
                replace hx210_2 := (HB.out.cell (World.block_lt_of_cell? w _ hx210_2)).trans hx210_2
                replace hx210_3 := (HB.out.cell (World.block_lt_of_cell? w _ hx210_3)).trans hx210_3
                replace hx210_4 := (HB.out.cell (World.block_lt_of_cell? w _ hx210_4)).trans hx210_4
                replace hx210_5 := (HB.out.cell (World.block_lt_of_cell? w _ hx210_5)).trans hx210_5
                replace hx210_6 := (HB.out.cell (World.block_lt_of_cell? w _ hx210_6)).trans hx210_6
                replace hx210_7 := (HB.out.cell (World.block_lt_of_cell? w _ hx210_7)).trans hx210_7
                replace hx210_8 := (HB.out.cell (World.block_lt_of_cell? w _ hx210_8)).trans hx210_8
                replace hx210_9 := (HB.out.cell (World.block_lt_of_cell? w _ hx210_9)).trans hx210_9
                replace hx210_10 := (HB.out.cell (World.block_lt_of_cell? w _ hx210_10)).trans hx210_10
                have HR210_10 := Aside0.mk hi210_10
                have HC210_10 := Aside0.mk hl210_10
                clear hi210_10 hl210_10
                replace p210 := eq_true p210
                replace q210 := eq_true q210
                have p211 : 0 ≤ (x5_1 : Int) := of_decide_eq_true (by first | (with_reducible assumption) | assumption)
                have q211 : x5_1 < (l1.length : Int) := of_decide_eq_true (by first | (with_reducible assumption) | assumption)
                obtain ⟨ad211, A211_10, c211_10, e211, hx211_0, hx211_1, hx211_2, hx211_3, hx211_4, hx211_5, hx211_6, hx211_7, hx211_8, hx211_9, hx211_10, hl211_10, hi211_10⟩ := at_T48 HR1.out x5_1 p211 q211
                have hw211_10 := hx211_10
                have hw211_9 := hx211_9
                have hw211_8 := hx211_8
                have hw211_7 := hx211_7
                have hw211_6 := hx211_6
                have hw211_5 := hx211_5
                have hw211_4 := hx211_4
                have hw211_3 := hx211_3
                have hw211_2 := hx211_2
                have hw211_1 := hx211_1
                have hw211_0 := hx211_0
                cases e211
                replace hx211_0 := (HB.out.cell (World.block_lt_of_cell? w _ hx211_0)).trans hx211_0
                replace hx211_1 := (HB.out.cell (World.block_lt_of_cell? w _ hx211_1)).trans hx211_1
                replace hx211_2 := (HB.out.cell (World.block_lt_of_cell? w _ hx211_2)).trans hx211_2
                replace hx211_3 := (HB.out.cell (World.block_lt_of_cell? w _ hx211_3)).trans hx211_3
                replace hx211_4 := (HB.out.cell (World.block_lt_of_cell? w _ hx211_4)).trans hx211_4
                replace hx211_5 := (HB.out.cell (World.block_lt_of_cell? w _ hx211_5)).trans hx211_5
                replace hx211_6 := (HB.out.cell (World.block_lt_of_cell? w _ hx211_6)).trans hx211_6
                replace hx211_7 := (HB.out.cell (World.block_lt_of_cell? w _ hx211_7)).trans hx211_7
                replace hx211_8 := (HB.out.cell (World.block_lt_of_cell? w _ hx211_8)).trans hx211_8
                replace hx211_9 := (HB.out.cell (World.block_lt_of_cell? w _ hx211_9)).trans hx211_9
                replace hx211_10 := (HB.out.cell (World.block_lt_of_cell? w _ hx211_10)).trans hx211_10
                have HR211_10 := Aside0.mk hi211_10
                have HC211_10 := Aside0.mk hl211_10
                clear hi211_10 hl211_10
                replace p211 := eq_true p211
                replace q211 := eq_true q211
                refine start_ (n := 10) (S := fun w' => w'.cell? (ad210.add ((x5_1).toNat * 11)) = some (.int .i64 ((rd_T48 l0 x5_1).f0)) ∧ w'.cell? ⟨(ad210.add ((x5_1).toNat * 11)).block, (ad210.add ((x5_1).toNat * 11)).off + 1, none⟩ = some (.int .i64 ((rd_T48 l0 x5_1).f1)) ∧ w'.cell? ⟨(ad210.add ((x5_1).toNat * 11)).block, (ad210.add ((x5_1).toNat * 11)).off + 2, none⟩ = some (.int .i64 ((rd_T48 l0 x5_1).f2.f0)) ∧ w'.cell? ⟨(ad210.add ((x5_1).toNat * 11)).block, (ad210.add ((x5_1).toNat * 11)).off + 3, none⟩ = some (.int .i64 ((rd_T48 l0 x5_1).f2.f1)) ∧ w'.cell? ⟨(ad210.add ((x5_1).toNat * 11)).block, (ad210.add ((x5_1).toNat * 11)).off + 4, none⟩ = some (.int .i64 ((rd_T48 l0 x5_1).f3.f0)) ∧ w'.cell? ⟨(ad210.add ((x5_1).toNat * 11)).block, (ad210.add ((x5_1).toNat * 11)).off + 5, none⟩ = some (.string ((rd_T48 l0 x5_1).f3.f1)) ∧ w'.cell? ⟨(ad210.add ((x5_1).toNat * 11)).block, (ad210.add ((x5_1).toNat * 11)).off + 6, none⟩ = some (.int .i64 ((rd_T48 l0 x5_1).f3.f2)) ∧ w'.cell? ⟨(ad210.add ((x5_1).toNat * 11)).block, (ad210.add ((x5_1).toNat * 11)).off + 7, none⟩ = some (.int .i64 ((rd_T48 l0 x5_1).f3.f3)) ∧ w'.cell? ⟨(ad210.add ((x5_1).toNat * 11)).block, (ad210.add ((x5_1).toNat * 11)).off + 8, none⟩ = some (.int .i64 ((rd_T48 l0 x5_1).f4)) ∧ w'.cell? ⟨(ad210.add ((x5_1).toNat * 11)).block, (ad210.add ((x5_1).toNat * 11)).off + 9, none⟩ = some (.int .i64 ((rd_T48 l0 x5_1).f5)) ∧ w'.cell? ⟨(ad210.add ((x5_1).toNat * 11)).block, (ad210.add ((x5_1).toNat * 11)).off + 10, none⟩ = some (.slice A210_10 ((rd_T48 l0 x5_1).f6).length c210_10) ∧ w'.cell? (ad211.add ((x5_1).toNat * 11)) = some (.int .i64 ((rd_T48 l1 x5_1).f0)) ∧ w'.cell? ⟨(ad211.add ((x5_1).toNat * 11)).block, (ad211.add ((x5_1).toNat * 11)).off + 1, none⟩ = some (.int .i64 ((rd_T48 l1 x5_1).f1)) ∧ w'.cell? ⟨(ad211.add ((x5_1).toNat * 11)).block, (ad211.add ((x5_1).toNat * 11)).off + 2, none⟩ = some (.int .i64 ((rd_T48 l1 x5_1).f2.f0)) ∧ w'.cell? ⟨(ad211.add ((x5_1).toNat * 11)).block, (ad211.add ((x5_1).toNat * 11)).off + 3, none⟩ = some (.int .i64 ((rd_T48 l1 x5_1).f2.f1)) ∧ w'.cell? ⟨(ad211.add ((x5_1).toNat * 11)).block, (ad211.add ((x5_1).toNat * 11)).off + 4, none⟩ = some (.int .i64 ((rd_T48 l1 x5_1).f3.f0)) ∧ w'.cell? ⟨(ad211.add ((x5_1).toNat * 11)).block, (ad211.add ((x5_1).toNat * 11)).off + 5, none⟩ = some (.string ((rd_T48 l1 x5_1).f3.f1)) ∧ w'.cell? ⟨(ad211.add ((x5_1).toNat * 11)).block, (ad211.add ((x5_1).toNat * 11)).off + 6, none⟩ = some (.int .i64 ((rd_T48 l1 x5_1).f3.f2)) ∧ w'.cell? ⟨(ad211.add ((x5_1).toNat * 11)).block, (ad211.add ((x5_1).toNat * 11)).off + 7, none⟩ = some (.int .i64 ((rd_T48 l1 x5_1).f3.f3)) ∧ w'.cell? ⟨(ad211.add ((x5_1).toNat * 11)).block, (ad211.add ((x5_1).toNat * 11)).off + 8, none⟩ = some (.int .i64 ((rd_T48 l1 x5_1).f4)) ∧ w'.cell? ⟨(ad211.add ((x5_1).toNat * 11)).block, (ad211.add ((x5_1).toNat * 11)).off + 9, none⟩ = some (.int .i64 ((rd_T48 l1 x5_1).f5)) ∧ w'.cell? ⟨(ad211.add ((x5_1).toNat * 11)).block, (ad211.add ((x5_1).toNat * 11)).off + 10, none⟩ = some (.slice A211_10 ((rd_T48 l1 x5_1).f6).length c211_10)) (ds := []) #[false, false, false, false, false, false, false, false, false, false] (by kernel_rfl) rfl rfl ⟨((HB.out.cell (World.block_lt_of_cell? w _ hw210_0)).trans hw210_0), ((HB.out.cell (World.block_lt_of_cell? w _ hw210_1)).trans hw210_1), ((HB.out.cell (World.block_lt_of_cell? w _ hw210_2)).trans hw210_2), ((HB.out.cell (World.block_lt_of_cell? w _ hw210_3)).trans hw210_3), ((HB.out.cell (World.block_lt_of_cell? w _ hw210_4)).trans hw210_4), ((HB.out.cell (World.block_lt_of_cell? w _ hw210_5)).trans hw210_5), ((HB.out.cell (World.block_lt_of_cell? w _ hw210_6)).trans hw210_6), ((HB.out.cell (World.block_lt_of_cell? w _ hw210_7)).trans hw210_7), ((HB.out.cell (World.block_lt_of_cell? w _ hw210_8)).trans hw210_8), ((HB.out.cell (World.block_lt_of_cell? w _ hw210_9)).trans hw210_9), ((HB.out.cell (World.block_lt_of_cell? w _ hw210_10)).trans hw210_10), ((HB.out.cell (World.block_lt_of_cell? w _ hw211_0)).trans hw211_0), ((HB.out.cell (World.block_lt_of_cell? w _ hw211_1)).trans hw211_1), ((HB.out.cell (World.block_lt_of_cell? w _ hw211_2)).trans hw211_2), ((HB.out.cell (World.block_lt_of_cell? w _ hw211_3)).trans hw211_3), ((HB.out.cell (World.block_lt_of_cell? w _ hw211_4)).trans hw211_4), ((HB.out.cell (World.block_lt_of_cell? w _ hw211_5)).trans hw211_5), ((HB.out.cell (World.block_lt_of_cell? w _ hw211_6)).trans hw211_6), ((HB.out.cell (World.block_lt_of_cell? w _ hw211_7)).trans hw211_7), ((HB.out.cell (World.block_lt_of_cell? w _ hw211_8)).trans hw211_8), ((HB.out.cell (World.block_lt_of_cell? w _ hw211_9)).trans hw211_9), ((HB.out.cell (World.block_lt_of_cell? w _ hw211_10)).trans hw211_10)⟩ (fun hHeld => ?_); refine with_tabW sluicelaw18_alike.tab6 sluicelaw18_alike.bits6 (fun HT_ HW_ => ?_)
                generalize wr.drew = w11 at HB HR210_10 HR211_10 hx210_0 hx210_1 hx210_10 hx210_2 hx210_3 hx210_4 hx210_5 hx210_6 hx210_7 hx210_8 hx210_9 hx211_0 hx211_1 hx211_10 hx211_2 hx211_3 hx211_4 hx211_5 hx211_6 hx211_7 hx211_8 hx211_9 hHeld ⊢
                refine pure_ (i := 0) (N := some 18) (v := ?_) (a' := ?_) #[true, false, false, false, false, false, false, false, false, false] rfl rfl (any_of HT_.out (by kernel_rfl)) (fun _ _ _ h => h) (Or.inl ⟨by rfl, ?_⟩) ?_ ?_
                rotate_left
                · intro w'
                  go_simp
                  with_reducible rfl
                rotate_left
                · simp only [Act.put, List.setIfInBounds_toArray, List.set_cons_zero, List.set_cons_succ, i64_w, i32_w]
                  rfl
                refine pure_ (i := 1) (N := some 19) (v := ?_) (a' := ?_) #[true, true, false, false, false, false, false, false, false, false] rfl rfl (any_of HT_.out (by kernel_rfl)) (fun _ _ _ h => h) (Or.inl ⟨by rfl, ?_⟩) ?_ ?_
                rotate_left
                · intro w'
                  go_simp
                  with_reducible rfl
                rotate_left
                · simp only [Act.put, List.setIfInBounds_toArray, List.set_cons_zero, List.set_cons_succ, i64_w, i32_w]
                  rfl
                refine pure_ (i := 2) (N := some 20) (v := ?_) (a' := ?_) #[true, true, true, false, false, false, false, false, false, false] rfl rfl (any_of HT_.out (by kernel_rfl)) (fun _ _ _ h => h) (Or.inl ⟨by rfl, ?_⟩) ?_ ?_
                rotate_left
                · intro w'
                  go_simp
                  with_reducible rfl
                rotate_left
                · simp only [Act.put, List.setIfInBounds_toArray, List.set_cons_zero, List.set_cons_succ, i64_w, i32_w]
                  rfl
                refine pure_ (i := 4) (N := some 22) (v := ?_) (a' := ?_) #[true, true, true, false, true, false, false, false, false, false] rfl rfl (any_of HT_.out (by kernel_rfl)) (fun _ _ _ h => h) (Or.inl ⟨by rfl, ?_⟩) ?_ ?_
                rotate_left
                · intro w'
                  go_simp
                  with_reducible rfl
                rotate_left
                · simp only [Act.put, List.setIfInBounds_toArray, List.set_cons_zero, List.set_cons_succ, i64_w, i32_w]
                  rfl
                refine pure_ (i := 5) (N := some 23) (v := ?_) (a' := ?_) #[true, true, true, false, true, true, false, false, false, false] rfl rfl (any_of HT_.out (by kernel_rfl)) (fun _ _ _ h => h) (Or.inl ⟨by rfl, ?_⟩) ?_ ?_
                rotate_left
                · intro w'
                  go_simp
                  with_reducible rfl
                rotate_left
                · simp only [Act.put, List.setIfInBounds_toArray, List.set_cons_zero, List.set_cons_succ, i64_w, i32_w]
                  rfl
                refine pure_ (i := 6) (N := some 24) (v := ?_) (a' := ?_) #[true, true, true, false, true, true, true, false, false, false] rfl rfl (any_of HT_.out (by kernel_rfl)) (fun _ _ _ h => h) (Or.inl ⟨by rfl, ?_⟩) ?_ ?_
                rotate_left
                · intro w'
                  go_simp
                  with_reducible rfl
                rotate_left
                · simp only [Act.put, List.setIfInBounds_toArray, List.set_cons_zero, List.set_cons_succ, i64_w, i32_w]
                  rfl
                refine take_ (i := 3) (N := some 21) (v := ?_) (a' := ?_) #[true, true, true, true, true, true, true, false, false, false] rfl rfl (take_ofW HT_.out HW_.out (by kernel_rfl)) (fun _ _ _ h => h) (Or.inl ⟨by rfl, ?_⟩) hHeld ?_ ?_
                rotate_left
                · rintro w' ⟨s0, s1, s2, s3, s4, s5, s6, s7, s8, s9, s10, s11, s12, s13, s14, s15, s16, s17, s18, s19, s20, s21⟩
                  go_simp
                  with_reducible rfl
                rotate_left
                · simp only [Act.put, List.setIfInBounds_toArray, List.set_cons_zero, List.set_cons_succ, i64_w, i32_w]
                  rfl
                refine take_ (i := 7) (N := some 25) (v := ?_) (a' := ?_) #[true, true, true, true, true, true, true, true, false, false] rfl rfl (take_ofW HT_.out HW_.out (by kernel_rfl)) (fun _ _ _ h => h) (Or.inl ⟨by rfl, ?_⟩) hHeld ?_ ?_
                rotate_left
                · rintro w' ⟨s0, s1, s2, s3, s4, s5, s6, s7, s8, s9, s10, s11, s12, s13, s14, s15, s16, s17, s18, s19, s20, s21⟩
                  go_simp
                  with_reducible rfl
                rotate_left
                · simp only [Act.put, List.setIfInBounds_toArray, List.set_cons_zero, List.set_cons_succ, i64_w, i32_w]
                  rfl
                refine one_ (i := 8) (N := some 26) #[true, true, true, true, true, true, true, true, true, false] rfl rfl (one_of HT_.out (by kernel_rfl)) (by decide) (fun K hK => ?_)
                refine goes_ Tryd.func40 (by kernel_rfl) rfl #[.agg #[.int .i64 ((rd_T48 l0 x5_1).f0), .int .i64 ((rd_T48 l0 x5_1).f1), .int .i64 ((rd_T48 l0 x5_1).f2.f0), .int .i64 ((rd_T48 l0 x5_1).f2.f1), .int .i64 ((rd_T48 l0 x5_1).f3.f0), .string ((rd_T48 l0 x5_1).f3.f1), .int .i64 ((rd_T48 l0 x5_1).f3.f2), .int .i64 ((rd_T48 l0 x5_1).f3.f3), .int .i64 ((rd_T48 l0 x5_1).f4), .int .i64 ((rd_T48 l0 x5_1).f5), .slice A210_10 ((rd_T48 l0 x5_1).f6).length c210_10], .agg #[.int .i64 ((rd_T48 l1 x5_1).f0), .int .i64 ((rd_T48 l1 x5_1).f1), .int .i64 ((rd_T48 l1 x5_1).f2.f0), .int .i64 ((rd_T48 l1 x5_1).f2.f1), .int .i64 ((rd_T48 l1 x5_1).f3.f0), .string ((rd_T48 l1 x5_1).f3.f1), .int .i64 ((rd_T48 l1 x5_1).f3.f2), .int .i64 ((rd_T48 l1 x5_1).f3.f3), .int .i64 ((rd_T48 l1 x5_1).f4), .int .i64 ((rd_T48 l1 x5_1).f5), .slice A211_10 ((rd_T48 l1 x5_1).f6).length c211_10]] (by rfl) rfl rfl (by (try simp only [List.map_toArray, List.map_cons, List.map_nil]); first | done | rfl | (simp only [List.length_drop, List.length_take]; rfl)) ?_
                with_reducible refine (sluicelaw18_same.calls ((rd_T48 l0 x5_1).f0) ((rd_T48 l0 x5_1).f1) ((rd_T48 l0 x5_1).f2.f0) ((rd_T48 l0 x5_1).f2.f1) ((rd_T48 l0 x5_1).f3.f0) ((rd_T48 l0 x5_1).f3.f1) ((rd_T48 l0 x5_1).f3.f2) ((rd_T48 l0 x5_1).f3.f3) ((rd_T48 l0 x5_1).f4) ((rd_T48 l0 x5_1).f5) _ _ ((rd_T48 l0 x5_1).f6) ((rd_T48 l1 x5_1).f0) ((rd_T48 l1 x5_1).f1) ((rd_T48 l1 x5_1).f2.f0) ((rd_T48 l1 x5_1).f2.f1) ((rd_T48 l1 x5_1).f3.f0) ((rd_T48 l1 x5_1).f3.f1) ((rd_T48 l1 x5_1).f3.f2) ((rd_T48 l1 x5_1).f3.f3) ((rd_T48 l1 x5_1).f4) ((rd_T48 l1 x5_1).f5) _ _ ((rd_T48 l1 x5_1).f6) false _ ?side1 ?side2 ?side3 ?side4 A7.out).mono ?_
                (case side1 => repeat (first | exact (Kd.C_below HR210_10.out HB.out) | (with_reducible refine Kd.C_alloc ?_ _) | (with_reducible refine Kd.C_drewN ?_ _) | (with_reducible refine Kd.C_drew ?_)))
                (case side2 => exact HC210_10.out)
                (case side3 => repeat (first | exact (Kd.C_below HR211_10.out HB.out) | (with_reducible refine Kd.C_alloc ?_ _) | (with_reducible refine Kd.C_drewN ?_ _) | (with_reducible refine Kd.C_drew ?_)))
                (case side4 => exact HC211_10.out)
                rintro e w12 ⟨rfl, hb⟩
                refine ⟨_, rfl, ?_⟩
                have n0_ := Aside0.mk (below_step (by repeat (first | (with_reducible first | exact HB.out | apply below_alloc | apply pw_below_drewN | apply below_drew1) | exact HB.out)) hb)
                clear HB
                have HB := n0_
                clear n0_
                (try clear hb)
                (try clear hb2)
                (try clear hk)
                (try clear hi)
                refine hK.out _ _ ⟨((HB.out.cell (World.block_lt_of_cell? w _ hw210_0)).trans hw210_0), ((HB.out.cell (World.block_lt_of_cell? w _ hw210_1)).trans hw210_1), ((HB.out.cell (World.block_lt_of_cell? w _ hw210_2)).trans hw210_2), ((HB.out.cell (World.block_lt_of_cell? w _ hw210_3)).trans hw210_3), ((HB.out.cell (World.block_lt_of_cell? w _ hw210_4)).trans hw210_4), ((HB.out.cell (World.block_lt_of_cell? w _ hw210_5)).trans hw210_5), ((HB.out.cell (World.block_lt_of_cell? w _ hw210_6)).trans hw210_6), ((HB.out.cell (World.block_lt_of_cell? w _ hw210_7)).trans hw210_7), ((HB.out.cell (World.block_lt_of_cell? w _ hw210_8)).trans hw210_8), ((HB.out.cell (World.block_lt_of_cell? w _ hw210_9)).trans hw210_9), ((HB.out.cell (World.block_lt_of_cell? w _ hw210_10)).trans hw210_10), ((HB.out.cell (World.block_lt_of_cell? w _ hw211_0)).trans hw211_0), ((HB.out.cell (World.block_lt_of_cell? w _ hw211_1)).trans hw211_1), ((HB.out.cell (World.block_lt_of_cell? w _ hw211_2)).trans hw211_2), ((HB.out.cell (World.block_lt_of_cell? w _ hw211_3)).trans hw211_3), ((HB.out.cell (World.block_lt_of_cell? w _ hw211_4)).trans hw211_4), ((HB.out.cell (World.block_lt_of_cell? w _ hw211_5)).trans hw211_5), ((HB.out.cell (World.block_lt_of_cell? w _ hw211_6)).trans hw211_6), ((HB.out.cell (World.block_lt_of_cell? w _ hw211_7)).trans hw211_7), ((HB.out.cell (World.block_lt_of_cell? w _ hw211_8)).trans hw211_8), ((HB.out.cell (World.block_lt_of_cell? w _ hw211_9)).trans hw211_9), ((HB.out.cell (World.block_lt_of_cell? w _ hw211_10)).trans hw211_10)⟩ (fun hHeld => ?_)
                clear hK K
                refine norm_ (a' := ?_) ?_ ?_
                rotate_left
                · show Act.put _ (some 26) _ = _
                  simp only [Act.put, List.setIfInBounds_toArray, List.set_cons_zero, List.set_cons_succ, i64_w, i32_w]
                  rfl
                refine pure_ (i := 9) (N := some 6) (v := ?_) (a' := ?_) #[true, true, true, true, true, true, true, true, true, true] rfl rfl (any_of HT_.out (by kernel_rfl)) (fun _ _ _ h => h) (Or.inl ⟨by rfl, ?_⟩) ?_ ?_
                rotate_left
                · intro w'
                  go_simp
                  with_reducible rfl
                rotate_left
                · simp only [Act.put, List.setIfInBounds_toArray, List.set_cons_zero, List.set_cons_succ, i64_w, i32_w]
                  rfl
                refine done_ (done_of HT_.out (by kernel_rfl)) ?_
                try go_wp2
                go_ret
                exact ⟨by first | rfl | (simp [errW_none, errW_some] <;> rfl) | (simp [*, errW_none, errW_some] <;> rfl), by repeat (first | (with_reducible first | exact HB.out | apply below_alloc | apply pw_below_drewN | apply below_drew1) | exact HB.out)⟩
            · rw [if_neg c6] at H
              exact absurd H (by simp)
          · rw [if_neg c5] at H
            exact absurd H (by simp)
        · rw [if_neg c4] at H
          have c4b0 : decide (x5_1 < (l0.length : Int)) = false := decide_eq_false c4
          clear c4
          obtain rfl := Option.some.inj H
          go_wp2
          go_ret
          exact ⟨by first | rfl | (simp [errW_none, errW_some] <;> rfl) | (simp [*, errW_none, errW_some] <;> rfl), by repeat (first | (with_reducible first | exact HB.out | apply below_alloc | apply pw_below_drewN | apply below_drew1) | exact HB.out)⟩
  · rw [if_neg c3] at H
    have c3b0 : ((l0.length : Int) == (l1.length : Int)) = false := beq_eq_false_iff_ne.mpr c3
    have c3b1 : ((l0.length : Int) != (l1.length : Int)) = true := bne_iff_ne.mpr c3
    have c3b2 : (l0.length == l1.length) = false := by first | simpa using c3 | (simp at c3 ⊢; omega)
    obtain rfl := Option.some.inj H
    go_enter Tryd.func17, Tryd.ntmps17
    go_wp2
    go_ret
    exact ⟨by first | rfl | (simp [errW_none, errW_some] <;> rfl) | (simp [*, errW_none, errW_some] <;> rfl), by repeat (first | (with_reducible first | exact HB.out | apply below_alloc | apply pw_below_drewN | apply below_drew1) | exact HB.out)⟩

/-- A state of type 122 at block g of W; what its slices lead to came in by w0. -/
def IsS122 (w0 W : World) (g : Nat) (f0 : ByteArray) (f1 : Int) (f2 : Bool) : Prop := W.heap[g]? = some (.cells #[.string f0, .int .i64 f1, .bool f2] 122 (0, 0)) ∧ w0.heap.size ≤ g
theorem IsS122.drewN {w0 W : World} {g : Nat} {f0 : ByteArray} {f1 : Int} {f2 : Bool} (h : IsS122 w0 W g f0 f1 f2) (m : Nat) : IsS122 w0 (W.drewN m) g f0 f1 f2 := h
theorem IsS122.at_ {w0 W : World} {g : Nat} {f0 : ByteArray} {f1 : Int} {f2 : Bool} {w' : World} {m : Nat} (hq : W.drewN m = w') (h : IsS122 w0 W g f0 f1 f2) : IsS122 w0 w' g f0 f1 f2 := by subst hq; exact IsS122.drewN h m
def sluiceref18_reader_next.f (s0_0 : ByteArray) (s0_1 : Int) (s0_2 : Bool) : Option (Int × ByteArray × Int × Bool) := if s0_1 ≥ (s0_0.size : Int) then (some ((-1), s0_0, s0_1, s0_2)) else (if 0 ≤ s0_1 then (if s0_1 < (s0_0.size : Int) then (some (wrap64 (bt s0_0 s0_1), s0_0, s0_1, s0_2)) else (none)) else (none))
def sluiceref18_reader_want.f (s0_0 : ByteArray) (s0_1 : Int) (s0_2 : Bool) (a1 : Int) : Option (ByteArray × Int × Bool) := if s0_2 = true then (some (s0_0, s0_1, s0_2)) else ((sluiceref18_reader_next.f s0_0 s0_1 s0_2).bind fun bt213 => (if bt213.1 = a1 then (some (bt213.2.1, wrap64 (bt213.2.2.1 + 1), bt213.2.2.2)) else (some (bt213.2.1, bt213.2.2.1, true))))
def sluiceref18_begins.f (a0 : ByteArray) (a1 : ByteArray) : Option (Bool) := if (a0.size : Int) ≥ (a1.size : Int) then (if 0 ≤ (a1.size : Int) then (if (a1.size : Int) ≤ (a0.size : Int) then (some ((a0.extract 0 ((a1.size : Int) : Int).toNat).toList == a1.toList)) else (none)) else (none)) else (some false)
end Go.Proofs.YtnbfebjcfhbhiaaDoor.P
end
section
namespace Go.Proofs.YtnbfebjcfhbhiaaDoor.Lw
open Go Go.RowKit Go.Proofs.YtnbfebjcfhbhiaaDoor.P Go.Proofs.YtnbfebjcfhbhiaaDoor.Sc Go.Proofs.YtnbfebjcfhbhiaaDoorW.PrintWords Go.Proofs.YtnbfebjcfhbhiaaDoorW.PrintLast Go.Proofs.YtnbfebjcfhbhiaaDoorW.PrintMore
set_option linter.unusedVariables false
set_option linter.unusedSimpArgs false
def stc (x : St) (dv : Value) : Array Value := #[.int .i64 x.kind, .int .i64 x.rep, .int .i64 x.ses, .int .i64 x.id, .int .i64 x.ok, .string (sb x.name), .int .i64 x.a, .int .i64 x.b, .int .i64 x.i, .int .i64 x.j, dv]
/-- Beside g and b nothing has turned. -/
def KB (W wx : World) (g b : Nat) : Prop := W.heap.size ≤ wx.heap.size ∧ ∀ i, i < W.heap.size → i ≠ g → i ≠ b → wx.heap[i]? = W.heap[i]?
theorem KB.refl (W : World) (g b : Nat) : KB W W g b := ⟨Nat.le_refl _, fun _ _ _ _ => rfl⟩
theorem KB.keep {W wx w1 : World} {g b : Nat} (h : KB W wx g b) (k : KeepBut wx w1 g none) : KB W w1 g b :=
  ⟨Nat.le_trans h.1 k.1, fun i hi hg hb => (k.2 i (Nat.lt_of_lt_of_le hi h.1) hg (by simp)).trans (h.2 i hi hg hb)⟩
theorem KB.trans {W wx w1 : World} {g b : Nat} (h : KB W wx g b) (k : KB wx w1 g b) : KB W w1 g b :=
  ⟨Nat.le_trans h.1 k.1, fun i hi hg hb => (k.2 i (Nat.lt_of_lt_of_le hi h.1) hg hb).trans (h.2 i hi hg hb)⟩
theorem KB.set {W wx : World} {g b : Nat} (h : KB W wx g b) (j : Nat) (v : Value) : KB W (wx.setCell ⟨b, j, none⟩ v) g b :=
  ⟨by simpa [World.setCell] using h.1, fun i hi hg hb => (Below.heap_setCell wx ⟨b, j, none⟩ v i hb).trans (h.2 i hi hg hb)⟩
/-- The line stands as r says, the step is x; its data lie from N on. -/
structure SX (w0 : World) (N : Nat) (W wx : World) (g b : Nat) (t : ByteArray) (wh : Bool) (r : R Unit) (x : St) : Prop where
  ls : LS w0 wx wx g t wh r
  st : ∃ dv, wx.heap[b]? = some (.cells (stc x dv) 48 (0, 0)) ∧ Kd.R (Kd.int .u8) 5 wx N (fun _ => True) dv (nums x.data)
  pl : g < N ∧ b < N ∧ w0.heap.size ≤ b ∧ g ≠ b
  kb : KB W wx g b
  nw : N ≤ W.heap.size
section
variable {w0 W wx w1 : World} {N g b : Nat} {t : ByteArray} {wh : Bool} {r r' : R Unit} {x : St}
theorem SX.call (h : SX w0 N W wx g b t wh r x) (k : LS w0 wx w1 g t wh r') : SX w0 N W w1 g b t wh r' x := by
  obtain ⟨dv, h1, h2⟩ := h.st
  refine ⟨k.from_, ⟨dv, (k.keep.2 b (blk_lt h1) (Ne.symm h.pl.2.2.2) (by simp)).trans h1, ?_⟩, h.pl, h.kb.keep k.keep, h.nw⟩
  exact Kd.R_mono (Kd.R_step (Kd.R_bound h2) (fun i hi hlt => k.keep.2 i hlt (by have := h.pl.1; have := hi.2.1; omega) (by simp))) (fun _ _ => trivial)
theorem SX.below (h : SX w0 N W wx g b t wh r x) (hb : Below wx.heap.size wx w1) : SX w0 N W w1 g b t wh r x := h.call (h.ls.below hb)
/-- A cell of the step is written. -/
theorem SX.set (h : SX w0 N W wx g b t wh r x) (j : Nat) (v : Value) (x' : St) (hd : x'.data = x.data) (hc : ∀ dv, (stc x dv).setIfInBounds j v = stc x' dv) : SX w0 N W (wx.setCell ⟨b, j, none⟩ v) g b t wh r x' := by
  obtain ⟨dv, h1, h2⟩ := h.st
  have hgb := h.pl.2.2.2
  refine ⟨?_, ⟨dv, by rw [heap_setCell_same wx b j _ _ v h1, hc], ?_⟩, h.pl, h.kb.set j v, h.nw⟩
  · obtain ⟨a, bd, k1, k2, k3, k4, k5⟩ := h.ls
    exact ⟨a, bd, ⟨(Below.heap_setCell wx ⟨b, j, none⟩ v g hgb).trans k1.1, k1.2⟩, k2, k3.setCell (p := ⟨b, j, none⟩) h.pl.2.2.1 v, KeepBut.refl _ _ _, k5⟩
  · rw [hd]
    exact Kd.R_mono (Kd.R_step (Kd.R_bound h2) (fun i hi hlt => Below.heap_setCell wx ⟨b, j, none⟩ v i (by have := h.pl.2.1; have := hi.2.1; show i ≠ b; omega))) (fun _ _ => trivial)
/-- The data are stored. -/
theorem SX.data (h : SX w0 N W wx g b t wh r x) (v : Value) (d : By) (hv : Kd.R (Kd.int .u8) 5 wx N (fun _ => True) v (nums d)) : SX w0 N W (wx.setCell ⟨b, 10, none⟩ v) g b t wh r { x with data := d } := by
  obtain ⟨dv, h1, h2⟩ := h.st
  have hgb := h.pl.2.2.2
  refine ⟨?_, ⟨v, by rw [heap_setCell_same wx b 10 _ _ v h1]; rfl, ?_⟩, h.pl, h.kb.set 10 v, h.nw⟩
  · obtain ⟨a, bd, k1, k2, k3, k4, k5⟩ := h.ls
    exact ⟨a, bd, ⟨(Below.heap_setCell wx ⟨b, 10, none⟩ v g hgb).trans k1.1, k1.2⟩, k2, k3.setCell (p := ⟨b, 10, none⟩) h.pl.2.2.1 v, KeepBut.refl _ _ _, k5⟩
  · exact Kd.R_mono (Kd.R_step (Kd.R_bound hv) (fun i hi hlt => Below.heap_setCell wx ⟨b, 10, none⟩ v i (by have := h.pl.2.1; have := hi.2.1; show i ≠ b; omega))) (fun _ _ => trivial)
end
/-- bytes, in ScSpec's words. -/
theorem bytes_calls {w0 W wx : World} {g : Nat} {t : ByteArray} {wh : Bool} {r : R Unit} (h : LS w0 W wx g t wh r) :
    Calls Tryd.prog 86 #[.pointer (some ⟨g, 0, none⟩)] wx fun e w' => ∃ v x r', e = .returned v ∧ Kd.R (Kd.int .u8) 5 w' wx.heap.size (fun _ => True) v (nums x) ∧ LS w0 W w' g t wh r' ∧ Pst textP r x r' := by
  obtain ⟨a, bd, h1, h2, h3, h4, h5⟩ := h
  obtain ⟨x, at', bad', r', hf, hS, hP⟩ := bytes_f t r a wh bd h2 h5
  obtain ⟨k, hk⟩ := hf.rounds
  refine (script_line_bytes.calls k g t a wh bd _ _ _ _ _ w0 wx h1 h3 hk).mono ?_
  rintro e w' ⟨v, he, hR, k1, k2, k3⟩
  exact ⟨v, x, r', he, hR, ⟨at', bad', k1, hS, k2, h4.trans k3 (.inl rfl), h5⟩, hP⟩
/-- The letters of the parts. -/
def partOf (c : UInt8) : Part := if c.toNat = 114 then .r else if c.toNat = 115 then .s else if c.toNat = 110 then .n else if c.toNat = 105 then .i else if c.toNat = 106 then .j else if c.toNat = 97 then .a else if c.toNat = 107 then .k else if c.toNat = 100 then .d else if c.toNat = 111 then .o else .b
/-- Where a part's number stands in a step. -/
def cellOf : Part → Nat
  | .r => 1 | .s => 2 | .n => 3 | .i => 8 | .j => 9 | .a => 6 | _ => 7
set_option maxHeartbeats 4000000 in
set_option maxRecDepth 100000 in
theorem field_calls (w : World) (b : Nat) (c : UInt8) : Calls Tryd.prog 57 #[.pointer (some ⟨b, 0, none⟩), .int .i32 (c.toNat : Int)] w fun e w' => e = .returned (.pointer (some ⟨b, cellOf (partOf c), none⟩)) ∧ Below w.heap.size w w' := by
  have hu48 := Tryd.underlying48
  obtain ⟨n, hn⟩ : ∃ n, c.toNat = n := ⟨_, rfl⟩
  unfold partOf
  rw [hn]
  clear hn
  go_enter Tryd.func57, Tryd.ntmps57
  by_cases h0 : n = 114
  · subst h0
    go_wp2_with fail
    go_ret
    exact ⟨rfl, Below.refl _ _⟩
  have e0 : ((n : Int) == 114) = false := by simp; omega
  by_cases h1 : n = 115
  · subst h1
    go_wp2_with fail
    go_ret
    exact ⟨rfl, Below.refl _ _⟩
  have e1 : ((n : Int) == 115) = false := by simp; omega
  by_cases h2 : n = 110
  · subst h2
    go_wp2_with fail
    go_ret
    exact ⟨rfl, Below.refl _ _⟩
  have e2 : ((n : Int) == 110) = false := by simp; omega
  by_cases h3 : n = 105
  · subst h3
    go_wp2_with fail
    go_ret
    exact ⟨rfl, Below.refl _ _⟩
  have e3 : ((n : Int) == 105) = false := by simp; omega
  by_cases h4 : n = 106
  · subst h4
    go_wp2_with fail
    go_ret
    exact ⟨rfl, Below.refl _ _⟩
  have e4 : ((n : Int) == 106) = false := by simp; omega
  by_cases h5 : n = 97
  · subst h5
    go_wp2_with fail
    go_ret
    exact ⟨rfl, Below.refl _ _⟩
  have e5 : ((n : Int) == 97) = false := by simp; omega
  go_wp2_with fail
  all_goals
    go_ret
    refine ⟨?_, Below.refl _ _⟩
    first | rfl | (split <;> rfl)
def stepFs : List S153 := [⟨⟨#[99, 97, 108, 108]⟩, ⟨#[114, 115, 110, 111]⟩, 1⟩, ⟨⟨#[100, 101, 108, 105, 118, 101, 114]⟩, ⟨#[105]⟩, 2⟩, ⟨⟨#[100, 114, 111, 112]⟩, ⟨#[105]⟩, 3⟩, ⟨⟨#[100, 111, 117, 98, 108, 101]⟩, ⟨#[105]⟩, 4⟩, ⟨⟨#[109, 111, 118, 101]⟩, ⟨#[105, 106]⟩, 5⟩, ⟨⟨#[116, 105, 99, 107]⟩, ⟨#[114]⟩, 6⟩, ⟨⟨#[102, 114, 97, 109, 101]⟩, ⟨#[114, 100]⟩, 7⟩, ⟨⟨#[114, 101, 113, 117, 101, 115, 116]⟩, ⟨#[114, 100]⟩, 8⟩, ⟨⟨#[115, 101, 101]⟩, ⟨#[114]⟩, 9⟩, ⟨⟨#[98, 97, 103]⟩, ⟨#[]⟩, 10⟩, ⟨⟨#[119, 105, 116, 110, 101, 115, 115]⟩, ⟨#[]⟩, 11⟩, ⟨⟨#[99, 114, 97, 115, 104]⟩, ⟨#[114]⟩, 12⟩, ⟨⟨#[97, 114, 109]⟩, ⟨#[114, 105, 106]⟩, 13⟩, ⟨⟨#[114, 101, 115, 116, 97, 114, 116]⟩, ⟨#[114]⟩, 14⟩, ⟨⟨#[105, 109, 97, 103, 101]⟩, ⟨#[114]⟩, 15⟩]
def opFs : List S153 := [⟨⟨#[99, 114, 101, 97, 116, 101]⟩, ⟨#[107, 97, 98]⟩, 1⟩, ⟨⟨#[105, 110, 99]⟩, ⟨#[107, 97]⟩, 2⟩, ⟨⟨#[100, 101, 99]⟩, ⟨#[107, 97]⟩, 3⟩, ⟨⟨#[104, 111, 108, 100]⟩, ⟨#[107, 97, 98]⟩, 4⟩, ⟨⟨#[99, 111, 109, 109, 105, 116]⟩, ⟨#[107, 97]⟩, 5⟩, ⟨⟨#[114, 101, 108, 101, 97, 115, 101]⟩, ⟨#[107, 97]⟩, 6⟩, ⟨⟨#[114, 101, 97, 100]⟩, ⟨#[107]⟩, 7⟩, ⟨⟨#[116, 97, 107, 101]⟩, ⟨#[107, 97, 98]⟩, 8⟩, ⟨⟨#[114, 101, 115, 101, 116]⟩, ⟨#[107, 97]⟩, 9⟩, ⟨⟨#[114, 101, 99, 97, 112]⟩, ⟨#[107, 97]⟩, 10⟩, ⟨⟨#[108, 111, 111, 107]⟩, ⟨#[107]⟩, 11⟩]
theorem stepFs_ws : wordsOf stepFs = stepWs := by rfl
theorem opFs_ws : wordsOf opFs = opWs := by rfl
theorem stepFs_parts (i : Nat) (x : S153) (h : stepFs[i]? = some x) : (bs x.f1).map partOf = stepParts i ∧ x.f2 = (i : Int) + 1 ∧ ∀ c ∈ bs x.f1, c.toNat < 128 := by
  have hi : i < 15 := (List.getElem?_eq_some_iff.1 h).1
  have : ∀ i : Fin 15, ∀ x, stepFs[i.val]? = some x → (bs x.f1).map partOf = stepParts i.val ∧ x.f2 = (i.val : Int) + 1 ∧ ∀ c ∈ bs x.f1, c.toNat < 128 := by
    intro i x h
    match i, h with
    | ⟨0, _⟩, h => obtain rfl := Option.some.inj h; exact ⟨by rfl, by rfl, by decide⟩
    | ⟨1, _⟩, h => obtain rfl := Option.some.inj h; exact ⟨by rfl, by rfl, by decide⟩
    | ⟨2, _⟩, h => obtain rfl := Option.some.inj h; exact ⟨by rfl, by rfl, by decide⟩
    | ⟨3, _⟩, h => obtain rfl := Option.some.inj h; exact ⟨by rfl, by rfl, by decide⟩
    | ⟨4, _⟩, h => obtain rfl := Option.some.inj h; exact ⟨by rfl, by rfl, by decide⟩
    | ⟨5, _⟩, h => obtain rfl := Option.some.inj h; exact ⟨by rfl, by rfl, by decide⟩
    | ⟨6, _⟩, h => obtain rfl := Option.some.inj h; exact ⟨by rfl, by rfl, by decide⟩
    | ⟨7, _⟩, h => obtain rfl := Option.some.inj h; exact ⟨by rfl, by rfl, by decide⟩
    | ⟨8, _⟩, h => obtain rfl := Option.some.inj h; exact ⟨by rfl, by rfl, by decide⟩
    | ⟨9, _⟩, h => obtain rfl := Option.some.inj h; exact ⟨by rfl, by rfl, by decide⟩
    | ⟨10, _⟩, h => obtain rfl := Option.some.inj h; exact ⟨by rfl, by rfl, by decide⟩
    | ⟨11, _⟩, h => obtain rfl := Option.some.inj h; exact ⟨by rfl, by rfl, by decide⟩
    | ⟨12, _⟩, h => obtain rfl := Option.some.inj h; exact ⟨by rfl, by rfl, by decide⟩
    | ⟨13, _⟩, h => obtain rfl := Option.some.inj h; exact ⟨by rfl, by rfl, by decide⟩
    | ⟨14, _⟩, h => obtain rfl := Option.some.inj h; exact ⟨by rfl, by rfl, by decide⟩
  exact this ⟨i, hi⟩ x h
theorem opFs_parts (i : Nat) (x : S153) (h : opFs[i]? = some x) : (bs x.f1).map partOf = opParts i ∧ x.f2 = (i : Int) + 1 ∧ (∀ c ∈ bs x.f1, c.toNat < 128) ∧ .o ∉ opParts i := by
  have hi : i < 11 := (List.getElem?_eq_some_iff.1 h).1
  have : ∀ i : Fin 11, ∀ x, opFs[i.val]? = some x → (bs x.f1).map partOf = opParts i.val ∧ x.f2 = (i.val : Int) + 1 ∧ (∀ c ∈ bs x.f1, c.toNat < 128) ∧ .o ∉ opParts i.val := by
    intro i x h
    match i, h with
    | ⟨0, _⟩, h => obtain rfl := Option.some.inj h; exact ⟨by rfl, by rfl, by decide, (show .o ∉ opParts 0 by decide)⟩
    | ⟨1, _⟩, h => obtain rfl := Option.some.inj h; exact ⟨by rfl, by rfl, by decide, (show .o ∉ opParts 1 by decide)⟩
    | ⟨2, _⟩, h => obtain rfl := Option.some.inj h; exact ⟨by rfl, by rfl, by decide, (show .o ∉ opParts 2 by decide)⟩
    | ⟨3, _⟩, h => obtain rfl := Option.some.inj h; exact ⟨by rfl, by rfl, by decide, (show .o ∉ opParts 3 by decide)⟩
    | ⟨4, _⟩, h => obtain rfl := Option.some.inj h; exact ⟨by rfl, by rfl, by decide, (show .o ∉ opParts 4 by decide)⟩
    | ⟨5, _⟩, h => obtain rfl := Option.some.inj h; exact ⟨by rfl, by rfl, by decide, (show .o ∉ opParts 5 by decide)⟩
    | ⟨6, _⟩, h => obtain rfl := Option.some.inj h; exact ⟨by rfl, by rfl, by decide, (show .o ∉ opParts 6 by decide)⟩
    | ⟨7, _⟩, h => obtain rfl := Option.some.inj h; exact ⟨by rfl, by rfl, by decide, (show .o ∉ opParts 7 by decide)⟩
    | ⟨8, _⟩, h => obtain rfl := Option.some.inj h; exact ⟨by rfl, by rfl, by decide, (show .o ∉ opParts 8 by decide)⟩
    | ⟨9, _⟩, h => obtain rfl := Option.some.inj h; exact ⟨by rfl, by rfl, by decide, (show .o ∉ opParts 9 by decide)⟩
    | ⟨10, _⟩, h => obtain rfl := Option.some.inj h; exact ⟨by rfl, by rfl, by decide, (show .o ∉ opParts 10 by decide)⟩
  exact this ⟨i, hi⟩ x h
end Go.Proofs.YtnbfebjcfhbhiaaDoor.Lw
end
section
namespace Go.Proofs.YtnbfebjcfhbhiaaDoor.Lw
open Go Go.RowKit Go.Proofs.YtnbfebjcfhbhiaaDoor.P Go.Proofs.YtnbfebjcfhbhiaaDoor.Sc Go.Proofs.YtnbfebjcfhbhiaaDoorW.PrintWords Go.Proofs.YtnbfebjcfhbhiaaDoorW.PrintLast Go.Proofs.YtnbfebjcfhbhiaaDoorW.PrintMore
set_option linter.unusedVariables false
set_option linter.unusedSimpArgs false
theorem heap_form : Kd.Heap k153 := Kd.heap_iso _ (Kd.heap_pair Kd.heap_string (Kd.heap_pair Kd.heap_string (Kd.heap_int .i64)))
/-- What the package's variables hold. -/
structure VS (w : World) : Prop where
  err : VR w
  ops : ∃ ad c, w.heap[2]? = some (.cells #[.slice (some ad) opFs.length c] 102 (0, 0)) ∧ opFs.length ≤ c ∧ Kd.C k153 w (some ad) opFs.length opFs
  steps : ∃ ad c, w.heap[1]? = some (.cells #[.slice (some ad) stepFs.length c] 102 (0, 0)) ∧ stepFs.length ≤ c ∧ Kd.C k153 w (some ad) stepFs.length stepFs
theorem VS.below {w0 w : World} (h : VS w0) (hb : Below w0.heap.size w0 w) : VS w := by
  obtain ⟨h1, ⟨a, c, k1, k2, k3⟩, ⟨a', c', k1', k2', k3'⟩⟩ := h
  exact ⟨h1.below hb, ⟨a, c, (hb.block _ (blk_lt k1)).trans k1, k2, Kd.C_below k3 hb⟩, ⟨a', c', (hb.block _ (blk_lt k1')).trans k1', k2', Kd.C_below k3' hb⟩⟩
def partStep (p : Part) (x : St) : Rd St := fun l => match p with
  | .o => (oneP opWs l).bnd fun g l => opGo (opParts g) { x with ok := (g : Int) + 1 } l
  | p => wordP p x l
theorem partGo_cons (p : Part) (ps : List Part) (x : St) (l : By) : partGo (p :: ps) x l = (byteP 32 l).bnd fun _ l => (partStep p x l).bnd fun x l => partGo ps x l := by cases p <;> rfl
theorem opGo_eq : ∀ (ps : List Part) (x : St) (l : By), .o ∉ ps → opGo ps x l = partGo ps x l
  | [], x, l, _ => rfl
  | p :: ps, x, l, h => by
    have h1 : p ≠ .o := fun e => h (by simp [e])
    have ih : ∀ x l, opGo ps x l = partGo ps x l := fun x l => opGo_eq ps x l (fun hh => h (by simp [hh]))
    rw [partGo_cons]
    show (byteP 32 l).bnd (fun _ l => (wordP p x l).bnd fun x l => opGo ps x l) = _
    have : partStep p x = wordP p x := by cases p <;> first | rfl | exact absurd rfl h1
    rw [this]
    simp only [ih]
/-- What a call of 'parts' promises. -/
def PartsC (fm : S153) : Prop := ∀ {w0 : World} {N : Nat} {wx : World} {g b : Nat} {t : ByteArray} {wh : Bool} {r : R Unit} {x : St}, VS w0 → SX w0 N wx wx g b t wh r x →
  Calls Tryd.prog 61 #[.pointer (some ⟨g, 0, none⟩), .pointer (some ⟨b, 0, none⟩), .agg #[.string fm.f0, .string fm.f1, .int .i64 fm.f2]] wx fun e w' => e = .returned (.tuple #[]) ∧ ∃ r' x', SX w0 N wx w' g b t wh r' x' ∧ Pst (partGo ((bs fm.f1).map partOf) x) r x' r'
theorem SX.from_ {w0 W wx : World} {N g b : Nat} {t : ByteArray} {wh : Bool} {r : R Unit} {x : St} (h : SX w0 N W wx g b t wh r x) : SX w0 N wx wx g b t wh r x := ⟨h.ls, h.st, h.pl, KB.refl _ _ _, Nat.le_trans h.nw h.kb.1⟩
theorem SX.then_ {w0 W wx w1 : World} {N g b : Nat} {t : ByteArray} {wh : Bool} {r r' : R Unit} {x x' : St} (h : SX w0 N W wx g b t wh r x) (k : SX w0 N wx w1 g b t wh r' x') : SX w0 N W w1 g b t wh r' x' := ⟨k.ls, k.st, k.pl, h.kb.trans k.kb, h.nw⟩
/-- The state in the loop: the iterator in block k at pos, beside it the step. -/
structure PK (w0 : World) (N : Nat) (wx wr : World) (g b k : Nat) (t : ByteArray) (wh : Bool) (s : ByteArray) (pos : Nat) (r : R Unit) (x : St) : Prop where
  le : pos ≤ s.size
  it : wr.heap[k]? = some (.stringIter s pos)
  kk : wx.heap.size ≤ k ∧ k ≠ g ∧ k ≠ b ∧ w0.heap.size ≤ k
  sx : SX w0 N wx wr g b t wh r x
section
variable {w0 wx wr w1 : World} {N g b k pos : Nat} {t s : ByteArray} {wh : Bool} {r r' : R Unit} {x x' : St}
theorem PK.call (h : PK w0 N wx wr g b k t wh s pos r x) (c : LS w0 wr w1 g t wh r') : PK w0 N wx w1 g b k t wh s pos r' x :=
  ⟨h.le, (c.keep.2 k (blk_lt h.it) h.kk.2.1 (by simp)).trans h.it, h.kk, h.sx.call c⟩
theorem PK.below (h : PK w0 N wx wr g b k t wh s pos r x) (hb : Below wr.heap.size wr w1) : PK w0 N wx w1 g b k t wh s pos r x :=
  ⟨h.le, (hb.block k (blk_lt h.it)).trans h.it, h.kk, h.sx.below hb⟩
theorem PK.set (h : PK w0 N wx wr g b k t wh s pos r x) (j : Nat) (v : Value) (x' : St) (hd : x'.data = x.data) (hc : ∀ dv, (stc x dv).setIfInBounds j v = stc x' dv) : PK w0 N wx (wr.setCell ⟨b, j, none⟩ v) g b k t wh s pos r x' :=
  ⟨h.le, (Below.heap_setCell wr ⟨b, j, none⟩ v k h.kk.2.2.1).trans h.it, h.kk, h.sx.set j v x' hd hc⟩
theorem PK.data (h : PK w0 N wx wr g b k t wh s pos r x) (v : Value) (d : By) (hv : Kd.R (Kd.int .u8) 5 wr N (fun _ => True) v (nums d)) : PK w0 N wx (wr.setCell ⟨b, 10, none⟩ v) g b k t wh s pos r { x with data := d } :=
  ⟨h.le, (Below.heap_setCell wr ⟨b, 10, none⟩ v k h.kk.2.2.1).trans h.it, h.kk, h.sx.data v d hv⟩
theorem PK.inner (h : PK w0 N wx wr g b k t wh s pos r x) (c : SX w0 N wr w1 g b t wh r' x') : PK w0 N wx w1 g b k t wh s pos r' x' :=
  ⟨h.le, (c.kb.2 k (blk_lt h.it) h.kk.2.1 h.kk.2.2.1).trans h.it, h.kk, h.sx.then_ c⟩
theorem PK.iter (h : PK w0 N wx wr g b k t wh s pos r x) (hp : pos < s.size) : PK w0 N wx (wr.iterAt k s (pos + 1)) g b k t wh s (pos + 1) r x := by
  have hh : ∀ i, i ≠ k → (wr.iterAt k s (pos + 1)).heap[i]? = wr.heap[i]? := fun i hi => by
    simp only [World.iterAt, Array.getElem?_setIfInBounds]
    rw [if_neg (fun e => hi e.symm)]
  have hsz : (wr.iterAt k s (pos + 1)).heap.size = wr.heap.size := by simp [World.iterAt]
  have hx := h.sx
  obtain ⟨dv, h1, h2⟩ := hx.st
  have hg := h.kk
  refine ⟨by omega, Lib.iterAt_heap wr k s pos (pos + 1) h.it, h.kk, ?_, ⟨dv, (hh b (Ne.symm hg.2.2.1)).trans h1, ?_⟩, hx.pl, ?_, hx.nw⟩
  · obtain ⟨a, bd, k1, k2, k3, k4, k5⟩ := hx.ls
    refine ⟨a, bd, ⟨(hh g (Ne.symm hg.2.1)).trans k1.1, k1.2⟩, k2, ?_, KeepBut.refl _ _ _, k5⟩
    have hkl := hg.2.2.2
    exact ⟨k3.os, k3.tape, k3.output, by rw [hsz]; exact k3.size, fun i hi => (hh i (by omega)).trans (k3.block i hi)⟩
  · refine Kd.R_mono (Kd.R_step (Kd.R_bound h2) (fun i hi hlt => hh i (fun e => ?_))) (fun _ _ => trivial)
    obtain ⟨q, _, cells, hc⟩ := hi.2.2.2
    rw [e, h.it] at hc
    cases hc
  · exact ⟨by rw [hsz]; exact hx.kb.1, fun i hi hig hib => (hh i (by omega)).trans (hx.kb.2 i hi hig hib)⟩
end
theorem cont_step {p : Part} {ps : List Part} {r1 r2 r3 r' : R Unit} {x1 x3 x' : St} (h1 : Pst (byteP 32) r1 () r2) (h2 : Pst (partStep p x1) r2 x3 r3) (h3 : Pst (partGo ps x3) r3 x' r') : Pst (partGo (p :: ps) x1) r1 x' r' := by
  have h := h1.bnd (q := fun _ l => (partStep p x1 l).bnd fun x l => partGo ps x l) (h2.bnd (q := fun x l => partGo ps x l) h3)
  have e : (fun l => (byteP 32 l).bnd fun _ l => (partStep p x1 l).bnd fun x l => partGo ps x l) = partGo (p :: ps) x1 := by funext l; rw [partGo_cons]
  rw [← e]; exact h
theorem step_num {p : Part} {r2 r3 : R Unit} {x : St} {v : Int} (h0 : p ≠ .d ∧ p ≠ .k ∧ p ≠ .o) (h : Pst numP r2 v r3) : Pst (partStep p x) r2 (x.set p v) r3 := by
  have h1 := h.bnd (q := fun v l => R.good (x.set p v) l) (Pst.ret (x.set p v) r3)
  have e : (fun l => (numP l).bnd fun v l => R.good (x.set p v) l) = partStep p x := by
    funext l
    cases p <;> first | rfl | exact absurd rfl h0.1 | exact absurd rfl h0.2.1 | exact absurd rfl h0.2.2
  rw [← e]; exact h1
theorem step_d {r2 r3 : R Unit} {x : St} {d : By} (h : Pst textP r2 d r3) : Pst (partStep .d x) r2 { x with data := d } r3 := by
  have h1 := h.bnd (q := fun d l => R.good ({ x with data := d } : St) l) (Pst.ret ({ x with data := d } : St) r3)
  exact h1
theorem step_k {r2 r3 : R Unit} {x : St} {d : By} (h : Pst textP r2 d r3) : Pst (partStep .k x) r2 { x with name := d } r3 := by
  have h1 := h.bnd (q := fun d l => R.good ({ x with name := d } : St) l) (Pst.ret ({ x with name := d } : St) r3)
  exact h1
theorem set_cell {p : Part} (h0 : p ≠ .d ∧ p ≠ .k ∧ p ≠ .o) (x : St) (v : Int) : (x.set p v).data = x.data ∧ (∀ dv, (stc x dv).setIfInBounds (cellOf p) (.int .i64 v) = stc (x.set p v) dv) ∧ ∀ dv, ∃ u, (stc x dv)[cellOf p]? = some u := by
  cases p <;> first | exact ⟨rfl, fun _ => rfl, fun _ => ⟨_, rfl⟩⟩ | exact absurd rfl h0.1 | exact absurd rfl h0.2.1 | exact absurd rfl h0.2.2
theorem step_o {r2 r3 r4 : R Unit} {x x4 : St} {fx : S153} (h1 : OnePost opFs 0 0 r2 fx r3) (h2 : Pst (partGo ((bs fx.f1).map partOf) { x with ok := fx.f2 }) r3 x4 r4) : Pst (partStep .o x) r2 x4 r4 := by
  unfold OnePost at h1
  cases r2 with
  | bad l =>
    obtain ⟨rfl, _⟩ := h1
    exact h2
  | good u l =>
    simp only [List.drop_zero, opFs_ws] at h1
    unfold Pst partStep
    simp only [oneP]
    cases hw : oneFrom opWs 0 0 l with
    | bad l' =>
      rw [hw] at h1
      obtain ⟨rfl, _⟩ := h1
      exact h2
    | good j l' =>
      rw [hw] at h1
      obtain ⟨hj, rfl⟩ := h1
      obtain ⟨e1, e2, _, e4⟩ := opFs_parts j fx hj
      rw [e1, e2] at h2
      simp only [R.bnd_good]
      rw [opGo_eq _ _ _ e4]
      exact h2
theorem fx_parts {r2 r3 : R Unit} {fx : S153} (h1 : OnePost opFs 0 0 r2 fx r3) (h : (∀ (i : Nat) x, opFs[i]? = some x → PartsC x) ∧ PartsC zf) : PartsC fx := by
  unfold OnePost at h1
  cases r2 with
  | bad l => rw [h1.2]; exact h.2
  | good u l =>
    simp only [List.drop_zero, opFs_ws] at h1
    cases hw : oneFrom opWs 0 0 l with
    | bad l' => rw [hw] at h1; rw [h1.2]; exact h.2
    | good j l' => rw [hw] at h1; exact h.1 j fx h1.1
/-- bytes to a string. -/
theorem conv_row {w : World} {base : Nat} {ok : Nat → Prop} {v : Value} {d : By} (h : Kd.R (Kd.int .u8) 5 w base ok v (Sc.nums d)) : (convert 46 9 v).run Tryd.prog w = .ok (.string (sb d)) w := by
  obtain ⟨A, c, rfl, hc, hC⟩ := Kd.R_reads h
  have hl : (Sc.nums d).length = d.length := by simp [Sc.nums]
  have hC2 := hC
  rw [hl] at hc hC ⊢
  cases d with
  | nil =>
    cases A with
    | none =>
      rw [show ([] : By).length = 0 from rfl, run_convert_bytes_string w 46 9 5 none 0 c Tryd.underlying46 Tryd.underlying5 Tryd.underlying9]
      simp [Conv.bytesToString, loadCells, Sem.run, sb]
      rfl
    | some ad => exact run_convert_bytes_back w _ _ 5 ad c [] Tryd.underlying46 Tryd.underlying5 Tryd.underlying9 (fun j hj => by simp at hj)
  | cons x d =>
    obtain ⟨ad, hA, _⟩ := Kd.at_int hC2 0 (by omega) (by rw [hl]; simp)
    subst hA
    refine run_convert_bytes_back w _ _ 5 ad c (x :: d) Tryd.underlying46 Tryd.underlying5 Tryd.underlying9 (fun j hj => ?_)
    obtain ⟨ad2, hA2, hcell⟩ := Kd.at_int hC2 (j : Int) (by omega) (by rw [hl]; omega)
    obtain rfl := Option.some.inj hA2
    rw [Int.toNat_natCast] at hcell
    rw [hcell]
    congr 2
    unfold rd Sc.nums
    rw [Int.toNat_natCast, List.getD_eq_getElem?_getD, List.getElem?_map, List.getElem?_eq_getElem hj]
    rfl
/-- The same, and what is still to be read. -/
def PL (w0 : World) (N : Nat) (wx wr : World) (g b k : Nat) (t : ByteArray) (wh : Bool) (s : ByteArray) (r0 : R Unit) (x0 : St) (pos : Nat) : Prop :=
  ∃ r x, PK w0 N wx wr g b k t wh s pos r x ∧ ∀ r' x', Pst (partGo (((bs s).map partOf).drop pos) x) r x' r' → Pst (partGo ((bs s).map partOf) x0) r0 x' r'
set_option maxHeartbeats 8000000 in
set_option maxRecDepth 100000 in
theorem parts_gen (fm : S153) (hasc : ∀ c ∈ bs fm.f1, c.toNat < 128) (hrec : .o ∈ (bs fm.f1).map partOf → (∀ (i : Nat) x, opFs[i]? = some x → PartsC x) ∧ PartsC zf) : PartsC fm := by
  intro w0 N wx g b t wh r x hV hS
  have HV := Aside0.mk hV
  have HA := Aside0.mk hasc
  have HRC := Aside0.mk hrec
  have hgb : g < wx.heap.size ∧ b < wx.heap.size := by
    obtain ⟨_, _, hk, _⟩ := hS.ls.blk
    obtain ⟨dv, hk2, _⟩ := hS.st
    exact ⟨blk_lt hk, blk_lt hk2⟩
  obtain ⟨s, hs⟩ : ∃ s, fm.f1 = s := ⟨_, rfl⟩
  have HS : Aside0 (PL w0 N wx ((wx.alloc (.cells #[.string fm.f0, .string s, .int .i64 fm.f2] 153 (0, 0))).iter s 0) g b (wx.heap.size + 1) t wh s r x 0) := ⟨by
    have hsz := hS.ls.bel.size
    refine ⟨r, x, ⟨Nat.zero_le _, ?_, ⟨by omega, by omega, by omega, by omega⟩, (hS.below ?_)⟩, fun r' x' h => by simpa using h⟩
    · have h5 := World.iter_heap (wx.alloc (.cells #[.string fm.f0, .string s, .int .i64 fm.f2] 153 (0, 0))) s 0
      simpa using h5
    · exact ((Below.refl _ wx).alloc (Nat.le_refl _) _).alloc (by simp) _⟩
  rw [hs] at HA HRC ⊢
  clear hV hS hasc hrec hs hgb
  go_enter Tryd.func61, Tryd.ntmps61
  go_wp2_with fail
  go_loopw [7, 8] (fun _ _ wr => Aside0 (∃ pos, PL w0 N wx wr g b (wx.heap.size + 1) t wh s r x pos)) (fun _ _ wr => s.size - wr.iterPos (wx.heap.size + 1))
  case atStart => exact ⟨0, HS.out⟩
  case round =>
    obtain ⟨pos, r1, x1, hK, hC⟩ := hrel.out
    have HK := Aside0.mk hK
    have HC := Aside0.mk hC
    have hmu : wr.iterPos (wx.heap.size + 1) = pos := by simp [World.iterPos, hK.it]
    have HMU := Aside0.mk hmu
    clear hrel HS
    by_cases hp : pos < s.size
    · have h128 : (s[pos]'hp).toNat < 128 := by
        have := HA.out (s[pos]'hp) (by unfold bs; exact Array.mem_toList_iff.2 (Array.getElem_mem _))
        exact this
      have hnext : ∀ ty, (Instr.next (.pointer (some ⟨wx.heap.size + 1, 0, none⟩)) true ty).run Tryd.prog wr = _ := fun ty => Lib.run_next_ascii_at wr (wx.heap.size + 1) s pos ty hK.it hp h128
      have HX := Aside0.mk (hK.iter hp)
      have hnp : (wr.iterAt (wx.heap.size + 1) s (pos + 1)).iterPos (wx.heap.size + 1) = pos + 1 := by simp [World.iterPos, HX.out.it]
      obtain ⟨c, hc⟩ : ∃ c, s[pos]'hp = c := ⟨_, rfl⟩
      have HDR : Aside0 (((bs s).map partOf).drop pos = partOf c :: ((bs s).map partOf).drop (pos + 1)) := ⟨by
        have hl : pos < ((bs s).map partOf).length := by rw [List.length_map, bs_len]; exact hp
        rw [List.drop_eq_getElem_cons hl]
        congr 1
        rw [List.getElem_map, ← hc]; rfl⟩
      have HMEM : Aside0 (c ∈ bs s) := ⟨by rw [← hc]; unfold bs; exact Array.mem_toList_iff.2 (Array.getElem_mem _)⟩
      rw [hc] at hnext
      have HP := Aside0.mk hp
      clear hnp hK hC hmu hc h128 hp HK
      generalize wr.iterAt (wx.heap.size + 1) s (pos + 1) = W1 at hnext HX
      go_upto_region 5 with (go_at_call 62; refine (blank_calls HX.out.sx.ls).mono ?_; rintro e w2 ⟨rfl, r2, h2, hP⟩; have HP2 := Aside0.mk hP; have n0_ := Aside0.mk (HX.out.call h2); clear HX h2 hP hnext; have HX := n0_; clear n0_)
      obtain ⟨n, hn⟩ : ∃ n, c.toNat = n := ⟨_, rfl⟩
      have HN := Aside0.mk hn
      by_cases h111 : n = 111
      · subst h111
        have hd : partOf c = .o := by unfold partOf; rw [hn]; rfl
        have HD := Aside0.mk hd
        have HR2 := Aside0.mk (HRC.out (by rw [← hd]; exact List.mem_map.2 ⟨c, HMEM.out, rfl⟩))
        obtain ⟨ao, co, ko, hoc, hoC⟩ := (HV.out.below HX.out.sx.ls.bel).ops
        have q2 : w2.cell? ⟨2, 0, none⟩ = some (.slice (some ao) opFs.length co) := (blk_cell ko 0).trans rfl
        have HOC : Aside0 (opFs.length ≤ co ∧ ∀ W', KeepBut w2 W' g none → Kd.C k153 W' (some ao) opFs.length opFs) := ⟨⟨hoc, by
          obtain ⟨ao', co', ko', hoc', hoC'⟩ := HV.out.ops
          have e := (HX.out.sx.ls.bel.block _ (blk_lt ko')).trans ko'
          rw [ko] at e
          obtain ⟨rfl, rfl⟩ : ao = ao' ∧ co = co' := by simpa using e
          obtain ⟨_, _, _, _, hgN⟩ := HX.out.sx.ls.blk
          exact Kd.C_foot_came heap_form hoC' HX.out.sx.ls.bel hgN⟩⟩
        rw [hn]
        clear hd ko hoc hoC
        go_upto_region 9 with (go_at_call 60; refine (one_calls HX.out.sx.ls (some ao) co opFs (by decide) HOC.out.2 HOC.out.1).mono ?_; rintro e w3 ⟨fx, r3, rfl, h3, hP⟩; have HP3 := Aside0.mk hP; have n0_ := Aside0.mk (HX.out.call h3); clear HX h3 hP q2; have HX := n0_; clear n0_)
        have q8 : ∃ w4, w4 = w3.alloc (.cells #[.string fx.f0, .string fx.f1, .int .i64 fx.f2] 153 (0, 0)) ∧ w4.heap[w3.heap.size]? = some (.cells #[.string fx.f0, .string fx.f1, .int .i64 fx.f2] 153 (0, 0)) ∧ Below w3.heap.size w3 w4 := ⟨_, rfl, heap_alloc_new w3 _, (Below.refl _ _).alloc (Nat.le_refl _) _⟩
        obtain ⟨w4, e4, hbx, hb4⟩ := q8
        rw [← e4]
        have HBX := Aside0.mk hbx
        have HX4 := Aside0.mk (HX.out.below hb4)
        have HS4 := Aside0.mk (HX4.out.set 4 (.int .i64 fx.f2) { x1 with ok := fx.f2 } rfl (fun _ => rfl))
        have hne : w3.heap.size ≠ b := by
          obtain ⟨dv, h1, _⟩ := HX.out.sx.st
          have := blk_lt h1; omega
        have HB5 : Aside0 ((w4.setCell ⟨b, 4, none⟩ (.int .i64 fx.f2)).heap[w3.heap.size]? = some (.cells #[.string fx.f0, .string fx.f1, .int .i64 fx.f2] 153 (0, 0))) := ⟨(Below.heap_setCell w4 ⟨b, 4, none⟩ _ _ hne).trans hbx⟩
        obtain ⟨dv, hbk, _⟩ := HX4.out.sx.st
        have p0 : w4.cell? ⟨w3.heap.size, 2, none⟩ = some (.int .i64 fx.f2) := (blk_cell hbx 2).trans rfl
        have p1 := (blk_cell hbk 4).trans rfl
        have p2 := blk_frozen hbk 4
        have p5 : (w4.setCell ⟨b, 4, none⟩ (.int .i64 fx.f2)).cell? ⟨w3.heap.size, 0, none⟩ = some (.string fx.f0) := (blk_cell HB5.out 0).trans rfl
        have p6 : (w4.setCell ⟨b, 4, none⟩ (.int .i64 fx.f2)).cell? ⟨w3.heap.size, 1, none⟩ = some (.string fx.f1) := (blk_cell HB5.out 1).trans rfl
        have p7 : (w4.setCell ⟨b, 4, none⟩ (.int .i64 fx.f2)).cell? ⟨w3.heap.size, 2, none⟩ = some (.int .i64 fx.f2) := (blk_cell HB5.out 2).trans rfl
        clear e4 hbx hb4 hne hbk HX
        go_wp2_with (go_at_call 61; refine (fx_parts HP3.out HR2.out HV.out HS4.out.sx.from_).mono ?_; rintro e w5 ⟨rfl, r4, x4, h4, hP⟩; have HP4 := Aside0.mk hP; have HX := Aside0.mk (HS4.out.inner h4); clear h4 hP)
        go_roundw
        case rel => exact ⟨pos + 1, r4, x4, HX.out, fun r' x' h => HC.out r' x' (by rw [HDR.out, HD.out]; exact cont_step HP2.out (step_o HP3.out HP4.out) h)⟩
        case measure =>
          have hh : w5.iterPos (wx.heap.size + 1) = pos + 1 := by simp [World.iterPos, HX.out.it]
          rw [hh, HMU.out]; have := HP.out; omega
      by_cases h107 : n = 107
      · subst h107
        have hd : partOf c = .k := by unfold partOf; rw [hn]; rfl
        have HD := Aside0.mk hd
        rw [hn]
        clear h111 hd
        go_wp2_with (go_at_call 86; refine (bytes_calls HX.out.sx.ls).mono ?_; rintro e w3 ⟨v, d, r3, rfl, hR, h3, hP⟩; have hcv := conv_row hR; obtain ⟨Ad, cd, rfl⟩ := Kd.R_slice hR; have HP3 := Aside0.mk hP; have n0_ := Aside0.mk (HX.out.call h3); clear HX h3 hP hR; have HX := n0_; clear n0_; obtain ⟨dv, hbk, _⟩ := HX.out.sx.st; have p1 := (blk_cell hbk 5).trans rfl; have p2 := blk_frozen hbk 5; clear hbk)
        go_roundw
        case rel => exact ⟨pos + 1, r3, { x1 with name := d }, HX.out.set 5 _ _ rfl (fun _ => rfl), fun r' x' h => HC.out r' x' (by rw [HDR.out, HD.out]; exact cont_step HP2.out (step_k HP3.out) h)⟩
        case measure =>
          have := (HX.out.set 5 (.string (sb d)) { x1 with name := d } rfl (fun _ => rfl)).it
          have hh : (w3.setCell ⟨b, 5, none⟩ (.string (sb d))).iterPos (wx.heap.size + 1) = pos + 1 := by simp [World.iterPos, this]
          rw [hh, HMU.out]; have := HP.out; omega
      by_cases h100 : n = 100
      · subst h100
        have hd : partOf c = .d := by unfold partOf; rw [hn]; rfl
        have HD := Aside0.mk hd
        rw [hn]
        clear h111 h107 hd
        go_wp2_with (go_at_call 86; refine (bytes_calls HX.out.sx.ls).mono ?_; rintro e w3 ⟨v, d, r3, rfl, hR, h3, hP⟩; obtain ⟨Ad, cd, rfl⟩ := Kd.R_slice hR; have HP3 := Aside0.mk hP; have HR : Aside0 (Kd.R (Kd.int .u8) 5 w3 N (fun _ => True) (.slice Ad (nums d).length cd) (nums d)) := ⟨Kd.R_lower hR (Nat.le_trans HX.out.sx.nw HX.out.sx.kb.1)⟩; have n0_ := Aside0.mk (HX.out.call h3); clear HX h3 hP hR; have HX := n0_; clear n0_; obtain ⟨dv, hbk, _⟩ := HX.out.sx.st; have p1 := (blk_cell hbk 10).trans rfl; have p2 := blk_frozen hbk 10; clear hbk)
        go_roundw
        case rel => exact ⟨pos + 1, r3, _, HX.out.data _ d HR.out, fun r' x' h => HC.out r' x' (by rw [HDR.out, HD.out]; exact cont_step HP2.out (step_d HP3.out) h)⟩
        case measure =>
          have := (HX.out.data _ d HR.out).it
          have hh : (w3.setCell ⟨b, 10, none⟩ (.slice Ad (nums d).length cd)).iterPos (wx.heap.size + 1) = pos + 1 := by simp [World.iterPos, this]
          rw [hh, HMU.out]; have := HP.out; omega
      · have hp0 : partOf c ≠ .d ∧ partOf c ≠ .k ∧ partOf c ≠ .o := by
          unfold partOf; rw [hn]
          refine ⟨?_, ?_, ?_⟩ <;> (repeat' split) <;> simp_all
        have HP0 := Aside0.mk hp0
        have e1 : ((n : Int) == 111) = false := by simp; omega
        have e2 : ((n : Int) == 107) = false := by simp; omega
        have e3 : ((n : Int) == 100) = false := by simp; omega
        rw [hn]
        obtain ⟨q, hq⟩ : ∃ q, partOf c = q := ⟨_, rfl⟩
        have HQ := Aside0.mk hq
        clear h111 h107 h100 hp0 hq hn
        go_wp2_with (first
          | (go_at_call 57; rw [← HN.out]; refine (field_calls _ b c).mono ?_; rintro e w3 ⟨rfl, hb⟩; rw [HQ.out]; have n0_ := Aside0.mk (HX.out.below hb); clear HX hb; have HX := n0_; clear n0_)
          | (go_at_call 63; refine (number_calls HX.out.sx.ls HV.out.err).mono ?_; rintro e w4 ⟨v, r3, rfl, h3, hP⟩; have HP3 := Aside0.mk hP; have n0_ := Aside0.mk (HX.out.call h3); clear HX h3 hP; have HX := n0_; clear n0_; have HSC := Aside0.mk (set_cell (HQ.out ▸ HP0.out) x1 v); obtain ⟨dv, hbk, _⟩ := HX.out.sx.st; obtain ⟨u, hu⟩ := HSC.out.2.2 dv; have p1 := (blk_cell hbk (cellOf q)).trans hu; have p2 := blk_frozen hbk (cellOf q); clear hbk hu))
        go_roundw
        case rel => exact ⟨pos + 1, r3, _, HX.out.set (cellOf q) _ (x1.set q v) HSC.out.1 HSC.out.2.1, fun r' x' h => HC.out r' x' (by rw [HDR.out, HQ.out]; exact cont_step HP2.out (step_num (HQ.out ▸ HP0.out) HP3.out) h)⟩
        case measure =>
          have := (HX.out.set (cellOf q) (.int .i64 v) (x1.set q v) HSC.out.1 HSC.out.2.1).it
          have hh : (w4.setCell ⟨b, cellOf q, none⟩ (.int .i64 v)).iterPos (wx.heap.size + 1) = pos + 1 := by simp [World.iterPos, this]
          rw [hh, HMU.out]; have := HP.out; omega
    · have hnext : ∀ ty, (Instr.next (.pointer (some ⟨wx.heap.size + 1, 0, none⟩)) true ty).run Tryd.prog wr = _ := fun ty => Lib.run_next_end_at wr (wx.heap.size + 1) s pos ty hK.it hp
      have HE : Aside0 (((bs s).map partOf).drop pos = []) := ⟨List.drop_eq_nil_of_le (by rw [List.length_map, bs_len]; omega)⟩
      clear hK hC hmu
      go_wp2_with fail
      first | go_end0 | ((try simp only [Exit.inBlock, Exit.then]); refine bodyPost_ret (results_none rfl _ _ _) rfl ?_)
      refine ⟨rfl, r1, x1, HK.out.sx, HC.out r1 x1 ?_⟩
      rw [HE.out]
      exact Pst.ret x1 r1
end Go.Proofs.YtnbfebjcfhbhiaaDoor.Lw
end
