/- texts that the proof needs, laid together by a program of this session. -/
import Derived.Lib.ParseIntBTie
import Derived.WalkKit
import Derived.Deep.Cut
import Derived.Deep.CutRange
import Derived.Deep.CutBlock
import Derived.Test.YtnbfebjcfhbhiaaDoorKScriptParse4
section
namespace Go.Proofs.YtnbfebjcfhbhiaaDoor.Sc
open Go Go.RowKit Go.Proofs.YtnbfebjcfhbhiaaDoor.P Go.Proofs.YtnbfebjcfhbhiaaDoorW.PrintWords Go.Proofs.YtnbfebjcfhbhiaaDoorW.PrintLast Go.Proofs.YtnbfebjcfhbhiaaDoorW.PrintMore
set_option linter.unusedVariables false
set_option linter.unusedSimpArgs false
theorem w64 {n : Int} (h0 : -9223372036854775808 ≤ n) (h1 : n ≤ 9223372036854775807) : wrap64 n = n := IntWalk.wrap64_in n ⟨h0, h1⟩
theorem bt_bs (s : ByteArray) (i : Nat) (h : i < (bs s).length) : bt s (i : Int) = (((bs s)[i]'h).toNat : Int) := by
  have h2 : i < s.size := by rw [← bs_len]; exact h
  unfold bt
  simp only [Int.toNat_natCast]
  rw [dif_pos h2]
  rfl
theorem drop_bs {l : By} {i : Nat} (h : i < l.length) : l.drop i = l[i] :: l.drop (i + 1) := List.drop_eq_getElem_cons h
theorem common_go (a b : ByteArray) (ha : a.size ≤ 4611686018427387904) : ∀ n i : Nat, i + n = a.size → Ev (fun k => script_common.l0 k a b (i : Int)) ((i : Int) + (common ((bs a).drop i) ((bs b).drop i) : Nat)) := by
  intro n
  have la := bs_len a
  have lb := bs_len b
  induction n with
  | zero =>
    intro i hi
    refine Ev.step (f := fun _ => some ((i : Int) + (common ((bs a).drop i) ((bs b).drop i) : Nat))) (fun k => ?_) (Ev.now _)
    unfold script_common.l0 mn
    rw [if_neg (by split <;> omega), List.drop_eq_nil_of_le (by omega)]
    simp [common]
  | succ n ih =>
    intro i hi
    by_cases hb : i < b.size
    · have h1 := bt_bs a i (by omega)
      have h2 := bt_bs b i (by omega)
      have d1 := drop_bs (l := bs a) (i := i) (by omega)
      have d2 := drop_bs (l := bs b) (i := i) (by omega)
      by_cases hc : (bs a)[i]'(by omega) = (bs b)[i]'(by omega)
      · have hi2 := ih (i + 1) (by omega)
        have e : ((i : Int) + 1) = ((i + 1 : Nat) : Int) := by omega
        have ev : (i : Int) + (common ((bs a).drop i) ((bs b).drop i) : Nat) = ((i + 1 : Nat) : Int) + (common ((bs a).drop (i + 1)) ((bs b).drop (i + 1)) : Nat) := by
          rw [d1, d2]; simp only [common, if_pos hc]; omega
        rw [ev]
        refine Ev.step (fun k => ?_) hi2
        show script_common.l0 (k + 1) a b (i : Int) = _
        rw [script_common.l0, if_pos (by unfold mn; split <;> omega), if_pos (by omega), if_pos (by omega), if_pos (by omega), if_pos (by rw [h1, h2, hc]), w64 (by omega) (by omega), e]
      · refine Ev.step (f := fun _ => some ((i : Int) + (common ((bs a).drop i) ((bs b).drop i) : Nat))) (fun k => ?_) (Ev.now _)
        rw [script_common.l0, if_pos (by unfold mn; split <;> omega), if_pos (by omega), if_pos (by omega), if_pos (by omega), if_neg (fun h => hc (by rw [h1, h2] at h; exact UInt8.toNat_inj.1 (by omega))), d1, d2]
        simp [common, hc]
    · refine Ev.step (f := fun _ => some ((i : Int) + (common ((bs a).drop i) ((bs b).drop i) : Nat))) (fun k => ?_) (Ev.now _)
      rw [script_common.l0, if_neg (by unfold mn; split <;> omega), show (bs b).drop i = [] from List.drop_eq_nil_of_le (by omega)]
      cases (bs a).drop i <;> simp [common]
theorem common_ev (a b : ByteArray) (ha : a.size ≤ 4611686018427387904) : Ev (fun k => script_common.f k a b) ((common (bs a) (bs b) : Nat) : Int) := by
  have := common_go a b ha a.size 0 (by omega)
  simpa [script_common.f] using this
theorem common_le : ∀ a b : By, common a b ≤ a.length ∧ common a b ≤ b.length
  | [], b => by simp [common]
  | x :: a, [] => by simp [common]
  | x :: a, y :: b => by
    have := common_le a b
    unfold common
    split <;> simp <;> omega
def left : R Unit → By
  | .good _ l => l
  | .bad l => l
theorem LSt.left {t : By} {r : R Unit} {at_ : Int} {bad : Bool} (h : LSt t r at_ bad) : ∃ p, t = p ++ left r ∧ at_ = (p.length : Int) := by
  cases r <;> exact h.2
theorem rest_any {t : ByteArray} {r : R Unit} {at_ : Int} {w bad : Bool} (h : LSt (bs t) r at_ bad) : script_line_rest.f t at_ w bad = some (sb (left r), t, at_, w, bad) := by
  obtain ⟨p, hp, rfl⟩ := h.left
  have hl : p.length + (left r).length = t.size := by rw [← bs_len, hp, List.length_append]
  have he : t.extract p.length t.size = sb (left r) := by
    apply bs_inj
    rw [bs_extract, bs_sb, ← bs_len, List.take_length, hp, List.drop_left]
  unfold script_line_rest.f
  rw [if_pos (by omega), if_pos (by omega), Int.toNat_natCast, he]
def wordsOf (l : List S153) : List By := l.map fun x => bs x.f0
def zf : S153 := ⟨⟨#[]⟩, ⟨#[]⟩, 0⟩
/-- What 'one' answers. -/
def OnePost (fs : List S153) (i best : Nat) (r : R Unit) (x : S153) (r' : R Unit) : Prop := match r with
  | .good _ l => (match oneFrom (wordsOf (fs.drop i)) i best l with
    | .good j l' => fs[j]? = some x ∧ r' = .good () l'
    | .bad l' => r' = .bad l' ∧ x = zf)
  | .bad l => r' = .bad l ∧ x = zf
theorem one_go (t : ByteArray) (r : R Unit) (at_ : Int) (w bad : Bool) (h : LSt (bs t) r at_ bad) (hs : t.size ≤ 2097152) (fs : List S153) (hf : fs.length ≤ 1000) : ∀ (n i best : Nat), i + n = fs.length → best ≤ (left r).length →
    ∃ x at' bad' r', Ev (fun k => script_line_one.l0 k (best : Int) fs (fs.length : Int) (i : Int) t at_ w bad) (x.f0, x.f1, x.f2, t, at', w, bad') ∧ LSt (bs t) r' at' bad' ∧ OnePost fs i best r x r' := by
  obtain ⟨p, hp, hat⟩ := h.left
  have hl : p.length + (left r).length = t.size := by rw [← bs_len, hp, List.length_append]
  intro n
  induction n with
  | zero =>
    intro i best hi hb
    have hd : fs.drop i = [] := List.drop_eq_nil_of_le (by omega)
    match r, h, hb with
    | .bad l, h, hb =>
      refine ⟨⟨⟨#[]⟩, ⟨#[]⟩, 0⟩, at_, bad, .bad l, ?_, h, rfl, rfl⟩
      refine Ev.step (f := fun _ => some _) (fun k => ?_) (Ev.now _)
      rw [script_line_one.l0, if_neg (by omega)]
      unfold script_line_fail.f
      rw [if_pos h.1]
      rfl
    | .good u l, h, hb =>
      obtain ⟨at', h1, h2⟩ := fail_f (w := w) h best rfl hb (by omega)
      refine ⟨⟨⟨#[]⟩, ⟨#[]⟩, 0⟩, at', true, .bad (l.drop best), ?_, h2, ?_⟩
      · refine Ev.step (f := fun _ => some _) (fun k => ?_) (Ev.now _)
        rw [script_line_one.l0, if_neg (by omega), h1]
        rfl
      · unfold OnePost; rw [hd]; simp [wordsOf, oneFrom, zf]
  | succ n ih =>
    intro i best hi hb
    have hlt : i < fs.length := by omega
    have e1 : (i : Int) < (fs.length : Int) := by omega
    have e0 : (0 : Int) ≤ (i : Int) := by omega
    have hd : fs.drop i = fs[i] :: fs.drop (i + 1) := List.drop_eq_getElem_cons hlt
    have hrd : rd_T153 fs (i : Int) = fs[i] := by unfold rd_T153; rw [Int.toNat_natCast, List.getD_eq_getElem?_getD, List.getElem?_eq_getElem hlt]; rfl
    have hk1 := common_ev (sb (left r)) (fs[i]).f0 (by rw [← bs_len, bs_sb]; omega)
    rw [bs_sb] at hk1
    have hcl := common_le (left r) (bs (fs[i]).f0)
    have hlw := bs_len (fs[i]).f0
    obtain ⟨x, at', bad', r', h1, h2, h3⟩ := ih (i + 1) (max best (common (left r) (bs (fs[i]).f0))) (by omega) (by omega)
    have hmx : mx (best : Int) ((common (left r) (bs (fs[i]).f0) : Nat) : Int) = ((max best (common (left r) (bs (fs[i]).f0)) : Nat) : Int) := by unfold mx; split <;> omega
    have hw : wrap64 ((i : Int) + 1) = ((i + 1 : Nat) : Int) := by rw [w64 (by omega) (by omega)]; rfl
    have step : ∀ k, script_line_one.l0 (k + 1) (best : Int) fs (fs.length : Int) (i : Int) t at_ w bad = (script_common.f k (sb (left r)) (fs[i]).f0).bind fun c => if c = ((fs[i]).f0.size : Int) then (if bad = true then script_line_one.l0 k (mx best c) fs (fs.length : Int) ((i + 1 : Nat) : Int) t at_ w bad else some ((fs[i]).f0, (fs[i]).f1, (fs[i]).f2, t, wrap64 (at_ + c), w, bad)) else script_line_one.l0 k (mx best c) fs (fs.length : Int) ((i + 1 : Nat) : Int) t at_ w bad := fun k => by
      rw [script_line_one.l0, if_pos e1, if_pos e0, if_pos e1, rest_any h, Option.bind_some, hrd, hw]
    cases r with
    | bad l =>
      simp only [left] at *
      refine ⟨x, at', bad', r', Ev.step step (Ev.bind hk1 ?_), h2, (show r' = .bad l ∧ x = zf from h3)⟩
      refine Ev.congr (f := fun k => script_line_one.l0 k ((max best (common l (bs (fs[i]).f0)) : Nat) : Int) fs (fs.length : Int) ((i + 1 : Nat) : Int) t at_ w bad) (fun k => ?_) h1
      rw [if_pos h.1, ite_self, hmx]
    | good u l =>
      have hbf : ¬ bad = true := by rw [h.1]; decide
      simp only [left] at *
      by_cases hc : common l (bs (fs[i]).f0) = (bs (fs[i]).f0).length
      · refine ⟨fs[i], at_ + (common l (bs (fs[i]).f0) : Nat), bad, .good () (l.drop (bs (fs[i]).f0).length), Ev.step step (Ev.bind hk1 (Ev.congr (f := fun _ => some _) (fun k => ?_) (Ev.now _))), ⟨h.1, p ++ l.take (bs (fs[i]).f0).length, by rw [List.append_assoc, List.take_append_drop]; exact hp, ?_⟩, ?_⟩
        · rw [if_pos (by rw [hc]; omega), if_neg hbf, w64 (by omega) (by omega)]
        · rw [List.length_append, List.length_take, Nat.min_eq_left (by omega)]; omega
        · unfold OnePost; rw [hd]; simp only [wordsOf, List.map_cons, oneFrom, if_pos hc]; exact ⟨List.getElem?_eq_getElem hlt, trivial⟩
      · refine ⟨x, at', bad', r', Ev.step step (Ev.bind hk1 ?_), h2, ?_⟩
        · refine Ev.congr (f := fun k => script_line_one.l0 k ((max best (common l (bs (fs[i]).f0)) : Nat) : Int) fs (fs.length : Int) ((i + 1 : Nat) : Int) t at_ w bad) (fun k => ?_) h1
          rw [if_neg (by omega), hmx]
        · unfold OnePost at h3 ⊢; rw [hd]; simp only [wordsOf, List.map_cons, oneFrom, if_neg hc]; exact h3
theorem one_f (t : ByteArray) (r : R Unit) (at_ : Int) (w bad : Bool) (h : LSt (bs t) r at_ bad) (hs : t.size ≤ 2097152) (fs : List S153) (hf : fs.length ≤ 1000) :
    ∃ x at' bad' r', Ev (fun k => script_line_one.f k t at_ w bad fs) (x.f0, x.f1, x.f2, t, at', w, bad') ∧ LSt (bs t) r' at' bad' ∧ OnePost fs 0 0 r x r' :=
  one_go t r at_ w bad h hs fs hf fs.length 0 0 (by omega) (Nat.zero_le _)
end Go.Proofs.YtnbfebjcfhbhiaaDoor.Sc
end
section
namespace Go.Proofs.YtnbfebjcfhbhiaaDoor.Sc
open Go
set_option linter.unusedVariables false
set_option linter.unusedSimpArgs false
def val (m : Nat) (D : By) : Nat := D.foldl (fun a c => 10 * a + (c.toNat - 48)) m
theorem val_nil (m : Nat) : val m [] = m := rfl
theorem val_cons (m : Nat) (c : UInt8) (D : By) : val m (c :: D) = val (10 * m + (c.toNat - 48)) D := by unfold val; rw [List.foldl_cons]
theorem val_le (D : By) : ∀ m : Nat, m ≤ val m D := by
  induction D with
  | nil => intro m; exact Nat.le_refl m
  | cons c D ih => intro m; rw [val_cons]; exact Nat.le_trans (show m ≤ 10 * m + (c.toNat - 48) by omega) (ih _)
theorem val_lt : ∀ (D : By) (m k : Nat), (∀ c ∈ D, isDig c = true) → m < 10 ^ k → val m D < 10 ^ (k + D.length)
  | [], m, k, _, h => by simpa [val] using h
  | c :: D, m, k, hd, h => by
    rw [val_cons]
    have h1 : isDig c = true := hd c (by simp)
    simp only [isDig, Bool.and_eq_true, decide_eq_true_eq] at h1
    have := val_lt D (10 * m + (c.toNat - 48)) (k + 1) (fun x hx => hd x (by simp [hx])) (by rw [Nat.pow_succ]; omega)
    rw [List.length_cons, show k + (D.length + 1) = k + 1 + D.length from by omega]
    exact this
theorem val_ge : ∀ (D : By) (m k : Nat), 10 ^ k ≤ m → 10 ^ (k + D.length) ≤ val m D
  | [], m, k, h => by simpa [val] using h
  | c :: D, m, k, h => by
    rw [val_cons]
    have := val_ge D (10 * m + (c.toNat - 48)) (k + 1) (by rw [Nat.pow_succ]; omega)
    rw [List.length_cons, show k + (D.length + 1) = k + 1 + D.length from by omega]
    exact this
theorem numGo_ok (L : Nat) : ∀ (D : By) (m : Nat) (r : By), (∀ c ∈ D, isDig c = true) → (∀ c, r.head? = some c → isDig c = false) → val m D ≤ L → numGo L m (D ++ r) = .good (val m D) r
  | [], m, [], _, _, _ => by simp [numGo, val]
  | [], m, c :: r, _, hr, _ => by have := hr c rfl; simp [numGo, val, this]
  | c :: D, m, r, hd, hr, hv => by
    have h1 : isDig c = true := hd c (by simp)
    rw [val_cons] at hv ⊢
    have h2 := val_le D (10 * m + (c.toNat - 48))
    rw [List.cons_append, numGo, if_pos h1, if_neg (by omega)]
    exact numGo_ok L D _ r (fun x hx => hd x (by simp [hx])) hr hv
theorem numGo_bad (L : Nat) : ∀ (k : Nat) (D : By) (m : Nat) (r : By), (∀ c ∈ D, isDig c = true) → k < D.length → val m (D.take k) ≤ L → L < val m (D.take (k + 1)) → numGo L m (D ++ r) = .bad ((D ++ r).drop k)
  | k, [], m, r, _, hk, _, _ => by simp at hk
  | 0, c :: D, m, r, hd, hk, h1, h2 => by
    have hc : isDig c = true := hd c (by simp)
    simp only [List.take_succ_cons, List.take_zero, val_cons, val_nil] at h2
    rw [List.cons_append, numGo, if_pos hc, if_pos h2]; rfl
  | k + 1, c :: D, m, r, hd, hk, h1, h2 => by
    have hc : isDig c = true := hd c (by simp)
    rw [List.take_succ_cons, val_cons] at h1 h2
    have h3 := val_le (D.take k) (10 * m + (c.toNat - 48))
    rw [List.cons_append, numGo, if_pos hc, if_neg (by omega), List.drop_succ_cons]
    exact numGo_bad L k D _ r (fun x hx => hd x (by simp [hx])) (by simpa using hk) h1 h2
theorem parseU : ∀ (D : By) (m : Nat), (∀ c ∈ D, isDig c = true) → m < 18446744073709551616 → Lib.parseUint10 m D = if val m D < 18446744073709551616 then .ok (val m D) else .range
  | [], m, _, h => by simp [Lib.parseUint10, val, h]
  | c :: D, m, hd, h => by
    have hc : isDig c = true := hd c (by simp)
    simp only [isDig, Bool.and_eq_true, decide_eq_true_eq] at hc
    have h3 := val_le D (10 * m + (c.toNat - 48))
    rw [Lib.parseUint10, if_pos hc, val_cons]
    by_cases h1 : 1844674407370955162 ≤ m
    · rw [if_pos h1, if_neg (by omega)]
    · rw [if_neg h1]
      by_cases h2 : 18446744073709551616 ≤ m * 10 + (c.toNat - 48)
      · rw [if_pos h2, if_neg (by omega)]
      · rw [if_neg h2, Nat.mul_comm m 10]
        exact parseU D _ (fun x hx => hd x (by simp [hx])) (by omega)
def lim (neg : Bool) : Nat := if neg then maxI + 1 else maxI
theorem parseI (neg : Bool) (D : By) (hd : ∀ c ∈ D, isDig c = true) (hn : D ≠ []) : Lib.parseIntB 64 ((if neg then [45] else []) ++ D) = if val 0 D ≤ lim neg then .ok (if neg then -(val 0 D : Int) else (val 0 D : Int)) else .range := by
  rw [Lib.parseIntB_64]
  cases neg with
  | true =>
    simp only [if_true, List.cons_append, List.nil_append, lim, maxI]
    rw [Lib.atoiAll_minus, Lib.parseMag, if_neg hn, parseU D 0 hd (by omega)]
    by_cases h : val 0 D < 18446744073709551616
    · rw [if_pos h]
      simp only [Lib.signed]
      by_cases h2 : val 0 D ≤ 9223372036854775808
      · rw [if_neg (by omega), if_pos (by omega)]
      · rw [if_pos (by omega), if_neg (by omega)]
    · rw [if_neg h, if_neg (by omega)]; rfl
  | false =>
    match D, hn, hd with
    | c :: D, hn, hd =>
      have hc : isDig c = true := hd c (by simp)
      simp only [isDig, Bool.and_eq_true, decide_eq_true_eq] at hc
      simp only [Bool.false_eq_true, if_false, List.nil_append, lim, maxI]
      rw [Lib.atoiAll_plain c D (by omega) (by omega), Lib.parseMag, if_neg hn, parseU (c :: D) 0 hd (by omega)]
      by_cases h : val 0 (c :: D) < 18446744073709551616
      · rw [if_pos h]
        simp only [Lib.signless]
        by_cases h2 : val 0 (c :: D) ≤ 9223372036854775807
        · rw [if_neg (by omega), if_pos h2]
        · rw [if_pos (by omega), if_neg h2]
      · rw [if_neg h, if_neg (by omega)]; rfl
theorem split_dig (l : By) : l = l.takeWhile isDig ++ l.dropWhile isDig ∧ (∀ c ∈ l.takeWhile isDig, isDig c = true) ∧ ∀ c, (l.dropWhile isDig).head? = some c → isDig c = false := by
  refine ⟨(List.takeWhile_append_dropWhile).symm, fun c h => ?_, fun c h => ?_⟩
  · induction l with
    | nil => simp at h
    | cons x l ih =>
      rw [List.takeWhile_cons] at h
      split at h
      · rcases List.mem_cons.1 h with rfl | h
        · assumption
        · exact ih h
      · simp at h
  · induction l with
    | nil => simp at h
    | cons x l ih =>
      rw [List.dropWhile_cons] at h
      split at h
      · exact ih h
      · obtain rfl : x = c := by simpa using h
        simp_all
theorem dig_at (d : By) : ∀ n, (d.takeWhile isDig).length = n → (∀ i (h : i < d.length), i < n → isDig d[i] = true) ∧ ∀ h : n < d.length, isDig d[n] = false := by
  induction d with
  | nil => intro n hn; exact ⟨fun i h => by simp at h, fun h => by simp at h⟩
  | cons c d ih =>
    intro n hn
    by_cases hc : isDig c = true
    · rw [List.takeWhile_cons, if_pos hc, List.length_cons] at hn
      obtain ⟨m, rfl⟩ : ∃ m, n = m + 1 := ⟨n - 1, by omega⟩
      obtain ⟨h1, h2⟩ := ih m (by omega)
      refine ⟨fun i h hi => ?_, fun h => ?_⟩
      · cases i with
        | zero => exact hc
        | succ i => exact h1 i (by simpa using h) (by omega)
      · exact h2 (by simpa using h)
    · rw [List.takeWhile_cons, if_neg hc, List.length_nil] at hn
      subst hn
      exact ⟨fun i h hi => by omega, fun h => by simpa using hc⟩
/-- The digits behind the sign, and how many bytes the sign has. -/
def sgn (l : By) : Nat := if l.head? = some 45 then 1 else 0
def neg (l : By) : Bool := decide (l.head? = some 45)
theorem sgn_len (l : By) : sgn l ≤ l.length := by
  unfold sgn
  split
  · cases l <;> simp_all
  · exact Nat.zero_le _
theorem num_shape (l : By) : numP l = (natP (lim (neg l)) (neg l) (l.drop (sgn l))).bnd (fun m r => .good (if neg l then -(m : Int) else (m : Int)) r) := by
  unfold numP neg sgn lim
  by_cases h : l.head? = some 45
  · simp [h, List.drop_one]
  · simp [h]
theorem num_none (l : By) (h : (l.drop (sgn l)).takeWhile isDig = []) : numP l = .bad (l.drop (sgn l)) := by
  rw [num_shape]
  cases hd : l.drop (sgn l) with
  | nil => rfl
  | cons c r =>
    rw [hd, List.takeWhile_cons] at h
    split at h
    · cases h
    · rename_i hc
      simp [natP, hc, R.bnd]
theorem num_neg0 (l : By) (hn : neg l = true) (h : (l.drop (sgn l)).head? = some 48) : numP l = .bad (l.drop (sgn l)) := by
  rw [num_shape]
  cases hd : l.drop (sgn l) with
  | nil => rfl
  | cons c r =>
    rw [hd] at h
    obtain rfl : c = 48 := by simpa using h
    simp [natP, isDig, hn, R.bnd]
theorem num_zero (l : By) (hn : neg l = false) (h : (l.drop (sgn l)).head? = some 48) : numP l = .good 0 (l.drop 1) := by
  have hs : sgn l = 0 := by unfold sgn; unfold neg at hn; rw [if_neg (by simpa using hn)]
  rw [num_shape]
  rw [hs, List.drop_zero] at h ⊢
  cases l with
  | nil => cases h
  | cons c r =>
    obtain rfl : c = 48 := by simpa using h
    simp [natP, isDig, hn, R.bnd]
section
variable {l : By} {n : Nat} (hn : ((l.drop (sgn l)).takeWhile isDig).length = n) (h0 : n ≠ 0) (h48 : (l.drop (sgn l)).head? ≠ some 48)
include hn h0 h48
/-- The digits, and what is behind them. -/
theorem num_cut : ∃ c D r, l = (if neg l then [45] else []) ++ (c :: D) ++ r ∧ (∀ x ∈ c :: D, isDig x = true) ∧ (∀ x, r.head? = some x → isDig x = false) ∧ (c :: D).length = n ∧ c.toNat ≠ 48 ∧ l.drop (sgn l) = (c :: D) ++ r ∧ (if neg l then [45] else [] : By).length = sgn l := by
  obtain ⟨h1, h2, h3⟩ := split_dig (l.drop (sgn l))
  cases hD : (l.drop (sgn l)).takeWhile isDig with
  | nil => rw [hD] at hn; simp at hn; omega
  | cons c D =>
    rw [hD] at h1 h2 hn
    refine ⟨c, D, (l.drop (sgn l)).dropWhile isDig, ?_, h2, h3, hn, fun e => h48 ?_, h1, ?_⟩
    · rw [List.append_assoc, ← h1]
      unfold neg sgn
      by_cases hh : l.head? = some 45
      · cases l with
        | nil => simp at hh
        | cons x l => obtain rfl : x = 45 := by simpa using hh
                      simp
      · simp [hh]
    · rw [h1]
      have : c = 48 := UInt8.toNat_inj.1 e
      simp [this]
    · unfold neg sgn; by_cases hh : l.head? = some 45 <;> simp [hh]
theorem num_parts (k : Nat) (hk : k ≤ n) (hk0 : k ≠ 0) : ∃ v : Nat, (Lib.parseIntB 64 (l.take (sgn l + k)) = if v ≤ lim (neg l) then .ok (if neg l then -(v : Int) else (v : Int)) else .range) ∧ ∃ c D r, v = val 0 ((c :: D).take k) ∧ l.drop (sgn l) = (c :: D) ++ r ∧ (∀ x ∈ c :: D, isDig x = true) ∧ (∀ x, r.head? = some x → isDig x = false) ∧ (c :: D).length = n ∧ c.toNat ≠ 48 := by
  obtain ⟨c, D, r, e1, e2, e3, e4, e5, e6, e7⟩ := num_cut hn h0 h48
  refine ⟨val 0 ((c :: D).take k), ?_, c, D, r, rfl, e6, e2, e3, e4, e5⟩
  have ht1 : ((if neg l then [45] else [] : By) ++ ((c :: D) ++ r)).take (sgn l + k) = (if neg l then [45] else []) ++ (c :: D).take k := by rw [← e7, List.take_length_add_append, List.take_append_of_le_length (by omega)]
  have ht : l.take (sgn l + k) = (if neg l then [45] else []) ++ (c :: D).take k := (congrArg (List.take (sgn l + k)) (e1.trans (List.append_assoc ..))).trans ht1
  rw [ht]
  exact parseI (neg l) _ (fun x hx => e2 x (List.mem_of_mem_take hx)) (by
    cases k with
    | zero => exact absurd rfl hk0
    | succ k => simp)
theorem num_read (v : Int) (h : Lib.parseIntB 64 (l.take (sgn l + n)) = .ok v) : numP l = .good v (l.drop (sgn l + n)) := by
  obtain ⟨u, hu, c, D, r, rfl, e6, e2, e3, e4, e5⟩ := num_parts hn h0 h48 n (Nat.le_refl _) h0
  rw [hu] at h
  have hc : isDig c = true := e2 c (by simp)
  split at h
  · rename_i hle
    injection h with h
    have ht : (c :: D).take n = c :: D := List.take_of_length_le (by omega)
    rw [ht] at hle h
    rw [num_shape, e6, List.cons_append, natP, if_pos hc, if_neg e5]
    rw [val_cons] at hle h
    simp only [Nat.mul_zero, Nat.zero_add] at hle h
    rw [numGo_ok _ D _ r (fun x hx => e2 x (by simp [hx])) e3 hle, R.bnd_good, h]
    congr 1
    rw [← List.drop_drop, e6, ← e4, List.drop_left]
  · cases h
theorem num_no_syntax (k : Nat) (hk : k ≤ n) (hk0 : k ≠ 0) : Lib.parseIntB 64 (l.take (sgn l + k)) ≠ Lib.NumEnd.syntax := by
  obtain ⟨u, hu, _⟩ := num_parts hn h0 h48 k hk hk0
  rw [hu]; split <;> simp
theorem num_over (h : Lib.parseIntB 64 (l.take (sgn l + n)) = .range) : 19 ≤ n ∧ (Lib.parseIntB 64 (l.take (sgn l + 19)) = .range → numP l = .bad (l.drop (sgn l + 18))) ∧ (∀ v, Lib.parseIntB 64 (l.take (sgn l + 19)) = .ok v → 20 ≤ n ∧ numP l = .bad (l.drop (sgn l + 19))) := by
  obtain ⟨c, D, r, e1, e2, e3, e4, e5, e6, e7⟩ := num_cut hn h0 h48
  have hc : isDig c = true := e2 c (by simp)
  have hcd := hc
  simp only [isDig, Bool.and_eq_true, decide_eq_true_eq] at hcd
  have hlim : maxI ≤ lim (neg l) ∧ lim (neg l) ≤ maxI + 1 := by unfold lim; split <;> omega
  have hmax : maxI = 9223372036854775807 := rfl
  have hp : ∀ k, k ≤ n → k ≠ 0 → Lib.parseIntB 64 (l.take (sgn l + k)) = if val 0 ((c :: D).take k) ≤ lim (neg l) then .ok (if neg l then -((val 0 ((c :: D).take k) : Nat) : Int) else ((val 0 ((c :: D).take k) : Nat) : Int)) else .range := fun k hk hk0 => by
    have ht1 : ((if neg l then [45] else [] : By) ++ ((c :: D) ++ r)).take (sgn l + k) = (if neg l then [45] else []) ++ (c :: D).take k := by rw [← e7, List.take_length_add_append, List.take_append_of_le_length (by omega)]
    have ht : l.take (sgn l + k) = (if neg l then [45] else []) ++ (c :: D).take k := (congrArg (List.take (sgn l + k)) (e1.trans (List.append_assoc ..))).trans ht1
    rw [ht]
    exact parseI (neg l) _ (fun x hx => e2 x (List.mem_of_mem_take hx)) (by
      cases k with
      | zero => exact absurd rfl hk0
      | succ k => simp)
  have hlt : ∀ k, k ≤ n → k ≠ 0 → val 0 ((c :: D).take k) < 10 ^ k ∧ 10 ^ (k - 1) ≤ val 0 ((c :: D).take k) := fun k hk hk0 => by
    obtain ⟨j, rfl⟩ : ∃ j, k = j + 1 := ⟨k - 1, by omega⟩
    rw [List.take_succ_cons, val_cons]
    simp only [Nat.mul_zero, Nat.zero_add, Nat.add_sub_cancel]
    simp only [List.length_cons] at e4
    have hl : (D.take j).length = j := by rw [List.length_take]; omega
    have a1 := val_lt (D.take j) (c.toNat - 48) 1 (fun x hx => e2 x (by simp [List.mem_of_mem_take hx])) (by omega)
    have a2 := val_ge (D.take j) (c.toNat - 48) 0 (by omega)
    rw [hl] at a1 a2
    rw [Nat.add_comm 1 j] at a1
    rw [Nat.zero_add] at a2
    exact ⟨a1, a2⟩
  have hbad : ∀ k, k < n → k ≠ 0 → val 0 ((c :: D).take k) ≤ lim (neg l) → lim (neg l) < val 0 ((c :: D).take (k + 1)) → numP l = .bad (l.drop (sgn l + k)) := fun k hk hk0 h1 h2 => by
    obtain ⟨j, rfl⟩ : ∃ j, k = j + 1 := ⟨k - 1, by omega⟩
    rw [List.take_succ_cons, val_cons] at h1 h2
    simp only [Nat.mul_zero, Nat.zero_add] at h1 h2
    simp only [List.length_cons] at e4
    rw [num_shape, e6, List.cons_append, natP, if_pos hc, if_neg e5, numGo_bad _ j D _ r (fun x hx => e2 x (by simp [hx])) (by omega) h1 h2, R.bnd_bad]
    congr 1
    rw [← List.drop_drop, e6, List.cons_append, List.drop_succ_cons]
  have hn19 : 19 ≤ n := by
    apply Classical.byContradiction
    intro hlt19
    rw [hp n (Nat.le_refl _) h0] at h
    have a := (hlt n (Nat.le_refl _) h0).1
    have b : 10 ^ n ≤ 10 ^ 18 := Nat.pow_le_pow_right (by decide) (by omega)
    rw [if_pos (by have : (10 : Nat) ^ 18 = 1000000000000000000 := by decide
                   omega)] at h
    cases h
  have h18 : val 0 ((c :: D).take 18) ≤ lim (neg l) := by
    have a := (hlt 18 (by omega) (by decide)).1
    have : (10 : Nat) ^ 18 = 1000000000000000000 := by decide
    omega
  refine ⟨hn19, fun h1 => ?_, fun v h1 => ?_⟩
  · rw [hp 19 hn19 (by decide)] at h1
    split at h1
    · cases h1
    · exact hbad 18 (by omega) (by decide) h18 (show lim (neg l) < val 0 ((c :: D).take 19) by omega)
  · rw [hp 19 hn19 (by decide)] at h1
    split at h1
    · rename_i h2
      have hn20 : 20 ≤ n := by
        apply Classical.byContradiction
        intro hx
        obtain rfl : n = 19 := by omega
        rw [hp 19 hn19 (by decide), if_pos h2] at h
        cases h
      have a := (hlt 20 hn20 (by decide)).2
      have : (10 : Nat) ^ (20 - 1) = 10000000000000000000 := by decide
      exact ⟨hn20, hbad 19 (by omega) (by decide) h2 (show lim (neg l) < val 0 ((c :: D).take 20) by omega)⟩
    · cases h1
end
end Go.Proofs.YtnbfebjcfhbhiaaDoor.Sc
end
section
namespace Go.Proofs.YtnbfebjcfhbhiaaDoor.Lw
open Go Go.RowKit Go.Proofs.YtnbfebjcfhbhiaaDoor.P Go.Proofs.YtnbfebjcfhbhiaaDoor.Sc Go.Proofs.YtnbfebjcfhbhiaaDoorW.PrintWords Go.Proofs.YtnbfebjcfhbhiaaDoorW.PrintLast Go.Proofs.YtnbfebjcfhbhiaaDoorW.PrintMore
set_option linter.unusedVariables false
set_option linter.unusedSimpArgs false
/-- The line lies at g; it stands as r says; beside it nothing has turned since W. -/
def LS (w0 W wx : World) (g : Nat) (t : ByteArray) (wh : Bool) (r : R Unit) : Prop := ∃ at_ bad, IsS109 w0 wx g t at_ wh bad ∧ LSt (bs t) r at_ bad ∧ Below w0.heap.size w0 wx ∧ KeepBut W wx g none ∧ t.size ≤ 2097152
section
variable {w0 W wx w1 w2 : World} {g : Nat} {t : ByteArray} {wh : Bool} {r r' : R Unit} {l : By} {u : Unit}
theorem LS.below (h : LS w0 W wx g t wh r) (hb : Below wx.heap.size wx w1) : LS w0 W w1 g t wh r := by
  obtain ⟨a, b, h1, h2, h3, h4, h5⟩ := h
  exact ⟨a, b, h1.below hb, h2, h3.trans (hb.mono h3.size), h4.trans (KeepBut.of_below hb g none) (.inl rfl), h5⟩
theorem LS.drewN (h : LS w0 W wx g t wh r) (n : Nat) : LS w0 W (wx.drewN n) g t wh r := h.below (pw_below_drewN (Below.refl _ _) n)
theorem LS.blk (h : LS w0 W wx g t wh r) : ∃ at_ bad, wx.heap[g]? = some (.cells #[.string t, .int .i64 at_, .bool wh, .bool bad] 109 (0, 0)) ∧ LSt (bs t) r at_ bad ∧ w0.heap.size ≤ g := by
  obtain ⟨a, b, h1, h2, h3, h4, h5⟩ := h
  exact ⟨a, b, h1.1, h2, h1.2⟩
theorem LS.size (h : LS w0 W wx g t wh r) : t.size ≤ 2097152 ∧ (left r).length ≤ t.size := by
  obtain ⟨a, b, h1, h2, h3, h4, h5⟩ := h
  obtain ⟨p, hp, _⟩ := h2.left
  exact ⟨h5, by rw [← bs_len, hp, List.length_append]; omega⟩
theorem LS.bel (h : LS w0 W wx g t wh r) : Below w0.heap.size w0 wx := by
  obtain ⟨a, b, h1, h2, h3, h4, h5⟩ := h
  exact h3
theorem LS.keep (h : LS w0 W wx g t wh r) : KeepBut W wx g none := by
  obtain ⟨a, b, h1, h2, h3, h4, h5⟩ := h
  exact h4
theorem LS.from_ (h : LS w0 W wx g t wh r) : LS w0 wx wx g t wh r := by
  obtain ⟨a, b, h1, h2, h3, h4, h5⟩ := h
  exact ⟨a, b, h1, h2, h3, KeepBut.refl _ _ _, h5⟩
/-- n bytes more have been read. -/
theorem LS.adv (h : LS w0 W wx g t wh (.good u l)) (n : Nat) (hn : n ≤ l.length) : ∃ at_ : Int, wx.heap[g]? = some (.cells #[.string t, .int .i64 at_, .bool wh, .bool false] 109 (0, 0)) ∧ 0 ≤ at_ ∧ at_ ≤ 2097152 ∧ LS w0 W (wx.setCell ⟨g, 1, none⟩ (.int .i64 (at_ + n))) g t wh (.good () (l.drop n)) := by
  obtain ⟨a, b, h1, ⟨rfl, p, hp, rfl⟩, h3, h4, h5⟩ := h
  have hl : p.length + l.length = t.size := by rw [← bs_len, hp, List.length_append]
  refine ⟨_, h1.1, by omega, by omega, (p.length : Int) + n, false, h1.set_1 _, ⟨rfl, p ++ l.take n, by rw [List.append_assoc, List.take_append_drop]; exact hp, by rw [List.length_append, List.length_take, Nat.min_eq_left hn]; omega⟩, ?_, h4.set_ 1 _, h5⟩
  exact h3.setCell (p := ⟨g, 1, none⟩) h1.2 _
theorem rest_calls (h : LS w0 W wx g t wh r) : Calls Tryd.prog 85 #[.pointer (some ⟨g, 0, none⟩)] wx fun e w' => e = .returned (.string (sb (left r))) ∧ LS w0 W w' g t wh r := by
  obtain ⟨a, b, h1, h2, h3, h4, h5⟩ := h
  refine (script_line_rest.calls g t a wh b _ _ _ _ _ w0 wx h1 h3 (rest_any h2)).mono ?_
  rintro e w' ⟨he, k1, k2, k3⟩
  exact ⟨he, a, b, k1, h2, k2, h4.trans k3 (.inl rfl), h5⟩
theorem fail_calls (h : LS w0 W wx g t wh (.good u l)) (n : Int) (k : Nat) (hn : n = (k : Int)) (hk : k ≤ l.length) : Calls Tryd.prog 59 #[.pointer (some ⟨g, 0, none⟩), .int .i64 n] wx fun e w' => e = .returned (.tuple #[]) ∧ LS w0 W w' g t wh (.bad (l.drop k)) := by
  obtain ⟨a, b, h1, h2, h3, h4, h5⟩ := h
  obtain ⟨at', hf, hS⟩ := fail_f (w := wh) h2 k hn hk (by omega)
  refine (script_line_fail.calls g t a wh b n _ _ _ _ w0 wx h1 h3 hf).mono ?_
  rintro e w' ⟨he, k1, k2, k3⟩
  exact ⟨he, at', true, k1, hS, k2, h4.trans k3 (.inl rfl), h5⟩
theorem blank_calls (h : LS w0 W wx g t wh r) : Calls Tryd.prog 62 #[.pointer (some ⟨g, 0, none⟩)] wx fun e w' => e = .returned (.tuple #[]) ∧ ∃ r', LS w0 W w' g t wh r' ∧ Pst (byteP 32) r () r' := by
  obtain ⟨a, b, h1, h2, h3, h4, h5⟩ := h
  obtain ⟨at', bad', r', hf, hS, hP⟩ := blank_f t r a wh b h2 (by omega)
  refine (script_line_blank.calls g t a wh b _ _ _ _ w0 wx h1 h3 hf).mono ?_
  rintro e w' ⟨he, k1, k2, k3⟩
  exact ⟨he, r', ⟨at', bad', k1, hS, k2, h4.trans k3 (.inl rfl), h5⟩, hP⟩
theorem one_calls (h : LS w0 W wx g t wh r) (A : Option Addr) (c : Nat) (fs : List S153) (hfs : fs.length ≤ 1000) (hr : ∀ W_, KeepBut wx W_ g none → Kd.C k153 W_ A fs.length fs) (hc : fs.length ≤ c) :
    Calls Tryd.prog 60 #[.pointer (some ⟨g, 0, none⟩), .slice A fs.length c] wx fun e w' => ∃ x r', e = .returned (.agg #[.string x.f0, .string x.f1, .int .i64 x.f2]) ∧ LS w0 W w' g t wh r' ∧ OnePost fs 0 0 r x r' := by
  obtain ⟨a, b, h1, h2, h3, h4, h5⟩ := h
  obtain ⟨x, at', bad', r', hf, hS, hP⟩ := one_f t r a wh b h2 h5 fs hfs
  obtain ⟨k, hk⟩ := hf.rounds
  refine (script_line_one.calls k g t a wh b A c fs _ _ _ _ _ _ _ w0 wx h1 h3 hr hc hk).mono ?_
  rintro e w' ⟨he, k1, k2, k3⟩
  exact ⟨x, r', he, ⟨at', bad', k1, hS, k2, h4.trans k3 (.inl rfl), h5⟩, hP⟩
end
theorem prefix_calls (s p : ByteArray) (w : World) : Calls Tryd.prog 36 #[.string s, .string p] w fun e w' => e = .returned (.bool (decide (bs p <+: bs s))) ∧ Below w.heap.size w w' := by
  refine (strings_HasPrefix.calls s p _ w (pre_f s p)).mono ?_
  rintro e w' ⟨he, hd⟩
  exact ⟨he, hd.below⟩
/-- strconv.ErrRange holds an error. -/
def VR (w : World) : Prop := ∃ tp p, w.var? Tryd.prog "strconv.ErrRange" = some #[.iface tp p]
theorem VR.below {w0 w : World} (h : VR w0) (hb : Below w0.heap.size w0 w) : VR w := by
  obtain ⟨tp, p, h⟩ := h
  refine ⟨tp, p, ?_⟩
  have hg : Tryd.prog.globalNamed "strconv.ErrRange" = some 5 := by kernel_rfl
  unfold World.var? at h ⊢
  rw [hg] at h ⊢
  simp only [Option.bind_some] at h ⊢
  cases ho : w0.heap[5]? with
  | none => rw [ho] at h; simp at h
  | some o => rw [hb.block 5 (blk_lt ho), ho]; rw [ho] at h; exact h
theorem parse_ok (s : ByteArray) (v : Int) (hs : s.size ≤ 2097152) (h : Lib.parseIntB 64 (bs s) = .ok v) (w : World) : Calls Tryd.prog 87 #[.string s, .int .i64 10, .int .i64 64] w fun e w' => e = .returned (.tuple #[.int .i64 v, .nilIface]) ∧ Below w.heap.size w w' := by
  refine (Tryd.strconv_ParseInt_10_at64_ok s (by omega) v h w).mono ?_
  rintro e w' ⟨he, rfl | ⟨t, rfl⟩⟩
  · exact ⟨he, Below.refl _ _⟩
  · exact ⟨he, Lib.bytesWorld_below _ _ _⟩
theorem parse_range (s : ByteArray) (hs : s.size ≤ 2097152) (h : Lib.parseIntB 64 (bs s) = .range) (w : World) (hv : VR w) : Calls Tryd.prog 87 #[.string s, .int .i64 10, .int .i64 64] w fun e w' => (∃ n N, e = .returned (.tuple #[.int .i64 n, .iface 200 (.pointer (some ⟨N, 0, none⟩))])) ∧ Below w.heap.size w w' := by
  obtain ⟨tp, p, hv⟩ := hv
  refine (Tryd.strconv_ParseInt_10_at64_range_var s (by omega) h tp p w hv).mono ?_
  rintro e w' ⟨N, he, _, _, hb⟩
  exact ⟨⟨_, N, he⟩, hb⟩
end Go.Proofs.YtnbfebjcfhbhiaaDoor.Lw
end
section
namespace Go.Proofs.YtnbfebjcfhbhiaaDoor.Lw
open Go Go.RowKit Go.Proofs.YtnbfebjcfhbhiaaDoor.P Go.Proofs.YtnbfebjcfhbhiaaDoor.Sc Go.Proofs.YtnbfebjcfhbhiaaDoorW.PrintWords Go.Proofs.YtnbfebjcfhbhiaaDoorW.PrintLast Go.Proofs.YtnbfebjcfhbhiaaDoorW.PrintMore
set_option linter.unusedVariables false
set_option linter.unusedSimpArgs false
theorem rest_good {w0 W wx : World} {g : Nat} {t : ByteArray} {wh : Bool} {l : By} {u : Unit} (h : LS w0 W wx g t wh (.good u l)) : Calls Tryd.prog 85 #[.pointer (some ⟨g, 0, none⟩)] wx fun e w' => e = .returned (.string (sb l)) ∧ LS w0 W w' g t wh (.good u l) := rest_calls h
theorem minus_calls (l : By) (w : World) : Calls Tryd.prog 36 #[.string (sb l), .string ⟨#[45]⟩] w fun e w' => e = .returned (.bool (neg l)) ∧ Below w.heap.size w w' := by
  refine (prefix_calls (sb l) ⟨#[45]⟩ w).mono ?_
  rintro e w' ⟨he, hb⟩
  refine ⟨he.trans ?_, hb⟩
  congr 2
  unfold neg
  rw [bs_sb]
  cases l with
  | nil => simp [bs]
  | cons c l => simp [bs, eq_comm]
theorem sb_size (l : By) : (sb l).size = l.length := by rw [← bs_len, bs_sb]
theorem sb_cut (l : By) (a b : Nat) : (sb l).extract a b = sb ((l.take b).drop a) := by apply bs_inj; rw [bs_extract, bs_sb, bs_sb]
theorem cut_bs (l : By) (m : Nat) : bs ((sb l).extract 0 m) = l.take m := by rw [bs_extract, bs_sb, List.drop_zero]
theorem cut_ok (l : By) (m : Nat) (v : Int) (hl : l.length ≤ 2097152) (h : Lib.parseIntB 64 (l.take m) = .ok v) (w : World) : Calls Tryd.prog 87 #[.string ((sb l).extract 0 m), .int .i64 10, .int .i64 64] w fun e w' => e = .returned (.tuple #[.int .i64 v, .nilIface]) ∧ Below w.heap.size w w' :=
  parse_ok _ v (by rw [← bs_len, cut_bs, List.length_take]; omega) (by rw [cut_bs]; exact h) w
theorem cut_range (l : By) (m : Nat) (hl : l.length ≤ 2097152) (h : Lib.parseIntB 64 (l.take m) = .range) (w : World) (hv : VR w) : Calls Tryd.prog 87 #[.string ((sb l).extract 0 m), .int .i64 10, .int .i64 64] w fun e w' => (∃ n N, e = .returned (.tuple #[.int .i64 n, .iface 200 (.pointer (some ⟨N, 0, none⟩))])) ∧ Below w.heap.size w w' :=
  parse_range _ (by rw [← bs_len, cut_bs, List.length_take]; omega) (by rw [cut_bs]; exact h) w hv
theorem pst_bad {α : Type} {p : Rd α} {l l' : By} {u : Unit} {x : α} (h : p l = .bad l') : Pst p (.good u l) x (.bad l') := by unfold Pst; simp only [h]
theorem pst_good {α : Type} {p : Rd α} {l l' : By} {u : Unit} {y : α} (h : p l = .good y l') : Pst p (.good u l) y (.good () l') := by unfold Pst; simp only [h]; exact ⟨trivial, trivial⟩
set_option maxHeartbeats 4000000 in
set_option maxRecDepth 100000 in
theorem number_calls {w0 W wx : World} {g : Nat} {t : ByteArray} {wh : Bool} {r : R Unit} (h : LS w0 W wx g t wh r) (hv : VR w0) :
    Calls Tryd.prog 63 #[.pointer (some ⟨g, 0, none⟩)] wx fun e w' => ∃ x r', e = .returned (.int .i64 x) ∧ LS w0 W w' g t wh r' ∧ Pst numP r x r' := by
  have HV := Aside0.mk hv
  obtain ⟨at_, bad, hk, hL, hg⟩ := h.blk
  have HX := Aside0.mk h
  have q3 : wx.cell? ⟨g, 3, none⟩ = some (.bool bad) := (blk_cell hk 3).trans rfl
  cases r with
  | bad l =>
    obtain rfl : bad = true := hL.1
    clear h hk hL hv
    go_enter Tryd.func63, Tryd.ntmps63
    go_wp2_with fail
    go_ret
    exact ⟨0, .bad l, rfl, HX.out, rfl⟩
  | good u l =>
    obtain rfl : bad = false := hL.1
    clear hk hL hv h
    go_enter Tryd.func63, Tryd.ntmps63
    go_upto_region 4 with (go_at_call 85; refine (rest_good HX.out).mono ?_; rintro e w1 ⟨rfl, h1⟩; clear HX q3; have HX := Aside0.mk h1; clear h1)
    go_upto_if 19 with (go_at_call 36; refine (minus_calls l _).mono ?_; rintro e w2 ⟨rfl, hb⟩; have n0_ := Aside0.mk (HX.out.below hb); clear HX hb; have HX := n0_; clear n0_)
    obtain ⟨ng, hng⟩ : ∃ ng, neg l = ng := ⟨_, rfl⟩
    have HNG := Aside0.mk hng
    rw [hng]
    clear hng
    go_cut [3] from 20 (fun s3 wc => s3 = .string (sb (l.drop (sgn l))) ∧ Aside0 (LS w0 W wc g t wh (.good u l)))
    case first =>
      obtain rfl | rfl : ng = true ∨ ng = false := by cases ng <;> simp
      · have hs : sgn l = 1 := by have := HNG.out; unfold neg at this; unfold sgn; rw [if_pos (by simpa using this)]
        have h1 : (1 : Int) ≤ ((sb l).size : Int) := by
          have := sgn_len l
          rw [sb_size]; omega
        have he : (sb l).extract 1 (sb l).size = sb (l.drop (sgn l)) := by rw [sb_cut, sb_size, List.take_length, hs]
        clear hs
        go_wp2_with fail
        go_meet
        exact ⟨by rw [← he], ⟨HX.out⟩⟩
      · have hs : sgn l = 0 := by have := HNG.out; unfold neg at this; unfold sgn; rw [if_neg (by simpa using this)]
        have HS := Aside0.mk hs
        clear hs
        go_wp2_with fail
        go_meet
        exact ⟨by rw [HS.out, List.drop_zero], ⟨HX.out⟩⟩
    case rest =>
      clear HX
      obtain ⟨rfl, HX⟩ := hcut
      obtain ⟨d, hd⟩ : ∃ d, l.drop (sgn l) = d := ⟨_, rfl⟩
      have HD := Aside0.mk hd
      rw [hd]
      obtain ⟨n, hn⟩ : ∃ n, (d.takeWhile isDig).length = n := ⟨_, rfl⟩
      have HN : Aside0 ((d.takeWhile isDig).length = n ∧ n ≤ d.length ∧ d.length + sgn l = l.length ∧ l.length ≤ 2097152) := ⟨by
        have h1 := split_dig d
        have h2 := congrArg List.length h1.1
        rw [List.length_append] at h2
        have h3 := sgn_len l
        have h4 := HX.out.size
        simp only [left] at h4
        refine ⟨hn, by omega, by rw [← hd, List.length_drop]; omega, by omega⟩⟩
      have hdl : ((sb d).size : Int) = (d.length : Int) := by rw [sb_size]
      have hdl2 : (d.length : Int) ≤ 2097152 := by have := HN.out; omega
      have HDG := Aside0.mk (dig_at d n hn)
      clear hd hn
      go_upto_block 0 with fail
      go_cut [5] from 20 (fun s5 wy => s5 = .int .i64 (n : Int) ∧ wy = wc)
      case first =>
       go_wp2_with fail
       go_loopw [5] (fun v5 wr => ∃ i : Nat, v5 = .int .i64 (i : Int) ∧ i ≤ n ∧ wr = wc) (fun v5 _ => d.length - (intOf v5).toNat)
       case atStart => exact ⟨0, rfl, Nat.zero_le _, rfl⟩
       case round =>
         obtain ⟨i, rfl, hin, rfl⟩ := hrel
         have HI := Aside0.mk hin
         by_cases hlt : i < d.length
         · have hi0 : (0 : Int) ≤ (i : Int) := by omega
           have hi1 : (i : Int) < ((sb d).size : Int) := by omega
           have hi2 : (i : Int) < (d.length : Int) := by omega
           have hx : ∀ h : i < (sb d).size, (((sb d)[i]'h).toNat : Int) = bt (sb d) (i : Int) := fun h => bt_at (sb d) (i : Int) (by rw [Int.toNat_natCast]; exact h)
           have hb : bt (sb d) (i : Int) = (d[i].toNat : Int) := by
             have := bt_bs (sb d) i (by rw [bs_sb]; exact hlt)
             simpa [bs_sb] using this
           have HLT := Aside0.mk hlt
           by_cases hc : i < n
           · have hdg := HDG.out.1 i hlt hc
             simp only [isDig, Bool.and_eq_true, decide_eq_true_eq] at hdg
             have b1 : decide (48 ≤ bt (sb d) (i : Int)) = true := decide_eq_true (by omega)
             have b2 : decide (bt (sb d) (i : Int) ≤ 57) = true := decide_eq_true (by omega)
             have HC := Aside0.mk hc
             clear hdg hb hc hin hlt
             go_wp2_with fail
             go_roundw
             case rel => exact ⟨i + 1, by go_num, by have := HC.out; omega, trivial⟩
             case measure => simp only [intOf]; have := HLT.out; first | omega | (go_num; omega) | (simp; omega)
           · obtain rfl : i = n := by omega
             have hdg := HDG.out.2 hlt
             have hdg2 : ¬ (48 ≤ bt (sb d) (i : Int) ∧ bt (sb d) (i : Int) ≤ 57) := fun hh => by
               simp only [isDig, Bool.and_eq_false_iff, decide_eq_false_iff_not] at hdg
               omega
             clear hdg hc hin hlt hb
             by_cases b : 48 ≤ bt (sb d) (i : Int)
             · have b1 : decide (48 ≤ bt (sb d) (i : Int)) = true := decide_eq_true b
               have b2 : decide (bt (sb d) (i : Int) ≤ 57) = false := decide_eq_false (fun h => hdg2 ⟨b, h⟩)
               clear hdg2 b
               go_wp2_with fail
               go_meet
               exact ⟨rfl, rfl⟩
             · have b1 : decide (48 ≤ bt (sb d) (i : Int)) = false := decide_eq_false b
               clear hdg2 b
               go_wp2_with fail
               go_meet
               exact ⟨rfl, rfl⟩
         · obtain rfl : i = n := by have := HN.out; omega
           have hi1 : ¬ (i : Int) < ((sb d).size : Int) := by omega
           have hi2 : ¬ (i : Int) < (d.length : Int) := by omega
           go_wp2_with fail
           go_meet
           exact ⟨rfl, rfl⟩
      case rest =>
        obtain ⟨rfl, hwc⟩ := hcut
        rw [← hwc] at HX
        clear hwc hdl2
        go_upto_region 10 with fail
        go_cut [6] from 40 (fun s6 wy => s6 = .int .i64 (sgn l : Int) ∧ Aside0 (LS w0 W wy g t wh (.good u l)))
        case first =>
          have hsl : ((sb l).size : Int) = (l.length : Int) := by rw [sb_size]
          have hsub : (l.length : Int) - (d.length : Int) = (sgn l : Int) := by have := HN.out; omega
          go_wp2_with (go_at_call 85; refine (rest_good HX.out).mono ?_; rintro e w3 ⟨rfl, h1⟩; clear HX; have HX := Aside0.mk h1; clear h1)
          go_meet
          exact ⟨by rw [w64 (by have := sgn_len l; omega) (by have := HN.out; omega)], ⟨HX.out⟩⟩
        case rest =>
          clear HX
          obtain ⟨rfl, HX⟩ := hcut
          by_cases h0 : n = 0
          · have hb0 : ((n : Int) == 0) = true := by simp [h0]
            have HF : Aside0 (numP l = .bad (l.drop (sgn l))) := ⟨num_none l (by rw [HD.out]; exact List.length_eq_zero_iff.1 (by have := HN.out; omega))⟩
            clear h0
            go_wp2_with (go_at_call 59; refine (fail_calls HX.out _ (sgn l) rfl (sgn_len l)).mono ?_; rintro e w4 ⟨rfl, h1⟩; clear HX; have HX := Aside0.mk h1; clear h1)
            go_ret
            exact ⟨0, _, rfl, HX.out, pst_bad HF.out⟩
          · have hb0 : ((n : Int) == 0) = false := by simp [h0]
            have H0 := Aside0.mk h0
            obtain ⟨c0, hc0⟩ : ∃ c0, d.head? = some c0 := by
              cases d with
              | nil => have := HN.out; simp at this; omega
              | cons c d => exact ⟨c, rfl⟩
            have HC0 := Aside0.mk hc0
            have hsz : (0 : Int) < ((sb d).size : Int) := by have := HN.out; omega
            have hx0 : ∀ h : 0 < (sb d).size, (((sb d)[0]'h).toNat : Int) = (c0.toNat : Int) := fun h => by
              have h2 := bt_at (sb d) 0 h
              have h3 := bt_bs (sb d) 0 (by rw [bs_len]; exact h)
              cases d with
              | nil => cases hc0
              | cons c d =>
                obtain rfl : c = c0 := by simpa using hc0
                simpa [bs_sb] using h2.trans h3
            clear h0 hc0
            by_cases h48 : c0.toNat = 48
            · have hb48 : ((c0.toNat : Int) == 48) = true := by simp [h48]
              have HH : Aside0 ((l.drop (sgn l)).head? = some 48) := ⟨by rw [HD.out, HC0.out, show c0 = 48 from UInt8.toNat_inj.1 h48]⟩
              clear h48
              obtain rfl | rfl : ng = true ∨ ng = false := by cases ng <;> simp
              · have HF : Aside0 (numP l = .bad (l.drop (sgn l))) := ⟨num_neg0 l HNG.out HH.out⟩
                go_wp2_with (go_at_call 59; refine (fail_calls HX.out _ (sgn l) rfl (sgn_len l)).mono ?_; rintro e w4 ⟨rfl, h1⟩; clear HX; have HX := Aside0.mk h1; clear h1)
                go_ret
                exact ⟨0, _, rfl, HX.out, pst_bad HF.out⟩
              · have HF : Aside0 (numP l = .good 0 (l.drop 1)) := ⟨num_zero l HNG.out HH.out⟩
                obtain ⟨at2, hk2, ha0, ha1, hX2⟩ := HX.out.adv 1 (by have := HN.out; have := H0.out; omega)
                have HX2 := Aside0.mk hX2
                have p1 := (blk_cell hk2 1).trans rfl
                have p2 := blk_frozen hk2 1
                clear hk2 hX2
                go_wp2_with fail
                go_ret
                exact ⟨0, _, rfl, HX2.out, pst_good HF.out⟩
            · have hb48 : ((c0.toNat : Int) == 48) = false := by simp; omega
              have H48 : Aside0 ((l.drop (sgn l)).head? ≠ some 48) := ⟨fun hh => h48 (by rw [HD.out, HC0.out] at hh; obtain rfl : c0 = 48 := (by simpa using hh); rfl)⟩
              have HT : Aside0 (((l.drop (sgn l)).takeWhile isDig).length = n) := ⟨by rw [HD.out]; exact HN.out.1⟩
              clear h48
              go_upto_region 11 with fail
              go_cut [46] from 47 (fun s46 wz => s46 = .bool false ∧ wz = wc)
              case first =>
                obtain rfl | rfl : ng = true ∨ ng = false := by cases ng <;> simp
                · go_wp2_with fail
                  go_meet
                  exact ⟨rfl, rfl⟩
                · go_wp2_with fail
                  go_meet
                  exact ⟨rfl, rfl⟩
              case rest =>
                obtain ⟨rfl, hwc⟩ := hcut
                rw [← hwc] at HX
                clear hwc
                have hs1 : (sgn l : Int) + (n : Int) ≤ ((sb l).size : Int) := by have := HN.out; rw [sb_size]; omega
                have hs2 : (0 : Int) ≤ (sgn l : Int) + (n : Int) := by omega
                have hs3 : (sgn l : Int) ≤ 2097152 := by have := HN.out; omega
                have hs4 : (n : Int) ≤ 2097152 := by have := HN.out; omega
                cases hp : Lib.parseIntB 64 (l.take (sgn l + n)) with
                | ok v =>
                  have HP := Aside0.mk hp
                  clear hp
                  go_upto_region 18 with (first
                    | (go_at_call 85; refine (rest_good HX.out).mono ?_; rintro e w4 ⟨rfl, h1⟩; clear HX; have HX := Aside0.mk h1; clear h1)
                    | (go_at_call 87; refine (cut_ok l (sgn l + n) v (by have := HN.out; omega) HP.out _).mono ?_; rintro e w5 ⟨rfl, hb⟩; have n0_ := Aside0.mk (HX.out.below hb); clear HX hb; have HX := n0_; clear n0_))
                  obtain ⟨at2, hk2, ha0, ha1, hX2⟩ := HX.out.adv (sgn l + n) (by have := HN.out; omega)
                  have HX2 := Aside0.mk hX2
                  have p1 := (blk_cell hk2 1).trans rfl
                  have p2 := blk_frozen hk2 1
                  clear hk2 hX2
                  go_wp2_with fail
                  go_ret
                  refine ⟨v, _, rfl, ?_, pst_good (num_read HT.out H0.out H48.out v HP.out)⟩
                  have hh := HX2.out
                  rw [show (at2 : Int) + ((sgn l + n : Nat) : Int) = at2 + ((sgn l : Int) + (n : Int)) from by omega] at hh
                  exact hh
                | range =>
                  have HO := Aside0.mk (num_over HT.out H0.out H48.out hp)
                  have HP := Aside0.mk hp
                  clear hp
                  have hs5 : (19 : Int) ≤ (n : Int) := by have := HO.out.1; omega
                  have hs6 : (sgn l : Int) + 19 ≤ ((sb l).size : Int) := by omega
                  go_upto_region 18 with (first
                    | (go_at_call 85; refine (rest_good HX.out).mono ?_; rintro e w4 ⟨rfl, h1⟩; clear HX; have HX := Aside0.mk h1; clear h1)
                    | (go_at_call 87; refine (cut_range l (sgn l + n) (by have := HN.out; omega) HP.out _ (HV.out.below HX.out.bel)).mono ?_; rintro e w5 ⟨⟨n5, N5, rfl⟩, hb⟩; have n0_ := Aside0.mk (HX.out.below hb); clear HX hb; have HX := n0_; clear n0_))
                  cases hp : Lib.parseIntB 64 (l.take (sgn l + 19)) with
                  | ok v =>
                    have HP2 := Aside0.mk hp
                    have HF := Aside0.mk (HO.out.2.2 v hp)
                    clear hp
                    go_upto_region 23 with (first
                      | (go_at_call 85; refine (rest_good HX.out).mono ?_; rintro e w6 ⟨rfl, h1⟩; clear HX; have HX := Aside0.mk h1; clear h1)
                      | (go_at_call 87; refine (cut_ok l (sgn l + 19) v (by have := HN.out; omega) HP2.out _).mono ?_; rintro e w7 ⟨rfl, hb⟩; have n0_ := Aside0.mk (HX.out.below hb); clear HX hb; have HX := n0_; clear n0_))
                    have hsum : (sgn l : Int) + 20 - 1 = ((sgn l + 19 : Nat) : Int) := by omega
                    go_wp2_with (go_at_call 59; refine (fail_calls HX.out _ (sgn l + 19) (by first | rfl | omega) (by have := HN.out; have := HF.out.1; omega)).mono ?_; rintro e w8 ⟨rfl, h1⟩; clear HX; have HX := Aside0.mk h1; clear h1)
                    go_ret
                    exact ⟨0, _, rfl, HX.out, pst_bad HF.out.2⟩
                  | range =>
                    have HP2 := Aside0.mk hp
                    have HF := Aside0.mk (HO.out.2.1 hp)
                    clear hp
                    go_upto_region 23 with (first
                      | (go_at_call 85; refine (rest_good HX.out).mono ?_; rintro e w6 ⟨rfl, h1⟩; clear HX; have HX := Aside0.mk h1; clear h1)
                      | (go_at_call 87; refine (cut_range l (sgn l + 19) (by have := HN.out; omega) HP2.out _ (HV.out.below HX.out.bel)).mono ?_; rintro e w7 ⟨⟨n7, N7, rfl⟩, hb⟩; have n0_ := Aside0.mk (HX.out.below hb); clear HX hb; have HX := n0_; clear n0_))
                    go_wp2_with (go_at_call 59; refine (fail_calls HX.out _ (sgn l + 18) (by first | rfl | omega) (by have := HN.out; have := HO.out.1; omega)).mono ?_; rintro e w8 ⟨rfl, h1⟩; clear HX; have HX := Aside0.mk h1; clear h1)
                    go_ret
                    exact ⟨0, _, rfl, HX.out, pst_bad HF.out⟩
                  | _ => exact absurd hp (num_no_syntax HT.out H0.out H48.out 19 HO.out.1 (by decide))
                | _ => exact absurd hp (num_no_syntax HT.out H0.out H48.out n (Nat.le_refl _) H0.out)
end Go.Proofs.YtnbfebjcfhbhiaaDoor.Lw
end
section
namespace Go.Proofs.YtnbfebjcfhbhiaaDoor.P
open Go.RowKit Go.Proofs.YtnbfebjcfhbhiaaDoorW.PrintWords Go.Proofs.YtnbfebjcfhbhiaaDoorW.PrintLast Go.Proofs.YtnbfebjcfhbhiaaDoorW.PrintMore
attribute [local go_sem] max2_int min2_int max_two min_two max_three min_three max_four min_four   -- for this text's walks alone
set_option linter.unusedVariables false
set_option linter.unusedSimpArgs false

theorem eqA43 (d : Nat) (w : World) (x0 y0 : Int) (x1 y1 : Int) :
    (Op.equalIn (d + 2) 43 (.agg #[.int .i64 x0, .int .i64 x1]) (.agg #[.int .i64 y0, .int .i64 y1])).run Tryd.prog w = .ok (x0 == y0 && (x1 == y1)) w := by
  refine eqA_of Tryd.underlying43 (by kernel_rfl) ?_
  refine eqf_cons (by rfl) (by go_simp; rfl) (by go_simp; rfl) (by go_simp) ?_
  exact eqf_last (by rfl) (by go_simp; rfl) (by go_simp; rfl) (by go_simp)
end Go.Proofs.YtnbfebjcfhbhiaaDoor.P
end
section
namespace Go.Proofs.YtnbfebjcfhbhiaaDoor.P
open Go.RowKit Go.Proofs.YtnbfebjcfhbhiaaDoorW.PrintWords Go.Proofs.YtnbfebjcfhbhiaaDoorW.PrintLast Go.Proofs.YtnbfebjcfhbhiaaDoorW.PrintMore
attribute [local go_sem] max2_int min2_int max_two min_two max_three min_three max_four min_four   -- for this text's walks alone
set_option linter.unusedVariables false
set_option linter.unusedSimpArgs false

theorem eqA45 (d : Nat) (w : World) (x0 y0 : Int) (x1 y1 : ByteArray) (x2 y2 : Int) (x3 y3 : Int) :
    (Op.equalIn (d + 2) 45 (.agg #[.int .i64 x0, .string x1, .int .i64 x2, .int .i64 x3]) (.agg #[.int .i64 y0, .string y1, .int .i64 y2, .int .i64 y3])).run Tryd.prog w = .ok (x0 == y0 && (x1.toList == y1.toList && (x2 == y2 && (x3 == y3)))) w := by
  refine eqA_of Tryd.underlying45 (by kernel_rfl) ?_
  refine eqf_cons (by rfl) (by go_simp; rfl) (by go_simp; rfl) (by go_simp) ?_
  refine eqf_cons (by rfl) (by go_simp; rfl) (by go_simp; rfl) (by go_simp) ?_
  refine eqf_cons (by rfl) (by go_simp; rfl) (by go_simp; rfl) (by go_simp) ?_
  exact eqf_last (by rfl) (by go_simp; rfl) (by go_simp; rfl) (by go_simp)
end Go.Proofs.YtnbfebjcfhbhiaaDoor.P
end
