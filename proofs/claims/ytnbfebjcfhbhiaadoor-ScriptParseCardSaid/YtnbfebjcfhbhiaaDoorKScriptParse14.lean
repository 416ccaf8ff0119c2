/- texts that the proof needs, laid together by a program of this session. -/
import Derived.Test.YtnbfebjcfhbhiaaDoorKScriptParse13
section
namespace Go.Proofs.YtnbfebjcfhbhiaaDoor.Sc
open Go Go.RowKit Go.Proofs.YtnbfebjcfhbhiaaDoor.P Go.Proofs.YtnbfebjcfhbhiaaDoorW.PrintWords Go.Proofs.YtnbfebjcfhbhiaaDoorW.PrintLast Go.Proofs.YtnbfebjcfhbhiaaDoorW.PrintMore
set_option linter.unusedVariables false
set_option linter.unusedSimpArgs false
/-- Where l begins in a. -/
def pos (a l : By) : Int := (a.length : Int) - l.length
/-- The reader's state. -/
def RdAt (a : By) (s : R Unit) (at_ : Int) (bd : Bool) : Prop := match s with
  | .good _ l => bd = false ∧ l <:+ a ∧ at_ = pos a l
  | .bad l => bd = true ∧ l <:+ a ∧ at_ = pos a l
/-- What a step answers: what p reads; once bad, still bad. -/
def Post {α : Type} (p : Rd α) (s : R Unit) (x : α) (s' : R Unit) : Prop := match s with
  | .bad l => s' = .bad l
  | .good _ l => match p l with
    | .bad r => s' = .bad r
    | .good y r => x = y ∧ s' = .good () r
theorem Post.bnd {α β : Type} {p : Rd α} {f : α → Rd β} {s s1 s2 : R Unit} {x : α} {y : β} (h1 : Post p s x s1) (h2 : Post (f x) s1 y s2) : Post (fun l => (p l).bnd f) s y s2 := by
  cases s with
  | bad l =>
    simp only [Post] at h1
    subst h1
    exact h2
  | good u l =>
    simp only [Post] at h1 ⊢
    cases hp : p l with
    | bad r =>
      rw [hp] at h1
      simp only at h1
      subst h1
      exact h2
    | good z r =>
      rw [hp] at h1
      simp only at h1
      obtain ⟨rfl, rfl⟩ := h1
      exact h2
theorem Post.ret {α : Type} (x : α) (s : R Unit) : Post (fun l => .good x l) s x s := by
  cases s with
  | bad l => rfl
  | good u l => exact ⟨rfl, rfl⟩
theorem Post.congr {α : Type} {p q : Rd α} {s s' : R Unit} {x : α} (h : Post p s x s') (e : ∀ l, q l = p l) : Post q s x s' := by
  have : q = p := funext e
  rw [this]; exact h
def hd (l : By) : Int := match l with
  | [] => -1
  | c :: _ => (c.toNat : Int)
theorem sb_size (a : By) : (sb a).size = a.length := by rw [← bs_len, bs_sb]
theorem suf_len {a l : By} (h : l <:+ a) : l.length ≤ a.length := h.length_le
theorem pos_le {a l : By} (h : l <:+ a) : 0 ≤ pos a l ∧ pos a l ≤ a.length := by have := suf_len h; unfold pos; omega
theorem pos_cons {a l : By} {c : UInt8} (h : (c :: l) <:+ a) : pos a l = pos a (c :: l) + 1 := by unfold pos; simp only [List.length_cons]; omega
theorem suf_tail {a l : By} {c : UInt8} (h : (c :: l) <:+ a) : l <:+ a := (List.suffix_cons c l).trans h
theorem wrap_pos {a l : By} {c : UInt8} (h : (c :: l) <:+ a) (ha : a.length ≤ 1048576) : wrap64 (pos a (c :: l) + 1) = pos a l := by
  have h1 := pos_le h
  rw [pos_cons h, w64 (by omega) (by omega)]
theorem next_f {a l : By} (h : l <:+ a) (ha : a.length ≤ 1048576) (bd : Bool) : sluiceref18_reader_next.f (sb a) (pos a l) bd = some (hd l, sb a, pos a l, bd) := by
  obtain ⟨pre, rfl⟩ := h
  have hp : pos (pre ++ l) l = (pre.length : Int) := by unfold pos; simp
  rw [hp]
  unfold sluiceref18_reader_next.f
  rw [sb_size]
  cases l with
  | nil => rw [if_pos (by simp)]; rfl
  | cons c l =>
    have hlt : pre.length < (bs (sb (pre ++ c :: l))).length := by rw [bs_sb]; simp
    have hb := bt_bs (sb (pre ++ c :: l)) pre.length hlt
    have hg : (bs (sb (pre ++ c :: l)))[pre.length]'hlt = c := by simp [bs_sb]
    rw [hg] at hb
    have := c.toNat_lt
    rw [if_neg (by simp; omega), if_pos (by omega), if_pos (by simp; omega), hb, w64 (by omega) (by omega)]
    rfl
/-- This very byte. -/
theorem want_f {a : By} {s : R Unit} {at_ : Int} {bd : Bool} (h : RdAt a s at_ bd) (ha : a.length ≤ 1048576) (c : UInt8) :
    ∃ s' at' bd', sluiceref18_reader_want.f (sb a) at_ bd (c.toNat : Int) = some (sb a, at', bd') ∧ RdAt a s' at' bd' ∧ Post (byteP c) s () s' := by
  cases s with
  | bad l =>
    obtain ⟨rfl, h1, h2⟩ := h
    exact ⟨.bad l, at_, true, by unfold sluiceref18_reader_want.f; rw [if_pos rfl], ⟨rfl, h1, h2⟩, rfl⟩
  | good u l =>
    obtain ⟨rfl, h1, rfl⟩ := h
    unfold sluiceref18_reader_want.f
    rw [if_neg (by decide), next_f h1 ha, Option.bind_some]
    cases l with
    | nil => exact ⟨.bad [], pos a [], true, by rw [if_neg (by simp only [hd]; omega)], ⟨rfl, h1, rfl⟩, rfl⟩
    | cons x l =>
      by_cases hx : x = c
      · subst hx
        exact ⟨.good () l, pos a l, false, by simp only []; rw [if_pos (show hd (x :: l) = (x.toNat : Int) from rfl), wrap_pos h1 ha], ⟨rfl, suf_tail h1, rfl⟩, by simp [Post, byteP]⟩
      · exact ⟨.bad (x :: l), pos a (x :: l), true, by rw [if_neg (fun e => hx (UInt8.toNat_inj.1 (by simp only [hd] at e; omega)))], ⟨rfl, h1, rfl⟩, by simp [Post, byteP, hx]⟩
def Lof (neg : Bool) : Nat := if neg then maxI + 1 else maxI
theorem least_lt {L m d : Nat} (hd : d ≤ 9) (hL : 9 ≤ L) (hL2 : L ≤ 9223372036854775808) : (-(m : Int) < wrap64 (Int.tdiv (wrap64 (-(L : Int) + (d : Int))) 10)) ↔ L < 10 * m + d := by
  rw [w64 (n := -(L : Int) + (d : Int)) (by omega) (by omega)]
  have e : -(L : Int) + (d : Int) = -(((L - d : Nat)) : Int) := by omega
  have e2 : Int.tdiv (-(L : Int) + (d : Int)) 10 = -((((L - d) / 10 : Nat)) : Int) := by
    rw [e, Int.neg_tdiv]
    rfl
  rw [e2, w64 (by omega) (by omega)]
  omega
def numRes (a : By) (neg : Bool) : R Nat → Int × ByteArray × Int × Bool
  | .good m r => (if neg then -(m : Int) else (m : Int), sb a, pos a r, false)
  | .bad r => (0, sb a, pos a r, true)
theorem isDig_hd {c : UInt8} : isDig c = true ↔ 48 ≤ c.toNat ∧ c.toNat ≤ 57 := by simp [isDig]
theorem num_go (a : By) (ha : a.length ≤ 1048576) (neg : Bool) : ∀ (l : By) (m : Nat), 1 ≤ m → m ≤ Lof neg → l <:+ a →
    Ev (fun k => sluiceref18_reader_number.l0 k neg (hd l) (-(m : Int)) (sb a) (pos a l) false) (numRes a neg (numGo (Lof neg) m l)) := by
  have hL : 9 ≤ Lof neg ∧ Lof neg ≤ 9223372036854775808 := by cases neg <;> decide
  have stop : ∀ (l : By) (m : Nat), 1 ≤ m → m ≤ Lof neg → (∀ c r, l = c :: r → ¬ isDig c = true) → Ev (fun k => sluiceref18_reader_number.l0 k neg (hd l) (-(m : Int)) (sb a) (pos a l) false) (numRes a neg (.good m l)) := fun l m h1 h2 hn => by
    have hj : ∀ k, sluiceref18_reader_number.j3 (k + 1) neg (hd l) (-(m : Int)) false (sb a) (pos a l) false = some (numRes a neg (.good m l)) := fun k => by
      rw [sluiceref18_reader_number.j3, if_neg (by decide)]
      cases neg with
      | true => rfl
      | false =>
        have : (m : Int) ≤ 9223372036854775807 := by have : m ≤ 9223372036854775807 := h2; omega
        rw [if_neg (by decide), Int.neg_neg, w64 (by omega) (by omega)]
        rfl
    refine Ev.step (f := fun k => sluiceref18_reader_number.j3 k neg (hd l) (-(m : Int)) false (sb a) (pos a l) false) (fun k => ?_) (Ev.step (f := fun _ => some (numRes a neg (.good m l))) hj (Ev.now _))
    rw [sluiceref18_reader_number.l0]
    cases l with
    | nil => rw [if_neg (by simp only [hd]; omega)]
    | cons c r =>
      have hd2 := hn c r rfl
      rw [isDig_hd] at hd2
      by_cases h48 : hd (c :: r) ≥ 48
      · rw [if_pos h48]
        have : decide (hd (c :: r) ≤ 57) = false := decide_eq_false (by simp only [hd] at *; omega)
        rw [this]
      · rw [if_neg h48]
  intro l
  induction l with
  | nil => intro m h1 h2 hs; exact stop [] m h1 h2 (fun _ _ h => by cases h)
  | cons c l ih =>
    intro m h1 h2 hs
    by_cases hd2 : isDig c = true
    · have hc := isDig_hd.1 hd2
      have hw : wrap64 (hd (c :: l) - 48) = ((c.toNat - 48 : Nat) : Int) := by simp only [hd]; rw [w64 (by omega) (by omega)]; omega
      have hx : hd (c :: l) ≤ 57 := by simp only [hd]; omega
      have hlt := least_lt (L := Lof neg) (m := m) (d := c.toNat - 48) (by omega) hL.1 hL.2
      refine Ev.step (f := fun k => sluiceref18_reader_number.j3 k neg (hd (c :: l)) (-(m : Int)) true (sb a) (pos a (c :: l)) false) (fun k => ?_) (Ev.step (f := fun k => sluiceref18_reader_number.j4 k neg (-(m : Int)) ((c.toNat - 48 : Nat) : Int) (-(Lof neg : Int)) (sb a) (pos a (c :: l)) false) (fun k => ?_) ?_)
      · rw [sluiceref18_reader_number.l0, if_pos (by simp only [hd]; omega), decide_eq_true hx]
      · rw [sluiceref18_reader_number.j3, if_pos rfl, hw]
        cases neg <;> rfl
      · by_cases hb : Lof neg < 10 * m + (c.toNat - 48)
        · refine Ev.step (f := fun _ => some (numRes a neg (.bad (c :: l)))) (fun k => ?_) ?_
          · rw [sluiceref18_reader_number.j4, if_pos (hlt.2 hb)]; rfl
          · have : numGo (Lof neg) m (c :: l) = .bad (c :: l) := by simp [numGo, hd2, hb]
            rw [this]; exact Ev.now _
        · have e : numGo (Lof neg) m (c :: l) = numGo (Lof neg) (10 * m + (c.toNat - 48)) l := by simp [numGo, hd2, hb]
          rw [e]
          have hi := ih (10 * m + (c.toNat - 48)) (by omega) (by omega) (suf_tail hs)
          have hn : wrap64 (wrap64 (10 * -(m : Int)) - ((c.toNat - 48 : Nat) : Int)) = -((10 * m + (c.toNat - 48) : Nat) : Int) := by
            have := hL.2
            rw [w64 (n := 10 * -(m : Int)) (by omega) (by omega), w64 (by omega) (by omega)]
            omega
          refine Ev.step (fun k => ?_) hi
          rw [sluiceref18_reader_number.j4, if_neg (fun h => hb (hlt.1 h)), hn, if_neg (by omega), wrap_pos hs ha, next_f (suf_tail hs) ha, Option.bind_some]
    · have e : numGo (Lof neg) m (c :: l) = .good m (c :: l) := by simp [numGo, hd2]
      rw [e]
      exact stop (c :: l) m h1 h2 (fun c' r' h => by cases h; exact hd2)
theorem nat_go (a : By) (ha : a.length ≤ 1048576) (neg : Bool) (l : By) (hs : l <:+ a) :
    Ev (fun k => sluiceref18_reader_number.j0 k false neg (sb a) (pos a l) false) (numRes a neg (natP (Lof neg) neg l)) := by
  have hL : 9 ≤ Lof neg ∧ Lof neg ≤ 9223372036854775808 := by cases neg <;> decide
  have badk : Ev (fun k => sluiceref18_reader_number.j1 k neg (hd l) true (sb a) (pos a l) false) (0, sb a, pos a l, true) :=
    Ev.step (f := fun _ => some (0, sb a, pos a l, true)) (fun k => by rw [sluiceref18_reader_number.j1, if_pos rfl]) (Ev.now _)
  cases l with
  | nil =>
    refine Ev.step (fun k => ?_) badk
    rw [sluiceref18_reader_number.j0, next_f hs ha, Option.bind_some, if_pos (by simp only [hd]; omega)]
  | cons c l =>
    by_cases hd2 : isDig c = true
    · have hc := isDig_hd.1 hd2
      have hw : wrap64 (hd (c :: l) - 48) = ((c.toNat - 48 : Nat) : Int) := by simp only [hd]; rw [w64 (by omega) (by omega)]; omega
      have hx : hd (c :: l) ≤ 57 := by simp only [hd]; omega
      -- the first digit
      have first : Ev (fun k => sluiceref18_reader_number.j1 k neg (hd (c :: l)) false (sb a) (pos a (c :: l)) false) (numRes a neg (if c.toNat = 48 then .good 0 l else numGo (Lof neg) (c.toNat - 48) l)) := by
        have hlt := least_lt (L := Lof neg) (m := 0) (d := c.toNat - 48) (by omega) hL.1 hL.2
        refine Ev.step (f := fun k => sluiceref18_reader_number.l0 k neg (hd (c :: l)) 0 (sb a) (pos a (c :: l)) false) (fun k => by rw [sluiceref18_reader_number.j1, if_neg (by decide)]) (Ev.step (f := fun k => sluiceref18_reader_number.j3 k neg (hd (c :: l)) 0 true (sb a) (pos a (c :: l)) false) (fun k => ?_) (Ev.step (f := fun k => sluiceref18_reader_number.j4 k neg 0 ((c.toNat - 48 : Nat) : Int) (-(Lof neg : Int)) (sb a) (pos a (c :: l)) false) (fun k => ?_) ?_))
        · rw [sluiceref18_reader_number.l0, if_pos (by simp only [hd]; omega), decide_eq_true hx]
        · rw [sluiceref18_reader_number.j3, if_pos rfl, hw]
          cases neg <;> rfl
        · have hno : ¬ ((0 : Int) < wrap64 (Int.tdiv (wrap64 (-(Lof neg : Int) + ((c.toNat - 48 : Nat) : Int))) 10)) := fun h => by
            have := hlt.1 (by simpa using h)
            omega
          have hn : wrap64 (wrap64 (10 * (0 : Int)) - ((c.toNat - 48 : Nat) : Int)) = -((c.toNat - 48 : Nat) : Int) := by
            rw [w64 (n := 10 * (0 : Int)) (by omega) (by omega), w64 (by omega) (by omega)]
            omega
          by_cases h0 : c.toNat = 48
          · rw [if_pos h0]
            refine Ev.step (f := fun _ => some (numRes a neg (.good 0 l))) (fun k => ?_) (Ev.now _)
            rw [sluiceref18_reader_number.j4, if_neg hno, hn, if_pos (by omega), wrap_pos hs ha]
            cases neg <;> rfl
          · rw [if_neg h0]
            have hi := num_go a ha neg l (c.toNat - 48) (by omega) (by omega) (suf_tail hs)
            refine Ev.step (fun k => ?_) hi
            rw [sluiceref18_reader_number.j4, if_neg hno, hn, if_neg (by omega), wrap_pos hs ha, next_f (suf_tail hs) ha, Option.bind_some]
      by_cases h0 : c.toNat = 48
      · have h48 : hd (c :: l) = 48 := by simp only [hd]; omega
        cases neg with
        | true =>
          have e : natP (Lof true) true (c :: l) = .bad (c :: l) := by simp [natP, hd2, h0]
          rw [e]
          refine Ev.step (fun k => ?_) badk
          rw [sluiceref18_reader_number.j0, next_f hs ha, Option.bind_some]
          simp only
          rw [if_neg (by omega), if_neg (by omega), if_pos h48, if_pos trivial]
        | false =>
          have e : natP (Lof false) false (c :: l) = .good 0 l := by simp [natP, hd2, h0]
          rw [e]
          rw [if_pos h0] at first
          refine Ev.step (fun k => ?_) first
          rw [sluiceref18_reader_number.j0, next_f hs ha, Option.bind_some]
          simp only
          rw [if_neg (by omega), if_neg (by omega), if_pos h48, if_neg (by decide)]
      · have e : natP (Lof neg) neg (c :: l) = numGo (Lof neg) (c.toNat - 48) l := by simp [natP, hd2, h0]
        rw [e]
        rw [if_neg h0] at first
        refine Ev.step (fun k => ?_) first
        have h48 : ¬ hd (c :: l) = 48 := by simp only [hd]; omega
        rw [sluiceref18_reader_number.j0, next_f hs ha, Option.bind_some]
        simp only
        rw [if_neg (by simp only [hd]; omega), if_neg (by omega), if_neg h48]
    · have e : natP (Lof neg) neg (c :: l) = .bad (c :: l) := by simp [natP, hd2]
      rw [e]
      have hd3 : ¬ (48 ≤ c.toNat ∧ c.toNat ≤ 57) := fun h => hd2 (isDig_hd.2 h)
      refine Ev.step (fun k => ?_) badk
      rw [sluiceref18_reader_number.j0, next_f hs ha, Option.bind_some]
      simp only
      by_cases h48 : hd (c :: l) < 48
      · rw [if_pos h48]
      · rw [if_neg h48, if_pos (by simp only [hd] at *; omega)]
/-- A number. -/
theorem number_f {a : By} {s : R Unit} {at_ : Int} {bd : Bool} (h : RdAt a s at_ bd) (ha : a.length ≤ 1048576) :
    ∃ x s' at' bd' K, sluiceref18_reader_number.f K (sb a) at_ bd false = some (x, sb a, at', bd') ∧ RdAt a s' at' bd' ∧ Post numP s x s' := by
  cases s with
  | bad l =>
    obtain ⟨rfl, h1, h2⟩ := h
    exact ⟨0, .bad l, at_, true, 0, by unfold sluiceref18_reader_number.f; rw [if_pos rfl], ⟨rfl, h1, h2⟩, rfl⟩
  | good u l =>
    obtain ⟨rfl, h1, rfl⟩ := h
    -- what is read at a place
    have fin : ∀ (neg : Bool) (l2 : By), l2 <:+ a → ∀ (q : R Nat), natP (Lof neg) neg l2 = q → q.left <:+ a := fun neg l2 hs q hq => by
      have := loc_suf (natP_loc (Lof neg) neg) l2
      rw [hq] at this
      exact this.trans hs
    by_cases hm : l.head? = some 45
    · obtain ⟨l2, rfl⟩ : ∃ l2, l = 45 :: l2 := by cases l with
        | nil => cases hm
        | cons c r => simp at hm; exact ⟨r, by rw [hm]⟩
      obtain ⟨K, hK⟩ := (nat_go a ha true l2 (suf_tail h1)).rounds
      have hf : sluiceref18_reader_number.f K (sb a) (pos a (45 :: l2)) false false = some (numRes a true (natP (Lof true) true l2)) := by
        unfold sluiceref18_reader_number.f
        rw [if_neg (by decide), next_f h1 ha, Option.bind_some]
        simp only
        rw [if_pos (show hd (45 :: l2) = 45 from rfl), wrap_pos h1 ha]
        exact hK
      cases hq : natP (Lof true) true l2 with
      | good m r =>
        rw [hq] at hf
        refine ⟨_, .good () r, _, _, K, hf, ⟨rfl, fin true l2 (suf_tail h1) _ hq, rfl⟩, ?_⟩
        have : natP (maxI + 1) true l2 = .good m r := hq
        simp [Post, numP, this, R.bnd]
      | bad r =>
        rw [hq] at hf
        refine ⟨_, .bad r, _, _, K, hf, ⟨rfl, fin true l2 (suf_tail h1) _ hq, rfl⟩, ?_⟩
        have : natP (maxI + 1) true l2 = .bad r := hq
        simp [Post, numP, this, R.bnd]
    · obtain ⟨K, hK⟩ := (nat_go a ha false l h1).rounds
      have hne : ¬ hd l = 45 := by
        cases l with
        | nil => simp [hd]
        | cons c r =>
          intro e
          refine hm ?_
          have : c = 45 := UInt8.toNat_inj.1 (by simp only [hd] at e; show c.toNat = 45; omega)
          rw [this]; rfl
      have hf : sluiceref18_reader_number.f K (sb a) (pos a l) false false = some (numRes a false (natP (Lof false) false l)) := by
        unfold sluiceref18_reader_number.f
        rw [if_neg (by decide), next_f h1 ha, Option.bind_some]
        simp only
        rw [if_neg hne, show (hd l == 45) = false from beq_eq_false_iff_ne.2 hne]
        exact hK
      cases hq : natP (Lof false) false l with
      | good m r =>
        rw [hq] at hf
        refine ⟨_, .good () r, _, _, K, hf, ⟨rfl, fin false l h1 _ hq, rfl⟩, ?_⟩
        have : natP maxI false l = .good m r := hq
        simp [Post, numP, hm, this, R.bnd]
      | bad r =>
        rw [hq] at hf
        refine ⟨_, .bad r, _, _, K, hf, ⟨rfl, fin false l h1 _ hq, rfl⟩, ?_⟩
        have : natP maxI false l = .bad r := hq
        simp [Post, numP, hm, this, R.bnd]
end Go.Proofs.YtnbfebjcfhbhiaaDoor.Sc
end
section
namespace Go.Proofs.YtnbfebjcfhbhiaaDoor.Sc
open Go Go.RowKit Go.Proofs.YtnbfebjcfhbhiaaDoor.P Go.Proofs.YtnbfebjcfhbhiaaDoorW.PrintWords Go.Proofs.YtnbfebjcfhbhiaaDoorW.PrintLast Go.Proofs.YtnbfebjcfhbhiaaDoorW.PrintMore
set_option linter.unusedVariables false
set_option linter.unusedSimpArgs false
def plI (x : Int) : Bool := decide (97 ≤ x ∧ x ≤ 122 ∨ 65 ≤ x ∧ x ≤ 90 ∨ 48 ≤ x ∧ x ≤ 57 ∨ x = 95 ∨ x = 46)
theorem rplain_f (x : Int) : sluiceref18_Plain.f x = some (plI x) := by
  have key : ∀ b : Bool, (b = true ↔ (97 ≤ x ∧ x ≤ 122 ∨ 65 ≤ x ∧ x ≤ 90 ∨ 48 ≤ x ∧ x ≤ 57 ∨ x = 95 ∨ x = 46)) → some b = some (plI x) := fun b h => by
    congr 1
    unfold plI
    rw [Bool.eq_iff_iff, h, decide_eq_true_iff]
  unfold sluiceref18_Plain.f
  repeat' split
  all_goals (refine key _ ?_; first | (simp only [true_iff]; omega) | (rw [beq_iff_eq]; omega))
theorem plI_hd (c : UInt8) (l : By) : plI (hd (c :: l)) = plainB c := by
  unfold plI plainB hd
  rw [Bool.eq_iff_iff]
  simp only [decide_eq_true_iff, Bool.or_eq_true, Bool.and_eq_true, beq_iff_eq]
  omega
theorem plI_nil : plI (hd []) = false := by decide
def dgI (x : Int) : Int := if 48 ≤ x ∧ x ≤ 57 then x - 48 else if 65 ≤ x ∧ x ≤ 70 then x - 55 else -1
theorem digit_ev (x : Int) (h0 : -1 ≤ x) (h1 : x ≤ 255) : Ev (fun k => sluiceref18_digit.f k x) (dgI x) := by
  have hj : ∀ b : Bool, (b = true ↔ 48 ≤ x ∧ x ≤ 57) → Ev (fun k => sluiceref18_digit.j0 k x b) (dgI x) := fun b hb => by
    refine Ev.step (f := fun _ => some (dgI x)) (fun k => ?_) (Ev.now _)
    rw [sluiceref18_digit.j0]
    unfold dgI
    by_cases h : 48 ≤ x ∧ x ≤ 57
    · rw [if_pos (hb.2 h), if_pos h, w64 (by omega) (by omega)]
    · rw [if_neg (fun e => h (hb.1 e)), if_neg h]
      by_cases h65 : x ≥ 65
      · rw [if_pos h65]
        by_cases h70 : x ≤ 70
        · rw [if_pos h70, if_pos ⟨h65, h70⟩, w64 (n := x - 65) (by omega) (by omega), w64 (by omega) (by omega)]
          congr 1
          omega
        · rw [if_neg h70, if_neg (fun e => h70 e.2)]
      · rw [if_neg h65, if_neg (fun e => h65 e.1)]
  by_cases h48 : x ≥ 48
  · exact Ev.congr (fun k => by unfold sluiceref18_digit.f; rw [if_pos h48]) (hj _ (by rw [decide_eq_true_iff]; omega))
  · exact Ev.congr (fun k => by unfold sluiceref18_digit.f; rw [if_neg h48]) (hj false (by simp; omega))
theorem hd_bound (l : By) : -1 ≤ hd l ∧ hd l ≤ 255 := by
  cases l with
  | nil => exact ⟨Int.le_refl _, by decide⟩
  | cons c l => have := c.toNat_lt; simp only [hd]; omega
theorem dgI_1 {x : Int} (h : 48 ≤ x ∧ x ≤ 57) : dgI x = x - 48 := if_pos h
theorem dgI_2 {x : Int} (h : 65 ≤ x ∧ x ≤ 70) : dgI x = x - 55 := by unfold dgI; rw [if_neg (by omega), if_pos h]
theorem dgI_3 {x : Int} (h : ¬ (48 ≤ x ∧ x ≤ 57)) (h2 : ¬ (65 ≤ x ∧ x ≤ 70)) : dgI x = -1 := by unfold dgI; rw [if_neg h, if_neg h2]
theorem hd_cons (c : UInt8) (l : By) : hd (c :: l) = (c.toNat : Int) := rfl
theorem dg_nil : dgI (hd []) = -1 := by decide
theorem dg_none {c : UInt8} {l : By} (h : hexV c = none) : dgI (hd (c :: l)) = -1 := by
  unfold hexV at h
  simp only [Bool.and_eq_true, decide_eq_true_eq] at h
  rw [hd_cons]
  split at h
  · cases h
  · split at h
    · cases h
    · exact dgI_3 (by omega) (by omega)
theorem dg_some {c : UInt8} {l : By} {v : Nat} (h : hexV c = some v) : dgI (hd (c :: l)) = (v : Int) ∧ v < 16 := by
  unfold hexV at h
  simp only [Bool.and_eq_true, decide_eq_true_eq] at h
  rw [hd_cons]
  split at h
  · cases h
    rw [dgI_1 (by omega)]
    omega
  · split at h
    · cases h
      rw [dgI_2 (by omega)]
      omega
    · cases h
theorem hexB_int {a b : Nat} (ha : a < 16) (hb : b < 16) : wrap64 (wrap64 (16 * (a : Int)) + (b : Int)) = ((hexB a b).toNat : Int) := by
  rw [w64 (n := 16 * (a : Int)) (by omega) (by omega), w64 (by omega) (by omega)]
  unfold hexB
  rw [UInt8.toNat_ofNat']
  omega
def txtRes (a x : By) : R By → List Int × ByteArray × Int × Bool
  | .good y r => (nums (x ++ y), sb a, pos a r, ((nums (x ++ y)).length : Int) == 0)
  | .bad r => ([], sb a, pos a r, true)
theorem txt_cons (a x : By) (c : UInt8) (q : R By) : txtRes a x (q.bnd fun y r => .good (c :: y) r) = txtRes a (x ++ [c]) q := by
  cases q with
  | good y r => simp only [R.bnd, txtRes]; rw [show x ++ c :: y = x ++ [c] ++ y by simp]
  | bad r => rfl
theorem text_go (a : By) (ha : a.length ≤ 1048576) : ∀ (n : Nat) (l x : By), l.length ≤ n → l <:+ a → x.length + l.length ≤ a.length →
    Ev (fun k => sluiceref18_reader_text.l0 k (nums x) (sb a) (pos a l) false) (txtRes a x (textGo l)) := by
  -- what stops it
  have stop : ∀ (l x : By), l <:+ a → plI (hd l) = false → hd l ≠ 37 → Ev (fun k => sluiceref18_reader_text.l0 k (nums x) (sb a) (pos a l) false) (txtRes a x (.good [] l)) := fun l x hs h1 h2 => by
    refine Ev.step (f := fun _ => some (txtRes a x (.good [] l))) (fun k => ?_) (Ev.now _)
    rw [sluiceref18_reader_text.l0, next_f hs ha, Option.bind_some]
    simp only
    rw [rplain_f, Option.bind_some, h1, if_neg (by decide), if_neg h2, if_neg (by decide)]
    simp only [txtRes, List.append_nil]
  have hn0 : ∀ x : By, (nums x).length = x.length := fun x => by simp [nums]
  have hmod : ∀ c : UInt8, ((c.toNat : Int)) % 256 = (c.toNat : Int) := fun c => by have := c.toNat_lt; omega
  have happ : ∀ (x : By) (c : UInt8), nums x ++ [(c.toNat : Int)] = nums (x ++ [c]) := fun x c => by simp [nums]
  intro n
  induction n with
  | zero =>
    intro l x hl hs hx
    obtain rfl : l = [] := List.eq_nil_of_length_eq_zero (by omega)
    exact stop [] x hs plI_nil (by decide)
  | succ n ih =>
    intro l x hl hs hx
    match l, hl, hs, hx with
    | [], _, hs, _ => exact stop [] x hs plI_nil (by decide)
    | c :: l, hl, hs, hx =>
      simp only [List.length_cons] at hl hx
      by_cases hp : plainB c = true
      · rw [textGo_plain hp, txt_cons]
        refine Ev.step (fun k => ?_) (ih l (x ++ [c]) (by omega) (suf_tail hs) (by simp; omega))
        rw [sluiceref18_reader_text.l0, next_f hs ha, Option.bind_some]
        simp only
        rw [rplain_f, Option.bind_some, plI_hd, if_pos hp, if_pos (by rw [hn0]; omega), wrap_pos hs ha]
        simp only [hd]
        rw [hmod, happ]
      · have hp2 : plI (hd (c :: l)) = false := by rw [plI_hd]; exact Bool.eq_false_iff.2 hp
        by_cases h37 : c.toNat = 37
        · rw [textGo_hex hp h37]
          have e37 : hd (c :: l) = 37 := by simp only [hd]; omega
          have hs1 := suf_tail hs
          -- behind the sign's first byte
          have head : ∀ {r : List Int × ByteArray × Int × Bool}, Ev (fun k => (sluiceref18_digit.f k (hd l)).bind fun t254 => (if t254 < 0 then (some (([] : List Int), sb a, pos a l, true)) else ((sluiceref18_reader_next.f (sb a) (wrap64 (pos a l + 1)) false).bind fun bt255 => ((sluiceref18_digit.f k bt255.1).bind fun t259 => ((sluiceref18_Plain.f (wrap64 ((wrap64 (16 * t254)) + t259))).bind fun t260 => (if t259 < 0 then (some (([] : List Int), bt255.2.1, bt255.2.2.1, true)) else (if t260 = true then (some (([] : List Int), bt255.2.1, bt255.2.2.1, true)) else (if (nums x).length < 140737488355328 then (sluiceref18_reader_text.l0 k (nums x ++ [(wrap64 ((wrap64 (16 * t254)) + t259)) % 256]) bt255.2.1 (wrap64 (bt255.2.2.1 + 1)) bt255.2.2.2) else (none))))))))) r → Ev (fun k => sluiceref18_reader_text.l0 k (nums x) (sb a) (pos a (c :: l)) false) r := fun hr => by
            refine Ev.step (fun k => ?_) hr
            rw [sluiceref18_reader_text.l0, next_f hs ha, Option.bind_some]
            simp only
            rw [rplain_f, Option.bind_some, hp2, if_neg (by decide), if_pos e37, wrap_pos hs ha, next_f hs1 ha, Option.bind_some]
          refine head ?_
          match l, hl, hs1, hx with
          | [], _, _, _ =>
            refine Ev.bind (digit_ev _ (hd_bound _).1 (hd_bound _).2) ?_
            rw [dg_nil]
            exact Ev.congr (fun k => by rw [if_pos (by decide)]; rfl) (Ev.now _)
          | h :: l1, hl, hs1, hx =>
            cases hv : hexV h with
            | none =>
              have e : hexG1 (h :: l1) = .bad (h :: l1) := by simp only [hexG1, hv]
              rw [e]
              refine Ev.bind (digit_ev _ (hd_bound _).1 (hd_bound _).2) ?_
              rw [dg_none hv]
              exact Ev.congr (fun k => by rw [if_pos (by decide)]; rfl) (Ev.now _)
            | some v =>
              have e : hexG1 (h :: l1) = hexG2 v l1 := by simp only [hexG1, hv]
              obtain ⟨hv1, hv2⟩ := dg_some (l := l1) hv
              have hs2 := suf_tail hs1
              rw [e]
              refine Ev.bind (digit_ev _ (hd_bound _).1 (hd_bound _).2) ?_
              rw [hv1]
              simp only [wrap_pos hs1 ha, next_f hs2 ha, Option.bind_some, if_neg (show ¬ (v : Int) < 0 by omega)]
              refine Ev.bind (digit_ev _ (hd_bound _).1 (hd_bound _).2) ?_
              simp only [rplain_f, Option.bind_some]
              match l1, hl, hs2, hx with
              | [], _, _, _ =>
                rw [dg_nil]
                exact Ev.congr (fun k => by rw [if_pos (by decide)]; rfl) (Ev.now _)
              | g :: l2, hl, hs2, hx =>
                cases hw : hexV g with
                | none =>
                  have e2 : hexG2 v (g :: l2) = .bad (g :: l2) := by simp only [hexG2, hw]
                  rw [e2, dg_none hw]
                  exact Ev.congr (fun k => by rw [if_pos (by decide)]; rfl) (Ev.now _)
                | some u =>
                  obtain ⟨hu1, hu2⟩ := dg_some (l := l2) hw
                  have hh := hexB_int hv2 hu2
                  have hpl : plI (wrap64 (wrap64 (16 * (v : Int)) + (u : Int))) = plainB (hexB v u) := by rw [hh]; exact plI_hd (hexB v u) []
                  rw [hu1, hpl]
                  by_cases hb : plainB (hexB v u) = true
                  · have e2 : hexG2 v (g :: l2) = .bad (g :: l2) := by simp only [hexG2, hw, hb, if_true]
                    rw [e2]
                    exact Ev.congr (fun k => by rw [if_neg (by omega), if_pos hb]; rfl) (Ev.now _)
                  · have e2 : hexG2 v (g :: l2) = (textGo l2).bnd (fun x r => .good (hexB v u :: x) r) := by simp only [hexG2, hw]; rw [if_neg hb]
                    rw [e2, txt_cons]
                    simp only [List.length_cons] at hl hx
                    refine Ev.congr (fun k => ?_) (ih l2 (x ++ [hexB v u]) (by omega) (suf_tail hs2) (by simp; omega))
                    rw [if_neg (by omega), if_neg hb, if_pos (by rw [hn0]; omega), hh, hmod, happ, wrap_pos hs2 ha]
        · rw [textGo_stop hp h37]
          exact stop (c :: l) x hs hp2 (by simp only [hd]; omega)
/-- A text word. -/
theorem text_f {a : By} {s : R Unit} {at_ : Int} {bd : Bool} (h : RdAt a s at_ bd) (ha : a.length ≤ 1048576) :
    ∃ x s' at' bd' K, sluiceref18_reader_text.f K (sb a) at_ bd = some (nums x, sb a, at', bd') ∧ RdAt a s' at' bd' ∧ Post textP s x s' := by
  cases s with
  | bad l =>
    obtain ⟨rfl, h1, h2⟩ := h
    exact ⟨[], .bad l, at_, true, 0, by unfold sluiceref18_reader_text.f; rw [if_pos rfl]; rfl, ⟨rfl, h1, h2⟩, rfl⟩
  | good u l =>
    obtain ⟨rfl, h1, rfl⟩ := h
    by_cases hm : l.head? = some 45
    · obtain ⟨l2, rfl⟩ : ∃ l2, l = 45 :: l2 := by cases l with
        | nil => cases hm
        | cons c r => simp at hm; exact ⟨r, by rw [hm]⟩
      refine ⟨[], .good () l2, pos a l2, false, 0, ?_, ⟨rfl, suf_tail h1, rfl⟩, by simp [Post, textP]⟩
      unfold sluiceref18_reader_text.f
      rw [if_neg (by decide), next_f h1 ha, Option.bind_some]
      simp only
      rw [if_pos (show hd (45 :: l2) = 45 from rfl), wrap_pos h1 ha]
      rfl
    · have hne : ¬ hd l = 45 := by
        cases l with
        | nil => simp [hd]
        | cons c r =>
          intro e
          refine hm ?_
          have : c = 45 := UInt8.toNat_inj.1 (by simp only [hd] at e; show c.toNat = 45; omega)
          rw [this]; rfl
      obtain ⟨K, hK⟩ := (text_go a ha l.length l [] (Nat.le_refl _) h1 (by have := suf_len h1; simp; exact this)).rounds
      have hf : sluiceref18_reader_text.f K (sb a) (pos a l) false = some (txtRes a [] (textGo l)) := by
        unfold sluiceref18_reader_text.f
        rw [if_neg (by decide), next_f h1 ha, Option.bind_some]
        simp only
        rw [if_neg hne]
        exact hK
      have hsuf := loc_suf (p := textGo) (fun t => textGo_loc t.length t (Nat.le_refl _)) l
      cases hq : textGo l with
      | good y r =>
        rw [hq] at hf hsuf
        simp only [R.left] at hsuf
        simp only [txtRes, List.nil_append] at hf
        by_cases hy : y = []
        · subst hy
          refine ⟨[], .bad r, pos a r, true, K, by rw [hf]; rfl, ⟨rfl, hsuf.trans h1, rfl⟩, ?_⟩
          simp [Post, textP, hm, hq, R.bnd]
        · refine ⟨y, .good () r, pos a r, false, K, ?_, ⟨rfl, hsuf.trans h1, rfl⟩, ?_⟩
          · rw [hf]
            have : ((nums y).length : Int) ≠ 0 := by
              cases y with
              | nil => exact absurd rfl hy
              | cons c y => simp [nums]; omega
            rw [beq_eq_false_iff_ne.2 this]
          · simp [Post, textP, hm, hq, R.bnd, hy]
      | bad r =>
        rw [hq] at hf hsuf
        refine ⟨[], .bad r, pos a r, true, K, hf, ⟨rfl, hsuf.trans h1, rfl⟩, ?_⟩
        simp [Post, textP, hm, hq, R.bnd]
end Go.Proofs.YtnbfebjcfhbhiaaDoor.Sc
end
section
namespace Go.Proofs.YtnbfebjcfhbhiaaDoor.Sc
open Go Go.RowKit Go.Proofs.YtnbfebjcfhbhiaaDoor.P Go.Proofs.YtnbfebjcfhbhiaaDoorW.PrintWords Go.Proofs.YtnbfebjcfhbhiaaDoorW.PrintLast Go.Proofs.YtnbfebjcfhbhiaaDoorW.PrintMore
set_option linter.unusedVariables false
set_option linter.unusedSimpArgs false
theorem begins_f (s p : ByteArray) : sluiceref18_begins.f s p = some (decide (bs p <+: bs s)) := by
  have h1 := bs_len s
  have h2 := bs_len p
  unfold sluiceref18_begins.f
  by_cases h : (s.size : Int) ≥ (p.size : Int)
  · rw [if_pos h, if_pos (by omega), if_pos (by omega)]
    congr 1
    rw [toList_bs, toList_bs, bs_extract, List.drop_zero, Int.toNat_natCast, ← h2, Bool.eq_iff_iff, beq_iff_eq, decide_eq_true_iff, List.prefix_iff_eq_take]
    exact ⟨fun e => e.symm, fun e => e.symm⟩
  · rw [if_neg h]
    congr 1
    refine (decide_eq_false fun e => ?_).symm
    have := e.length_le
    omega
theorem common_ge : ∀ (l w : By) (n : Nat), n ≤ l.length → (n ≤ common l w ↔ l.take n <+: w)
  | [], w, n, h => by
    obtain rfl : n = 0 := by simpa using h
    simp
  | c :: l, [], n, h => by
    cases n with
    | zero => simp
    | succ n => simp [common]
  | c :: l, d :: w, n, h => by
    cases n with
    | zero => simp
    | succ n =>
      have ih := common_ge l w n (by simpa using h)
      by_cases e : c = d
      · subst e
        simp only [common, if_true, List.take_succ_cons, List.cons_prefix_cons, true_and]
        rw [← ih]; omega
      · simp [common, e]
theorem maxC_some (l : By) : ∀ (ws : List By) (b : Nat), maxC ws b l = b ∨ ∃ w ∈ ws, maxC ws b l = common l w
  | [], b => .inl rfl
  | w :: ws, b => by
    show maxC ws (max b (common l w)) l = b ∨ ∃ v ∈ w :: ws, maxC ws (max b (common l w)) l = common l v
    rcases maxC_some l ws (max b (common l w)) with h | ⟨v, hv, h⟩
    · by_cases hb : common l w ≤ b
      · left; rw [h]; omega
      · right; exact ⟨w, .head _, by rw [h]; omega⟩
    · exact .inr ⟨v, .tail _ hv, h⟩
theorem any_max (l : By) (ws : List By) (n : Nat) (h : n < l.length) : (ws.any fun w => decide (l.take (n + 1) <+: w)) = decide (n + 1 ≤ maxC ws 0 l) := by
  rw [Bool.eq_iff_iff, List.any_eq_true, decide_eq_true_iff]
  constructor
  · rintro ⟨w, hw, h2⟩
    rw [decide_eq_true_iff] at h2
    exact Nat.le_trans ((common_ge l w (n + 1) h).2 h2) (maxC_mem l ws 0 w hw)
  · intro h2
    rcases maxC_some l ws 0 with h3 | ⟨w, hw, h3⟩
    · omega
    · exact ⟨w, hw, decide_eq_true ((common_ge l w (n + 1) h).1 (by omega))⟩
theorem rd_ws (ws1 : List By) (w : By) (ws2 : List By) : rdOf ByteArray.empty ((ws1 ++ w :: ws2).map sb) (ws1.length : Int) = sb w := by
  unfold rdOf
  simp [List.getD_eq_getElem?_getD]
theorem l0_end {pre l : By} {ws : List By} {r : Int × ByteArray × Int × Bool} (at_ : Int) (h : Ev (fun k => sluiceref18_reader_choose.l2 k (ws.map sb) (pre.length : Int) 0 (sb (pre ++ l)) at_ false) r) :
    Ev (fun k => sluiceref18_reader_choose.j1 k (ws.map sb) (pre.length : Int) false (sb (pre ++ l)) at_ false) r :=
  Ev.step (fun k => by rw [sluiceref18_reader_choose.j1, if_neg (by decide)]) h
section
variable {pre l : By} (ha : (pre ++ l).length ≤ 1048576) {ws : List By} (hw : ws.length ≤ 1000)
include ha hw
theorem l1_go (n : Nat) (hn : n < l.length) {r : Int × ByteArray × Int × Bool} : ∀ (ws2 ws1 : List By) (m : Bool), ws = ws1 ++ ws2 →
    Ev (fun k => if (m || ws2.any fun w => decide (l.take (n + 1) <+: w)) = true then sluiceref18_reader_choose.l0 k (ws.map sb) (pre.length : Int) (m || ws2.any fun w => decide (l.take (n + 1) <+: w)) (sb (pre ++ l)) ((pre.length + n + 1 : Nat) : Int) false else sluiceref18_reader_choose.l0 k (ws.map sb) (pre.length : Int) (m || ws2.any fun w => decide (l.take (n + 1) <+: w)) (sb (pre ++ l)) ((pre.length + n : Nat) : Int) false) r →
    Ev (fun k => sluiceref18_reader_choose.l1 k (ws.map sb) (pre.length : Int) m (ws1.length : Int) (sb (pre ++ l)) ((pre.length + n : Nat) : Int) false) r := by
  have hz : (sb (pre ++ l)).size = pre.length + l.length := by rw [sb_size]; simp
  have hlen : pre.length + l.length ≤ 1048576 := by simpa using ha
  have hw1 : wrap64 (((pre.length + n : Nat) : Int) + 1) = ((pre.length + n + 1 : Nat) : Int) := by rw [w64 (by omega) (by omega)]; omega
  intro ws2
  induction ws2 with
  | nil =>
    intro ws1 m he h
    simp only [List.any_nil, Bool.or_false] at h
    refine Ev.step (fun k => ?_) h
    have : ¬ ((ws1.length : Int) < ((ws.map sb).length : Int)) := by rw [he]; simp
    rw [sluiceref18_reader_choose.l1, if_neg this, hw1]
  | cons w ws2 ih =>
    intro ws1 m he h
    have hlt : (ws1.length : Int) < ((ws.map sb).length : Int) := by rw [he]; simp; omega
    have hw2 : wrap64 ((ws1.length : Int) + 1) = (((ws1 ++ [w]).length : Nat) : Int) := by
      have : ws1.length ≤ 1000 := by rw [he] at hw; simp at hw; omega
      rw [w64 (by omega) (by omega)]; simp
    have hx : bs ((sb (pre ++ l)).extract (pre.length : Int).toNat (((pre.length + n + 1 : Nat) : Int)).toNat) = l.take (n + 1) := by
      rw [bs_extract, bs_sb, Int.toNat_natCast, Int.toNat_natCast, show pre.length + n + 1 = pre.length + (n + 1) by omega, List.take_length_add_append, List.drop_left]
    have hrd : rdOf ByteArray.empty (ws.map sb) (ws1.length : Int) = sb w := by rw [he]; exact rd_ws ws1 w ws2
    have hi := ih (ws1 ++ [w]) (m || decide (l.take (n + 1) <+: w)) (by rw [he]; simp) (by
      rw [List.any_cons, ← Bool.or_assoc] at h
      exact h)
    refine Ev.step (fun k => ?_) hi
    rw [sluiceref18_reader_choose.l1, if_pos hlt, if_pos (by omega), if_pos (by omega), hw1, if_pos (by omega), if_pos (by omega), hrd, begins_f, Option.bind_some, hx, bs_sb, hw2]
    by_cases hd : l.take (n + 1) <+: w
    · rw [if_pos (decide_eq_true hd), decide_eq_true hd, Bool.or_true]
    · rw [if_neg (by simpa using hd), decide_eq_false hd, Bool.or_false]
theorem l2_none (M : Nat) (hM : M ≤ l.length) (hne : ∀ w ∈ ws, w ≠ l.take M) : ∀ (ws2 ws1 : List By), ws = ws1 ++ ws2 →
    Ev (fun k => sluiceref18_reader_choose.l2 k (ws.map sb) (pre.length : Int) (ws1.length : Int) (sb (pre ++ l)) ((pre.length + M : Nat) : Int) false) (0, sb (pre ++ l), ((pre.length + M : Nat) : Int), true) := by
  have hz : (sb (pre ++ l)).size = pre.length + l.length := by rw [sb_size]; simp
  have hlen : pre.length + l.length ≤ 1048576 := by simpa using ha
  intro ws2
  induction ws2 with
  | nil =>
    intro ws1 he
    refine Ev.step (f := fun _ => some (0, sb (pre ++ l), ((pre.length + M : Nat) : Int), true)) (fun k => ?_) (Ev.now _)
    have : ¬ ((ws1.length : Int) < ((ws.map sb).length : Int)) := by rw [he]; simp
    rw [sluiceref18_reader_choose.l2, if_neg this]
  | cons w ws2 ih =>
    intro ws1 he
    have hlt : (ws1.length : Int) < ((ws.map sb).length : Int) := by rw [he]; simp; omega
    have hw2 : wrap64 ((ws1.length : Int) + 1) = (((ws1 ++ [w]).length : Nat) : Int) := by
      have : ws1.length ≤ 1000 := by rw [he] at hw; simp at hw; omega
      rw [w64 (by omega) (by omega)]; simp
    have hx : bs ((sb (pre ++ l)).extract (pre.length : Int).toNat (((pre.length + M : Nat) : Int)).toNat) = l.take M := by
      rw [bs_extract, bs_sb, Int.toNat_natCast, Int.toNat_natCast, List.take_length_add_append, List.drop_left]
    have hrd : rdOf ByteArray.empty (ws.map sb) (ws1.length : Int) = sb w := by rw [he]; exact rd_ws ws1 w ws2
    refine Ev.step (fun k => ?_) (ih (ws1 ++ [w]) (by rw [he]; simp))
    rw [sluiceref18_reader_choose.l2, if_pos hlt, if_pos (by omega), if_pos (by omega), if_pos (by omega), if_pos (by omega), hrd, toList_bs, toList_bs, hx, bs_sb, if_neg (hne w (by rw [he]; simp)), hw2]
theorem l2_some (M : Nat) (hM : M ≤ l.length) (w : By) (hwM : w = l.take M) (ws3 : List By) : ∀ (ws2 ws1 : List By), ws = ws1 ++ (ws2 ++ w :: ws3) → (∀ v ∈ ws2, v ≠ w) →
    Ev (fun k => sluiceref18_reader_choose.l2 k (ws.map sb) (pre.length : Int) (ws1.length : Int) (sb (pre ++ l)) ((pre.length + M : Nat) : Int) false) (((ws1.length + ws2.length : Nat) : Int), sb (pre ++ l), ((pre.length + M : Nat) : Int), false) := by
  have hz : (sb (pre ++ l)).size = pre.length + l.length := by rw [sb_size]; simp
  have hlen : pre.length + l.length ≤ 1048576 := by simpa using ha
  have hx : bs ((sb (pre ++ l)).extract (pre.length : Int).toNat (((pre.length + M : Nat) : Int)).toNat) = l.take M := by
    rw [bs_extract, bs_sb, Int.toNat_natCast, Int.toNat_natCast, List.take_length_add_append, List.drop_left]
  intro ws2
  induction ws2 with
  | nil =>
    intro ws1 he hne
    rw [List.nil_append] at he
    have hlt : (ws1.length : Int) < ((ws.map sb).length : Int) := by rw [he]; simp; omega
    have hrd : rdOf ByteArray.empty (ws.map sb) (ws1.length : Int) = sb w := by rw [he]; exact rd_ws ws1 w ws3
    refine Ev.step (f := fun _ => some (((ws1.length + 0 : Nat) : Int), sb (pre ++ l), ((pre.length + M : Nat) : Int), false)) (fun k => ?_) (Ev.now _)
    rw [sluiceref18_reader_choose.l2, if_pos hlt, if_pos (by omega), if_pos (by omega), if_pos (by omega), if_pos (by omega), hrd, toList_bs, toList_bs, hx, bs_sb, if_pos hwM]
    rfl
  | cons v ws2 ih =>
    intro ws1 he hne
    have hlt : (ws1.length : Int) < ((ws.map sb).length : Int) := by rw [he]; simp; omega
    have hw2 : wrap64 ((ws1.length : Int) + 1) = (((ws1 ++ [v]).length : Nat) : Int) := by
      have : ws1.length ≤ 1000 := by rw [he] at hw; simp at hw; omega
      rw [w64 (by omega) (by omega)]; simp
    have hrd : rdOf ByteArray.empty (ws.map sb) (ws1.length : Int) = sb v := by rw [he]; exact rd_ws ws1 v (ws2 ++ w :: ws3)
    have hi := ih (ws1 ++ [v]) (by rw [he]; simp) (fun u hu => hne u (.tail _ hu))
    rw [show (ws1 ++ [v]).length + ws2.length = ws1.length + (v :: ws2).length by simp; omega] at hi
    refine Ev.step (fun k => ?_) hi
    rw [sluiceref18_reader_choose.l2, if_pos hlt, if_pos (by omega), if_pos (by omega), if_pos (by omega), if_pos (by omega), hrd, toList_bs, toList_bs, hx, bs_sb, if_neg (by rw [← hwM]; exact hne v (.head _)), hw2]
theorem l0_go {r : Int × ByteArray × Int × Bool} (h : Ev (fun k => sluiceref18_reader_choose.l2 k (ws.map sb) (pre.length : Int) 0 (sb (pre ++ l)) ((pre.length + maxC ws 0 l : Nat) : Int) false) r) : ∀ (d n : Nat), n + d = maxC ws 0 l →
    Ev (fun k => sluiceref18_reader_choose.l0 k (ws.map sb) (pre.length : Int) true (sb (pre ++ l)) ((pre.length + n : Nat) : Int) false) r := by
  have hz : (sb (pre ++ l)).size = pre.length + l.length := by rw [sb_size]; simp
  have hML := maxC_len l ws 0 (Nat.zero_le _)
  intro d
  induction d with
  | zero =>
    intro n hn
    obtain rfl : n = maxC ws 0 l := hn
    by_cases hlt : maxC ws 0 l < l.length
    · refine Ev.step (f := fun k => sluiceref18_reader_choose.j1 k (ws.map sb) (pre.length : Int) true (sb (pre ++ l)) ((pre.length + maxC ws 0 l : Nat) : Int) false) (fun k => ?_) (Ev.step (f := fun k => sluiceref18_reader_choose.l1 k (ws.map sb) (pre.length : Int) false 0 (sb (pre ++ l)) ((pre.length + maxC ws 0 l : Nat) : Int) false) (fun k => ?_) ?_)
      · rw [sluiceref18_reader_choose.l0, if_pos rfl, decide_eq_true (by omega)]
      · rw [sluiceref18_reader_choose.j1, if_pos rfl]
      · refine l1_go ha hw (maxC ws 0 l) hlt ws [] false rfl ?_
        rw [any_max l ws _ hlt, decide_eq_false (by omega)]
        refine Ev.congr (fun k => by rw [if_neg (by decide), Bool.or_false]) (Ev.step (fun k => ?_) (l0_end _ h))
        rw [sluiceref18_reader_choose.l0, if_neg (by decide)]
    · refine Ev.step (fun k => ?_) (l0_end _ h)
      rw [sluiceref18_reader_choose.l0, if_pos rfl, decide_eq_false (by omega)]
  | succ d ih =>
    intro n hn
    have hlt : n < l.length := by omega
    have hi := ih (n + 1) (by omega)
    refine Ev.step (f := fun k => sluiceref18_reader_choose.j1 k (ws.map sb) (pre.length : Int) true (sb (pre ++ l)) ((pre.length + n : Nat) : Int) false) (fun k => ?_) (Ev.step (f := fun k => sluiceref18_reader_choose.l1 k (ws.map sb) (pre.length : Int) false 0 (sb (pre ++ l)) ((pre.length + n : Nat) : Int) false) (fun k => ?_) ?_)
    · rw [sluiceref18_reader_choose.l0, if_pos rfl, decide_eq_true (by omega)]
    · rw [sluiceref18_reader_choose.j1, if_pos rfl]
    · refine l1_go ha hw n hlt ws [] false rfl ?_
      rw [any_max l ws _ hlt, decide_eq_true (by omega)]
      exact Ev.congr (fun k => by rw [if_pos (by decide), Bool.or_true]; rfl) hi
end
/-- One of some words: its number. -/
def oneI (ws : List By) : Rd Int := fun l => (oneP ws l).bnd fun i r => .good (i : Int) r
theorem choose_f {a : By} {s : R Unit} {at_ : Int} {bd : Bool} (h : RdAt a s at_ bd) (ha : a.length ≤ 1048576) {ws : List By} (hw : ws.length ≤ 1000) (h0 : 0 < ws.length) (hf : PF ws) :
    ∃ (x : Nat) (s' : R Unit) (at' : Int) (bd' : Bool) (K : Nat), sluiceref18_reader_choose.f K (sb a) at_ bd (ws.map sb) = some ((x : Int), sb a, at', bd') ∧ RdAt a s' at' bd' ∧ Post (oneI ws) s (x : Int) s' ∧ x < ws.length := by
  cases s with
  | bad l =>
    obtain ⟨rfl, h1, h2⟩ := h
    exact ⟨0, .bad l, at_, true, 0, by unfold sluiceref18_reader_choose.f; rw [if_pos rfl]; rfl, ⟨rfl, h1, h2⟩, rfl, h0⟩
  | good u l =>
    obtain ⟨rfl, ⟨pre, rfl⟩, rfl⟩ := h
    have hp : pos (pre ++ l) l = (pre.length : Int) := by unfold pos; simp
    have hML := maxC_len l ws 0 (Nat.zero_le _)
    have hpd : pos (pre ++ l) (l.drop (maxC ws 0 l)) = ((pre.length + maxC ws 0 l : Nat) : Int) := by unfold pos; simp; omega
    have hsuf : l.drop (maxC ws 0 l) <:+ pre ++ l := (List.drop_suffix _ _).trans (List.suffix_append _ _)
    have fin : ∀ {r : Int × ByteArray × Int × Bool}, Ev (fun k => sluiceref18_reader_choose.l2 k (ws.map sb) (pre.length : Int) 0 (sb (pre ++ l)) ((pre.length + maxC ws 0 l : Nat) : Int) false) r → ∃ K, sluiceref18_reader_choose.f K (sb (pre ++ l)) (pos (pre ++ l) l) false (ws.map sb) = some r := fun h => by
      obtain ⟨K, hK⟩ := (l0_go ha hw h (maxC ws 0 l) 0 (by omega)).rounds
      refine ⟨K, ?_⟩
      unfold sluiceref18_reader_choose.f
      rw [if_neg (by decide), hp]
      exact hK
    rcases first_of l ws with hno | ⟨ws1, w, ws2, he, hc, hn⟩
    · have hne : ∀ w ∈ ws, w ≠ l.take (maxC ws 0 l) := fun w hw2 e => by
        refine hno w hw2 ((common_pre l w).2 ?_)
        rw [e]; exact List.take_prefix _ _
      obtain ⟨K, hK⟩ := fin (l2_none ha hw _ hML hne ws [] rfl)
      refine ⟨0, .bad (l.drop (maxC ws 0 l)), _, true, K, hK, ⟨rfl, hsuf, hpd.symm⟩, ?_, h0⟩
      have := oneFrom_bad l ws 0 0 hno
      simp [Post, oneI, oneP, this, R.bnd]
    · have hwl : w <+: l := (common_pre l w).1 hc
      have hwm : w ∈ ws := by rw [he]; simp
      have hM : maxC ws 0 l = w.length := by
        have h1 := maxC_mem l ws 0 w hwm
        rcases maxC_some l ws 0 with h3 | ⟨v, hv, h3⟩
        · omega
        · by_cases hlt : w.length < common l v
          · have hcl := common_le_left l v
            have h4 := (common_ge l v w.length (by omega)).1 (by omega)
            have h5 : l.take w.length = w := (List.prefix_iff_eq_take.1 hwl).symm
            rw [h5] at h4
            have := hf w hwm v hv h4
            subst this
            omega
          · omega
      have htk : w = l.take (maxC ws 0 l) := by rw [hM]; exact List.prefix_iff_eq_take.1 hwl
      obtain ⟨K, hK⟩ := fin (l2_some ha hw _ hML w htk ws2 ws1 [] (by rw [he]; rfl) (fun v hv e => hn v hv (by rw [e]; exact hc)))
      refine ⟨ws1.length, .good () (l.drop (maxC ws 0 l)), _, false, K, by rw [hK]; simp, ⟨rfl, hsuf, hpd.symm⟩, ?_, by rw [he]; simp⟩
      have := oneFrom_good l w hc ws2 ws1 0 0 hn
      rw [← he, ← hM] at this
      simp [Post, oneI, oneP, this, R.bnd]
end Go.Proofs.YtnbfebjcfhbhiaaDoor.Sc
end
section
namespace Go.Proofs.YtnbfebjcfhbhiaaDoor.P
open Go.RowKit Go.Proofs.YtnbfebjcfhbhiaaDoorW.PrintWords Go.Proofs.YtnbfebjcfhbhiaaDoorW.PrintLast Go.Proofs.YtnbfebjcfhbhiaaDoorW.PrintMore
attribute [local go_sem] max2_int min2_int max_two min_two max_three min_three max_four min_four   -- for this text's walks alone
set_option linter.unusedVariables false
set_option linter.unusedSimpArgs false

def sluiceref18_args.j0 : Nat → Int → Bool → Option (Int)
  | 0, _, _ => none
  | k + 1, x3, x4 => if x4 = true then (some 2) else (if x3 = 7 then (some 0) else (if x3 = 11 then (some 0) else (some 1)))
def sluiceref18_args.f (k : Nat) (a0 : Int) : Option (Int) := if a0 = 1 then (sluiceref18_args.j0 k a0 (a0 == 1)) else (if a0 = 4 then (sluiceref18_args.j0 k a0 (a0 == 4)) else (sluiceref18_args.j0 k a0 (a0 == 8)))
set_option maxHeartbeats 8000000 in
set_option maxRecDepth 100000 in
theorem sluiceref18_args.calls (k : Nat) (a0 : Int) (r : Int) (w : World) (h : sluiceref18_args.f k a0 = some r) :
    Calls Tryd.prog 70 #[.int .i64 a0] w fun e w' => e = .returned (.int .i64 r) ∧ Drawn0 w w' := by
  have H : (if a0 = 1 then (sluiceref18_args.j0 k a0 (a0 == 1)) else (if a0 = 4 then (sluiceref18_args.j0 k a0 (a0 == 4)) else (sluiceref18_args.j0 k a0 (a0 == 8)))) = some r := h
  clear h
  have HC2 := Aside0.mk H
  clear H
  go_enter Tryd.func70, Tryd.ntmps70
  go_upto_if 4 with (fail)
  go_cut [4] (fun v4 wc => ∃ (kq : Nat) (x4_1 : Bool), v4 = .bool x4_1 ∧ Aside0 (sluiceref18_args.j0 kq a0 x4_1 = some r) ∧ Aside0 (kq ≤ k) ∧ Drawn0 w wc)
  case first =>
    have H := HC2.out
    clear HC2
    by_cases c3 : a0 = 1
    · rw [if_pos c3] at H
      have c3b0 : (a0 == 1) = true := beq_iff_eq.mpr c3
      have c3b1 : (a0 != 1) = false := bne_eq_false_iff_eq.mpr c3
      clear c3
      (first | rw [c3b0] | (simp only [i64_w, i32_w]; rw [c3b0]) | skip)
      have H' := Aside0.mk H
      clear H
      go_wp2
      go_meet
      case rel => exact ⟨_, ((a0 == 1)), (by first | rfl | (simp; done) | (simp [*]; done)), H', ⟨by first | omega | exact Nat.le_refl _⟩, by repeat (first | exact Drawn0.refl _ | apply Drawn0.step)⟩
    · rw [if_neg c3] at H
      have c3b0 : (a0 == 1) = false := beq_eq_false_iff_ne.mpr c3
      have c3b1 : (a0 != 1) = true := bne_iff_ne.mpr c3
      (first | rw [c3b0] | (simp only [i64_w, i32_w]; rw [c3b0]) | skip)
      by_cases c4 : a0 = 4
      · rw [if_pos c4] at H
        have c4b0 : (a0 == 4) = true := beq_iff_eq.mpr c4
        have c4b1 : (a0 != 4) = false := bne_eq_false_iff_eq.mpr c4
        clear c4
        have H' := Aside0.mk H
        clear H
        go_wp2
        go_meet
        case rel => exact ⟨_, ((a0 == 4)), (by first | rfl | (simp; done) | (simp [*]; done)), H', ⟨by first | omega | exact Nat.le_refl _⟩, by repeat (first | exact Drawn0.refl _ | apply Drawn0.step)⟩
      · rw [if_neg c4] at H
        have c4b0 : (a0 == 4) = false := beq_eq_false_iff_ne.mpr c4
        have c4b1 : (a0 != 4) = true := bne_iff_ne.mpr c4
        have H' := Aside0.mk H
        clear H
        go_wp2
        go_meet
        case rel => exact ⟨_, ((a0 == 8)), (by first | rfl | (simp; done) | (simp [*]; done)), H', ⟨by first | omega | exact Nat.le_refl _⟩, by repeat (first | exact Drawn0.refl _ | apply Drawn0.step)⟩
  case rest =>
    clear HC2
    try clear p2
    try clear c3
    try clear c3b0
    try clear c3b1
    try clear c4
    try clear c4b0
    try clear c4b1
    obtain ⟨kq, x4_1, rfl, HA, HJ1, ⟨mc1, rfl⟩⟩ := hcut
    cases kq with
    | zero => exact absurd HA.out (by simp [sluiceref18_args.j0])
    | succ kj1 =>
      have H := HA.out
      clear HA
      simp only [sluiceref18_args.j0] at H
      by_cases c5 : x4_1 = true
      · subst c5
        have H1 : (some 2) = some r := by rw [if_pos rfl] at H; exact H
        clear H
        have H := H1
        clear H1
        obtain rfl := Option.some.inj H
        go_wp2
        go_ret
        exact ⟨by first | rfl | (simp; done) | (simp [*]; done), by repeat (first | exact Drawn0.refl _ | apply Drawn0.step)⟩
      · replace c5 := Bool.eq_false_iff.mpr c5
        subst c5
        have H1 : (if a0 = 7 then (some 0) else (if a0 = 11 then (some 0) else (some 1))) = some r := by rw [if_neg (show ¬ (false = true) by decide)] at H; exact H
        clear H
        have H := H1
        clear H1
        by_cases c6 : a0 = 7
        · rw [if_pos c6] at H
          have c6b0 : (a0 == 7) = true := beq_iff_eq.mpr c6
          have c6b1 : (a0 != 7) = false := bne_eq_false_iff_eq.mpr c6
          clear c6
          obtain rfl := Option.some.inj H
          go_wp2
          go_ret
          exact ⟨by first | rfl | (simp; done) | (simp [*]; done), by repeat (first | exact Drawn0.refl _ | apply Drawn0.step)⟩
        · rw [if_neg c6] at H
          have c6b0 : (a0 == 7) = false := beq_eq_false_iff_ne.mpr c6
          have c6b1 : (a0 != 7) = true := bne_iff_ne.mpr c6
          by_cases c7 : a0 = 11
          · rw [if_pos c7] at H
            have c7b0 : (a0 == 11) = true := beq_iff_eq.mpr c7
            have c7b1 : (a0 != 11) = false := bne_eq_false_iff_eq.mpr c7
            clear c7
            obtain rfl := Option.some.inj H
            go_wp2
            go_ret
            exact ⟨by first | rfl | (simp; done) | (simp [*]; done), by repeat (first | exact Drawn0.refl _ | apply Drawn0.step)⟩
          · rw [if_neg c7] at H
            have c7b0 : (a0 == 11) = false := beq_eq_false_iff_ne.mpr c7
            have c7b1 : (a0 != 11) = true := bne_iff_ne.mpr c7
            obtain rfl := Option.some.inj H
            go_wp2
            go_ret
            exact ⟨by first | rfl | (simp; done) | (simp [*]; done), by repeat (first | exact Drawn0.refl _ | apply Drawn0.step)⟩

end Go.Proofs.YtnbfebjcfhbhiaaDoor.P
end
section
namespace Go.Proofs.YtnbfebjcfhbhiaaDoor.Rf
open Go Go.RowKit Go.Proofs.YtnbfebjcfhbhiaaDoor.P Go.Proofs.YtnbfebjcfhbhiaaDoor.Sc Go.Proofs.YtnbfebjcfhbhiaaDoor.Lw Go.Proofs.YtnbfebjcfhbhiaaDoorW.PrintWords Go.Proofs.YtnbfebjcfhbhiaaDoorW.PrintLast Go.Proofs.YtnbfebjcfhbhiaaDoorW.PrintMore
set_option linter.unusedVariables false
set_option linter.unusedSimpArgs false
/-- The reader lies at g and reads a; it stands as s says. -/
def RSt (w0 w : World) (g : Nat) (a : By) (s : R Unit) : Prop := ∃ at_ bd, IsS122 w0 w g (sb a) at_ bd ∧ RdAt a s at_ bd ∧ Below w0.heap.size w0 w
theorem RSt.below {w0 w w1 : World} {g : Nat} {a : By} {s : R Unit} (h : RSt w0 w g a s) (hb : Below w.heap.size w w1) : RSt w0 w1 g a s := by
  obtain ⟨at_, bd, h1, h2, h3⟩ := h
  exact ⟨at_, bd, h1.below hb, h2, h3.trans (hb.mono h3.size)⟩
theorem RSt.bel {w0 w : World} {g : Nat} {a : By} {s : R Unit} (h : RSt w0 w g a s) : Below w0.heap.size w0 w := by
  obtain ⟨at_, bd, h1, h2, h3⟩ := h
  exact h3
theorem RSt.lt {w0 w : World} {g : Nat} {a : By} {s : R Unit} (h : RSt w0 w g a s) : g < w.heap.size := by
  obtain ⟨at_, bd, h1, h2, h3⟩ := h
  exact h1.lt
theorem RSt.ge {w0 w : World} {g : Nat} {a : By} {s : R Unit} (h : RSt w0 w g a s) : w0.heap.size ≤ g := by
  obtain ⟨at_, bd, h1, h2, h3⟩ := h
  exact h1.ge
/-- A cell of another block is set. -/
theorem RSt.set {w0 w : World} {g : Nat} {a : By} {s : R Unit} {p : Addr} (h : RSt w0 w g a s) (hne : g ≠ p.block) (hp : w0.heap.size ≤ p.block) (u : Value) : RSt w0 (w.setCell p u) g a s := by
  obtain ⟨at_, bd, h1, h2, h3⟩ := h
  exact ⟨at_, bd, h1.far hne u, h2, h3.setCell hp u⟩
theorem want_calls (w0 w : World) (g : Nat) (a : By) (s : R Unit) (c : UInt8) (n : Int) (hn : n = (c.toNat : Int)) (ha : a.length ≤ 1048576) (h : RSt w0 w g a s) :
    Calls Tryd.prog 45 #[.pointer (some ⟨g, 0, none⟩), .int .i64 n] w fun e w' => ∃ s', e = .returned (.tuple #[]) ∧ RSt w0 w' g a s' ∧ Post (byteP c) s () s' ∧ KeepBut w w' g none := by
  obtain ⟨at_, bd, hI, hS, hB⟩ := h
  obtain ⟨s', at', bd', hf, hS', hP⟩ := want_f hS ha c
  subst hn
  refine (sluiceref18_reader_want.calls g (sb a) at_ bd _ _ at' bd' w0 w hI hB hf).mono ?_
  rintro e w' ⟨he, hI', hB', hk⟩
  exact ⟨s', he, ⟨at', bd', hI', hS', hB'⟩, hP, hk⟩
theorem number_calls (w0 w : World) (g : Nat) (a : By) (s : R Unit) (ha : a.length ≤ 1048576) (h : RSt w0 w g a s) :
    Calls Tryd.prog 88 #[.pointer (some ⟨g, 0, none⟩), .bool false] w fun e w' => ∃ x s', e = .returned (.int .i64 x) ∧ RSt w0 w' g a s' ∧ Post numP s x s' ∧ KeepBut w w' g none := by
  obtain ⟨at_, bd, hI, hS, hB⟩ := h
  obtain ⟨x, s', at', bd', K, hf, hS', hP⟩ := number_f hS ha
  refine (sluiceref18_reader_number.calls K g (sb a) at_ bd false x _ at' bd' w0 w hI hB hf).mono ?_
  rintro e w' ⟨he, hI', hB', hk⟩
  exact ⟨x, s', he, ⟨at', bd', hI', hS', hB'⟩, hP, hk⟩
/-- a blank and a text word -/
def wordT : Rd By := fun l => (byteP 32 l).bnd fun _ l => textP l
theorem word_calls (w0 w : World) (g : Nat) (a : By) (s : R Unit) (ha : a.length ≤ 1048576) (h : RSt w0 w g a s) :
    Calls Tryd.prog 69 #[.pointer (some ⟨g, 0, none⟩)] w fun e w' => ∃ v x s', e = .returned v ∧ Kd.R (Kd.int .u8) 5 w' w.heap.size (fun _ => True) v (nums x) ∧ RSt w0 w' g a s' ∧ Post wordT s x s' ∧ KeepBut w w' g none := by
  obtain ⟨at_, bd, hI, hS, hB⟩ := h
  obtain ⟨s1, at1, bd1, hf1, hS1, hP1⟩ := want_f hS ha 32
  obtain ⟨x, s2, at2, bd2, K, hf2, hS2, hP2⟩ := text_f hS1 ha
  have hf : sluiceref18_reader_word.f K (sb a) at_ bd = some (nums x, sb a, at2, bd2) := by
    unfold sluiceref18_reader_word.f
    rw [show (32 : Int) = ((32 : UInt8).toNat : Int) from rfl, hf1, Option.bind_some]
    simp only
    rw [hf2, Option.bind_some]
  refine (sluiceref18_reader_word.calls K g (sb a) at_ bd _ _ at2 bd2 w0 w hI hB hf).mono ?_
  rintro e w' ⟨v, he, hv, hI', hB', hk⟩
  exact ⟨v, x, s2, he, hv, ⟨at2, bd2, hI', hS2, hB'⟩, hP1.bnd hP2, hk⟩
theorem choose_calls (w0 w : World) (g : Nat) (a : By) (s : R Unit) (ws : List By) (L : List ByteArray) (hL : L = ws.map sb) (A : Option Addr) (c : Nat) (hw : ws.length ≤ 1000) (h0 : 0 < ws.length) (hf : PF ws) (ha : a.length ≤ 1048576) (hC : Kd.C Kd.string w A L.length L) (hc : L.length ≤ c) (hne : ∀ ad, A = some ad → 0 < L.length → ad.block ≠ g) (h : RSt w0 w g a s) :
    Calls Tryd.prog 65 #[.pointer (some ⟨g, 0, none⟩), .slice A L.length c] w fun e w' => ∃ (x : Nat) (s' : R Unit), e = .returned (.int .i64 x) ∧ RSt w0 w' g a s' ∧ Post (oneI ws) s (x : Int) s' ∧ KeepBut w w' g none ∧ x < ws.length := by
  obtain ⟨at_, bd, hI, hS, hB⟩ := h
  obtain ⟨x, s', at', bd', K, hf, hS', hP, hx⟩ := choose_f hS ha hw h0 hf
  rw [← hL] at hf
  refine (sluiceref18_reader_choose.calls K g (sb a) at_ bd A c L x _ at' bd' w0 w hI hB hC hc hne hf).mono ?_
  rintro e w' ⟨he, hI', hB', hk⟩
  exact ⟨x, s', he, ⟨at', bd', hI', hS', hB'⟩, hP, hk, hx⟩
/-- a blank and a number -/
def thenI : Rd Int := fun l => (byteP 32 l).bnd fun _ l => numP l
set_option maxHeartbeats 4000000 in
set_option maxRecDepth 100000 in
theorem then_calls (w0 w : World) (g : Nat) (a : By) (s : R Unit) (ha : a.length ≤ 1048576) (h : RSt w0 w g a s) :
    Calls Tryd.prog 67 #[.pointer (some ⟨g, 0, none⟩)] w fun e w' => ∃ x s', e = .returned (.int .i64 x) ∧ RSt w0 w' g a s' ∧ Post thenI s x s' ∧ KeepBut w w' g none := by
  have HA := Aside0.mk ha
  have HR := Aside0.mk h
  clear ha h
  go_enter Tryd.func67, Tryd.ntmps67
  go_wp2_with (first
    | (go_at_call 45; refine (want_calls w0 _ g a s 32 _ rfl HA.out HR.out).mono ?_; rintro e w1 ⟨s1, rfl, h1, p1, k1⟩; have H1 := Aside0.mk h1; have P1 := Aside0.mk p1; have K1 := Aside0.mk k1; clear h1 p1 k1)
    | (go_at_call 88; refine (number_calls w0 _ g a s1 HA.out H1.out).mono ?_; rintro e w2 ⟨x, s2, rfl, h2, p2, k2⟩; have H2 := Aside0.mk h2; have P2 := Aside0.mk p2; have K2 := Aside0.mk k2; clear h2 p2 k2))
  go_ret
  exact ⟨x, s2, rfl, H2.out, P1.out.bnd P2.out, K1.out.trans K2.out (.inl rfl)⟩
/-- Its words lie in a row of their own. -/
theorem named_nl (w : World) (n : ByteArray) : Kd.C Kd.string (w.alloc (.cells #[.string n] 9 (0, 0))) (some ⟨w.heap.size, 0, none⟩) 1 [n] := by
  refine ⟨rfl, by decide, fun _ => ⟨⟨w.heap.size, 0, none⟩, rfl, fun j p hj => ?_⟩⟩
  obtain ⟨hj1, hj2⟩ := List.getElem?_eq_some_iff.1 hj
  obtain rfl : j = 0 := by simpa using hj1
  simp only [List.getElem_cons_zero] at hj2
  subst hj2
  refine ⟨[.string n], rfl, rfl, fun i u hu => ?_⟩
  obtain ⟨hi1, hi2⟩ := List.getElem?_eq_some_iff.1 hu
  obtain rfl : i = 0 := by simpa using hi1
  simp only [List.getElem_cons_zero] at hi2
  subst hi2
  exact (blk_cell (heap_alloc_new w _) 0).trans rfl
set_option maxHeartbeats 4000000 in
set_option maxRecDepth 100000 in
theorem named_calls (w0 w : World) (g : Nat) (a : By) (s : R Unit) (n : ByteArray) (wd : By) (hn : n = sb wd) (ha : a.length ≤ 1048576) (h : RSt w0 w g a s) :
    Calls Tryd.prog 64 #[.pointer (some ⟨g, 0, none⟩), .string n] w fun e w' => ∃ x s', e = .returned (.int .i64 x) ∧ RSt w0 w' g a s' ∧ Post (namedP wd) s x s' ∧ KeepBut w w' g none := by
  have HA := Aside0.mk ha
  have HR := Aside0.mk h
  have HN := Aside0.mk hn
  clear ha h hn
  go_enter Tryd.func64, Tryd.ntmps64
  go_wp2_with (first
    | (go_at_call 65; go_loud (refine (choose_calls w0 _ g a s [wd] [n] (by rw [HN.out]; rfl) (some ⟨w.heap.size, 0, none⟩) 1 (by simp) (by simp) (pf_one wd) HA.out (named_nl w n) (Nat.le_refl _) (fun ad he _ => by cases he; exact Nat.ne_of_gt HR.out.lt) (HR.out.below ((Below.refl _ _).alloc (Nat.le_refl _) _))).mono ?_; rintro e w1 ⟨x, s1, rfl, h1, p1, k1, _⟩; have H1 := Aside0.mk h1; have P1 := Aside0.mk p1; have K1 := Aside0.mk k1; clear h1 p1 k1))
    | (go_at_call 45; refine (want_calls w0 _ g a s1 32 _ rfl HA.out H1.out).mono ?_; rintro e w2 ⟨s2, rfl, h1, p1, k1⟩; have H2 := Aside0.mk h1; have P2 := Aside0.mk p1; have K2 := Aside0.mk k1; clear h1 p1 k1)
    | (go_at_call 88; refine (number_calls w0 _ g a s2 HA.out H2.out).mono ?_; rintro e w3 ⟨y, s3, rfl, h2, p2, k2⟩; have H3 := Aside0.mk h2; have P3 := Aside0.mk p2; have K3 := Aside0.mk k2; clear h2 p2 k2))
  go_ret
  refine ⟨y, s3, rfl, H3.out, Post.congr (P1.out.bnd (f := fun _ l => (byteP 32 l).bnd fun _ l => numP l) (P2.out.bnd (f := fun _ l => numP l) P3.out)) (fun l => ?_), ?_⟩
  · show (oneP [wd] l).bnd _ = ((oneP [wd] l).bnd _).bnd _
    cases oneP [wd] l <;> rfl
  · exact (((KeepBut.of_below ((Below.refl _ _).alloc (Nat.le_refl _) _) g none).trans K1.out (.inl rfl)).trans K2.out (.inl rfl)).trans K3.out (.inl rfl)
end Go.Proofs.YtnbfebjcfhbhiaaDoor.Rf
end
section
namespace Go.Proofs.YtnbfebjcfhbhiaaDoor.Rf
open Go Go.RowKit Go.Proofs.YtnbfebjcfhbhiaaDoor.P Go.Proofs.YtnbfebjcfhbhiaaDoor.Sc Go.Proofs.YtnbfebjcfhbhiaaDoor.Lw Go.Proofs.YtnbfebjcfhbhiaaDoorW.PrintWords Go.Proofs.YtnbfebjcfhbhiaaDoorW.PrintLast Go.Proofs.YtnbfebjcfhbhiaaDoorW.PrintMore
set_option linter.unusedVariables false
set_option linter.unusedSimpArgs false
theorem part_num {p : Part} {ps : List Part} {x y : St} {s s1 s2 : R Unit} {v : Int} (hp : ∀ l, wordP p x l = (numP l).bnd fun v l => .good (x.set p v) l) (he : ∀ l, partGo (p :: ps) x l = (byteP 32 l).bnd fun _ l => (wordP p x l).bnd fun x l => partGo ps x l) (h1 : Post thenI s v s1) (h2 : Post (partGo ps (x.set p v)) s1 y s2) : Post (partGo (p :: ps) x) s y s2 := by
  refine Post.congr (h1.bnd (f := fun v l => partGo ps (x.set p v) l) h2) (fun l => ?_)
  rw [he]
  unfold thenI
  cases byteP 32 l with
  | bad r => rfl
  | good u r =>
    simp only [R.bnd_good, hp]
    cases numP r <;> rfl
theorem part_data {ps : List Part} {x y : St} {s s1 s2 : R Unit} {d : By} (h1 : Post wordT s d s1) (h2 : Post (partGo ps { x with data := d }) s1 y s2) : Post (partGo (.d :: ps) x) s y s2 := by
  refine Post.congr (h1.bnd (f := fun d l => partGo ps { x with data := d } l) h2) (fun l => ?_)
  have e : partGo (.d :: ps) x l = (byteP 32 l).bnd fun _ l => (wordP .d x l).bnd fun x l => partGo ps x l := by
    rw [partGo]
    exact fun h => by cases h
  rw [e]
  unfold wordT
  cases byteP 32 l with
  | bad r => rfl
  | good u r =>
    simp only [R.bnd_good, wordP]
    cases textP r <;> rfl
theorem part_op {ps : List Part} {x y z : St} {s s0 s1 s2 s3 : R Unit} {i : Nat} (h0 : Post (byteP 32) s () s0) (h1 : Post (oneI opWs) s0 (i : Int) s1) (h2 : Post (opGo (opParts i) { x with ok := (i : Int) + 1 }) s1 y s2) (h3 : Post (partGo ps y) s2 z s3) : Post (partGo (.o :: ps) x) s z s3 := by
  have key : Post (fun l => (oneP opWs l).bnd fun g l => opGo (opParts g) { x with ok := (g : Int) + 1 } l) s0 y s2 := by
    cases s0 with
    | bad l => simp only [Post] at h1 ⊢; subst h1; exact h2
    | good u l =>
      simp only [Post, oneI] at h1 ⊢
      cases ho : oneP opWs l with
      | bad r => rw [ho] at h1; simp only [R.bnd] at h1 ⊢; subst h1; exact h2
      | good j r =>
        rw [ho] at h1
        simp only [R.bnd] at h1 ⊢
        obtain ⟨e, rfl⟩ := h1
        have : i = j := by omega
        subst this
        exact h2
  exact Post.congr ((h0.bnd (f := fun _ l => (oneP opWs l).bnd fun g l => opGo (opParts g) { x with ok := (g : Int) + 1 } l) key).bnd (f := fun y l => partGo ps y l) h3) (fun l => by
    rw [partGo]
    cases byteP 32 l <;> rfl)
theorem op_num {p : Part} {ps : List Part} {x y : St} {s s1 s2 : R Unit} {v : Int} (hp : ∀ l, wordP p x l = (numP l).bnd fun v l => .good (x.set p v) l) (h1 : Post thenI s v s1) (h2 : Post (opGo ps (x.set p v)) s1 y s2) : Post (opGo (p :: ps) x) s y s2 := by
  refine Post.congr (h1.bnd (f := fun v l => opGo ps (x.set p v) l) h2) (fun l => ?_)
  rw [opGo]
  unfold thenI
  cases byteP 32 l with
  | bad r => rfl
  | good u r =>
    simp only [R.bnd_good, hp]
    cases numP r <;> rfl
theorem op_name {ps : List Part} {x y : St} {s s1 s2 : R Unit} {d : By} (h1 : Post wordT s d s1) (h2 : Post (opGo ps { x with name := d }) s1 y s2) : Post (opGo (.k :: ps) x) s y s2 := by
  refine Post.congr (h1.bnd (f := fun d l => opGo ps { x with name := d } l) h2) (fun l => ?_)
  rw [opGo]
  unfold wordT
  cases byteP 32 l with
  | bad r => rfl
  | good u r =>
    simp only [R.bnd_good, wordP]
    cases textP r <;> rfl
theorem part_end {x : St} {s : R Unit} : Post (partGo [] x) s x s := Post.congr (Post.ret x s) (fun l => by rw [partGo])
theorem op_end {x : St} {s : R Unit} : Post (opGo [] x) s x s := Post.congr (Post.ret x s) (fun l => by rw [opGo])
theorem step_post {x : St} {s s1 s2 s3 : R Unit} {k : Nat} (h1 : Post (oneI stepWs) s (k : Int) s1) (h2 : Post (partGo (stepParts k) (st0 ((k : Int) + 1))) s1 x s2) (h3 : Post (byteP 10) s2 () s3) : Post (endP stepP) s x s3 := by
  have key : Post stepP s x s2 := by
    cases s with
    | bad l => simp only [Post] at h1 ⊢; subst h1; exact h2
    | good u l =>
      simp only [Post, oneI] at h1
      simp only [Post, stepP]
      cases ho : oneP stepWs l with
      | bad r => rw [ho] at h1; simp only [R.bnd] at h1 ⊢; subst h1; exact h2
      | good j r =>
        rw [ho] at h1
        simp only [R.bnd] at h1 ⊢
        obtain ⟨e, rfl⟩ := h1
        have : k = j := by omega
        subst this
        exact h2
  exact key.bnd (f := fun x l => (byteP 10 l).bnd fun _ l => .good x l) (h3.bnd (f := fun _ l => .good x l) (Post.ret x s3))
structure RX (w0 : World) (N : Nat) (W wx : World) (g b : Nat) (a : By) (s : R Unit) (x : St) : Prop where
  ls : RSt w0 wx g a s
  st : ∃ dv, wx.heap[b]? = some (.cells (stc x dv) 48 (0, 0)) ∧ Kd.R (Kd.int .u8) 5 wx N (fun _ => True) dv (nums x.data)
  pl : g < N ∧ b < N ∧ w0.heap.size ≤ b ∧ g ≠ b
  kb : KB W wx g b
  nw : N ≤ W.heap.size
section
variable {w0 W wx w1 : World} {N g b : Nat} {a : By} {s s' : R Unit} {x : St}
theorem RX.call (h : RX w0 N W wx g b a s x) (hr : RSt w0 w1 g a s') (k : KeepBut wx w1 g none) : RX w0 N W w1 g b a s' x := by
  obtain ⟨dv, h1, h2⟩ := h.st
  refine ⟨hr, ⟨dv, (k.2 b (blk_lt h1) (Ne.symm h.pl.2.2.2) (by simp)).trans h1, ?_⟩, h.pl, h.kb.keep k, h.nw⟩
  exact Kd.R_mono (Kd.R_step (Kd.R_bound h2) (fun i hi hlt => k.2 i hlt (by have := h.pl.1; have := hi.2.1; omega) (by simp))) (fun _ _ => trivial)
theorem RX.below (h : RX w0 N W wx g b a s x) (hb : Below wx.heap.size wx w1) : RX w0 N W w1 g b a s x := h.call (h.ls.below hb) (KeepBut.of_below hb g none)
theorem RX.set (h : RX w0 N W wx g b a s x) (j : Nat) (v : Value) (x' : St) (hd : x'.data = x.data) (hc : ∀ dv, (stc x dv).setIfInBounds j v = stc x' dv) : RX w0 N W (wx.setCell ⟨b, j, none⟩ v) g b a s x' := by
  obtain ⟨dv, h1, h2⟩ := h.st
  refine ⟨h.ls.set (p := ⟨b, j, none⟩) h.pl.2.2.2 h.pl.2.2.1 v, ⟨dv, by rw [heap_setCell_same wx b j _ _ v h1, hc], ?_⟩, h.pl, h.kb.set j v, h.nw⟩
  rw [hd]
  exact Kd.R_mono (Kd.R_step (Kd.R_bound h2) (fun i hi hlt => Below.heap_setCell wx ⟨b, j, none⟩ v i (by have := h.pl.2.1; have := hi.2.1; show i ≠ b; omega))) (fun _ _ => trivial)
theorem RX.data (h : RX w0 N W wx g b a s x) (v : Value) (d : By) (hv : Kd.R (Kd.int .u8) 5 wx N (fun _ => True) v (nums d)) : RX w0 N W (wx.setCell ⟨b, 10, none⟩ v) g b a s { x with data := d } := by
  obtain ⟨dv, h1, h2⟩ := h.st
  refine ⟨h.ls.set (p := ⟨b, 10, none⟩) h.pl.2.2.2 h.pl.2.2.1 v, ⟨v, by rw [heap_setCell_same wx b 10 _ _ v h1]; rfl, ?_⟩, h.pl, h.kb.set 10 v, h.nw⟩
  exact Kd.R_mono (Kd.R_step (Kd.R_bound hv) (fun i hi hlt => Below.heap_setCell wx ⟨b, 10, none⟩ v i (by have := h.pl.2.1; have := hi.2.1; show i ≠ b; omega))) (fun _ _ => trivial)
/-- A cell of the step as it stands. -/
theorem RX.cell (h : RX w0 N W wx g b a s x) (j : Nat) : wx.frozen? ⟨b, j, none⟩ = false ∧ (∀ u, (∀ dv, (stc x dv)[j]? = some u) → wx.cell? ⟨b, j, none⟩ = some u) ∧ (j = 10 → ∃ u, wx.cell? ⟨b, 10, none⟩ = some u) := by
  obtain ⟨dv, h1, h2⟩ := h.st
  exact ⟨blk_frozen h1 j, fun u hu => (blk_cell h1 j).trans (hu dv), fun _ => ⟨dv, (blk_cell h1 10).trans rfl⟩⟩
end
theorem steps_calls (w : World) : Calls Tryd.prog 66 #[] w fun e w' => ∃ A c, e = .returned (.slice A 15 c) ∧ 15 ≤ c ∧ Kd.C Kd.string w' A 15 (stepWs.map sb) ∧ (∀ ad, A = some ad → w.heap.size ≤ ad.block) ∧ Below w.heap.size w w' := by
  refine (sluiceref18_Steps.calls _ w rfl).mono ?_
  rintro e w' ⟨v, rfl, hv, hb⟩
  obtain ⟨inner, ho⟩ := Kd.R_own hv
  obtain ⟨A, c, rfl, hc, hC⟩ := Kd.R_reads hv
  exact ⟨A, c, rfl, hc, hC, fun ad he => own_base ho ad.block (by rw [he]; rfl), hb⟩
theorem ops_calls (w : World) : Calls Tryd.prog 68 #[] w fun e w' => ∃ A c, e = .returned (.slice A 11 c) ∧ 11 ≤ c ∧ Kd.C Kd.string w' A 11 (opWs.map sb) ∧ (∀ ad, A = some ad → w.heap.size ≤ ad.block) ∧ Below w.heap.size w w' := by
  refine (sluiceref18_Ops.calls _ w rfl).mono ?_
  rintro e w' ⟨v, rfl, hv, hb⟩
  obtain ⟨inner, ho⟩ := Kd.R_own hv
  obtain ⟨A, c, rfl, hc, hC⟩ := Kd.R_reads hv
  exact ⟨A, c, rfl, hc, hC, fun ad he => own_base ho ad.block (by rw [he]; rfl), hb⟩
theorem args_calls (w : World) (y : Nat) (hy : y < 11) (r : Int) (hr : (if y = 0 ∨ y = 3 ∨ y = 7 then 2 else if y = 6 ∨ y = 10 then 0 else 1) = r) : Calls Tryd.prog 70 #[.int .i64 ((y : Int) + 1)] w fun e w' => e = .returned (.int .i64 r) ∧ Below w.heap.size w w' := by
  subst hr
  have hf : sluiceref18_args.f 1 ((y : Int) + 1) = some (if y = 0 ∨ y = 3 ∨ y = 7 then 2 else if y = 6 ∨ y = 10 then 0 else 1) := by
    obtain rfl | rfl | rfl | rfl | rfl | rfl | rfl | rfl | rfl | rfl | rfl : y = 0 ∨ y = 1 ∨ y = 2 ∨ y = 3 ∨ y = 4 ∨ y = 5 ∨ y = 6 ∨ y = 7 ∨ y = 8 ∨ y = 9 ∨ y = 10 := by omega
    all_goals rfl
  refine (sluiceref18_args.calls 1 _ _ w hf).mono ?_
  rintro e w' ⟨he, hd⟩
  exact ⟨he, Drawn0.below hd⟩
/-- What a step leaves. -/
def StepQ (w0 wx : World) (g : Nat) (a : By) (s : R Unit) (e : Ending) (w' : World) : Prop := ∃ x A c s', e = .returned (.agg (stc x (.slice A x.data.length c))) ∧ Kd.R (Kd.int .u8) 5 w' wx.heap.size (fun _ => True) (.slice A x.data.length c) (nums x.data) ∧ RSt w0 w' g a s' ∧ KeepBut wx w' g none ∧ Post (endP stepP) s x s'

set_option maxHeartbeats 8000000 in
set_option maxRecDepth 100000 in
theorem rstep_calls {w0 wx : World} {g : Nat} {a : By} {s : R Unit} (ha : a.length ≤ 1048576) (h : RSt w0 wx g a s) :
    Calls Tryd.prog 47 #[.pointer (some ⟨g, 0, none⟩)] wx (StepQ w0 wx g a s) := by
  have HA := Aside0.mk ha
  have hu48 := Tryd.underlying48
  obtain ⟨wa, hwa⟩ : ∃ wa, wa = (wx.alloc (.cells (stc (st0 0) (.slice none 0 0)) 48 (0, 0))).alloc (.cells (stc (st0 0) (.slice none 0 0)) 48 (0, 0)) := ⟨_, rfl⟩
  have HWA := Aside0.mk hwa
  have HB : Aside0 (Below wx.heap.size wx wa ∧ wa.heap.size = wx.heap.size + 1 + 1 ∧ wa.heap[wx.heap.size]? = some (.cells (stc (st0 0) (.slice none 0 0)) 48 (0, 0)) ∧ wa.heap[wx.heap.size + 1]? = some (.cells (stc (st0 0) (.slice none 0 0)) 48 (0, 0))) := ⟨by
    rw [hwa]
    refine ⟨((Below.refl _ _).alloc (Nat.le_refl _) _).alloc (by simp) _, by simp, (Below.heap_alloc _ _ _ (by simp)).trans (heap_alloc_new wx _), ?_⟩
    have := heap_alloc_new (wx.alloc (.cells (stc (st0 0) (.slice none 0 0)) 48 (0, 0))) (.cells (stc (st0 0) (.slice none 0 0)) 48 (0, 0))
    simpa using this⟩
  have HG : Aside0 (g < wx.heap.size ∧ w0.heap.size ≤ g) := ⟨⟨h.lt, h.ge⟩⟩
  have HX : Aside0 (RX w0 (wx.heap.size + 2) wa wa g (wx.heap.size + 1) a s (st0 0)) := ⟨by
    have h1 := HB.out
    have h2 := HG.out
    exact ⟨h.below h1.1, ⟨_, h1.2.2.2, Kd.R_nil _ _ _ _ _⟩, ⟨by omega, by omega, by omega, by omega⟩, KB.refl _ _ _, by omega⟩⟩
  have HK : Aside0 (KeepBut wx wa g none) := ⟨KeepBut.of_below HB.out.1 g none⟩
  clear h hwa ha
  go_enter Tryd.func47, Tryd.ntmps47
  go_upto_region 2 with fail
  rw [show ((#[.int .i64 0, .int .i64 0, .int .i64 0, .int .i64 0, .int .i64 0, .string ⟨#[]⟩, .int .i64 0, .int .i64 0, .int .i64 0, .int .i64 0, .slice none 0 0] : Array Value)) = stc (st0 0) (.slice none 0 0) from rfl, ← HWA.out]
  go_upto_region 3 with (first
    | (go_at_call 66; refine (steps_calls _).mono ?_; rintro e w1 ⟨A1, c1, rfl, hc1, hC1, hn1, hb1⟩; have n0_ := Aside0.mk (HX.out.below hb1); have HS := Aside0.mk (And.intro hc1 (And.intro hC1 (fun ad (h : A1 = some ad) (_ : 0 < 15) => (show ad.block ≠ g by have := hn1 ad h; have := HB.out.1.size; have := HG.out.1; omega)))); clear HX hc1 hC1 hn1 hb1; have HX := n0_; clear n0_)
    | (go_at_call 65; (refine (choose_calls w0 _ g a s stepWs (stepWs.map sb) rfl A1 c1 (by decide) (by decide) pf_step HA.out HS.out.2.1 HS.out.1 HS.out.2.2 HX.out.ls).mono ?_; rintro e w2 ⟨k, s1, rfl, h1, p1, k1, hk⟩; have n0_ := Aside0.mk (HX.out.call h1 k1); have HP1 := Aside0.mk p1; clear HX h1 k1 p1 HS; have HX := n0_; clear n0_; have hf0 := (HX.out.cell 0).1; have hc0 := (HX.out.cell 0).2.1 _ (fun _ => rfl))))
  have hkw : wrap64 (1 + (k : Int)) = (k : Int) + 1 := by
    have : stepWs.length = 15 := rfl
    rw [w64 (by omega) (by omega)]; omega
  have hk15 : k < 15 := hk
  rw [hkw]
  obtain ⟨kv, hkv⟩ : ∃ kv : Int, kv = (k : Int) + 1 := ⟨_, rfl⟩
  rw [← hkv]
  obtain ⟨W3, hW3⟩ : ∃ W3, W3 = w2.setCell ⟨wx.heap.size + 1, 0, none⟩ (.int .i64 kv) := ⟨_, rfl⟩
  have n0_ : Aside0 (RX w0 (wx.heap.size + 2) wa W3 g (wx.heap.size + 1) a s1 (st0 kv)) := ⟨by rw [hW3]; exact HX.out.set 0 _ (st0 kv) rfl (fun _ => rfl)⟩
  rw [← hW3]
  clear hW3 hkw hk hf0 hc0 HX
  have HX := n0_
  clear n0_
  have hk0 := (HX.out.cell 0).2.1 (.int .i64 kv) (fun _ => rfl)
  rcases (by omega : k = 0 ∨ k = 1 ∨ k = 2 ∨ k = 3 ∨ k = 4 ∨ k = 5 ∨ k = 6 ∨ k = 7 ∨ k = 8 ∨ k = 9 ∨ k = 10 ∨ k = 11 ∨ k = 12 ∨ k = 13 ∨ k = 14) with rfl | rfl | rfl | rfl | rfl | rfl | rfl | rfl | rfl | rfl | rfl | rfl | rfl | rfl | rfl
  focus (
    obtain rfl : kv = 1 := by omega
    clear hkv hk15
    go_upto_region 10 with (first
      | (go_at_call 67; (refine (then_calls w0 _ g a s1 HA.out HX.out.ls).mono ?_; rintro e v2 ⟨n2, s2, rfl, h1, p1, k1⟩; have HP2 := Aside0.mk p1; have hc2 := ((HX.out.call h1 k1).cell 1).2.1 _ (fun _ => rfl); have hf2 := ((HX.out.call h1 k1).cell 1).1; have n0_ := Aside0.mk ((HX.out.call h1 k1).set 1 (.int .i64 n2) ⟨1, n2, 0, 0, 0, [], 0, 0, 0, 0, []⟩ rfl (fun _ => rfl)); clear HX h1 p1 k1; have HX := n0_; clear n0_))
      | (go_at_call 67; (refine (then_calls w0 _ g a s2 HA.out HX.out.ls).mono ?_; rintro e v3 ⟨n3, s3, rfl, h1, p1, k1⟩; have HP3 := Aside0.mk p1; have hc3 := ((HX.out.call h1 k1).cell 2).2.1 _ (fun _ => rfl); have hf3 := ((HX.out.call h1 k1).cell 2).1; have n0_ := Aside0.mk ((HX.out.call h1 k1).set 2 (.int .i64 n3) ⟨1, n2, n3, 0, 0, [], 0, 0, 0, 0, []⟩ rfl (fun _ => rfl)); clear HX h1 p1 k1; have HX := n0_; clear n0_))
      | (go_at_call 67; (refine (then_calls w0 _ g a s3 HA.out HX.out.ls).mono ?_; rintro e v4 ⟨n4, s4, rfl, h1, p1, k1⟩; have HP4 := Aside0.mk p1; have hc4 := ((HX.out.call h1 k1).cell 3).2.1 _ (fun _ => rfl); have hf4 := ((HX.out.call h1 k1).cell 3).1; have n0_ := Aside0.mk ((HX.out.call h1 k1).set 3 (.int .i64 n4) ⟨1, n2, n3, n4, 0, [], 0, 0, 0, 0, []⟩ rfl (fun _ => rfl)); clear HX h1 p1 k1; have HX := n0_; clear n0_))
      | (go_at_call 45; (refine (want_calls w0 _ g a s4 32 _ rfl HA.out HX.out.ls).mono ?_; rintro e v5 ⟨s5, rfl, h1, p1, k1⟩; have HP5 := Aside0.mk p1; have n0_ := Aside0.mk (HX.out.call h1 k1); clear HX h1 p1 k1; have HX := n0_; clear n0_))
      | (go_at_call 68; (refine (ops_calls _).mono ?_; rintro e v6 ⟨A2, c2, rfl, hc1, hC1, hn1, hb1⟩; have HS := Aside0.mk (And.intro hc1 (And.intro hC1 (fun ad (h : A2 = some ad) (_ : 0 < 11) => (show ad.block ≠ g by have := hn1 ad h; have := HX.out.ls.lt; omega)))); have n0_ := Aside0.mk (HX.out.below hb1); clear HX hc1 hC1 hn1 hb1; have HX := n0_; clear n0_))
      | (go_at_call 65; (refine (choose_calls w0 _ g a s5 opWs (opWs.map sb) rfl A2 c2 (by decide) (by decide) pf_op HA.out HS.out.2.1 HS.out.1 HS.out.2.2 HX.out.ls).mono ?_; rintro e v7 ⟨y, s7, rfl, h1, p1, k1, hy⟩; have HP7 := Aside0.mk p1; have n0_ := Aside0.mk (HX.out.call h1 k1); have hc7 := (n0_.out.cell 4).2.1 _ (fun _ => rfl); have hf7 := (n0_.out.cell 4).1; clear HX h1 k1 p1 HS; have HX := n0_; clear n0_)))
    have hy11 : y < 11 := hy
    have hyw : wrap64 (1 + (y : Int)) = (y : Int) + 1 := by rw [w64 (by omega) (by omega)]; omega
    rw [hyw]
    obtain ⟨yv, hyv⟩ : ∃ yv : Int, yv = (y : Int) + 1 := ⟨_, rfl⟩
    rw [← hyv]
    obtain ⟨W9, hW9⟩ : ∃ W9, W9 = v7.setCell ⟨wx.heap.size + 1, 4, none⟩ (.int .i64 yv) := ⟨_, rfl⟩
    have n0_ : Aside0 (RX w0 (wx.heap.size + 2) wa W9 g (wx.heap.size + 1) a s7 ⟨1, n2, n3, n4, yv, [], 0, 0, 0, 0, []⟩) := ⟨by rw [hW9]; exact HX.out.set 4 _ _ rfl (fun _ => rfl)⟩
    rw [← hW9]
    clear hW9 hyw hy hf7 hc7 HX
    have HX := n0_
    clear n0_
    go_upto_region 11 with (go_at_call 69; (refine (word_calls w0 _ g a s7 HA.out HX.out.ls).mono ?_; rintro e v8 ⟨dv8, n8, s8, rfl, hR, h1, p1, k1⟩; have HP8 := Aside0.mk p1; have hcv := conv_row hR; have hc8 := ((HX.out.call h1 k1).cell 5).2.1 _ (fun _ => rfl); have hf8 := ((HX.out.call h1 k1).cell 5).1; have n0_ := Aside0.mk ((HX.out.call h1 k1).set 5 (.string (sb n8)) ⟨1, n2, n3, n4, yv, n8, 0, 0, 0, 0, []⟩ rfl (fun _ => rfl)); clear HX h1 p1 k1 hR; have HX := n0_; clear n0_))
    obtain ⟨W10, hW10⟩ : ∃ W10, W10 = v8.setCell ⟨wx.heap.size + 1, 5, none⟩ (.string (sb n8)) := ⟨_, rfl⟩
    rw [← hW10] at HX
    rw [← hW10]
    clear hW10 hcv hc8 hf8
    have hk9 := (HX.out.cell 4).2.1 (.int .i64 yv) (fun _ => rfl)
    obtain ⟨r, hr, hrp⟩ : ∃ r : Int, (if y = 0 ∨ y = 3 ∨ y = 7 then 2 else if y = 6 ∨ y = 10 then 0 else 1) = r ∧ ((r = 2 ∧ opParts y = [.k, .a, .b]) ∨ (r = 1 ∧ opParts y = [.k, .a]) ∨ (r = 0 ∧ opParts y = [.k])) := by
      obtain rfl | rfl | rfl | rfl | rfl | rfl | rfl | rfl | rfl | rfl | rfl : y = 0 ∨ y = 1 ∨ y = 2 ∨ y = 3 ∨ y = 4 ∨ y = 5 ∨ y = 6 ∨ y = 7 ∨ y = 8 ∨ y = 9 ∨ y = 10 := by omega
      all_goals first | exact ⟨2, rfl, .inl ⟨rfl, rfl⟩⟩ | exact ⟨1, rfl, .inr (.inl ⟨rfl, rfl⟩)⟩ | exact ⟨0, rfl, .inr (.inr ⟨rfl, rfl⟩)⟩
    have HY := Aside0.mk hr
    subst hyv
    clear hr
    rcases hrp with ⟨rfl, hop⟩ | ⟨rfl, hop⟩ | ⟨rfl, hop⟩
    focus (
      go_upto_region 12 with (go_at_call 70; (refine (args_calls _ y hy11 _ HY.out).mono ?_; rintro e v20 ⟨rfl, hb⟩; have n0_ := Aside0.mk (HX.out.below hb); clear HX hb; have HX := n0_; clear n0_; have hk20 := (HX.out.cell 4).2.1 (.int .i64 ((y : Int) + 1)) (fun _ => rfl)))
      go_upto_region 13 with (go_at_call 67; (refine (then_calls w0 _ g a s8 HA.out HX.out.ls).mono ?_; rintro e v9 ⟨n9, s9, rfl, h1, p1, k1⟩; have HP9 := Aside0.mk p1; have hc9 := ((HX.out.call h1 k1).cell 6).2.1 _ (fun _ => rfl); have hf9 := ((HX.out.call h1 k1).cell 6).1; have n0_ := Aside0.mk ((HX.out.call h1 k1).set 6 (.int .i64 n9) ⟨1, n2, n3, n4, ((y : Int) + 1), n8, n9, 0, 0, 0, []⟩ rfl (fun _ => rfl)); clear HX h1 p1 k1; have HX := n0_; clear n0_; have hk9 := (HX.out.cell 4).2.1 (.int .i64 ((y : Int) + 1)) (fun _ => rfl)))
      go_upto_region 14 with (go_at_call 70; (refine (args_calls _ y hy11 _ HY.out).mono ?_; rintro e v21 ⟨rfl, hb⟩; have n0_ := Aside0.mk (HX.out.below hb); clear HX hb; have HX := n0_; clear n0_; have hk21 := (HX.out.cell 4).2.1 (.int .i64 ((y : Int) + 1)) (fun _ => rfl)))
      go_upto_region 37 with (first
      | (go_at_call 67; (refine (then_calls w0 _ g a s9 HA.out HX.out.ls).mono ?_; rintro e v10 ⟨n10, s10, rfl, h1, p1, k1⟩; have HP10 := Aside0.mk p1; have hc10 := ((HX.out.call h1 k1).cell 7).2.1 _ (fun _ => rfl); have hf10 := ((HX.out.call h1 k1).cell 7).1; have n0_ := Aside0.mk ((HX.out.call h1 k1).set 7 (.int .i64 n10) ⟨1, n2, n3, n4, ((y : Int) + 1), n8, n9, n10, 0, 0, []⟩ rfl (fun _ => rfl)); clear HX h1 p1 k1; have HX := n0_; clear n0_))
      | (go_at_call 45; (refine (want_calls w0 _ g a s10 10 _ rfl HA.out HX.out.ls).mono ?_; rintro e vE ⟨sE, rfl, h1, p1, k1⟩; have HPE := Aside0.mk p1; have n0_ := Aside0.mk (HX.out.call h1 k1); clear HX h1 p1 k1; have HX := n0_; clear n0_)))
      obtain ⟨x4, HZ⟩ : ∃ x4, Aside0 (RX w0 (wx.heap.size + 2) wa vE g (wx.heap.size + 1) a sE x4 ∧ Post (endP stepP) s x4 sE) := ⟨_, ⟨HX.out, step_post HP1.out (part_num (p := .r) (fun _ => rfl) (fun l => by rw [partGo]; exact fun h => by cases h) HP2.out (part_num (p := .s) (fun _ => rfl) (fun l => by rw [partGo]; exact fun h => by cases h) HP3.out (part_num (p := .n) (fun _ => rfl) (fun l => by rw [partGo]; exact fun h => by cases h) HP4.out (part_op HP5.out HP7.out (by rw [hop]; exact op_name HP8.out (op_num (fun _ => rfl) HP9.out (op_num (fun _ => rfl) HP10.out op_end))) part_end)))) HPE.out⟩⟩
      clear HX HPE
      clear hop)
    rotate_left 1
    focus (
      go_upto_region 12 with (go_at_call 70; (refine (args_calls _ y hy11 _ HY.out).mono ?_; rintro e v20 ⟨rfl, hb⟩; have n0_ := Aside0.mk (HX.out.below hb); clear HX hb; have HX := n0_; clear n0_; have hk20 := (HX.out.cell 4).2.1 (.int .i64 ((y : Int) + 1)) (fun _ => rfl)))
      go_upto_region 13 with (go_at_call 67; (refine (then_calls w0 _ g a s8 HA.out HX.out.ls).mono ?_; rintro e v9 ⟨n9, s9, rfl, h1, p1, k1⟩; have HP9 := Aside0.mk p1; have hc9 := ((HX.out.call h1 k1).cell 6).2.1 _ (fun _ => rfl); have hf9 := ((HX.out.call h1 k1).cell 6).1; have n0_ := Aside0.mk ((HX.out.call h1 k1).set 6 (.int .i64 n9) ⟨1, n2, n3, n4, ((y : Int) + 1), n8, n9, 0, 0, 0, []⟩ rfl (fun _ => rfl)); clear HX h1 p1 k1; have HX := n0_; clear n0_; have hk9 := (HX.out.cell 4).2.1 (.int .i64 ((y : Int) + 1)) (fun _ => rfl)))
      go_upto_region 37 with (first
      | (go_at_call 70; (refine (args_calls _ y hy11 _ HY.out).mono ?_; rintro e v21 ⟨rfl, hb⟩; have n0_ := Aside0.mk (HX.out.below hb); clear HX hb; have HX := n0_; clear n0_; have hk21 := (HX.out.cell 4).2.1 (.int .i64 ((y : Int) + 1)) (fun _ => rfl)))
      | (go_at_call 45; (refine (want_calls w0 _ g a s9 10 _ rfl HA.out HX.out.ls).mono ?_; rintro e vE ⟨sE, rfl, h1, p1, k1⟩; have HPE := Aside0.mk p1; have n0_ := Aside0.mk (HX.out.call h1 k1); clear HX h1 p1 k1; have HX := n0_; clear n0_)))
      obtain ⟨x4, HZ⟩ : ∃ x4, Aside0 (RX w0 (wx.heap.size + 2) wa vE g (wx.heap.size + 1) a sE x4 ∧ Post (endP stepP) s x4 sE) := ⟨_, ⟨HX.out, step_post HP1.out (part_num (p := .r) (fun _ => rfl) (fun l => by rw [partGo]; exact fun h => by cases h) HP2.out (part_num (p := .s) (fun _ => rfl) (fun l => by rw [partGo]; exact fun h => by cases h) HP3.out (part_num (p := .n) (fun _ => rfl) (fun l => by rw [partGo]; exact fun h => by cases h) HP4.out (part_op HP5.out HP7.out (by rw [hop]; exact op_name HP8.out (op_num (fun _ => rfl) HP9.out op_end)) part_end)))) HPE.out⟩⟩
      clear HX HPE
      clear hop)
    rotate_left 1
    focus (
      go_upto_region 13 with (go_at_call 70; (refine (args_calls _ y hy11 _ HY.out).mono ?_; rintro e v20 ⟨rfl, hb⟩; have n0_ := Aside0.mk (HX.out.below hb); clear HX hb; have HX := n0_; clear n0_; have hk20 := (HX.out.cell 4).2.1 (.int .i64 ((y : Int) + 1)) (fun _ => rfl)))
      go_upto_region 37 with (first
      | (go_at_call 70; (refine (args_calls _ y hy11 _ HY.out).mono ?_; rintro e v21 ⟨rfl, hb⟩; have n0_ := Aside0.mk (HX.out.below hb); clear HX hb; have HX := n0_; clear n0_; have hk21 := (HX.out.cell 4).2.1 (.int .i64 ((y : Int) + 1)) (fun _ => rfl)))
      | (go_at_call 45; (refine (want_calls w0 _ g a s8 10 _ rfl HA.out HX.out.ls).mono ?_; rintro e vE ⟨sE, rfl, h1, p1, k1⟩; have HPE := Aside0.mk p1; have n0_ := Aside0.mk (HX.out.call h1 k1); clear HX h1 p1 k1; have HX := n0_; clear n0_)))
      obtain ⟨x4, HZ⟩ : ∃ x4, Aside0 (RX w0 (wx.heap.size + 2) wa vE g (wx.heap.size + 1) a sE x4 ∧ Post (endP stepP) s x4 sE) := ⟨_, ⟨HX.out, step_post HP1.out (part_num (p := .r) (fun _ => rfl) (fun l => by rw [partGo]; exact fun h => by cases h) HP2.out (part_num (p := .s) (fun _ => rfl) (fun l => by rw [partGo]; exact fun h => by cases h) HP3.out (part_num (p := .n) (fun _ => rfl) (fun l => by rw [partGo]; exact fun h => by cases h) HP4.out (part_op HP5.out HP7.out (by rw [hop]; exact op_name HP8.out op_end) part_end)))) HPE.out⟩⟩
      clear HX HPE
      clear hop)
    rotate_left 1)
  rotate_left 3
  focus (
    obtain rfl : kv = 2 := by omega
    clear hkv hk15
    go_upto_region 37 with (first
      | (go_at_call 67; (refine (then_calls w0 _ g a s1 HA.out HX.out.ls).mono ?_; rintro e v2 ⟨n2, s2, rfl, h1, p1, k1⟩; have HP2 := Aside0.mk p1; have hc2 := ((HX.out.call h1 k1).cell 8).2.1 _ (fun _ => rfl); have hf2 := ((HX.out.call h1 k1).cell 8).1; have n0_ := Aside0.mk ((HX.out.call h1 k1).set 8 (.int .i64 n2) ⟨2, 0, 0, 0, 0, [], 0, 0, n2, 0, []⟩ rfl (fun _ => rfl)); clear HX h1 p1 k1; have HX := n0_; clear n0_))
      | (go_at_call 45; (refine (want_calls w0 _ g a s2 10 _ rfl HA.out HX.out.ls).mono ?_; rintro e vE ⟨sE, rfl, h1, p1, k1⟩; have HPE := Aside0.mk p1; have n0_ := Aside0.mk (HX.out.call h1 k1); clear HX h1 p1 k1; have HX := n0_; clear n0_)))
    obtain ⟨x4, HZ⟩ : ∃ x4, Aside0 (RX w0 (wx.heap.size + 2) wa vE g (wx.heap.size + 1) a sE x4 ∧ Post (endP stepP) s x4 sE) := ⟨_, ⟨HX.out, step_post HP1.out (part_num (p := .i) (fun _ => rfl) (fun l => by rw [partGo]; exact fun h => by cases h) HP2.out (part_end)) HPE.out⟩⟩
    clear HX HPE)
  rotate_left 1
  focus (
    obtain rfl : kv = 3 := by omega
    clear hkv hk15
    go_upto_region 37 with (first
      | (go_at_call 67; (refine (then_calls w0 _ g a s1 HA.out HX.out.ls).mono ?_; rintro e v2 ⟨n2, s2, rfl, h1, p1, k1⟩; have HP2 := Aside0.mk p1; have hc2 := ((HX.out.call h1 k1).cell 8).2.1 _ (fun _ => rfl); have hf2 := ((HX.out.call h1 k1).cell 8).1; have n0_ := Aside0.mk ((HX.out.call h1 k1).set 8 (.int .i64 n2) ⟨3, 0, 0, 0, 0, [], 0, 0, n2, 0, []⟩ rfl (fun _ => rfl)); clear HX h1 p1 k1; have HX := n0_; clear n0_))
      | (go_at_call 45; (refine (want_calls w0 _ g a s2 10 _ rfl HA.out HX.out.ls).mono ?_; rintro e vE ⟨sE, rfl, h1, p1, k1⟩; have HPE := Aside0.mk p1; have n0_ := Aside0.mk (HX.out.call h1 k1); clear HX h1 p1 k1; have HX := n0_; clear n0_)))
    obtain ⟨x4, HZ⟩ : ∃ x4, Aside0 (RX w0 (wx.heap.size + 2) wa vE g (wx.heap.size + 1) a sE x4 ∧ Post (endP stepP) s x4 sE) := ⟨_, ⟨HX.out, step_post HP1.out (part_num (p := .i) (fun _ => rfl) (fun l => by rw [partGo]; exact fun h => by cases h) HP2.out (part_end)) HPE.out⟩⟩
    clear HX HPE)
  rotate_left 1
  focus (
    obtain rfl : kv = 4 := by omega
    clear hkv hk15
    go_upto_region 37 with (first
      | (go_at_call 67; (refine (then_calls w0 _ g a s1 HA.out HX.out.ls).mono ?_; rintro e v2 ⟨n2, s2, rfl, h1, p1, k1⟩; have HP2 := Aside0.mk p1; have hc2 := ((HX.out.call h1 k1).cell 8).2.1 _ (fun _ => rfl); have hf2 := ((HX.out.call h1 k1).cell 8).1; have n0_ := Aside0.mk ((HX.out.call h1 k1).set 8 (.int .i64 n2) ⟨4, 0, 0, 0, 0, [], 0, 0, n2, 0, []⟩ rfl (fun _ => rfl)); clear HX h1 p1 k1; have HX := n0_; clear n0_))
      | (go_at_call 45; (refine (want_calls w0 _ g a s2 10 _ rfl HA.out HX.out.ls).mono ?_; rintro e vE ⟨sE, rfl, h1, p1, k1⟩; have HPE := Aside0.mk p1; have n0_ := Aside0.mk (HX.out.call h1 k1); clear HX h1 p1 k1; have HX := n0_; clear n0_)))
    obtain ⟨x4, HZ⟩ : ∃ x4, Aside0 (RX w0 (wx.heap.size + 2) wa vE g (wx.heap.size + 1) a sE x4 ∧ Post (endP stepP) s x4 sE) := ⟨_, ⟨HX.out, step_post HP1.out (part_num (p := .i) (fun _ => rfl) (fun l => by rw [partGo]; exact fun h => by cases h) HP2.out (part_end)) HPE.out⟩⟩
    clear HX HPE)
  rotate_left 1
  focus (
    obtain rfl : kv = 5 := by omega
    clear hkv hk15
    go_upto_region 37 with (first
      | (go_at_call 67; (refine (then_calls w0 _ g a s1 HA.out HX.out.ls).mono ?_; rintro e v2 ⟨n2, s2, rfl, h1, p1, k1⟩; have HP2 := Aside0.mk p1; have hc2 := ((HX.out.call h1 k1).cell 8).2.1 _ (fun _ => rfl); have hf2 := ((HX.out.call h1 k1).cell 8).1; have n0_ := Aside0.mk ((HX.out.call h1 k1).set 8 (.int .i64 n2) ⟨5, 0, 0, 0, 0, [], 0, 0, n2, 0, []⟩ rfl (fun _ => rfl)); clear HX h1 p1 k1; have HX := n0_; clear n0_))
      | (go_at_call 67; (refine (then_calls w0 _ g a s2 HA.out HX.out.ls).mono ?_; rintro e v3 ⟨n3, s3, rfl, h1, p1, k1⟩; have HP3 := Aside0.mk p1; have hc3 := ((HX.out.call h1 k1).cell 9).2.1 _ (fun _ => rfl); have hf3 := ((HX.out.call h1 k1).cell 9).1; have n0_ := Aside0.mk ((HX.out.call h1 k1).set 9 (.int .i64 n3) ⟨5, 0, 0, 0, 0, [], 0, 0, n2, n3, []⟩ rfl (fun _ => rfl)); clear HX h1 p1 k1; have HX := n0_; clear n0_))
      | (go_at_call 45; (refine (want_calls w0 _ g a s3 10 _ rfl HA.out HX.out.ls).mono ?_; rintro e vE ⟨sE, rfl, h1, p1, k1⟩; have HPE := Aside0.mk p1; have n0_ := Aside0.mk (HX.out.call h1 k1); clear HX h1 p1 k1; have HX := n0_; clear n0_)))
    obtain ⟨x4, HZ⟩ : ∃ x4, Aside0 (RX w0 (wx.heap.size + 2) wa vE g (wx.heap.size + 1) a sE x4 ∧ Post (endP stepP) s x4 sE) := ⟨_, ⟨HX.out, step_post HP1.out (part_num (p := .i) (fun _ => rfl) (fun l => by rw [partGo]; exact fun h => by cases h) HP2.out (part_num (p := .j) (fun _ => rfl) (fun l => by rw [partGo]; exact fun h => by cases h) HP3.out (part_end))) HPE.out⟩⟩
    clear HX HPE)
  rotate_left 1
  focus (
    obtain rfl : kv = 6 := by omega
    clear hkv hk15
    go_upto_region 37 with (first
      | (go_at_call 67; (refine (then_calls w0 _ g a s1 HA.out HX.out.ls).mono ?_; rintro e v2 ⟨n2, s2, rfl, h1, p1, k1⟩; have HP2 := Aside0.mk p1; have hc2 := ((HX.out.call h1 k1).cell 1).2.1 _ (fun _ => rfl); have hf2 := ((HX.out.call h1 k1).cell 1).1; have n0_ := Aside0.mk ((HX.out.call h1 k1).set 1 (.int .i64 n2) ⟨6, n2, 0, 0, 0, [], 0, 0, 0, 0, []⟩ rfl (fun _ => rfl)); clear HX h1 p1 k1; have HX := n0_; clear n0_))
      | (go_at_call 45; (refine (want_calls w0 _ g a s2 10 _ rfl HA.out HX.out.ls).mono ?_; rintro e vE ⟨sE, rfl, h1, p1, k1⟩; have HPE := Aside0.mk p1; have n0_ := Aside0.mk (HX.out.call h1 k1); clear HX h1 p1 k1; have HX := n0_; clear n0_)))
    obtain ⟨x4, HZ⟩ : ∃ x4, Aside0 (RX w0 (wx.heap.size + 2) wa vE g (wx.heap.size + 1) a sE x4 ∧ Post (endP stepP) s x4 sE) := ⟨_, ⟨HX.out, step_post HP1.out (part_num (p := .r) (fun _ => rfl) (fun l => by rw [partGo]; exact fun h => by cases h) HP2.out (part_end)) HPE.out⟩⟩
    clear HX HPE)
  rotate_left 1
  focus (
    obtain rfl : kv = 7 := by omega
    clear hkv hk15
    go_upto_region 37 with (first
      | (go_at_call 67; (refine (then_calls w0 _ g a s1 HA.out HX.out.ls).mono ?_; rintro e v2 ⟨n2, s2, rfl, h1, p1, k1⟩; have HP2 := Aside0.mk p1; have hc2 := ((HX.out.call h1 k1).cell 1).2.1 _ (fun _ => rfl); have hf2 := ((HX.out.call h1 k1).cell 1).1; have n0_ := Aside0.mk ((HX.out.call h1 k1).set 1 (.int .i64 n2) ⟨7, n2, 0, 0, 0, [], 0, 0, 0, 0, []⟩ rfl (fun _ => rfl)); clear HX h1 p1 k1; have HX := n0_; clear n0_))
      | (go_at_call 69; (refine (word_calls w0 _ g a s2 HA.out HX.out.ls).mono ?_; rintro e v3 ⟨dv3, n3, s3, rfl, hR, h1, p1, k1⟩; have HP3 := Aside0.mk p1; obtain ⟨Ad3, cd3, rfl⟩ := Kd.R_slice hR; obtain ⟨du3, hc3⟩ := ((HX.out.call h1 k1).cell 10).2.2 rfl; have hf3 := ((HX.out.call h1 k1).cell 10).1; have n0_ := Aside0.mk ((HX.out.call h1 k1).data (.slice Ad3 (Sc.nums n3).length cd3) n3 (Kd.R_lower hR (by have := HX.out.kb.1; have := HX.out.nw; omega))); clear HX h1 p1 k1 hR; have HX := n0_; clear n0_))
      | (go_at_call 45; (refine (want_calls w0 _ g a s3 10 _ rfl HA.out HX.out.ls).mono ?_; rintro e vE ⟨sE, rfl, h1, p1, k1⟩; have HPE := Aside0.mk p1; have n0_ := Aside0.mk (HX.out.call h1 k1); clear HX h1 p1 k1; have HX := n0_; clear n0_)))
    obtain ⟨x4, HZ⟩ : ∃ x4, Aside0 (RX w0 (wx.heap.size + 2) wa vE g (wx.heap.size + 1) a sE x4 ∧ Post (endP stepP) s x4 sE) := ⟨_, ⟨HX.out, step_post HP1.out (part_num (p := .r) (fun _ => rfl) (fun l => by rw [partGo]; exact fun h => by cases h) HP2.out (part_data HP3.out (part_end))) HPE.out⟩⟩
    clear HX HPE)
  rotate_left 1
  focus (
    obtain rfl : kv = 8 := by omega
    clear hkv hk15
    go_upto_region 37 with (first
      | (go_at_call 67; (refine (then_calls w0 _ g a s1 HA.out HX.out.ls).mono ?_; rintro e v2 ⟨n2, s2, rfl, h1, p1, k1⟩; have HP2 := Aside0.mk p1; have hc2 := ((HX.out.call h1 k1).cell 1).2.1 _ (fun _ => rfl); have hf2 := ((HX.out.call h1 k1).cell 1).1; have n0_ := Aside0.mk ((HX.out.call h1 k1).set 1 (.int .i64 n2) ⟨8, n2, 0, 0, 0, [], 0, 0, 0, 0, []⟩ rfl (fun _ => rfl)); clear HX h1 p1 k1; have HX := n0_; clear n0_))
      | (go_at_call 69; (refine (word_calls w0 _ g a s2 HA.out HX.out.ls).mono ?_; rintro e v3 ⟨dv3, n3, s3, rfl, hR, h1, p1, k1⟩; have HP3 := Aside0.mk p1; obtain ⟨Ad3, cd3, rfl⟩ := Kd.R_slice hR; obtain ⟨du3, hc3⟩ := ((HX.out.call h1 k1).cell 10).2.2 rfl; have hf3 := ((HX.out.call h1 k1).cell 10).1; have n0_ := Aside0.mk ((HX.out.call h1 k1).data (.slice Ad3 (Sc.nums n3).length cd3) n3 (Kd.R_lower hR (by have := HX.out.kb.1; have := HX.out.nw; omega))); clear HX h1 p1 k1 hR; have HX := n0_; clear n0_))
      | (go_at_call 45; (refine (want_calls w0 _ g a s3 10 _ rfl HA.out HX.out.ls).mono ?_; rintro e vE ⟨sE, rfl, h1, p1, k1⟩; have HPE := Aside0.mk p1; have n0_ := Aside0.mk (HX.out.call h1 k1); clear HX h1 p1 k1; have HX := n0_; clear n0_)))
    obtain ⟨x4, HZ⟩ : ∃ x4, Aside0 (RX w0 (wx.heap.size + 2) wa vE g (wx.heap.size + 1) a sE x4 ∧ Post (endP stepP) s x4 sE) := ⟨_, ⟨HX.out, step_post HP1.out (part_num (p := .r) (fun _ => rfl) (fun l => by rw [partGo]; exact fun h => by cases h) HP2.out (part_data HP3.out (part_end))) HPE.out⟩⟩
    clear HX HPE)
  rotate_left 1
  focus (
    obtain rfl : kv = 9 := by omega
    clear hkv hk15
    go_upto_region 37 with (first
      | (go_at_call 67; (refine (then_calls w0 _ g a s1 HA.out HX.out.ls).mono ?_; rintro e v2 ⟨n2, s2, rfl, h1, p1, k1⟩; have HP2 := Aside0.mk p1; have hc2 := ((HX.out.call h1 k1).cell 1).2.1 _ (fun _ => rfl); have hf2 := ((HX.out.call h1 k1).cell 1).1; have n0_ := Aside0.mk ((HX.out.call h1 k1).set 1 (.int .i64 n2) ⟨9, n2, 0, 0, 0, [], 0, 0, 0, 0, []⟩ rfl (fun _ => rfl)); clear HX h1 p1 k1; have HX := n0_; clear n0_))
      | (go_at_call 45; (refine (want_calls w0 _ g a s2 10 _ rfl HA.out HX.out.ls).mono ?_; rintro e vE ⟨sE, rfl, h1, p1, k1⟩; have HPE := Aside0.mk p1; have n0_ := Aside0.mk (HX.out.call h1 k1); clear HX h1 p1 k1; have HX := n0_; clear n0_)))
    obtain ⟨x4, HZ⟩ : ∃ x4, Aside0 (RX w0 (wx.heap.size + 2) wa vE g (wx.heap.size + 1) a sE x4 ∧ Post (endP stepP) s x4 sE) := ⟨_, ⟨HX.out, step_post HP1.out (part_num (p := .r) (fun _ => rfl) (fun l => by rw [partGo]; exact fun h => by cases h) HP2.out (part_end)) HPE.out⟩⟩
    clear HX HPE)
  rotate_left 1
  focus (
    obtain rfl : kv = 10 := by omega
    clear hkv hk15
    go_upto_region 37 with (first
      | (go_at_call 45; (refine (want_calls w0 _ g a s1 10 _ rfl HA.out HX.out.ls).mono ?_; rintro e vE ⟨sE, rfl, h1, p1, k1⟩; have HPE := Aside0.mk p1; have n0_ := Aside0.mk (HX.out.call h1 k1); clear HX h1 p1 k1; have HX := n0_; clear n0_)))
    obtain ⟨x4, HZ⟩ : ∃ x4, Aside0 (RX w0 (wx.heap.size + 2) wa vE g (wx.heap.size + 1) a sE x4 ∧ Post (endP stepP) s x4 sE) := ⟨_, ⟨HX.out, step_post HP1.out (part_end) HPE.out⟩⟩
    clear HX HPE)
  rotate_left 1
  focus (
    obtain rfl : kv = 11 := by omega
    clear hkv hk15
    go_upto_region 37 with (first
      | (go_at_call 45; (refine (want_calls w0 _ g a s1 10 _ rfl HA.out HX.out.ls).mono ?_; rintro e vE ⟨sE, rfl, h1, p1, k1⟩; have HPE := Aside0.mk p1; have n0_ := Aside0.mk (HX.out.call h1 k1); clear HX h1 p1 k1; have HX := n0_; clear n0_)))
    obtain ⟨x4, HZ⟩ : ∃ x4, Aside0 (RX w0 (wx.heap.size + 2) wa vE g (wx.heap.size + 1) a sE x4 ∧ Post (endP stepP) s x4 sE) := ⟨_, ⟨HX.out, step_post HP1.out (part_end) HPE.out⟩⟩
    clear HX HPE)
  rotate_left 1
  focus (
    obtain rfl : kv = 12 := by omega
    clear hkv hk15
    go_upto_region 37 with (first
      | (go_at_call 67; (refine (then_calls w0 _ g a s1 HA.out HX.out.ls).mono ?_; rintro e v2 ⟨n2, s2, rfl, h1, p1, k1⟩; have HP2 := Aside0.mk p1; have hc2 := ((HX.out.call h1 k1).cell 1).2.1 _ (fun _ => rfl); have hf2 := ((HX.out.call h1 k1).cell 1).1; have n0_ := Aside0.mk ((HX.out.call h1 k1).set 1 (.int .i64 n2) ⟨12, n2, 0, 0, 0, [], 0, 0, 0, 0, []⟩ rfl (fun _ => rfl)); clear HX h1 p1 k1; have HX := n0_; clear n0_))
      | (go_at_call 45; (refine (want_calls w0 _ g a s2 10 _ rfl HA.out HX.out.ls).mono ?_; rintro e vE ⟨sE, rfl, h1, p1, k1⟩; have HPE := Aside0.mk p1; have n0_ := Aside0.mk (HX.out.call h1 k1); clear HX h1 p1 k1; have HX := n0_; clear n0_)))
    obtain ⟨x4, HZ⟩ : ∃ x4, Aside0 (RX w0 (wx.heap.size + 2) wa vE g (wx.heap.size + 1) a sE x4 ∧ Post (endP stepP) s x4 sE) := ⟨_, ⟨HX.out, step_post HP1.out (part_num (p := .r) (fun _ => rfl) (fun l => by rw [partGo]; exact fun h => by cases h) HP2.out (part_end)) HPE.out⟩⟩
    clear HX HPE)
  rotate_left 1
  focus (
    obtain rfl : kv = 13 := by omega
    clear hkv hk15
    go_upto_region 37 with (first
      | (go_at_call 67; (refine (then_calls w0 _ g a s1 HA.out HX.out.ls).mono ?_; rintro e v2 ⟨n2, s2, rfl, h1, p1, k1⟩; have HP2 := Aside0.mk p1; have hc2 := ((HX.out.call h1 k1).cell 1).2.1 _ (fun _ => rfl); have hf2 := ((HX.out.call h1 k1).cell 1).1; have n0_ := Aside0.mk ((HX.out.call h1 k1).set 1 (.int .i64 n2) ⟨13, n2, 0, 0, 0, [], 0, 0, 0, 0, []⟩ rfl (fun _ => rfl)); clear HX h1 p1 k1; have HX := n0_; clear n0_))
      | (go_at_call 67; (refine (then_calls w0 _ g a s2 HA.out HX.out.ls).mono ?_; rintro e v3 ⟨n3, s3, rfl, h1, p1, k1⟩; have HP3 := Aside0.mk p1; have hc3 := ((HX.out.call h1 k1).cell 8).2.1 _ (fun _ => rfl); have hf3 := ((HX.out.call h1 k1).cell 8).1; have n0_ := Aside0.mk ((HX.out.call h1 k1).set 8 (.int .i64 n3) ⟨13, n2, 0, 0, 0, [], 0, 0, n3, 0, []⟩ rfl (fun _ => rfl)); clear HX h1 p1 k1; have HX := n0_; clear n0_))
      | (go_at_call 67; (refine (then_calls w0 _ g a s3 HA.out HX.out.ls).mono ?_; rintro e v4 ⟨n4, s4, rfl, h1, p1, k1⟩; have HP4 := Aside0.mk p1; have hc4 := ((HX.out.call h1 k1).cell 9).2.1 _ (fun _ => rfl); have hf4 := ((HX.out.call h1 k1).cell 9).1; have n0_ := Aside0.mk ((HX.out.call h1 k1).set 9 (.int .i64 n4) ⟨13, n2, 0, 0, 0, [], 0, 0, n3, n4, []⟩ rfl (fun _ => rfl)); clear HX h1 p1 k1; have HX := n0_; clear n0_))
      | (go_at_call 45; (refine (want_calls w0 _ g a s4 10 _ rfl HA.out HX.out.ls).mono ?_; rintro e vE ⟨sE, rfl, h1, p1, k1⟩; have HPE := Aside0.mk p1; have n0_ := Aside0.mk (HX.out.call h1 k1); clear HX h1 p1 k1; have HX := n0_; clear n0_)))
    obtain ⟨x4, HZ⟩ : ∃ x4, Aside0 (RX w0 (wx.heap.size + 2) wa vE g (wx.heap.size + 1) a sE x4 ∧ Post (endP stepP) s x4 sE) := ⟨_, ⟨HX.out, step_post HP1.out (part_num (p := .r) (fun _ => rfl) (fun l => by rw [partGo]; exact fun h => by cases h) HP2.out (part_num (p := .i) (fun _ => rfl) (fun l => by rw [partGo]; exact fun h => by cases h) HP3.out (part_num (p := .j) (fun _ => rfl) (fun l => by rw [partGo]; exact fun h => by cases h) HP4.out (part_end)))) HPE.out⟩⟩
    clear HX HPE)
  rotate_left 1
  focus (
    obtain rfl : kv = 14 := by omega
    clear hkv hk15
    go_upto_region 37 with (first
      | (go_at_call 67; (refine (then_calls w0 _ g a s1 HA.out HX.out.ls).mono ?_; rintro e v2 ⟨n2, s2, rfl, h1, p1, k1⟩; have HP2 := Aside0.mk p1; have hc2 := ((HX.out.call h1 k1).cell 1).2.1 _ (fun _ => rfl); have hf2 := ((HX.out.call h1 k1).cell 1).1; have n0_ := Aside0.mk ((HX.out.call h1 k1).set 1 (.int .i64 n2) ⟨14, n2, 0, 0, 0, [], 0, 0, 0, 0, []⟩ rfl (fun _ => rfl)); clear HX h1 p1 k1; have HX := n0_; clear n0_))
      | (go_at_call 45; (refine (want_calls w0 _ g a s2 10 _ rfl HA.out HX.out.ls).mono ?_; rintro e vE ⟨sE, rfl, h1, p1, k1⟩; have HPE := Aside0.mk p1; have n0_ := Aside0.mk (HX.out.call h1 k1); clear HX h1 p1 k1; have HX := n0_; clear n0_)))
    obtain ⟨x4, HZ⟩ : ∃ x4, Aside0 (RX w0 (wx.heap.size + 2) wa vE g (wx.heap.size + 1) a sE x4 ∧ Post (endP stepP) s x4 sE) := ⟨_, ⟨HX.out, step_post HP1.out (part_num (p := .r) (fun _ => rfl) (fun l => by rw [partGo]; exact fun h => by cases h) HP2.out (part_end)) HPE.out⟩⟩
    clear HX HPE)
  rotate_left 1
  focus (
    obtain rfl : kv = 15 := by omega
    clear hkv hk15
    go_upto_region 37 with (first
      | (go_at_call 67; (refine (then_calls w0 _ g a s1 HA.out HX.out.ls).mono ?_; rintro e v2 ⟨n2, s2, rfl, h1, p1, k1⟩; have HP2 := Aside0.mk p1; have hc2 := ((HX.out.call h1 k1).cell 1).2.1 _ (fun _ => rfl); have hf2 := ((HX.out.call h1 k1).cell 1).1; have n0_ := Aside0.mk ((HX.out.call h1 k1).set 1 (.int .i64 n2) ⟨15, n2, 0, 0, 0, [], 0, 0, 0, 0, []⟩ rfl (fun _ => rfl)); clear HX h1 p1 k1; have HX := n0_; clear n0_))
      | (go_at_call 45; (refine (want_calls w0 _ g a s2 10 _ rfl HA.out HX.out.ls).mono ?_; rintro e vE ⟨sE, rfl, h1, p1, k1⟩; have HPE := Aside0.mk p1; have n0_ := Aside0.mk (HX.out.call h1 k1); clear HX h1 p1 k1; have HX := n0_; clear n0_)))
    obtain ⟨x4, HZ⟩ : ∃ x4, Aside0 (RX w0 (wx.heap.size + 2) wa vE g (wx.heap.size + 1) a sE x4 ∧ Post (endP stepP) s x4 sE) := ⟨_, ⟨HX.out, step_post HP1.out (part_num (p := .r) (fun _ => rfl) (fun l => by rw [partGo]; exact fun h => by cases h) HP2.out (part_end)) HPE.out⟩⟩
    clear HX HPE)
  rotate_left 1
  all_goals (
    obtain ⟨dv, hbk, hRd⟩ := HZ.out.1.st
    obtain ⟨Ad, cd, rfl⟩ := Kd.R_slice hRd
    have hln : (Sc.nums x4.data).length = x4.data.length := by simp [Sc.nums]
    rw [hln] at hbk hRd
    have HB5 : Aside0 (vE.heap[wx.heap.size + 1]? = some (.cells (stc x4 (.slice Ad x4.data.length cd)) 48 (0, 0)) ∧ vE.heap[wx.heap.size]? = some (.cells (stc (st0 0) (.slice none 0 0)) 48 (0, 0)) ∧ Kd.R (Kd.int .u8) 5 vE (wx.heap.size + 2) (fun _ => True) (.slice Ad x4.data.length cd) (Sc.nums x4.data)) := ⟨⟨hbk, by
      have k3 := HG.out
      have k4 := HB.out
      exact (HZ.out.1.kb.2 _ (blk_lt k4.2.2.1) (by omega) (by omega)).trans k4.2.2.1, hRd⟩⟩
    clear hbk hRd hln
    go_wp2_with (first
      | ((with_reducible refine gate_dst (N := 102) rfl ?_); refine wpList_load_row rfl 48 (.tmp 3) rfl (wx.heap.size + 1) (by rfl) 48 (stc x4 (.slice Ad x4.data.length cd)) (0, 0) _ HB5.out.1 hu48 rfl inf48 ?_)
      | (refine wpList_store_row rfl 48 (.tmp 2) (.tmp 102) rfl wx.heap.size (stc x4 (.slice Ad x4.data.length cd)) (by rfl) (by rfl) 48 _ HB5.out.2.1 inf48 rfl (stc_one _ _ _ _) ?_))
    refine bodyPost_ret (results_cell_row rfl _ _ wx.heap.size 48 (stc x4 (.slice Ad x4.data.length cd)) (0, 0) _ (by rfl) (setRow_blk HB5.out.2.1 _) hu48 rfl inf48) rfl ?_
    have k3 := HG.out
    have k4 := HB.out
    have kb4 := HZ.out.1.kb
    refine ⟨x4, Ad, cd, sE, rfl, ?_, ?_, ?_, HZ.out.2⟩
    · exact Kd.R_lower (Kd.R_mono (Kd.R_step (Kd.R_bound HB5.out.2.2) (fun i hi hlt => setRow_far (by have := hi.2.1; omega) _)) (fun _ _ => trivial)) (by omega)
    · obtain ⟨at_, bd, h1, h2, h3⟩ := HZ.out.1.ls
      exact ⟨at_, bd, ⟨(setRow_far (by omega) _).trans h1.1, h1.2⟩, h2, below_setRow h3 (by omega) _⟩
    · refine ⟨?_, fun i hi hg hn => ?_⟩
      · have h2 := kb4.1
        simp only [World.setRow, Array.size_modify]
        omega
      · rw [setRow_far (by omega), kb4.2 i (by omega) hg (by omega)]
        exact k4.1.block i hi)

end Go.Proofs.YtnbfebjcfhbhiaaDoor.Rf
end
