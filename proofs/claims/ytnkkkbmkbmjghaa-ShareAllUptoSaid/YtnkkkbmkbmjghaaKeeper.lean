/- What a keep promises: the contracts of put and putRights, whatever is kept in it. -/
import Derived.Test.YtnkkkbmkbmjghaaKeepSt
import Derived.Test.YtnkkkbmkbmjghaaPx9
namespace Go.Proofs.Ytnkkkbmkbmjghaa.Kr
open Go.RowKit Go.Proofs.Ytnkkkbmkbmjghaa.P Go.Proofs.YtnkkkbmkbmjghaaW.PrintWords Go.Proofs.YtnkkkbmkbmjghaaW.PrintLast Go.Proofs.YtnkkkbmkbmjghaaW.PrintMore Go.Proofs.Ytnkkkbmkbmjghaa.Ks
set_option linter.unusedVariables false
/-- Behind a put of v: labels and blocks. -/
structure After (ρ ρ' : Nat → Nat) (v : Value) (w w' : World) : Prop where
  lab : ∀ k, k < w.heap.size → ρ' k = ρ k ∨ some k = v.ownBlock
  b0 : Below 0 w w'
  same : ∀ k, k < w.heap.size → ρ k = 0 → some k ≠ v.ownBlock → w'.heap[k]? = w.heap[k]?
structure Keeper (kb : Nat) (K : (Nat → Nat) → Nat → World → Prop) : Prop where
  zer : ∀ {ρ n w}, K ρ n w → ∀ k, ρ k ≠ 0 → k < w.heap.size
  move : ∀ {ρ n w w1}, K ρ n w → (∀ k, k < w.heap.size → ρ k ≠ 0 → w1.heap[k]? = w.heap[k]?) → w.heap.size ≤ w1.heap.size → K ρ n w1
  put : ∀ {ρ n w v xs}, K ρ n w → n ≤ 4194304 → xs.length ≤ 16 → Kd.R (Kd.int .i64) 3 w 0 (fun _ => True) v xs → (∀ k, v.ownBlock = some k → ρ k = 0) →
    Calls Try.prog 26 #[.pointer (some ⟨kb, 0, none⟩), v] w fun e w' => e = .returned (.tuple #[]) ∧ ∃ ρ', K ρ' (n + 1) w' ∧ After ρ ρ' v w w'
  putR : ∀ {ρ n w v xs}, K ρ n w → n ≤ 4194304 → xs.length ≤ 16 → Kd.R k50 50 w 0 (fun _ => True) v xs → (∀ k, v.ownBlock = some k → ρ k = 0) →
    Calls Try.prog 29 #[.pointer (some ⟨kb, 0, none⟩), v] w fun e w' => e = .returned (.tuple #[]) ∧ ∃ ρ', K ρ' (n + 1) w' ∧ After ρ ρ' v w w'
/-- From w on: labels of what was there, and what no label has is as it was. -/
structure Rel (ρ ρx : Nat → Nat) (w wx : World) : Prop where
  lab : ∀ k, k < w.heap.size → ρx k = ρ k
  b0 : Below 0 w wx
  same : ∀ k, k < w.heap.size → ρ k = 0 → wx.heap[k]? = w.heap[k]?
section
variable {ρ ρx ρy ρz : Nat → Nat} {w wx wy wz : World} {v : Value}
theorem Rel.refl (ρ : Nat → Nat) (w : World) : Rel ρ ρ w w := ⟨fun _ _ => rfl, Below.refl _ _, fun _ _ _ => rfl⟩
theorem Rel.below (h : Rel ρ ρx w wx) (hb : Below wx.heap.size wx wy) : Rel ρ ρx w wy := ⟨h.lab, h.b0.trans (hb.mono (Nat.zero_le _)), fun k hk h0 => (hb.block k (Nat.lt_of_lt_of_le hk h.b0.size)).trans (h.same k hk h0)⟩
theorem Rel.put (h : Rel ρ ρx w wx) (ha : After ρx ρy v wx wy) (hv : ∀ k, v.ownBlock = some k → w.heap.size ≤ k) : Rel ρ ρy w wy :=
  ⟨fun k hk => by
    rcases ha.lab k (Nat.lt_of_lt_of_le hk h.b0.size) with h1 | h1
    · exact h1.trans (h.lab k hk)
    · have := hv k h1.symm; omega,
   h.b0.trans ha.b0, fun k hk h0 => (ha.same k (Nat.lt_of_lt_of_le hk h.b0.size) ((h.lab k hk).trans h0) (fun e => by have := hv k e.symm; omega)).trans (h.same k hk h0)⟩
theorem Rel.kept (h : Rel ρ ρx w wx) {g : Nat} (hk : Kept wx wy (fun k => k = g)) (hb : Below 0 wx wy) (hg : w.heap.size ≤ g) : Rel ρ ρx w wy :=
  ⟨h.lab, h.b0.trans hb, fun k hlt h0 => (hk.2 k (Nat.lt_of_lt_of_le hlt h.b0.size) (fun e => by have e2 : k = g := e; omega)).trans (h.same k hlt h0)⟩
theorem Rel.trans (h : Rel ρ ρx w wx) (h2 : Rel ρx ρy wx wy) : Rel ρ ρy w wy :=
  ⟨fun k hk => (h2.lab k (Nat.lt_of_lt_of_le hk h.b0.size)).trans (h.lab k hk), h.b0.trans h2.b0, fun k hk h0 => (h2.same k (Nat.lt_of_lt_of_le hk h.b0.size) ((h.lab k hk).trans h0)).trans (h.same k hk h0)⟩
theorem Rel.keptS (h : Rel ρ ρx w wx) : Kept w wx (fun k => ρ k ≠ 0) := ⟨h.b0.size, fun k hk h0 => h.same k hk (Classical.not_not.1 h0)⟩
theorem After.kept (h : After ρ ρy v w wy) : Kept w wy (fun k => ρ k ≠ 0 ∨ some k = v.ownBlock) := ⟨h.b0.size, fun k hk h0 => h.same k hk (Classical.not_not.1 (fun h1 => h0 (.inl h1))) (fun h1 => h0 (.inr h1))⟩
theorem After.zero (h : After ρ ρy v w wy) {b : Nat} (hb : ρ b = 0) (hlt : b < w.heap.size) (hv : some b ≠ v.ownBlock) : ρy b = 0 := by
  rcases h.lab b hlt with h1 | h1
  · exact h1.trans hb
  · exact absurd h1 hv
end
/-- A world without blocks, beside which every row is one's own. -/
def bare (w : World) : World := { w with heap := #[] }
theorem bare_below (w : World) : Below (bare w).heap.size (bare w) w := ⟨rfl, rfl, rfl, Nat.zero_le _, fun k hk => absurd hk (by simp [bare])⟩
theorem bare_size (w : World) : (bare w).heap.size = 0 := rfl
end Go.Proofs.Ytnkkkbmkbmjghaa.Kr
