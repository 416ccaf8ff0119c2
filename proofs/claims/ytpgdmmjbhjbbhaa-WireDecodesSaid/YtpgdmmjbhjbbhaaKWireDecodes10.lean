/- texts that the proof needs, laid together by a program of this session. -/
import Derived.Test.YtpgdmmjbhjbbhaaKWireDecodes9
section
namespace Go.Proofs.Ytpgdmmjbhjbbhaa.Rd
open Go Go.RowKit Go.Proofs.Ytpgdmmjbhjbbhaa.P Go.Proofs.Ytpgdmmjbhjbbhaa.Sp Go.Proofs.Ytpgdmmjbhjbbhaa.Vd Go.Proofs.Ytpgdmmjbhjbbhaa.En Go.Proofs.Ytpgdmmjbhjbbhaa.Wr Go.Proofs.YtpgdmmjbhjbbhaaW.PrintWords Go.Proofs.YtpgdmmjbhjbbhaaW.PrintLast Go.Proofs.YtpgdmmjbhjbbhaaW.PrintMore
set_option linter.unusedVariables false
set_option linter.unusedSimpArgs false
/-- Blocks outside S stay. -/
structure Ks (S : Nat → Prop) (w w1 : World) : Prop where
  size : w.heap.size ≤ w1.heap.size
  block : ∀ k, k < w.heap.size → ¬ S k → w1.heap[k]? = w.heap[k]?
theorem Ks.trans {S : Nat → Prop} {a b c : World} (h : Ks S a b) (k : Ks S b c) : Ks S a c := ⟨Nat.le_trans h.size k.size, fun i hi hs => (k.block i (Nat.lt_of_lt_of_le hi h.size) hs).trans (h.block i hi hs)⟩
theorem Ks.below {S : Nat → Prop} {a b : World} (h : Below a.heap.size a b) : Ks S a b := ⟨h.size, fun i hi _ => h.block i hi⟩
theorem Ks.set {S : Nat → Prop} {a b : World} (h : Ks S a b) (g i : Nat) (v : Value) (hg : S g ∨ a.heap.size ≤ g) : Ks S a (b.setCell ⟨g, i, none⟩ v) :=
  ⟨Nat.le_trans h.size (Kb.set g i b v).size, fun k hk hs => ((Kb.set g i b v).block k (Nat.lt_of_lt_of_le hk h.size) (by
    rcases hg with hg | hg
    · intro e; exact hs (e ▸ hg)
    · omega)).trans (h.block k hk hs)⟩
/-- What the fields leave: a panic with the place, or the thing laid into the variables. -/
def Fld {α : Type} (w0 w1 : World) (g : Nat) (S : Nat → Prop) (A : Option Addr) (c : Nat) (b : List Int) (r : R α) (Y : World → Prop) (X : α → World → Prop) (e : Ending) (w' : World) : Prop :=
  Ks (fun k => k = g ∨ S k) w1 w' ∧ Below w0.heap.size w0 w' ∧ Y w' ∧ match r with
    | .bad k => e = pan ((b.length : Int) - k)
    | .ok x l => e = .returned (.tuple #[]) ∧ RS w0 w' g A c b l ∧ X x w'
/-- What read leaves. -/
def ReadP {α : Type} (w0 w : World) (S : Nat → Prop) (b : List Int) (r : R α) (Y : World → Prop) (X : α → World → Prop) (e : Ending) (w' : World) : Prop :=
  Ks S w w' ∧ Below w0.heap.size w0 w' ∧ Y w' ∧ ∃ pt er : Int, e = .returned (.tuple #[.int .i64 pt, .int .i64 er]) ∧ match r with
    | .bad k => pt = (b.length : Int) - k ∧ er = 20
    | .ok x [] => pt = 0 ∧ er = 0 ∧ X x w'
    | .ok x (d :: l) => pt = (b.length : Int) - (l.length + 1) ∧ er = 20
/-- It says nothing of the two results' variables. -/
def Stable (n : Nat) (Y : World → Prop) : Prop := ∀ w1 w2 : World, Y w1 → (∀ k, k < w1.heap.size → k ≠ n → k ≠ n + 1 → w2.heap[k]? = w1.heap[k]?) → w1.heap.size ≤ w2.heap.size → Y w2
theorem stable_set {n i : Nat} {Y : World → Prop} (h : Stable n Y) {w : World} (hy : Y w) (v : Value) {g : Nat} (hg : g = n ∨ g = n + 1) : Y (w.setCell ⟨g, i, none⟩ v) :=
  h w _ hy (fun k _ h1 h2 => Below.heap_setCell w ⟨g, i, none⟩ v k (by rcases hg with rfl | rfl <;> assumption)) (Kb.set g i w v).size
set_option maxHeartbeats 4000000 in
set_option maxRecDepth 100000 in
theorem read_msg {α : Type} (cb : Nat) (w0 w : World) (A : Option Addr) (c : Nat) (b : List Int) (S : Nat → Prop) (r : R α) (Y : World → Prop) (X : α → World → Prop) (hi : In w0 A c b) (hB : Below w0.heap.size w0 w)
    (hS : ∀ k, S k → k < w.heap.size) (hS0 : ∀ k, S k → w0.heap.size ≤ k) (hY : Stable w.heap.size Y) (hX : ∀ x, Stable w.heap.size (X x))
    (hf : ∀ w1, Below w.heap.size w w1 → w1.heap.size = w.heap.size + 1 + 1 + 1 → RS w0 w1 (w.heap.size + 1 + 1) A c b b → Calls Try.prog 60 #[.pointer (some ⟨w.heap.size + 1 + 1, 0, none⟩), .pointer (some ⟨cb, 0, none⟩)] w1 fun e w' => Fld w0 w1 (w.heap.size + 1 + 1) S A c b r Y X e w') :
    Calls Try.prog 59 #[.slice A b.length c, .func (Fn.func 60) #[] #[.pointer (some ⟨cb, 0, none⟩)]] w fun e w' => ReadP w0 w S b r Y X e w' := by
  have hmf : ∀ (fn : Fn) (first cap : Array Value) (w : World), (Instr.makeFunc fn first cap).run Try.prog w = .ok (.func fn first cap) w := fun _ _ _ _ => rfl
  obtain ⟨w1, hw1⟩ : ∃ w1, w1 = (((w.alloc (.cells #[.int .i64 0] 3 (0, 0))).alloc (.cells #[.int .i64 0] 30 (0, 0))).alloc (.cells #[.slice A b.length c, .int .i64 0] 141 (0, 0))) := ⟨_, rfl⟩
  have HW1 := Aside0.mk hw1
  have hb1 : Below w.heap.size w w1 := by rw [hw1]; exact ((al_below w _).alloc (by simp) _).alloc (by simp; omega) _
  have hs1 : w1.heap.size = w.heap.size + 1 + 1 + 1 := by rw [hw1]; simp
  have hP : w1.heap[w.heap.size]? = some (.cells #[.int .i64 0] 3 (0, 0)) := by
    rw [hw1, Below.heap_alloc _ _ _ (by simp; omega), Below.heap_alloc _ _ _ (by simp)]; exact heap_alloc_new w _
  have hE : w1.heap[w.heap.size + 1]? = some (.cells #[.int .i64 0] 30 (0, 0)) := by
    rw [hw1, Below.heap_alloc _ _ _ (by simp)]
    have := heap_alloc_new (w.alloc (.cells #[.int .i64 0] 3 (0, 0))) (.cells #[.int .i64 0] 30 (0, 0))
    simpa using this
  have hR : RS w0 w1 (w.heap.size + 1 + 1) A c b b := ⟨by
    have := heap_alloc_new ((w.alloc (.cells #[.int .i64 0] 3 (0, 0))).alloc (.cells #[.int .i64 0] 30 (0, 0))) (.cells #[.slice A b.length c, .int .i64 0] 141 (0, 0))
    rw [hw1]
    unfold pl
    rw [Int.sub_self]
    simpa using this, by have := hB.size; omega, hB.trans (hb1.mono hB.size), ⟨[], rfl⟩⟩
  have HC := Aside0.mk (hf w1 hb1 hs1 hR)
  have HBL := Aside0.mk (And.intro hP hE)
  have HB1 := Aside0.mk (And.intro hb1 hs1)
  have HST := Aside0.mk (And.intro hS (And.intro hS0 (And.intro hY hX)))
  have HSZ := Aside0.mk hB.size
  have HBB := Aside0.mk hB
  have HI := Aside0.mk hi
  clear hw1 hf hP hE hb1 hs1 hS hS0 hY hX hR hB hi
  go_enter_defers Try.func59, Try.ntmps59
  go_wp2_with fail
  rw [← HW1.out]
  rcases hr : r with k | ⟨x, l⟩
  · refine HC.out.mono ?_
    rintro e w2 ⟨hks, hbl, hy, hm⟩
    simp only [hr, pan] at hm
    subst hm
    have hnS : ∀ k, k = w.heap.size ∨ k = w.heap.size + 1 → ¬ (k = w.heap.size + 1 + 1 ∨ S k) := fun k hk h => by
      rcases h with h | h
      · omega
      · have := HST.out.1 k h; omega
    have hP2 := (hks.block w.heap.size (by rw [HB1.out.2]; omega) (hnS _ (.inl rfl))).trans HBL.out.1
    have hE2 := (hks.block (w.heap.size + 1) (by rw [HB1.out.2]; omega) (hnS _ (.inr rfl))).trans HBL.out.2
    have HK2 := Aside0.mk (And.intro hks (And.intro hbl hy))
    clear hks hbl hy hnS
    go_wp2_with fail
    have hne : w.heap.size ≠ w.heap.size + 1 := by omega
    have kp : w2.cell? ⟨w.heap.size, 0, none⟩ = some (.int .i64 0) := (blk_cell hP2 0).trans rfl
    have kpf := blk_frozen hP2 0
    have hE3 : ∀ v, (w2.setCell ⟨w.heap.size, 0, none⟩ v).heap[w.heap.size + 1]? = some (.cells #[.int .i64 0] 30 (0, 0)) := fun v => blk_far hE2 hne 0 v
    have ke := fun v => (blk_cell (hE3 v) 0).trans (rfl : _ = some (Value.int .i64 0))
    have kef := fun v => blk_frozen (hE3 v) 0
    refine leaves_cons (f := 96) (args := #[.pointer (some ⟨w.heap.size, 0, none⟩), .pointer (some ⟨w.heap.size + 1, 0, none⟩)]) (by simp) (by simp [go_sem]) ?_
    refine (catch_pan ⟨w.heap.size, 0, none⟩ ⟨w.heap.size + 1, 0, none⟩ 0 0 _ _ kp kpf (ke _) (kef _)).mono ?_
    rintro e u' w3 ⟨rfl, rfl, rfl⟩
    have hf1 := blk_far (blk_set hP2 0 (.int .i64 ((b.length : Int) - k))) (Ne.symm hne) 0 (.int .i64 20)
    have hf2 := blk_set (hE3 (.int .i64 ((b.length : Int) - k))) 0 (.int .i64 20)
    have hfin : ReadP w0 w S b r Y X (.returned (.tuple #[.int .i64 ((b.length : Int) - k), .int .i64 20])) ((w2.setCell ⟨w.heap.size, 0, none⟩ (.int .i64 ((b.length : Int) - k))).setCell ⟨w.heap.size + 1, 0, none⟩ (.int .i64 20)) := by
      rw [hr]
      refine ⟨?_, ?_, stable_set HST.out.2.2.1 (stable_set HST.out.2.2.1 HK2.out.2.2 _ (.inl rfl)) _ (.inr rfl), _, _, rfl, rfl, rfl⟩
      · refine Ks.set (Ks.set ⟨by have := HK2.out.1.size; have := HB1.out.2; omega, fun i hi hs => (HK2.out.1.block i (by rw [HB1.out.2]; omega) (fun h => h.elim (fun h => absurd h (by omega)) hs)).trans (HB1.out.1.block i hi)⟩ _ _ _ (.inr (Nat.le_refl _))) _ _ _ (.inr (by omega))
      · exact (HK2.out.2.1.setCell HSZ.out _).setCell (by have := HSZ.out; show _ ≤ w.heap.size + 1; omega) _
    have HFXN := Aside0.mk hfin
    clear hfin hP2 hE2 hE3 ke kef kp kpf
    obtain ⟨wf, hwf⟩ : ∃ wf, wf = (w2.setCell ⟨w.heap.size, 0, none⟩ (.int .i64 ((b.length : Int) - k))).setCell ⟨w.heap.size + 1, 0, none⟩ (.int .i64 20) := ⟨_, rfl⟩
    rw [← hwf] at hf1 hf2 HFXN ⊢
    clear hwf
    have kf1 : wf.cell? ⟨w.heap.size, 0, none⟩ = some (.int .i64 ((b.length : Int) - k)) := (blk_cell hf1 0).trans rfl
    have kf2 : wf.cell? ⟨w.heap.size + 1, 0, none⟩ = some (.int .i64 20) := (blk_cell hf2 0).trans rfl
    clear hf1 hf2
    simp [Leaves, settle, results, Try.results59, go_sem, kf1, kf2]
    exact HFXN.out
  · refine HC.out.mono ?_
    rintro e w2 ⟨hks, hbl, hy, hm⟩
    simp only [hr] at hm
    obtain ⟨rfl, hrs, hx⟩ := hm
    have hnS : ∀ k, k = w.heap.size ∨ k = w.heap.size + 1 → ¬ (k = w.heap.size + 1 + 1 ∨ S k) := fun k hk h => by
      rcases h with h | h
      · omega
      · have := HST.out.1 k h; omega
    have hP2 := (hks.block w.heap.size (by rw [HB1.out.2]; omega) (hnS _ (.inl rfl))).trans HBL.out.1
    have hE2 := (hks.block (w.heap.size + 1) (by rw [HB1.out.2]; omega) (hnS _ (.inr rfl))).trans HBL.out.2
    have kp : w2.cell? ⟨w.heap.size, 0, none⟩ = some (.int .i64 0) := (blk_cell hP2 0).trans rfl
    have kpf := blk_frozen hP2 0
    have ke : w2.cell? ⟨w.heap.size + 1, 0, none⟩ = some (.int .i64 0) := (blk_cell hE2 0).trans rfl
    have kef := blk_frozen hE2 0
    have kr : w2.cell? ⟨w.heap.size + 1 + 1, 1, none⟩ = some (.int .i64 (pl b l)) := (blk_cell hrs.blk 1).trans rfl
    have hne : w.heap.size ≠ w.heap.size + 1 := by omega
    have HK2 := Aside0.mk (And.intro hks (And.intro hbl (And.intro hy hx)))
    have HRS := Aside0.mk hrs
    have HKS : Aside0 (∀ u v, Ks S w ((w2.setCell ⟨w.heap.size, 0, none⟩ u).setCell ⟨w.heap.size + 1, 0, none⟩ v) ∧ Below w0.heap.size w0 ((w2.setCell ⟨w.heap.size, 0, none⟩ u).setCell ⟨w.heap.size + 1, 0, none⟩ v) ∧ Y ((w2.setCell ⟨w.heap.size, 0, none⟩ u).setCell ⟨w.heap.size + 1, 0, none⟩ v) ∧ X x ((w2.setCell ⟨w.heap.size, 0, none⟩ u).setCell ⟨w.heap.size + 1, 0, none⟩ v)) := ⟨fun u v => by
      refine ⟨?_, ?_, stable_set HST.out.2.2.1 (stable_set HST.out.2.2.1 hy _ (.inl rfl)) _ (.inr rfl), stable_set (HST.out.2.2.2 x) (stable_set (HST.out.2.2.2 x) hx _ (.inl rfl)) _ (.inr rfl)⟩
      · refine Ks.set (Ks.set ⟨by have := hks.size; have := HB1.out.2; omega, fun i hi hs => (hks.block i (by rw [HB1.out.2]; omega) (fun h => h.elim (fun h => absurd h (by omega)) hs)).trans (HB1.out.1.block i hi)⟩ _ _ _ (.inr (Nat.le_refl _))) _ _ _ (.inr (by omega))
      · exact (hbl.setCell HSZ.out _).setCell (by have := HSZ.out; show _ ≤ w.heap.size + 1; omega) _⟩
    have HHE : Aside0 (∀ u v, ((w2.setCell ⟨w.heap.size, 0, none⟩ u).setCell ⟨w.heap.size + 1, 0, none⟩ v).heap[w.heap.size]? = some (.cells #[u] 3 (0, 0)) ∧ ((w2.setCell ⟨w.heap.size, 0, none⟩ u).setCell ⟨w.heap.size + 1, 0, none⟩ v).heap[w.heap.size + 1]? = some (.cells #[v] 30 (0, 0))) := ⟨fun u v =>
      ⟨blk_far (blk_set hP2 0 u) (Ne.symm hne) 0 v, blk_set (blk_far hE2 hne 0 u) 0 v⟩⟩
    clear hks hbl hy hx hrs hnS hP2 hE2
    rcases l with _ | ⟨d, l⟩
    · have hpl : pl b [] = (b.length : Int) := by unfold pl; simp
      rw [hpl] at kr
      go_wp2_with fail
      refine leaves_cons (f := 96) (args := #[.pointer (some ⟨w.heap.size, 0, none⟩), .pointer (some ⟨w.heap.size + 1, 0, none⟩)]) (by simp) (by simp [go_sem]) ?_
      refine (catch_idle ⟨w.heap.size, 0, none⟩ ⟨w.heap.size + 1, 0, none⟩ _).mono ?_
      rintro e u' w3 ⟨rfl, rfl, rfl⟩
      have hks := HKS.out (.int .i64 (0)) (.int .i64 0)
      have hhe := HHE.out (.int .i64 (0)) (.int .i64 0)
      obtain ⟨wf, hwf⟩ : ∃ wf, wf = (w2.setCell ⟨w.heap.size, 0, none⟩ (.int .i64 (0))).setCell ⟨w.heap.size + 1, 0, none⟩ (.int .i64 0) := ⟨_, rfl⟩
      rw [← hwf] at hks hhe ⊢
      clear hwf
      have kf1 : wf.cell? ⟨w.heap.size, 0, none⟩ = some (.int .i64 (0)) := (blk_cell hhe.1 0).trans rfl
      have kf2 : wf.cell? ⟨w.heap.size + 1, 0, none⟩ = some (.int .i64 0) := (blk_cell hhe.2 0).trans rfl
      have HFXN : Aside0 (ReadP w0 w S b r Y X (.returned (.tuple #[.int .i64 (0), .int .i64 0])) wf) := ⟨by
        rw [hr]
        exact ⟨hks.1, hks.2.1, hks.2.2.1, _, _, rfl, rfl, rfl, hks.2.2.2⟩⟩
      clear hks hhe
      simp [Leaves, settle, results, Try.results59, go_sem, kf1, kf2]
      exact HFXN.out
    · have hpl : pl b (d :: l) < (b.length : Int) := by unfold pl; rw [List.length_cons]; omega
      go_wp2_with fail
      refine leaves_cons (f := 96) (args := #[.pointer (some ⟨w.heap.size, 0, none⟩), .pointer (some ⟨w.heap.size + 1, 0, none⟩)]) (by simp) (by simp [go_sem]) ?_
      refine (catch_idle ⟨w.heap.size, 0, none⟩ ⟨w.heap.size + 1, 0, none⟩ _).mono ?_
      rintro e u' w3 ⟨rfl, rfl, rfl⟩
      have hks := HKS.out (.int .i64 (pl b (d :: l))) (.int .i64 20)
      have hhe := HHE.out (.int .i64 (pl b (d :: l))) (.int .i64 20)
      obtain ⟨wf, hwf⟩ : ∃ wf, wf = (w2.setCell ⟨w.heap.size, 0, none⟩ (.int .i64 (pl b (d :: l)))).setCell ⟨w.heap.size + 1, 0, none⟩ (.int .i64 20) := ⟨_, rfl⟩
      rw [← hwf] at hks hhe ⊢
      clear hwf
      have kf1 : wf.cell? ⟨w.heap.size, 0, none⟩ = some (.int .i64 (pl b (d :: l))) := (blk_cell hhe.1 0).trans rfl
      have kf2 : wf.cell? ⟨w.heap.size + 1, 0, none⟩ = some (.int .i64 20) := (blk_cell hhe.2 0).trans rfl
      have HFXN : Aside0 (ReadP w0 w S b r Y X (.returned (.tuple #[.int .i64 (pl b (d :: l)), .int .i64 20])) wf) := ⟨by
        rw [hr]
        exact ⟨hks.1, hks.2.1, hks.2.2.1, _, _, rfl, by unfold pl; rw [List.length_cons]; omega, rfl⟩⟩
      clear hks hhe
      simp [Leaves, settle, results, Try.results59, go_sem, kf1, kf2]
      exact HFXN.out
set_option maxHeartbeats 4000000 in
set_option maxRecDepth 100000 in
theorem read_req {α : Type} (cb db : Nat) (w0 w : World) (A : Option Addr) (c : Nat) (b : List Int) (S : Nat → Prop) (r : R α) (Y : World → Prop) (X : α → World → Prop) (hi : In w0 A c b) (hB : Below w0.heap.size w0 w)
    (hS : ∀ k, S k → k < w.heap.size) (hS0 : ∀ k, S k → w0.heap.size ≤ k) (hY : Stable w.heap.size Y) (hX : ∀ x, Stable w.heap.size (X x))
    (hf : ∀ w1, Below w.heap.size w w1 → w1.heap.size = w.heap.size + 1 + 1 + 1 → RS w0 w1 (w.heap.size + 1 + 1) A c b b → Calls Try.prog 82 #[.pointer (some ⟨w.heap.size + 1 + 1, 0, none⟩), .pointer (some ⟨cb, 0, none⟩), .pointer (some ⟨db, 0, none⟩)] w1 fun e w' => Fld w0 w1 (w.heap.size + 1 + 1) S A c b r Y X e w') :
    Calls Try.prog 59 #[.slice A b.length c, .func (Fn.func 82) #[] #[.pointer (some ⟨cb, 0, none⟩), .pointer (some ⟨db, 0, none⟩)]] w fun e w' => ReadP w0 w S b r Y X e w' := by
  have hmf : ∀ (fn : Fn) (first cap : Array Value) (w : World), (Instr.makeFunc fn first cap).run Try.prog w = .ok (.func fn first cap) w := fun _ _ _ _ => rfl
  obtain ⟨w1, hw1⟩ : ∃ w1, w1 = (((w.alloc (.cells #[.int .i64 0] 3 (0, 0))).alloc (.cells #[.int .i64 0] 30 (0, 0))).alloc (.cells #[.slice A b.length c, .int .i64 0] 141 (0, 0))) := ⟨_, rfl⟩
  have HW1 := Aside0.mk hw1
  have hb1 : Below w.heap.size w w1 := by rw [hw1]; exact ((al_below w _).alloc (by simp) _).alloc (by simp; omega) _
  have hs1 : w1.heap.size = w.heap.size + 1 + 1 + 1 := by rw [hw1]; simp
  have hP : w1.heap[w.heap.size]? = some (.cells #[.int .i64 0] 3 (0, 0)) := by
    rw [hw1, Below.heap_alloc _ _ _ (by simp; omega), Below.heap_alloc _ _ _ (by simp)]; exact heap_alloc_new w _
  have hE : w1.heap[w.heap.size + 1]? = some (.cells #[.int .i64 0] 30 (0, 0)) := by
    rw [hw1, Below.heap_alloc _ _ _ (by simp)]
    have := heap_alloc_new (w.alloc (.cells #[.int .i64 0] 3 (0, 0))) (.cells #[.int .i64 0] 30 (0, 0))
    simpa using this
  have hR : RS w0 w1 (w.heap.size + 1 + 1) A c b b := ⟨by
    have := heap_alloc_new ((w.alloc (.cells #[.int .i64 0] 3 (0, 0))).alloc (.cells #[.int .i64 0] 30 (0, 0))) (.cells #[.slice A b.length c, .int .i64 0] 141 (0, 0))
    rw [hw1]
    unfold pl
    rw [Int.sub_self]
    simpa using this, by have := hB.size; omega, hB.trans (hb1.mono hB.size), ⟨[], rfl⟩⟩
  have HC := Aside0.mk (hf w1 hb1 hs1 hR)
  have HBL := Aside0.mk (And.intro hP hE)
  have HB1 := Aside0.mk (And.intro hb1 hs1)
  have HST := Aside0.mk (And.intro hS (And.intro hS0 (And.intro hY hX)))
  have HSZ := Aside0.mk hB.size
  have HBB := Aside0.mk hB
  have HI := Aside0.mk hi
  clear hw1 hf hP hE hb1 hs1 hS hS0 hY hX hR hB hi
  go_enter_defers Try.func59, Try.ntmps59
  go_wp2_with fail
  rw [← HW1.out]
  rcases hr : r with k | ⟨x, l⟩
  · refine HC.out.mono ?_
    rintro e w2 ⟨hks, hbl, hy, hm⟩
    simp only [hr, pan] at hm
    subst hm
    have hnS : ∀ k, k = w.heap.size ∨ k = w.heap.size + 1 → ¬ (k = w.heap.size + 1 + 1 ∨ S k) := fun k hk h => by
      rcases h with h | h
      · omega
      · have := HST.out.1 k h; omega
    have hP2 := (hks.block w.heap.size (by rw [HB1.out.2]; omega) (hnS _ (.inl rfl))).trans HBL.out.1
    have hE2 := (hks.block (w.heap.size + 1) (by rw [HB1.out.2]; omega) (hnS _ (.inr rfl))).trans HBL.out.2
    have HK2 := Aside0.mk (And.intro hks (And.intro hbl hy))
    clear hks hbl hy hnS
    go_wp2_with fail
    have hne : w.heap.size ≠ w.heap.size + 1 := by omega
    have kp : w2.cell? ⟨w.heap.size, 0, none⟩ = some (.int .i64 0) := (blk_cell hP2 0).trans rfl
    have kpf := blk_frozen hP2 0
    have hE3 : ∀ v, (w2.setCell ⟨w.heap.size, 0, none⟩ v).heap[w.heap.size + 1]? = some (.cells #[.int .i64 0] 30 (0, 0)) := fun v => blk_far hE2 hne 0 v
    have ke := fun v => (blk_cell (hE3 v) 0).trans (rfl : _ = some (Value.int .i64 0))
    have kef := fun v => blk_frozen (hE3 v) 0
    refine leaves_cons (f := 96) (args := #[.pointer (some ⟨w.heap.size, 0, none⟩), .pointer (some ⟨w.heap.size + 1, 0, none⟩)]) (by simp) (by simp [go_sem]) ?_
    refine (catch_pan ⟨w.heap.size, 0, none⟩ ⟨w.heap.size + 1, 0, none⟩ 0 0 _ _ kp kpf (ke _) (kef _)).mono ?_
    rintro e u' w3 ⟨rfl, rfl, rfl⟩
    have hf1 := blk_far (blk_set hP2 0 (.int .i64 ((b.length : Int) - k))) (Ne.symm hne) 0 (.int .i64 20)
    have hf2 := blk_set (hE3 (.int .i64 ((b.length : Int) - k))) 0 (.int .i64 20)
    have hfin : ReadP w0 w S b r Y X (.returned (.tuple #[.int .i64 ((b.length : Int) - k), .int .i64 20])) ((w2.setCell ⟨w.heap.size, 0, none⟩ (.int .i64 ((b.length : Int) - k))).setCell ⟨w.heap.size + 1, 0, none⟩ (.int .i64 20)) := by
      rw [hr]
      refine ⟨?_, ?_, stable_set HST.out.2.2.1 (stable_set HST.out.2.2.1 HK2.out.2.2 _ (.inl rfl)) _ (.inr rfl), _, _, rfl, rfl, rfl⟩
      · refine Ks.set (Ks.set ⟨by have := HK2.out.1.size; have := HB1.out.2; omega, fun i hi hs => (HK2.out.1.block i (by rw [HB1.out.2]; omega) (fun h => h.elim (fun h => absurd h (by omega)) hs)).trans (HB1.out.1.block i hi)⟩ _ _ _ (.inr (Nat.le_refl _))) _ _ _ (.inr (by omega))
      · exact (HK2.out.2.1.setCell HSZ.out _).setCell (by have := HSZ.out; show _ ≤ w.heap.size + 1; omega) _
    have HFXN := Aside0.mk hfin
    clear hfin hP2 hE2 hE3 ke kef kp kpf
    obtain ⟨wf, hwf⟩ : ∃ wf, wf = (w2.setCell ⟨w.heap.size, 0, none⟩ (.int .i64 ((b.length : Int) - k))).setCell ⟨w.heap.size + 1, 0, none⟩ (.int .i64 20) := ⟨_, rfl⟩
    rw [← hwf] at hf1 hf2 HFXN ⊢
    clear hwf
    have kf1 : wf.cell? ⟨w.heap.size, 0, none⟩ = some (.int .i64 ((b.length : Int) - k)) := (blk_cell hf1 0).trans rfl
    have kf2 : wf.cell? ⟨w.heap.size + 1, 0, none⟩ = some (.int .i64 20) := (blk_cell hf2 0).trans rfl
    clear hf1 hf2
    simp [Leaves, settle, results, Try.results59, go_sem, kf1, kf2]
    exact HFXN.out
  · refine HC.out.mono ?_
    rintro e w2 ⟨hks, hbl, hy, hm⟩
    simp only [hr] at hm
    obtain ⟨rfl, hrs, hx⟩ := hm
    have hnS : ∀ k, k = w.heap.size ∨ k = w.heap.size + 1 → ¬ (k = w.heap.size + 1 + 1 ∨ S k) := fun k hk h => by
      rcases h with h | h
      · omega
      · have := HST.out.1 k h; omega
    have hP2 := (hks.block w.heap.size (by rw [HB1.out.2]; omega) (hnS _ (.inl rfl))).trans HBL.out.1
    have hE2 := (hks.block (w.heap.size + 1) (by rw [HB1.out.2]; omega) (hnS _ (.inr rfl))).trans HBL.out.2
    have kp : w2.cell? ⟨w.heap.size, 0, none⟩ = some (.int .i64 0) := (blk_cell hP2 0).trans rfl
    have kpf := blk_frozen hP2 0
    have ke : w2.cell? ⟨w.heap.size + 1, 0, none⟩ = some (.int .i64 0) := (blk_cell hE2 0).trans rfl
    have kef := blk_frozen hE2 0
    have kr : w2.cell? ⟨w.heap.size + 1 + 1, 1, none⟩ = some (.int .i64 (pl b l)) := (blk_cell hrs.blk 1).trans rfl
    have hne : w.heap.size ≠ w.heap.size + 1 := by omega
    have HK2 := Aside0.mk (And.intro hks (And.intro hbl (And.intro hy hx)))
    have HRS := Aside0.mk hrs
    have HKS : Aside0 (∀ u v, Ks S w ((w2.setCell ⟨w.heap.size, 0, none⟩ u).setCell ⟨w.heap.size + 1, 0, none⟩ v) ∧ Below w0.heap.size w0 ((w2.setCell ⟨w.heap.size, 0, none⟩ u).setCell ⟨w.heap.size + 1, 0, none⟩ v) ∧ Y ((w2.setCell ⟨w.heap.size, 0, none⟩ u).setCell ⟨w.heap.size + 1, 0, none⟩ v) ∧ X x ((w2.setCell ⟨w.heap.size, 0, none⟩ u).setCell ⟨w.heap.size + 1, 0, none⟩ v)) := ⟨fun u v => by
      refine ⟨?_, ?_, stable_set HST.out.2.2.1 (stable_set HST.out.2.2.1 hy _ (.inl rfl)) _ (.inr rfl), stable_set (HST.out.2.2.2 x) (stable_set (HST.out.2.2.2 x) hx _ (.inl rfl)) _ (.inr rfl)⟩
      · refine Ks.set (Ks.set ⟨by have := hks.size; have := HB1.out.2; omega, fun i hi hs => (hks.block i (by rw [HB1.out.2]; omega) (fun h => h.elim (fun h => absurd h (by omega)) hs)).trans (HB1.out.1.block i hi)⟩ _ _ _ (.inr (Nat.le_refl _))) _ _ _ (.inr (by omega))
      · exact (hbl.setCell HSZ.out _).setCell (by have := HSZ.out; show _ ≤ w.heap.size + 1; omega) _⟩
    have HHE : Aside0 (∀ u v, ((w2.setCell ⟨w.heap.size, 0, none⟩ u).setCell ⟨w.heap.size + 1, 0, none⟩ v).heap[w.heap.size]? = some (.cells #[u] 3 (0, 0)) ∧ ((w2.setCell ⟨w.heap.size, 0, none⟩ u).setCell ⟨w.heap.size + 1, 0, none⟩ v).heap[w.heap.size + 1]? = some (.cells #[v] 30 (0, 0))) := ⟨fun u v =>
      ⟨blk_far (blk_set hP2 0 u) (Ne.symm hne) 0 v, blk_set (blk_far hE2 hne 0 u) 0 v⟩⟩
    clear hks hbl hy hx hrs hnS hP2 hE2
    rcases l with _ | ⟨d, l⟩
    · have hpl : pl b [] = (b.length : Int) := by unfold pl; simp
      rw [hpl] at kr
      go_wp2_with fail
      refine leaves_cons (f := 96) (args := #[.pointer (some ⟨w.heap.size, 0, none⟩), .pointer (some ⟨w.heap.size + 1, 0, none⟩)]) (by simp) (by simp [go_sem]) ?_
      refine (catch_idle ⟨w.heap.size, 0, none⟩ ⟨w.heap.size + 1, 0, none⟩ _).mono ?_
      rintro e u' w3 ⟨rfl, rfl, rfl⟩
      have hks := HKS.out (.int .i64 (0)) (.int .i64 0)
      have hhe := HHE.out (.int .i64 (0)) (.int .i64 0)
      obtain ⟨wf, hwf⟩ : ∃ wf, wf = (w2.setCell ⟨w.heap.size, 0, none⟩ (.int .i64 (0))).setCell ⟨w.heap.size + 1, 0, none⟩ (.int .i64 0) := ⟨_, rfl⟩
      rw [← hwf] at hks hhe ⊢
      clear hwf
      have kf1 : wf.cell? ⟨w.heap.size, 0, none⟩ = some (.int .i64 (0)) := (blk_cell hhe.1 0).trans rfl
      have kf2 : wf.cell? ⟨w.heap.size + 1, 0, none⟩ = some (.int .i64 0) := (blk_cell hhe.2 0).trans rfl
      have HFXN : Aside0 (ReadP w0 w S b r Y X (.returned (.tuple #[.int .i64 (0), .int .i64 0])) wf) := ⟨by
        rw [hr]
        exact ⟨hks.1, hks.2.1, hks.2.2.1, _, _, rfl, rfl, rfl, hks.2.2.2⟩⟩
      clear hks hhe
      simp [Leaves, settle, results, Try.results59, go_sem, kf1, kf2]
      exact HFXN.out
    · have hpl : pl b (d :: l) < (b.length : Int) := by unfold pl; rw [List.length_cons]; omega
      go_wp2_with fail
      refine leaves_cons (f := 96) (args := #[.pointer (some ⟨w.heap.size, 0, none⟩), .pointer (some ⟨w.heap.size + 1, 0, none⟩)]) (by simp) (by simp [go_sem]) ?_
      refine (catch_idle ⟨w.heap.size, 0, none⟩ ⟨w.heap.size + 1, 0, none⟩ _).mono ?_
      rintro e u' w3 ⟨rfl, rfl, rfl⟩
      have hks := HKS.out (.int .i64 (pl b (d :: l))) (.int .i64 20)
      have hhe := HHE.out (.int .i64 (pl b (d :: l))) (.int .i64 20)
      obtain ⟨wf, hwf⟩ : ∃ wf, wf = (w2.setCell ⟨w.heap.size, 0, none⟩ (.int .i64 (pl b (d :: l)))).setCell ⟨w.heap.size + 1, 0, none⟩ (.int .i64 20) := ⟨_, rfl⟩
      rw [← hwf] at hks hhe ⊢
      clear hwf
      have kf1 : wf.cell? ⟨w.heap.size, 0, none⟩ = some (.int .i64 (pl b (d :: l))) := (blk_cell hhe.1 0).trans rfl
      have kf2 : wf.cell? ⟨w.heap.size + 1, 0, none⟩ = some (.int .i64 20) := (blk_cell hhe.2 0).trans rfl
      have HFXN : Aside0 (ReadP w0 w S b r Y X (.returned (.tuple #[.int .i64 (pl b (d :: l)), .int .i64 20])) wf) := ⟨by
        rw [hr]
        exact ⟨hks.1, hks.2.1, hks.2.2.1, _, _, rfl, by unfold pl; rw [List.length_cons]; omega, rfl⟩⟩
      clear hks hhe
      simp [Leaves, settle, results, Try.results59, go_sem, kf1, kf2]
      exact HFXN.out
end Go.Proofs.Ytpgdmmjbhjbbhaa.Rd
end
section
namespace Go.Proofs.Ytpgdmmjbhjbbhaa.Rd
open Go Go.RowKit Go.Proofs.Ytpgdmmjbhjbbhaa.P Go.Proofs.Ytpgdmmjbhjbbhaa.Sp Go.Proofs.Ytpgdmmjbhjbbhaa.Vd Go.Proofs.Ytpgdmmjbhjbbhaa.En Go.Proofs.Ytpgdmmjbhjbbhaa.Wr Go.Proofs.YtpgdmmjbhjbbhaaW.PrintWords Go.Proofs.YtpgdmmjbhjbbhaaW.PrintLast Go.Proofs.YtpgdmmjbhjbbhaaW.PrintMore
set_option linter.unusedVariables false
set_option linter.unusedSimpArgs false
/-- The variable of the result stands. -/
def YB (cb : Nat) (t : TypeId) (n : Nat) (w : World) : Prop := ∃ cs, w.heap[cb]? = some (.cells cs t (0, 0)) ∧ cs.size = n
/-- The message lies in its variable, its views in new memory. -/
def XM (n cb : Nat) (m : Msg) (w : World) : Prop := ∃ A1 c1, w.heap[cb]? = some (.cells (MVc m A1 c1) 33 (0, 0)) ∧ ((A1 = none ∧ c1 = 0 ∧ m.views = []) ∨ ∃ vb, A1 = some ⟨vb, 0, none⟩ ∧ c1 = m.views.length ∧ n ≤ vb ∧ w.heap[vb]? = some (.cells (rowV m.views).toArray 87 (0, 0)))
theorem stable_Y {n cb k : Nat} {t : TypeId} (h : cb ≠ n) (h2 : cb ≠ n + 1) : Stable n (YB cb t k) := fun w1 w2 ⟨cs, h3, h4⟩ hk _ => ⟨cs, (hk cb (blk_lt h3) h h2).trans h3, h4⟩
theorem stable_X {n cb : Nat} (h : cb < n) (m : Msg) : Stable n (XM (n + 1 + 1) cb m) := by
  rintro w1 w2 ⟨A1, c1, h3, h4⟩ hk hsz
  refine ⟨A1, c1, (hk cb (blk_lt h3) (by omega) (by omega)).trans h3, ?_⟩
  rcases h4 with h4 | ⟨vb, h5, h6, h7, h8⟩
  · exact .inl h4
  · exact .inr ⟨vb, h5, h6, h7, (hk vb (blk_lt h8) (by omega) (by omega)).trans h8⟩
theorem mv_one (m : Msg) (A : Option Addr) (c : Nat) : (MVc m A c).all (·.oneCell') = true := by simp [MVc, Value.oneCell']
theorem Ks.setRow {S : Nat → Prop} {a b : World} (h : Ks S a b) (g : Nat) (cs : Array Value) (hg : S g ∨ a.heap.size ≤ g) : Ks S a (b.setRow g cs) :=
  ⟨by rw [size_setRow]; exact h.size, fun k hk hs => (setRow_far (by
    rcases hg with hg | hg
    · intro e; exact hs (e ▸ hg)
    · omega) cs).trans (h.block k hk hs)⟩
set_option maxHeartbeats 4000000 in
set_option maxRecDepth 100000 in
theorem dec1_calls (w0 w1 : World) (g cb n : Nat) (A : Option Addr) (c : Nat) (b : List Int) (hi : In w0 A c b) (h : RS w0 w1 g A c b b) (hne : cb ≠ g) (hge : w0.heap.size ≤ cb) (hn : n ≤ w1.heap.size) (hy : YB cb 33 20 w1) :
    Calls Try.prog 60 #[.pointer (some ⟨g, 0, none⟩), .pointer (some ⟨cb, 0, none⟩)] w1 fun e w' => Fld w0 w1 g (fun k => k = cb) A c b (msgP b) (YB cb 33 20) (XM n cb) e w' := by
  have HI := Aside0.mk hi
  have HR := Aside0.mk h
  have HNE := Aside0.mk (And.intro hne (And.intro hge hn))
  obtain ⟨old, ho, hos⟩ := hy
  have HO := Aside0.mk (And.intro ho hos)
  clear hi h hne hge hn ho hos
  go_enter Try.func60, Try.ntmps60
  rcases hp : msgP b with k | ⟨m, l⟩
  · go_wp2_with (go_at_call 61; refine (msg_calls w0 _ g A c b b HI.out HR.out).mono ?_; rintro e w2 ⟨hk, hb, hm⟩; simp only [hp, pan] at hm; subst hm; have HK := Aside0.mk (And.intro hk hb); clear hk hb)
    refine ⟨rfl, ⟨HK.out.1.size, fun i hi hs => HK.out.1.block i hi (fun e => hs (.inl e))⟩, HK.out.2, ⟨old, kb_blk HK.out.1 HNE.out.1 HO.out.1, HO.out.2⟩, ?_⟩
    rfl
  · go_wp2_with (first | (refine wpList_store_row rfl 33 (.tmp 1) (.tmp 4) rfl cb (MVc m A1 c1) (by rfl) (by rfl) 33 _ HX.out inf33 HO.out.2 (mv_one m A1 c1) ?_) | (go_at_call 61; refine (msg_calls w0 _ g A c b b HI.out HR.out).mono ?_; rintro e w2 ⟨hk, hb, hm⟩; simp only [hp] at hm; obtain ⟨⟨A1, c1, rfl, hnv⟩, hs1⟩ := hm; have HX := Aside0.mk (kb_blk hk HNE.out.1 HO.out.1); have HK := Aside0.mk (And.intro hk (And.intro hb (And.intro hs1 hnv))); clear hk hb hs1 hnv))
    (first | go_end0 | ((try simp only [Exit.inBlock, Exit.then]); refine bodyPost_ret (results_none rfl _ _ _) rfl ?_))
    have hcl := blk_lt HO.out.1
    refine ⟨Ks.setRow ⟨HK.out.1.size, fun i hi hs => HK.out.1.block i hi (fun e => hs (.inl e))⟩ cb _ (.inl (.inr rfl)), below_setRow HK.out.2.1 HNE.out.2.1 _, ⟨_, setRow_blk HX.out _, rfl⟩, rfl, HK.out.2.2.1.setRowOther HNE.out.1 HNE.out.2.1 _, A1, c1, setRow_blk HX.out _, ?_⟩
    rcases HK.out.2.2.2 with h4 | ⟨vb, h5, h6, h7, h8⟩
    · exact .inl h4
    · exact .inr ⟨vb, h5, h6, Nat.le_trans HNE.out.2.2 h7, (setRow_far (by omega) _).trans h8⟩
theorem results_cell_two {P : Program} {fn : Func} {p q r : Tmp} {ty : TypeId} (h : fn.results = #[.cell p ty, .tmp q, .tmp r]) (tmps : Array Value) (w : World) (g : Nat) (t : TypeId) (cs : Array Value) (fr : Nat × Nat) (d : TypeDesc)
    (hp : tmps.getD p undef = .pointer (some ⟨g, 0, none⟩)) (hg : w.heap[g]? = some (.cells cs t fr))
    (hu : P.underlying ty = some d) (hd : (match d with | .struct _ | .array _ _ => true | _ => false) = true) (hi : (P.info? ty).map (·.size) = some cs.size) :
    (results fn tmps).run P w = .ok (.tuple #[.agg cs, tmps.getD q undef, tmps.getD r undef]) w := by
  have hp' : tmps[p]?.getD undef = .pointer (some ⟨g, 0, none⟩) := by simpa using hp
  simp [results, h, hp', asAddr, run_loadVar_row w g t ty cs fr d hg hu hd hi]
/-- The zero message's cells. -/
theorem mv_zero : MVc zMsg none 0 = #[.int .i64 0, .string ⟨#[]⟩, .int .i64 0, .int .i64 0, .int .i64 0, .int .i64 0, .int .i64 0, .int .i64 0, .int .i64 0, .int .i64 0, .int .i64 0, .int .i64 0, .int .i64 0, .int .i64 0, .string ⟨#[]⟩, .int .i64 0, .int .i64 0, .int .i64 0, .int .i64 0, .slice none 0 0] := rfl
theorem build_zero (a : Act) (W : World) {o : Oper} (ho : o.op = .build 33 #[]) : (execOp a.eval o).run Try.prog W = .ok (.value (.agg (MVc zMsg none 0))) W := by
  unfold execOp
  rw [ho]
  have hu33 := Try.underlying33
  have h : (Instr.build 33 #[]).run Try.prog W = .ok (.agg (MVc zMsg none 0)) W := by kernel_rfl
  simp [h]
/-- What Decode answers: the message, its views in new memory, the place, the error. -/
def DecP (w : World) (x : Msg × Int × Int) (e : Ending) (w' : World) : Prop :=
  Below w.heap.size w w' ∧ ∃ A1 c1, e = .returned (.tuple #[MV x.1 A1 c1, .int .i64 x.2.1, .int .i64 x.2.2]) ∧ NewV w w' A1 c1 x.1.views
set_option maxHeartbeats 4000000 in
set_option maxRecDepth 100000 in
theorem decode_calls (w : World) (A : Option Addr) (c : Nat) (b : List Int) (hi : In w A c b) :
    Calls Try.prog 18 #[.slice A b.length c] w fun e w' => DecP w (whole zMsg msgP b) e w' := by
  have hmf : ∀ (fn : Fn) (first cap : Array Value) (w : World), (Instr.makeFunc fn first cap).run Try.prog w = .ok (.func fn first cap) w := fun _ _ _ _ => rfl
  obtain ⟨wa, hwa⟩ : ∃ wa, wa = w.alloc (.cells (MVc zMsg none 0) 33 (0, 0)) := ⟨_, rfl⟩
  have HWA := Aside0.mk hwa
  have HB : Aside0 (Below w.heap.size w wa ∧ wa.heap.size = w.heap.size + 1 ∧ wa.heap[w.heap.size]? = some (.cells (MVc zMsg none 0) 33 (0, 0))) := ⟨by rw [hwa]; exact ⟨al_below w _, by simp, heap_alloc_new w _⟩⟩
  have HRD : Aside0 (Calls Try.prog 59 #[.slice A b.length c, .func (Fn.func 60) #[] #[.pointer (some ⟨w.heap.size, 0, none⟩)]] wa fun e w' => ReadP w wa (fun k => k = w.heap.size) b (msgP b) (YB w.heap.size 33 20) (XM (wa.heap.size + 1 + 1) w.heap.size) e w') := ⟨by
    have hsz := HB.out.2.1
    refine read_msg w.heap.size w wa A c b _ (msgP b) _ _ hi HB.out.1 (fun k hk => by omega) (fun k hk => by omega) (stable_Y (by omega) (by omega)) (fun m => stable_X (by omega) m) ?_
    intro w1 hb1 hs1 hr1
    exact dec1_calls w w1 _ w.heap.size _ A c b hi hr1 (by omega) (Nat.le_refl _) (by omega) ⟨_, blk_keep hb1 HB.out.2.2, rfl⟩⟩
  have hu33 := Try.underlying33
  clear hwa hi
  rw [mv_zero] at HWA
  go_enter Try.func18, Try.ntmps18
  go_upto_region 1 with fail
  rw [← HWA.out]
  go_upto_region 2 with (go_at_call 59; refine HRD.out.mono ?_; rintro e w2 ⟨hks, hbl, hy, pt, er, rfl, hm⟩; have HK := Aside0.mk (And.intro hks (And.intro hbl (And.intro hy hm))); clear hks hbl hy hm)
  rcases hp : msgP b with k | ⟨m, l⟩
  · have HW : Aside0 (whole zMsg msgP b = (zMsg, (b.length : Int) - k, 20)) := ⟨by unfold whole; rw [hp]⟩
    rw [hp] at HK
    obtain ⟨old, ho, hos⟩ := HK.out.2.2.1
    (try obtain ⟨rfl, rfl⟩ := HK.out.2.2.2)
    have HC := Aside0.mk (And.intro ho hos)
    have HB3 := Aside0.mk (setRow_blk ho (MVc zMsg none 0))
    clear ho hos
    go_wp2_with (first | ((with_reducible refine gate_dst (N := 13) rfl ?_); refine Kd.event_run (v := .agg (MVc zMsg none 0)) (w1 := w2) rfl (build_zero _ _ rfl) ?_; go_loud (refine wpList_store_row rfl 33 (.tmp 2) (.tmp 13) rfl w.heap.size (MVc zMsg none 0) (by rfl) (by rfl) 33 _ HC.out.1 inf33 HC.out.2 (mv_one _ _ _) ?_)) | ((with_reducible refine gate_dst (N := 14) rfl ?_); refine wpList_load_row rfl 33 (.tmp 2) rfl w.heap.size (by rfl) 33 (MVc zMsg none 0) (0, 0) _ HB3.out Try.underlying33 rfl inf33 ?_; refine Kd.event_run (v := .int .i64 ((b.length : Int) - k)) rfl (by rfl) ?_; refine Kd.event_run (v := .int .i64 (20)) rfl (by rfl) ?_; go_loud (refine wpList_store_row rfl 33 (.tmp 2) (.tmp 14) rfl w.heap.size (MVc zMsg none 0) (by rfl) (by rfl) 33 _ HB3.out inf33 rfl (mv_one _ _ _) ?_)))
    have HB4 := setRow_blk HB3.out (MVc zMsg none 0)
    (try simp only [Exit.inBlock, Exit.then])
    refine bodyPost_ret (v := .tuple #[.agg (MVc zMsg none 0), .int .i64 ((b.length : Int) - k), .int .i64 20]) ?_ rfl ?_
    · exact results_cell_two (fn := Try.f18) (p := 2) (q := 3) (r := 4) rfl _ _ w.heap.size 33 _ (0, 0) _ (by rfl) HB4 hu33 rfl inf33
    refine ⟨below_setRow (below_setRow HK.out.2.1 (Nat.le_refl _) _) (Nat.le_refl _) _, none, 0, ?_, .inl ⟨?_, ?_, ?_⟩⟩ <;> first | rfl | (rw [HW.out]; rfl)
  · rcases l with _ | ⟨d, l⟩
    · have HW : Aside0 (whole zMsg msgP b = (m, 0, 0)) := ⟨by unfold whole; rw [hp]⟩
      rw [hp] at HK
      obtain ⟨hpt, her, A1, c1, hbk, hnv⟩ := HK.out.2.2.2
      subst hpt her
      have HC := Aside0.mk hbk
      have HNV := Aside0.mk hnv
      clear hbk hnv
      go_wp2_with ((with_reducible refine gate_dst (N := 14) rfl ?_); refine wpList_load_row rfl 33 (.tmp 2) rfl w.heap.size (by rfl) 33 (MVc m A1 c1) (0, 0) _ HC.out Try.underlying33 rfl inf33 ?_; refine Kd.event_run (v := .int .i64 (0)) rfl (by rfl) ?_; refine Kd.event_run (v := .int .i64 (0)) rfl (by rfl) ?_; go_loud (refine wpList_store_row rfl 33 (.tmp 2) (.tmp 14) rfl w.heap.size (MVc m A1 c1) (by rfl) (by rfl) 33 _ HC.out inf33 rfl (mv_one _ _ _) ?_))
      have HB4 := setRow_blk HC.out (MVc m A1 c1)
      (try simp only [Exit.inBlock, Exit.then])
      refine bodyPost_ret (v := .tuple #[.agg (MVc m A1 c1), .int .i64 0, .int .i64 0]) ?_ rfl ?_
      · exact results_cell_two (fn := Try.f18) (p := 2) (q := 3) (r := 4) rfl _ _ w.heap.size 33 _ (0, 0) _ (by rfl) HB4 hu33 rfl inf33
      refine ⟨below_setRow HK.out.2.1 (Nat.le_refl _) _, A1, c1, by rw [HW.out]; rfl, ?_⟩
      rw [HW.out]
      rcases HNV.out with h4 | ⟨vb, h5, h6, h7, h8⟩
      · exact .inl h4
      · exact .inr ⟨vb, h5, h6, by have := HB.out.2.1; omega, (setRow_far (by have := HB.out.2.1; omega) _).trans h8⟩
    · have HW : Aside0 (whole zMsg msgP b = (zMsg, (b.length : Int) - (l.length + 1), 20)) := ⟨by unfold whole; rw [hp]⟩
      rw [hp] at HK
      obtain ⟨old, ho, hos⟩ := HK.out.2.2.1
      (try obtain ⟨rfl, rfl⟩ := HK.out.2.2.2)
      have HC := Aside0.mk (And.intro ho hos)
      have HB3 := Aside0.mk (setRow_blk ho (MVc zMsg none 0))
      clear ho hos
      go_wp2_with (first | ((with_reducible refine gate_dst (N := 13) rfl ?_); refine Kd.event_run (v := .agg (MVc zMsg none 0)) (w1 := w2) rfl (build_zero _ _ rfl) ?_; go_loud (refine wpList_store_row rfl 33 (.tmp 2) (.tmp 13) rfl w.heap.size (MVc zMsg none 0) (by rfl) (by rfl) 33 _ HC.out.1 inf33 HC.out.2 (mv_one _ _ _) ?_)) | ((with_reducible refine gate_dst (N := 14) rfl ?_); refine wpList_load_row rfl 33 (.tmp 2) rfl w.heap.size (by rfl) 33 (MVc zMsg none 0) (0, 0) _ HB3.out Try.underlying33 rfl inf33 ?_; refine Kd.event_run (v := .int .i64 ((b.length : Int) - (l.length + 1))) rfl (by rfl) ?_; refine Kd.event_run (v := .int .i64 (20)) rfl (by rfl) ?_; go_loud (refine wpList_store_row rfl 33 (.tmp 2) (.tmp 14) rfl w.heap.size (MVc zMsg none 0) (by rfl) (by rfl) 33 _ HB3.out inf33 rfl (mv_one _ _ _) ?_)))
      have HB4 := setRow_blk HB3.out (MVc zMsg none 0)
      (try simp only [Exit.inBlock, Exit.then])
      refine bodyPost_ret (v := .tuple #[.agg (MVc zMsg none 0), .int .i64 ((b.length : Int) - (l.length + 1)), .int .i64 20]) ?_ rfl ?_
      · exact results_cell_two (fn := Try.f18) (p := 2) (q := 3) (r := 4) rfl _ _ w.heap.size 33 _ (0, 0) _ (by rfl) HB4 hu33 rfl inf33
      refine ⟨below_setRow (below_setRow HK.out.2.1 (Nat.le_refl _) _) (Nat.le_refl _) _, none, 0, ?_, .inl ⟨?_, ?_, ?_⟩⟩ <;> first | rfl | (rw [HW.out]; rfl)
end Go.Proofs.Ytpgdmmjbhjbbhaa.Rd
end
section
namespace Go.Proofs.Ytpgdmmjbhjbbhaa.Rd
open Go Go.RowKit Go.Proofs.Ytpgdmmjbhjbbhaa.P Go.Proofs.Ytpgdmmjbhjbbhaa.Sp Go.Proofs.Ytpgdmmjbhjbbhaa.Vd Go.Proofs.Ytpgdmmjbhjbbhaa.En Go.Proofs.Ytpgdmmjbhjbbhaa.Wr Go.Proofs.YtpgdmmjbhjbbhaaW.PrintWords Go.Proofs.YtpgdmmjbhjbbhaaW.PrintLast Go.Proofs.YtpgdmmjbhjbbhaaW.PrintMore
set_option linter.unusedVariables false
set_option linter.unusedSimpArgs false
def RVc (r : Rep) : Array Value := #[.int .i64 r.call.f0, .int .i64 r.call.f1, .int .i64 r.err, .int .i64 r.value]
theorem inf50 : (Try.prog.info? 50).map (·.size) = some 4 := by kernel_rfl
/-- What DecodeReply answers. -/
def DecRP (w : World) (x : Rep × Int × Int) (e : Ending) (w' : World) : Prop :=
  Below w.heap.size w w' ∧ e = .returned (.tuple #[.agg (RVc x.1), .int .i64 x.2.1, .int .i64 x.2.2])
end Go.Proofs.Ytpgdmmjbhjbbhaa.Rd
end
section
namespace Go.Proofs.Ytpgdmmjbhjbbhaa.Rd
open Go Go.RowKit Go.Proofs.Ytpgdmmjbhjbbhaa.P Go.Proofs.Ytpgdmmjbhjbbhaa.Sp Go.Proofs.Ytpgdmmjbhjbbhaa.Vd Go.Proofs.Ytpgdmmjbhjbbhaa.En Go.Proofs.Ytpgdmmjbhjbbhaa.Wr Go.Proofs.YtpgdmmjbhjbbhaaW.PrintWords Go.Proofs.YtpgdmmjbhjbbhaaW.PrintLast Go.Proofs.YtpgdmmjbhjbbhaaW.PrintMore
set_option linter.unusedVariables false
set_option linter.unusedSimpArgs false
def CVc (x : S25) : Array Value := #[.int .i64 x.f0, .int .i64 x.f1]
def OVc (o : Sp.Op) : Array Value := #[.int .i64 o.kind, .string o.name, .int .i64 o.a, .int .i64 o.b]
/-- The two variables stand. -/
def YQ (cb db : Nat) (w : World) : Prop := ∃ (x : S25) (o : Sp.Op), w.heap[cb]? = some (.cells (CVc x) 27 (0, 0)) ∧ w.heap[db]? = some (.cells (OVc o) 29 (0, 0))
def XQ (cb db : Nat) (y : S25 × Sp.Op) (w : World) : Prop := w.heap[cb]? = some (.cells (CVc y.1) 27 (0, 0)) ∧ w.heap[db]? = some (.cells (OVc y.2) 29 (0, 0))
theorem stable_XQ {n cb db : Nat} (h : cb < n) (h2 : db < n) (y : S25 × Sp.Op) : Stable n (XQ cb db y) := fun w1 w2 h3 hk _ => ⟨(hk cb (blk_lt h3.1) (by omega) (by omega)).trans h3.1, (hk db (blk_lt h3.2) (by omega) (by omega)).trans h3.2⟩
theorem stable_YQ {n cb db : Nat} (h : cb < n) (h2 : db < n) : Stable n (YQ cb db) := fun w1 w2 ⟨x, o, h3, h4⟩ hk hs => ⟨x, o, stable_XQ h h2 (x, o) w1 w2 ⟨h3, h4⟩ hk hs⟩
set_option maxHeartbeats 4000000 in
set_option maxRecDepth 100000 in
theorem req1_calls (w0 w1 : World) (g cb db : Nat) (A : Option Addr) (c : Nat) (b : List Int) (hi : In w0 A c b) (h : RS w0 w1 g A c b b) (hne : cb ≠ g ∧ db ≠ g ∧ cb ≠ db) (hge : w0.heap.size ≤ cb ∧ w0.heap.size ≤ db) (hy : w1.heap[cb]? = some (.cells (CVc z25) 27 (0, 0))) (hz : w1.heap[db]? = some (.cells (OVc zOp) 29 (0, 0))) :
    Calls Try.prog 82 #[.pointer (some ⟨g, 0, none⟩), .pointer (some ⟨cb, 0, none⟩), .pointer (some ⟨db, 0, none⟩)] w1 fun e w' => Fld w0 w1 g (fun k => k = cb ∨ k = db) A c b (reqP b) (YQ cb db) (XQ cb db) e w' := by
  have HI := Aside0.mk hi
  have HNE := Aside0.mk (And.intro hne hge)
  have H0 : Aside0 (RS w0 w1 g A c b b ∧ w1.heap[cb]? = some (.cells (CVc z25) 27 (0, 0)) ∧ w1.heap[db]? = some (.cells (OVc zOp) 29 (0, 0))) := ⟨h, hy, hz⟩
  have HP : Aside0 (reqP b = (bnd (pairP 0 63 1 1099511627776) fun x => bnd opP fun o => ret (x, o)) b) := ⟨rfl⟩
  have hu29 := Try.underlying29
  have hu27 := Try.underlying27
  clear hi h hne hge hy hz
  go_enter Try.func82, Try.ntmps82
  rcases h0 : pairP 0 63 1 1099511627776 b with n0 | ⟨x, l1⟩
  · have HQ : Aside0 (reqP b = .bad n0) := ⟨by rw [HP.out, bnd_bad h0]⟩
    go_wp2_with (go_at_call 83; refine (call_calls w0 _ g A c b b HI.out H0.out.1).mono ?_; rintro e w2 ⟨hk, hb, hm⟩; simp only [h0, pan] at hm; subst hm; have HE := Aside0.mk (And.intro hk hb); clear hk hb)
    refine ⟨rfl, ⟨HE.out.1.size, fun i hi hs => HE.out.1.block i hi (fun e => hs (.inl e))⟩, HE.out.2, ⟨_, _, kb_blk HE.out.1 HNE.out.1.1 H0.out.2.1, kb_blk HE.out.1 HNE.out.1.2.1 H0.out.2.2⟩, ?_⟩
    rw [HQ.out]
    rfl
  · go_upto_region 1 with (go_at_call 83; refine (call_calls w0 _ g A c b b HI.out H0.out.1).mono ?_; rintro e w2 ⟨hk, hb, hm⟩; simp only [h0] at hm; obtain ⟨rfl, hs1⟩ := hm; have HX := Aside0.mk (kb_blk hk HNE.out.1.1 H0.out.2.1); have HY := Aside0.mk (kb_blk hk HNE.out.1.2.1 H0.out.2.2); have HK := Aside0.mk (And.intro hk hs1); clear hk hb hs1; have kc0 : w2.cell? ⟨cb, 0, none⟩ = some (.int .i64 0) := (blk_cell HX.out 0).trans rfl; have kc1 : w2.cell? ⟨cb, 1, none⟩ = some (.int .i64 0) := (blk_cell HX.out 1).trans rfl; have kf0 := blk_frozen HX.out 0; have kf1 := blk_frozen HX.out 1)
    obtain ⟨w3, hw3⟩ : ∃ w3, w3 = (w2.setCell ⟨cb, 0, none⟩ (.int .i64 x.f0)).setCell ⟨cb, 1, none⟩ (.int .i64 x.f1) := ⟨_, rfl⟩
    have hbk := blk_set (blk_set HX.out 0 (.int .i64 x.f0)) 1 (.int .i64 x.f1)
    have hby := blk_far (blk_far HY.out HNE.out.1.2.2 0 (.int .i64 x.f0)) HNE.out.1.2.2 1 (.int .i64 x.f1)
    have H1 : Aside0 (Ks (fun k => k = g ∨ k = cb ∨ k = db) w1 w3 ∧ RS w0 w3 g A c b l1 ∧ w3.heap[cb]? = some (.cells (CVc x) 27 (0, 0)) ∧ w3.heap[db]? = some (.cells (OVc zOp) 29 (0, 0))) := ⟨by
      rw [hw3]
      exact ⟨Ks.set (Ks.set ⟨HK.out.1.size, fun i hi hs => HK.out.1.block i hi (fun e => hs (.inl e))⟩ _ _ _ (.inl (.inr (.inl rfl)))) _ _ _ (.inl (.inr (.inl rfl))), (HK.out.2.setOther HNE.out.1.1 HNE.out.2.1 0 _).setOther HNE.out.1.1 HNE.out.2.1 1 _, hbk, hby⟩⟩
    rw [← hw3]
    clear hw3 hbk hby HX HY HK kc0 kc1 kf0 kf1
    rcases h1 : opP l1 with n0 | ⟨o, l2⟩
    · have HQ : Aside0 (reqP b = .bad n0) := ⟨by rw [HP.out, bnd_ok h0, bnd_bad h1]⟩
      go_wp2_with (go_at_call 84; refine (op_calls w0 _ g A c b l1 HI.out H1.out.2.1).mono ?_; rintro e w4 ⟨hk, hb, hm⟩; simp only [h1, pan] at hm; subst hm; have HE := Aside0.mk (And.intro hk hb); clear hk hb)
      refine ⟨rfl, H1.out.1.trans ⟨HE.out.1.size, fun i hi hs => HE.out.1.block i hi (fun e => hs (.inl e))⟩, HE.out.2, ⟨_, _, kb_blk HE.out.1 HNE.out.1.1 H1.out.2.2.1, kb_blk HE.out.1 HNE.out.1.2.1 H1.out.2.2.2⟩, ?_⟩
      rw [HQ.out]
      rfl
    · have HQ : Aside0 (reqP b = .ok (x, o) l2) := ⟨by rw [HP.out, bnd_ok h0, bnd_ok h1]; rfl⟩
      go_wp2_with (go_at_call 84; refine (op_calls w0 _ g A c b l1 HI.out H1.out.2.1).mono ?_; rintro e w4 ⟨hk, hb, hm⟩; simp only [h1] at hm; obtain ⟨rfl, hs1⟩ := hm; have HX := Aside0.mk (kb_blk hk HNE.out.1.1 H1.out.2.2.1); have HY := Aside0.mk (kb_blk hk HNE.out.1.2.1 H1.out.2.2.2); have HK := Aside0.mk (And.intro hk hs1); clear hk hb hs1; have kc0 : w4.cell? ⟨db, 0, none⟩ = some (.int .i64 0) := (blk_cell HY.out 0).trans rfl; have kc1 : w4.cell? ⟨db, 1, none⟩ = some (.string eB) := (blk_cell HY.out 1).trans rfl; have kc2 : w4.cell? ⟨db, 2, none⟩ = some (.int .i64 0) := (blk_cell HY.out 2).trans rfl; have kc3 : w4.cell? ⟨db, 3, none⟩ = some (.int .i64 0) := (blk_cell HY.out 3).trans rfl; have kf0 := blk_frozen HY.out 0; have kf1 := blk_frozen HY.out 1; have kf2 := blk_frozen HY.out 2; have kf3 := blk_frozen HY.out 3)
      (first | go_end0 | ((try simp only [Exit.inBlock, Exit.then]); refine bodyPost_ret (results_none rfl _ _ _) rfl ?_))
      have hbk := blk_set (blk_set (blk_set (blk_set HY.out 0 (.int .i64 o.kind)) 1 (.string o.name)) 2 (.int .i64 o.a)) 3 (.int .i64 o.b)
      have hbx := blk_far (blk_far (blk_far (blk_far HX.out (Ne.symm HNE.out.1.2.2) 0 (.int .i64 o.kind)) (Ne.symm HNE.out.1.2.2) 1 (.string o.name)) (Ne.symm HNE.out.1.2.2) 2 (.int .i64 o.a)) (Ne.symm HNE.out.1.2.2) 3 (.int .i64 o.b)
      have hrs := (((HK.out.2.setOther HNE.out.1.2.1 HNE.out.2.2 0 (.int .i64 o.kind)).setOther HNE.out.1.2.1 HNE.out.2.2 1 (.string o.name)).setOther HNE.out.1.2.1 HNE.out.2.2 2 (.int .i64 o.a)).setOther HNE.out.1.2.1 HNE.out.2.2 3 (.int .i64 o.b)
      refine ⟨H1.out.1.trans (Ks.set (Ks.set (Ks.set (Ks.set ⟨HK.out.1.size, fun i hi hs => HK.out.1.block i hi (fun e => hs (.inl e))⟩ _ _ _ (.inl (.inr (.inr rfl)))) _ _ _ (.inl (.inr (.inr rfl)))) _ _ _ (.inl (.inr (.inr rfl)))) _ _ _ (.inl (.inr (.inr rfl)))), hrs.bel, ⟨x, o, hbx, hbk⟩, ?_⟩
      rw [HQ.out]
      exact ⟨rfl, hrs, hbx, hbk⟩
theorem results_two_two {P : Program} {fn : Func} {p p2 q r : Tmp} {ty ty2 : TypeId} (h : fn.results = #[.cell p ty, .cell p2 ty2, .tmp q, .tmp r]) (tmps : Array Value) (w : World) (g g2 : Nat) (t t2 : TypeId) (cs cs2 : Array Value) (fr fr2 : Nat × Nat) (d d2 : TypeDesc)
    (hp : tmps.getD p undef = .pointer (some ⟨g, 0, none⟩)) (hg : w.heap[g]? = some (.cells cs t fr))
    (hu : P.underlying ty = some d) (hd : (match d with | .struct _ | .array _ _ => true | _ => false) = true) (hi : (P.info? ty).map (·.size) = some cs.size)
    (hp2 : tmps.getD p2 undef = .pointer (some ⟨g2, 0, none⟩)) (hg2 : w.heap[g2]? = some (.cells cs2 t2 fr2))
    (hu2 : P.underlying ty2 = some d2) (hd2 : (match d2 with | .struct _ | .array _ _ => true | _ => false) = true) (hi2 : (P.info? ty2).map (·.size) = some cs2.size) :
    (results fn tmps).run P w = .ok (.tuple #[.agg cs, .agg cs2, tmps.getD q undef, tmps.getD r undef]) w := by
  have hp' : tmps[p]?.getD undef = .pointer (some ⟨g, 0, none⟩) := by simpa using hp
  have hp2' : tmps[p2]?.getD undef = .pointer (some ⟨g2, 0, none⟩) := by simpa using hp2
  simp [results, h, hp', hp2', asAddr, run_loadVar_row w g t ty cs fr d hg hu hd hi, run_loadVar_row w g2 t2 ty2 cs2 fr2 d2 hg2 hu2 hd2 hi2]
theorem blk_as {w : World} {g : Nat} {t : TypeId} {cs cs2 : Array Value} (h : w.heap[g]? = some (.cells cs t (0, 0))) (e : cs = cs2) : w.drew.heap[g]? = some (.cells cs2 t (0, 0)) := e ▸ h
/-- What DecodeRequest answers. -/
def DecQP (w : World) (y : (S25 × Sp.Op) × Int × Int) (e : Ending) (w' : World) : Prop :=
  Below w.heap.size w w' ∧ e = .returned (.tuple #[.agg (CVc y.1.1), .agg (OVc y.1.2), .int .i64 y.2.1, .int .i64 y.2.2])
set_option maxHeartbeats 4000000 in
set_option maxRecDepth 100000 in
theorem decreq_calls (w : World) (A : Option Addr) (c : Nat) (b : List Int) (hi : In w A c b) :
    Calls Try.prog 33 #[.slice A b.length c] w fun e w' => DecQP w (whole (z25, zOp) reqP b) e w' := by
  have hmf : ∀ (fn : Fn) (first cap : Array Value) (w : World), (Instr.makeFunc fn first cap).run Try.prog w = .ok (.func fn first cap) w := fun _ _ _ _ => rfl
  obtain ⟨wa, hwa⟩ : ∃ wa, wa = (w.alloc (.cells #[.int .i64 0, .int .i64 0] 27 (0, 0))).alloc (.cells #[.int .i64 0, .string ⟨#[]⟩, .int .i64 0, .int .i64 0] 29 (0, 0)) := ⟨_, rfl⟩
  have HWA := Aside0.mk hwa
  have HB : Aside0 (Below w.heap.size w wa ∧ wa.heap.size = w.heap.size + 1 + 1 ∧ wa.heap[w.heap.size]? = some (.cells (CVc z25) 27 (0, 0)) ∧ wa.heap[w.heap.size + 1]? = some (.cells (OVc zOp) 29 (0, 0))) := ⟨by
    rw [hwa]
    refine ⟨below_al2 w _ _, by simp, (Below.heap_alloc _ _ _ (by simp)).trans (heap_alloc_new w _), ?_⟩
    have := heap_alloc_new (w.alloc (.cells #[.int .i64 0, .int .i64 0] 27 (0, 0))) (.cells #[.int .i64 0, .string ⟨#[]⟩, .int .i64 0, .int .i64 0] 29 (0, 0))
    simpa [OVc, zOp, eB] using this⟩
  have HRD : Aside0 (Calls Try.prog 59 #[.slice A b.length c, .func (Fn.func 82) #[] #[.pointer (some ⟨w.heap.size, 0, none⟩), .pointer (some ⟨w.heap.size + 1, 0, none⟩)]] wa fun e w' => ReadP w wa (fun k => k = w.heap.size ∨ k = w.heap.size + 1) b (reqP b) (YQ w.heap.size (w.heap.size + 1)) (XQ w.heap.size (w.heap.size + 1)) e w') := ⟨by
    have hsz := HB.out.2.1
    refine read_req w.heap.size (w.heap.size + 1) w wa A c b _ (reqP b) _ _ hi HB.out.1 (fun k hk => by omega) (fun k hk => by omega) (stable_YQ (by omega) (by omega)) (fun m => stable_XQ (by omega) (by omega) m) ?_
    intro w1 hb1 hs1 hr1
    exact req1_calls w w1 _ w.heap.size (w.heap.size + 1) A c b hi hr1 ⟨by omega, by omega, by omega⟩ ⟨by omega, by omega⟩ (blk_keep hb1 HB.out.2.2.1) (blk_keep hb1 HB.out.2.2.2)⟩
  have hu29 := Try.underlying29
  have hu27 := Try.underlying27
  have hne : w.heap.size ≠ w.heap.size + 1 := by omega
  clear hwa hi
  go_enter Try.func33, Try.ntmps33
  go_upto_region 1 with fail
  rw [← HWA.out]
  go_upto_region 2 with (go_at_call 59; refine HRD.out.mono ?_; rintro e w2 ⟨hks, hbl, hy, pt, er, rfl, hm⟩; have HK := Aside0.mk (And.intro hks (And.intro hbl (And.intro hy hm))); clear hks hbl hy hm)
  rcases hp : reqP b with k | ⟨⟨x, o⟩, l⟩
  · have HW : Aside0 (whole (z25, zOp) reqP b = ((z25, zOp), (b.length : Int) - k, 20)) := ⟨by unfold whole; rw [hp]⟩
    rw [hp] at HK
    (try obtain ⟨rfl, rfl⟩ := HK.out.2.2.2)
    obtain ⟨x, o, hx, ho⟩ := HK.out.2.2.1
    have HX := Aside0.mk (And.intro hx ho)
    clear hx ho
    have kc0 : w2.cell? ⟨w.heap.size, 0, none⟩ = some (.int .i64 x.f0) := (blk_cell HX.out.1 0).trans rfl
    have kc1 : w2.cell? ⟨w.heap.size, 1, none⟩ = some (.int .i64 x.f1) := (blk_cell HX.out.1 1).trans rfl
    have kf0 := blk_frozen HX.out.1 0
    have kf1 := blk_frozen HX.out.1 1
    have ko0 : w2.cell? ⟨w.heap.size + 1, 0, none⟩ = some (.int .i64 o.kind) := (blk_cell HX.out.2 0).trans rfl
    have ko1 : w2.cell? ⟨w.heap.size + 1, 1, none⟩ = some (.string o.name) := (blk_cell HX.out.2 1).trans rfl
    have ko2 : w2.cell? ⟨w.heap.size + 1, 2, none⟩ = some (.int .i64 o.a) := (blk_cell HX.out.2 2).trans rfl
    have ko3 : w2.cell? ⟨w.heap.size + 1, 3, none⟩ = some (.int .i64 o.b) := (blk_cell HX.out.2 3).trans rfl
    have kg0 := blk_frozen HX.out.2 0
    have kg1 := blk_frozen HX.out.2 1
    have kg2 := blk_frozen HX.out.2 2
    have kg3 := blk_frozen HX.out.2 3
    go_upto_region 4 with fail
    obtain ⟨w3, hw3⟩ : ∃ w3, w3 = (((((w2.setCell ⟨w.heap.size, 0, none⟩ (.int .i64 0)).setCell ⟨w.heap.size, 1, none⟩ (.int .i64 0)).setCell ⟨w.heap.size + 1, 0, none⟩ (.int .i64 0)).setCell ⟨w.heap.size + 1, 1, none⟩ (.string ⟨#[]⟩)).setCell ⟨w.heap.size + 1, 2, none⟩ (.int .i64 0)).setCell ⟨w.heap.size + 1, 3, none⟩ (.int .i64 0) := ⟨_, rfl⟩
    have hq1 := blk_far (g := w.heap.size + 1) (blk_far (g := w.heap.size + 1) (blk_far (g := w.heap.size + 1) (blk_far (g := w.heap.size + 1) (blk_set (blk_set HX.out.1 0 (.int .i64 0)) 1 (.int .i64 0)) (Ne.symm hne) 0 (.int .i64 0)) (Ne.symm hne) 1 (.string ⟨#[]⟩)) (Ne.symm hne) 2 (.int .i64 0)) (Ne.symm hne) 3 (.int .i64 0)
    have hq2 := blk_set (blk_set (blk_set (blk_set (blk_far (g := w.heap.size) (blk_far (g := w.heap.size) HX.out.2 hne 0 (.int .i64 0)) hne 1 (.int .i64 0)) 0 (.int .i64 0)) 1 (.string ⟨#[]⟩)) 2 (.int .i64 0)) 3 (.int .i64 0)
    have H3 : Aside0 (w3.heap[w.heap.size]? = some (.cells (CVc z25) 27 (0, 0)) ∧ w3.heap[w.heap.size + 1]? = some (.cells (OVc zOp) 29 (0, 0))) := ⟨by rw [hw3]; exact ⟨hq1, hq2⟩⟩
    have HB3 : Aside0 (Below w.heap.size w w3) := ⟨by rw [hw3]; exact (((((HK.out.2.1.setCell (Nat.le_refl _) _).setCell (Nat.le_refl _) _).setCell (Nat.le_succ _) _).setCell (Nat.le_succ _) _).setCell (Nat.le_succ _) _).setCell (Nat.le_succ _) _⟩
    rw [← hw3]
    clear hw3 hq1 hq2 kc0 kc1 kf0 kf1 ko0 ko1 ko2 ko3 kg0 kg1 kg2 kg3
    have kc0 : w3.cell? ⟨w.heap.size, 0, none⟩ = some (.int .i64 0) := (blk_cell H3.out.1 0).trans rfl
    have kc1 : w3.cell? ⟨w.heap.size, 1, none⟩ = some (.int .i64 0) := (blk_cell H3.out.1 1).trans rfl
    have kf0 := blk_frozen H3.out.1 0
    have kf1 := blk_frozen H3.out.1 1
    have ko0 : w3.cell? ⟨w.heap.size + 1, 0, none⟩ = some (.int .i64 0) := (blk_cell H3.out.2 0).trans rfl
    have ko1 : w3.cell? ⟨w.heap.size + 1, 1, none⟩ = some (.string ⟨#[]⟩) := (blk_cell H3.out.2 1).trans rfl
    have ko2 : w3.cell? ⟨w.heap.size + 1, 2, none⟩ = some (.int .i64 0) := (blk_cell H3.out.2 2).trans rfl
    have ko3 : w3.cell? ⟨w.heap.size + 1, 3, none⟩ = some (.int .i64 0) := (blk_cell H3.out.2 3).trans rfl
    have kg0 := blk_frozen H3.out.2 0
    have kg1 := blk_frozen H3.out.2 1
    have kg2 := blk_frozen H3.out.2 2
    have kg3 := blk_frozen H3.out.2 3
    go_region
    all_goals go_wp2
    all_goals (try simp only [Exit.inBlock, Exit.then])
    all_goals
      have he1 := blk_far (g := w.heap.size + 1) (blk_far (g := w.heap.size + 1) (blk_far (g := w.heap.size + 1) (blk_far (g := w.heap.size + 1) (blk_set (blk_set H3.out.1 0 (.int .i64 0)) 1 (.int .i64 0)) (Ne.symm hne) 0 (.int .i64 0)) (Ne.symm hne) 1 (.string ⟨#[]⟩)) (Ne.symm hne) 2 (.int .i64 0)) (Ne.symm hne) 3 (.int .i64 0)
      have he2 := blk_set (blk_set (blk_set (blk_set (blk_far (g := w.heap.size) (blk_far (g := w.heap.size) H3.out.2 hne 0 (.int .i64 0)) hne 1 (.int .i64 0)) 0 (.int .i64 0)) 1 (.string ⟨#[]⟩)) 2 (.int .i64 0)) 3 (.int .i64 0)
      refine bodyPost_ret (v := .tuple #[.agg (CVc z25), .agg (OVc zOp), .int .i64 ((b.length : Int) - k), .int .i64 20]) ?_ rfl ?_
      · exact results_two_two (fn := Try.f33) (p := 2) (p2 := 3) (q := 4) (r := 5) rfl _ _ w.heap.size (w.heap.size + 1) 27 29 _ _ (0, 0) (0, 0) _ _ (by rfl) (blk_as he1 (cs2 := CVc z25) rfl) hu27 rfl inf27 (by rfl) (blk_as he2 (cs2 := OVc zOp) rfl) hu29 rfl inf29
      refine ⟨Below.drew ((((((HB3.out.setCell (Nat.le_refl _) _).setCell (Nat.le_refl _) _).setCell (Nat.le_succ _) _).setCell (Nat.le_succ _) _).setCell (Nat.le_succ _) _).setCell (Nat.le_succ _) _), ?_⟩
      rw [HW.out]
  · rcases l with _ | ⟨d, l⟩
    · have HW : Aside0 (whole (z25, zOp) reqP b = ((x, o), 0, 0)) := ⟨by unfold whole; rw [hp]⟩
      rw [hp] at HK
      obtain ⟨hpt, her, hbk⟩ := HK.out.2.2.2
      subst hpt her
      have HX := Aside0.mk (show w2.heap[w.heap.size]? = some (.cells (CVc x) 27 (0, 0)) ∧ w2.heap[w.heap.size + 1]? = some (.cells (OVc o) 29 (0, 0)) from hbk)
      clear hbk
      have kc0 : w2.cell? ⟨w.heap.size, 0, none⟩ = some (.int .i64 x.f0) := (blk_cell HX.out.1 0).trans rfl
      have kc1 : w2.cell? ⟨w.heap.size, 1, none⟩ = some (.int .i64 x.f1) := (blk_cell HX.out.1 1).trans rfl
      have kf0 := blk_frozen HX.out.1 0
      have kf1 := blk_frozen HX.out.1 1
      have ko0 : w2.cell? ⟨w.heap.size + 1, 0, none⟩ = some (.int .i64 o.kind) := (blk_cell HX.out.2 0).trans rfl
      have ko1 : w2.cell? ⟨w.heap.size + 1, 1, none⟩ = some (.string o.name) := (blk_cell HX.out.2 1).trans rfl
      have ko2 : w2.cell? ⟨w.heap.size + 1, 2, none⟩ = some (.int .i64 o.a) := (blk_cell HX.out.2 2).trans rfl
      have ko3 : w2.cell? ⟨w.heap.size + 1, 3, none⟩ = some (.int .i64 o.b) := (blk_cell HX.out.2 3).trans rfl
      have kg0 := blk_frozen HX.out.2 0
      have kg1 := blk_frozen HX.out.2 1
      have kg2 := blk_frozen HX.out.2 2
      have kg3 := blk_frozen HX.out.2 3
      go_upto_region 4 with fail
      go_region
      all_goals go_wp2
      all_goals (try simp only [Exit.inBlock, Exit.then])
      all_goals
        have he1 := blk_far (g := w.heap.size + 1) (blk_far (g := w.heap.size + 1) (blk_far (g := w.heap.size + 1) (blk_far (g := w.heap.size + 1) (blk_set (blk_set HX.out.1 0 (.int .i64 x.f0)) 1 (.int .i64 x.f1)) (Ne.symm hne) 0 (.int .i64 o.kind)) (Ne.symm hne) 1 (.string o.name)) (Ne.symm hne) 2 (.int .i64 o.a)) (Ne.symm hne) 3 (.int .i64 o.b)
        have he2 := blk_set (blk_set (blk_set (blk_set (blk_far (g := w.heap.size) (blk_far (g := w.heap.size) HX.out.2 hne 0 (.int .i64 x.f0)) hne 1 (.int .i64 x.f1)) 0 (.int .i64 o.kind)) 1 (.string o.name)) 2 (.int .i64 o.a)) 3 (.int .i64 o.b)
        refine bodyPost_ret (v := .tuple #[.agg (CVc x), .agg (OVc o), .int .i64 (0), .int .i64 0]) ?_ rfl ?_
        · exact results_two_two (fn := Try.f33) (p := 2) (p2 := 3) (q := 4) (r := 5) rfl _ _ w.heap.size (w.heap.size + 1) 27 29 _ _ (0, 0) (0, 0) _ _ (by rfl) (blk_as he1 (cs2 := CVc x) rfl) hu27 rfl inf27 (by rfl) (blk_as he2 (cs2 := OVc o) rfl) hu29 rfl inf29
        refine ⟨Below.drew ((((((HK.out.2.1.setCell (Nat.le_refl _) _).setCell (Nat.le_refl _) _).setCell (Nat.le_succ _) _).setCell (Nat.le_succ _) _).setCell (Nat.le_succ _) _).setCell (Nat.le_succ _) _), ?_⟩
        rw [HW.out]
    · have HW : Aside0 (whole (z25, zOp) reqP b = ((z25, zOp), (b.length : Int) - (l.length + 1), 20)) := ⟨by unfold whole; rw [hp]⟩
      rw [hp] at HK
      (try obtain ⟨rfl, rfl⟩ := HK.out.2.2.2)
      obtain ⟨x2, o2, hx, ho⟩ := HK.out.2.2.1
      have HX := Aside0.mk (And.intro hx ho)
      clear hx ho
      have kc0 : w2.cell? ⟨w.heap.size, 0, none⟩ = some (.int .i64 x2.f0) := (blk_cell HX.out.1 0).trans rfl
      have kc1 : w2.cell? ⟨w.heap.size, 1, none⟩ = some (.int .i64 x2.f1) := (blk_cell HX.out.1 1).trans rfl
      have kf0 := blk_frozen HX.out.1 0
      have kf1 := blk_frozen HX.out.1 1
      have ko0 : w2.cell? ⟨w.heap.size + 1, 0, none⟩ = some (.int .i64 o2.kind) := (blk_cell HX.out.2 0).trans rfl
      have ko1 : w2.cell? ⟨w.heap.size + 1, 1, none⟩ = some (.string o2.name) := (blk_cell HX.out.2 1).trans rfl
      have ko2 : w2.cell? ⟨w.heap.size + 1, 2, none⟩ = some (.int .i64 o2.a) := (blk_cell HX.out.2 2).trans rfl
      have ko3 : w2.cell? ⟨w.heap.size + 1, 3, none⟩ = some (.int .i64 o2.b) := (blk_cell HX.out.2 3).trans rfl
      have kg0 := blk_frozen HX.out.2 0
      have kg1 := blk_frozen HX.out.2 1
      have kg2 := blk_frozen HX.out.2 2
      have kg3 := blk_frozen HX.out.2 3
      go_upto_region 4 with fail
      obtain ⟨w3, hw3⟩ : ∃ w3, w3 = (((((w2.setCell ⟨w.heap.size, 0, none⟩ (.int .i64 0)).setCell ⟨w.heap.size, 1, none⟩ (.int .i64 0)).setCell ⟨w.heap.size + 1, 0, none⟩ (.int .i64 0)).setCell ⟨w.heap.size + 1, 1, none⟩ (.string ⟨#[]⟩)).setCell ⟨w.heap.size + 1, 2, none⟩ (.int .i64 0)).setCell ⟨w.heap.size + 1, 3, none⟩ (.int .i64 0) := ⟨_, rfl⟩
      have hq1 := blk_far (g := w.heap.size + 1) (blk_far (g := w.heap.size + 1) (blk_far (g := w.heap.size + 1) (blk_far (g := w.heap.size + 1) (blk_set (blk_set HX.out.1 0 (.int .i64 0)) 1 (.int .i64 0)) (Ne.symm hne) 0 (.int .i64 0)) (Ne.symm hne) 1 (.string ⟨#[]⟩)) (Ne.symm hne) 2 (.int .i64 0)) (Ne.symm hne) 3 (.int .i64 0)
      have hq2 := blk_set (blk_set (blk_set (blk_set (blk_far (g := w.heap.size) (blk_far (g := w.heap.size) HX.out.2 hne 0 (.int .i64 0)) hne 1 (.int .i64 0)) 0 (.int .i64 0)) 1 (.string ⟨#[]⟩)) 2 (.int .i64 0)) 3 (.int .i64 0)
      have H3 : Aside0 (w3.heap[w.heap.size]? = some (.cells (CVc z25) 27 (0, 0)) ∧ w3.heap[w.heap.size + 1]? = some (.cells (OVc zOp) 29 (0, 0))) := ⟨by rw [hw3]; exact ⟨hq1, hq2⟩⟩
      have HB3 : Aside0 (Below w.heap.size w w3) := ⟨by rw [hw3]; exact (((((HK.out.2.1.setCell (Nat.le_refl _) _).setCell (Nat.le_refl _) _).setCell (Nat.le_succ _) _).setCell (Nat.le_succ _) _).setCell (Nat.le_succ _) _).setCell (Nat.le_succ _) _⟩
      rw [← hw3]
      clear hw3 hq1 hq2 kc0 kc1 kf0 kf1 ko0 ko1 ko2 ko3 kg0 kg1 kg2 kg3
      have kc0 : w3.cell? ⟨w.heap.size, 0, none⟩ = some (.int .i64 0) := (blk_cell H3.out.1 0).trans rfl
      have kc1 : w3.cell? ⟨w.heap.size, 1, none⟩ = some (.int .i64 0) := (blk_cell H3.out.1 1).trans rfl
      have kf0 := blk_frozen H3.out.1 0
      have kf1 := blk_frozen H3.out.1 1
      have ko0 : w3.cell? ⟨w.heap.size + 1, 0, none⟩ = some (.int .i64 0) := (blk_cell H3.out.2 0).trans rfl
      have ko1 : w3.cell? ⟨w.heap.size + 1, 1, none⟩ = some (.string ⟨#[]⟩) := (blk_cell H3.out.2 1).trans rfl
      have ko2 : w3.cell? ⟨w.heap.size + 1, 2, none⟩ = some (.int .i64 0) := (blk_cell H3.out.2 2).trans rfl
      have ko3 : w3.cell? ⟨w.heap.size + 1, 3, none⟩ = some (.int .i64 0) := (blk_cell H3.out.2 3).trans rfl
      have kg0 := blk_frozen H3.out.2 0
      have kg1 := blk_frozen H3.out.2 1
      have kg2 := blk_frozen H3.out.2 2
      have kg3 := blk_frozen H3.out.2 3
      go_region
      all_goals go_wp2
      all_goals (try simp only [Exit.inBlock, Exit.then])
      all_goals
        have he1 := blk_far (g := w.heap.size + 1) (blk_far (g := w.heap.size + 1) (blk_far (g := w.heap.size + 1) (blk_far (g := w.heap.size + 1) (blk_set (blk_set H3.out.1 0 (.int .i64 0)) 1 (.int .i64 0)) (Ne.symm hne) 0 (.int .i64 0)) (Ne.symm hne) 1 (.string ⟨#[]⟩)) (Ne.symm hne) 2 (.int .i64 0)) (Ne.symm hne) 3 (.int .i64 0)
        have he2 := blk_set (blk_set (blk_set (blk_set (blk_far (g := w.heap.size) (blk_far (g := w.heap.size) H3.out.2 hne 0 (.int .i64 0)) hne 1 (.int .i64 0)) 0 (.int .i64 0)) 1 (.string ⟨#[]⟩)) 2 (.int .i64 0)) 3 (.int .i64 0)
        refine bodyPost_ret (v := .tuple #[.agg (CVc z25), .agg (OVc zOp), .int .i64 ((b.length : Int) - (l.length + 1)), .int .i64 20]) ?_ rfl ?_
        · exact results_two_two (fn := Try.f33) (p := 2) (p2 := 3) (q := 4) (r := 5) rfl _ _ w.heap.size (w.heap.size + 1) 27 29 _ _ (0, 0) (0, 0) _ _ (by rfl) (blk_as he1 (cs2 := CVc z25) rfl) hu27 rfl inf27 (by rfl) (blk_as he2 (cs2 := OVc zOp) rfl) hu29 rfl inf29
        refine ⟨Below.drew ((((((HB3.out.setCell (Nat.le_refl _) _).setCell (Nat.le_refl _) _).setCell (Nat.le_succ _) _).setCell (Nat.le_succ _) _).setCell (Nat.le_succ _) _).setCell (Nat.le_succ _) _), ?_⟩
        rw [HW.out]
end Go.Proofs.Ytpgdmmjbhjbbhaa.Rd
end
section
namespace Go.Proofs.Ytpgdmmjbhjbbhaa.Rd
open Go Go.RowKit Go.Proofs.Ytpgdmmjbhjbbhaa.P Go.Proofs.Ytpgdmmjbhjbbhaa.Sp Go.Proofs.Ytpgdmmjbhjbbhaa.Vd Go.Proofs.Ytpgdmmjbhjbbhaa.En Go.Proofs.Ytpgdmmjbhjbbhaa.Wr Go.Proofs.YtpgdmmjbhjbbhaaW.PrintWords Go.Proofs.YtpgdmmjbhjbbhaaW.PrintLast Go.Proofs.YtpgdmmjbhjbbhaaW.PrintMore
set_option linter.unusedVariables false
set_option linter.unusedSimpArgs false
def SGc (f t q a : Int) (v : Value) : Array Value := #[.int .i64 f, .int .i64 t, .int .i64 q, .int .i64 a, v]
theorem R_keep2 {w1 w2 : World} {m : Nat} {v : Value} {xs : List Int} (h : Kd.R (Kd.int .u8) 5 w1 m (fun _ => True) v xs) (hk : ∀ k, k < w1.heap.size → m ≤ k → w2.heap[k]? = w1.heap[k]?) : Kd.R (Kd.int .u8) 5 w2 m (fun _ => True) v xs :=
  Kd.R_mono (Kd.R_move (Kd.R_bound h) (fun k hk2 => hk k hk2.2.2.1 hk2.2.1)) (fun _ _ => trivial)
theorem sg_one (f t q a : Int) (A : Option Addr) (n c : Nat) : (SGc f t q a (.slice A n c)).all (·.oneCell') = true := by simp [SGc, Value.oneCell']
theorem inf47 : (Try.prog.info? 47).map (·.size) = some 5 := by kernel_rfl
/-- What DecodeSegment answers: the segment, its data in new memory, the place, the error. -/
def DecSP (w : World) (x : Seg × Int × Int) (e : Ending) (w' : World) : Prop :=
  Below w.heap.size w w' ∧ ∃ A1 c1, e = .returned (.tuple #[SV x.1 A1 c1, .int .i64 x.2.1, .int .i64 x.2.2]) ∧ Kd.R (Kd.int .u8) 5 w' w.heap.size (fun _ => True) (.slice A1 x.1.data.length c1) x.1.data
end Go.Proofs.Ytpgdmmjbhjbbhaa.Rd
end
section
namespace Go.Proofs.Ytpgdmmjbhjbbhaa.Sp
open Go Go.RowKit Go.Proofs.Ytpgdmmjbhjbbhaa.P Go.Proofs.YtpgdmmjbhjbbhaaW.PrintWords Go.Proofs.YtpgdmmjbhjbbhaaW.PrintLast Go.Proofs.YtpgdmmjbhjbbhaaW.PrintMore
set_option linter.unusedVariables false
set_option linter.unusedSimpArgs false
/-- A refusal's place lies within what was to be read; what is left is no longer than that. -/
def Safe {α : Type} (p : Rdr α) : Prop := (∀ l n, p l = .bad n → n ≤ l.length) ∧ ∀ l x r, p l = .ok x r → r.length ≤ l.length
theorem Safe.ret {α : Type} (x : α) : Safe (Sp.ret x) := ⟨fun l n h => (by cases h), fun l y r h => (by cases h; exact Nat.le_refl _)⟩
theorem Safe.bnd {α β : Type} {p : Rdr α} {f : α → Rdr β} (hp : Safe p) (hf : ∀ x, Safe (f x)) : Safe (Sp.bnd p f) := by
  refine ⟨fun l n h => ?_, fun l x r h => ?_⟩
  · cases hq : p l with
    | bad k => rw [bnd_bad hq] at h; cases h; exact hp.1 l _ hq
    | ok y s => rw [bnd_ok hq] at h; exact Nat.le_trans ((hf y).1 s n h) (hp.2 l y s hq)
  · cases hq : p l with
    | bad k => rw [bnd_bad hq] at h; cases h
    | ok y s => rw [bnd_ok hq] at h; exact Nat.le_trans ((hf y).2 s x r h) (hp.2 l y s hq)
theorem numGo_le : ∀ (l : List Int) (k n : Nat) (r : List Int), numGo k l = .ok n r → r.length ≤ l.length
  | [], k, n, r, h => by simp [numGo] at h
  | c :: l, k, n, r, h => by
    unfold numGo at h
    split at h
    · split at h
      · cases h; simp
      · cases h
    · split at h
      · cases h
      · split at h
        · rename_i a b hq
          cases h
          have := numGo_le l (k + 1) _ _ hq
          simp only [List.length_cons]; omega
        · rename_i x hx
          first | cases h | exact absurd h (hx n r)
theorem safe_raw : Safe rawP := by
  refine ⟨fun l n h => ?_, fun l x r h => ?_⟩
  · unfold rawP at h
    split at h
    · cases h; exact Nat.zero_le _
    · cases h; exact Nat.le_refl _
    · cases h
  · unfold rawP at h
    split at h
    · cases h
    · cases h
    · cases h; exact numGo_le l 0 _ _ (by assumption)
theorem safe_num (lo hi : Int) : Safe (numP lo hi) := by
  refine ⟨fun l n h => ?_, fun l x r h => ?_⟩
  · unfold numP at h
    split at h
    · rename_i n1 hq; cases h; exact safe_raw.1 l _ hq
    · split at h
      · cases h
      · cases h; exact Nat.le_refl _
  · unfold numP at h
    split at h
    · cases h
    · rename_i n1 r1 hq
      split at h
      · cases h; exact safe_raw.2 l _ _ hq
      · cases h
theorem safe_sign : Safe signP := by
  refine ⟨fun l n h => ?_, fun l x r h => ?_⟩
  · unfold signP at h
    split at h
    · rename_i n1 hq; cases h; exact safe_raw.1 l _ hq
    · cases h
  · unfold signP at h
    split at h
    · cases h
    · rename_i n1 r1 hq; cases h; exact safe_raw.2 l _ _ hq
theorem safe_take (n : Nat) : Safe (takeP n) := by
  refine ⟨fun l k h => ?_, fun l x r h => ?_⟩
  · unfold takeP at h
    split at h
    · cases h; exact Nat.zero_le _
    · cases h
  · unfold takeP at h
    split at h
    · cases h
    · cases h; rw [List.length_drop]; omega
theorem safe_nameIn (a : ByteArray) (n : Nat) : Safe (nameIn a n) := by
  refine ⟨fun l k h => ?_, fun l x r h => ?_⟩
  · unfold nameIn at h
    split at h
    · rename_i n1 hq; cases h; exact (safe_take n).1 l _ hq
    · split at h
      · cases h
      · cases h; exact Nat.le_refl _
  · unfold nameIn at h
    split at h
    · cases h
    · rename_i b1 r1 hq
      split at h
      · cases h; exact (safe_take n).2 l _ _ hq
      · cases h
theorem safe_name (a : ByteArray) : Safe (nameP a) := Safe.bnd (safe_num _ _) fun _ => safe_nameIn _ _
theorem safe_opt {α : Type} (c : Prop) [Decidable c] (z : α) {p : Rdr α} (h : Safe p) : Safe (optP c z p) := by
  unfold optP
  split
  · exact h
  · exact Safe.ret z
theorem safe_pair (a b c d : Int) : Safe (pairP a b c d) := Safe.bnd (safe_num _ _) fun _ => Safe.bnd (safe_num _ _) fun _ => Safe.ret _
theorem safe_op : Safe opP := by
  unfold opP
  repeat' first
    | exact Safe.ret _
    | exact safe_num _ _
    | exact safe_sign
    | exact safe_name _
    | refine Safe.bnd ?_ (fun _ => ?_)
theorem safe_view (a : ByteArray) : Safe (viewP a) := by
  unfold viewP
  repeat' first
    | exact Safe.ret _
    | exact safe_num _ _
    | exact safe_name _
    | exact safe_pair _ _ _ _
    | refine Safe.bnd ?_ (fun _ => ?_)
theorem safe_viewsGo : ∀ (n : Nat) (a : ByteArray), Safe (viewsGo n a)
  | 0, a => Safe.ret _
  | n + 1, a => by
    unfold viewsGo
    exact Safe.bnd (safe_view a) fun v => Safe.bnd (safe_viewsGo n v.f0) fun _ => Safe.ret _
theorem safe_views : Safe viewsP := Safe.bnd (safe_num _ _) fun n => safe_viewsGo _ _
theorem safe_rest (k : Int) : Safe (restP k) := by
  unfold restP
  split
  · exact Safe.bnd (safe_pair _ _ _ _) fun _ => Safe.bnd safe_op fun _ => Safe.ret _
  split
  · exact Safe.bnd (safe_pair _ _ _ _) fun _ => Safe.bnd (safe_name _) fun _ => Safe.bnd (safe_num _ _) fun _ => Safe.bnd (safe_opt _ _ (safe_pair _ _ _ _)) fun _ => Safe.ret _
  split
  · exact Safe.bnd safe_views fun _ => Safe.ret _
  · unfold ofP
    exact Safe.bnd (safe_name _) fun _ => Safe.bnd (safe_pair _ _ _ _) fun _ => Safe.bnd (safe_opt _ _ (safe_pair _ _ _ _)) fun _ => Safe.bnd (safe_opt _ _ (safe_pair _ _ _ _)) fun _ => Safe.bnd (safe_opt _ _ (safe_pair _ _ _ _)) fun _ => Safe.bnd (safe_opt _ _ (safe_num _ _)) fun _ => Safe.ret _
theorem safe_msg : Safe msgP := Safe.bnd (safe_num _ _) fun k => safe_rest k
/-- What is right reads as it was. -/
theorem whole_back {α : Type} {p : Rdr α} {e : α → List Int} {v : α → Prop} (h : Codec p e v) (z : α) {x : α} (hx : v x) : whole z p (e x) = (x, 0, 0) := by
  have := h.back x [] hx
  rw [List.append_nil] at this
  unfold whole
  rw [this]
/-- What is read: the very bytes as which the thing is written; or nothing but a place within. -/
theorem whole_one {α : Type} {p : Rdr α} {e : α → List Int} {v : α → Prop} (h : Codec p e v) (hs : Safe p) (z : α) {b : List Int} (hb : IsB b) :
    (∃ x, whole z p b = (x, 0, 0) ∧ v x ∧ e x = b) ∨ ∃ n : Int, whole z p b = (z, n, 20) ∧ 0 ≤ n ∧ n ≤ b.length := by
  unfold whole
  split
  · rename_i n hq
    have := hs.1 b n hq
    exact .inr ⟨_, rfl, by omega, by omega⟩
  · rename_i x hq
    obtain ⟨h1, h2⟩ := h.one b x [] hb hq
    exact .inl ⟨x, rfl, h1, by rw [h2, List.append_nil]⟩
  · rename_i x c r hq
    have := hs.2 b x (c :: r) hq
    simp only [List.length_cons] at this
    exact .inr ⟨_, rfl, by omega, by omega⟩
theorem lay_right {α : Type} {e : α → List Int} {v : α → Prop} {x : α} (h : v x) : lay e v x = (e x, 0) := by unfold lay; rw [if_pos (dcd_pos h)]
theorem intB_1 {n : Int} (h0 : 0 ≤ n) (h1 : n < 128) : intB n = [n] := by
  rw [intB_of h0 (by omega), numB_lt (by omega)]
  congr 1
  omega
def kSt : ByteArray := ⟨#[107]⟩
def mEx : Msg := { zMsg with kind := 3, name := kSt, cap := 10, epoch := ⟨2, 1⟩ }
def sEx : Seg := ⟨0, 1, 0, 7, []⟩
def qEx : S25 × Op := (⟨3, 1⟩, ⟨2, kSt, 5, 0⟩)
def rEx : Rep := ⟨⟨0, 9⟩, 0, -3⟩
theorem name_k : nameOk (bytesOf kSt) := by
  refine ⟨by decide, by decide, ?_⟩
  have : bytesOf kSt = [107] := by decide
  rw [this]
  intro x hx
  rw [List.mem_singleton.mp hx]
  decide
theorem bytes_k : bytesOf kSt = [107] := by decide
theorem nameV_k : nameV eB kSt := nameV_nil.mpr name_k
theorem text_k : textB kSt = [1, 107] := by
  unfold textB
  rw [bytes_k, intB_1 (by decide) (by decide)]
  decide
theorem mEx_bytes : msgB mEx = [3, 1, 107, 10, 0, 2, 1] := by
  have h1 : ∀ n : Int, 0 ≤ n → n < 128 → intB n = [n] := fun n a b => intB_1 a b
  simp [msgB, restB, mEx, zMsg, optB, hasEp, hasRt, capOf, pairB, text_k, h1, z25]
theorem mEx_right : msgV mEx := by
  refine ⟨by decide, ?_⟩
  unfold restV
  rw [if_neg (by decide), if_neg (by decide), if_neg (by decide)]
  simp [mEx, zMsg, optV, hasEp, hasRt, capOf, capV, pairV, epochV, big, mOf, z25, nameV_k]
theorem sEx_bytes : segB sEx = [0, 1, 0, 7, 0] := by
  have h1 : ∀ n : Int, 0 ≤ n → n < 128 → intB n = [n] := fun n a b => intB_1 a b
  simp [segB, sEx, h1]
theorem sEx_right : segV sEx := by
  simp [segV, sEx, big, IsB]
theorem qEx_bytes : reqB qEx = [3, 1, 2, 1, 107, 10, 0] := by
  have h1 : ∀ n : Int, 0 ≤ n → n < 128 → intB n = [n] := fun n a b => intB_1 a b
  simp [reqB, qEx, opB, pairB, h1, text_k, signB, signN, numB_lt]
theorem qEx_right : reqV qEx := by
  refine ⟨?_, ?_⟩
  · simp [qEx, callV, pairV, big]
  · simp [qEx, opV, isI, nameV_k]
theorem rEx_bytes : repB rEx = [0, 9, 0, 5] := by
  have h1 : ∀ n : Int, 0 ≤ n → n < 128 → intB n = [n] := fun n a b => intB_1 a b
  simp [repB, rEx, pairB, h1, signB, signN, numB_lt]
theorem rEx_right : repV rEx := by
  simp [repV, rEx, callV, pairV, big, isI]
end Go.Proofs.Ytpgdmmjbhjbbhaa.Sp
end
