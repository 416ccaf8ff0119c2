/- texts that the proof needs, laid together by a program of this session. -/
import Derived.Test.YtpgdmmjbhjbbhaaKWireEncodes11
section
namespace Go.Proofs.Ytpgdmmjbhjbbhaa.Rd
open Go Go.RowKit Go.Proofs.Ytpgdmmjbhjbbhaa.P Go.Proofs.Ytpgdmmjbhjbbhaa.Sp Go.Proofs.Ytpgdmmjbhjbbhaa.Vd Go.Proofs.Ytpgdmmjbhjbbhaa.En Go.Proofs.Ytpgdmmjbhjbbhaa.Wr Go.Proofs.YtpgdmmjbhjbbhaaW.PrintWords Go.Proofs.YtpgdmmjbhjbbhaaW.PrintLast Go.Proofs.YtpgdmmjbhjbbhaaW.PrintMore
set_option linter.unusedVariables false
set_option linter.unusedSimpArgs false
/-- Blocks outside S stay. -/
structure Ks (S : Nat → Prop) (w w1 : World) : Prop where
  size : w.heap.size ≤ w1.heap.size
  block : ∀ k, k < w.heap.size → ¬ S k → w1.heap[k]? = w.heap[k]?
theorem Ks.trans {S : Nat → Prop} {a b c : World} (h : Ks S a b) (k : Ks S b c) : Ks S a c := ⟨Nat.le_trans h.size k.size, fun i hi hs => (k.block i (Nat.lt_of_lt_of_le hi h.size) hs).trans (h.block i hi hs)⟩
theorem Ks.set {S : Nat → Prop} {a b : World} (h : Ks S a b) (g i : Nat) (v : Value) (hg : S g ∨ a.heap.size ≤ g) : Ks S a (b.setCell ⟨g, i, none⟩ v) :=
  ⟨Nat.le_trans h.size (Kb.set g i b v).size, fun k hk hs => ((Kb.set g i b v).block k (Nat.lt_of_lt_of_le hk h.size) (by
    rcases hg with hg | hg
    · intro e; exact hs (e ▸ hg)
    · omega)).trans (h.block k hk hs)⟩
/-- What the fields leave: a panic with the place, or the thing laid into the variables. -/
def Fld {α : Type} (w0 w1 : World) (g : Nat) (S : Nat → Prop) (A : Option Addr) (c : Nat) (b : List Int) (r : R α) (Y : World → Prop) (X : α → World → Prop) (e : Ending) (w' : World) : Prop :=
  Ks (fun k => k = g ∨ S k) w1 w' ∧ Below w0.heap.size w0 w' ∧ Y w' ∧ match r with
    | .bad k => e = pan ((b.length : Int) - k)
    | .ok x l => e = .returned (.tuple #[]) ∧ RS w0 w' g A c b l ∧ X x w'
/-- What read leaves. -/
def ReadP {α : Type} (w0 w : World) (S : Nat → Prop) (b : List Int) (r : R α) (Y : World → Prop) (X : α → World → Prop) (e : Ending) (w' : World) : Prop :=
  Ks S w w' ∧ Below w0.heap.size w0 w' ∧ Y w' ∧ ∃ pt er : Int, e = .returned (.tuple #[.int .i64 pt, .int .i64 er]) ∧ match r with
    | .bad k => pt = (b.length : Int) - k ∧ er = 20
    | .ok x [] => pt = 0 ∧ er = 0 ∧ X x w'
    | .ok x (d :: l) => pt = (b.length : Int) - (l.length + 1) ∧ er = 20
/-- It says nothing of the two results' variables. -/
def Stable (n : Nat) (Y : World → Prop) : Prop := ∀ w1 w2 : World, Y w1 → (∀ k, k < w1.heap.size → k ≠ n → k ≠ n + 1 → w2.heap[k]? = w1.heap[k]?) → w1.heap.size ≤ w2.heap.size → Y w2
theorem stable_set {n i : Nat} {Y : World → Prop} (h : Stable n Y) {w : World} (hy : Y w) (v : Value) {g : Nat} (hg : g = n ∨ g = n + 1) : Y (w.setCell ⟨g, i, none⟩ v) :=
  h w _ hy (fun k _ h1 h2 => Below.heap_setCell w ⟨g, i, none⟩ v k (by rcases hg with rfl | rfl <;> assumption)) (Kb.set g i w v).size
set_option maxHeartbeats 4000000 in
set_option maxRecDepth 100000 in
theorem read_msg {α : Type} (cb : Nat) (w0 w : World) (A : Option Addr) (c : Nat) (b : List Int) (S : Nat → Prop) (r : R α) (Y : World → Prop) (X : α → World → Prop) (hi : In w0 A c b) (hB : Below w0.heap.size w0 w)
    (hS : ∀ k, S k → k < w.heap.size) (hS0 : ∀ k, S k → w0.heap.size ≤ k) (hY : Stable w.heap.size Y) (hX : ∀ x, Stable w.heap.size (X x))
    (hf : ∀ w1, Below w.heap.size w w1 → w1.heap.size = w.heap.size + 1 + 1 + 1 → RS w0 w1 (w.heap.size + 1 + 1) A c b b → Calls Try.prog 60 #[.pointer (some ⟨w.heap.size + 1 + 1, 0, none⟩), .pointer (some ⟨cb, 0, none⟩)] w1 fun e w' => Fld w0 w1 (w.heap.size + 1 + 1) S A c b r Y X e w') :
    Calls Try.prog 59 #[.slice A b.length c, .func (Fn.func 60) #[] #[.pointer (some ⟨cb, 0, none⟩)]] w fun e w' => ReadP w0 w S b r Y X e w' := by
  have hmf : ∀ (fn : Fn) (first cap : Array Value) (w : World), (Instr.makeFunc fn first cap).run Try.prog w = .ok (.func fn first cap) w := fun _ _ _ _ => rfl
  obtain ⟨w1, hw1⟩ : ∃ w1, w1 = (((w.alloc (.cells #[.int .i64 0] 3 (0, 0))).alloc (.cells #[.int .i64 0] 30 (0, 0))).alloc (.cells #[.slice A b.length c, .int .i64 0] 141 (0, 0))) := ⟨_, rfl⟩
  have HW1 := Aside0.mk hw1
  have hb1 : Below w.heap.size w w1 := by rw [hw1]; exact ((al_below w _).alloc (by simp) _).alloc (by simp; omega) _
  have hs1 : w1.heap.size = w.heap.size + 1 + 1 + 1 := by rw [hw1]; simp
  have hP : w1.heap[w.heap.size]? = some (.cells #[.int .i64 0] 3 (0, 0)) := by
    rw [hw1, Below.heap_alloc _ _ _ (by simp; omega), Below.heap_alloc _ _ _ (by simp)]; exact heap_alloc_new w _
  have hE : w1.heap[w.heap.size + 1]? = some (.cells #[.int .i64 0] 30 (0, 0)) := by
    rw [hw1, Below.heap_alloc _ _ _ (by simp)]
    have := heap_alloc_new (w.alloc (.cells #[.int .i64 0] 3 (0, 0))) (.cells #[.int .i64 0] 30 (0, 0))
    simpa using this
  have hR : RS w0 w1 (w.heap.size + 1 + 1) A c b b := ⟨by
    have := heap_alloc_new ((w.alloc (.cells #[.int .i64 0] 3 (0, 0))).alloc (.cells #[.int .i64 0] 30 (0, 0))) (.cells #[.slice A b.length c, .int .i64 0] 141 (0, 0))
    rw [hw1]
    unfold pl
    rw [Int.sub_self]
    simpa using this, by have := hB.size; omega, hB.trans (hb1.mono hB.size), ⟨[], rfl⟩⟩
  have HC := Aside0.mk (hf w1 hb1 hs1 hR)
  have HBL := Aside0.mk (And.intro hP hE)
  have HB1 := Aside0.mk (And.intro hb1 hs1)
  have HST := Aside0.mk (And.intro hS (And.intro hS0 (And.intro hY hX)))
  have HSZ := Aside0.mk hB.size
  have HBB := Aside0.mk hB
  have HI := Aside0.mk hi
  clear hw1 hf hP hE hb1 hs1 hS hS0 hY hX hR hB hi
  go_enter_defers Try.func59, Try.ntmps59
  go_wp2_with fail
  rw [← HW1.out]
  rcases hr : r with k | ⟨x, l⟩
  · refine HC.out.mono ?_
    rintro e w2 ⟨hks, hbl, hy, hm⟩
    simp only [hr, pan] at hm
    subst hm
    have hnS : ∀ k, k = w.heap.size ∨ k = w.heap.size + 1 → ¬ (k = w.heap.size + 1 + 1 ∨ S k) := fun k hk h => by
      rcases h with h | h
      · omega
      · have := HST.out.1 k h; omega
    have hP2 := (hks.block w.heap.size (by rw [HB1.out.2]; omega) (hnS _ (.inl rfl))).trans HBL.out.1
    have hE2 := (hks.block (w.heap.size + 1) (by rw [HB1.out.2]; omega) (hnS _ (.inr rfl))).trans HBL.out.2
    have HK2 := Aside0.mk (And.intro hks (And.intro hbl hy))
    clear hks hbl hy hnS
    go_wp2_with fail
    have hne : w.heap.size ≠ w.heap.size + 1 := by omega
    have kp : w2.cell? ⟨w.heap.size, 0, none⟩ = some (.int .i64 0) := (blk_cell hP2 0).trans rfl
    have kpf := blk_frozen hP2 0
    have hE3 : ∀ v, (w2.setCell ⟨w.heap.size, 0, none⟩ v).heap[w.heap.size + 1]? = some (.cells #[.int .i64 0] 30 (0, 0)) := fun v => blk_far hE2 hne 0 v
    have ke := fun v => (blk_cell (hE3 v) 0).trans (rfl : _ = some (Value.int .i64 0))
    have kef := fun v => blk_frozen (hE3 v) 0
    refine leaves_cons (f := 96) (args := #[.pointer (some ⟨w.heap.size, 0, none⟩), .pointer (some ⟨w.heap.size + 1, 0, none⟩)]) (by simp) (by simp [go_sem]) ?_
    refine (catch_pan ⟨w.heap.size, 0, none⟩ ⟨w.heap.size + 1, 0, none⟩ 0 0 _ _ kp kpf (ke _) (kef _)).mono ?_
    rintro e u' w3 ⟨rfl, rfl, rfl⟩
    have hf1 := blk_far (blk_set hP2 0 (.int .i64 ((b.length : Int) - k))) (Ne.symm hne) 0 (.int .i64 20)
    have hf2 := blk_set (hE3 (.int .i64 ((b.length : Int) - k))) 0 (.int .i64 20)
    have hfin : ReadP w0 w S b r Y X (.returned (.tuple #[.int .i64 ((b.length : Int) - k), .int .i64 20])) ((w2.setCell ⟨w.heap.size, 0, none⟩ (.int .i64 ((b.length : Int) - k))).setCell ⟨w.heap.size + 1, 0, none⟩ (.int .i64 20)) := by
      rw [hr]
      refine ⟨?_, ?_, stable_set HST.out.2.2.1 (stable_set HST.out.2.2.1 HK2.out.2.2 _ (.inl rfl)) _ (.inr rfl), _, _, rfl, rfl, rfl⟩
      · refine Ks.set (Ks.set ⟨by have := HK2.out.1.size; have := HB1.out.2; omega, fun i hi hs => (HK2.out.1.block i (by rw [HB1.out.2]; omega) (fun h => h.elim (fun h => absurd h (by omega)) hs)).trans (HB1.out.1.block i hi)⟩ _ _ _ (.inr (Nat.le_refl _))) _ _ _ (.inr (by omega))
      · exact (HK2.out.2.1.setCell HSZ.out _).setCell (by have := HSZ.out; show _ ≤ w.heap.size + 1; omega) _
    have HFXN := Aside0.mk hfin
    clear hfin hP2 hE2 hE3 ke kef kp kpf
    obtain ⟨wf, hwf⟩ : ∃ wf, wf = (w2.setCell ⟨w.heap.size, 0, none⟩ (.int .i64 ((b.length : Int) - k))).setCell ⟨w.heap.size + 1, 0, none⟩ (.int .i64 20) := ⟨_, rfl⟩
    rw [← hwf] at hf1 hf2 HFXN ⊢
    clear hwf
    have kf1 : wf.cell? ⟨w.heap.size, 0, none⟩ = some (.int .i64 ((b.length : Int) - k)) := (blk_cell hf1 0).trans rfl
    have kf2 : wf.cell? ⟨w.heap.size + 1, 0, none⟩ = some (.int .i64 20) := (blk_cell hf2 0).trans rfl
    clear hf1 hf2
    simp [Leaves, settle, results, Try.results59, go_sem, kf1, kf2]
    exact HFXN.out
  · refine HC.out.mono ?_
    rintro e w2 ⟨hks, hbl, hy, hm⟩
    simp only [hr] at hm
    obtain ⟨rfl, hrs, hx⟩ := hm
    have hnS : ∀ k, k = w.heap.size ∨ k = w.heap.size + 1 → ¬ (k = w.heap.size + 1 + 1 ∨ S k) := fun k hk h => by
      rcases h with h | h
      · omega
      · have := HST.out.1 k h; omega
    have hP2 := (hks.block w.heap.size (by rw [HB1.out.2]; omega) (hnS _ (.inl rfl))).trans HBL.out.1
    have hE2 := (hks.block (w.heap.size + 1) (by rw [HB1.out.2]; omega) (hnS _ (.inr rfl))).trans HBL.out.2
    have kp : w2.cell? ⟨w.heap.size, 0, none⟩ = some (.int .i64 0) := (blk_cell hP2 0).trans rfl
    have kpf := blk_frozen hP2 0
    have ke : w2.cell? ⟨w.heap.size + 1, 0, none⟩ = some (.int .i64 0) := (blk_cell hE2 0).trans rfl
    have kef := blk_frozen hE2 0
    have kr : w2.cell? ⟨w.heap.size + 1 + 1, 1, none⟩ = some (.int .i64 (pl b l)) := (blk_cell hrs.blk 1).trans rfl
    have hne : w.heap.size ≠ w.heap.size + 1 := by omega
    have HK2 := Aside0.mk (And.intro hks (And.intro hbl (And.intro hy hx)))
    have HRS := Aside0.mk hrs
    have HKS : Aside0 (∀ u v, Ks S w ((w2.setCell ⟨w.heap.size, 0, none⟩ u).setCell ⟨w.heap.size + 1, 0, none⟩ v) ∧ Below w0.heap.size w0 ((w2.setCell ⟨w.heap.size, 0, none⟩ u).setCell ⟨w.heap.size + 1, 0, none⟩ v) ∧ Y ((w2.setCell ⟨w.heap.size, 0, none⟩ u).setCell ⟨w.heap.size + 1, 0, none⟩ v) ∧ X x ((w2.setCell ⟨w.heap.size, 0, none⟩ u).setCell ⟨w.heap.size + 1, 0, none⟩ v)) := ⟨fun u v => by
      refine ⟨?_, ?_, stable_set HST.out.2.2.1 (stable_set HST.out.2.2.1 hy _ (.inl rfl)) _ (.inr rfl), stable_set (HST.out.2.2.2 x) (stable_set (HST.out.2.2.2 x) hx _ (.inl rfl)) _ (.inr rfl)⟩
      · refine Ks.set (Ks.set ⟨by have := hks.size; have := HB1.out.2; omega, fun i hi hs => (hks.block i (by rw [HB1.out.2]; omega) (fun h => h.elim (fun h => absurd h (by omega)) hs)).trans (HB1.out.1.block i hi)⟩ _ _ _ (.inr (Nat.le_refl _))) _ _ _ (.inr (by omega))
      · exact (hbl.setCell HSZ.out _).setCell (by have := HSZ.out; show _ ≤ w.heap.size + 1; omega) _⟩
    have HHE : Aside0 (∀ u v, ((w2.setCell ⟨w.heap.size, 0, none⟩ u).setCell ⟨w.heap.size + 1, 0, none⟩ v).heap[w.heap.size]? = some (.cells #[u] 3 (0, 0)) ∧ ((w2.setCell ⟨w.heap.size, 0, none⟩ u).setCell ⟨w.heap.size + 1, 0, none⟩ v).heap[w.heap.size + 1]? = some (.cells #[v] 30 (0, 0))) := ⟨fun u v =>
      ⟨blk_far (blk_set hP2 0 u) (Ne.symm hne) 0 v, blk_set (blk_far hE2 hne 0 u) 0 v⟩⟩
    clear hks hbl hy hx hrs hnS hP2 hE2
    rcases l with _ | ⟨d, l⟩
    · have hpl : pl b [] = (b.length : Int) := by unfold pl; simp
      rw [hpl] at kr
      go_wp2_with fail
      refine leaves_cons (f := 96) (args := #[.pointer (some ⟨w.heap.size, 0, none⟩), .pointer (some ⟨w.heap.size + 1, 0, none⟩)]) (by simp) (by simp [go_sem]) ?_
      refine (catch_idle ⟨w.heap.size, 0, none⟩ ⟨w.heap.size + 1, 0, none⟩ _).mono ?_
      rintro e u' w3 ⟨rfl, rfl, rfl⟩
      have hks := HKS.out (.int .i64 (0)) (.int .i64 0)
      have hhe := HHE.out (.int .i64 (0)) (.int .i64 0)
      obtain ⟨wf, hwf⟩ : ∃ wf, wf = (w2.setCell ⟨w.heap.size, 0, none⟩ (.int .i64 (0))).setCell ⟨w.heap.size + 1, 0, none⟩ (.int .i64 0) := ⟨_, rfl⟩
      rw [← hwf] at hks hhe ⊢
      clear hwf
      have kf1 : wf.cell? ⟨w.heap.size, 0, none⟩ = some (.int .i64 (0)) := (blk_cell hhe.1 0).trans rfl
      have kf2 : wf.cell? ⟨w.heap.size + 1, 0, none⟩ = some (.int .i64 0) := (blk_cell hhe.2 0).trans rfl
      have HFXN : Aside0 (ReadP w0 w S b r Y X (.returned (.tuple #[.int .i64 (0), .int .i64 0])) wf) := ⟨by
        rw [hr]
        exact ⟨hks.1, hks.2.1, hks.2.2.1, _, _, rfl, rfl, rfl, hks.2.2.2⟩⟩
      clear hks hhe
      simp [Leaves, settle, results, Try.results59, go_sem, kf1, kf2]
      exact HFXN.out
    · have hpl : pl b (d :: l) < (b.length : Int) := by unfold pl; rw [List.length_cons]; omega
      go_wp2_with fail
      refine leaves_cons (f := 96) (args := #[.pointer (some ⟨w.heap.size, 0, none⟩), .pointer (some ⟨w.heap.size + 1, 0, none⟩)]) (by simp) (by simp [go_sem]) ?_
      refine (catch_idle ⟨w.heap.size, 0, none⟩ ⟨w.heap.size + 1, 0, none⟩ _).mono ?_
      rintro e u' w3 ⟨rfl, rfl, rfl⟩
      have hks := HKS.out (.int .i64 (pl b (d :: l))) (.int .i64 20)
      have hhe := HHE.out (.int .i64 (pl b (d :: l))) (.int .i64 20)
      obtain ⟨wf, hwf⟩ : ∃ wf, wf = (w2.setCell ⟨w.heap.size, 0, none⟩ (.int .i64 (pl b (d :: l)))).setCell ⟨w.heap.size + 1, 0, none⟩ (.int .i64 20) := ⟨_, rfl⟩
      rw [← hwf] at hks hhe ⊢
      clear hwf
      have kf1 : wf.cell? ⟨w.heap.size, 0, none⟩ = some (.int .i64 (pl b (d :: l))) := (blk_cell hhe.1 0).trans rfl
      have kf2 : wf.cell? ⟨w.heap.size + 1, 0, none⟩ = some (.int .i64 20) := (blk_cell hhe.2 0).trans rfl
      have HFXN : Aside0 (ReadP w0 w S b r Y X (.returned (.tuple #[.int .i64 (pl b (d :: l)), .int .i64 20])) wf) := ⟨by
        rw [hr]
        exact ⟨hks.1, hks.2.1, hks.2.2.1, _, _, rfl, by unfold pl; rw [List.length_cons]; omega, rfl⟩⟩
      clear hks hhe
      simp [Leaves, settle, results, Try.results59, go_sem, kf1, kf2]
      exact HFXN.out
set_option maxHeartbeats 4000000 in
set_option maxRecDepth 100000 in
theorem read_req {α : Type} (cb db : Nat) (w0 w : World) (A : Option Addr) (c : Nat) (b : List Int) (S : Nat → Prop) (r : R α) (Y : World → Prop) (X : α → World → Prop) (hi : In w0 A c b) (hB : Below w0.heap.size w0 w)
    (hS : ∀ k, S k → k < w.heap.size) (hS0 : ∀ k, S k → w0.heap.size ≤ k) (hY : Stable w.heap.size Y) (hX : ∀ x, Stable w.heap.size (X x))
    (hf : ∀ w1, Below w.heap.size w w1 → w1.heap.size = w.heap.size + 1 + 1 + 1 → RS w0 w1 (w.heap.size + 1 + 1) A c b b → Calls Try.prog 82 #[.pointer (some ⟨w.heap.size + 1 + 1, 0, none⟩), .pointer (some ⟨cb, 0, none⟩), .pointer (some ⟨db, 0, none⟩)] w1 fun e w' => Fld w0 w1 (w.heap.size + 1 + 1) S A c b r Y X e w') :
    Calls Try.prog 59 #[.slice A b.length c, .func (Fn.func 82) #[] #[.pointer (some ⟨cb, 0, none⟩), .pointer (some ⟨db, 0, none⟩)]] w fun e w' => ReadP w0 w S b r Y X e w' := by
  have hmf : ∀ (fn : Fn) (first cap : Array Value) (w : World), (Instr.makeFunc fn first cap).run Try.prog w = .ok (.func fn first cap) w := fun _ _ _ _ => rfl
  obtain ⟨w1, hw1⟩ : ∃ w1, w1 = (((w.alloc (.cells #[.int .i64 0] 3 (0, 0))).alloc (.cells #[.int .i64 0] 30 (0, 0))).alloc (.cells #[.slice A b.length c, .int .i64 0] 141 (0, 0))) := ⟨_, rfl⟩
  have HW1 := Aside0.mk hw1
  have hb1 : Below w.heap.size w w1 := by rw [hw1]; exact ((al_below w _).alloc (by simp) _).alloc (by simp; omega) _
  have hs1 : w1.heap.size = w.heap.size + 1 + 1 + 1 := by rw [hw1]; simp
  have hP : w1.heap[w.heap.size]? = some (.cells #[.int .i64 0] 3 (0, 0)) := by
    rw [hw1, Below.heap_alloc _ _ _ (by simp; omega), Below.heap_alloc _ _ _ (by simp)]; exact heap_alloc_new w _
  have hE : w1.heap[w.heap.size + 1]? = some (.cells #[.int .i64 0] 30 (0, 0)) := by
    rw [hw1, Below.heap_alloc _ _ _ (by simp)]
    have := heap_alloc_new (w.alloc (.cells #[.int .i64 0] 3 (0, 0))) (.cells #[.int .i64 0] 30 (0, 0))
    simpa using this
  have hR : RS w0 w1 (w.heap.size + 1 + 1) A c b b := ⟨by
    have := heap_alloc_new ((w.alloc (.cells #[.int .i64 0] 3 (0, 0))).alloc (.cells #[.int .i64 0] 30 (0, 0))) (.cells #[.slice A b.length c, .int .i64 0] 141 (0, 0))
    rw [hw1]
    unfold pl
    rw [Int.sub_self]
    simpa using this, by have := hB.size; omega, hB.trans (hb1.mono hB.size), ⟨[], rfl⟩⟩
  have HC := Aside0.mk (hf w1 hb1 hs1 hR)
  have HBL := Aside0.mk (And.intro hP hE)
  have HB1 := Aside0.mk (And.intro hb1 hs1)
  have HST := Aside0.mk (And.intro hS (And.intro hS0 (And.intro hY hX)))
  have HSZ := Aside0.mk hB.size
  have HBB := Aside0.mk hB
  have HI := Aside0.mk hi
  clear hw1 hf hP hE hb1 hs1 hS hS0 hY hX hR hB hi
  go_enter_defers Try.func59, Try.ntmps59
  go_wp2_with fail
  rw [← HW1.out]
  rcases hr : r with k | ⟨x, l⟩
  · refine HC.out.mono ?_
    rintro e w2 ⟨hks, hbl, hy, hm⟩
    simp only [hr, pan] at hm
    subst hm
    have hnS : ∀ k, k = w.heap.size ∨ k = w.heap.size + 1 → ¬ (k = w.heap.size + 1 + 1 ∨ S k) := fun k hk h => by
      rcases h with h | h
      · omega
      · have := HST.out.1 k h; omega
    have hP2 := (hks.block w.heap.size (by rw [HB1.out.2]; omega) (hnS _ (.inl rfl))).trans HBL.out.1
    have hE2 := (hks.block (w.heap.size + 1) (by rw [HB1.out.2]; omega) (hnS _ (.inr rfl))).trans HBL.out.2
    have HK2 := Aside0.mk (And.intro hks (And.intro hbl hy))
    clear hks hbl hy hnS
    go_wp2_with fail
    have hne : w.heap.size ≠ w.heap.size + 1 := by omega
    have kp : w2.cell? ⟨w.heap.size, 0, none⟩ = some (.int .i64 0) := (blk_cell hP2 0).trans rfl
    have kpf := blk_frozen hP2 0
    have hE3 : ∀ v, (w2.setCell ⟨w.heap.size, 0, none⟩ v).heap[w.heap.size + 1]? = some (.cells #[.int .i64 0] 30 (0, 0)) := fun v => blk_far hE2 hne 0 v
    have ke := fun v => (blk_cell (hE3 v) 0).trans (rfl : _ = some (Value.int .i64 0))
    have kef := fun v => blk_frozen (hE3 v) 0
    refine leaves_cons (f := 96) (args := #[.pointer (some ⟨w.heap.size, 0, none⟩), .pointer (some ⟨w.heap.size + 1, 0, none⟩)]) (by simp) (by simp [go_sem]) ?_
    refine (catch_pan ⟨w.heap.size, 0, none⟩ ⟨w.heap.size + 1, 0, none⟩ 0 0 _ _ kp kpf (ke _) (kef _)).mono ?_
    rintro e u' w3 ⟨rfl, rfl, rfl⟩
    have hf1 := blk_far (blk_set hP2 0 (.int .i64 ((b.length : Int) - k))) (Ne.symm hne) 0 (.int .i64 20)
    have hf2 := blk_set (hE3 (.int .i64 ((b.length : Int) - k))) 0 (.int .i64 20)
    have hfin : ReadP w0 w S b r Y X (.returned (.tuple #[.int .i64 ((b.length : Int) - k), .int .i64 20])) ((w2.setCell ⟨w.heap.size, 0, none⟩ (.int .i64 ((b.length : Int) - k))).setCell ⟨w.heap.size + 1, 0, none⟩ (.int .i64 20)) := by
      rw [hr]
      refine ⟨?_, ?_, stable_set HST.out.2.2.1 (stable_set HST.out.2.2.1 HK2.out.2.2 _ (.inl rfl)) _ (.inr rfl), _, _, rfl, rfl, rfl⟩
      · refine Ks.set (Ks.set ⟨by have := HK2.out.1.size; have := HB1.out.2; omega, fun i hi hs => (HK2.out.1.block i (by rw [HB1.out.2]; omega) (fun h => h.elim (fun h => absurd h (by omega)) hs)).trans (HB1.out.1.block i hi)⟩ _ _ _ (.inr (Nat.le_refl _))) _ _ _ (.inr (by omega))
      · exact (HK2.out.2.1.setCell HSZ.out _).setCell (by have := HSZ.out; show _ ≤ w.heap.size + 1; omega) _
    have HFXN := Aside0.mk hfin
    clear hfin hP2 hE2 hE3 ke kef kp kpf
    obtain ⟨wf, hwf⟩ : ∃ wf, wf = (w2.setCell ⟨w.heap.size, 0, none⟩ (.int .i64 ((b.length : Int) - k))).setCell ⟨w.heap.size + 1, 0, none⟩ (.int .i64 20) := ⟨_, rfl⟩
    rw [← hwf] at hf1 hf2 HFXN ⊢
    clear hwf
    have kf1 : wf.cell? ⟨w.heap.size, 0, none⟩ = some (.int .i64 ((b.length : Int) - k)) := (blk_cell hf1 0).trans rfl
    have kf2 : wf.cell? ⟨w.heap.size + 1, 0, none⟩ = some (.int .i64 20) := (blk_cell hf2 0).trans rfl
    clear hf1 hf2
    simp [Leaves, settle, results, Try.results59, go_sem, kf1, kf2]
    exact HFXN.out
  · refine HC.out.mono ?_
    rintro e w2 ⟨hks, hbl, hy, hm⟩
    simp only [hr] at hm
    obtain ⟨rfl, hrs, hx⟩ := hm
    have hnS : ∀ k, k = w.heap.size ∨ k = w.heap.size + 1 → ¬ (k = w.heap.size + 1 + 1 ∨ S k) := fun k hk h => by
      rcases h with h | h
      · omega
      · have := HST.out.1 k h; omega
    have hP2 := (hks.block w.heap.size (by rw [HB1.out.2]; omega) (hnS _ (.inl rfl))).trans HBL.out.1
    have hE2 := (hks.block (w.heap.size + 1) (by rw [HB1.out.2]; omega) (hnS _ (.inr rfl))).trans HBL.out.2
    have kp : w2.cell? ⟨w.heap.size, 0, none⟩ = some (.int .i64 0) := (blk_cell hP2 0).trans rfl
    have kpf := blk_frozen hP2 0
    have ke : w2.cell? ⟨w.heap.size + 1, 0, none⟩ = some (.int .i64 0) := (blk_cell hE2 0).trans rfl
    have kef := blk_frozen hE2 0
    have kr : w2.cell? ⟨w.heap.size + 1 + 1, 1, none⟩ = some (.int .i64 (pl b l)) := (blk_cell hrs.blk 1).trans rfl
    have hne : w.heap.size ≠ w.heap.size + 1 := by omega
    have HK2 := Aside0.mk (And.intro hks (And.intro hbl (And.intro hy hx)))
    have HRS := Aside0.mk hrs
    have HKS : Aside0 (∀ u v, Ks S w ((w2.setCell ⟨w.heap.size, 0, none⟩ u).setCell ⟨w.heap.size + 1, 0, none⟩ v) ∧ Below w0.heap.size w0 ((w2.setCell ⟨w.heap.size, 0, none⟩ u).setCell ⟨w.heap.size + 1, 0, none⟩ v) ∧ Y ((w2.setCell ⟨w.heap.size, 0, none⟩ u).setCell ⟨w.heap.size + 1, 0, none⟩ v) ∧ X x ((w2.setCell ⟨w.heap.size, 0, none⟩ u).setCell ⟨w.heap.size + 1, 0, none⟩ v)) := ⟨fun u v => by
      refine ⟨?_, ?_, stable_set HST.out.2.2.1 (stable_set HST.out.2.2.1 hy _ (.inl rfl)) _ (.inr rfl), stable_set (HST.out.2.2.2 x) (stable_set (HST.out.2.2.2 x) hx _ (.inl rfl)) _ (.inr rfl)⟩
      · refine Ks.set (Ks.set ⟨by have := hks.size; have := HB1.out.2; omega, fun i hi hs => (hks.block i (by rw [HB1.out.2]; omega) (fun h => h.elim (fun h => absurd h (by omega)) hs)).trans (HB1.out.1.block i hi)⟩ _ _ _ (.inr (Nat.le_refl _))) _ _ _ (.inr (by omega))
      · exact (hbl.setCell HSZ.out _).setCell (by have := HSZ.out; show _ ≤ w.heap.size + 1; omega) _⟩
    have HHE : Aside0 (∀ u v, ((w2.setCell ⟨w.heap.size, 0, none⟩ u).setCell ⟨w.heap.size + 1, 0, none⟩ v).heap[w.heap.size]? = some (.cells #[u] 3 (0, 0)) ∧ ((w2.setCell ⟨w.heap.size, 0, none⟩ u).setCell ⟨w.heap.size + 1, 0, none⟩ v).heap[w.heap.size + 1]? = some (.cells #[v] 30 (0, 0))) := ⟨fun u v =>
      ⟨blk_far (blk_set hP2 0 u) (Ne.symm hne) 0 v, blk_set (blk_far hE2 hne 0 u) 0 v⟩⟩
    clear hks hbl hy hx hrs hnS hP2 hE2
    rcases l with _ | ⟨d, l⟩
    · have hpl : pl b [] = (b.length : Int) := by unfold pl; simp
      rw [hpl] at kr
      go_wp2_with fail
      refine leaves_cons (f := 96) (args := #[.pointer (some ⟨w.heap.size, 0, none⟩), .pointer (some ⟨w.heap.size + 1, 0, none⟩)]) (by simp) (by simp [go_sem]) ?_
      refine (catch_idle ⟨w.heap.size, 0, none⟩ ⟨w.heap.size + 1, 0, none⟩ _).mono ?_
      rintro e u' w3 ⟨rfl, rfl, rfl⟩
      have hks := HKS.out (.int .i64 (0)) (.int .i64 0)
      have hhe := HHE.out (.int .i64 (0)) (.int .i64 0)
      obtain ⟨wf, hwf⟩ : ∃ wf, wf = (w2.setCell ⟨w.heap.size, 0, none⟩ (.int .i64 (0))).setCell ⟨w.heap.size + 1, 0, none⟩ (.int .i64 0) := ⟨_, rfl⟩
      rw [← hwf] at hks hhe ⊢
      clear hwf
      have kf1 : wf.cell? ⟨w.heap.size, 0, none⟩ = some (.int .i64 (0)) := (blk_cell hhe.1 0).trans rfl
      have kf2 : wf.cell? ⟨w.heap.size + 1, 0, none⟩ = some (.int .i64 0) := (blk_cell hhe.2 0).trans rfl
      have HFXN : Aside0 (ReadP w0 w S b r Y X (.returned (.tuple #[.int .i64 (0), .int .i64 0])) wf) := ⟨by
        rw [hr]
        exact ⟨hks.1, hks.2.1, hks.2.2.1, _, _, rfl, rfl, rfl, hks.2.2.2⟩⟩
      clear hks hhe
      simp [Leaves, settle, results, Try.results59, go_sem, kf1, kf2]
      exact HFXN.out
    · have hpl : pl b (d :: l) < (b.length : Int) := by unfold pl; rw [List.length_cons]; omega
      go_wp2_with fail
      refine leaves_cons (f := 96) (args := #[.pointer (some ⟨w.heap.size, 0, none⟩), .pointer (some ⟨w.heap.size + 1, 0, none⟩)]) (by simp) (by simp [go_sem]) ?_
      refine (catch_idle ⟨w.heap.size, 0, none⟩ ⟨w.heap.size + 1, 0, none⟩ _).mono ?_
      rintro e u' w3 ⟨rfl, rfl, rfl⟩
      have hks := HKS.out (.int .i64 (pl b (d :: l))) (.int .i64 20)
      have hhe := HHE.out (.int .i64 (pl b (d :: l))) (.int .i64 20)
      obtain ⟨wf, hwf⟩ : ∃ wf, wf = (w2.setCell ⟨w.heap.size, 0, none⟩ (.int .i64 (pl b (d :: l)))).setCell ⟨w.heap.size + 1, 0, none⟩ (.int .i64 20) := ⟨_, rfl⟩
      rw [← hwf] at hks hhe ⊢
      clear hwf
      have kf1 : wf.cell? ⟨w.heap.size, 0, none⟩ = some (.int .i64 (pl b (d :: l))) := (blk_cell hhe.1 0).trans rfl
      have kf2 : wf.cell? ⟨w.heap.size + 1, 0, none⟩ = some (.int .i64 20) := (blk_cell hhe.2 0).trans rfl
      have HFXN : Aside0 (ReadP w0 w S b r Y X (.returned (.tuple #[.int .i64 (pl b (d :: l)), .int .i64 20])) wf) := ⟨by
        rw [hr]
        exact ⟨hks.1, hks.2.1, hks.2.2.1, _, _, rfl, by unfold pl; rw [List.length_cons]; omega, rfl⟩⟩
      clear hks hhe
      simp [Leaves, settle, results, Try.results59, go_sem, kf1, kf2]
      exact HFXN.out
end Go.Proofs.Ytpgdmmjbhjbbhaa.Rd
end
section
namespace Go.Proofs.Ytpgdmmjbhjbbhaa.Rd
open Go Go.RowKit Go.Proofs.Ytpgdmmjbhjbbhaa.P Go.Proofs.Ytpgdmmjbhjbbhaa.Sp Go.Proofs.Ytpgdmmjbhjbbhaa.Vd Go.Proofs.Ytpgdmmjbhjbbhaa.En Go.Proofs.Ytpgdmmjbhjbbhaa.Wr Go.Proofs.YtpgdmmjbhjbbhaaW.PrintWords Go.Proofs.YtpgdmmjbhjbbhaaW.PrintLast Go.Proofs.YtpgdmmjbhjbbhaaW.PrintMore
set_option linter.unusedVariables false
set_option linter.unusedSimpArgs false
/-- The variable of the result stands. -/
def YB (cb : Nat) (t : TypeId) (n : Nat) (w : World) : Prop := ∃ cs, w.heap[cb]? = some (.cells cs t (0, 0)) ∧ cs.size = n
/-- The message lies in its variable, its views in new memory. -/
def XM (n cb : Nat) (m : Msg) (w : World) : Prop := ∃ A1 c1, w.heap[cb]? = some (.cells (MVc m A1 c1) 33 (0, 0)) ∧ ((A1 = none ∧ c1 = 0 ∧ m.views = []) ∨ ∃ vb, A1 = some ⟨vb, 0, none⟩ ∧ c1 = m.views.length ∧ n ≤ vb ∧ w.heap[vb]? = some (.cells (rowV m.views).toArray 87 (0, 0)))
theorem stable_Y {n cb k : Nat} {t : TypeId} (h : cb ≠ n) (h2 : cb ≠ n + 1) : Stable n (YB cb t k) := fun w1 w2 ⟨cs, h3, h4⟩ hk _ => ⟨cs, (hk cb (blk_lt h3) h h2).trans h3, h4⟩
theorem stable_X {n cb : Nat} (h : cb < n) (m : Msg) : Stable n (XM (n + 1 + 1) cb m) := by
  rintro w1 w2 ⟨A1, c1, h3, h4⟩ hk hsz
  refine ⟨A1, c1, (hk cb (blk_lt h3) (by omega) (by omega)).trans h3, ?_⟩
  rcases h4 with h4 | ⟨vb, h5, h6, h7, h8⟩
  · exact .inl h4
  · exact .inr ⟨vb, h5, h6, h7, (hk vb (blk_lt h8) (by omega) (by omega)).trans h8⟩
theorem mv_one (m : Msg) (A : Option Addr) (c : Nat) : (MVc m A c).all (·.oneCell') = true := by simp [MVc, Value.oneCell']
theorem Ks.setRow {S : Nat → Prop} {a b : World} (h : Ks S a b) (g : Nat) (cs : Array Value) (hg : S g ∨ a.heap.size ≤ g) : Ks S a (b.setRow g cs) :=
  ⟨by rw [size_setRow]; exact h.size, fun k hk hs => (setRow_far (by
    rcases hg with hg | hg
    · intro e; exact hs (e ▸ hg)
    · omega) cs).trans (h.block k hk hs)⟩
set_option maxHeartbeats 4000000 in
set_option maxRecDepth 100000 in
theorem dec1_calls (w0 w1 : World) (g cb n : Nat) (A : Option Addr) (c : Nat) (b : List Int) (hi : In w0 A c b) (h : RS w0 w1 g A c b b) (hne : cb ≠ g) (hge : w0.heap.size ≤ cb) (hn : n ≤ w1.heap.size) (hy : YB cb 33 20 w1) :
    Calls Try.prog 60 #[.pointer (some ⟨g, 0, none⟩), .pointer (some ⟨cb, 0, none⟩)] w1 fun e w' => Fld w0 w1 g (fun k => k = cb) A c b (msgP b) (YB cb 33 20) (XM n cb) e w' := by
  have HI := Aside0.mk hi
  have HR := Aside0.mk h
  have HNE := Aside0.mk (And.intro hne (And.intro hge hn))
  obtain ⟨old, ho, hos⟩ := hy
  have HO := Aside0.mk (And.intro ho hos)
  clear hi h hne hge hn ho hos
  go_enter Try.func60, Try.ntmps60
  rcases hp : msgP b with k | ⟨m, l⟩
  · go_wp2_with (go_at_call 61; refine (msg_calls w0 _ g A c b b HI.out HR.out).mono ?_; rintro e w2 ⟨hk, hb, hm⟩; simp only [hp, pan] at hm; subst hm; have HK := Aside0.mk (And.intro hk hb); clear hk hb)
    refine ⟨rfl, ⟨HK.out.1.size, fun i hi hs => HK.out.1.block i hi (fun e => hs (.inl e))⟩, HK.out.2, ⟨old, kb_blk HK.out.1 HNE.out.1 HO.out.1, HO.out.2⟩, ?_⟩
    rfl
  · go_wp2_with (first | (refine wpList_store_row rfl 33 (.tmp 1) (.tmp 4) rfl cb (MVc m A1 c1) (by rfl) (by rfl) 33 _ HX.out inf33 HO.out.2 (mv_one m A1 c1) ?_) | (go_at_call 61; refine (msg_calls w0 _ g A c b b HI.out HR.out).mono ?_; rintro e w2 ⟨hk, hb, hm⟩; simp only [hp] at hm; obtain ⟨⟨A1, c1, rfl, hnv⟩, hs1⟩ := hm; have HX := Aside0.mk (kb_blk hk HNE.out.1 HO.out.1); have HK := Aside0.mk (And.intro hk (And.intro hb (And.intro hs1 hnv))); clear hk hb hs1 hnv))
    (first | go_end0 | ((try simp only [Exit.inBlock, Exit.then]); refine bodyPost_ret (results_none rfl _ _ _) rfl ?_))
    have hcl := blk_lt HO.out.1
    refine ⟨Ks.setRow ⟨HK.out.1.size, fun i hi hs => HK.out.1.block i hi (fun e => hs (.inl e))⟩ cb _ (.inl (.inr rfl)), below_setRow HK.out.2.1 HNE.out.2.1 _, ⟨_, setRow_blk HX.out _, rfl⟩, rfl, HK.out.2.2.1.setRowOther HNE.out.1 HNE.out.2.1 _, A1, c1, setRow_blk HX.out _, ?_⟩
    rcases HK.out.2.2.2 with h4 | ⟨vb, h5, h6, h7, h8⟩
    · exact .inl h4
    · exact .inr ⟨vb, h5, h6, Nat.le_trans HNE.out.2.2 h7, (setRow_far (by omega) _).trans h8⟩
theorem results_cell_two {P : Program} {fn : Func} {p q r : Tmp} {ty : TypeId} (h : fn.results = #[.cell p ty, .tmp q, .tmp r]) (tmps : Array Value) (w : World) (g : Nat) (t : TypeId) (cs : Array Value) (fr : Nat × Nat) (d : TypeDesc)
    (hp : tmps.getD p undef = .pointer (some ⟨g, 0, none⟩)) (hg : w.heap[g]? = some (.cells cs t fr))
    (hu : P.underlying ty = some d) (hd : (match d with | .struct _ | .array _ _ => true | _ => false) = true) (hi : (P.info? ty).map (·.size) = some cs.size) :
    (results fn tmps).run P w = .ok (.tuple #[.agg cs, tmps.getD q undef, tmps.getD r undef]) w := by
  have hp' : tmps[p]?.getD undef = .pointer (some ⟨g, 0, none⟩) := by simpa using hp
  simp [results, h, hp', asAddr, run_loadVar_row w g t ty cs fr d hg hu hd hi]
/-- The zero message's cells. -/
theorem mv_zero : MVc zMsg none 0 = #[.int .i64 0, .string ⟨#[]⟩, .int .i64 0, .int .i64 0, .int .i64 0, .int .i64 0, .int .i64 0, .int .i64 0, .int .i64 0, .int .i64 0, .int .i64 0, .int .i64 0, .int .i64 0, .int .i64 0, .string ⟨#[]⟩, .int .i64 0, .int .i64 0, .int .i64 0, .int .i64 0, .slice none 0 0] := rfl
theorem build_zero (a : Act) (W : World) {o : Oper} (ho : o.op = .build 33 #[]) : (execOp a.eval o).run Try.prog W = .ok (.value (.agg (MVc zMsg none 0))) W := by
  unfold execOp
  rw [ho]
  have hu33 := Try.underlying33
  have h : (Instr.build 33 #[]).run Try.prog W = .ok (.agg (MVc zMsg none 0)) W := by kernel_rfl
  simp [h]
/-- What Decode answers: the message, its views in new memory, the place, the error. -/
def DecP (w : World) (x : Msg × Int × Int) (e : Ending) (w' : World) : Prop :=
  Below w.heap.size w w' ∧ ∃ A1 c1, e = .returned (.tuple #[MV x.1 A1 c1, .int .i64 x.2.1, .int .i64 x.2.2]) ∧ NewV w w' A1 c1 x.1.views
set_option maxHeartbeats 4000000 in
set_option maxRecDepth 100000 in
theorem decode_calls (w : World) (A : Option Addr) (c : Nat) (b : List Int) (hi : In w A c b) :
    Calls Try.prog 18 #[.slice A b.length c] w fun e w' => DecP w (whole zMsg msgP b) e w' := by
  have hmf : ∀ (fn : Fn) (first cap : Array Value) (w : World), (Instr.makeFunc fn first cap).run Try.prog w = .ok (.func fn first cap) w := fun _ _ _ _ => rfl
  obtain ⟨wa, hwa⟩ : ∃ wa, wa = w.alloc (.cells (MVc zMsg none 0) 33 (0, 0)) := ⟨_, rfl⟩
  have HWA := Aside0.mk hwa
  have HB : Aside0 (Below w.heap.size w wa ∧ wa.heap.size = w.heap.size + 1 ∧ wa.heap[w.heap.size]? = some (.cells (MVc zMsg none 0) 33 (0, 0))) := ⟨by rw [hwa]; exact ⟨al_below w _, by simp, heap_alloc_new w _⟩⟩
  have HRD : Aside0 (Calls Try.prog 59 #[.slice A b.length c, .func (Fn.func 60) #[] #[.pointer (some ⟨w.heap.size, 0, none⟩)]] wa fun e w' => ReadP w wa (fun k => k = w.heap.size) b (msgP b) (YB w.heap.size 33 20) (XM (wa.heap.size + 1 + 1) w.heap.size) e w') := ⟨by
    have hsz := HB.out.2.1
    refine read_msg w.heap.size w wa A c b _ (msgP b) _ _ hi HB.out.1 (fun k hk => by omega) (fun k hk => by omega) (stable_Y (by omega) (by omega)) (fun m => stable_X (by omega) m) ?_
    intro w1 hb1 hs1 hr1
    exact dec1_calls w w1 _ w.heap.size _ A c b hi hr1 (by omega) (Nat.le_refl _) (by omega) ⟨_, blk_keep hb1 HB.out.2.2, rfl⟩⟩
  have hu33 := Try.underlying33
  clear hwa hi
  rw [mv_zero] at HWA
  go_enter Try.func18, Try.ntmps18
  go_upto_region 1 with fail
  rw [← HWA.out]
  go_upto_region 2 with (go_at_call 59; refine HRD.out.mono ?_; rintro e w2 ⟨hks, hbl, hy, pt, er, rfl, hm⟩; have HK := Aside0.mk (And.intro hks (And.intro hbl (And.intro hy hm))); clear hks hbl hy hm)
  rcases hp : msgP b with k | ⟨m, l⟩
  · have HW : Aside0 (whole zMsg msgP b = (zMsg, (b.length : Int) - k, 20)) := ⟨by unfold whole; rw [hp]⟩
    rw [hp] at HK
    obtain ⟨old, ho, hos⟩ := HK.out.2.2.1
    (try obtain ⟨rfl, rfl⟩ := HK.out.2.2.2)
    have HC := Aside0.mk (And.intro ho hos)
    have HB3 := Aside0.mk (setRow_blk ho (MVc zMsg none 0))
    clear ho hos
    go_wp2_with (first | ((with_reducible refine gate_dst (N := 13) rfl ?_); refine Kd.event_run (v := .agg (MVc zMsg none 0)) (w1 := w2) rfl (build_zero _ _ rfl) ?_; go_loud (refine wpList_store_row rfl 33 (.tmp 2) (.tmp 13) rfl w.heap.size (MVc zMsg none 0) (by rfl) (by rfl) 33 _ HC.out.1 inf33 HC.out.2 (mv_one _ _ _) ?_)) | ((with_reducible refine gate_dst (N := 14) rfl ?_); refine wpList_load_row rfl 33 (.tmp 2) rfl w.heap.size (by rfl) 33 (MVc zMsg none 0) (0, 0) _ HB3.out Try.underlying33 rfl inf33 ?_; refine Kd.event_run (v := .int .i64 ((b.length : Int) - k)) rfl (by rfl) ?_; refine Kd.event_run (v := .int .i64 (20)) rfl (by rfl) ?_; go_loud (refine wpList_store_row rfl 33 (.tmp 2) (.tmp 14) rfl w.heap.size (MVc zMsg none 0) (by rfl) (by rfl) 33 _ HB3.out inf33 rfl (mv_one _ _ _) ?_)))
    have HB4 := setRow_blk HB3.out (MVc zMsg none 0)
    (try simp only [Exit.inBlock, Exit.then])
    refine bodyPost_ret (v := .tuple #[.agg (MVc zMsg none 0), .int .i64 ((b.length : Int) - k), .int .i64 20]) ?_ rfl ?_
    · exact results_cell_two (fn := Try.f18) (p := 2) (q := 3) (r := 4) rfl _ _ w.heap.size 33 _ (0, 0) _ (by rfl) HB4 hu33 rfl inf33
    refine ⟨below_setRow (below_setRow HK.out.2.1 (Nat.le_refl _) _) (Nat.le_refl _) _, none, 0, ?_, .inl ⟨?_, ?_, ?_⟩⟩ <;> first | rfl | (rw [HW.out]; rfl)
  · rcases l with _ | ⟨d, l⟩
    · have HW : Aside0 (whole zMsg msgP b = (m, 0, 0)) := ⟨by unfold whole; rw [hp]⟩
      rw [hp] at HK
      obtain ⟨hpt, her, A1, c1, hbk, hnv⟩ := HK.out.2.2.2
      subst hpt her
      have HC := Aside0.mk hbk
      have HNV := Aside0.mk hnv
      clear hbk hnv
      go_wp2_with ((with_reducible refine gate_dst (N := 14) rfl ?_); refine wpList_load_row rfl 33 (.tmp 2) rfl w.heap.size (by rfl) 33 (MVc m A1 c1) (0, 0) _ HC.out Try.underlying33 rfl inf33 ?_; refine Kd.event_run (v := .int .i64 (0)) rfl (by rfl) ?_; refine Kd.event_run (v := .int .i64 (0)) rfl (by rfl) ?_; go_loud (refine wpList_store_row rfl 33 (.tmp 2) (.tmp 14) rfl w.heap.size (MVc m A1 c1) (by rfl) (by rfl) 33 _ HC.out inf33 rfl (mv_one _ _ _) ?_))
      have HB4 := setRow_blk HC.out (MVc m A1 c1)
      (try simp only [Exit.inBlock, Exit.then])
      refine bodyPost_ret (v := .tuple #[.agg (MVc m A1 c1), .int .i64 0, .int .i64 0]) ?_ rfl ?_
      · exact results_cell_two (fn := Try.f18) (p := 2) (q := 3) (r := 4) rfl _ _ w.heap.size 33 _ (0, 0) _ (by rfl) HB4 hu33 rfl inf33
      refine ⟨below_setRow HK.out.2.1 (Nat.le_refl _) _, A1, c1, by rw [HW.out]; rfl, ?_⟩
      rw [HW.out]
      rcases HNV.out with h4 | ⟨vb, h5, h6, h7, h8⟩
      · exact .inl h4
      · exact .inr ⟨vb, h5, h6, by have := HB.out.2.1; omega, (setRow_far (by have := HB.out.2.1; omega) _).trans h8⟩
    · have HW : Aside0 (whole zMsg msgP b = (zMsg, (b.length : Int) - (l.length + 1), 20)) := ⟨by unfold whole; rw [hp]⟩
      rw [hp] at HK
      obtain ⟨old, ho, hos⟩ := HK.out.2.2.1
      (try obtain ⟨rfl, rfl⟩ := HK.out.2.2.2)
      have HC := Aside0.mk (And.intro ho hos)
      have HB3 := Aside0.mk (setRow_blk ho (MVc zMsg none 0))
      clear ho hos
      go_wp2_with (first | ((with_reducible refine gate_dst (N := 13) rfl ?_); refine Kd.event_run (v := .agg (MVc zMsg none 0)) (w1 := w2) rfl (build_zero _ _ rfl) ?_; go_loud (refine wpList_store_row rfl 33 (.tmp 2) (.tmp 13) rfl w.heap.size (MVc zMsg none 0) (by rfl) (by rfl) 33 _ HC.out.1 inf33 HC.out.2 (mv_one _ _ _) ?_)) | ((with_reducible refine gate_dst (N := 14) rfl ?_); refine wpList_load_row rfl 33 (.tmp 2) rfl w.heap.size (by rfl) 33 (MVc zMsg none 0) (0, 0) _ HB3.out Try.underlying33 rfl inf33 ?_; refine Kd.event_run (v := .int .i64 ((b.length : Int) - (l.length + 1))) rfl (by rfl) ?_; refine Kd.event_run (v := .int .i64 (20)) rfl (by rfl) ?_; go_loud (refine wpList_store_row rfl 33 (.tmp 2) (.tmp 14) rfl w.heap.size (MVc zMsg none 0) (by rfl) (by rfl) 33 _ HB3.out inf33 rfl (mv_one _ _ _) ?_)))
      have HB4 := setRow_blk HB3.out (MVc zMsg none 0)
      (try simp only [Exit.inBlock, Exit.then])
      refine bodyPost_ret (v := .tuple #[.agg (MVc zMsg none 0), .int .i64 ((b.length : Int) - (l.length + 1)), .int .i64 20]) ?_ rfl ?_
      · exact results_cell_two (fn := Try.f18) (p := 2) (q := 3) (r := 4) rfl _ _ w.heap.size 33 _ (0, 0) _ (by rfl) HB4 hu33 rfl inf33
      refine ⟨below_setRow (below_setRow HK.out.2.1 (Nat.le_refl _) _) (Nat.le_refl _) _, none, 0, ?_, .inl ⟨?_, ?_, ?_⟩⟩ <;> first | rfl | (rw [HW.out]; rfl)
end Go.Proofs.Ytpgdmmjbhjbbhaa.Rd
end
section
namespace Go.Proofs.Ytpgdmmjbhjbbhaa.Rd
open Go Go.RowKit Go.Proofs.Ytpgdmmjbhjbbhaa.P Go.Proofs.Ytpgdmmjbhjbbhaa.Sp Go.Proofs.Ytpgdmmjbhjbbhaa.Vd Go.Proofs.Ytpgdmmjbhjbbhaa.En Go.Proofs.Ytpgdmmjbhjbbhaa.Wr Go.Proofs.YtpgdmmjbhjbbhaaW.PrintWords Go.Proofs.YtpgdmmjbhjbbhaaW.PrintLast Go.Proofs.YtpgdmmjbhjbbhaaW.PrintMore
set_option linter.unusedVariables false
set_option linter.unusedSimpArgs false
end Go.Proofs.Ytpgdmmjbhjbbhaa.Rd
end
section
namespace Go.Proofs.Ytpgdmmjbhjbbhaa.Rd
open Go Go.RowKit Go.Proofs.Ytpgdmmjbhjbbhaa.P Go.Proofs.Ytpgdmmjbhjbbhaa.Sp Go.Proofs.Ytpgdmmjbhjbbhaa.Vd Go.Proofs.Ytpgdmmjbhjbbhaa.En Go.Proofs.Ytpgdmmjbhjbbhaa.Wr Go.Proofs.YtpgdmmjbhjbbhaaW.PrintWords Go.Proofs.YtpgdmmjbhjbbhaaW.PrintLast Go.Proofs.YtpgdmmjbhjbbhaaW.PrintMore
set_option linter.unusedVariables false
set_option linter.unusedSimpArgs false
def CVc (x : S25) : Array Value := #[.int .i64 x.f0, .int .i64 x.f1]
def OVc (o : Sp.Op) : Array Value := #[.int .i64 o.kind, .string o.name, .int .i64 o.a, .int .i64 o.b]
/-- The two variables stand. -/
def YQ (cb db : Nat) (w : World) : Prop := ∃ (x : S25) (o : Sp.Op), w.heap[cb]? = some (.cells (CVc x) 27 (0, 0)) ∧ w.heap[db]? = some (.cells (OVc o) 29 (0, 0))
def XQ (cb db : Nat) (y : S25 × Sp.Op) (w : World) : Prop := w.heap[cb]? = some (.cells (CVc y.1) 27 (0, 0)) ∧ w.heap[db]? = some (.cells (OVc y.2) 29 (0, 0))
theorem stable_XQ {n cb db : Nat} (h : cb < n) (h2 : db < n) (y : S25 × Sp.Op) : Stable n (XQ cb db y) := fun w1 w2 h3 hk _ => ⟨(hk cb (blk_lt h3.1) (by omega) (by omega)).trans h3.1, (hk db (blk_lt h3.2) (by omega) (by omega)).trans h3.2⟩
theorem stable_YQ {n cb db : Nat} (h : cb < n) (h2 : db < n) : Stable n (YQ cb db) := fun w1 w2 ⟨x, o, h3, h4⟩ hk hs => ⟨x, o, stable_XQ h h2 (x, o) w1 w2 ⟨h3, h4⟩ hk hs⟩
set_option maxHeartbeats 4000000 in
set_option maxRecDepth 100000 in
theorem req1_calls (w0 w1 : World) (g cb db : Nat) (A : Option Addr) (c : Nat) (b : List Int) (hi : In w0 A c b) (h : RS w0 w1 g A c b b) (hne : cb ≠ g ∧ db ≠ g ∧ cb ≠ db) (hge : w0.heap.size ≤ cb ∧ w0.heap.size ≤ db) (hy : w1.heap[cb]? = some (.cells (CVc z25) 27 (0, 0))) (hz : w1.heap[db]? = some (.cells (OVc zOp) 29 (0, 0))) :
    Calls Try.prog 82 #[.pointer (some ⟨g, 0, none⟩), .pointer (some ⟨cb, 0, none⟩), .pointer (some ⟨db, 0, none⟩)] w1 fun e w' => Fld w0 w1 g (fun k => k = cb ∨ k = db) A c b (reqP b) (YQ cb db) (XQ cb db) e w' := by
  have HI := Aside0.mk hi
  have HNE := Aside0.mk (And.intro hne hge)
  have H0 : Aside0 (RS w0 w1 g A c b b ∧ w1.heap[cb]? = some (.cells (CVc z25) 27 (0, 0)) ∧ w1.heap[db]? = some (.cells (OVc zOp) 29 (0, 0))) := ⟨h, hy, hz⟩
  have HP : Aside0 (reqP b = (bnd (pairP 0 63 1 1099511627776) fun x => bnd opP fun o => ret (x, o)) b) := ⟨rfl⟩
  have hu29 := Try.underlying29
  have hu27 := Try.underlying27
  clear hi h hne hge hy hz
  go_enter Try.func82, Try.ntmps82
  rcases h0 : pairP 0 63 1 1099511627776 b with n0 | ⟨x, l1⟩
  · have HQ : Aside0 (reqP b = .bad n0) := ⟨by rw [HP.out, bnd_bad h0]⟩
    go_wp2_with (go_at_call 83; refine (call_calls w0 _ g A c b b HI.out H0.out.1).mono ?_; rintro e w2 ⟨hk, hb, hm⟩; simp only [h0, pan] at hm; subst hm; have HE := Aside0.mk (And.intro hk hb); clear hk hb)
    refine ⟨rfl, ⟨HE.out.1.size, fun i hi hs => HE.out.1.block i hi (fun e => hs (.inl e))⟩, HE.out.2, ⟨_, _, kb_blk HE.out.1 HNE.out.1.1 H0.out.2.1, kb_blk HE.out.1 HNE.out.1.2.1 H0.out.2.2⟩, ?_⟩
    rw [HQ.out]
    rfl
  · go_upto_region 1 with (go_at_call 83; refine (call_calls w0 _ g A c b b HI.out H0.out.1).mono ?_; rintro e w2 ⟨hk, hb, hm⟩; simp only [h0] at hm; obtain ⟨rfl, hs1⟩ := hm; have HX := Aside0.mk (kb_blk hk HNE.out.1.1 H0.out.2.1); have HY := Aside0.mk (kb_blk hk HNE.out.1.2.1 H0.out.2.2); have HK := Aside0.mk (And.intro hk hs1); clear hk hb hs1; have kc0 : w2.cell? ⟨cb, 0, none⟩ = some (.int .i64 0) := (blk_cell HX.out 0).trans rfl; have kc1 : w2.cell? ⟨cb, 1, none⟩ = some (.int .i64 0) := (blk_cell HX.out 1).trans rfl; have kf0 := blk_frozen HX.out 0; have kf1 := blk_frozen HX.out 1)
    obtain ⟨w3, hw3⟩ : ∃ w3, w3 = (w2.setCell ⟨cb, 0, none⟩ (.int .i64 x.f0)).setCell ⟨cb, 1, none⟩ (.int .i64 x.f1) := ⟨_, rfl⟩
    have hbk := blk_set (blk_set HX.out 0 (.int .i64 x.f0)) 1 (.int .i64 x.f1)
    have hby := blk_far (blk_far HY.out HNE.out.1.2.2 0 (.int .i64 x.f0)) HNE.out.1.2.2 1 (.int .i64 x.f1)
    have H1 : Aside0 (Ks (fun k => k = g ∨ k = cb ∨ k = db) w1 w3 ∧ RS w0 w3 g A c b l1 ∧ w3.heap[cb]? = some (.cells (CVc x) 27 (0, 0)) ∧ w3.heap[db]? = some (.cells (OVc zOp) 29 (0, 0))) := ⟨by
      rw [hw3]
      exact ⟨Ks.set (Ks.set ⟨HK.out.1.size, fun i hi hs => HK.out.1.block i hi (fun e => hs (.inl e))⟩ _ _ _ (.inl (.inr (.inl rfl)))) _ _ _ (.inl (.inr (.inl rfl))), (HK.out.2.setOther HNE.out.1.1 HNE.out.2.1 0 _).setOther HNE.out.1.1 HNE.out.2.1 1 _, hbk, hby⟩⟩
    rw [← hw3]
    clear hw3 hbk hby HX HY HK kc0 kc1 kf0 kf1
    rcases h1 : opP l1 with n0 | ⟨o, l2⟩
    · have HQ : Aside0 (reqP b = .bad n0) := ⟨by rw [HP.out, bnd_ok h0, bnd_bad h1]⟩
      go_wp2_with (go_at_call 84; refine (op_calls w0 _ g A c b l1 HI.out H1.out.2.1).mono ?_; rintro e w4 ⟨hk, hb, hm⟩; simp only [h1, pan] at hm; subst hm; have HE := Aside0.mk (And.intro hk hb); clear hk hb)
      refine ⟨rfl, H1.out.1.trans ⟨HE.out.1.size, fun i hi hs => HE.out.1.block i hi (fun e => hs (.inl e))⟩, HE.out.2, ⟨_, _, kb_blk HE.out.1 HNE.out.1.1 H1.out.2.2.1, kb_blk HE.out.1 HNE.out.1.2.1 H1.out.2.2.2⟩, ?_⟩
      rw [HQ.out]
      rfl
    · have HQ : Aside0 (reqP b = .ok (x, o) l2) := ⟨by rw [HP.out, bnd_ok h0, bnd_ok h1]; rfl⟩
      go_wp2_with (go_at_call 84; refine (op_calls w0 _ g A c b l1 HI.out H1.out.2.1).mono ?_; rintro e w4 ⟨hk, hb, hm⟩; simp only [h1] at hm; obtain ⟨rfl, hs1⟩ := hm; have HX := Aside0.mk (kb_blk hk HNE.out.1.1 H1.out.2.2.1); have HY := Aside0.mk (kb_blk hk HNE.out.1.2.1 H1.out.2.2.2); have HK := Aside0.mk (And.intro hk hs1); clear hk hb hs1; have kc0 : w4.cell? ⟨db, 0, none⟩ = some (.int .i64 0) := (blk_cell HY.out 0).trans rfl; have kc1 : w4.cell? ⟨db, 1, none⟩ = some (.string eB) := (blk_cell HY.out 1).trans rfl; have kc2 : w4.cell? ⟨db, 2, none⟩ = some (.int .i64 0) := (blk_cell HY.out 2).trans rfl; have kc3 : w4.cell? ⟨db, 3, none⟩ = some (.int .i64 0) := (blk_cell HY.out 3).trans rfl; have kf0 := blk_frozen HY.out 0; have kf1 := blk_frozen HY.out 1; have kf2 := blk_frozen HY.out 2; have kf3 := blk_frozen HY.out 3)
      (first | go_end0 | ((try simp only [Exit.inBlock, Exit.then]); refine bodyPost_ret (results_none rfl _ _ _) rfl ?_))
      have hbk := blk_set (blk_set (blk_set (blk_set HY.out 0 (.int .i64 o.kind)) 1 (.string o.name)) 2 (.int .i64 o.a)) 3 (.int .i64 o.b)
      have hbx := blk_far (blk_far (blk_far (blk_far HX.out (Ne.symm HNE.out.1.2.2) 0 (.int .i64 o.kind)) (Ne.symm HNE.out.1.2.2) 1 (.string o.name)) (Ne.symm HNE.out.1.2.2) 2 (.int .i64 o.a)) (Ne.symm HNE.out.1.2.2) 3 (.int .i64 o.b)
      have hrs := (((HK.out.2.setOther HNE.out.1.2.1 HNE.out.2.2 0 (.int .i64 o.kind)).setOther HNE.out.1.2.1 HNE.out.2.2 1 (.string o.name)).setOther HNE.out.1.2.1 HNE.out.2.2 2 (.int .i64 o.a)).setOther HNE.out.1.2.1 HNE.out.2.2 3 (.int .i64 o.b)
      refine ⟨H1.out.1.trans (Ks.set (Ks.set (Ks.set (Ks.set ⟨HK.out.1.size, fun i hi hs => HK.out.1.block i hi (fun e => hs (.inl e))⟩ _ _ _ (.inl (.inr (.inr rfl)))) _ _ _ (.inl (.inr (.inr rfl)))) _ _ _ (.inl (.inr (.inr rfl)))) _ _ _ (.inl (.inr (.inr rfl)))), hrs.bel, ⟨x, o, hbx, hbk⟩, ?_⟩
      rw [HQ.out]
      exact ⟨rfl, hrs, hbx, hbk⟩
theorem results_two_two {P : Program} {fn : Func} {p p2 q r : Tmp} {ty ty2 : TypeId} (h : fn.results = #[.cell p ty, .cell p2 ty2, .tmp q, .tmp r]) (tmps : Array Value) (w : World) (g g2 : Nat) (t t2 : TypeId) (cs cs2 : Array Value) (fr fr2 : Nat × Nat) (d d2 : TypeDesc)
    (hp : tmps.getD p undef = .pointer (some ⟨g, 0, none⟩)) (hg : w.heap[g]? = some (.cells cs t fr))
    (hu : P.underlying ty = some d) (hd : (match d with | .struct _ | .array _ _ => true | _ => false) = true) (hi : (P.info? ty).map (·.size) = some cs.size)
    (hp2 : tmps.getD p2 undef = .pointer (some ⟨g2, 0, none⟩)) (hg2 : w.heap[g2]? = some (.cells cs2 t2 fr2))
    (hu2 : P.underlying ty2 = some d2) (hd2 : (match d2 with | .struct _ | .array _ _ => true | _ => false) = true) (hi2 : (P.info? ty2).map (·.size) = some cs2.size) :
    (results fn tmps).run P w = .ok (.tuple #[.agg cs, .agg cs2, tmps.getD q undef, tmps.getD r undef]) w := by
  have hp' : tmps[p]?.getD undef = .pointer (some ⟨g, 0, none⟩) := by simpa using hp
  have hp2' : tmps[p2]?.getD undef = .pointer (some ⟨g2, 0, none⟩) := by simpa using hp2
  simp [results, h, hp', hp2', asAddr, run_loadVar_row w g t ty cs fr d hg hu hd hi, run_loadVar_row w g2 t2 ty2 cs2 fr2 d2 hg2 hu2 hd2 hi2]
theorem blk_as {w : World} {g : Nat} {t : TypeId} {cs cs2 : Array Value} (h : w.heap[g]? = some (.cells cs t (0, 0))) (e : cs = cs2) : w.drew.heap[g]? = some (.cells cs2 t (0, 0)) := e ▸ h
/-- What DecodeRequest answers. -/
def DecQP (w : World) (y : (S25 × Sp.Op) × Int × Int) (e : Ending) (w' : World) : Prop :=
  Below w.heap.size w w' ∧ e = .returned (.tuple #[.agg (CVc y.1.1), .agg (OVc y.1.2), .int .i64 y.2.1, .int .i64 y.2.2])
set_option maxHeartbeats 4000000 in
set_option maxRecDepth 100000 in
theorem decreq_calls (w : World) (A : Option Addr) (c : Nat) (b : List Int) (hi : In w A c b) :
    Calls Try.prog 33 #[.slice A b.length c] w fun e w' => DecQP w (whole (z25, zOp) reqP b) e w' := by
  have hmf : ∀ (fn : Fn) (first cap : Array Value) (w : World), (Instr.makeFunc fn first cap).run Try.prog w = .ok (.func fn first cap) w := fun _ _ _ _ => rfl
  obtain ⟨wa, hwa⟩ : ∃ wa, wa = (w.alloc (.cells #[.int .i64 0, .int .i64 0] 27 (0, 0))).alloc (.cells #[.int .i64 0, .string ⟨#[]⟩, .int .i64 0, .int .i64 0] 29 (0, 0)) := ⟨_, rfl⟩
  have HWA := Aside0.mk hwa
  have HB : Aside0 (Below w.heap.size w wa ∧ wa.heap.size = w.heap.size + 1 + 1 ∧ wa.heap[w.heap.size]? = some (.cells (CVc z25) 27 (0, 0)) ∧ wa.heap[w.heap.size + 1]? = some (.cells (OVc zOp) 29 (0, 0))) := ⟨by
    rw [hwa]
    refine ⟨below_al2 w _ _, by simp, (Below.heap_alloc _ _ _ (by simp)).trans (heap_alloc_new w _), ?_⟩
    have := heap_alloc_new (w.alloc (.cells #[.int .i64 0, .int .i64 0] 27 (0, 0))) (.cells #[.int .i64 0, .string ⟨#[]⟩, .int .i64 0, .int .i64 0] 29 (0, 0))
    simpa [OVc, zOp, eB] using this⟩
  have HRD : Aside0 (Calls Try.prog 59 #[.slice A b.length c, .func (Fn.func 82) #[] #[.pointer (some ⟨w.heap.size, 0, none⟩), .pointer (some ⟨w.heap.size + 1, 0, none⟩)]] wa fun e w' => ReadP w wa (fun k => k = w.heap.size ∨ k = w.heap.size + 1) b (reqP b) (YQ w.heap.size (w.heap.size + 1)) (XQ w.heap.size (w.heap.size + 1)) e w') := ⟨by
    have hsz := HB.out.2.1
    refine read_req w.heap.size (w.heap.size + 1) w wa A c b _ (reqP b) _ _ hi HB.out.1 (fun k hk => by omega) (fun k hk => by omega) (stable_YQ (by omega) (by omega)) (fun m => stable_XQ (by omega) (by omega) m) ?_
    intro w1 hb1 hs1 hr1
    exact req1_calls w w1 _ w.heap.size (w.heap.size + 1) A c b hi hr1 ⟨by omega, by omega, by omega⟩ ⟨by omega, by omega⟩ (blk_keep hb1 HB.out.2.2.1) (blk_keep hb1 HB.out.2.2.2)⟩
  have hu29 := Try.underlying29
  have hu27 := Try.underlying27
  have hne : w.heap.size ≠ w.heap.size + 1 := by omega
  clear hwa hi
  go_enter Try.func33, Try.ntmps33
  go_upto_region 1 with fail
  rw [← HWA.out]
  go_upto_region 2 with (go_at_call 59; refine HRD.out.mono ?_; rintro e w2 ⟨hks, hbl, hy, pt, er, rfl, hm⟩; have HK := Aside0.mk (And.intro hks (And.intro hbl (And.intro hy hm))); clear hks hbl hy hm)
  rcases hp : reqP b with k | ⟨⟨x, o⟩, l⟩
  · have HW : Aside0 (whole (z25, zOp) reqP b = ((z25, zOp), (b.length : Int) - k, 20)) := ⟨by unfold whole; rw [hp]⟩
    rw [hp] at HK
    (try obtain ⟨rfl, rfl⟩ := HK.out.2.2.2)
    obtain ⟨x, o, hx, ho⟩ := HK.out.2.2.1
    have HX := Aside0.mk (And.intro hx ho)
    clear hx ho
    have kc0 : w2.cell? ⟨w.heap.size, 0, none⟩ = some (.int .i64 x.f0) := (blk_cell HX.out.1 0).trans rfl
    have kc1 : w2.cell? ⟨w.heap.size, 1, none⟩ = some (.int .i64 x.f1) := (blk_cell HX.out.1 1).trans rfl
    have kf0 := blk_frozen HX.out.1 0
    have kf1 := blk_frozen HX.out.1 1
    have ko0 : w2.cell? ⟨w.heap.size + 1, 0, none⟩ = some (.int .i64 o.kind) := (blk_cell HX.out.2 0).trans rfl
    have ko1 : w2.cell? ⟨w.heap.size + 1, 1, none⟩ = some (.string o.name) := (blk_cell HX.out.2 1).trans rfl
    have ko2 : w2.cell? ⟨w.heap.size + 1, 2, none⟩ = some (.int .i64 o.a) := (blk_cell HX.out.2 2).trans rfl
    have ko3 : w2.cell? ⟨w.heap.size + 1, 3, none⟩ = some (.int .i64 o.b) := (blk_cell HX.out.2 3).trans rfl
    have kg0 := blk_frozen HX.out.2 0
    have kg1 := blk_frozen HX.out.2 1
    have kg2 := blk_frozen HX.out.2 2
    have kg3 := blk_frozen HX.out.2 3
    go_upto_region 4 with fail
    obtain ⟨w3, hw3⟩ : ∃ w3, w3 = (((((w2.setCell ⟨w.heap.size, 0, none⟩ (.int .i64 0)).setCell ⟨w.heap.size, 1, none⟩ (.int .i64 0)).setCell ⟨w.heap.size + 1, 0, none⟩ (.int .i64 0)).setCell ⟨w.heap.size + 1, 1, none⟩ (.string ⟨#[]⟩)).setCell ⟨w.heap.size + 1, 2, none⟩ (.int .i64 0)).setCell ⟨w.heap.size + 1, 3, none⟩ (.int .i64 0) := ⟨_, rfl⟩
    have hq1 := blk_far (g := w.heap.size + 1) (blk_far (g := w.heap.size + 1) (blk_far (g := w.heap.size + 1) (blk_far (g := w.heap.size + 1) (blk_set (blk_set HX.out.1 0 (.int .i64 0)) 1 (.int .i64 0)) (Ne.symm hne) 0 (.int .i64 0)) (Ne.symm hne) 1 (.string ⟨#[]⟩)) (Ne.symm hne) 2 (.int .i64 0)) (Ne.symm hne) 3 (.int .i64 0)
    have hq2 := blk_set (blk_set (blk_set (blk_set (blk_far (g := w.heap.size) (blk_far (g := w.heap.size) HX.out.2 hne 0 (.int .i64 0)) hne 1 (.int .i64 0)) 0 (.int .i64 0)) 1 (.string ⟨#[]⟩)) 2 (.int .i64 0)) 3 (.int .i64 0)
    have H3 : Aside0 (w3.heap[w.heap.size]? = some (.cells (CVc z25) 27 (0, 0)) ∧ w3.heap[w.heap.size + 1]? = some (.cells (OVc zOp) 29 (0, 0))) := ⟨by rw [hw3]; exact ⟨hq1, hq2⟩⟩
    have HB3 : Aside0 (Below w.heap.size w w3) := ⟨by rw [hw3]; exact (((((HK.out.2.1.setCell (Nat.le_refl _) _).setCell (Nat.le_refl _) _).setCell (Nat.le_succ _) _).setCell (Nat.le_succ _) _).setCell (Nat.le_succ _) _).setCell (Nat.le_succ _) _⟩
    rw [← hw3]
    clear hw3 hq1 hq2 kc0 kc1 kf0 kf1 ko0 ko1 ko2 ko3 kg0 kg1 kg2 kg3
    have kc0 : w3.cell? ⟨w.heap.size, 0, none⟩ = some (.int .i64 0) := (blk_cell H3.out.1 0).trans rfl
    have kc1 : w3.cell? ⟨w.heap.size, 1, none⟩ = some (.int .i64 0) := (blk_cell H3.out.1 1).trans rfl
    have kf0 := blk_frozen H3.out.1 0
    have kf1 := blk_frozen H3.out.1 1
    have ko0 : w3.cell? ⟨w.heap.size + 1, 0, none⟩ = some (.int .i64 0) := (blk_cell H3.out.2 0).trans rfl
    have ko1 : w3.cell? ⟨w.heap.size + 1, 1, none⟩ = some (.string ⟨#[]⟩) := (blk_cell H3.out.2 1).trans rfl
    have ko2 : w3.cell? ⟨w.heap.size + 1, 2, none⟩ = some (.int .i64 0) := (blk_cell H3.out.2 2).trans rfl
    have ko3 : w3.cell? ⟨w.heap.size + 1, 3, none⟩ = some (.int .i64 0) := (blk_cell H3.out.2 3).trans rfl
    have kg0 := blk_frozen H3.out.2 0
    have kg1 := blk_frozen H3.out.2 1
    have kg2 := blk_frozen H3.out.2 2
    have kg3 := blk_frozen H3.out.2 3
    go_region
    all_goals go_wp2
    all_goals (try simp only [Exit.inBlock, Exit.then])
    all_goals
      have he1 := blk_far (g := w.heap.size + 1) (blk_far (g := w.heap.size + 1) (blk_far (g := w.heap.size + 1) (blk_far (g := w.heap.size + 1) (blk_set (blk_set H3.out.1 0 (.int .i64 0)) 1 (.int .i64 0)) (Ne.symm hne) 0 (.int .i64 0)) (Ne.symm hne) 1 (.string ⟨#[]⟩)) (Ne.symm hne) 2 (.int .i64 0)) (Ne.symm hne) 3 (.int .i64 0)
      have he2 := blk_set (blk_set (blk_set (blk_set (blk_far (g := w.heap.size) (blk_far (g := w.heap.size) H3.out.2 hne 0 (.int .i64 0)) hne 1 (.int .i64 0)) 0 (.int .i64 0)) 1 (.string ⟨#[]⟩)) 2 (.int .i64 0)) 3 (.int .i64 0)
      refine bodyPost_ret (v := .tuple #[.agg (CVc z25), .agg (OVc zOp), .int .i64 ((b.length : Int) - k), .int .i64 20]) ?_ rfl ?_
      · exact results_two_two (fn := Try.f33) (p := 2) (p2 := 3) (q := 4) (r := 5) rfl _ _ w.heap.size (w.heap.size + 1) 27 29 _ _ (0, 0) (0, 0) _ _ (by rfl) (blk_as he1 (cs2 := CVc z25) rfl) hu27 rfl inf27 (by rfl) (blk_as he2 (cs2 := OVc zOp) rfl) hu29 rfl inf29
      refine ⟨Below.drew ((((((HB3.out.setCell (Nat.le_refl _) _).setCell (Nat.le_refl _) _).setCell (Nat.le_succ _) _).setCell (Nat.le_succ _) _).setCell (Nat.le_succ _) _).setCell (Nat.le_succ _) _), ?_⟩
      rw [HW.out]
  · rcases l with _ | ⟨d, l⟩
    · have HW : Aside0 (whole (z25, zOp) reqP b = ((x, o), 0, 0)) := ⟨by unfold whole; rw [hp]⟩
      rw [hp] at HK
      obtain ⟨hpt, her, hbk⟩ := HK.out.2.2.2
      subst hpt her
      have HX := Aside0.mk (show w2.heap[w.heap.size]? = some (.cells (CVc x) 27 (0, 0)) ∧ w2.heap[w.heap.size + 1]? = some (.cells (OVc o) 29 (0, 0)) from hbk)
      clear hbk
      have kc0 : w2.cell? ⟨w.heap.size, 0, none⟩ = some (.int .i64 x.f0) := (blk_cell HX.out.1 0).trans rfl
      have kc1 : w2.cell? ⟨w.heap.size, 1, none⟩ = some (.int .i64 x.f1) := (blk_cell HX.out.1 1).trans rfl
      have kf0 := blk_frozen HX.out.1 0
      have kf1 := blk_frozen HX.out.1 1
      have ko0 : w2.cell? ⟨w.heap.size + 1, 0, none⟩ = some (.int .i64 o.kind) := (blk_cell HX.out.2 0).trans rfl
      have ko1 : w2.cell? ⟨w.heap.size + 1, 1, none⟩ = some (.string o.name) := (blk_cell HX.out.2 1).trans rfl
      have ko2 : w2.cell? ⟨w.heap.size + 1, 2, none⟩ = some (.int .i64 o.a) := (blk_cell HX.out.2 2).trans rfl
      have ko3 : w2.cell? ⟨w.heap.size + 1, 3, none⟩ = some (.int .i64 o.b) := (blk_cell HX.out.2 3).trans rfl
      have kg0 := blk_frozen HX.out.2 0
      have kg1 := blk_frozen HX.out.2 1
      have kg2 := blk_frozen HX.out.2 2
      have kg3 := blk_frozen HX.out.2 3
      go_upto_region 4 with fail
      go_region
      all_goals go_wp2
      all_goals (try simp only [Exit.inBlock, Exit.then])
      all_goals
        have he1 := blk_far (g := w.heap.size + 1) (blk_far (g := w.heap.size + 1) (blk_far (g := w.heap.size + 1) (blk_far (g := w.heap.size + 1) (blk_set (blk_set HX.out.1 0 (.int .i64 x.f0)) 1 (.int .i64 x.f1)) (Ne.symm hne) 0 (.int .i64 o.kind)) (Ne.symm hne) 1 (.string o.name)) (Ne.symm hne) 2 (.int .i64 o.a)) (Ne.symm hne) 3 (.int .i64 o.b)
        have he2 := blk_set (blk_set (blk_set (blk_set (blk_far (g := w.heap.size) (blk_far (g := w.heap.size) HX.out.2 hne 0 (.int .i64 x.f0)) hne 1 (.int .i64 x.f1)) 0 (.int .i64 o.kind)) 1 (.string o.name)) 2 (.int .i64 o.a)) 3 (.int .i64 o.b)
        refine bodyPost_ret (v := .tuple #[.agg (CVc x), .agg (OVc o), .int .i64 (0), .int .i64 0]) ?_ rfl ?_
        · exact results_two_two (fn := Try.f33) (p := 2) (p2 := 3) (q := 4) (r := 5) rfl _ _ w.heap.size (w.heap.size + 1) 27 29 _ _ (0, 0) (0, 0) _ _ (by rfl) (blk_as he1 (cs2 := CVc x) rfl) hu27 rfl inf27 (by rfl) (blk_as he2 (cs2 := OVc o) rfl) hu29 rfl inf29
        refine ⟨Below.drew ((((((HK.out.2.1.setCell (Nat.le_refl _) _).setCell (Nat.le_refl _) _).setCell (Nat.le_succ _) _).setCell (Nat.le_succ _) _).setCell (Nat.le_succ _) _).setCell (Nat.le_succ _) _), ?_⟩
        rw [HW.out]
    · have HW : Aside0 (whole (z25, zOp) reqP b = ((z25, zOp), (b.length : Int) - (l.length + 1), 20)) := ⟨by unfold whole; rw [hp]⟩
      rw [hp] at HK
      (try obtain ⟨rfl, rfl⟩ := HK.out.2.2.2)
      obtain ⟨x2, o2, hx, ho⟩ := HK.out.2.2.1
      have HX := Aside0.mk (And.intro hx ho)
      clear hx ho
      have kc0 : w2.cell? ⟨w.heap.size, 0, none⟩ = some (.int .i64 x2.f0) := (blk_cell HX.out.1 0).trans rfl
      have kc1 : w2.cell? ⟨w.heap.size, 1, none⟩ = some (.int .i64 x2.f1) := (blk_cell HX.out.1 1).trans rfl
      have kf0 := blk_frozen HX.out.1 0
      have kf1 := blk_frozen HX.out.1 1
      have ko0 : w2.cell? ⟨w.heap.size + 1, 0, none⟩ = some (.int .i64 o2.kind) := (blk_cell HX.out.2 0).trans rfl
      have ko1 : w2.cell? ⟨w.heap.size + 1, 1, none⟩ = some (.string o2.name) := (blk_cell HX.out.2 1).trans rfl
      have ko2 : w2.cell? ⟨w.heap.size + 1, 2, none⟩ = some (.int .i64 o2.a) := (blk_cell HX.out.2 2).trans rfl
      have ko3 : w2.cell? ⟨w.heap.size + 1, 3, none⟩ = some (.int .i64 o2.b) := (blk_cell HX.out.2 3).trans rfl
      have kg0 := blk_frozen HX.out.2 0
      have kg1 := blk_frozen HX.out.2 1
      have kg2 := blk_frozen HX.out.2 2
      have kg3 := blk_frozen HX.out.2 3
      go_upto_region 4 with fail
      obtain ⟨w3, hw3⟩ : ∃ w3, w3 = (((((w2.setCell ⟨w.heap.size, 0, none⟩ (.int .i64 0)).setCell ⟨w.heap.size, 1, none⟩ (.int .i64 0)).setCell ⟨w.heap.size + 1, 0, none⟩ (.int .i64 0)).setCell ⟨w.heap.size + 1, 1, none⟩ (.string ⟨#[]⟩)).setCell ⟨w.heap.size + 1, 2, none⟩ (.int .i64 0)).setCell ⟨w.heap.size + 1, 3, none⟩ (.int .i64 0) := ⟨_, rfl⟩
      have hq1 := blk_far (g := w.heap.size + 1) (blk_far (g := w.heap.size + 1) (blk_far (g := w.heap.size + 1) (blk_far (g := w.heap.size + 1) (blk_set (blk_set HX.out.1 0 (.int .i64 0)) 1 (.int .i64 0)) (Ne.symm hne) 0 (.int .i64 0)) (Ne.symm hne) 1 (.string ⟨#[]⟩)) (Ne.symm hne) 2 (.int .i64 0)) (Ne.symm hne) 3 (.int .i64 0)
      have hq2 := blk_set (blk_set (blk_set (blk_set (blk_far (g := w.heap.size) (blk_far (g := w.heap.size) HX.out.2 hne 0 (.int .i64 0)) hne 1 (.int .i64 0)) 0 (.int .i64 0)) 1 (.string ⟨#[]⟩)) 2 (.int .i64 0)) 3 (.int .i64 0)
      have H3 : Aside0 (w3.heap[w.heap.size]? = some (.cells (CVc z25) 27 (0, 0)) ∧ w3.heap[w.heap.size + 1]? = some (.cells (OVc zOp) 29 (0, 0))) := ⟨by rw [hw3]; exact ⟨hq1, hq2⟩⟩
      have HB3 : Aside0 (Below w.heap.size w w3) := ⟨by rw [hw3]; exact (((((HK.out.2.1.setCell (Nat.le_refl _) _).setCell (Nat.le_refl _) _).setCell (Nat.le_succ _) _).setCell (Nat.le_succ _) _).setCell (Nat.le_succ _) _).setCell (Nat.le_succ _) _⟩
      rw [← hw3]
      clear hw3 hq1 hq2 kc0 kc1 kf0 kf1 ko0 ko1 ko2 ko3 kg0 kg1 kg2 kg3
      have kc0 : w3.cell? ⟨w.heap.size, 0, none⟩ = some (.int .i64 0) := (blk_cell H3.out.1 0).trans rfl
      have kc1 : w3.cell? ⟨w.heap.size, 1, none⟩ = some (.int .i64 0) := (blk_cell H3.out.1 1).trans rfl
      have kf0 := blk_frozen H3.out.1 0
      have kf1 := blk_frozen H3.out.1 1
      have ko0 : w3.cell? ⟨w.heap.size + 1, 0, none⟩ = some (.int .i64 0) := (blk_cell H3.out.2 0).trans rfl
      have ko1 : w3.cell? ⟨w.heap.size + 1, 1, none⟩ = some (.string ⟨#[]⟩) := (blk_cell H3.out.2 1).trans rfl
      have ko2 : w3.cell? ⟨w.heap.size + 1, 2, none⟩ = some (.int .i64 0) := (blk_cell H3.out.2 2).trans rfl
      have ko3 : w3.cell? ⟨w.heap.size + 1, 3, none⟩ = some (.int .i64 0) := (blk_cell H3.out.2 3).trans rfl
      have kg0 := blk_frozen H3.out.2 0
      have kg1 := blk_frozen H3.out.2 1
      have kg2 := blk_frozen H3.out.2 2
      have kg3 := blk_frozen H3.out.2 3
      go_region
      all_goals go_wp2
      all_goals (try simp only [Exit.inBlock, Exit.then])
      all_goals
        have he1 := blk_far (g := w.heap.size + 1) (blk_far (g := w.heap.size + 1) (blk_far (g := w.heap.size + 1) (blk_far (g := w.heap.size + 1) (blk_set (blk_set H3.out.1 0 (.int .i64 0)) 1 (.int .i64 0)) (Ne.symm hne) 0 (.int .i64 0)) (Ne.symm hne) 1 (.string ⟨#[]⟩)) (Ne.symm hne) 2 (.int .i64 0)) (Ne.symm hne) 3 (.int .i64 0)
        have he2 := blk_set (blk_set (blk_set (blk_set (blk_far (g := w.heap.size) (blk_far (g := w.heap.size) H3.out.2 hne 0 (.int .i64 0)) hne 1 (.int .i64 0)) 0 (.int .i64 0)) 1 (.string ⟨#[]⟩)) 2 (.int .i64 0)) 3 (.int .i64 0)
        refine bodyPost_ret (v := .tuple #[.agg (CVc z25), .agg (OVc zOp), .int .i64 ((b.length : Int) - (l.length + 1)), .int .i64 20]) ?_ rfl ?_
        · exact results_two_two (fn := Try.f33) (p := 2) (p2 := 3) (q := 4) (r := 5) rfl _ _ w.heap.size (w.heap.size + 1) 27 29 _ _ (0, 0) (0, 0) _ _ (by rfl) (blk_as he1 (cs2 := CVc z25) rfl) hu27 rfl inf27 (by rfl) (blk_as he2 (cs2 := OVc zOp) rfl) hu29 rfl inf29
        refine ⟨Below.drew ((((((HB3.out.setCell (Nat.le_refl _) _).setCell (Nat.le_refl _) _).setCell (Nat.le_succ _) _).setCell (Nat.le_succ _) _).setCell (Nat.le_succ _) _).setCell (Nat.le_succ _) _), ?_⟩
        rw [HW.out]
end Go.Proofs.Ytpgdmmjbhjbbhaa.Rd
end
section
namespace Go.Proofs.Ytpgdmmjbhjbbhaa.Rd
open Go Go.RowKit Go.Proofs.Ytpgdmmjbhjbbhaa.P Go.Proofs.Ytpgdmmjbhjbbhaa.Sp Go.Proofs.Ytpgdmmjbhjbbhaa.Vd Go.Proofs.Ytpgdmmjbhjbbhaa.En Go.Proofs.Ytpgdmmjbhjbbhaa.Wr Go.Proofs.YtpgdmmjbhjbbhaaW.PrintWords Go.Proofs.YtpgdmmjbhjbbhaaW.PrintLast Go.Proofs.YtpgdmmjbhjbbhaaW.PrintMore
set_option linter.unusedVariables false
set_option linter.unusedSimpArgs false
end Go.Proofs.Ytpgdmmjbhjbbhaa.Rd
end
section
namespace Go.Proofs.Ytpgdmmjbhjbbhaa.Sp
open Go Go.RowKit Go.Proofs.Ytpgdmmjbhjbbhaa.P Go.Proofs.YtpgdmmjbhjbbhaaW.PrintWords Go.Proofs.YtpgdmmjbhjbbhaaW.PrintLast Go.Proofs.YtpgdmmjbhjbbhaaW.PrintMore
set_option linter.unusedVariables false
set_option linter.unusedSimpArgs false
/-- What is right reads as it was. -/
theorem whole_back {α : Type} {p : Rdr α} {e : α → List Int} {v : α → Prop} (h : Codec p e v) (z : α) {x : α} (hx : v x) : whole z p (e x) = (x, 0, 0) := by
  have := h.back x [] hx
  rw [List.append_nil] at this
  unfold whole
  rw [this]
theorem lay_right {α : Type} {e : α → List Int} {v : α → Prop} {x : α} (h : v x) : lay e v x = (e x, 0) := by unfold lay; rw [if_pos (dcd_pos h)]
theorem intB_1 {n : Int} (h0 : 0 ≤ n) (h1 : n < 128) : intB n = [n] := by
  rw [intB_of h0 (by omega), numB_lt (by omega)]
  congr 1
  omega
def kSt : ByteArray := ⟨#[107]⟩
def mEx : Msg := { zMsg with kind := 3, name := kSt, cap := 10, epoch := ⟨2, 1⟩ }
def sEx : Seg := ⟨0, 1, 0, 7, []⟩
def qEx : S25 × Op := (⟨3, 1⟩, ⟨2, kSt, 5, 0⟩)
def rEx : Rep := ⟨⟨0, 9⟩, 0, -3⟩
theorem name_k : nameOk (bytesOf kSt) := by
  refine ⟨by decide, by decide, ?_⟩
  have : bytesOf kSt = [107] := by decide
  rw [this]
  intro x hx
  rw [List.mem_singleton.mp hx]
  decide
theorem bytes_k : bytesOf kSt = [107] := by decide
theorem nameV_k : nameV eB kSt := nameV_nil.mpr name_k
theorem text_k : textB kSt = [1, 107] := by
  unfold textB
  rw [bytes_k, intB_1 (by decide) (by decide)]
  decide
theorem mEx_bytes : msgB mEx = [3, 1, 107, 10, 0, 2, 1] := by
  have h1 : ∀ n : Int, 0 ≤ n → n < 128 → intB n = [n] := fun n a b => intB_1 a b
  simp [msgB, restB, mEx, zMsg, optB, hasEp, hasRt, capOf, pairB, text_k, h1, z25]
theorem mEx_right : msgV mEx := by
  refine ⟨by decide, ?_⟩
  unfold restV
  rw [if_neg (by decide), if_neg (by decide), if_neg (by decide)]
  simp [mEx, zMsg, optV, hasEp, hasRt, capOf, capV, pairV, epochV, big, mOf, z25, nameV_k]
theorem sEx_bytes : segB sEx = [0, 1, 0, 7, 0] := by
  have h1 : ∀ n : Int, 0 ≤ n → n < 128 → intB n = [n] := fun n a b => intB_1 a b
  simp [segB, sEx, h1]
theorem sEx_right : segV sEx := by
  simp [segV, sEx, big, IsB]
theorem qEx_bytes : reqB qEx = [3, 1, 2, 1, 107, 10, 0] := by
  have h1 : ∀ n : Int, 0 ≤ n → n < 128 → intB n = [n] := fun n a b => intB_1 a b
  simp [reqB, qEx, opB, pairB, h1, text_k, signB, signN, numB_lt]
theorem qEx_right : reqV qEx := by
  refine ⟨?_, ?_⟩
  · simp [qEx, callV, pairV, big]
  · simp [qEx, opV, isI, nameV_k]
theorem rEx_bytes : repB rEx = [0, 9, 0, 5] := by
  have h1 : ∀ n : Int, 0 ≤ n → n < 128 → intB n = [n] := fun n a b => intB_1 a b
  simp [repB, rEx, pairB, h1, signB, signN, numB_lt]
theorem rEx_right : repV rEx := by
  simp [repV, rEx, callV, pairV, big, isI]
end Go.Proofs.Ytpgdmmjbhjbbhaa.Sp
end
section
namespace Go.Proofs.Ytpgdmmjbhjbbhaa.P
open Go.RowKit Go.Proofs.YtpgdmmjbhjbbhaaW.PrintWords Go.Proofs.YtpgdmmjbhjbbhaaW.PrintLast Go.Proofs.YtpgdmmjbhjbbhaaW.PrintMore
attribute [local go_sem] Go.Proofs.Ytpgdmmjbhjbbhaa.StrLe.leq_str Go.Proofs.Ytpgdmmjbhjbbhaa.StrLe.gtr_str
attribute [local go_sem] max2_int min2_int max_two min_two max_three min_three max_four min_four   -- for this text's walks alone
set_option linter.unusedVariables false
set_option linter.unusedSimpArgs false

/-- A state of type 132 at block g of W; what its slices lead to came in by w0. -/
def IsS132 (w0 W : World) (g : Nat) (f0 : List Int) (f1 : Int) (f2 : Bool) : Prop := ∃ A0 c0, W.heap[g]? = some (.cells #[.slice A0 f0.length c0, .int .i64 f1, .bool f2] 132 (0, 0)) ∧ (w0.heap.size ≤ g ∧ f0.length ≤ c0) ∧ Kd.C (Kd.int .u8) w0 A0 f0.length f0
theorem IsS132.drewN {w0 W : World} {g : Nat} {f0 : List Int} {f1 : Int} {f2 : Bool} (h : IsS132 w0 W g f0 f1 f2) (m : Nat) : IsS132 w0 (W.drewN m) g f0 f1 f2 := h
theorem IsS132.at_ {w0 W : World} {g : Nat} {f0 : List Int} {f1 : Int} {f2 : Bool} {w' : World} {m : Nat} (hq : W.drewN m = w') (h : IsS132 w0 W g f0 f1 f2) : IsS132 w0 w' g f0 f1 f2 := by subst hq; exact IsS132.drewN h m
end Go.Proofs.Ytpgdmmjbhjbbhaa.P
end
section
namespace Go.Proofs.Ytpgdmmjbhjbbhaa.P
open Go.RowKit Go.Proofs.YtpgdmmjbhjbbhaaW.PrintWords Go.Proofs.YtpgdmmjbhjbbhaaW.PrintLast Go.Proofs.YtpgdmmjbhjbbhaaW.PrintMore
attribute [local go_sem] Go.Proofs.Ytpgdmmjbhjbbhaa.StrLe.leq_str Go.Proofs.Ytpgdmmjbhjbbhaa.StrLe.gtr_str
attribute [local go_sem] max2_int min2_int max_two min_two max_three min_three max_four min_four   -- for this text's walks alone
set_option linter.unusedVariables false
set_option linter.unusedSimpArgs false

end Go.Proofs.Ytpgdmmjbhjbbhaa.P
end
section
namespace Go.Proofs.Ytpgdmmjbhjbbhaa.P
open Go.RowKit Go.Proofs.YtpgdmmjbhjbbhaaW.PrintWords Go.Proofs.YtpgdmmjbhjbbhaaW.PrintLast Go.Proofs.YtpgdmmjbhjbbhaaW.PrintMore
attribute [local go_sem] Go.Proofs.Ytpgdmmjbhjbbhaa.StrLe.leq_str Go.Proofs.Ytpgdmmjbhjbbhaa.StrLe.gtr_str
attribute [local go_sem] max2_int min2_int max_two min_two max_three min_three max_four min_four   -- for this text's walks alone
set_option linter.unusedVariables false
set_option linter.unusedSimpArgs false

end Go.Proofs.Ytpgdmmjbhjbbhaa.P
end
section
namespace Go.Proofs.Ytpgdmmjbhjbbhaa.P
open Go.RowKit Go.Proofs.YtpgdmmjbhjbbhaaW.PrintWords Go.Proofs.YtpgdmmjbhjbbhaaW.PrintLast Go.Proofs.YtpgdmmjbhjbbhaaW.PrintMore
attribute [local go_sem] Go.Proofs.Ytpgdmmjbhjbbhaa.StrLe.leq_str Go.Proofs.Ytpgdmmjbhjbbhaa.StrLe.gtr_str
attribute [local go_sem] max2_int min2_int max_two min_two max_three min_three max_four min_four   -- for this text's walks alone
set_option linter.unusedVariables false
set_option linter.unusedSimpArgs false

end Go.Proofs.Ytpgdmmjbhjbbhaa.P
end
section
namespace Go.Proofs.Ytpgdmmjbhjbbhaa.Lw
open Go Go.RowKit Go.Proofs.Ytpgdmmjbhjbbhaa.P Go.Proofs.Ytpgdmmjbhjbbhaa.Sp Go.Proofs.Ytpgdmmjbhjbbhaa.Vd Go.Proofs.Ytpgdmmjbhjbbhaa.En Go.Proofs.Ytpgdmmjbhjbbhaa.Wr Go.Proofs.Ytpgdmmjbhjbbhaa.Rd Go.Proofs.YtpgdmmjbhjbbhaaW.PrintWords Go.Proofs.YtpgdmmjbhjbbhaaW.PrintLast Go.Proofs.YtpgdmmjbhjbbhaaW.PrintMore
set_option linter.unusedVariables false
set_option linter.unusedSimpArgs false
theorem lit_row {l : List Int} {w : World} {b : Nat} {t : TypeId} {cs : Array Value} (h : w.heap[b]? = some (.cells cs t (0, 0))) (hc : cs.toList = l.map (Value.int .u8)) (hl : l.length ≤ 1000) : Kd.C (Kd.int .u8) w (some ⟨b, 0, none⟩) l.length l := by
  obtain rfl : cs = (l.map (Value.int .u8)).toArray := by rw [← hc]
  refine Kd.C_of_reads (d := (0 : Int)) (h1 := fun _ => rfl) ⟨rfl, by omega, fun _ => ⟨_, rfl, fun j hj => ?_⟩⟩
  rw [add_plain, cell_of_row _ b j _ t (0, 0) h]
  simp only [List.getElem?_toArray, List.getElem?_map, List.getElem?_eq_getElem hj, Option.map_some, List.getD_eq_getElem?_getD, Option.getD_some]
theorem toList_inj {a b : ByteArray} : a.toList = b.toList ↔ a = b := by
  rw [ByteArray.toList_eq, ByteArray.toList_eq]
  constructor
  · intro h
    cases a with
    | mk x =>
      cases b with
      | mk y =>
        have : x = y := Array.toList_inj.mp h
        rw [this]
  · rintro rfl; rfl
theorem strOf_inj {a b : List Int} (ha : IsB a) (hb : IsB b) : (strOfNums a).toList = (strOfNums b).toList ↔ a = b := by
  rw [toList_inj]
  constructor
  · intro h
    rw [← bytesOf_strOf ha, ← bytesOf_strOf hb, h]
  · rintro rfl; rfl
theorem alike_law {a b : List Int} (ha : IsB a) (hb : IsB b) : sluicelaw2_alike.f a b = some (dcd (a = b)) := by
  unfold sluicelaw2_alike.f
  congr 1
  exact bool_dcd (by rw [beq_iff_eq, strOf_inj ha hb])
theorem alike_calls (A0 : Option Addr) (c0 : Nat) (a : List Int) (A1 : Option Addr) (c1 : Nat) (b : List Int) (w : World) (ha : In w A0 c0 a) (hb : In w A1 c1 b) :
    Calls Try.prog 37 #[.slice A0 a.length c0, .slice A1 b.length c1] w fun e w' => e = .returned (.bool (dcd (a = b))) ∧ Below w.heap.size w w' :=
  (sluicelaw2_alike.calls A0 c0 a A1 c1 b _ w ha.row ha.cap hb.row hb.cap (alike_law ha.isB hb.isB)).mono fun e w' h => ⟨h.1, h.2.below⟩
theorem S87.ext_iff' {x y : S87} : x = y ↔ x.f0 = y.f0 ∧ x.f1 = y.f1 ∧ x.f2 = y.f2 ∧ x.f3 = y.f3 ∧ (x.f4.f0 = y.f4.f0 ∧ x.f4.f1 = y.f4.f1) ∧ x.f5 = y.f5 := by
  obtain ⟨a, b, c, d, ⟨e, f⟩, g⟩ := x
  obtain ⟨a', b', c', d', ⟨e', f'⟩, g'⟩ := y
  simp only [S87.mk.injEq, S25.mk.injEq]
theorem sameViews_go (x y : List S87) (hl : x.length = y.length) (hm : x.length ≤ 9223372036854775807) : ∀ n i : Nat, i + n = x.length → ∃ k, sluicelaw2_sameViews.l0 k x y (i : Int) = some (dcd (x.drop i = y.drop i)) := by
  intro n
  induction n with
  | zero =>
    intro i hi
    refine ⟨1, ?_⟩
    unfold sluicelaw2_sameViews.l0
    rw [if_neg (by omega), List.drop_of_length_le (by omega), List.drop_of_length_le (by omega), dcd_pos rfl]
  | succ n ih =>
    intro i hi
    obtain ⟨k, hk⟩ := ih (i + 1) (by omega)
    refine ⟨k + 1, ?_⟩
    unfold sluicelaw2_sameViews.l0
    have e1 : x.drop i = rd_T87 x i :: x.drop (i + 1) := by
      rw [List.drop_eq_getElem_cons (by omega)]; simp [rd_T87, List.getD_eq_getElem?_getD, List.getElem?_eq_getElem (show i < x.length by omega)]
    have e2 : y.drop i = rd_T87 y i :: y.drop (i + 1) := by
      rw [List.drop_eq_getElem_cons (by omega)]; simp [rd_T87, List.getD_eq_getElem?_getD, List.getElem?_eq_getElem (show i < y.length by omega)]
    rw [if_pos (by omega), if_pos (by omega), if_pos (by omega), e1, e2]
    have hw : wrap64 ((i : Int) + 1) = ((i + 1 : Nat) : Int) := by
      rw [wrap64]; simp [IntKind.wrap, IntKind.bits, IntKind.signed]; omega
    by_cases he : rd_T87 x (i : Int) = rd_T87 y (i : Int)
    · rw [if_neg (by rw [he]; simp), hw, hk, he]
      congr 1
      exact bool_dcd (by rw [dcd_iff]; simp)
    · rw [if_pos ?_]
      · rw [dcd_neg (fun h => he (List.cons.inj h).1)]
      · rw [S87.ext_iff'] at he
        simp only [Bool.or_eq_true, Bool.not_eq_true', beq_eq_false_iff_ne, ne_eq, toList_inj]
        exact Classical.byContradiction fun h => he (by simp only [not_or, Classical.not_not] at h; exact ⟨h.1, h.2.1, h.2.2.1, h.2.2.2.1, h.2.2.2.2.1, h.2.2.2.2.2⟩)
theorem sameViews_calls (A0 : Option Addr) (c0 : Nat) (x : List S87) (A1 : Option Addr) (c1 : Nat) (y : List S87) (w : World) (hx : Kd.C k87 w A0 x.length x) (hxc : x.length ≤ c0) (hy : Kd.C k87 w A1 y.length y) (hyc : y.length ≤ c1) :
    Calls Try.prog 40 #[.slice A0 x.length c0, .slice A1 y.length c1] w fun e w' => e = .returned (.bool (dcd (x = y))) ∧ Below w.heap.size w w' := by
  have hm : x.length ≤ 9223372036854775807 := by have := hx.2.1; omega
  obtain ⟨k, hk⟩ : ∃ k, sluicelaw2_sameViews.f k x y = some (dcd (x = y)) := by
    by_cases hl : x.length = y.length
    · obtain ⟨k, hk⟩ := sameViews_go x y hl hm x.length 0 (by omega)
      exact ⟨k, by unfold sluicelaw2_sameViews.f; rw [if_pos (by omega)]; exact hk⟩
    · exact ⟨0, by unfold sluicelaw2_sameViews.f; rw [if_neg (by omega), dcd_neg (fun h => hl (by rw [h]))]⟩
  exact (sluicelaw2_sameViews.calls k A0 c0 x A1 c1 y _ w hx hxc hy hyc hk).mono fun e w' h => ⟨h.1, h.2.below⟩
end Go.Proofs.Ytpgdmmjbhjbbhaa.Lw
end
section
namespace Go.Proofs.Ytpgdmmjbhjbbhaa.Lw
open Go Go.RowKit Go.Proofs.Ytpgdmmjbhjbbhaa.P Go.Proofs.Ytpgdmmjbhjbbhaa.Sp Go.Proofs.Ytpgdmmjbhjbbhaa.Vd Go.Proofs.Ytpgdmmjbhjbbhaa.En Go.Proofs.Ytpgdmmjbhjbbhaa.Wr Go.Proofs.Ytpgdmmjbhjbbhaa.Rd Go.Proofs.YtpgdmmjbhjbbhaaW.PrintWords Go.Proofs.YtpgdmmjbhjbbhaaW.PrintLast Go.Proofs.YtpgdmmjbhjbbhaaW.PrintMore
set_option linter.unusedVariables false
set_option linter.unusedSimpArgs false
theorem msg_iff (m n : Msg) : m = n ↔ m.kind = n.kind ∧ m.name.toList = n.name.toList ∧ m.cap = n.cap ∧ m.recaps = n.recaps ∧ (m.epoch.f0 = n.epoch.f0 ∧ m.epoch.f1 = n.epoch.f1) ∧ (m.over.f0 = n.over.f0 ∧ m.over.f1 = n.over.f1) ∧ m.views = n.views ∧ (m.rights.f0 = n.rights.f0 ∧ m.rights.f1 = n.rights.f1) ∧ m.held = n.held ∧ (m.call.f0 = n.call.f0 ∧ m.call.f1 = n.call.f1) ∧ (m.op.kind = n.op.kind ∧ m.op.name.toList = n.op.name.toList ∧ m.op.a = n.op.a ∧ m.op.b = n.op.b) ∧ m.err = n.err ∧ m.value = n.value := by
  obtain ⟨a1, a2, a3, a4, ⟨a5, a6⟩, ⟨a7, a8⟩, ⟨a9, b1⟩, b2, ⟨b3, b4⟩, ⟨b5, b6, b7, b8⟩, b9, c1, c2⟩ := m
  obtain ⟨d1, d2, d3, d4, ⟨d5, d6⟩, ⟨d7, d8⟩, ⟨d9, e1⟩, e2, ⟨e3, e4⟩, ⟨e5, e6, e7, e8⟩, e9, f1, f2⟩ := n
  simp only [Msg.mk.injEq, S25.mk.injEq, Sp.Op.mk.injEq, toList_inj]
  constructor <;> (rintro h; simp [h])
end Go.Proofs.Ytpgdmmjbhjbbhaa.Lw
end
section
namespace Go.Proofs.Ytpgdmmjbhjbbhaa.Lw
open Go Go.RowKit Go.Proofs.Ytpgdmmjbhjbbhaa.P Go.Proofs.Ytpgdmmjbhjbbhaa.Sp Go.Proofs.Ytpgdmmjbhjbbhaa.Vd Go.Proofs.Ytpgdmmjbhjbbhaa.En Go.Proofs.Ytpgdmmjbhjbbhaa.Wr Go.Proofs.Ytpgdmmjbhjbbhaa.Rd Go.Proofs.YtpgdmmjbhjbbhaaW.PrintWords Go.Proofs.YtpgdmmjbhjbbhaaW.PrintLast Go.Proofs.YtpgdmmjbhjbbhaaW.PrintMore
set_option linter.unusedVariables false
set_option linter.unusedSimpArgs false
theorem In.below {w w1 : World} {A : Option Addr} {c : Nat} {l : List Int} (h : In w A c l) (hb : Below w.heap.size w w1) : In w1 A c l := ⟨Kd.C_below h.row hb, h.isB, h.cap⟩
theorem in_of_R {w : World} {base : Nat} {ok : Nat → Prop} {v : Value} {l : List Int} (h : Kd.R (Kd.int .u8) 5 w base ok v l) (hb : IsB l) : ∃ A c, v = .slice A l.length c ∧ In w A c l := by
  obtain ⟨A, c, hv, hc, hC⟩ := Kd.R_reads h
  exact ⟨A, c, hv, hC, hb, hc⟩
theorem in_lit {l : List Int} {w : World} {b : Nat} {t : TypeId} {cs : Array Value} {n : Nat} (h : w.heap[b]? = some (.cells cs t (0, 0))) (hc : cs.toList = l.map (Value.int .u8)) (hl : l.length ≤ 1000) (hb : IsB l) (hn : n = l.length) : In w (some ⟨b, 0, none⟩) n l := ⟨lit_row h hc hl, hb, by omega⟩
theorem views_nil (w : World) (A : Option Addr) : Kd.C k87 w A ([] : List S87).length [] := ⟨rfl, by simp, fun h => by simp at h⟩
theorem isB_of {l : List Int} (h : ∀ x ∈ l, decide (0 ≤ x ∧ x ≤ 255) = true) : IsB l := fun x hx => of_decide_eq_true (h x hx)
theorem mEx_isI : isI mEx.op.a ∧ isI mEx.op.b := ⟨by unfold isI; decide, by unfold isI; decide⟩
def bM : List Int := [3, 1, 107, 10, 0, 2, 1]
def bS : List Int := [0, 1, 0, 7, 0]
def bQ : List Int := [3, 1, 2, 1, 107, 10, 0]
def bR : List Int := [0, 9, 0, 5]
theorem bM_B : IsB bM := isB_of (by decide)
theorem bS_B : IsB bS := isB_of (by decide)
theorem bQ_B : IsB bQ := isB_of (by decide)
theorem bR_B : IsB bR := isB_of (by decide)
theorem enc_ex (w : World) : Calls Try.prog 16 #[.agg #[.int .i64 3, .string ⟨#[107]⟩, .int .i64 10, .int .i64 0, .int .i64 2, .int .i64 1, .int .i64 0, .int .i64 0, .int .i64 0, .int .i64 0, .int .i64 0, .int .i64 0, .int .i64 0, .int .i64 0, .string ⟨#[]⟩, .int .i64 0, .int .i64 0, .int .i64 0, .int .i64 0, .slice none 0 0]] w fun e w' => ∃ A c, e = .returned (.tuple #[.slice A 7 c, .int .i64 0]) ∧ In w' A c bM ∧ Below w.heap.size w w' := by
  refine (encode_calls mEx mEx_isI none 0 w (views_nil _ _) (Nat.le_refl _)).mono ?_
  rintro e w' ⟨v, he, hR, hb⟩
  rw [lay_right mEx_right] at he hR
  simp only [mEx_bytes] at hR
  obtain ⟨A, c, rfl, hi⟩ := in_of_R hR bM_B
  exact ⟨A, c, he, hi, hb⟩
theorem dec_ex (w : World) (A : Option Addr) (c : Nat) (h : In w A c bM) : Calls Try.prog 18 #[.slice A 7 c] w fun e w' => ∃ A1 c1, e = .returned (.tuple #[.agg (MVc mEx A1 c1), .int .i64 0, .int .i64 0]) ∧ Below w.heap.size w w' := by
  refine (decode_calls w A c bM h).mono ?_
  rintro e w' ⟨hb, A1, c1, he, _⟩
  have hw : whole zMsg msgP bM = (mEx, 0, 0) := by rw [show bM = msgB mEx from mEx_bytes.symm]; exact whole_back msgP_codec _ mEx_right
  rw [hw] at he
  exact ⟨A1, c1, he, hb⟩
theorem seg_ex (w : World) : Calls Try.prog 27 #[.agg #[.int .i64 0, .int .i64 1, .int .i64 0, .int .i64 7, .slice none 0 0]] w fun e w' => ∃ A c, e = .returned (.tuple #[.slice A 5 c, .int .i64 0]) ∧ In w' A c bS ∧ Below w.heap.size w w' := by
  refine (encseg_calls sEx none 0 w ⟨rfl, by decide, fun h => absurd h (by decide)⟩ (Nat.le_refl _) (fun x h => by cases h)).mono ?_
  rintro e w' ⟨v, he, hR, hb⟩
  rw [lay_right sEx_right] at he hR
  simp only [sEx_bytes] at hR
  obtain ⟨A, c, rfl, hi⟩ := in_of_R hR bS_B
  exact ⟨A, c, he, hi, hb⟩
theorem req_ex (w : World) (A : Option Addr) (c : Nat) (h : In w A c bQ) : Calls Try.prog 33 #[.slice A 7 c] w fun e w' => e = .returned (.tuple #[.agg #[.int .i64 3, .int .i64 1], .agg #[.int .i64 2, .string ⟨#[107]⟩, .int .i64 5, .int .i64 0], .int .i64 0, .int .i64 0]) ∧ Below w.heap.size w w' := by
  refine (decreq_calls w A c bQ h).mono ?_
  rintro e w' ⟨hb, he⟩
  have hw : whole (z25, zOp) reqP bQ = (qEx, 0, 0) := by rw [show bQ = reqB qEx from qEx_bytes.symm]; exact whole_back reqP_codec _ qEx_right
  rw [hw] at he
  exact ⟨he, hb⟩
theorem rep_ex (w : World) : Calls Try.prog 34 #[.agg #[.int .i64 0, .int .i64 9, .int .i64 0, .int .i64 (-3)]] w fun e w' => ∃ A c, e = .returned (.tuple #[.slice A 4 c, .int .i64 0]) ∧ In w' A c bR ∧ Below w.heap.size w w' := by
  refine (encrep_calls rEx w (by unfold isI; decide)).mono ?_
  rintro e w' ⟨v, he, hR, hb⟩
  rw [lay_right rEx_right] at he hR
  simp only [rEx_bytes] at hR
  obtain ⟨A, c, rfl, hi⟩ := in_of_R hR bR_B
  exact ⟨A, c, he, hi, hb⟩
theorem val_ex (w : World) (A1 : Option Addr) (c1 : Nat) : Calls Try.prog 21 #[.agg (MVc mEx A1 c1)] w fun e w' => e = .returned (.bool true) ∧ Below w.heap.size w w' := by
  refine (valid_calls mEx mEx_isI A1 c1 w (views_nil _ _) (Nat.zero_le _)).mono ?_
  rintro e w' ⟨he, hb⟩
  rw [dcd_pos mEx_right] at he
  exact ⟨he, hb⟩
theorem alike_ex (A0 : Option Addr) (c0 : Nat) (A1 : Option Addr) (c1 : Nat) (b : List Int) (n : Nat) (hn : b.length = n) (w : World) (ha : In w A0 c0 b) (hb : In w A1 c1 b) :
    Calls Try.prog 37 #[.slice A0 n c0, .slice A1 n c1] w fun e w' => e = .returned (.bool true) ∧ Below w.heap.size w w' := by
  subst hn
  refine (alike_calls A0 c0 b A1 c1 b w ha hb).mono ?_
  rintro e w' ⟨he, hb⟩
  rw [dcd_pos rfl] at he
  exact ⟨he, hb⟩
end Go.Proofs.Ytpgdmmjbhjbbhaa.Lw
end
section
namespace Go.Proofs.Ytpgdmmjbhjbbhaa.Lw
open Go Go.RowKit Go.Proofs.Ytpgdmmjbhjbbhaa.P Go.Proofs.Ytpgdmmjbhjbbhaa.Sp Go.Proofs.Ytpgdmmjbhjbbhaa.Vd Go.Proofs.Ytpgdmmjbhjbbhaa.En Go.Proofs.Ytpgdmmjbhjbbhaa.Wr Go.Proofs.Ytpgdmmjbhjbbhaa.Rd Go.Proofs.YtpgdmmjbhjbbhaaW.PrintWords Go.Proofs.YtpgdmmjbhjbbhaaW.PrintLast Go.Proofs.YtpgdmmjbhjbbhaaW.PrintMore
set_option linter.unusedVariables false
set_option linter.unusedSimpArgs false
theorem in_new (w : World) (l : List Int) (cs : Array Value) (n : Nat) (hc : cs.toList = l.map (Value.int .u8)) (hl : l.length ≤ 1000) (hb : IsB l) (hn : n = l.length) : In (w.alloc (.cells cs 5 (0, 0))) (some ⟨w.heap.size, 0, none⟩) n l := in_lit (heap_alloc_new w _) hc hl hb hn
/-- What stands when all is called. -/
structure AF (w W : World) (Ab As Ar A1 : Option Addr) (cb cs cr c1 g3 g8 g9 : Nat) : Prop where
  bel : Below w.heap.size w W
  b : In W Ab cb bM
  s : In W As cs bS
  r : In W Ar cr bR
  m : W.heap[g3]? = some (.cells (MVc mEx A1 c1) 33 (0, 0))
  c : W.heap[g8]? = some (.cells #[.int .i64 3, .int .i64 1] 27 (0, 0))
  o : W.heap[g9]? = some (.cells #[.int .i64 2, .string ⟨#[107]⟩, .int .i64 5, .int .i64 0] 29 (0, 0))
theorem AF.below {w W W1 : World} {Ab As Ar A1 : Option Addr} {cb cs cr c1 g3 g8 g9 : Nat} (h : AF w W Ab As Ar A1 cb cs cr c1 g3 g8 g9) (k : Below W.heap.size W W1) : AF w W1 Ab As Ar A1 cb cs cr c1 g3 g8 g9 :=
  ⟨below_step h.bel k, In.below h.b k, In.below h.s k, In.below h.r k, blk_keep k h.m, blk_keep k h.c, blk_keep k h.o⟩
theorem AF.new {w W : World} {Ab As Ar A1 : Option Addr} {cb cs cr c1 g3 g8 g9 : Nat} (h : AF w W Ab As Ar A1 cb cs cr c1 g3 g8 g9) (o : Obj) : AF w (W.alloc o) Ab As Ar A1 cb cs cr c1 g3 g8 g9 := h.below (al_below W o)
set_option maxHeartbeats 8000000 in
set_option maxRecDepth 100000 in
theorem able_calls (w : World) : Calls Try.prog 12 #[] w fun e w' => e = .returned (.bool true) ∧ Below w.heap.size w w' := by
  have hu33 := Try.underlying33
  have hu23 := Try.underlying23
  have hu25 := Try.underlying25
  have hu27 := Try.underlying27
  have hu29 := Try.underlying29
  have hu47 := Try.underlying47
  have hu50 := Try.underlying50
  go_enter Try.func12, Try.ntmps12
  go_upto_region 2 with (go_at_call 16; refine (enc_ex _).mono ?_; rintro e w1 ⟨Ab, cb, rfl, hi, hb⟩; have H1 := Aside0.mk (And.intro hb hi); clear hi hb)
  obtain ⟨wa, hwa⟩ : ∃ wa, wa = w1.alloc (.cells #[.int .u8 3, .int .u8 1, .int .u8 107, .int .u8 10, .int .u8 0, .int .u8 2, .int .u8 1] 5 (0, 0)) := ⟨_, rfl⟩
  have HWA := Aside0.mk hwa
  have HIA : Aside0 (In wa (some ⟨w1.heap.size, 0, none⟩) 7 bM) := ⟨by rw [hwa]; exact in_new w1 bM _ _ rfl (by decide) bM_B rfl⟩
  have HBA : Aside0 (Below w.heap.size w wa ∧ Below w1.heap.size w1 wa) := ⟨by rw [hwa]; exact ⟨below_step H1.out.1 (al_below _ _), al_below _ _⟩⟩
  have HMV := Aside0.mk mv_one
  clear hwa
  go_upto_region 3 with (first
    | (refine wpList_store_row rfl 33 (.tmp 3) (.tmp 23) rfl w2.heap.size (MVc mEx A1 c1) (by rfl) (by rfl) 33 _ H2.out.2 inf33 rfl (mv_one _ _ _) ?_)
    | (go_at_call 18; rw [← HWA.out]; refine (dec_ex _ _ _ HIA.out).mono ?_; rintro e w2 ⟨A1, c1, rfl, hb⟩; have H2 := Aside0.mk (And.intro hb (heap_alloc_new w2 (.cells (MVc zMsg none 0) 33 (0, 0)))); clear hb))
  obtain ⟨w3, hw3⟩ : ∃ w3, w3 = (w2.alloc (.cells (MVc zMsg none 0) 33 (0, 0))).setRow w2.heap.size (MVc mEx A1 c1) := ⟨_, rfl⟩
  have HW3 := Aside0.mk hw3
  rw [mv_zero] at HW3
  have H3 : Aside0 (Below w.heap.size w w3 ∧ In w3 Ab cb bM ∧ w3.heap[w2.heap.size]? = some (.cells (MVc mEx A1 c1) 33 (0, 0))) := ⟨by
    have h1 := below_step HBA.out.1 H2.out.1
    have h2 : Below w2.heap.size w2 w3 := by rw [hw3]; exact below_setRow (al_below _ _) (Nat.le_refl _) _
    refine ⟨below_step h1 h2, In.below (In.below (In.below H1.out.2 HBA.out.2) H2.out.1) h2, ?_⟩
    rw [hw3]
    exact setRow_blk H2.out.2 _⟩
  rw [← HW3.out]
  clear hw3 HW3 H2 HWA HIA HBA H1
  go_upto_region 4 with (go_at_call 27; refine (seg_ex _).mono ?_; rintro e w4 ⟨As, cs, rfl, hi, hb⟩; have H4 := Aside0.mk (And.intro (below_step H3.out.1 hb) (And.intro (In.below H3.out.2.1 hb) (And.intro (blk_keep hb H3.out.2.2) hi))); clear hi hb)
  obtain ⟨wa, hwa⟩ : ∃ wa, wa = w4.alloc (.cells #[.int .u8 3, .int .u8 1, .int .u8 2, .int .u8 1, .int .u8 107, .int .u8 10, .int .u8 0] 5 (0, 0)) := ⟨_, rfl⟩
  have HWA := Aside0.mk hwa
  have HIA : Aside0 (In wa (some ⟨w4.heap.size, 0, none⟩) 7 bQ) := ⟨by rw [hwa]; exact in_new w4 bQ _ _ rfl (by decide) bQ_B rfl⟩
  have HBA : Aside0 (Below w4.heap.size w4 wa) := ⟨by rw [hwa]; exact al_below _ _⟩
  clear hwa
  go_upto_region 5 with (go_at_call 33; rw [← HWA.out]; refine (req_ex _ _ _ HIA.out).mono ?_; rintro e w5 ⟨rfl, hb⟩; have H5 := Aside0.mk hb; clear hb)
  obtain ⟨w6, hw6⟩ : ∃ w6, w6 = (w5.alloc (.cells #[.int .i64 3, .int .i64 1] 27 (0, 0))).alloc (.cells #[.int .i64 2, .string ⟨#[107]⟩, .int .i64 5, .int .i64 0] 29 (0, 0)) := ⟨_, rfl⟩
  have HW6 := Aside0.mk hw6
  have H6 : Aside0 (Below w5.heap.size w5 w6 ∧ w6.heap[w5.heap.size]? = some (.cells #[.int .i64 3, .int .i64 1] 27 (0, 0)) ∧ w6.heap[w5.heap.size + 1]? = some (.cells #[.int .i64 2, .string ⟨#[107]⟩, .int .i64 5, .int .i64 0] 29 (0, 0))) := ⟨by
    rw [hw6]
    refine ⟨below_al2 w5 _ _, (Below.heap_alloc _ _ _ (by simp)).trans (heap_alloc_new w5 _), ?_⟩
    have := heap_alloc_new (w5.alloc (.cells #[.int .i64 3, .int .i64 1] 27 (0, 0))) (.cells #[.int .i64 2, .string ⟨#[107]⟩, .int .i64 5, .int .i64 0] 29 (0, 0))
    rwa [show (w5.alloc (.cells #[.int .i64 3, .int .i64 1] 27 (0, 0))).heap.size = w5.heap.size + 1 by simp] at this⟩
  rw [← HW6.out]
  clear hw6 HW6 HWA HIA
  have HK : Aside0 (Below w4.heap.size w4 w6) := ⟨below_step (below_step HBA.out H5.out) H6.out.1⟩
  go_upto_region 6 with (go_at_call 34; refine (rep_ex _).mono ?_; rintro e w7 ⟨Ar, cr, rfl, hi, hb⟩; have HF : Aside0 (AF w w7 Ab As Ar A1 cb cs cr c1 w2.heap.size w5.heap.size (w5.heap.size + 1)) := ⟨⟨below_step (below_step H4.out.1 HK.out) hb, In.below (In.below H4.out.2.1 HK.out) hb, In.below (In.below H4.out.2.2.2 HK.out) hb, hi, blk_keep hb (blk_keep HK.out H4.out.2.2.1), blk_keep hb H6.out.2.1, blk_keep hb H6.out.2.2⟩⟩; clear hi hb)
  clear H3 H4 H5 H6 HK HBA
  go_wp2_with (first
    | (go_at_call 37; refine (alike_ex Ab cb _ _ bM 7 rfl _ (AF.new HF.out _).b (in_new _ bM _ _ rfl (by decide) bM_B rfl)).mono ?_; rintro e wx ⟨rfl, hb⟩; have n0_ := Aside0.mk (AF.below (AF.new HF.out _) hb); clear HF hb; have HF := n0_; clear n0_; have km0 : wx.cell? ⟨w2.heap.size, 0, none⟩ = some (.int .i64 3) := (blk_cell HF.out.m 0).trans rfl; have km2 : wx.cell? ⟨w2.heap.size, 2, none⟩ = some (.int .i64 10) := (blk_cell HF.out.m 2).trans rfl; have km4 : wx.cell? ⟨w2.heap.size, 4, none⟩ = some (.int .i64 2) := (blk_cell HF.out.m 4).trans rfl; have kc0 : wx.cell? ⟨w5.heap.size, 0, none⟩ = some (.int .i64 3) := (blk_cell HF.out.c 0).trans rfl; have ko2 : wx.cell? ⟨w5.heap.size + 1, 2, none⟩ = some (.int .i64 5) := (blk_cell HF.out.o 2).trans rfl)
    | (go_at_call 37; refine (alike_ex As cs _ _ bS 5 rfl _ (AF.new HF.out _).s (in_new _ bS _ _ rfl (by decide) bS_B rfl)).mono ?_; rintro e wx ⟨rfl, hb⟩; clear km0 km2 km4 kc0 ko2; have n0_ := Aside0.mk (AF.below (AF.new HF.out _) hb); clear HF hb; have HF := n0_; clear n0_; have km0 : wx.cell? ⟨w2.heap.size, 0, none⟩ = some (.int .i64 3) := (blk_cell HF.out.m 0).trans rfl; have km2 : wx.cell? ⟨w2.heap.size, 2, none⟩ = some (.int .i64 10) := (blk_cell HF.out.m 2).trans rfl; have km4 : wx.cell? ⟨w2.heap.size, 4, none⟩ = some (.int .i64 2) := (blk_cell HF.out.m 4).trans rfl; have kc0 : wx.cell? ⟨w5.heap.size, 0, none⟩ = some (.int .i64 3) := (blk_cell HF.out.c 0).trans rfl; have ko2 : wx.cell? ⟨w5.heap.size + 1, 2, none⟩ = some (.int .i64 5) := (blk_cell HF.out.o 2).trans rfl)
    | (go_at_call 37; refine (alike_ex Ar cr _ _ bR 4 rfl _ (AF.new HF.out _).r (in_new _ bR _ _ rfl (by decide) bR_B rfl)).mono ?_; rintro e wx ⟨rfl, hb⟩; clear km0 km2 km4 kc0 ko2; have n0_ := Aside0.mk (AF.below (AF.new HF.out _) hb); clear HF hb; have HF := n0_; clear n0_; have km0 : wx.cell? ⟨w2.heap.size, 0, none⟩ = some (.int .i64 3) := (blk_cell HF.out.m 0).trans rfl; have km2 : wx.cell? ⟨w2.heap.size, 2, none⟩ = some (.int .i64 10) := (blk_cell HF.out.m 2).trans rfl; have km4 : wx.cell? ⟨w2.heap.size, 4, none⟩ = some (.int .i64 2) := (blk_cell HF.out.m 4).trans rfl; have kc0 : wx.cell? ⟨w5.heap.size, 0, none⟩ = some (.int .i64 3) := (blk_cell HF.out.c 0).trans rfl; have ko2 : wx.cell? ⟨w5.heap.size + 1, 2, none⟩ = some (.int .i64 5) := (blk_cell HF.out.o 2).trans rfl)
    | ((with_reducible refine gate_dst (N := 106) rfl ?_); refine gate_guard (by kernel_rfl) ?_; refine wpList_load_row rfl 33 (.tmp 3) rfl w2.heap.size (by rfl) 33 (MVc mEx A1 c1) (0, 0) _ HF.out.m Try.underlying33 rfl inf33 ?_)
    | (go_at_call 21; refine (val_ex _ A1 c1).mono ?_; rintro e wy ⟨rfl, hb⟩; have HE := Aside0.mk (below_step HF.out.bel hb); clear hb))
  go_ret
  exact ⟨rfl, HE.out⟩
end Go.Proofs.Ytpgdmmjbhjbbhaa.Lw
end
section
namespace Go.Proofs.Ytpgdmmjbhjbbhaa.Lw
open Go Go.RowKit Go.Proofs.Ytpgdmmjbhjbbhaa.P Go.Proofs.Ytpgdmmjbhjbbhaa.Sp Go.Proofs.Ytpgdmmjbhjbbhaa.Vd Go.Proofs.Ytpgdmmjbhjbbhaa.En Go.Proofs.Ytpgdmmjbhjbbhaa.Wr Go.Proofs.Ytpgdmmjbhjbbhaa.Rd Go.Proofs.YtpgdmmjbhjbbhaaW.PrintWords Go.Proofs.YtpgdmmjbhjbbhaaW.PrintLast Go.Proofs.YtpgdmmjbhjbbhaaW.PrintMore
set_option linter.unusedVariables false
set_option linter.unusedSimpArgs false
theorem rowV_get : ∀ (l : List S87) (j i : Nat) (p : S87), l[j]? = some p → i < 7 → (rowV l)[j * 7 + i]? = (vcells p)[i]?
  | [], j, i, p, h, hi => by simp at h
  | v :: r, 0, i, p, h, hi => by
    obtain rfl : v = p := by simpa using h
    show (vcells v ++ rowV r)[0 * 7 + i]? = _
    rw [Nat.zero_mul, Nat.zero_add, List.getElem?_append_left (by simpa [vcells] using hi)]
  | v :: r, j + 1, i, p, h, hi => by
    have h2 : r[j]? = some p := by simpa using h
    show (vcells v ++ rowV r)[(j + 1) * 7 + i]? = _
    have hl : (vcells v).length = 7 := rfl
    rw [List.getElem?_append_right (by omega), hl, show (j + 1) * 7 + i - 7 = j * 7 + i by omega]
    exact rowV_get r j i p h2 hi
theorem views_row {w : World} {vb : Nat} {xs : List S87} (h : w.heap[vb]? = some (.cells (rowV xs).toArray 87 (0, 0))) (hl : xs.length ≤ 1000000) : Kd.C k87 w (some ⟨vb, 0, none⟩) xs.length xs := by
  refine ⟨rfl, by omega, fun _ => ⟨_, rfl, fun j p hj => ⟨vcells p, rfl, k87_mk w p, fun i u hu => ?_⟩⟩⟩
  rw [add_plain, cell_of_row _ vb _ _ _ (0, 0) h]
  have hi : i < 7 := by have := (List.getElem?_eq_some_iff.1 hu).1; simpa [vcells] using this
  have := rowV_get xs j i p hj hi
  rw [List.getElem?_toArray]
  exact this.trans hu
theorem two_blocks (w : World) (a b : Obj) : ((w.alloc a).alloc b).heap[w.heap.size]? = some a ∧ ((w.alloc a).alloc b).heap[w.heap.size + 1]? = some b := by
  refine ⟨(Below.heap_alloc _ _ _ (by simp)).trans (heap_alloc_new w _), ?_⟩
  have := heap_alloc_new (w.alloc a) b
  rwa [show (w.alloc a).heap.size = w.heap.size + 1 by simp] at this
end Go.Proofs.Ytpgdmmjbhjbbhaa.Lw
end
