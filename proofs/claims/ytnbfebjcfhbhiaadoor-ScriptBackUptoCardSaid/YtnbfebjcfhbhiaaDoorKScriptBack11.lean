/- texts that the proof needs, laid together by a program of this session. -/
import Derived.Deep.Slices
import Derived.Test.YtnbfebjcfhbhiaaDoorKScriptBack10
section
namespace Go.Proofs.YtnbfebjcfhbhiaaDoor.Sc
open Go.Proofs.YtnbfebjcfhbhiaaDoor.Bw Go.Proofs.YtnbfebjcfhbhiaaDoor.Lw
set_option linter.unusedVariables false
set_option linter.unusedSimpArgs false
def joinW : List By → By
  | [] => []
  | w :: ws => w ++ beh ws
def wordsS (x : St) : List By := (tellStep x.kind x).2.1
theorem zeroAll_st0 (ps : List Part) (k : Int) : zeroAll ps (st0 k) = st0 k := by
  induction ps with
  | nil => rfl
  | cons q ps ih => show zeroAll ps ((st0 k).zero q) = _; rw [show (st0 k).zero q = st0 k by cases q <;> rfl, ih]
def St.okTo (x : St) (v : Int) : St := { x with ok := v }
theorem zeroAll_ok (ps : List Part) (x : St) (v : Int) : zeroAll ps (x.okTo v) = (zeroAll ps x).okTo v := by
  induction ps generalizing x with
  | nil => rfl
  | cons q ps ih => show zeroAll ps ((x.okTo v).zero q) = (zeroAll ps (x.zero q)).okTo v; rw [← ih]; cases q <;> rfl
theorem zeroAll_comm (ps qs : List Part) (x : St) : zeroAll ps (zeroAll qs x) = zeroAll qs (zeroAll ps x) := by
  induction qs generalizing x with
  | nil => rfl
  | cons q qs ih => show zeroAll ps (zeroAll qs (x.zero q)) = zeroAll qs ((zeroAll ps x).zero q); rw [ih, zeroAll_zero]
theorem rsn_ext {x y : St} (h : zeroAll rsn x = zeroAll rsn y) (hr : x.get .r = y.get .r) (hs : x.get .s = y.get .s) (hn : x.get .n = y.get .n) : x = y := by
  cases x; cases y
  simp [zeroAll, rsn, St.zero, St.set, St.get] at *
  simp [*]
end Go.Proofs.YtnbfebjcfhbhiaaDoor.Sc
end
section
namespace Go.Proofs.YtnbfebjcfhbhiaaDoor.Sc
open Go.Proofs.YtnbfebjcfhbhiaaDoor.Bw Go.Proofs.YtnbfebjcfhbhiaaDoor.Lw
set_option linter.unusedVariables false
set_option linter.unusedSimpArgs false
theorem good_kind {y : St} (h : goodL y = true) : ∃ f : Nat, f < 15 ∧ y.kind = (f : Int) + 1 := by
  unfold goodL at h
  simp only [Bool.and_eq_true] at h
  obtain ⟨g, hg, e⟩ := tellF_some tellOps y.kind y stepFs h.1
  have := stepFs_f2 g hg
  exact ⟨(y.kind - 1).toNat, by omega, by omega⟩
theorem good_op {y : St} (h : goodL y = true) (hk : y.kind = 1) : ∃ g : Nat, g < 11 ∧ y.ok = (g : Int) + 1 := by
  unfold goodL at h
  simp only [Bool.and_eq_true] at h
  rw [hk] at h
  have e := tellS_at tellOps y ⟨0, by decide⟩
  have h1 : (tellG tellOps [.r, .s, .n, .o] y).1 = true := by
    have h2 : (tellStep 1 y).1 = (tellG tellOps (stepParts 0) y).1 := congrArg (·.1) e
    rw [h2] at h
    exact h.1
  rw [tellG_cons _ _ (by decide), tellG_cons _ _ (by decide), tellG_cons _ _ (by decide)] at h1
  have h2 : (tellOps (zeroAll rsn y)).1 = true := by
    by_cases hc : (tellOps (((y.zero .r).zero .s).zero .n)).1 = true
    · exact hc
    · simp only [tellG] at h1
      rw [if_neg hc] at h1
      cases h1
  unfold tellOps at h2
  rw [ok_all] at h2
  obtain ⟨g, hg, e⟩ := tellF_some tell0 y.ok _ opFs h2
  have := opFs_f2 g hg
  exact ⟨(y.ok - 1).toNat, by omega, by omega⟩
theorem step_full {y : St} {r : By} (hg : goodL y = true) (hi : ∀ p, inI (y.get p)) (hr : Bd r) : stepP (joinW (wordsS y) ++ r) = .good y r := by
  obtain ⟨f, hf, hk⟩ := good_kind hg
  by_cases h0 : f = 0
  · subst h0
    have hk1 : y.kind = 1 := hk
    obtain ⟨g, hg2, hok⟩ := good_op hg hk1
    obtain ⟨f1, f2, f3, f4, f5⟩ := opParts_fine ⟨g, hg2⟩
    simp only at f1 f2 f3 f4 f5
    have ht := tell_call y g hg2 hok
    have hw : wordsS y = stepWs.getD 0 [] :: (rsn.map (partW y) ++ (opWs.getD g [] :: (opParts g).map (partW y))) := by
      unfold wordsS; rw [hk1, ht]
    have hb : (zeroAll (opParts g) (zeroAll rsn y)).okTo 0 = st0 1 := by
      unfold goodL at hg
      simp only [Bool.and_eq_true] at hg
      rw [hk1, ht] at hg
      have h3 : (zeroAll (opParts g) (zeroAll rsn y)).okTo 0 = st0 ((zeroAll (opParts g) (zeroAll rsn y)).okTo 0).kind := blank_st0 hg.2
      have h4 : ((zeroAll (opParts g) (zeroAll rsn y)).okTo 0).kind = 1 := by
        show (zeroAll (opParts g) (zeroAll rsn y)).kind = 1
        rw [kind_all, kind_all, hk1]
      rw [h4] at h3
      exact h3
    have hv : zeroAll (opParts g) (zeroAll rsn y) = (st0 1).okTo ((g : Int) + 1) := by
      have h5 : (zeroAll (opParts g) (zeroAll rsn y)).ok = (g : Int) + 1 := by rw [ok_all, ok_all, hok]
      rw [← hb, ← h5]; rfl
    obtain ⟨x1, hx1⟩ : ∃ x1 : St, x1 = { st0 1 with rep := y.rep, ses := y.ses, id := y.id } := ⟨_, rfl⟩
    have e1 : zeroAll rsn x1 = zeroAll rsn (st0 1) := by rw [hx1]; rfl
    have e2 : rsn.map (partW y) = rsn.map (partW x1) := by rw [hx1]; rfl
    have e3 : ∀ p ∈ rsn, x1.get p = y.get p := by
      intro p hp
      simp only [rsn, List.mem_cons, List.not_mem_nil, or_false] at hp
      rw [hx1]
      rcases hp with rfl | rfl | rfl <;> rfl
    have e4 : zeroAll (opParts g) y = zeroAll (opParts g) (x1.okTo ((g : Int) + 1)) := by
      have hget : ∀ p ∈ rsn, p ∉ opParts g → (zeroAll (opParts g) y).get p = (zeroAll (opParts g) (x1.okTo ((g : Int) + 1))).get p := fun p hp hn => by
        rw [get_all hn, get_all hn, show (x1.okTo ((g : Int) + 1)).get p = x1.get p by cases p <;> rfl, e3 p hp]
      refine rsn_ext ?_ (hget _ (by decide) f3) (hget _ (by decide) f4) (hget _ (by decide) f5)
      rw [zeroAll_comm, hv, zeroAll_comm, zeroAll_ok, e1, zeroAll_ok, zeroAll_st0, zeroAll_st0]
    rw [hw]
    show stepP (stepWs.getD 0 [] ++ beh _ ++ r) = _
    rw [List.append_assoc]
    refine bnd_good_iff.2 ⟨0, _, one_full pf_step nd_step (by decide) _, ?_⟩
    rw [call_go, beh_append, beh_cons, e2, List.append_assoc]
    refine bnd_good_iff.2 ⟨x1, _, op_full rsn (st0 1) x1 _ rsn_fine.1 rsn_fine.2 e1 (fun p hp => by rw [e3 p hp]; exact hi p) (.cons _), ?_⟩
    refine bnd_good_iff.2 ⟨(), _, byte_good.2 (List.cons_append ..), ?_⟩
    rw [List.append_assoc]
    exact bnd_good_iff.2 ⟨g, _, one_full pf_op nd_op hg2 _, op_full (opParts g) (x1.okTo ((g : Int) + 1)) y r f1 f2 e4 (fun p _ => hi p) hr⟩
  · obtain ⟨f1, f2⟩ := stepParts_fine ⟨f, hf⟩ h0
    simp only at f1 f2
    have ht := tell_other y f hf h0
    have hb : zeroAll (stepParts f) y = st0 ((f : Int) + 1) := by
      unfold goodL at hg
      simp only [Bool.and_eq_true] at hg
      rw [hk, ht] at hg
      have h3 := blank_st0 hg.2
      simp only at h3
      rw [kind_all, hk] at h3
      exact h3
    have hw : wordsS y = stepWs.getD f [] :: (stepParts f).map (partW y) := by
      unfold wordsS; rw [hk, ht]
    rw [hw]
    show stepP (stepWs.getD f [] ++ beh _ ++ r) = _
    rw [List.append_assoc]
    refine bnd_good_iff.2 ⟨f, _, one_full pf_step nd_step hf _, ?_⟩
    rw [partGo_op _ _ _ f2]
    exact op_full _ _ _ _ f1 f2 (by rw [hb, zeroAll_st0]) (fun p _ => hi p) hr
theorem named_cod (w : By) : Cod (namedP w) (fun n => w ++ 32 :: numW n) inI where
  sound l x r h := by
    obtain ⟨i, l1, h1, k1⟩ := bnd_good_iff.1 h
    obtain ⟨_, l2, h2, k2⟩ := bnd_good_iff.1 k1
    obtain ⟨hi, rfl⟩ := one_sound h1
    have : i = 0 := by simpa using hi
    subst this
    obtain ⟨g1, g2⟩ := num_cod.sound _ _ _ k2
    refine ⟨?_, g2⟩
    rw [byte_good.1 h2, g1]; simp
  full x r hv hr := by
    show namedP w ((w ++ 32 :: numW x) ++ r) = _
    rw [List.append_assoc]
    refine bnd_good_iff.2 ⟨0, _, one_full (ws := [w]) (i := 0) (pf_one w) (by simp) (by simp) _, ?_⟩
    exact bnd_good_iff.2 ⟨(), _, byte_good.2 (List.cons_append ..), num_cod.full x r hv hr⟩
def cfgB (ws : List By) (c : List Int) : By := (ws.zip c).flatMap fun p => 32 :: (p.1 ++ 32 :: numW p.2)
theorem cfgGo_cod : ∀ ws : List By, Cod (cfgGo ws) (cfgB ws) (fun c => c.length = ws.length ∧ ∀ x ∈ c, inI x)
  | [] => {
    sound := fun l x r h => by
      injection h with h1 h2
      subst h1 h2
      exact ⟨rfl, rfl, fun _ h => by cases h⟩
    full := fun x r hv hr => by
      obtain ⟨h1, _⟩ := hv
      cases x with
      | nil => rfl
      | cons a x => simp at h1 }
  | w :: ws => {
    sound := fun l x r h => by
      rw [cfgGo] at h
      obtain ⟨_, l1, h1, h⟩ := bnd_good_iff.1 h
      obtain ⟨n, l2, h2, h⟩ := bnd_good_iff.1 h
      obtain ⟨y, l3, h3, h4⟩ := bnd_good_iff.1 h
      injection h4 with h4 h5
      subst h4 h5
      obtain ⟨g1, g2⟩ := (named_cod w).sound _ _ _ h2
      obtain ⟨k1, k2, k3⟩ := (cfgGo_cod ws).sound _ _ _ h3
      refine ⟨?_, by simp [k2], fun z hz => ?_⟩
      · rw [byte_good.1 h1, g1, k1]; simp [cfgB]
      · rcases List.mem_cons.1 hz with rfl | hz
        · exact g2
        · exact k3 z hz
    full := fun x r hv hr => by
      obtain ⟨h1, h2⟩ := hv
      cases x with
      | nil => simp at h1
      | cons n x =>
        have e : cfgB (w :: ws) (n :: x) ++ r = 32 :: ((w ++ 32 :: numW n) ++ (cfgB ws x ++ r)) := by simp [cfgB]
        have hb : Bd (cfgB ws x ++ r) := by
          unfold cfgB
          cases hz : ws.zip x with
          | nil => exact hr
          | cons p q => exact .cons _
        rw [e, cfgGo]
        refine bnd_good_iff.2 ⟨(), _, byte_good.2 rfl, ?_⟩
        refine bnd_good_iff.2 ⟨n, _, (named_cod w).full n _ (h2 n (.head _)) hb, ?_⟩
        exact bnd_good_iff.2 ⟨x, _, (cfgGo_cod ws).full x r ⟨by simpa using h1, fun z hz => h2 z (.tail _ hz)⟩ hr, rfl⟩ }
end Go.Proofs.YtnbfebjcfhbhiaaDoor.Sc
end
section
namespace Go.Proofs.YtnbfebjcfhbhiaaDoor.Sc
set_option linter.unusedVariables false
set_option linter.unusedSimpArgs false
end Go.Proofs.YtnbfebjcfhbhiaaDoor.Sc
end
section
namespace Go.Proofs.YtnbfebjcfhbhiaaDoor.Sc
open Go.Proofs.YtnbfebjcfhbhiaaDoor.Bw Go.Proofs.YtnbfebjcfhbhiaaDoor.Lw
set_option linter.unusedVariables false
set_option linter.unusedSimpArgs false
theorem addWs_true : ∀ (ws : List By) (t : By), addWs (t, true) ws = (t ++ beh ws, true)
  | [], t => by simp [addWs, beh]
  | w :: ws, t => by
    show addWs (addW (t, true) w) ws = _
    have : addW (t, true) w = (t ++ 32 :: w, true) := rfl
    rw [this, addWs_true ws, beh_cons]; simp
theorem addWs_false {ws : List By} (h : ws ≠ []) (t : By) : addWs (t, false) ws = (t ++ joinW ws, true) := by
  cases ws with
  | nil => exact absurd rfl h
  | cons w ws =>
    show addWs (addW (t, false) w) ws = _
    have : addW (t, false) w = (t ++ w, true) := rfl
    rw [this, addWs_true]; simp [joinW]
theorem cfg_words {c : List Int} (h : c.length = 10) : cfgTell c ≠ [] ∧ joinW (cfgTell c) = (cfgW0 ++ 32 :: numW (c.getD 0 0)) ++ cfgB cfgWs c.tail := by
  match c, h with
  | [a0, a1, a2, a3, a4, a5, a6, a7, a8, a9], _ =>
    refine ⟨by simp [cfgTell, cfgTellN, List.range_succ], ?_⟩
    simp [cfgTell, cfgTellN, List.range_succ, joinW, beh, cfgB, cfgWs, cfgW, cfgW0]
theorem cfg_cod : Cod cfgP (fun c => joinW (cfgTell c)) (fun c => c.length = 10 ∧ ∀ x ∈ c, inI x) where
  sound l x r h := by
    obtain ⟨n, l1, h1, k1⟩ := bnd_good_iff.1 h
    obtain ⟨y, l2, h2, k2⟩ := bnd_good_iff.1 k1
    injection k2 with h3 h4
    subst h3 h4
    obtain ⟨g1, g2⟩ := (named_cod cfgW0).sound _ _ _ h1
    obtain ⟨j1, j2, j3⟩ := (cfgGo_cod cfgWs).sound _ _ _ h2
    have hl : (n :: y).length = 10 := by rw [List.length_cons, j2]; rfl
    refine ⟨?_, hl, fun z hz => ?_⟩
    · rw [(cfg_words hl).2, g1, j1]; simp
    · rcases List.mem_cons.1 hz with rfl | hz
      · exact g2
      · exact j3 z hz
  full x r hv hr := by
    obtain ⟨h1, h2⟩ := hv
    show cfgP (joinW (cfgTell x) ++ r) = _
    rw [(cfg_words h1).2, List.append_assoc]
    cases x with
    | nil => simp at h1
    | cons n y =>
      have hb : Bd (cfgB cfgWs y ++ r) := by
        unfold cfgB
        cases hz : cfgWs.zip y with
        | nil => exact hr
        | cons p q => exact .cons _
      refine bnd_good_iff.2 ⟨n, _, (named_cod cfgW0).full n _ (h2 n (.head _)) hb, ?_⟩
      exact bnd_good_iff.2 ⟨y, _, (cfgGo_cod cfgWs).full y r ⟨(show y.length = 9 by simpa using h1), fun z hz => h2 z (.tail _ hz)⟩ hr, rfl⟩
/-- The text of steps. -/
def stepsT (l : List St) : By := l.flatMap fun x => joinW (wordsS x) ++ [10]
theorem words_ne {x : St} (h : goodL x = true) : ∃ w ws, wordsS x = w :: ws ∧ w ∈ stepWs := by
  obtain ⟨f, hf, hk⟩ := good_kind h
  have e := tellS_at tellOps x ⟨f, hf⟩
  have hw : wordsS x = stepWs.getD f [] :: (tellG tellOps (stepParts f) x).2.1 := by
    unfold wordsS
    rw [hk]
    exact congrArg (·.2.1) e
  refine ⟨_, _, hw, ?_⟩
  have hf2 : f < stepWs.length := hf
  rw [List.getD_eq_getElem?_getD, List.getElem?_eq_getElem hf2]
  exact List.getElem_mem hf2
theorem printGo_some : ∀ (l : List St) (t : By) (s : TS), printGo l (t, false) = some s → (∀ x ∈ l, goodL x = true) ∧ s = (t ++ stepsT l, false)
  | [], t, s, h => by
    have : (t, false) = s := Option.some.inj h
    rw [← this]
    exact ⟨fun _ h => (by cases h), by simp [stepsT]⟩
  | x :: l, t, s, h => by
    rw [printGo] at h
    by_cases hg : goodL x = true
    · rw [if_pos hg] at h
      obtain ⟨w, ws, hw, _⟩ := words_ne hg
      have e : endL (addWs (t, false) (tellStep x.kind x).2.1) = (t ++ (joinW (wordsS x) ++ [10]), false) := by
        show endL (addWs (t, false) (wordsS x)) = _
        rw [addWs_false (by rw [hw]; simp)]; simp [endL]
      rw [e] at h
      obtain ⟨h1, h2⟩ := printGo_some l _ s h
      refine ⟨fun y hy => ?_, ?_⟩
      · rcases List.mem_cons.1 hy with rfl | hy
        · exact hg
        · exact h1 y hy
      · rw [h2]; simp [stepsT]
    · rw [if_neg hg] at h; cases h
theorem cfgTS_eq {c : List Int} (h : c.length = 10) : cfgTS c = (joinW (cfgTell c) ++ [10], false) := by
  unfold cfgTS
  rw [addWs_false (cfg_words h).1]; simp [endL]
def NoNl (l : By) : Prop := ∀ c ∈ l, c ≠ 10
theorem NoNl.append {a b : By} (ha : NoNl a) (hb : NoNl b) : NoNl (a ++ b) := fun c hc => (List.mem_append.1 hc).elim (ha c) (hb c)
end Go.Proofs.YtnbfebjcfhbhiaaDoor.Sc
end
section
namespace Go.Proofs.YtnbfebjcfhbhiaaDoor.Sc
open Go Go.RowKit Go.Proofs.YtnbfebjcfhbhiaaDoor.P Go.Proofs.YtnbfebjcfhbhiaaDoor.Bw Go.Proofs.YtnbfebjcfhbhiaaDoor.Lw Go.Proofs.YtnbfebjcfhbhiaaDoorW.PrintWords
set_option linter.unusedVariables false
set_option linter.unusedSimpArgs false
theorem NoNl.cons {c : UInt8} {l : By} (h : c ≠ 10) (hl : NoNl l) : NoNl (c :: l) := fun x hx => by
  rcases List.mem_cons.1 hx with rfl | hx
  · exact h
  · exact hl x hx
theorem NoNl.nil : NoNl [] := fun _ h => by cases h
theorem nonl_dig {d : Nat} (h : d < 10) : UInt8.ofNat (48 + d) ≠ 10 := fun e => by
  have := (dig_of h).1
  rw [e] at this
  have h10 : (10 : UInt8).toNat = 10 := rfl
  omega
theorem nonl_dec (m : Nat) : NoNl (Lib.decDigits m) := by
  induction m using Nat.strongRecOn with
  | ind k ih =>
    by_cases hk : k < 10
    · rw [Lib.decDigits_one hk]; exact .cons (nonl_dig hk) .nil
    · have e := dec_snoc (m := k / 10) (d := k % 10) (by omega) (Nat.mod_lt _ (by decide))
      rw [show 10 * (k / 10) + k % 10 = k by omega] at e
      rw [e]
      exact (ih (k / 10) (by omega)).append (.cons (nonl_dig (Nat.mod_lt _ (by decide))) .nil)
theorem nonl_num (n : Int) : NoNl (numW n) := by
  unfold numW Lib.itoa
  split
  · exact .cons (by decide) (nonl_dec _)
  · exact nonl_dec _
theorem nonl_sign (c : UInt8) : NoNl (signB c) := by
  unfold signB
  by_cases h : plainB c = true
  · rw [if_pos h]
    refine .cons (fun e => ?_) .nil
    subst e
    exact absurd h (by decide)
  · rw [if_neg h]
    have key : ∀ n : Fin 16, hexD n.val ≠ 10 := by decide
    have h1 : c.toNat / 16 < 16 := by have := c.toNat_lt; omega
    exact .cons (by decide) (.cons (key ⟨_, h1⟩) (.cons (key ⟨_, Nat.mod_lt _ (by decide)⟩) .nil))
theorem nonl_flat {α : Type} {f : α → By} : ∀ (l : List α), (∀ x ∈ l, NoNl (f x)) → NoNl (l.flatMap f)
  | [], _ => .nil
  | x :: l, h => by rw [List.flatMap_cons]; exact (h x (.head _)).append (nonl_flat l (fun y hy => h y (.tail _ hy)))
theorem nonl_text (b : By) : NoNl (textW b) := by
  unfold textW
  split
  · exact .cons (by decide) .nil
  · exact nonl_flat b (fun c _ => nonl_sign c)
theorem nonl_part (x : St) (p : Part) : NoNl (partW x p) := by
  cases p <;> first | exact nonl_text _ | exact nonl_num _
theorem nonl_G {rec : St → Bool × List By × St} (hr : ∀ x, ∀ w ∈ (rec x).2.1, NoNl w) : ∀ (ps : List Part) (x : St), ∀ w ∈ (tellG rec ps x).2.1, NoNl w
  | [], x, w, h => by cases h
  | p :: ps, x, w, h => by
    by_cases hp : p = .o
    · subst hp
      simp only [tellG] at h
      split at h
      · rcases List.mem_append.1 h with h | h
        · exact hr x w h
        · exact nonl_G hr ps _ w h
      · exact hr x w h
    · rw [tellG_cons rec p hp] at h
      rcases List.mem_cons.1 h with rfl | h
      · exact nonl_part _ _
      · exact nonl_G hr ps _ w h
theorem nonl_F {rec : St → Bool × List By × St} (hr : ∀ x, ∀ w ∈ (rec x).2.1, NoNl w) (k : Int) (x : St) : ∀ fs : List S153, (∀ f ∈ fs, NoNl (bs f.f0)) → ∀ w ∈ (tellF rec fs k x).2.1, NoNl w
  | [], _, w, h => by cases h
  | f :: fs, hf, w, h => by
    rw [tellF] at h
    split at h
    · rcases List.mem_cons.1 h with rfl | h
      · exact hf f (.head _)
      · exact nonl_G hr _ _ w h
    · exact nonl_F hr k x fs (fun g hg => hf g (.tail _ hg)) w h
theorem nonl_fs {fs : List S153} (h : (fs.all fun f => (bs f.f0).all fun c => c != 10) = true) : ∀ f ∈ fs, NoNl (bs f.f0) := fun f hf c hc => by
  have := List.all_eq_true.1 (List.all_eq_true.1 h f hf) c hc
  simpa using this
theorem nonl_words (x : St) : ∀ w ∈ wordsS x, NoNl w :=
  nonl_F (fun y => nonl_F (rec := tell0) (fun _ _ h => nomatch h) _ _ opFs (nonl_fs (by decide +kernel))) _ _ stepFs (nonl_fs (by decide +kernel))
theorem nonl_join {ws : List By} (h : ∀ w ∈ ws, NoNl w) : NoNl (joinW ws) := by
  cases ws with
  | nil => exact .nil
  | cons w ws => exact (h w (.head _)).append (nonl_flat ws (fun v hv => .cons (by decide) (h v (.tail _ hv))))
theorem nonl_cfg (c : List Int) : NoNl (joinW (cfgTell c)) := by
  refine nonl_join (fun w hw => ?_)
  unfold cfgTell cfgTellN at hw
  obtain ⟨j, hj, hw⟩ := List.mem_flatMap.1 hw
  simp only [List.mem_cons, List.not_mem_nil, or_false] at hw
  rcases hw with rfl | rfl
  · have key : ∀ j : Fin 10, ((cfgW j.val).all fun c => c != 10) = true := by decide +kernel
    have := key ⟨j, List.mem_range.1 hj⟩
    intro c hc
    simpa using List.all_eq_true.1 this c hc
  · exact nonl_num _
theorem step_head {x : St} (h : goodL x = true) : joinW (wordsS x) ≠ [] ∧ ¬ (joinW (wordsS x)).head? = some 35 := by
  obtain ⟨w, ws, hw, hm⟩ := words_ne h
  have key : ∀ w ∈ stepWs, w ≠ [] ∧ ¬ w.head? = some 35 := by decide
  obtain ⟨h1, h2⟩ := key w hm
  rw [hw]
  cases w with
  | nil => exact absurd rfl h1
  | cons c w => exact ⟨by simp [joinW], by simpa [joinW] using h2⟩
theorem cfg_head {c : List Int} (h : c.length = 10) : joinW (cfgTell c) ≠ [] ∧ ¬ (joinW (cfgTell c)).head? = some 35 := by
  rw [(cfg_words h).2]
  exact ⟨by simp [cfgW0], by simp [cfgW0]⟩
theorem lineE_full {α : Type} {p : Rd α} {t : By} {x : α} (h : p t = .good x []) : lineE p t true = .ok x := by simp [lineE, h]
theorem steps_go (c : List Int) : ∀ (l : List St) (i : Nat) (out : List St), (∀ x ∈ l, goodL x = true ∧ ∀ p, inI (x.get p)) →
    parseGo (lines (stepsT l)) i (some c) out = if 20000 < (out ++ l).length then .long else .ok c (out ++ l)
  | [], i, out, h => by simp [stepsT, lines, parseGo]
  | x :: l, i, out, h => by
    obtain ⟨hg, hi⟩ := h x (.head _)
    obtain ⟨h1, h2⟩ := step_head hg
    have e : stepsT (x :: l) = joinW (wordsS x) ++ 10 :: stepsT l := by simp [stepsT]
    rw [e, lines_nl _ _ (nonl_join (nonl_words x))]
    have hs := step_full (r := []) hg hi .nil
    rw [List.append_nil] at hs
    rw [parseGo, if_neg h2, if_neg h1]
    simp only [lineE_full hs]
    rw [steps_go c l (i + 1) (out ++ [x]) (fun y hy => h y (.tail _ hy))]
    simp
theorem back_law {c : List Int} {l : List St} (hc : c.length = 10) (hci : ∀ x ∈ c, inI x) (hl : ∀ x ∈ l, goodL x = true ∧ ∀ p, inI (x.get p)) (hn : l.length ≤ 20000) (ht : ((joinW (cfgTell c) ++ [10]) ++ stepsT l).length ≤ 1048576) :
    parse ((joinW (cfgTell c) ++ [10]) ++ stepsT l) = .ok c l := by
  unfold parse
  rw [if_neg (by omega), List.append_assoc]
  show parseGo (lines (joinW (cfgTell c) ++ 10 :: stepsT l)) 0 none [] = _
  rw [lines_nl _ _ (nonl_cfg c)]
  obtain ⟨h1, h2⟩ := cfg_head hc
  have hs := cfg_cod.full c [] ⟨hc, hci⟩ .nil
  rw [List.append_nil] at hs
  rw [parseGo, if_neg h2, if_neg h1]
  simp only [lineE_full hs]
  rw [steps_go c l _ [] hl, List.nil_append, if_neg (by omega)]
/-- What Print answers without an error reads as it was. -/
theorem print_back {c : List Int} {l : List St} {t : By} (hc : c.length = 10) (hci : ∀ x ∈ c, inI x) (hl : ∀ x ∈ l, ∀ p, inI (x.get p)) (h : printR c l = (t, 0)) : parse t = .ok c l ∧ t.length ≤ 1048576 := by
  unfold printR at h
  by_cases hn : 20000 < l.length
  · rw [if_pos hn] at h; cases h
  · rw [if_neg hn, cfgTS_eq hc] at h
    cases hp : printGo l (joinW (cfgTell c) ++ [10], false) with
    | none => rw [hp] at h; cases h
    | some s =>
      rw [hp] at h
      obtain ⟨h1, rfl⟩ := printGo_some _ _ _ hp
      simp only at h
      by_cases hb : 1048576 < ((joinW (cfgTell c) ++ [10]) ++ stepsT l).length
      · rw [if_pos hb] at h; cases h
      · rw [if_neg hb] at h
        injection h with h2 _
        subst h2
        exact ⟨back_law hc hci (fun x hx => ⟨h1 x hx, hl x hx⟩) (by omega) (by omega), by omega⟩
theorem print_errs (c : List Int) (l : List St) : (printR c l).2 = 0 ∨ ((printR c l).1 = [] ∧ ((printR c l).2 = 1 ∨ (printR c l).2 = 2)) := by
  unfold printR
  split
  · exact .inr ⟨rfl, .inr rfl⟩
  · split
    · exact .inr ⟨rfl, .inl rfl⟩
    · split
      · exact .inr ⟨rfl, .inr rfl⟩
      · exact .inl rfl
end Go.Proofs.YtnbfebjcfhbhiaaDoor.Sc
end
section
namespace Go.Proofs.YtnbfebjcfhbhiaaDoor.Sc
open Go Go.RowKit Go.Proofs.YtnbfebjcfhbhiaaDoor.P Go.Proofs.YtnbfebjcfhbhiaaDoorW.PrintWords Go.Proofs.YtnbfebjcfhbhiaaDoorW.PrintLast Go.Proofs.YtnbfebjcfhbhiaaDoorW.PrintMore
set_option linter.unusedVariables false
set_option linter.unusedSimpArgs false
theorem alike_go (l : List S48) (hl : l.length ≤ 4611686018427387904) : ∀ n i : Nat, i + n = l.length → Ev (fun k => sluicelaw18_alike.l0 k l l (i : Int)) true := by
  intro n
  induction n with
  | zero =>
    intro i hi
    refine Ev.step (f := fun _ => some true) (fun k => ?_) (Ev.now _)
    rw [sluicelaw18_alike.l0, if_neg (by omega)]
  | succ n ih =>
    intro i hi
    have h := ih (i + 1) (by omega)
    have e : wrap64 ((i : Int) + 1) = ((i + 1 : Nat) : Int) := by rw [w64 (by omega) (by omega)]; omega
    refine Ev.step (fun k => ?_) h
    rw [sluicelaw18_alike.l0, if_pos (by omega), if_pos (by omega), if_pos (by omega), e]
    simp [sluicelaw18_same.f]
theorem alike_ev (l : List S48) (hl : l.length ≤ 4611686018427387904) : Ev (fun k => sluicelaw18_alike.f k l l) true := by
  have h := alike_go l hl l.length 0 (by omega)
  exact Ev.congr (fun k => by unfold sluicelaw18_alike.f; rw [if_pos rfl]; rfl) h
end Go.Proofs.YtnbfebjcfhbhiaaDoor.Sc
end
section
namespace Go.Proofs.YtnbfebjcfhbhiaaDoor.Bw
open Go Go.RowKit Go.Proofs.YtnbfebjcfhbhiaaDoor.P Go.Proofs.YtnbfebjcfhbhiaaDoor.Sc Go.Proofs.YtnbfebjcfhbhiaaDoor.Lw Go.Proofs.YtnbfebjcfhbhiaaDoorW.PrintWords Go.Proofs.YtnbfebjcfhbhiaaDoorW.PrintLast Go.Proofs.YtnbfebjcfhbhiaaDoorW.PrintMore
set_option linter.unusedVariables false
set_option linter.unusedSimpArgs false
set_option maxHeartbeats 8000000 in
set_option maxRecDepth 100000 in
/-- Print answers an error. -/
theorem back_err (w : World) (a0 a1 a2 a3 a4 a5 a6 a7 a8 a9 : Int) (l : List St) (A : Option Addr) (cp : Nat) (hT : TB w) (hV : VS w) (hVC : VC w) (hci : ∀ i < 10, inI (([a0, a1, a2, a3, a4, a5, a6, a7, a8, a9] : List Int).getD i 0)) (hC : Kd.C k48 w A l.length (l.map stS)) (hf : ∀ x ∈ l, sfit x) (hB : (cfgTS [a0, a1, a2, a3, a4, a5, a6, a7, a8, a9]).1.length + lenL l ≤ 140737488355328) {e : Int} (he : e = 1 ∨ e = 2) (hp : printR [a0, a1, a2, a3, a4, a5, a6, a7, a8, a9] l = ([], e)) :
    Calls Tryd.prog 6 #[.agg #[.int .i64 a0, .int .i64 a1, .int .i64 a2, .int .i64 a3, .int .i64 a4, .int .i64 a5, .int .i64 a6, .int .i64 a7, .int .i64 a8, .int .i64 a9], .slice A l.length cp] w fun e w' => e = .returned (.bool true) ∧ Below w.heap.size w w' := by
  have HT := Aside0.mk hT
  have HV := Aside0.mk hV
  have HC := Aside0.mk hVC
  have HL := Aside0.mk hC
  have HI := Aside0.mk hci
  have HF := Aside0.mk hf
  have HBD := Aside0.mk hB
  have HP := Aside0.mk hp
  clear hT hV hVC hC hf hB hp hci
  go_enter Tryd.func6, Tryd.ntmps6
  go_upto_region 1 with fail
  obtain ⟨W0, hW0⟩ : ∃ W0, W0 = w.alloc (.cells #[.int .i64 a0, .int .i64 a1, .int .i64 a2, .int .i64 a3, .int .i64 a4, .int .i64 a5, .int .i64 a6, .int .i64 a7, .int .i64 a8, .int .i64 a9] 25 (0, 0)) := ⟨_, rfl⟩
  have HW0 := Aside0.mk hW0
  have H0 : Aside0 (Below w.heap.size w W0 ∧ W0.heap[w.heap.size]? = some (.cells #[.int .i64 a0, .int .i64 a1, .int .i64 a2, .int .i64 a3, .int .i64 a4, .int .i64 a5, .int .i64 a6, .int .i64 a7, .int .i64 a8, .int .i64 a9] 25 (0, 0))) := ⟨by rw [hW0]; exact ⟨(Below.refl _ _).alloc (Nat.le_refl _) _, heap_alloc_new _ _⟩⟩
  rw [← HW0.out]
  clear hW0
  go_upto_region 4 with (go_at_call 10; refine (alive_calls _ (HT.out.below H0.out.1) (HV.out.below H0.out.1) (HC.out.below H0.out.1)).mono ?_; rintro e w1 ⟨rfl, hb⟩; have HB1 := Aside0.mk hb; clear hb)
  have H1 : Aside0 (Below w.heap.size w w1 ∧ w1.heap[w.heap.size]? = some (.cells #[.int .i64 a0, .int .i64 a1, .int .i64 a2, .int .i64 a3, .int .i64 a4, .int .i64 a5, .int .i64 a6, .int .i64 a7, .int .i64 a8, .int .i64 a9] 25 (0, 0))) := ⟨H0.out.1.trans (HB1.out.mono H0.out.1.size), (HB1.out.block _ (blk_lt H0.out.2)).trans H0.out.2⟩
  have c0 : w1.cell? ⟨w.heap.size, 0, none⟩ = some (.int .i64 a0) := (blk_cell H1.out.2 0).trans rfl
  have c1 : w1.cell? ⟨w.heap.size, 1, none⟩ = some (.int .i64 a1) := (blk_cell H1.out.2 1).trans rfl
  have c2 : w1.cell? ⟨w.heap.size, 2, none⟩ = some (.int .i64 a2) := (blk_cell H1.out.2 2).trans rfl
  have c3 : w1.cell? ⟨w.heap.size, 3, none⟩ = some (.int .i64 a3) := (blk_cell H1.out.2 3).trans rfl
  have c4 : w1.cell? ⟨w.heap.size, 4, none⟩ = some (.int .i64 a4) := (blk_cell H1.out.2 4).trans rfl
  have c5 : w1.cell? ⟨w.heap.size, 5, none⟩ = some (.int .i64 a5) := (blk_cell H1.out.2 5).trans rfl
  have c6 : w1.cell? ⟨w.heap.size, 6, none⟩ = some (.int .i64 a6) := (blk_cell H1.out.2 6).trans rfl
  have c7 : w1.cell? ⟨w.heap.size, 7, none⟩ = some (.int .i64 a7) := (blk_cell H1.out.2 7).trans rfl
  have c8 : w1.cell? ⟨w.heap.size, 8, none⟩ = some (.int .i64 a8) := (blk_cell H1.out.2 8).trans rfl
  have c9 : w1.cell? ⟨w.heap.size, 9, none⟩ = some (.int .i64 a9) := (blk_cell H1.out.2 9).trans rfl
  have hse : (sb ([] : By)).toList.isEmpty = true := by rw [toList_bs, bs_sb]; rfl
  rcases he with rfl | rfl
  all_goals (
    go_wp2_with (first
      | (go_at_call 14; refine (print_calls _ [a0, a1, a2, a3, a4, a5, a6, a7, a8, a9] l A cp (HT.out.below H1.out.1) (HV.out.below H1.out.1) (HC.out.below H1.out.1) rfl HI.out (Kd.C_below HL.out H1.out.1) HF.out HBD.out).mono ?_; rw [HP.out]; rintro e w3 ⟨rfl, hb⟩; have HB3 := Aside0.mk hb; clear hb)
      | (go_at_call 15; refine (num_calls _ _).mono ?_; rintro e w' ⟨rfl, rfl⟩))
    go_ret
    exact ⟨by first | rfl | trivial, H1.out.1.trans (HB3.out.mono H1.out.1.size)⟩)
theorem parse_ok (w : World) (s : ByteArray) (hV : VS w) (hC : VC w) (hs : s.size ≤ 4611686018427387904) {c : List Int} {l : List St} (ho : Sc.parse (bs s) = .ok c l) :
    Calls Tryd.prog 16 #[.string s] w fun e w' => ∃ A cp, e = .returned (.tuple #[.agg (cfc c), .slice A l.length cp, .int .i64 0, .int .i64 0, .int .i64 0]) ∧ l.length ≤ cp ∧ Kd.C k48 w' A l.length (l.map stS) ∧ Below w.heap.size w w' := by
  refine (parse_calls w s hV hC hs).mono ?_
  rintro e w' ⟨hP, hb⟩
  rw [ho] at hP
  obtain ⟨v, rfl, _, hR⟩ := hP
  obtain ⟨A, cp, rfl, hcp, hC⟩ := Kd.R_reads hR
  rw [List.length_map] at hcp hC ⊢
  exact ⟨A, cp, rfl, hcp, hC, hb⟩
theorem alike_calls (w : World) (l : List St) (A A2 : Option Addr) (cp cp2 : Nat) {K : Nat} (hK : sluicelaw18_alike.f K (l.map stS) (l.map stS) = some true) (h1 : Kd.C k48 w A l.length (l.map stS)) (k1 : l.length ≤ cp) (h2 : Kd.C k48 w A2 l.length (l.map stS)) (k2 : l.length ≤ cp2) :
    Calls Tryd.prog 17 #[.slice A l.length cp, .slice A2 l.length cp2] w fun e w' => e = .returned (.bool true) ∧ Below w.heap.size w w' := by
  have := sluicelaw18_alike.calls K A cp (l.map stS) A2 cp2 (l.map stS) true w (by rw [List.length_map]; exact h1) (by rw [List.length_map]; exact k1) (by rw [List.length_map]; exact h2) (by rw [List.length_map]; exact k2) hK
  rw [List.length_map] at this
  exact this
set_option maxHeartbeats 8000000 in
set_option maxRecDepth 100000 in
/-- Print answers a text. -/
theorem back_ok (w : World) (a0 a1 a2 a3 a4 a5 a6 a7 a8 a9 : Int) (l : List St) (A : Option Addr) (cp : Nat) (hT : TB w) (hV : VS w) (hVC : VC w) (hci : ∀ i < 10, inI (([a0, a1, a2, a3, a4, a5, a6, a7, a8, a9] : List Int).getD i 0)) (hC : Kd.C k48 w A l.length (l.map stS)) (hcp : l.length ≤ cp) (hf : ∀ x ∈ l, sfit x) (hB : (cfgTS [a0, a1, a2, a3, a4, a5, a6, a7, a8, a9]).1.length + lenL l ≤ 140737488355328) {t : By} (hp : printR [a0, a1, a2, a3, a4, a5, a6, a7, a8, a9] l = (t, 0)) (ht : t.length ≤ 1048576) (hb : Sc.parse t = .ok [a0, a1, a2, a3, a4, a5, a6, a7, a8, a9] l) {K : Nat} (hK : sluicelaw18_alike.f K (l.map stS) (l.map stS) = some true) :
    Calls Tryd.prog 6 #[.agg #[.int .i64 a0, .int .i64 a1, .int .i64 a2, .int .i64 a3, .int .i64 a4, .int .i64 a5, .int .i64 a6, .int .i64 a7, .int .i64 a8, .int .i64 a9], .slice A l.length cp] w fun e w' => e = .returned (.bool true) ∧ Below w.heap.size w w' := by
  have HT := Aside0.mk hT
  have HV := Aside0.mk hV
  have HC := Aside0.mk hVC
  have HL := Aside0.mk hC
  have HI := Aside0.mk hci
  have HF := Aside0.mk hf
  have HBD := Aside0.mk hB
  have HP := Aside0.mk hp
  have HPO : Aside0 (Sc.parse (bs (sb t)) = .ok [a0, a1, a2, a3, a4, a5, a6, a7, a8, a9] l) := ⟨by rw [bs_sb]; exact hb⟩
  have HZ : Aside0 ((sb t).size ≤ 4611686018427387904) := ⟨by rw [← bs_len, bs_sb]; omega⟩
  have HK := Aside0.mk hK
  have HCP := Aside0.mk hcp
  clear hT hV hVC hC hf hB hp hci ht hb hK hcp
  go_enter Tryd.func6, Tryd.ntmps6
  go_upto_region 1 with fail
  obtain ⟨W0, hW0⟩ : ∃ W0, W0 = w.alloc (.cells #[.int .i64 a0, .int .i64 a1, .int .i64 a2, .int .i64 a3, .int .i64 a4, .int .i64 a5, .int .i64 a6, .int .i64 a7, .int .i64 a8, .int .i64 a9] 25 (0, 0)) := ⟨_, rfl⟩
  have HW0 := Aside0.mk hW0
  have H0 : Aside0 (Below w.heap.size w W0 ∧ W0.heap[w.heap.size]? = some (.cells #[.int .i64 a0, .int .i64 a1, .int .i64 a2, .int .i64 a3, .int .i64 a4, .int .i64 a5, .int .i64 a6, .int .i64 a7, .int .i64 a8, .int .i64 a9] 25 (0, 0))) := ⟨by rw [hW0]; exact ⟨(Below.refl _ _).alloc (Nat.le_refl _) _, heap_alloc_new _ _⟩⟩
  rw [← HW0.out]
  clear hW0
  go_upto_region 4 with (go_at_call 10; refine (alive_calls _ (HT.out.below H0.out.1) (HV.out.below H0.out.1) (HC.out.below H0.out.1)).mono ?_; rintro e w1 ⟨rfl, hb⟩; have HB1 := Aside0.mk hb; clear hb)
  have H1 : Aside0 (Below w.heap.size w w1 ∧ w1.heap[w.heap.size]? = some (.cells #[.int .i64 a0, .int .i64 a1, .int .i64 a2, .int .i64 a3, .int .i64 a4, .int .i64 a5, .int .i64 a6, .int .i64 a7, .int .i64 a8, .int .i64 a9] 25 (0, 0))) := ⟨H0.out.1.trans (HB1.out.mono H0.out.1.size), (HB1.out.block _ (blk_lt H0.out.2)).trans H0.out.2⟩
  have c0 : w1.cell? ⟨w.heap.size, 0, none⟩ = some (.int .i64 a0) := (blk_cell H1.out.2 0).trans rfl
  have c1 : w1.cell? ⟨w.heap.size, 1, none⟩ = some (.int .i64 a1) := (blk_cell H1.out.2 1).trans rfl
  have c2 : w1.cell? ⟨w.heap.size, 2, none⟩ = some (.int .i64 a2) := (blk_cell H1.out.2 2).trans rfl
  have c3 : w1.cell? ⟨w.heap.size, 3, none⟩ = some (.int .i64 a3) := (blk_cell H1.out.2 3).trans rfl
  have c4 : w1.cell? ⟨w.heap.size, 4, none⟩ = some (.int .i64 a4) := (blk_cell H1.out.2 4).trans rfl
  have c5 : w1.cell? ⟨w.heap.size, 5, none⟩ = some (.int .i64 a5) := (blk_cell H1.out.2 5).trans rfl
  have c6 : w1.cell? ⟨w.heap.size, 6, none⟩ = some (.int .i64 a6) := (blk_cell H1.out.2 6).trans rfl
  have c7 : w1.cell? ⟨w.heap.size, 7, none⟩ = some (.int .i64 a7) := (blk_cell H1.out.2 7).trans rfl
  have c8 : w1.cell? ⟨w.heap.size, 8, none⟩ = some (.int .i64 a8) := (blk_cell H1.out.2 8).trans rfl
  have c9 : w1.cell? ⟨w.heap.size, 9, none⟩ = some (.int .i64 a9) := (blk_cell H1.out.2 9).trans rfl
  go_upto_region 8 with (first
      | (go_at_call 14; refine (print_calls _ [a0, a1, a2, a3, a4, a5, a6, a7, a8, a9] l A cp (HT.out.below H1.out.1) (HV.out.below H1.out.1) (HC.out.below H1.out.1) rfl HI.out (Kd.C_below HL.out H1.out.1) HF.out HBD.out).mono ?_; rw [HP.out]; rintro e w3 ⟨rfl, hb⟩; have HB3 := Aside0.mk (H1.out.1.trans (hb.mono H1.out.1.size)); have HN3 := Aside0.mk ((hb.block _ (blk_lt H1.out.2)).trans H1.out.2); clear hb c0 c1 c2 c3 c4 c5 c6 c7 c8 c9)
      | (go_at_call 16; refine (parse_ok _ _ (HV.out.below HB3.out) (HC.out.below HB3.out) HZ.out HPO.out).mono ?_; rintro e w4 ⟨A2, cp2, rfl, hc2, hC2, hb⟩; have HB4 := Aside0.mk hb; have HC2 := Aside0.mk hC2; have HCP2 := Aside0.mk hc2; clear hb hC2 hc2; simp only [cfc, cfl, List.map_cons, List.map_nil, List.length_cons, List.length_nil, List.cons_append, List.nil_append])
      | (go_at_call 15; refine (num_calls _ _).mono ?_; rintro e w' ⟨rfl, rfl⟩))
  obtain ⟨W5, hW5⟩ : ∃ W5, W5 = w4.alloc (.cells #[.int .i64 a0, .int .i64 a1, .int .i64 a2, .int .i64 a3, .int .i64 a4, .int .i64 a5, .int .i64 a6, .int .i64 a7, .int .i64 a8, .int .i64 a9] 25 (0, 0)) := ⟨_, rfl⟩
  have HW5 := Aside0.mk hW5
  have HB5 := Aside0.mk (HB3.out.trans (HB4.out.mono HB3.out.size))
  have H5 : Aside0 (Below w.heap.size w W5 ∧ W5.heap[w.heap.size]? = some (.cells #[.int .i64 a0, .int .i64 a1, .int .i64 a2, .int .i64 a3, .int .i64 a4, .int .i64 a5, .int .i64 a6, .int .i64 a7, .int .i64 a8, .int .i64 a9] 25 (0, 0)) ∧ W5.heap[w4.heap.size]? = some (.cells #[.int .i64 a0, .int .i64 a1, .int .i64 a2, .int .i64 a3, .int .i64 a4, .int .i64 a5, .int .i64 a6, .int .i64 a7, .int .i64 a8, .int .i64 a9] 25 (0, 0))) := ⟨by
    have hx := (HB4.out.block _ (blk_lt HN3.out)).trans HN3.out
    have hb5 := (Below.refl w4.heap.size w4).alloc (Nat.le_refl _) (.cells #[.int .i64 a0, .int .i64 a1, .int .i64 a2, .int .i64 a3, .int .i64 a4, .int .i64 a5, .int .i64 a6, .int .i64 a7, .int .i64 a8, .int .i64 a9] 25 (0, 0))
    rw [hW5]; exact ⟨HB5.out.alloc HB5.out.size _, (hb5.block _ (blk_lt hx)).trans hx, heap_alloc_new _ _⟩⟩
  have HC5 : Aside0 (Kd.C k48 W5 A2 l.length (l.map stS)) := ⟨by rw [hW5]; exact Kd.C_below HC2.out ((Below.refl _ _).alloc (Nat.le_refl _) _)⟩
  rw [← HW5.out]
  clear hW5
  have d0 : W5.cell? ⟨w.heap.size, 0, none⟩ = some (.int .i64 a0) := (blk_cell H5.out.2.1 0).trans rfl
  have e0 : W5.cell? ⟨w4.heap.size, 0, none⟩ = some (.int .i64 a0) := (blk_cell H5.out.2.2 0).trans rfl
  have d1 : W5.cell? ⟨w.heap.size, 1, none⟩ = some (.int .i64 a1) := (blk_cell H5.out.2.1 1).trans rfl
  have e1 : W5.cell? ⟨w4.heap.size, 1, none⟩ = some (.int .i64 a1) := (blk_cell H5.out.2.2 1).trans rfl
  have d2 : W5.cell? ⟨w.heap.size, 2, none⟩ = some (.int .i64 a2) := (blk_cell H5.out.2.1 2).trans rfl
  have e2 : W5.cell? ⟨w4.heap.size, 2, none⟩ = some (.int .i64 a2) := (blk_cell H5.out.2.2 2).trans rfl
  have d3 : W5.cell? ⟨w.heap.size, 3, none⟩ = some (.int .i64 a3) := (blk_cell H5.out.2.1 3).trans rfl
  have e3 : W5.cell? ⟨w4.heap.size, 3, none⟩ = some (.int .i64 a3) := (blk_cell H5.out.2.2 3).trans rfl
  have d4 : W5.cell? ⟨w.heap.size, 4, none⟩ = some (.int .i64 a4) := (blk_cell H5.out.2.1 4).trans rfl
  have e4 : W5.cell? ⟨w4.heap.size, 4, none⟩ = some (.int .i64 a4) := (blk_cell H5.out.2.2 4).trans rfl
  have d5 : W5.cell? ⟨w.heap.size, 5, none⟩ = some (.int .i64 a5) := (blk_cell H5.out.2.1 5).trans rfl
  have e5 : W5.cell? ⟨w4.heap.size, 5, none⟩ = some (.int .i64 a5) := (blk_cell H5.out.2.2 5).trans rfl
  have d6 : W5.cell? ⟨w.heap.size, 6, none⟩ = some (.int .i64 a6) := (blk_cell H5.out.2.1 6).trans rfl
  have e6 : W5.cell? ⟨w4.heap.size, 6, none⟩ = some (.int .i64 a6) := (blk_cell H5.out.2.2 6).trans rfl
  have d7 : W5.cell? ⟨w.heap.size, 7, none⟩ = some (.int .i64 a7) := (blk_cell H5.out.2.1 7).trans rfl
  have e7 : W5.cell? ⟨w4.heap.size, 7, none⟩ = some (.int .i64 a7) := (blk_cell H5.out.2.2 7).trans rfl
  have d8 : W5.cell? ⟨w.heap.size, 8, none⟩ = some (.int .i64 a8) := (blk_cell H5.out.2.1 8).trans rfl
  have e8 : W5.cell? ⟨w4.heap.size, 8, none⟩ = some (.int .i64 a8) := (blk_cell H5.out.2.2 8).trans rfl
  have d9 : W5.cell? ⟨w.heap.size, 9, none⟩ = some (.int .i64 a9) := (blk_cell H5.out.2.1 9).trans rfl
  have e9 : W5.cell? ⟨w4.heap.size, 9, none⟩ = some (.int .i64 a9) := (blk_cell H5.out.2.2 9).trans rfl
  go_wp2_with (first
      | (go_at_call 17; refine (alike_calls _ l A A2 cp cp2 HK.out (Kd.C_below HL.out H5.out.1) HCP.out HC5.out HCP2.out).mono ?_; rintro e w6 ⟨rfl, hb⟩; have HB6 := Aside0.mk hb; clear hb)
      | (go_at_call 15; refine (num_calls _ _).mono ?_; rintro e w' ⟨rfl, rfl⟩))
  go_ret
  exact ⟨rfl, H5.out.1.trans (HB6.out.mono H5.out.1.size)⟩
theorem ten {c : List Int} (h : c.length = 10) : ∃ a0 a1 a2 a3 a4 a5 a6 a7 a8 a9, c = [a0, a1, a2, a3, a4, a5, a6, a7, a8, a9] := by
  match c, h with
  | [a0, a1, a2, a3, a4, a5, a6, a7, a8, a9], _ => exact ⟨a0, a1, a2, a3, a4, a5, a6, a7, a8, a9, rfl⟩
/-- ScriptBack answers true. -/
theorem back_calls (w : World) (c : List Int) (l : List St) (A : Option Addr) (cp : Nat) (hT : TB w) (hV : VS w) (hVC : VC w) (hc : c.length = 10) (hci : ∀ x ∈ c, inI x) (hC : Kd.C k48 w A l.length (l.map stS)) (hcp : l.length ≤ cp) (hn : l.length ≤ 4611686018427387904) (hf : ∀ x ∈ l, sfit x) (hB : (cfgTS c).1.length + lenL l ≤ 140737488355328) :
    Calls Tryd.prog 6 #[.agg (cfc c), .slice A l.length cp] w fun e w' => e = .returned (.bool true) ∧ Below w.heap.size w w' := by
  have hci2 : ∀ i < 10, inI (c.getD i 0) := fun i hi => by
    have hi2 : i < c.length := by omega
    rw [List.getD_eq_getElem?_getD, List.getElem?_eq_getElem hi2]
    exact hci _ (List.getElem_mem hi2)
  obtain ⟨K, hK⟩ := (alike_ev (l.map stS) (by rw [List.length_map]; exact hn)).rounds
  cases hp : printR c l with
  | mk t e =>
    have hpe := print_errs c l
    rw [hp] at hpe
    by_cases he : e = 0
    · subst he
      obtain ⟨g1, g2⟩ := print_back hc hci (fun x hx p => (hf x hx).get p) hp
      clear hpe hci
      obtain ⟨a0, a1, a2, a3, a4, a5, a6, a7, a8, a9, rfl⟩ := ten hc
      rw [show cfc [a0, a1, a2, a3, a4, a5, a6, a7, a8, a9] = #[.int .i64 a0, .int .i64 a1, .int .i64 a2, .int .i64 a3, .int .i64 a4, .int .i64 a5, .int .i64 a6, .int .i64 a7, .int .i64 a8, .int .i64 a9] from rfl]
      exact back_ok w a0 a1 a2 a3 a4 a5 a6 a7 a8 a9 l A cp hT hV hVC hci2 hC hcp hf hB hp g2 g1 hK
    · obtain ⟨ht, h2⟩ : t = [] ∧ (e = 1 ∨ e = 2) := hpe.resolve_left he
      subst ht
      clear hpe hci
      obtain ⟨a0, a1, a2, a3, a4, a5, a6, a7, a8, a9, rfl⟩ := ten hc
      rw [show cfc [a0, a1, a2, a3, a4, a5, a6, a7, a8, a9] = #[.int .i64 a0, .int .i64 a1, .int .i64 a2, .int .i64 a3, .int .i64 a4, .int .i64 a5, .int .i64 a6, .int .i64 a7, .int .i64 a8, .int .i64 a9] from rfl]
      exact back_err w a0 a1 a2 a3 a4 a5 a6 a7 a8 a9 l A cp hT hV hVC hci2 hC hf hB h2 hp
end Go.Proofs.YtnbfebjcfhbhiaaDoor.Bw
end
section
namespace Go.Proofs.YtnbfebjcfhbhiaaDoor.Lv
open Go Go.ChangeShapes Go.WideShapes Go.ChangeAt Go.RowKit Go.Proofs.YtnbfebjcfhbhiaaDoor.P Go.Proofs.YtnbfebjcfhbhiaaDoor.Sc Go.Proofs.YtnbfebjcfhbhiaaDoor.Lw Go.Proofs.YtnbfebjcfhbhiaaDoor.Bw Go.Proofs.YtnbfebjcfhbhiaaDoorW.PrintWords
set_option linter.unusedVariables false
set_option linter.unusedSimpArgs false
theorem fitI {a0 : Int} (w0 : (Lit.int .i64 a0).wf = true) : inI a0 := by simpa [inI, Lit.wf, IntKind.min, IntKind.max, IntKind.signed, IntKind.bits] using w0
theorem bulk_mem {H : Type} {l : List (DataW H)} {d : DataW H} (h : d ∈ l) : Rows.uptoBulk d ≤ Rows.uptoBulkAll l := by
  induction l with
  | nil => cases h
  | cons x l ih =>
    simp only [Rows.uptoBulkAll]
    rcases List.mem_cons.1 h with rfl | h
    · omega
    · have := ih h; omega
theorem bulk_pos {H : Type} (d : DataW H) : 1 ≤ Rows.uptoBulk d := by
  cases d with
  | lit l => cases l <;> simp [Rows.uptoBulk]
  | _ => simp [Rows.uptoBulk]
theorem bulk_len {H : Type} (l : List (DataW H)) : l.length ≤ Rows.uptoBulkAll l := by
  induction l with
  | nil => exact Nat.zero_le _
  | cons x l ih => simp only [Rows.uptoBulkAll, List.length_cons]; have := bulk_pos x; omega
section
variable {H : Type} {enc : TypeId × Value → H} {w : World} {spare : Nat → Bool} {held : Bool}
theorem int_open {t : TypeId} {fuel : Nat} {cs : List Value} {x : DataW H × List MemPlace} (ht : Tryd.prog.underlying t = some (.int .i64)) (h : DataW.trod enc Tryd.prog w 0 spare held fuel t cs = some x) : ∃ n, cs = [.int .i64 n] ∧ inI n := by
  obtain ⟨n, g, _, hw⟩ := DataW.trod_int ht h
  exact ⟨n, g, fitI hw⟩
/-- Bytes as they are read. -/
theorem data_open {fuel : Nat} {cs : List Value} {x : DataW H × List MemPlace} (h : DataW.trod enc Tryd.prog w 0 spare held fuel 46 cs = some x) :
    ∃ (A : Option Addr) (c : Nat) (d : By), cs = [.slice A d.length c] ∧ d.length ≤ c ∧ Kd.C (Kd.int .u8) w A d.length (Sc.nums d) ∧ d.length ≤ Rows.uptoBulk x.1 := by
  obtain ⟨v, rfl⟩ : ∃ v, cs = [v] := by
    rcases DataW.trod_slice Tryd.underlying46 h with ⟨g, _⟩ | ⟨a, l, c, _, _, _, _, g, _⟩
    · exact ⟨_, g⟩
    · exact ⟨_, g⟩
  rcases open_ints Tryd.underlying46 Tryd.underlying5 (by kernel_rfl) h with ⟨hcs, _⟩ | ⟨a, l, c, zs, hcs, _, hl, hm, hz, hy, hcell, hwz⟩
  · obtain rfl : v = .slice none 0 0 := by simpa using hcs
    exact ⟨none, 0, [], rfl, Nat.le_refl _, ⟨rfl, by decide, fun h => absurd h (Nat.lt_irrefl _)⟩, Nat.zero_le _⟩
  · obtain rfl : v = .slice (some a) l c := by simpa using hcs
    have hlz : l ≤ zs.length := by rw [hz]; split <;> omega
    have hlen : (zs.take l).length = l := by rw [List.length_take]; omega
    have hnum : Sc.nums ((zs.take l).map fun n => UInt8.ofNat n.toNat) = zs.take l := by
      unfold Sc.nums
      rw [List.map_map]
      conv => rhs; rw [← List.map_id (zs.take l)]
      refine List.map_congr_left (fun n hn => ?_)
      have := hwz n (List.mem_of_mem_take hn)
      simp [Lit.wf, IntKind.min, IntKind.max, IntKind.signed, IntKind.bits] at this
      simp
      omega
    refine ⟨some a, c, (zs.take l).map fun n => UInt8.ofNat n.toNat, by rw [List.length_map, hlen], by rw [List.length_map, hlen]; exact hl, ?_, ?_⟩
    · rw [hnum, List.length_map]
      refine Kd.C_of_reads (d := (0 : Int)) (h1 := fun _ => rfl) ⟨rfl, by simp only [maxLen] at hm; omega, fun _ => ⟨a, rfl, fun j hj => ?_⟩⟩
      rw [hcell j (by omega), List.getD_eq_getElem?_getD, List.getD_eq_getElem?_getD, List.getElem?_take, if_pos (by omega)]
    · rw [hy, List.length_map]
      have h2 : (lits (H := H) .u8 (zs.take l)).length = (zs.take l).length := by simp [lits]
      have h3 := bulk_len (lits (H := H) .u8 (zs.take l))
      simp only [Rows.uptoBulk]
      omega
set_option maxRecDepth 100000 in
theorem call_open {fuel : Nat} {cs : List Value} {x : DataW H × List MemPlace} (h : DataW.trod enc Tryd.prog w 0 spare held fuel 43 cs = some x) : ∃ a b, cs = [.int .i64 a, .int .i64 b] ∧ inI a ∧ inI b := by
  obtain ⟨ys, n, _, hx, hcl, hyl, hf⟩ := DataW.trod_struct Tryd.underlying43 h
  have hcl2 : cs.length = 2 := hcl.trans (by kernel_rfl)
  have hyl2 : ys.length = 2 := hyl
  match cs, hcl2 with
  | [c0, c1], _ =>
    match ys, hyl2 with
    | [y0, y1], _ =>
      have g0 : DataW.trod enc Tryd.prog w 0 spare held n 3 (List.take (Tryd.prog.cellsOf 3) (List.drop 0 [c0, c1])) = some y0 := hf 0 _ rfl
      rw [show Tryd.prog.cellsOf 3 = 1 by kernel_rfl] at g0
      replace g0 : DataW.trod enc Tryd.prog w 0 spare held n 3 [c0] = some y0 := g0
      obtain ⟨n0, q0, i0⟩ := int_open Tryd.underlying3 g0
      have g1 : DataW.trod enc Tryd.prog w 0 spare held n 3 (List.take (Tryd.prog.cellsOf 3) (List.drop 1 [c0, c1])) = some y1 := hf 1 _ rfl
      rw [show Tryd.prog.cellsOf 3 = 1 by kernel_rfl] at g1
      replace g1 : DataW.trod enc Tryd.prog w 0 spare held n 3 [c1] = some y1 := g1
      obtain ⟨n1, q1, i1⟩ := int_open Tryd.underlying3 g1
      simp only [List.cons.injEq, and_true] at q0 q1
      exact ⟨n0, n1, by rw [q0, q1], i0, i1⟩
set_option maxRecDepth 100000 in
theorem op_open {fuel : Nat} {cs : List Value} {x : DataW H × List MemPlace} (h : DataW.trod enc Tryd.prog w 0 spare held fuel 45 cs = some x) : ∃ (k : Int) (nm : By) (a b : Int), cs = [.int .i64 k, .string (sb nm), .int .i64 a, .int .i64 b] ∧ inI k ∧ inI a ∧ inI b ∧ nm.length ≤ Rows.uptoBulk x.1 := by
  obtain ⟨ys, n, _, hx, hcl, hyl, hf⟩ := DataW.trod_struct Tryd.underlying45 h
  have hcl2 : cs.length = 4 := hcl.trans (by kernel_rfl)
  have hyl2 : ys.length = 4 := hyl
  match cs, hcl2 with
  | [c0, c1, c2, c3], _ =>
    match ys, hyl2 with
    | [y0, y1, y2, y3], _ =>
      have g0 : DataW.trod enc Tryd.prog w 0 spare held n 3 (List.take (Tryd.prog.cellsOf 3) (List.drop 0 [c0, c1, c2, c3])) = some y0 := hf 0 _ rfl
      rw [show Tryd.prog.cellsOf 3 = 1 by kernel_rfl] at g0
      replace g0 : DataW.trod enc Tryd.prog w 0 spare held n 3 [c0] = some y0 := g0
      obtain ⟨n0, q0, i0⟩ := int_open Tryd.underlying3 g0
      have g1 : DataW.trod enc Tryd.prog w 0 spare held n 9 (List.take (Tryd.prog.cellsOf 9) (List.drop 1 [c0, c1, c2, c3])) = some y1 := hf 1 _ rfl
      rw [show Tryd.prog.cellsOf 9 = 1 by kernel_rfl] at g1
      replace g1 : DataW.trod enc Tryd.prog w 0 spare held n 9 [c1] = some y1 := g1
      obtain ⟨s1, q1, z1, _⟩ := DataW.trod_string Tryd.underlying9 g1
      have g2 : DataW.trod enc Tryd.prog w 0 spare held n 3 (List.take (Tryd.prog.cellsOf 3) (List.drop 2 [c0, c1, c2, c3])) = some y2 := hf 2 _ rfl
      rw [show Tryd.prog.cellsOf 3 = 1 by kernel_rfl] at g2
      replace g2 : DataW.trod enc Tryd.prog w 0 spare held n 3 [c2] = some y2 := g2
      obtain ⟨n2, q2, i2⟩ := int_open Tryd.underlying3 g2
      have g3 : DataW.trod enc Tryd.prog w 0 spare held n 3 (List.take (Tryd.prog.cellsOf 3) (List.drop 3 [c0, c1, c2, c3])) = some y3 := hf 3 _ rfl
      rw [show Tryd.prog.cellsOf 3 = 1 by kernel_rfl] at g3
      replace g3 : DataW.trod enc Tryd.prog w 0 spare held n 3 [c3] = some y3 := g3
      obtain ⟨n3, q3, i3⟩ := int_open Tryd.underlying3 g3
      simp only [List.cons.injEq, and_true] at q0 q1 q2 q3
      refine ⟨n0, bs s1, n2, n3, by rw [q0, q1, q2, q3, sb_bs], i0, i2, i3, ?_⟩
      have h1 := bulk_mem (show y1.1 ∈ [y0, y1, y2, y3].map (·.1) by simp)
      rw [z1] at h1
      rw [hx, z1]
      simp only [Rows.uptoBulk] at h1 ⊢
      have : (bs s1).length = s1.data.toList.length := rfl
      omega
set_option maxRecDepth 100000 in
theorem step_open {fuel : Nat} {cs : List Value} {x : DataW H × List MemPlace} (h : DataW.trod enc Tryd.prog w 0 spare held fuel 48 cs = some x) : ∃ (y : St) (A : Option Addr) (c : Nat), cs = [.int .i64 y.kind, .int .i64 y.rep, .int .i64 y.ses, .int .i64 y.id, .int .i64 y.ok, .string (sb y.name), .int .i64 y.a, .int .i64 y.b, .int .i64 y.i, .int .i64 y.j, .slice A y.data.length c] ∧ y.data.length ≤ c ∧ Kd.C (Kd.int .u8) w A y.data.length (Sc.nums y.data) ∧ (inI y.kind ∧ inI y.rep ∧ inI y.ses ∧ inI y.id ∧ inI y.ok ∧ inI y.a ∧ inI y.b ∧ inI y.i ∧ inI y.j) ∧ y.name.length ≤ Rows.uptoBulk x.1 ∧ y.data.length ≤ Rows.uptoBulk x.1 := by
  obtain ⟨ys, n, _, hx, hcl, hyl, hf⟩ := DataW.trod_struct Tryd.underlying48 h
  have hcl2 : cs.length = 11 := hcl.trans (by kernel_rfl)
  have hyl2 : ys.length = 7 := hyl
  match cs, hcl2 with
  | [c0, c1, c2, c3, c4, c5, c6, c7, c8, c9, c10], _ =>
    match ys, hyl2 with
    | [y0, y1, y2, y3, y4, y5, y6], _ =>
      have g0 : DataW.trod enc Tryd.prog w 0 spare held n 3 (List.take (Tryd.prog.cellsOf 3) (List.drop 0 [c0, c1, c2, c3, c4, c5, c6, c7, c8, c9, c10])) = some y0 := hf 0 _ rfl
      rw [show Tryd.prog.cellsOf 3 = 1 by kernel_rfl] at g0
      replace g0 : DataW.trod enc Tryd.prog w 0 spare held n 3 [c0] = some y0 := g0
      obtain ⟨n0, q0, i0⟩ := int_open Tryd.underlying3 g0
      have g1 : DataW.trod enc Tryd.prog w 0 spare held n 3 (List.take (Tryd.prog.cellsOf 3) (List.drop 1 [c0, c1, c2, c3, c4, c5, c6, c7, c8, c9, c10])) = some y1 := hf 1 _ rfl
      rw [show Tryd.prog.cellsOf 3 = 1 by kernel_rfl] at g1
      replace g1 : DataW.trod enc Tryd.prog w 0 spare held n 3 [c1] = some y1 := g1
      obtain ⟨n1, q1, i1⟩ := int_open Tryd.underlying3 g1
      have g2 : DataW.trod enc Tryd.prog w 0 spare held n 43 (List.take (Tryd.prog.cellsOf 43) (List.drop 2 [c0, c1, c2, c3, c4, c5, c6, c7, c8, c9, c10])) = some y2 := hf 2 _ rfl
      rw [show Tryd.prog.cellsOf 43 = 2 by kernel_rfl] at g2
      replace g2 : DataW.trod enc Tryd.prog w 0 spare held n 43 [c2, c3] = some y2 := g2
      obtain ⟨a2, b2, q2, i2, k2⟩ := call_open g2
      have g3 : DataW.trod enc Tryd.prog w 0 spare held n 45 (List.take (Tryd.prog.cellsOf 45) (List.drop 4 [c0, c1, c2, c3, c4, c5, c6, c7, c8, c9, c10])) = some y3 := hf 3 _ rfl
      rw [show Tryd.prog.cellsOf 45 = 4 by kernel_rfl] at g3
      replace g3 : DataW.trod enc Tryd.prog w 0 spare held n 45 [c4, c5, c6, c7] = some y3 := g3
      obtain ⟨ok, nm, a3, b3, q3, i3, k3, m3, z3⟩ := op_open g3
      have g4 : DataW.trod enc Tryd.prog w 0 spare held n 3 (List.take (Tryd.prog.cellsOf 3) (List.drop 8 [c0, c1, c2, c3, c4, c5, c6, c7, c8, c9, c10])) = some y4 := hf 4 _ rfl
      rw [show Tryd.prog.cellsOf 3 = 1 by kernel_rfl] at g4
      replace g4 : DataW.trod enc Tryd.prog w 0 spare held n 3 [c8] = some y4 := g4
      obtain ⟨n4, q4, i4⟩ := int_open Tryd.underlying3 g4
      have g5 : DataW.trod enc Tryd.prog w 0 spare held n 3 (List.take (Tryd.prog.cellsOf 3) (List.drop 9 [c0, c1, c2, c3, c4, c5, c6, c7, c8, c9, c10])) = some y5 := hf 5 _ rfl
      rw [show Tryd.prog.cellsOf 3 = 1 by kernel_rfl] at g5
      replace g5 : DataW.trod enc Tryd.prog w 0 spare held n 3 [c9] = some y5 := g5
      obtain ⟨n5, q5, i5⟩ := int_open Tryd.underlying3 g5
      have g6 : DataW.trod enc Tryd.prog w 0 spare held n 46 (List.take (Tryd.prog.cellsOf 46) (List.drop 10 [c0, c1, c2, c3, c4, c5, c6, c7, c8, c9, c10])) = some y6 := hf 6 _ rfl
      rw [show Tryd.prog.cellsOf 46 = 1 by kernel_rfl] at g6
      replace g6 : DataW.trod enc Tryd.prog w 0 spare held n 46 [c10] = some y6 := g6
      obtain ⟨A, c, d, q6, dc, dk, z6⟩ := data_open g6
      simp only [List.cons.injEq, and_true] at q0 q1 q2 q3 q4 q5 q6
      obtain ⟨q21, q22⟩ := q2
      obtain ⟨q31, q32, q33, q34⟩ := q3
      refine ⟨⟨n0, n1, a2, b2, ok, nm, a3, b3, n4, n5, d⟩, A, c, by rw [q0, q1, q21, q22, q31, q32, q33, q34, q4, q5, q6], dc, dk, ⟨i0, i1, i2, k2, i3, k3, m3, i4, i5⟩, ?_, ?_⟩
      · have h1 := bulk_mem (show y3.1 ∈ [y0, y1, y2, y3, y4, y5, y6].map (·.1) by simp)
        rw [hx]
        simp only [Rows.uptoBulk]
        exact Nat.le_trans z3 (Nat.le_trans h1 (Nat.le_succ _))
      · have h1 := bulk_mem (show y6.1 ∈ [y0, y1, y2, y3, y4, y5, y6].map (·.1) by simp)
        rw [hx]
        simp only [Rows.uptoBulk]
        exact Nat.le_trans z6 (Nat.le_trans h1 (Nat.le_succ _))
theorem steps_open {fuel : Nat} {cs : List Value} {x : DataW H × List MemPlace} (h : DataW.trod enc Tryd.prog w 0 spare held fuel 26 cs = some x) :
    ∃ (A : Option Addr) (c : Nat) (l : List St), cs = [.slice A l.length c] ∧ l.length ≤ c ∧ Kd.C k48 w A l.length (l.map stS) ∧ l.length ≤ Rows.uptoBulk x.1 ∧ l.length ≤ 9223372036854775807 ∧ ∀ y ∈ l, (inI y.kind ∧ inI y.rep ∧ inI y.ses ∧ inI y.id ∧ inI y.ok ∧ inI y.a ∧ inI y.b ∧ inI y.i ∧ inI y.j) ∧ y.name.length ≤ Rows.uptoBulk x.1 ∧ y.data.length ≤ Rows.uptoBulk x.1 := by
  rcases DataW.trod_slice Tryd.underlying26 h with ⟨g, _⟩ | ⟨a, len, cap, elems, rest, n, _, hcs, hx, _, hlc, hcm, hel, hat, _, _⟩
  · exact ⟨none, 0, [], g, Nat.le_refl _, ⟨rfl, by decide, fun h => absurd h (Nat.lt_irrefl _)⟩, Nat.zero_le _, by decide, fun _ h => by cases h⟩
  · have e11 : Tryd.prog.cellsOf 48 = 11 := by kernel_rfl
    have key : ∀ j, j < len → ∃ y : St, (∃ (A : Option Addr) (c : Nat) (d : DataW H), (∀ i u, ([.int .i64 y.kind, .int .i64 y.rep, .int .i64 y.ses, .int .i64 y.id, .int .i64 y.ok, .string (sb y.name), .int .i64 y.a, .int .i64 y.b, .int .i64 y.i, .int .i64 y.j, .slice A y.data.length c] : List Value)[i]? = some u → w.cell? ((a.add (j * 11)).add i) = some u) ∧ y.data.length ≤ c ∧ Kd.C (Kd.int .u8) w A y.data.length (Sc.nums y.data)) ∧ (inI y.kind ∧ inI y.rep ∧ inI y.ses ∧ inI y.id ∧ inI y.ok ∧ inI y.a ∧ inI y.b ∧ inI y.i ∧ inI y.j) ∧ y.name.length ≤ Rows.uptoBulk x.1 ∧ y.data.length ≤ Rows.uptoBulk x.1 := by
      intro j hj
      have h1 := hat j hj
      rw [e11] at h1
      cases hy : elems[j]? with
      | none => rw [hy] at h1; have := List.getElem?_eq_none_iff.1 hy; omega
      | some y0 =>
        rw [hy] at h1
        obtain ⟨c, hc1, hc2⟩ := Option.bind_eq_some_iff.1 h1
        obtain ⟨y, A, cp, rfl, k1, k2, k3, k4, k5⟩ := step_open hc2
        obtain ⟨_, _, hat2⟩ := World.cells?_some hc1
        have hb : Rows.uptoBulk y0.1 ≤ Rows.uptoBulk x.1 := by
          have := bulk_mem (List.mem_map.2 ⟨y0, List.mem_of_getElem? hy, rfl⟩ : y0.1 ∈ elems.map (·.1))
          rw [hx]
          simp only [Rows.uptoBulk]
          omega
        refine ⟨y, ⟨A, cp, y0.1, fun i u hu => ?_, k1, k2⟩, k3, Nat.le_trans k4 hb, Nat.le_trans k5 hb⟩
        have hi : i < 11 := by have := (List.getElem?_eq_some_iff.1 hu).1; simpa using this
        exact (hat2 i hi).trans hu
    refine ⟨some a, cap, (List.range len).attach.map fun i => (key i.1 (List.mem_range.1 i.2)).choose, ?_⟩
    have hlen : ((List.range len).attach.map fun i => (key i.1 (List.mem_range.1 i.2)).choose).length = len := by simp
    have hget : ∀ j (hj : j < len), ((List.range len).attach.map fun i => (key i.1 (List.mem_range.1 i.2)).choose)[j]? = some (key j hj).choose := fun j hj => by
      rw [List.getElem?_eq_getElem (by rw [hlen]; exact hj)]
      simp
    refine ⟨by rw [hlen]; exact hcs, by rw [hlen]; exact hlc, ?_, ?_, by rw [hlen]; simp only [maxLen] at hcm; omega, ?_⟩
    · refine ⟨by rw [List.length_map], by rw [hlen]; simp only [maxLen] at hcm; omega, fun _ => ⟨a, rfl, fun j p hj => ?_⟩⟩
      rw [List.getElem?_map] at hj
      obtain ⟨y, hy, rfl⟩ := Option.map_eq_some_iff.1 hj
      have hj1 : j < len := by rw [← hlen]; exact (List.getElem?_eq_some_iff.1 hy).1
      rw [hget j hj1] at hy
      obtain rfl := (Option.some.inj hy).symm
      obtain ⟨⟨A, c, d, hat2, k1, k2⟩, _⟩ := (key j hj1).choose_spec
      have hn : (stS (key j hj1).choose).f6.length = (key j hj1).choose.data.length := by unfold stS Sc.nums; simp
      refine ⟨_, rfl, k48_mk w (stS (key j hj1).choose) (A10 := A) (c10 := c) (by rw [hn]; exact k1) (by rw [hn]; exact k2), fun i u hu => ?_⟩
      rw [show a.add (j * k48.sz + i) = (a.add (j * 11)).add i from by rw [Go.Proofs.YtnbfebjcfhbhiaaDoorW.PrintWords.add_add]; rfl]
      refine hat2 i u ?_
      rw [hn] at hu
      exact hu
    · rw [hlen, hx]
      have := bulk_len (elems.map (·.1))
      simp only [Rows.uptoBulk]
      rw [List.length_map, hel] at this
      omega
    · intro y hy
      obtain ⟨i, _, rfl⟩ := List.mem_map.1 hy
      obtain ⟨_, k3, k4, k5⟩ := (key i.1 (List.mem_range.1 i.2)).choose_spec
      exact ⟨k3, k4, k5⟩
set_option maxRecDepth 100000 in
theorem cfg_open {fuel : Nat} {cs : List Value} {x : DataW H × List MemPlace} (h : DataW.trod enc Tryd.prog w 0 spare held fuel 25 cs = some x) : ∃ c : List Int, cs = (cfc c).toList ∧ c.length = 10 ∧ ∀ x ∈ c, inI x := by
  obtain ⟨ys, n, _, hx, hcl, hyl, hf⟩ := DataW.trod_struct Tryd.underlying25 h
  have hcl2 : cs.length = 10 := hcl.trans (by kernel_rfl)
  have hyl2 : ys.length = 10 := hyl
  match cs, hcl2 with
  | [c0, c1, c2, c3, c4, c5, c6, c7, c8, c9], _ =>
    match ys, hyl2 with
    | [y0, y1, y2, y3, y4, y5, y6, y7, y8, y9], _ =>
      have g0 : DataW.trod enc Tryd.prog w 0 spare held n 3 (List.take (Tryd.prog.cellsOf 3) (List.drop 0 [c0, c1, c2, c3, c4, c5, c6, c7, c8, c9])) = some y0 := hf 0 _ rfl
      rw [show Tryd.prog.cellsOf 3 = 1 by kernel_rfl] at g0
      replace g0 : DataW.trod enc Tryd.prog w 0 spare held n 3 [c0] = some y0 := g0
      obtain ⟨n0, q0, i0⟩ := int_open Tryd.underlying3 g0
      have g1 : DataW.trod enc Tryd.prog w 0 spare held n 3 (List.take (Tryd.prog.cellsOf 3) (List.drop 1 [c0, c1, c2, c3, c4, c5, c6, c7, c8, c9])) = some y1 := hf 1 _ rfl
      rw [show Tryd.prog.cellsOf 3 = 1 by kernel_rfl] at g1
      replace g1 : DataW.trod enc Tryd.prog w 0 spare held n 3 [c1] = some y1 := g1
      obtain ⟨n1, q1, i1⟩ := int_open Tryd.underlying3 g1
      have g2 : DataW.trod enc Tryd.prog w 0 spare held n 3 (List.take (Tryd.prog.cellsOf 3) (List.drop 2 [c0, c1, c2, c3, c4, c5, c6, c7, c8, c9])) = some y2 := hf 2 _ rfl
      rw [show Tryd.prog.cellsOf 3 = 1 by kernel_rfl] at g2
      replace g2 : DataW.trod enc Tryd.prog w 0 spare held n 3 [c2] = some y2 := g2
      obtain ⟨n2, q2, i2⟩ := int_open Tryd.underlying3 g2
      have g3 : DataW.trod enc Tryd.prog w 0 spare held n 3 (List.take (Tryd.prog.cellsOf 3) (List.drop 3 [c0, c1, c2, c3, c4, c5, c6, c7, c8, c9])) = some y3 := hf 3 _ rfl
      rw [show Tryd.prog.cellsOf 3 = 1 by kernel_rfl] at g3
      replace g3 : DataW.trod enc Tryd.prog w 0 spare held n 3 [c3] = some y3 := g3
      obtain ⟨n3, q3, i3⟩ := int_open Tryd.underlying3 g3
      have g4 : DataW.trod enc Tryd.prog w 0 spare held n 3 (List.take (Tryd.prog.cellsOf 3) (List.drop 4 [c0, c1, c2, c3, c4, c5, c6, c7, c8, c9])) = some y4 := hf 4 _ rfl
      rw [show Tryd.prog.cellsOf 3 = 1 by kernel_rfl] at g4
      replace g4 : DataW.trod enc Tryd.prog w 0 spare held n 3 [c4] = some y4 := g4
      obtain ⟨n4, q4, i4⟩ := int_open Tryd.underlying3 g4
      have g5 : DataW.trod enc Tryd.prog w 0 spare held n 3 (List.take (Tryd.prog.cellsOf 3) (List.drop 5 [c0, c1, c2, c3, c4, c5, c6, c7, c8, c9])) = some y5 := hf 5 _ rfl
      rw [show Tryd.prog.cellsOf 3 = 1 by kernel_rfl] at g5
      replace g5 : DataW.trod enc Tryd.prog w 0 spare held n 3 [c5] = some y5 := g5
      obtain ⟨n5, q5, i5⟩ := int_open Tryd.underlying3 g5
      have g6 : DataW.trod enc Tryd.prog w 0 spare held n 3 (List.take (Tryd.prog.cellsOf 3) (List.drop 6 [c0, c1, c2, c3, c4, c5, c6, c7, c8, c9])) = some y6 := hf 6 _ rfl
      rw [show Tryd.prog.cellsOf 3 = 1 by kernel_rfl] at g6
      replace g6 : DataW.trod enc Tryd.prog w 0 spare held n 3 [c6] = some y6 := g6
      obtain ⟨n6, q6, i6⟩ := int_open Tryd.underlying3 g6
      have g7 : DataW.trod enc Tryd.prog w 0 spare held n 3 (List.take (Tryd.prog.cellsOf 3) (List.drop 7 [c0, c1, c2, c3, c4, c5, c6, c7, c8, c9])) = some y7 := hf 7 _ rfl
      rw [show Tryd.prog.cellsOf 3 = 1 by kernel_rfl] at g7
      replace g7 : DataW.trod enc Tryd.prog w 0 spare held n 3 [c7] = some y7 := g7
      obtain ⟨n7, q7, i7⟩ := int_open Tryd.underlying3 g7
      have g8 : DataW.trod enc Tryd.prog w 0 spare held n 3 (List.take (Tryd.prog.cellsOf 3) (List.drop 8 [c0, c1, c2, c3, c4, c5, c6, c7, c8, c9])) = some y8 := hf 8 _ rfl
      rw [show Tryd.prog.cellsOf 3 = 1 by kernel_rfl] at g8
      replace g8 : DataW.trod enc Tryd.prog w 0 spare held n 3 [c8] = some y8 := g8
      obtain ⟨n8, q8, i8⟩ := int_open Tryd.underlying3 g8
      have g9 : DataW.trod enc Tryd.prog w 0 spare held n 3 (List.take (Tryd.prog.cellsOf 3) (List.drop 9 [c0, c1, c2, c3, c4, c5, c6, c7, c8, c9])) = some y9 := hf 9 _ rfl
      rw [show Tryd.prog.cellsOf 3 = 1 by kernel_rfl] at g9
      replace g9 : DataW.trod enc Tryd.prog w 0 spare held n 3 [c9] = some y9 := g9
      obtain ⟨n9, q9, i9⟩ := int_open Tryd.underlying3 g9
      simp only [List.cons.injEq, and_true] at q0 q1 q2 q3 q4 q5 q6 q7 q8 q9
      refine ⟨[n0, n1, n2, n3, n4, n5, n6, n7, n8, n9], by rw [q0, q1, q2, q3, q4, q5, q6, q7, q8, q9]; rfl, rfl, fun x hx => ?_⟩
      simp only [List.mem_cons, List.not_mem_nil, or_false] at hx
      rcases hx with rfl | rfl | rfl | rfl | rfl | rfl | rfl | rfl | rfl | rfl <;> assumption
end
end Go.Proofs.YtnbfebjcfhbhiaaDoor.Lv
end
section
namespace Go.Proofs.YtnbfebjcfhbhiaaDoor.Sc
open Go Go.RowKit Go.Proofs.YtnbfebjcfhbhiaaDoor.P Go.Proofs.YtnbfebjcfhbhiaaDoor.Bw Go.Proofs.YtnbfebjcfhbhiaaDoor.Lw Go.Proofs.YtnbfebjcfhbhiaaDoorW.PrintWords
set_option linter.unusedVariables false
set_option linter.unusedSimpArgs false
def PW (M : Nat) (x : St) : Prop := ∀ p, (partW x p).length ≤ M
theorem signB_le (c : UInt8) : (signB c).length ≤ 3 := by unfold signB; split <;> simp
theorem flat_le : ∀ b : By, (b.flatMap signB).length ≤ 3 * b.length
  | [] => by simp
  | c :: b => by
    have h1 := signB_le c
    have h2 := flat_le b
    rw [List.flatMap_cons, List.length_append, List.length_cons]; omega
theorem textW_le (b : By) : (textW b).length ≤ 3 * b.length + 1 := by
  unfold textW
  split
  · simp
  · have := flat_le b; omega
theorem PW.of {M : Nat} {x : St} (h : sfit x) (hn : x.name.length ≤ M) (hd : x.data.length ≤ M) : PW (3 * M + 21) x := fun p => by
  have hg := numW_le (h.get p)
  cases p
  case d => have := textW_le x.data; show (textW x.data).length ≤ _; omega
  case k => have := textW_le x.name; show (textW x.name).length ≤ _; omega
  all_goals (refine Nat.le_trans ?_ (Nat.le_add_left 21 (3 * M)); exact hg)
theorem PW.zero {M : Nat} {x : St} (h : PW M x) (hM : 1 ≤ M) (p : Part) : PW M (x.zero p) := fun q => by
  by_cases hpq : p = q
  · subst hpq
    have h0 : (numW 0).length ≤ M := by
      have : (numW 0).length = 1 := by decide +kernel
      omega
    cases p
    case d => exact hM
    case k => exact hM
    all_goals exact h0
  · rw [partW_zero hpq]; exact h q
theorem PW.ok {M : Nat} {x : St} (h : PW M x) : PW M { x with ok := 0 } := fun q => by
  have := h q
  cases q <;> exact this
theorem tellG_len {M R : Nat} (hM : 1 ≤ M) (hMR : M + 1 ≤ R) {rec : St → Bool × List By × St} (hr : ∀ x, PW M x → lenW (rec x).2.1 ≤ R ∧ PW M (rec x).2.2) : ∀ (ps : List Part) (x : St), PW M x → lenW (tellG rec ps x).2.1 ≤ ps.length * R ∧ PW M (tellG rec ps x).2.2
  | [], x, h => ⟨Nat.zero_le _, h⟩
  | p :: ps, x, h => by
    rw [List.length_cons, Nat.add_mul, Nat.one_mul]
    by_cases hp : p = .o
    · subst hp
      obtain ⟨h1, h2⟩ := hr x h
      simp only [tellG]
      split
      · obtain ⟨h3, h4⟩ := tellG_len hM hMR hr ps _ h2.ok
        refine ⟨?_, h4⟩
        rw [lenW_append]; omega
      · exact ⟨by simp only []; omega, h2⟩
    · rw [tellG_cons rec p hp]
      obtain ⟨h3, h4⟩ := tellG_len hM hMR hr ps _ (h.zero hM p)
      refine ⟨?_, h4⟩
      have := h p
      simp only [lenW]; omega
theorem tellF_len {M R n : Nat} (hM : 1 ≤ M) (hMR : M + 1 ≤ R) {rec : St → Bool × List By × St} (hr : ∀ x, PW M x → lenW (rec x).2.1 ≤ R ∧ PW M (rec x).2.2) (k : Int) (x : St) (h : PW M x) : ∀ fs : List S153, (∀ f ∈ fs, (bs f.f0).length ≤ 11 ∧ (bs f.f1).length ≤ n) → lenW (tellF rec fs k x).2.1 ≤ 12 + n * R ∧ PW M (tellF rec fs k x).2.2
  | [], _ => ⟨Nat.zero_le _, h⟩
  | f :: fs, hf => by
    rw [tellF]
    split
    · obtain ⟨h1, h2⟩ := hf f (.head _)
      obtain ⟨h3, h4⟩ := tellG_len hM hMR hr ((bs f.f1).map partOf) x h
      refine ⟨?_, h4⟩
      rw [List.length_map] at h3
      have h5 := Nat.mul_le_mul_right R h2
      simp only [lenW]; omega
    · exact tellF_len hM hMR hr k x h fs (fun g hg => hf g (.tail _ hg))
theorem opFs_len : ∀ f ∈ opFs, (bs f.f0).length ≤ 11 ∧ (bs f.f1).length ≤ 3 := by
  have : (opFs.all fun f => (bs f.f0).length ≤ 11 && (bs f.f1).length ≤ 3) = true := by decide +kernel
  intro f hf
  simpa using List.all_eq_true.1 this f hf
theorem stepFs_len : ∀ f ∈ stepFs, (bs f.f0).length ≤ 11 ∧ (bs f.f1).length ≤ 4 := by
  have : (stepFs.all fun f => (bs f.f0).length ≤ 11 && (bs f.f1).length ≤ 4) = true := by decide +kernel
  intro f hf
  simpa using List.all_eq_true.1 this f hf
theorem step_len {M : Nat} (hM : 1 ≤ M) {x : St} (k : Int) (h : PW M x) : lenW (tellStep k x).2.1 ≤ 12 * M + 72 := by
  have h1 : ∀ y, PW M y → lenW (tellOps y).2.1 ≤ 12 + 3 * (M + 1) ∧ PW M (tellOps y).2.2 := fun y hy =>
    tellF_len hM (Nat.le_refl _) (rec := tell0) (fun z hz => ⟨Nat.zero_le _, hz⟩) y.ok y hy opFs opFs_len
  have h2 := (tellF_len (R := 12 + 3 * (M + 1)) hM (by omega) h1 k x h stepFs stepFs_len).1
  unfold tellStep
  omega
theorem lenL_le {M : Nat} : ∀ l : List St, (∀ x ∈ l, lenW (tellStep x.kind x).2.1 ≤ M) → lenL l ≤ l.length * (M + 1)
  | [], _ => Nat.zero_le _
  | x :: l, h => by
    have h1 := h x (.head _)
    have h2 := lenL_le l (fun y hy => h y (.tail _ hy))
    rw [List.length_cons, Nat.add_mul, Nat.one_mul]
    simp only [lenL]; omega
theorem cfgW_le10 : ∀ i : Fin 10, (cfgW i.val).length ≤ 10 := by decide +kernel
theorem cfgTellN_len {c : List Int} (hc : ∀ i < 10, inI (c.getD i 0)) : ∀ n, n ≤ 10 → lenW (cfgTellN c n) ≤ n * 33
  | 0, _ => Nat.zero_le _
  | n + 1, h => by
    have h1 := cfgTellN_len hc n (by omega)
    have h2 := cfgW_le10 ⟨n, by omega⟩
    have h3 := numW_le (hc n (by omega))
    rw [cfgTellN_succ, lenW_append]
    simp only [lenW] at *
    omega
theorem cfgTS_len {c : List Int} (hc : ∀ i < 10, inI (c.getD i 0)) : (cfgTS c).1.length ≤ 400 := by
  have h1 := cfgTellN_len hc 10 (Nat.le_refl _)
  have h2 := addWs_len (cfgTell c) ([], false)
  unfold cfgTS endL
  rw [List.length_append]
  simp only [List.length_nil, List.length_singleton] at *
  unfold cfgTell at *
  omega
/-- Within a bulk of 2^20 all fits. -/
theorem bulk_fits {c : List Int} (hc : ∀ i < 10, inI (c.getD i 0)) {l : List St} (hl : l.length ≤ 1048576) (hf : ∀ x ∈ l, sfit x ∧ x.name.length ≤ 1048577 ∧ x.data.length ≤ 1048577) : (cfgTS c).1.length + lenL l ≤ 140737488355328 := by
  have h1 := cfgTS_len hc
  have h2 := lenL_le (M := 12 * (3 * 1048577 + 21) + 72) l (fun x hx => by
    obtain ⟨g1, g2, g3⟩ := hf x hx
    exact step_len (by omega) x.kind (PW.of g1 g2 g3))
  have h3 := Nat.mul_le_mul_right (12 * (3 * 1048577 + 21) + 72 + 1) hl
  omega
end Go.Proofs.YtnbfebjcfhbhiaaDoor.Sc
end
