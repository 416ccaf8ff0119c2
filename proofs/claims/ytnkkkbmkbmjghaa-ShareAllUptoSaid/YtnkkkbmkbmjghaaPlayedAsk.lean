/- One call of Ask or of Give, as the document says: the walk of 'played' at the kinds 3 and 4. -/
import Derived.Test.YtnkkkbmkbmjghaaPlAsk
import Derived.Deep.RegionHeld3
import Derived.Deep.DrawnRows
import Derived.Test.YtnkkkbmkbmjghaaPx6
import Derived.Test.YtnkkkbmkbmjghaaPx10
import Derived.Test.YtnkkkbmkbmjghaaPx9
namespace Go.Proofs.Ytnkkkbmkbmjghaa.Pd
open Go.RowKit Go.Proofs.Ytnkkkbmkbmjghaa.P Go.Proofs.YtnkkkbmkbmjghaaW.PrintWords Go.Proofs.YtnkkkbmkbmjghaaW.PrintLast Go.Proofs.YtnkkkbmkbmjghaaW.PrintMore Go.Proofs.Ytnkkkbmkbmjghaa.Pl
set_option linter.unusedVariables false
set_option linter.unusedSimpArgs false

theorem back_loop (ok : Bool) : ∀ (d i : Nat) (x : List Int), x.length ≤ 140737488355328 → x.length - i = d → i ≤ x.length → (∀ j, j < i → x.getD j 0 = 5) → Ev (fun k => sluicelaw8_back.l0 k x ok (i : Int)) (ok, List.replicate x.length 5) := by
  intro d
  induction d with
  | zero =>
    intro i x hx hd hi h
    have e : x = List.replicate x.length 5 := by
      apply List.ext_getElem?
      intro j
      rcases Nat.lt_or_ge j x.length with h2 | h2
      · have := h j (by omega)
        rw [List.getD_eq_getElem?_getD, List.getElem?_eq_getElem h2] at this
        rw [List.getElem?_eq_getElem h2, List.getElem?_replicate, if_pos h2]; simpa using this
      · rw [List.getElem?_eq_none h2, List.getElem?_eq_none (by simpa using h2)]
    refine Ev.step (f := fun _ => some (ok, x)) (fun k => ?_) (by rw [← e]; exact Ev.now _)
    simp only [sluicelaw8_back.l0]; rw [if_neg (by omega)]
  | succ d ih =>
    intro i x hx hd hi h
    have := ih (i + 1) (x.set i 5) (by simpa using hx) (by simp; omega) (by simp; omega) (by
      intro j hj
      rw [getD_set_int]
      by_cases e : i = j
      · rw [if_pos ⟨e, by omega⟩]
      · rw [if_neg (fun hh => e hh.1)]; exact h j (by omega))
    rw [List.length_set] at this
    refine Ev.step (fun k => ?_) this
    simp only [sluicelaw8_back.l0]
    rw [if_pos (by omega), if_pos (by omega), w64 (by omega) (by omega)]; simp
theorem back_ev (l : List Int) (hl : l.length * 8 ≤ 140737488351232) : Ev (fun k => sluicelaw8_back.f k (l ++ [77, 78]) l) (true, List.replicate (l.length + 2) 5) := by
  unfold sluicelaw8_back.f
  have hlen : (l ++ [77, 78]).length = l.length + 2 := by simp
  have h1 : rd (l ++ [77, 78]) (l.length : Int) = 77 := by rw [rd_getD]; simp [List.getD_eq_getElem?_getD]
  have h2 : rd (l ++ [77, 78]) ((l.length + 1 : Nat) : Int) = 78 := by
    rw [rd_getD, List.getD_eq_getElem?_getD, List.getElem?_append_right (by omega)]; simp
  have ew : wrap64 ((l.length : Int) + 1) = ((l.length + 1 : Nat) : Int) := by rw [w64 (by omega) (by omega)]; rfl
  have ht : (l ++ [77, 78]).take ((l.length : Int)).toNat = l := by simp
  have hs := same_ev l l (by omega)
  rw [decide_eq_true rfl] at hs
  have hb := back_loop true (l.length + 2) 0 (l ++ [77, 78]) (by rw [hlen]; omega) (by rw [hlen]; omega) (by omega) (fun j hj => absurd hj (by omega))
  rw [hlen] at hb
  simp only [if_pos (show (0 : Int) ≤ (l.length : Int) by omega), if_pos (show (l.length : Int) ≤ ((l ++ [77, 78]).length : Int) by rw [hlen]; omega), ht]
  refine Ev.bind (f := fun k t215 => if t215 = true then _ else _) hs ?_
  simp only [if_true, if_pos (show (l.length : Int) < ((l ++ [77, 78]).length : Int) by rw [hlen]; omega), h1, ew, h2, if_pos (show (0 : Int) ≤ ((l.length + 1 : Nat) : Int) by omega), if_pos (show ((l.length + 1 : Nat) : Int) < ((l ++ [77, 78]).length : Int) by rw [hlen]; omega)]
  exact Ev.step (fun k => by simp only [sluicelaw8_back.j0]; rfl) hb
/-- What is lent, as a block: what its cells hold. -/
theorem R_block {w : World} {base : Nat} {ok : Nat → Prop} {v : Value} {xs : List Int} (h : Kd.R (Kd.int .i64) 3 w base ok v xs) (hp : 0 < xs.length) :
    ∃ g cap, v = .slice (some ⟨g, 0, none⟩) xs.length cap ∧ base ≤ g ∧ xs.length ≤ cap ∧ g < w.heap.size := by
  obtain ⟨g, cap, he, hb, hg, _⟩ := Kd.R_form h hp
  rw [he] at h
  have := Kd.R_reads' h
  exact ⟨g, cap, he, hb, this.2.1, hg⟩
structure Box (w : World) (b : Nat) (kind A B : Int) (L : Value) : Prop where
  k : w.cell? ⟨b, 0, none⟩ = some (.int .i64 kind)
  a : w.cell? ⟨b, 1, none⟩ = some (.int .i64 A)
  c : w.cell? ⟨b, 2, none⟩ = some (.int .i64 B)
  l : w.cell? ⟨b, 3, none⟩ = some L
theorem Box.below {w w1 : World} {b : Nat} {kind A B : Int} {L : Value} (h : Box w b kind A B L) (hb : Below w.heap.size w w1) : Box w1 b kind A B L :=
  ⟨pw_cell_below hb h.k, pw_cell_below hb h.a, pw_cell_below hb h.c, pw_cell_below hb h.l⟩
theorem Box.kept {w w1 : World} {b : Nat} {kind A B : Int} {L : Value} {S : Nat → Prop} (h : Box w b kind A B L) (hk : Kept w w1 S) (hb : ¬ S b) : Box w1 b kind A B L :=
  ⟨cell_kept h.k hk hb, cell_kept h.a hk hb, cell_kept h.c hk hb, cell_kept h.l hk hb⟩
theorem Box.new (w : World) (kind A B : Int) (L : Value) (t : TypeId) : Box (w.alloc (.cells #[.int .i64 kind, .int .i64 A, .int .i64 B, L] t)) w.heap.size kind A B L := by
  have h := heap_alloc_new w (.cells #[.int .i64 kind, .int .i64 A, .int .i64 B, L] t)
  exact ⟨by rw [cell_of_row _ _ 0 _ t (0, 0) h]; rfl, by rw [cell_of_row _ _ 1 _ t (0, 0) h]; rfl, by rw [cell_of_row _ _ 2 _ t (0, 0) h]; rfl, by rw [cell_of_row _ _ 3 _ t (0, 0) h]; rfl⟩
theorem below_of_grown_none {w w1 : World} (h : w.grownBy w1 (Value.slice none 0 0).ownBlock) : Below w.heap.size w w1 := ⟨h.os, h.tape, h.output, h.size, fun k hk => h.block k hk (by simp [Value.ownBlock])⟩
theorem ask_some (me : Int) (l : List Int) : ∃ r, share_Ask.f me l = some r := by obtain ⟨s, h, -⟩ := ask_best me l; exact ⟨_, h⟩
theorem ask_n (a : Int) (A : Option Addr) (c n : Nat) (l : List Int) (r : Int) (w : World) (hn : l.length = n) (h1 : Kd.C (Kd.int .i64) w A n l) (h2 : n ≤ c) (h : share_Ask.f a l = some r) :
    Calls Try.prog 13 #[.int .i64 a, .slice A n c] w fun e w' => e = .returned (.int .i64 r) ∧ Below w.heap.size w w' := by subst hn; exact share_Ask.calls a A c l r w h1 h2 h
theorem refAsk_n (k : Nat) (a : Int) (A : Option Addr) (c n : Nat) (l : List Int) (r : Int) (w : World) (hn : l.length = n) (h1 : Kd.C (Kd.int .i64) w A n l) (h2 : n ≤ c) (h : sluiceref8_Ask.f k a l = some r) :
    Calls Try.prog 30 #[.int .i64 a, .slice A n c] w fun e w' => e = .returned (.int .i64 r) ∧ Drawn0 w w' := by subst hn; exact sluiceref8_Ask.calls k a A c l r w h1 h2 h
theorem nextB {wl w1 w2 : World} (hb : Below w1.heap.size w1 w2) (h : Aside0 (Below wl.heap.size wl w1)) : Aside0 (Below wl.heap.size wl w2) := ⟨h.out.trans (hb.mono h.out.size)⟩
set_option maxHeartbeats 8000000 in
set_option maxRecDepth 100000 in
theorem played_give (kv : Value) (a b : Int) (A : Option Addr) (c : Nat) (l : List Int) (w : World) (hr : Kd.C (Kd.int .i64) w A l.length l) (hc : l.length ≤ c) (hl : l.length * 8 ≤ 140737488351232)
    (ha : -9223372036854775808 ≤ a ∧ a ≤ 9223372036854775807) (hb : -9223372036854775808 ≤ b ∧ b ≤ 9223372036854775807) :
    Calls Try.prog 15 #[kv, .agg #[.int .i64 4, .int .i64 a, .int .i64 b, .slice A l.length c]] w fun e w' => e = .returned (.bool true) ∧ Below w.heap.size w w' := by
  obtain ⟨r, hgr⟩ : ∃ r, share_Give.f a b = some r := ⟨_, give_val a b ha hb⟩
  obtain ⟨kr, hkr⟩ := Ev.rounds (refGive_ev a b ha hb r hgr)
  obtain ⟨kb, hkb⟩ := Ev.rounds (back_ev l hl)
  have HGV := Aside0.mk hgr
  have HRG := Aside0.mk hkr
  have HBK := Aside0.mk hkb
  have HLV : Aside0 (sluicelaw8_lent.f l = some (l ++ [77, 78])) := ⟨by unfold sluicelaw8_lent.f; rw [if_pos hl]⟩
  have HL := Aside0.mk hl
  have HC := Aside0.mk hc
  have HR := Aside0.mk hr
  have hn0 : (0 : Int) ≤ (l.length : Int) := by omega
  clear hgr hkr hkb ha hb hl hc
  have HBX := Aside0.mk (Box.new w 4 a b (.slice A l.length c) 41)
  go_enter Try.func15, Try.ntmps15
  have q0 := HBX.out.k; have q1 := HBX.out.a; have q2 := HBX.out.c; have q3 := HBX.out.l
  go_wp2_with fail
  refine (sluicelaw8_lent.calls A c l (l ++ [77, 78]) _ (Kd.C_alloc HR.out _) HC.out HLV.out).mono ?_
  rintro e wl ⟨vl, rfl, hR, hb⟩
  obtain ⟨g, cap, rfl, hg, hcap, hgs⟩ := R_block hR (by simp)
  have HRW := Aside0.mk hR
  have HBL : Aside0 (Below (w.heap.size + 1) (w.alloc (.cells #[.int .i64 4, .int .i64 a, .int .i64 b, .slice A l.length c] 41)) wl) := ⟨by simpa using hb⟩
  have HBX2 := Aside0.mk (HBX.out.below hb)
  have HGS := Aside0.mk hgs
  have hg2 : w.heap.size < g := by simp at hg; omega
  have hcap2 : (l.length : Int) ≤ (cap : Int) := by simp at hcap; omega
  clear q0 q1 q2 q3 hR hb hg hcap hgs
  have q0 := HBX2.out.k; have q1 := HBX2.out.a; have q2 := HBX2.out.c; have q3 := HBX2.out.l
  go_upto_region 18 with (fail)
  go_region_held3 (fun w' => w'.cell? ⟨w.heap.size, 0, none⟩ = some (.int .i64 4) ∧ w'.cell? ⟨w.heap.size, 1, none⟩ = some (.int .i64 a) ∧ w'.cell? ⟨w.heap.size, 2, none⟩ = some (.int .i64 b) ∧ w'.cell? ⟨w.heap.size, 3, none⟩ = some (.slice A l.length c))
    ((go_split_ands; first
      | (refine ⟨pw_cell_below hby ?_, pw_cell_below hby ?_, pw_cell_below hby ?_, pw_cell_below hby ?_⟩ <;> assumption)
      | (refine ⟨pw_cell_below hbx ?_, pw_cell_below hbx ?_, pw_cell_below hbx ?_, pw_cell_below hbx ?_⟩ <;> assumption)
      | (refine ⟨?_, ?_, ?_, ?_⟩ <;> simp [*])))
    (first
      | (go_at_call 14; refine (share_Give.calls a b r _ HGV.out).mono ?_; rintro e wx ⟨rfl, hbx⟩)
      | (go_at_call 31; refine (sluiceref8_Give.calls kr a b r _ HRG.out).mono ?_; rintro e wy ⟨rfl, hdx⟩; have hby := hdx.below))
  have HBY : Aside0 (Below wl.heap.size wl wy) := ⟨(Below.refl _ _).drew.trans ((hbx.mono (by simp)).trans (hby.mono (by have := hbx.size; simp at this; exact this)))⟩
  have HBX3 := Aside0.mk (HBX2.out.below HBY.out)
  clear q0 q1 q2 q3 hbx hby
  have q0 := HBX3.out.k; have q1 := HBX3.out.a; have q2 := HBX3.out.c; have q3 := HBX3.out.l
  go_wp2_with fail
  have HRY : Aside0 (Kd.R (Kd.int .i64) 3 wy (w.alloc (.cells #[.int .i64 4, .int .i64 a, .int .i64 b, .slice A l.length c] 41)).heap.size (fun k => k = g) (.slice (some ⟨g, 0, none⟩) (l.length + 2) cap) (l ++ [77, 78])) :=
    ⟨by have h := Kd.R_below HRW.out HBY.out; simp only [List.length_append, List.length_cons, List.length_nil, Nat.zero_add, Nat.reduceAdd] at h; exact Kd.R_reok rfl h (fun k hk => by simp [Value.ownBlock] at hk; exact hk.symm)⟩
  have HBW : Aside0 (Below (w.alloc (.cells #[.int .i64 4, .int .i64 a, .int .i64 b, .slice A l.length c] 41)).heap.size (w.alloc (.cells #[.int .i64 4, .int .i64 a, .int .i64 b, .slice A l.length c] 41)) wy) :=
    ⟨by have h := HBL.out; have h2 := h.trans (HBY.out.mono (by have := h.size; simpa using this)); simpa using h2⟩
  have HB0 : Aside0 (Below w.heap.size w wy) := ⟨((Below.refl _ _).alloc (Nat.le_refl _) _).trans (HBW.out.mono (by simp))⟩
  refine (sluicelaw8_back.calls kb (fun k => k = g) _ (l ++ [77, 78]) A c l true (List.replicate (l.length + 2) 5) _ _ HBW.out HRY.out (Kd.C_kept_came (Kd.heap_int _) HR.out HB0.out (fun k hk => by rw [hk]; omega)) HC.out HBK.out).mono ?_
  rintro e wb ⟨rfl, hRB, hbb, hkk⟩
  have HRB := Aside0.mk hRB
  have HBB := Aside0.mk hbb
  have HBX4 := Aside0.mk (HBX3.out.kept hkk (by intro h; omega))
  clear q0 q1 q2 q3 hRB hbb hkk
  have q0 := HBX4.out.k; have q1 := HBX4.out.a; have q2 := HBX4.out.c; have q3 := HBX4.out.l
  have HC5 : Aside0 (Kd.C (Kd.int .i64) wb (some ⟨g, 0, none⟩) l.length (List.replicate l.length 5)) := ⟨by
    have h := (Kd.R_reads' (Kd.R_take HRB.out (m := l.length) (by simp))).2.2
    simpa [List.take_replicate] using h⟩
  have HBA : Aside0 (Below w.heap.size w wb) := ⟨((Below.refl _ _).alloc (Nat.le_refl _) _).trans (HBB.out.mono (by simp))⟩
  have HZ : Aside0 ((0 + l.length) * 8 ≤ 140737488355328) := ⟨by have := HL.out; omega⟩
  go_wp2_with (refine Kd.R_append_row (Value.int .i64) (0 : Int) (h1 := fun _ => rfl) (w0 := w) w.heap.size rfl (.const (.slice none 0 0)) (.tmp 131) 22 3 (.int .i64 0) 8 rfl Try.underlying22 info3 rfl (by omega) (.slice none 0 0) [] (List.replicate l.length 5) (some ⟨g, 0, none⟩) l.length cap (fun _ => True) rfl (by simp [Act.eval, Act.put]) (fun _ _ => trivial) (Kd.R_nil _ _ _ _ _) HC5.out HBA.out HBA.out.size HZ.out ?_)
  intro vn wn hRn hBn hgn hatn
  have HBN := Aside0.mk hBn
  have HBX5 := Aside0.mk (HBX4.out.below (below_of_grown_none hgn))
  clear q0 q1 q2 q3 hRn hBn hatn hgn
  have q0 := HBX5.out.k; have q1 := HBX5.out.a; have q2 := HBX5.out.c; have q3 := HBX5.out.l
  go_wp2_with fail
  go_ret
  exact ⟨rfl, HBN.out⟩
set_option maxHeartbeats 8000000 in
set_option maxRecDepth 100000 in
theorem played_ask (kv : Value) (a b : Int) (A : Option Addr) (c : Nat) (l : List Int) (w : World) (hr : Kd.C (Kd.int .i64) w A l.length l) (hc : l.length ≤ c) (hl : l.length * 8 ≤ 140737488351232) :
    Calls Try.prog 15 #[kv, .agg #[.int .i64 3, .int .i64 a, .int .i64 b, .slice A l.length c]] w fun e w' => e = .returned (.bool true) ∧ Below w.heap.size w w' := by
  obtain ⟨r, hgr⟩ := ask_some a l
  obtain ⟨kr, hkr⟩ := Ev.rounds (refAsk_ev a l (by omega) r hgr)
  obtain ⟨r2, hgr2⟩ := ask_some a (List.replicate l.length 5)
  obtain ⟨kr2, hkr2⟩ := Ev.rounds (refAsk_ev a (List.replicate l.length 5) (by simp; omega) r2 hgr2)
  obtain ⟨kb, hkb⟩ := Ev.rounds (back_ev l hl)
  have HGV := Aside0.mk hgr
  have HRG := Aside0.mk hkr
  have HGV2 := Aside0.mk hgr2
  have HRG2 := Aside0.mk hkr2
  have HBK := Aside0.mk hkb
  have HLV : Aside0 (sluicelaw8_lent.f l = some (l ++ [77, 78])) := ⟨by unfold sluicelaw8_lent.f; rw [if_pos hl]⟩
  have HL := Aside0.mk hl
  have HC := Aside0.mk hc
  have HR := Aside0.mk hr
  have hn0 : (0 : Int) ≤ (l.length : Int) := by omega
  clear hgr hkr hgr2 hkr2 hkb hl hc
  have HBX := Aside0.mk (Box.new w 3 a b (.slice A l.length c) 41)
  go_enter Try.func15, Try.ntmps15
  have q0 := HBX.out.k; have q1 := HBX.out.a; have q2 := HBX.out.c; have q3 := HBX.out.l
  go_wp2_with fail
  refine (sluicelaw8_lent.calls A c l (l ++ [77, 78]) _ (Kd.C_alloc HR.out _) HC.out HLV.out).mono ?_
  rintro e wl ⟨vl, rfl, hR, hb⟩
  obtain ⟨g, cap, rfl, hg, hcap, hgs⟩ := R_block hR (by simp)
  have HRW := Aside0.mk hR
  have HBL : Aside0 (Below (w.heap.size + 1) (w.alloc (.cells #[.int .i64 3, .int .i64 a, .int .i64 b, .slice A l.length c] 41)) wl) := ⟨by simpa using hb⟩
  have HBX2 := Aside0.mk (HBX.out.below hb)
  have HGS := Aside0.mk hgs
  have hg2 : w.heap.size < g := by simp at hg; omega
  have hcap2 : (l.length : Int) ≤ (cap : Int) := by simp at hcap; omega
  clear q0 q1 q2 q3 hR hb hg hcap hgs
  have q0 := HBX2.out.k; have q1 := HBX2.out.a; have q2 := HBX2.out.c; have q3 := HBX2.out.l
  have HCL : Aside0 (Kd.C (Kd.int .i64) wl (some ⟨g, 0, none⟩) l.length l) := ⟨by
    have h := (Kd.R_reads' (Kd.R_take HRW.out (m := l.length) (by simp))).2.2
    simpa using h⟩
  have HCC : Aside0 (l.length ≤ cap) := ⟨by omega⟩
  have HCA : Aside0 (∀ wx, Below wl.heap.size wl.drew wx → Kd.C (Kd.int .i64) wx A l.length l) := ⟨fun wx h => Kd.C_below (Kd.C_below (Kd.C_alloc HR.out _) (by simpa using HBL.out)) ((Below.refl _ _).drew.trans h)⟩
  go_upto_region 16 with (fail)
  go_region_held3 (fun w' => w'.cell? ⟨w.heap.size, 0, none⟩ = some (.int .i64 3) ∧ w'.cell? ⟨w.heap.size, 1, none⟩ = some (.int .i64 a) ∧ w'.cell? ⟨w.heap.size, 2, none⟩ = some (.int .i64 b) ∧ w'.cell? ⟨w.heap.size, 3, none⟩ = some (.slice A l.length c))
    ((go_split_ands; first
      | (refine ⟨pw_cell_below hby ?_, pw_cell_below hby ?_, pw_cell_below hby ?_, pw_cell_below hby ?_⟩ <;> assumption)
      | (refine ⟨pw_cell_below hbx ?_, pw_cell_below hbx ?_, pw_cell_below hbx ?_, pw_cell_below hbx ?_⟩ <;> assumption)
      | (refine ⟨?_, ?_, ?_, ?_⟩ <;> simp [*])))
    (first
      | (go_at_call 13; refine (share_Ask.calls a (some ⟨g, 0, none⟩) cap l r _ (Kd.C_drew HCL.out) HCC.out HGV.out).mono ?_; rintro e wx ⟨rfl, hbx⟩)
      | (go_at_call 30; refine (sluiceref8_Ask.calls kr a A c l r _ (HCA.out _ (hbx.mono (by simp))) HC.out HRG.out).mono ?_; rintro e wy ⟨rfl, hdx⟩; have hby := hdx.below))
  have HBY : Aside0 (Below wl.heap.size wl wy) := ⟨(Below.refl _ _).drew.trans ((hbx.mono (by simp)).trans (hby.mono (by have := hbx.size; simp at this; exact this)))⟩
  have HBX3 := Aside0.mk (HBX2.out.below HBY.out)
  clear q0 q1 q2 q3 hbx hby
  have q0 := HBX3.out.k; have q1 := HBX3.out.a; have q2 := HBX3.out.c; have q3 := HBX3.out.l
  go_wp2_with fail
  have HRY : Aside0 (Kd.R (Kd.int .i64) 3 wy (w.alloc (.cells #[.int .i64 3, .int .i64 a, .int .i64 b, .slice A l.length c] 41)).heap.size (fun k => k = g) (.slice (some ⟨g, 0, none⟩) (l.length + 2) cap) (l ++ [77, 78])) :=
    ⟨by have h := Kd.R_below HRW.out HBY.out; simp only [List.length_append, List.length_cons, List.length_nil, Nat.zero_add, Nat.reduceAdd] at h; exact Kd.R_reok rfl h (fun k hk => by simp [Value.ownBlock] at hk; exact hk.symm)⟩
  have HBW : Aside0 (Below (w.alloc (.cells #[.int .i64 3, .int .i64 a, .int .i64 b, .slice A l.length c] 41)).heap.size (w.alloc (.cells #[.int .i64 3, .int .i64 a, .int .i64 b, .slice A l.length c] 41)) wy) :=
    ⟨by have h := HBL.out; have h2 := h.trans (HBY.out.mono (by have := h.size; simpa using this)); simpa using h2⟩
  have HB0 : Aside0 (Below w.heap.size w wy) := ⟨((Below.refl _ _).alloc (Nat.le_refl _) _).trans (HBW.out.mono (by simp))⟩
  refine (sluicelaw8_back.calls kb (fun k => k = g) _ (l ++ [77, 78]) A c l true (List.replicate (l.length + 2) 5) _ _ HBW.out HRY.out (Kd.C_kept_came (Kd.heap_int _) HR.out HB0.out (fun k hk => by rw [hk]; omega)) HC.out HBK.out).mono ?_
  rintro e wb ⟨rfl, hRB, hbb, hkk⟩
  have HRB := Aside0.mk hRB
  have HBB := Aside0.mk hbb
  have HBX4 := Aside0.mk (HBX3.out.kept hkk (by intro h; omega))
  clear q0 q1 q2 q3 hRB hbb hkk
  have q0 := HBX4.out.k; have q1 := HBX4.out.a; have q2 := HBX4.out.c; have q3 := HBX4.out.l
  have HC5 : Aside0 (Kd.C (Kd.int .i64) wb (some ⟨g, 0, none⟩) l.length (List.replicate l.length 5)) := ⟨by
    have h := (Kd.R_reads' (Kd.R_take HRB.out (m := l.length) (by simp))).2.2
    simpa [List.take_replicate] using h⟩
  have HBA : Aside0 (Below w.heap.size w wb) := ⟨((Below.refl _ _).alloc (Nat.le_refl _) _).trans (HBB.out.mono (by simp))⟩
  have HZ : Aside0 ((0 + l.length) * 8 ≤ 140737488355328) := ⟨by have := HL.out; omega⟩
  go_wp2_with (refine Kd.R_append_row (Value.int .i64) (0 : Int) (h1 := fun _ => rfl) (w0 := w) w.heap.size rfl (.const (.slice none 0 0)) (.tmp 131) 22 3 (.int .i64 0) 8 rfl Try.underlying22 info3 rfl (by omega) (.slice none 0 0) [] (List.replicate l.length 5) (some ⟨g, 0, none⟩) l.length cap (fun _ => True) rfl (by simp [Act.eval, Act.put]) (fun _ _ => trivial) (Kd.R_nil _ _ _ _ _) HC5.out HBA.out HBA.out.size HZ.out ?_)
  intro vn wn hRn hBn hgn hatn
  have HBN := Aside0.mk hBn
  have HBX5 := Aside0.mk (HBX4.out.below (below_of_grown_none hgn))
  have HC6 : Aside0 (Kd.C (Kd.int .i64) wn (some ⟨g, 0, none⟩) l.length (List.replicate l.length 5)) := ⟨Kd.C_below HC5.out (below_of_grown_none hgn)⟩
  have HN5 : Aside0 ((List.replicate l.length (5 : Int)).length = l.length) := ⟨List.length_replicate⟩
  obtain ⟨A2, c2, rfl, hc2, hC2⟩ := Kd.R_reads hRn
  rw [List.length_replicate] at hC2 hc2
  have HC7 : Aside0 (Kd.C (Kd.int .i64) wn A2 l.length (List.replicate l.length 5)) := ⟨hC2⟩
  have HC2 := Aside0.mk hc2
  clear q0 q1 q2 q3 hRn hBn hatn hgn hc2 hC2
  have q0 := HBX5.out.k; have q1 := HBX5.out.a; have q2 := HBX5.out.c; have q3 := HBX5.out.l
  go_upto_region 34 with (fail)
  go_region_held3 (fun w' => w'.cell? ⟨w.heap.size, 1, none⟩ = some (.int .i64 a))
    ((go_split_ands; first
      | (refine pw_cell_below hby2 ?_ <;> assumption)
      | (refine pw_cell_below hbx2 ?_ <;> assumption)
      | (simp [*])))
    (first
      | (go_at_call 13; refine (ask_n a (some ⟨g, 0, none⟩) cap l.length (List.replicate l.length 5) r2 _ HN5.out (Kd.C_drew HC6.out) HCC.out HGV2.out).mono ?_; rintro e wx2 ⟨rfl, hbx2⟩)
      | (go_at_call 30; refine (refAsk_n kr2 a A2 c2 l.length (List.replicate l.length 5) r2 _ HN5.out (Kd.C_below HC7.out ((Below.refl _ _).drew.trans (hbx2.mono (by simp)))) HC2.out HRG2.out).mono ?_; rintro e wy2 ⟨rfl, hdx2⟩; have hby2 := hdx2.below))
  have HBZ : Aside0 (Below w.heap.size w wy2) := ⟨HBN.out.trans (((Below.refl _ _).drew.trans ((hbx2.mono (by simp)).trans (hby2.mono (by have := hbx2.size; simp at this; exact this)))).mono HBN.out.size)⟩
  clear q0 q1 q2 q3 hbx2 hby2
  go_wp2_with fail
  go_ret
  exact ⟨rfl, HBZ.out⟩
end Go.Proofs.Ytnkkkbmkbmjghaa.Pd
