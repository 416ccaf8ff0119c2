/- texts that the proof needs, laid together by a program of this session. -/
import Derived.Laws.MakeOwn
import Derived.Laws.Tables
import Derived.Laws.CopyOwn
import Derived.Test.YtpgdmmjbhjbbhaaKWireRequests9
section
namespace Go.Proofs.Ytpgdmmjbhjbbhaa.Rd
open Go Go.RowKit Go.Proofs.Ytpgdmmjbhjbbhaa.P Go.Proofs.Ytpgdmmjbhjbbhaa.Sp Go.Proofs.Ytpgdmmjbhjbbhaa.Vd Go.Proofs.Ytpgdmmjbhjbbhaa.En Go.Proofs.Ytpgdmmjbhjbbhaa.Wr Go.Proofs.YtpgdmmjbhjbbhaaW.PrintWords Go.Proofs.YtpgdmmjbhjbbhaaW.PrintLast Go.Proofs.YtpgdmmjbhjbbhaaW.PrintMore
set_option linter.unusedVariables false
set_option linter.unusedSimpArgs false
def vcells (v : S87) : List Value := [.string v.f0, .int .i64 v.f1, .int .i64 v.f2, .int .i64 v.f3, .int .i64 v.f4.f0, .int .i64 v.f4.f1, .int .i64 v.f5]
def rowV (l : List S87) : List Value := l.flatMap vcells
theorem rowV_append (a b : List S87) : rowV (a ++ b) = rowV a ++ rowV b := List.flatMap_append ..
theorem rowV_len (l : List S87) : (rowV l).length = l.length * 7 := by
  induction l with
  | nil => rfl
  | cons v r ih => unfold rowV at ih ⊢; rw [List.flatMap_cons, List.length_append, ih, List.length_cons]; simp [vcells]; omega
theorem inf87 : (Try.prog.info? 87).map (fun i => (i.zero.map (·.cells), i.size, i.bytes)) = some (some #[.string ⟨#[]⟩, .int .i64 0, .int .i64 0, .int .i64 0, .int .i64 0, .int .i64 0, .int .i64 0], 7, 64) := by kernel_rfl
theorem made_row (n : Nat) : madeCells #[Value.string ⟨#[]⟩, .int .i64 0, .int .i64 0, .int .i64 0, .int .i64 0, .int .i64 0, .int .i64 0] (n * 7) = (rowV (List.replicate n z87)).toArray := by
  apply Array.toList_inj.mp
  rw [List.toList_toArray]
  unfold madeCells
  rw [Array.toList_map, Array.toList_range]
  induction n with
  | zero => rfl
  | succ n ih =>
    rw [Nat.succ_mul, List.range_add, List.map_append, ih, List.replicate_succ', rowV_append]
    congr 1
    have h : ∀ j, (n * 7 + j) % 7 = j % 7 := fun j => by omega
    simp [List.range_succ, rowV, vcells, h, z87, z25]
theorem run_mk (w : World) (n : Int) (h0 : 0 ≤ n) (h1 : n ≤ 64) : (Instr.makeSlice 31 (.int .i64 n) (.int .i64 n)).run Try.prog w = .ok (.slice (some ⟨w.heap.size, 0, none⟩) n.toNat n.toNat) (w.alloc (.cells (rowV (List.replicate n.toNat z87)).toArray 87)) := by
  obtain ⟨i, hi, hz⟩ := Option.map_eq_some_iff.1 inf87
  simp only [Prod.mk.injEq] at hz
  obtain ⟨z, hz0, hz1⟩ := Option.map_eq_some_iff.1 hz.1
  have hr := run_make (P := Try.prog) w 31 87 i z Try.underlying31 hi hz0 .i64 .i64 n n h0 (Int.le_refl _) (by rw [hz.2.2]; omega) (by omega)
  rw [hr, hz.2.1, hz1, made_row]
def gath (done : List S87) : R (List S87) → R (List S87)
  | .bad k => .bad k
  | .ok r s => .ok (done ++ r) s
theorem go_step {m : Nat} {a : ByteArray} {l r : List Int} {v : S87} (h : viewP a l = .ok v r) : viewsGo (m + 1) a l = gath [v] (viewsGo m v.f0 r) := by
  rw [viewsGo, bnd_ok h]
  cases hh : viewsGo m v.f0 r with
  | bad k => rw [bnd_bad hh]; rfl
  | ok x s => rw [bnd_ok hh]; rfl
theorem gath_gath (a b : List S87) (x : R (List S87)) : gath a (gath b x) = gath (a ++ b) x := by cases x <;> simp [gath]
/-- What views() leaves. -/
def LeftV (w0 w : World) (g : Nat) (A : Option Addr) (c : Nat) (b : List Int) (r : R (List S87)) (e : Ending) (w1 : World) : Prop :=
  Kb g w w1 ∧ Below w0.heap.size w0 w1 ∧ match r with
    | .bad k => e = pan ((b.length : Int) - k)
    | .ok xs l => (∃ vb, e = .returned (.slice (some ⟨vb, 0, none⟩) xs.length xs.length) ∧ w.heap.size ≤ vb ∧ w1.heap[vb]? = some (.cells (rowV xs).toArray 87 (0, 0))) ∧ RS w0 w1 g A c b l
theorem seven (pre post : List Value) (z0 z1 z2 z3 z4 z5 z6 a0 a1 a2 a3 a4 a5 a6 : Value) (p : Nat) (hp : p = pre.length) :
    ((((((((pre ++ [z0, z1, z2, z3, z4, z5, z6] ++ post).toArray.setIfInBounds p a0).setIfInBounds (p + 1) a1).setIfInBounds (p + 2) a2).setIfInBounds (p + 3) a3).setIfInBounds (p + 4) a4).setIfInBounds (p + 5) a5).setIfInBounds (p + 6) a6) = (pre ++ [a0, a1, a2, a3, a4, a5, a6] ++ post).toArray := by
  subst hp
  simp [List.set_append]
theorem get_u {cs : Array Value} {j : Nat} (h : j < cs.size) : ∃ u, cs[j]? = some u := ⟨cs[j], Array.getElem?_eq_getElem h⟩
set_option maxHeartbeats 8000000 in
set_option maxRecDepth 100000 in
theorem views_calls (w0 w : World) (g : Nat) (A : Option Addr) (c : Nat) (b l : List Int) (hi_ : In w0 A c b) (h : RS w0 w g A c b l) :
    Calls Try.prog 99 #[.pointer (some ⟨g, 0, none⟩)] w fun e w' => LeftV w0 w g A c b (viewsP l) e w' := by
  have HI := Aside0.mk hi_
  have HS := Aside0.mk h
  have HNE := Aside0.mk (rs_ne h)
  clear hi_ h
  have hu87 := Try.underlying87
  have hu25 := Try.underlying25
  go_enter Try.func99, Try.ntmps99
  rcases hp : numP 0 64 l with n | ⟨n, r⟩
  · have HQ : Aside0 (viewsP l = .bad n) := ⟨by unfold viewsP; rw [bnd_bad hp]⟩
    go_wp2_with (go_at_call 80; refine (num_calls w0 _ g A c b l 0 64 (by decide) (by decide) (by decide) HI.out HS.out).mono ?_; rintro e w1 ⟨hk, hb, hm⟩; simp only [hp, pan] at hm; subst hm; have HK := Aside0.mk (And.intro hk hb); clear hk hb)
    refine ⟨rfl, HK.out.1, HK.out.2, ?_⟩
    rw [HQ.out]
    rfl
  · have hc := ((numP_codec 0 64 (by decide) (by decide)).one l n r (HS.out.isB HI.out.isB) hp).1
    have HP : Aside0 (viewsP l = viewsGo n.toNat eB r) := ⟨by unfold viewsP; rw [bnd_ok hp]⟩
    obtain ⟨n, rfl⟩ : ∃ m : Nat, n = (m : Int) := ⟨n.toNat, by omega⟩
    rw [Int.toNat_natCast] at HP
    have hn64 : (n : Int) ≤ 64 := hc.2
    have hmk := fun W => run_mk W (n : Int) (by omega) hn64
    simp only [Int.toNat_natCast] at hmk
    clear hc
    go_wp2_with (first
      | ((with_reducible refine gate_dst (N := 9) rfl ?_); refine Kd.event_run rfl (by simp only [execOp]; simp [hmk]; rfl) ?_)
      | (go_at_call 80; refine (num_calls w0 _ g A c b l 0 64 (by decide) (by decide) (by decide) HI.out HS.out).mono ?_; rintro e w1 ⟨hk, hb, hm⟩; simp only [hp] at hm; obtain ⟨rfl, hs1⟩ := hm; have HK := Aside0.mk (And.intro hk (And.intro hb hs1)); clear hk hb hs1))
    obtain ⟨w2, hw2⟩ : ∃ w2, w2 = w1.alloc (.cells (rowV (List.replicate n z87)).toArray 87 (0, 0)) := ⟨_, rfl⟩
    rw [← hw2]
    obtain ⟨vb, hvb⟩ : ∃ vb, vb = w1.heap.size := ⟨_, rfl⟩
    rw [← hvb]
    have H0 : Aside0 (Kb g w w2 ∧ RS w0 w2 g A c b r ∧ w2.heap[vb]? = some (.cells (rowV (List.replicate n z87)).toArray 87 (0, 0))) := ⟨by rw [hw2]; exact HK.out.1.trans (Kb.below (al_below w1 _)), by rw [hw2]; exact HK.out.2.2.below (al_below w1 _), by rw [hw2, hvb]; exact heap_alloc_new w1 _⟩
    have HVG : Aside0 (w.heap.size ≤ vb ∧ vb ≠ g ∧ w0.heap.size ≤ vb) := ⟨by rw [hvb]; exact ⟨HK.out.1.size, rs_ne HK.out.2.2, HK.out.2.1.size⟩⟩
    clear hw2 hvb hmk
    go_loopw [4, 12] (fun v4 v12 wr => ∃ (i : Nat) (a : ByteArray) (done : List S87) (li : List Int), v4 = .string a ∧ v12 = .int .i64 (i : Int) ∧ Aside0 (i ≤ n ∧ done.length = i ∧ viewsGo n eB r = gath done (viewsGo (n - i) a li) ∧ Kb g w wr ∧ RS w0 wr g A c b li ∧ wr.heap[vb]? = some (.cells (rowV done ++ rowV (List.replicate (n - i) z87)).toArray 87 (0, 0)))) (fun _ v12 _ => n - (intOf v12).toNat)
    case atStart => exact ⟨0, eB, [], r, rfl, rfl, ⟨Nat.zero_le _, rfl, by cases hh : viewsGo (n - 0) eB r <;> simp [Nat.sub_zero] at hh <;> simp [hh, gath], H0.out.1, H0.out.2.1, by simpa [rowV] using H0.out.2.2⟩⟩
    case round =>
      obtain ⟨i, a, done, li, rfl, rfl, HR⟩ := hrel
      by_cases hlt : i < n
      · have hi0 : (0 : Int) ≤ (i : Int) := by omega
        have hi1 : (i : Int) < (n : Int) := by omega
        have HLT := Aside0.mk hlt
        clear hlt

        obtain ⟨m, hm⟩ : ∃ m, n - i = m + 1 := ⟨n - i - 1, by have := HLT.out; omega⟩
        have HM := Aside0.mk hm
        clear hm
        obtain ⟨cs0, hcs0⟩ : ∃ cs0, cs0 = (rowV done ++ rowV (List.replicate (n - i) z87)).toArray := ⟨_, rfl⟩
        have HCS0 := Aside0.mk hcs0
        have HZ0 : Aside0 (cs0.size = n * 7) := ⟨by rw [hcs0, List.size_toArray, List.length_append, rowV_len, rowV_len, List.length_replicate, HR.out.2.1]; have := HR.out.1; omega⟩
        clear hcs0
        have H0 : Aside0 (Kb g w wr ∧ RS w0 wr g A c b li ∧ wr.heap[vb]? = some (.cells cs0 87 (0, 0))) := ⟨HR.out.2.2.2.1, HR.out.2.2.2.2.1, by rw [HCS0.out]; exact HR.out.2.2.2.2.2⟩
        obtain ⟨li0, hli⟩ : ∃ li0, li0 = li := ⟨_, rfl⟩
        rw [← hli] at H0
        have HLI := Aside0.mk hli
        clear hli
        have HVP : Aside0 (viewP a li0 = bnd (nameP a) (fun s => bnd (pairP 1 1099511627776 0 1099511627776) fun c => bnd (numP 0 1099511627776) fun v => bnd (pairP 0 1099511627776 0 1099511627776) fun r => bnd (numP 0 1099511627776) fun h => ret ⟨s, c.f0, c.f1, v, r, h⟩) li0) := ⟨rfl⟩
        go_upto_region 7 with fail
        rcases h0 : nameP a li0 with n0 | ⟨s, li1⟩
        · have HQ : Aside0 (viewsP l = .bad n0) := ⟨by rw [HP.out, HR.out.2.2.1, HM.out, viewsGo, ← HLI.out, bnd_bad (show viewP a li0 = .bad n0 from by rw [HVP.out, bnd_bad h0])]; rfl⟩
          go_wp2_with (go_at_call 97; refine (name_calls w0 _ g A c b li0 a HI.out H0.out.2.1).mono ?_; rintro e w5 ⟨hk, hb, hm⟩; simp only [h0, pan] at hm; subst hm; have HE := Aside0.mk (And.intro (H0.out.1.trans hk) hb); clear hk hb)
          refine ⟨rfl, HE.out.1, HE.out.2, ?_⟩
          rw [HQ.out]
          rfl
        · go_upto_region 8 with (go_at_call 97; refine (name_calls w0 _ g A c b li0 a HI.out H0.out.2.1).mono ?_; rintro e w5 ⟨hk, hb, hm⟩; simp only [h0] at hm; obtain ⟨rfl, hs1⟩ := hm; have HK5 := Aside0.mk (And.intro (H0.out.1.trans hk) (And.intro hb hs1)); have HX := Aside0.mk (kb_blk hk HVG.out.2.1 H0.out.2.2); clear hk hb hs1; obtain ⟨u0, hu0⟩ := get_u (cs := cs0) (j := i * 7 + 0) (by have := HZ0.out; have := HLT.out; omega); have kc0 : w5.cell? ⟨vb, i * 7, none⟩ = some u0 := (blk_cell HX.out (i * 7)).trans hu0; have kf0 : w5.frozen? ⟨vb, i * 7, none⟩ = false := blk_frozen HX.out (i * 7))
          obtain ⟨wz0, hwz⟩ : ∃ wz : World, wz = (w5.setCell ⟨vb, i * 7, none⟩ (.string s)) := ⟨_, rfl⟩
          obtain ⟨cs1, hcs⟩ : ∃ cs, cs = (cs0.setIfInBounds (i * 7) (.string s)) := ⟨_, rfl⟩
          have HCS1 := Aside0.mk hcs
          have H1 : Aside0 (Kb g w wz0 ∧ RS w0 wz0 g A c b li1 ∧ wz0.heap[vb]? = some (.cells cs1 87 (0, 0))) := ⟨by rw [hwz]; exact (HK5.out.1.setNew HVG.out.1 (i * 7) _), by rw [hwz]; exact (HK5.out.2.2.setOther HVG.out.2.1 HVG.out.2.2 (i * 7) _), by rw [hwz, hcs]; exact (blk_set HX.out (i * 7) (.string s))⟩
          have HZ1 : Aside0 (cs1.size = n * 7) := ⟨by rw [hcs]; simp only [Array.size_setIfInBounds]; exact HZ0.out⟩
          rw [← hwz]
          clear hwz hcs HK5 HX kc0 kf0 hu0
          rcases h1 : pairP 1 1099511627776 0 1099511627776 li1 with n0 | ⟨p, li2⟩
          · have HQ : Aside0 (viewsP l = .bad n0) := ⟨by rw [HP.out, HR.out.2.2.1, HM.out, viewsGo, ← HLI.out, bnd_bad (show viewP a li0 = .bad n0 from by rw [HVP.out, bnd_ok h0, bnd_bad h1])]; rfl⟩
            go_wp2_with (go_at_call 98; refine (cap_calls w0 _ g A c b li1 HI.out H1.out.2.1).mono ?_; rintro e w5 ⟨hk, hb, hm⟩; simp only [h1, pan] at hm; subst hm; have HE := Aside0.mk (And.intro (H1.out.1.trans hk) hb); clear hk hb)
            refine ⟨rfl, HE.out.1, HE.out.2, ?_⟩
            rw [HQ.out]
            rfl
          · go_upto_region 9 with (go_at_call 98; refine (cap_calls w0 _ g A c b li1 HI.out H1.out.2.1).mono ?_; rintro e w5 ⟨hk, hb, hm⟩; simp only [h1] at hm; obtain ⟨rfl, hs1⟩ := hm; have HK5 := Aside0.mk (And.intro (H1.out.1.trans hk) (And.intro hb hs1)); have HX := Aside0.mk (kb_blk hk HVG.out.2.1 H1.out.2.2); clear hk hb hs1; obtain ⟨u1, hu1⟩ := get_u (cs := cs1) (j := i * 7 + 1) (by have := HZ1.out; have := HLT.out; omega); have kc1 : w5.cell? ⟨vb, i * 7 + 1, none⟩ = some u1 := (blk_cell HX.out _).trans hu1; have kf1 : w5.frozen? ⟨vb, i * 7 + 1, none⟩ = false := blk_frozen HX.out _; obtain ⟨u2, hu2⟩ := get_u (cs := cs1) (j := i * 7 + 2) (by have := HZ1.out; have := HLT.out; omega); have kc2 : w5.cell? ⟨vb, i * 7 + 2, none⟩ = some u2 := (blk_cell HX.out _).trans hu2; have kf2 : w5.frozen? ⟨vb, i * 7 + 2, none⟩ = false := blk_frozen HX.out _)
            obtain ⟨wz1, hwz⟩ : ∃ wz : World, wz = ((w5.setCell ⟨vb, i * 7 + 1, none⟩ (.int .i64 p.f0)).setCell ⟨vb, i * 7 + 2, none⟩ (.int .i64 p.f1)) := ⟨_, rfl⟩
            obtain ⟨cs2, hcs⟩ : ∃ cs, cs = ((cs1.setIfInBounds (i * 7 + 1) (.int .i64 p.f0)).setIfInBounds (i * 7 + 2) (.int .i64 p.f1)) := ⟨_, rfl⟩
            have HCS2 := Aside0.mk hcs
            have H2 : Aside0 (Kb g w wz1 ∧ RS w0 wz1 g A c b li2 ∧ wz1.heap[vb]? = some (.cells cs2 87 (0, 0))) := ⟨by rw [hwz]; exact ((HK5.out.1.setNew HVG.out.1 (i * 7 + 1) _).setNew HVG.out.1 (i * 7 + 2) _), by rw [hwz]; exact ((HK5.out.2.2.setOther HVG.out.2.1 HVG.out.2.2 (i * 7 + 1) _).setOther HVG.out.2.1 HVG.out.2.2 (i * 7 + 2) _), by rw [hwz, hcs]; exact (blk_set (blk_set HX.out (i * 7 + 1) (.int .i64 p.f0)) (i * 7 + 2) (.int .i64 p.f1))⟩
            have HZ2 : Aside0 (cs2.size = n * 7) := ⟨by rw [hcs]; simp only [Array.size_setIfInBounds]; exact HZ1.out⟩
            rw [← hwz]
            clear hwz hcs HK5 HX kc1 kf1 hu1 kc2 kf2 hu2
            rcases h2 : numP 0 1099511627776 li2 with n0 | ⟨ve, li3⟩
            · have HQ : Aside0 (viewsP l = .bad n0) := ⟨by rw [HP.out, HR.out.2.2.1, HM.out, viewsGo, ← HLI.out, bnd_bad (show viewP a li0 = .bad n0 from by rw [HVP.out, bnd_ok h0, bnd_ok h1, bnd_bad h2])]; rfl⟩
              go_wp2_with (go_at_call 80; refine (num_calls w0 _ g A c b li2 0 1099511627776 (by decide) (by decide) (by decide) HI.out H2.out.2.1).mono ?_; rintro e w5 ⟨hk, hb, hm⟩; simp only [h2, pan] at hm; subst hm; have HE := Aside0.mk (And.intro (H2.out.1.trans hk) hb); clear hk hb)
              refine ⟨rfl, HE.out.1, HE.out.2, ?_⟩
              rw [HQ.out]
              rfl
            · go_upto_region 10 with (go_at_call 80; refine (num_calls w0 _ g A c b li2 0 1099511627776 (by decide) (by decide) (by decide) HI.out H2.out.2.1).mono ?_; rintro e w5 ⟨hk, hb, hm⟩; simp only [h2] at hm; obtain ⟨rfl, hs1⟩ := hm; have HK5 := Aside0.mk (And.intro (H2.out.1.trans hk) (And.intro hb hs1)); have HX := Aside0.mk (kb_blk hk HVG.out.2.1 H2.out.2.2); clear hk hb hs1; obtain ⟨u3, hu3⟩ := get_u (cs := cs2) (j := i * 7 + 3) (by have := HZ2.out; have := HLT.out; omega); have kc3 : w5.cell? ⟨vb, i * 7 + 3, none⟩ = some u3 := (blk_cell HX.out _).trans hu3; have kf3 : w5.frozen? ⟨vb, i * 7 + 3, none⟩ = false := blk_frozen HX.out _)
              obtain ⟨wz2, hwz⟩ : ∃ wz : World, wz = (w5.setCell ⟨vb, i * 7 + 3, none⟩ (.int .i64 ve)) := ⟨_, rfl⟩
              obtain ⟨cs3, hcs⟩ : ∃ cs, cs = (cs2.setIfInBounds (i * 7 + 3) (.int .i64 ve)) := ⟨_, rfl⟩
              have HCS3 := Aside0.mk hcs
              have H3 : Aside0 (Kb g w wz2 ∧ RS w0 wz2 g A c b li3 ∧ wz2.heap[vb]? = some (.cells cs3 87 (0, 0))) := ⟨by rw [hwz]; exact (HK5.out.1.setNew HVG.out.1 (i * 7 + 3) _), by rw [hwz]; exact (HK5.out.2.2.setOther HVG.out.2.1 HVG.out.2.2 (i * 7 + 3) _), by rw [hwz, hcs]; exact (blk_set HX.out (i * 7 + 3) (.int .i64 ve))⟩
              have HZ3 : Aside0 (cs3.size = n * 7) := ⟨by rw [hcs]; simp only [Array.size_setIfInBounds]; exact HZ2.out⟩
              rw [← hwz]
              clear hwz hcs HK5 HX kc3 kf3 hu3
              rcases h3 : pairP 0 1099511627776 0 1099511627776 li3 with n0 | ⟨rt, li4⟩
              · have HQ : Aside0 (viewsP l = .bad n0) := ⟨by rw [HP.out, HR.out.2.2.1, HM.out, viewsGo, ← HLI.out, bnd_bad (show viewP a li0 = .bad n0 from by rw [HVP.out, bnd_ok h0, bnd_ok h1, bnd_ok h2, bnd_bad h3])]; rfl⟩
                go_wp2_with (go_at_call 101; refine (rights_calls w0 _ g A c b li3 HI.out H3.out.2.1).mono ?_; rintro e w5 ⟨hk, hb, hm⟩; simp only [h3, pan] at hm; subst hm; have HE := Aside0.mk (And.intro (H3.out.1.trans hk) hb); clear hk hb)
                refine ⟨rfl, HE.out.1, HE.out.2, ?_⟩
                rw [HQ.out]
                rfl
              · go_upto_region 11 with (go_at_call 101; refine (rights_calls w0 _ g A c b li3 HI.out H3.out.2.1).mono ?_; rintro e w5 ⟨hk, hb, hm⟩; simp only [h3] at hm; obtain ⟨rfl, hs1⟩ := hm; have HK5 := Aside0.mk (And.intro (H3.out.1.trans hk) (And.intro hb hs1)); have HX := Aside0.mk (kb_blk hk HVG.out.2.1 H3.out.2.2); clear hk hb hs1; obtain ⟨u4, hu4⟩ := get_u (cs := cs3) (j := i * 7 + 4) (by have := HZ3.out; have := HLT.out; omega); have kc4 : w5.cell? ⟨vb, i * 7 + 4, none⟩ = some u4 := (blk_cell HX.out _).trans hu4; have kf4 : w5.frozen? ⟨vb, i * 7 + 4, none⟩ = false := blk_frozen HX.out _; obtain ⟨u5, hu5⟩ := get_u (cs := cs3) (j := i * 7 + 5) (by have := HZ3.out; have := HLT.out; omega); have kc5 : w5.cell? ⟨vb, i * 7 + 5, none⟩ = some u5 := (blk_cell HX.out _).trans hu5; have kf5 : w5.frozen? ⟨vb, i * 7 + 5, none⟩ = false := blk_frozen HX.out _)
                obtain ⟨wz3, hwz⟩ : ∃ wz : World, wz = ((w5.setCell ⟨vb, i * 7 + 4, none⟩ (.int .i64 rt.f0)).setCell ⟨vb, i * 7 + 5, none⟩ (.int .i64 rt.f1)) := ⟨_, rfl⟩
                obtain ⟨cs4, hcs⟩ : ∃ cs, cs = ((cs3.setIfInBounds (i * 7 + 4) (.int .i64 rt.f0)).setIfInBounds (i * 7 + 5) (.int .i64 rt.f1)) := ⟨_, rfl⟩
                have HCS4 := Aside0.mk hcs
                have H4 : Aside0 (Kb g w wz3 ∧ RS w0 wz3 g A c b li4 ∧ wz3.heap[vb]? = some (.cells cs4 87 (0, 0))) := ⟨by rw [hwz]; exact ((HK5.out.1.setNew HVG.out.1 (i * 7 + 4) _).setNew HVG.out.1 (i * 7 + 5) _), by rw [hwz]; exact ((HK5.out.2.2.setOther HVG.out.2.1 HVG.out.2.2 (i * 7 + 4) _).setOther HVG.out.2.1 HVG.out.2.2 (i * 7 + 5) _), by rw [hwz, hcs]; exact (blk_set (blk_set HX.out (i * 7 + 4) (.int .i64 rt.f0)) (i * 7 + 5) (.int .i64 rt.f1))⟩
                have HZ4 : Aside0 (cs4.size = n * 7) := ⟨by rw [hcs]; simp only [Array.size_setIfInBounds]; exact HZ3.out⟩
                rw [← hwz]
                clear hwz hcs HK5 HX kc4 kf4 hu4 kc5 kf5 hu5
                rcases h4 : numP 0 1099511627776 li4 with n0 | ⟨hd, li5⟩
                · have HQ : Aside0 (viewsP l = .bad n0) := ⟨by rw [HP.out, HR.out.2.2.1, HM.out, viewsGo, ← HLI.out, bnd_bad (show viewP a li0 = .bad n0 from by rw [HVP.out, bnd_ok h0, bnd_ok h1, bnd_ok h2, bnd_ok h3, bnd_bad h4])]; rfl⟩
                  go_wp2_with (go_at_call 80; refine (num_calls w0 _ g A c b li4 0 1099511627776 (by decide) (by decide) (by decide) HI.out H4.out.2.1).mono ?_; rintro e w5 ⟨hk, hb, hm⟩; simp only [h4, pan] at hm; subst hm; have HE := Aside0.mk (And.intro (H4.out.1.trans hk) hb); clear hk hb)
                  refine ⟨rfl, HE.out.1, HE.out.2, ?_⟩
                  rw [HQ.out]
                  rfl
                · go_upto_region 12 with (go_at_call 80; refine (num_calls w0 _ g A c b li4 0 1099511627776 (by decide) (by decide) (by decide) HI.out H4.out.2.1).mono ?_; rintro e w5 ⟨hk, hb, hm⟩; simp only [h4] at hm; obtain ⟨rfl, hs1⟩ := hm; have HK5 := Aside0.mk (And.intro (H4.out.1.trans hk) (And.intro hb hs1)); have HX := Aside0.mk (kb_blk hk HVG.out.2.1 H4.out.2.2); clear hk hb hs1; obtain ⟨u6, hu6⟩ := get_u (cs := cs4) (j := i * 7 + 6) (by have := HZ4.out; have := HLT.out; omega); have kc6 : w5.cell? ⟨vb, i * 7 + 6, none⟩ = some u6 := (blk_cell HX.out _).trans hu6; have kf6 : w5.frozen? ⟨vb, i * 7 + 6, none⟩ = false := blk_frozen HX.out _)
                  obtain ⟨wz4, hwz⟩ : ∃ wz : World, wz = (w5.setCell ⟨vb, i * 7 + 6, none⟩ (.int .i64 hd)) := ⟨_, rfl⟩
                  obtain ⟨cs5, hcs⟩ : ∃ cs, cs = (cs4.setIfInBounds (i * 7 + 6) (.int .i64 hd)) := ⟨_, rfl⟩
                  have HCS5 := Aside0.mk hcs
                  have H5 : Aside0 (Kb g w wz4 ∧ RS w0 wz4 g A c b li5 ∧ wz4.heap[vb]? = some (.cells cs5 87 (0, 0))) := ⟨by rw [hwz]; exact (HK5.out.1.setNew HVG.out.1 (i * 7 + 6) _), by rw [hwz]; exact (HK5.out.2.2.setOther HVG.out.2.1 HVG.out.2.2 (i * 7 + 6) _), by rw [hwz, hcs]; exact (blk_set HX.out (i * 7 + 6) (.int .i64 hd))⟩
                  have HZ5 : Aside0 (cs5.size = n * 7) := ⟨by rw [hcs]; simp only [Array.size_setIfInBounds]; exact HZ4.out⟩
                  rw [← hwz]
                  clear hwz hcs HK5 HX kc6 kf6 hu6
                  have HVW : Aside0 (viewP a li0 = .ok ⟨s, p.f0, p.f1, ve, rt, hd⟩ li5) := ⟨by rw [HVP.out, bnd_ok h0, bnd_ok h1, bnd_ok h2, bnd_ok h3, bnd_ok h4]; rfl⟩
                  have HFIN : Aside0 (cs5 = (rowV (done ++ [⟨s, p.f0, p.f1, ve, rt, hd⟩]) ++ rowV (List.replicate (n - (i + 1)) z87)).toArray) := ⟨by
                    rw [HCS5.out, HCS4.out, HCS3.out, HCS2.out, HCS1.out, HCS0.out, HM.out, List.replicate_succ, show n - (i + 1) = m from by have := HM.out; omega]
                    have h7 := seven (rowV done) (rowV (List.replicate m z87)) (.string ⟨#[]⟩) (.int .i64 0) (.int .i64 0) (.int .i64 0) (.int .i64 0) (.int .i64 0) (.int .i64 0) (.string s) (.int .i64 p.f0) (.int .i64 p.f1) (.int .i64 ve) (.int .i64 rt.f0) (.int .i64 rt.f1) (.int .i64 hd) (i * 7) (by rw [rowV_len, HR.out.2.1])
                    have e1 : rowV (z87 :: List.replicate m z87) = [.string ⟨#[]⟩, .int .i64 0, .int .i64 0, .int .i64 0, .int .i64 0, .int .i64 0, .int .i64 0] ++ rowV (List.replicate m z87) := rfl
                    have e2 : rowV (done ++ [(⟨s, p.f0, p.f1, ve, rt, hd⟩ : S87)]) = rowV done ++ [.string s, .int .i64 p.f0, .int .i64 p.f1, .int .i64 ve, .int .i64 rt.f0, .int .i64 rt.f1, .int .i64 hd] := by rw [rowV_append]; rfl
                    rw [e1, e2, ← List.append_assoc]
                    exact h7⟩
                  have kc : wz4.cell? ⟨vb, i * 7, none⟩ = some (.string s) := (blk_cell H5.out.2.2 _).trans (by
                    rw [HFIN.out, rowV_append]
                    have hl : (rowV done).length = i * 7 := by rw [rowV_len, HR.out.2.1]
                    simp [← hl, rowV, vcells])
                  go_wp2_with fail
                  go_roundw
                  case rel => exact ⟨i + 1, s, done ++ [⟨s, p.f0, p.f1, ve, rt, hd⟩], li5, rfl, by go_num, ⟨by have := HLT.out; omega, by rw [List.length_append, HR.out.2.1]; rfl, by rw [HR.out.2.2.1, HM.out, ← HLI.out, go_step HVW.out, gath_gath, show n - (i + 1) = m from by have := HM.out; omega], H5.out.1, H5.out.2.1, by rw [← HFIN.out]; exact H5.out.2.2⟩⟩
                  case measure => simp only [intOf]; have := HLT.out; first | omega | (go_num; omega) | (simp; omega)
      · have hi1 : ¬ ((i : Int) < (n : Int)) := by omega
        have hin : i = n := by have := HR.out.1; omega
        have HQ : Aside0 (viewsP l = .ok done li) := ⟨by rw [HP.out, HR.out.2.2.1, hin, Nat.sub_self, viewsGo]; simp [ret, gath]⟩
        have HB5 : Aside0 (wr.heap[vb]? = some (.cells (rowV done).toArray 87 (0, 0))) := ⟨by have := HR.out.2.2.2.2.2; rw [hin, Nat.sub_self, List.replicate_zero] at this; simpa [rowV] using this⟩
        have HLD : Aside0 (done.length = n) := ⟨by rw [HR.out.2.1, hin]⟩
        clear hin
        go_wp2_with fail
        go_ret
        refine ⟨HR.out.2.2.2.1, HR.out.2.2.2.2.1.bel, ?_⟩
        rw [HQ.out]
        exact ⟨⟨vb, by rw [HLD.out]; rfl, HVG.out.1, HB5.out⟩, HR.out.2.2.2.2.1⟩
end Go.Proofs.Ytpgdmmjbhjbbhaa.Rd
end
section
namespace Go.Proofs.Ytpgdmmjbhjbbhaa.Rd
open Go Go.RowKit Go.Proofs.Ytpgdmmjbhjbbhaa.P Go.Proofs.Ytpgdmmjbhjbbhaa.Sp Go.Proofs.Ytpgdmmjbhjbbhaa.Vd Go.Proofs.Ytpgdmmjbhjbbhaa.En Go.Proofs.Ytpgdmmjbhjbbhaa.Wr Go.Proofs.YtpgdmmjbhjbbhaaW.PrintWords Go.Proofs.YtpgdmmjbhjbbhaaW.PrintLast Go.Proofs.YtpgdmmjbhjbbhaaW.PrintMore
set_option linter.unusedVariables false
set_option linter.unusedSimpArgs false
theorem blk_far {w : World} {k g : Nat} {o : Obj} (h : w.heap[k]? = some o) (hne : g ≠ k) (i : Nat) (v : Value) : (w.setCell ⟨g, i, none⟩ v).heap[k]? = some o := (Below.heap_setCell w ⟨g, i, none⟩ v k (Ne.symm hne)).trans h
theorem setRow_far {w : World} {k g : Nat} (hne : k ≠ g) (cs : Array Value) : (w.setRow g cs).heap[k]? = w.heap[k]? := by
  simp [World.setRow, Array.getElem?_modify, Ne.symm hne]
theorem setRow_blk {w : World} {g : Nat} {t : TypeId} {old : Array Value} (h : w.heap[g]? = some (.cells old t (0, 0))) (cs : Array Value) : (w.setRow g cs).heap[g]? = some (.cells cs t (0, 0)) := by
  simp [World.setRow, Array.getElem?_modify, h]
theorem Kb.setRowNew {g rb : Nat} {w w2 : World} (h : Kb g w w2) (hr : w.heap.size ≤ rb) (cs : Array Value) : Kb g w (w2.setRow rb cs) :=
  ⟨by rw [size_setRow]; exact h.size, fun k hk hg => (setRow_far (by omega) cs).trans (h.block k hk hg)⟩
theorem RS.setRowOther {w0 w2 : World} {g rb : Nat} {A : Option Addr} {c : Nat} {b l : List Int} (h : RS w0 w2 g A c b l) (hne : rb ≠ g) (hr : w0.heap.size ≤ rb) (cs : Array Value) : RS w0 (w2.setRow rb cs) g A c b l :=
  ⟨(setRow_far (Ne.symm hne) cs).trans h.blk, h.ge, below_setRow h.bel hr cs, h.suf⟩
theorem bnd_ret {α β : Type} (x : α) (f : α → Rdr β) : bnd (ret x) f = f x := rfl
/-- The views of what was read: none, or a row that is new. -/
def NewV (w w1 : World) (A : Option Addr) (c : Nat) (xs : List S87) : Prop := (A = none ∧ c = 0 ∧ xs = []) ∨ ∃ vb, A = some ⟨vb, 0, none⟩ ∧ c = xs.length ∧ w.heap.size ≤ vb ∧ w1.heap[vb]? = some (.cells (rowV xs).toArray 87 (0, 0))
/-- What msg() leaves. -/
def LeftM (w0 w : World) (g : Nat) (A : Option Addr) (c : Nat) (b : List Int) (r : R Msg) (e : Ending) (w1 : World) : Prop :=
  Kb g w w1 ∧ Below w0.heap.size w0 w1 ∧ match r with
    | .bad k => e = pan ((b.length : Int) - k)
    | .ok m l => (∃ A1 c1, e = .returned (MV m A1 c1) ∧ NewV w w1 A1 c1 m.views) ∧ RS w0 w1 g A c b l
end Go.Proofs.Ytpgdmmjbhjbbhaa.Rd
end
section
namespace Go.Proofs.Ytpgdmmjbhjbbhaa.Rd
open Go Go.RowKit Go.Proofs.Ytpgdmmjbhjbbhaa.P Go.Proofs.Ytpgdmmjbhjbbhaa.Sp Go.Proofs.Ytpgdmmjbhjbbhaa.Vd Go.Proofs.Ytpgdmmjbhjbbhaa.En Go.Proofs.Ytpgdmmjbhjbbhaa.Wr Go.Proofs.YtpgdmmjbhjbbhaaW.PrintWords Go.Proofs.YtpgdmmjbhjbbhaaW.PrintLast Go.Proofs.YtpgdmmjbhjbbhaaW.PrintMore
set_option linter.unusedVariables false
set_option linter.unusedSimpArgs false
set_option maxHeartbeats 8000000 in
set_option maxRecDepth 100000 in
theorem msg1_calls (w0 w : World) (g : Nat) (A : Option Addr) (c : Nat) (b l r0 : List Int) (hi_ : In w0 A c b) (h : RS w0 w g A c b l) (hk : numP 1 10 l = .ok 1 r0) :
    Calls Try.prog 61 #[.pointer (some ⟨g, 0, none⟩)] w fun e w' => LeftM w0 w g A c b (msgP l) e w' := by
  have HI := Aside0.mk hi_
  have HS := Aside0.mk h
  have HNE := Aside0.mk (rs_ne h)
  have HW0 := Aside0.mk h.bel.size
  have HP : Aside0 (msgP l = restP 1 r0) := ⟨by unfold msgP; rw [bnd_ok hk]⟩
  have hu33 := Try.underlying33
  have hu23 := Try.underlying23
  have hu25 := Try.underlying25
  have hu27 := Try.underlying27
  have hu29 := Try.underlying29
  obtain ⟨wa, hwa⟩ : ∃ wa, wa = w.alloc (.cells #[.int .i64 0, .string ⟨#[]⟩, .int .i64 0, .int .i64 0, .int .i64 0, .int .i64 0, .int .i64 0, .int .i64 0, .int .i64 0, .int .i64 0, .int .i64 0, .int .i64 0, .int .i64 0, .int .i64 0, .string ⟨#[]⟩, .int .i64 0, .int .i64 0, .int .i64 0, .int .i64 0, .slice none 0 0] 33 (0, 0)) := ⟨_, rfl⟩
  have HWA := Aside0.mk hwa
  have HA : Aside0 (Kb g w wa ∧ RS w0 wa g A c b l ∧ wa.heap[w.heap.size]? = some (.cells #[.int .i64 0, .string ⟨#[]⟩, .int .i64 0, .int .i64 0, .int .i64 0, .int .i64 0, .int .i64 0, .int .i64 0, .int .i64 0, .int .i64 0, .int .i64 0, .int .i64 0, .int .i64 0, .int .i64 0, .string ⟨#[]⟩, .int .i64 0, .int .i64 0, .int .i64 0, .int .i64 0, .slice none 0 0] 33 (0, 0))) := ⟨by rw [hwa]; exact ⟨Kb.below (al_below w _), h.below (al_below w _), heap_alloc_new w _⟩⟩
  clear hi_ h hwa
  go_enter Try.func61, Try.ntmps61
  go_upto_region 1 with fail
  rw [← HWA.out]
  go_upto_region 2 with (first | ((with_reducible refine gate_dst (N := 3) rfl ?_); refine box_event ?hg (N := 3) ?hd (cs := #[.int .i64 0, .string ⟨#[]⟩, .int .i64 0, .int .i64 0, .int .i64 0, .int .i64 0, .int .i64 0, .int .i64 0, .int .i64 0, .int .i64 0, .int .i64 0, .int .i64 0, .int .i64 0, .int .i64 0, .string ⟨#[]⟩, .int .i64 0, .int .i64 0, .int .i64 0, .int .i64 0, .slice none 0 0]) (t := 33) ?hr ?_; (case hd => rfl); (case hg => rfl); (case hr => first | (go_simp; done) | (go_simp; rfl)); intro mb hmb w6 hbox hb6; go_loud (refine wpList_store_row rfl 33 (.tmp 3) (.tmp 6) rfl mb #[.int .i64 1, .string ⟨#[]⟩, .int .i64 0, .int .i64 0, .int .i64 0, .int .i64 0, .int .i64 0, .int .i64 0, .int .i64 0, .int .i64 0, .int .i64 0, .int .i64 0, .int .i64 0, .int .i64 0, .string ⟨#[]⟩, .int .i64 0, .int .i64 0, .int .i64 0, .int .i64 0, .slice none 0 0] (by rfl) (by rfl) 33 #[.int .i64 0, .string ⟨#[]⟩, .int .i64 0, .int .i64 0, .int .i64 0, .int .i64 0, .int .i64 0, .int .i64 0, .int .i64 0, .int .i64 0, .int .i64 0, .int .i64 0, .int .i64 0, .int .i64 0, .string ⟨#[]⟩, .int .i64 0, .int .i64 0, .int .i64 0, .int .i64 0, .slice none 0 0] hbox inf33 rfl (by simp [Value.oneCell']) ?_)) | (go_at_call 80; refine (num_calls w0 _ g A c b l 1 10 (by decide) (by decide) (by decide) HI.out HA.out.2.1).mono ?_; rintro e w5 ⟨hkb, hb, hm⟩; simp only [hk] at hm; obtain ⟨rfl, hs1⟩ := hm; have HK5 := Aside0.mk (And.intro (HA.out.1.trans hkb) (And.intro hb hs1)); have HR5 := Aside0.mk (kb_blk hkb HNE.out HA.out.2.2); clear hkb hb hs1))
  obtain ⟨wm, hwm⟩ : ∃ wm, wm = w6.setRow mb #[.int .i64 1, .string ⟨#[]⟩, .int .i64 0, .int .i64 0, .int .i64 0, .int .i64 0, .int .i64 0, .int .i64 0, .int .i64 0, .int .i64 0, .int .i64 0, .int .i64 0, .int .i64 0, .int .i64 0, .string ⟨#[]⟩, .int .i64 0, .int .i64 0, .int .i64 0, .int .i64 0, .slice none 0 0] := ⟨_, rfl⟩
  have H0 : Aside0 (Kb g w wm ∧ RS w0 wm g A c b r0 ∧ wm.heap[mb]? = some (.cells #[.int .i64 1, .string ⟨#[]⟩, .int .i64 0, .int .i64 0, .int .i64 0, .int .i64 0, .int .i64 0, .int .i64 0, .int .i64 0, .int .i64 0, .int .i64 0, .int .i64 0, .int .i64 0, .int .i64 0, .string ⟨#[]⟩, .int .i64 0, .int .i64 0, .int .i64 0, .int .i64 0, .slice none 0 0] 33 (0, 0)) ∧ wm.heap[w.heap.size]? = some (.cells #[.int .i64 0, .string ⟨#[]⟩, .int .i64 0, .int .i64 0, .int .i64 0, .int .i64 0, .int .i64 0, .int .i64 0, .int .i64 0, .int .i64 0, .int .i64 0, .int .i64 0, .int .i64 0, .int .i64 0, .string ⟨#[]⟩, .int .i64 0, .int .i64 0, .int .i64 0, .int .i64 0, .slice none 0 0] 33 (0, 0))) := ⟨by rw [hwm]; exact ⟨(HK5.out.1.trans (Kb.below hb6)).setRowNew (by rw [hmb]; exact HK5.out.1.size) _, (HK5.out.2.2.below hb6).setRowOther (by rw [hmb]; exact rs_ne HK5.out.2.2) (by rw [hmb]; exact HK5.out.2.1.size) _, setRow_blk hbox _, (setRow_far (by rw [hmb]; exact Nat.ne_of_lt (blk_lt HR5.out)) _).trans (blk_keep hb6 HR5.out)⟩⟩
  have HMB : Aside0 (w.heap.size ≤ mb ∧ mb ≠ g ∧ w0.heap.size ≤ mb ∧ mb ≠ w.heap.size) := ⟨by rw [hmb]; exact ⟨HK5.out.1.size, rs_ne HK5.out.2.2, HK5.out.2.1.size, by have := blk_lt HR5.out; omega⟩⟩
  rw [← hwm]
  clear hwm hmb hbox hb6 HK5 HR5
  obtain ⟨li0, hli⟩ : ∃ li0, li0 = r0 := ⟨_, rfl⟩
  rw [← hli] at H0 HP
  clear hli hk
  have HSP : Aside0 (restP 1 li0 = (bnd (pairP 0 63 1 1099511627776) fun x => bnd opP fun o => ret (mAsk 1 x o)) li0) := ⟨rfl⟩
  have kk : wm.cell? ⟨mb, 0, none⟩ = some (.int .i64 1) := (blk_cell H0.out.2.2.1 0).trans rfl
  go_upto_region 4 with fail
  clear kk
  rcases h0 : pairP 0 63 1 1099511627776 li0 with n0 | ⟨x, li1⟩
  · have HQ : Aside0 (msgP l = .bad n0) := ⟨by rw [HP.out, HSP.out, bnd_bad h0]⟩
    go_wp2_with (go_at_call 83; refine (call_calls w0 _ g A c b li0 HI.out H0.out.2.1).mono ?_; rintro e w5 ⟨hk, hb, hm⟩; simp only [h0, pan] at hm; subst hm; have HE := Aside0.mk (And.intro (H0.out.1.trans hk) hb); clear hk hb)
    refine ⟨rfl, HE.out.1, HE.out.2, ?_⟩
    rw [HQ.out]
    rfl
  · go_upto_region 5 with (go_at_call 83; refine (call_calls w0 _ g A c b li0 HI.out H0.out.2.1).mono ?_; rintro e w5 ⟨hk, hb, hm⟩; simp only [h0] at hm; obtain ⟨rfl, hs1⟩ := hm; have HK5 := Aside0.mk (And.intro (H0.out.1.trans hk) (And.intro hb hs1)); have HX := Aside0.mk (kb_blk hk HMB.out.2.1 H0.out.2.2.1); have HXR := Aside0.mk (kb_blk hk HNE.out H0.out.2.2.2); clear hk hb hs1; have kc11 : w5.cell? ⟨mb, 11, none⟩ = some (.int .i64 0) := (blk_cell HX.out 11).trans rfl; have kf11 : w5.frozen? ⟨mb, 11, none⟩ = false := blk_frozen HX.out 11; have kc12 : w5.cell? ⟨mb, 12, none⟩ = some (.int .i64 0) := (blk_cell HX.out 12).trans rfl; have kf12 : w5.frozen? ⟨mb, 12, none⟩ = false := blk_frozen HX.out 12)
    obtain ⟨wz0, hwz⟩ : ∃ wz : World, wz = ((w5.setCell ⟨mb, 11, none⟩ (.int .i64 x.f0)).setCell ⟨mb, 12, none⟩ (.int .i64 x.f1)) := ⟨_, rfl⟩
    have hbk := (blk_set (blk_set HX.out 11 (.int .i64 x.f0)) 12 (.int .i64 x.f1))
    have H1 : Aside0 (Kb g w wz0 ∧ RS w0 wz0 g A c b li1 ∧ wz0.heap[mb]? = some (.cells #[.int .i64 1, .string ⟨#[]⟩, .int .i64 0, .int .i64 0, .int .i64 0, .int .i64 0, .int .i64 0, .int .i64 0, .int .i64 0, .int .i64 0, .int .i64 0, .int .i64 x.f0, .int .i64 x.f1, .int .i64 0, .string ⟨#[]⟩, .int .i64 0, .int .i64 0, .int .i64 0, .int .i64 0, .slice none 0 0] 33 (0, 0)) ∧ wz0.heap[w.heap.size]? = some (.cells #[.int .i64 0, .string ⟨#[]⟩, .int .i64 0, .int .i64 0, .int .i64 0, .int .i64 0, .int .i64 0, .int .i64 0, .int .i64 0, .int .i64 0, .int .i64 0, .int .i64 0, .int .i64 0, .int .i64 0, .string ⟨#[]⟩, .int .i64 0, .int .i64 0, .int .i64 0, .int .i64 0, .slice none 0 0] 33 (0, 0))) := ⟨by rw [hwz]; exact ⟨((HK5.out.1.setNew HMB.out.1 11 _).setNew HMB.out.1 12 _), ((HK5.out.2.2.setOther HMB.out.2.1 HMB.out.2.2.1 11 _).setOther HMB.out.2.1 HMB.out.2.2.1 12 _), by simpa using hbk, (blk_far (blk_far HXR.out HMB.out.2.2.2 11 (.int .i64 x.f0)) HMB.out.2.2.2 12 (.int .i64 x.f1))⟩⟩
    rw [← hwz]
    clear hwz hbk HK5 HX HXR kc11 kf11 kc12 kf12
    have kk : wz0.cell? ⟨mb, 0, none⟩ = some (.int .i64 1) := (blk_cell H1.out.2.2.1 0).trans rfl
    go_upto_region 5 with fail
    clear kk
    rcases h1 : opP li1 with n0 | ⟨o, li2⟩
    · have HQ : Aside0 (msgP l = .bad n0) := ⟨by rw [HP.out, HSP.out, bnd_ok h0, bnd_bad h1]⟩
      go_wp2_with (go_at_call 84; refine (op_calls w0 _ g A c b li1 HI.out H1.out.2.1).mono ?_; rintro e w5 ⟨hk, hb, hm⟩; simp only [h1, pan] at hm; subst hm; have HE := Aside0.mk (And.intro (H1.out.1.trans hk) hb); clear hk hb)
      refine ⟨rfl, HE.out.1, HE.out.2, ?_⟩
      rw [HQ.out]
      rfl
    · go_upto_region 6 with (go_at_call 84; refine (op_calls w0 _ g A c b li1 HI.out H1.out.2.1).mono ?_; rintro e w5 ⟨hk, hb, hm⟩; simp only [h1] at hm; obtain ⟨rfl, hs1⟩ := hm; have HK5 := Aside0.mk (And.intro (H1.out.1.trans hk) (And.intro hb hs1)); have HX := Aside0.mk (kb_blk hk HMB.out.2.1 H1.out.2.2.1); have HXR := Aside0.mk (kb_blk hk HNE.out H1.out.2.2.2); clear hk hb hs1; have kc13 : w5.cell? ⟨mb, 13, none⟩ = some (.int .i64 0) := (blk_cell HX.out 13).trans rfl; have kf13 : w5.frozen? ⟨mb, 13, none⟩ = false := blk_frozen HX.out 13; have kc14 : w5.cell? ⟨mb, 14, none⟩ = some (.string ⟨#[]⟩) := (blk_cell HX.out 14).trans rfl; have kf14 : w5.frozen? ⟨mb, 14, none⟩ = false := blk_frozen HX.out 14; have kc15 : w5.cell? ⟨mb, 15, none⟩ = some (.int .i64 0) := (blk_cell HX.out 15).trans rfl; have kf15 : w5.frozen? ⟨mb, 15, none⟩ = false := blk_frozen HX.out 15; have kc16 : w5.cell? ⟨mb, 16, none⟩ = some (.int .i64 0) := (blk_cell HX.out 16).trans rfl; have kf16 : w5.frozen? ⟨mb, 16, none⟩ = false := blk_frozen HX.out 16)
      obtain ⟨wz1, hwz⟩ : ∃ wz : World, wz = ((((w5.setCell ⟨mb, 13, none⟩ (.int .i64 o.kind)).setCell ⟨mb, 14, none⟩ (.string o.name)).setCell ⟨mb, 15, none⟩ (.int .i64 o.a)).setCell ⟨mb, 16, none⟩ (.int .i64 o.b)) := ⟨_, rfl⟩
      have hbk := (blk_set (blk_set (blk_set (blk_set HX.out 13 (.int .i64 o.kind)) 14 (.string o.name)) 15 (.int .i64 o.a)) 16 (.int .i64 o.b))
      have H2 : Aside0 (Kb g w wz1 ∧ RS w0 wz1 g A c b li2 ∧ wz1.heap[mb]? = some (.cells #[.int .i64 1, .string ⟨#[]⟩, .int .i64 0, .int .i64 0, .int .i64 0, .int .i64 0, .int .i64 0, .int .i64 0, .int .i64 0, .int .i64 0, .int .i64 0, .int .i64 x.f0, .int .i64 x.f1, .int .i64 o.kind, .string o.name, .int .i64 o.a, .int .i64 o.b, .int .i64 0, .int .i64 0, .slice none 0 0] 33 (0, 0)) ∧ wz1.heap[w.heap.size]? = some (.cells #[.int .i64 0, .string ⟨#[]⟩, .int .i64 0, .int .i64 0, .int .i64 0, .int .i64 0, .int .i64 0, .int .i64 0, .int .i64 0, .int .i64 0, .int .i64 0, .int .i64 0, .int .i64 0, .int .i64 0, .string ⟨#[]⟩, .int .i64 0, .int .i64 0, .int .i64 0, .int .i64 0, .slice none 0 0] 33 (0, 0))) := ⟨by rw [hwz]; exact ⟨((((HK5.out.1.setNew HMB.out.1 13 _).setNew HMB.out.1 14 _).setNew HMB.out.1 15 _).setNew HMB.out.1 16 _), ((((HK5.out.2.2.setOther HMB.out.2.1 HMB.out.2.2.1 13 _).setOther HMB.out.2.1 HMB.out.2.2.1 14 _).setOther HMB.out.2.1 HMB.out.2.2.1 15 _).setOther HMB.out.2.1 HMB.out.2.2.1 16 _), by simpa using hbk, (blk_far (blk_far (blk_far (blk_far HXR.out HMB.out.2.2.2 13 (.int .i64 o.kind)) HMB.out.2.2.2 14 (.string o.name)) HMB.out.2.2.2 15 (.int .i64 o.a)) HMB.out.2.2.2 16 (.int .i64 o.b))⟩⟩
      rw [← hwz]
      clear hwz hbk HK5 HX HXR kc13 kf13 kc14 kf14 kc15 kf15 kc16 kf16
      have kk : wz1.cell? ⟨mb, 0, none⟩ = some (.int .i64 1) := (blk_cell H2.out.2.2.1 0).trans rfl
      go_upto_region 6 with fail
      clear kk
      have HQ : Aside0 (msgP l = .ok (mAsk 1 x o) li2) := ⟨by rw [HP.out, HSP.out, bnd_ok h0, bnd_ok h1]; rfl⟩
      go_wp2_with ((with_reducible refine gate_dst (N := 17) rfl ?_); refine wpList_load_row rfl 33 (.tmp 3) rfl mb (by rfl) 33 _ (0, 0) _ H2.out.2.2.1 Try.underlying33 rfl inf33 ?_; go_loud (refine wpList_store_row rfl 33 (.tmp 2) (.tmp 17) rfl w.heap.size #[.int .i64 1, .string ⟨#[]⟩, .int .i64 0, .int .i64 0, .int .i64 0, .int .i64 0, .int .i64 0, .int .i64 0, .int .i64 0, .int .i64 0, .int .i64 0, .int .i64 x.f0, .int .i64 x.f1, .int .i64 o.kind, .string o.name, .int .i64 o.a, .int .i64 o.b, .int .i64 0, .int .i64 0, .slice none 0 0] (by rfl) (by rfl) 33 _ H2.out.2.2.2 inf33 rfl (by simp [Value.oneCell']) ?_))
      have HBL := setRow_blk H2.out.2.2.2 #[.int .i64 1, .string ⟨#[]⟩, .int .i64 0, .int .i64 0, .int .i64 0, .int .i64 0, .int .i64 0, .int .i64 0, .int .i64 0, .int .i64 0, .int .i64 0, .int .i64 x.f0, .int .i64 x.f1, .int .i64 o.kind, .string o.name, .int .i64 o.a, .int .i64 o.b, .int .i64 0, .int .i64 0, .slice none 0 0]
      (try simp only [Exit.inBlock, Exit.then])
      refine bodyPost_ret (v := .agg #[.int .i64 1, .string ⟨#[]⟩, .int .i64 0, .int .i64 0, .int .i64 0, .int .i64 0, .int .i64 0, .int .i64 0, .int .i64 0, .int .i64 0, .int .i64 0, .int .i64 x.f0, .int .i64 x.f1, .int .i64 o.kind, .string o.name, .int .i64 o.a, .int .i64 o.b, .int .i64 0, .int .i64 0, .slice none 0 0]) ?_ rfl ?_
      · exact results_cell_row rfl _ _ w.heap.size 33 _ (0, 0) _ (by rfl) HBL hu33 rfl inf33
      refine ⟨H2.out.1.setRowNew (Nat.le_refl _) _, (H2.out.2.1.setRowOther HNE.out HW0.out _).bel, ?_⟩
      rw [HQ.out]
      exact ⟨⟨none, 0, rfl, .inl ⟨rfl, rfl, rfl⟩⟩, H2.out.2.1.setRowOther HNE.out HW0.out _⟩
set_option maxHeartbeats 8000000 in
set_option maxRecDepth 100000 in
theorem msg10_calls (w0 w : World) (g : Nat) (A : Option Addr) (c : Nat) (b l r0 : List Int) (hi_ : In w0 A c b) (h : RS w0 w g A c b l) (hk : numP 1 10 l = .ok 10 r0) :
    Calls Try.prog 61 #[.pointer (some ⟨g, 0, none⟩)] w fun e w' => LeftM w0 w g A c b (msgP l) e w' := by
  have HI := Aside0.mk hi_
  have HS := Aside0.mk h
  have HNE := Aside0.mk (rs_ne h)
  have HW0 := Aside0.mk h.bel.size
  have HP : Aside0 (msgP l = restP 10 r0) := ⟨by unfold msgP; rw [bnd_ok hk]⟩
  have hu33 := Try.underlying33
  have hu23 := Try.underlying23
  have hu25 := Try.underlying25
  have hu27 := Try.underlying27
  have hu29 := Try.underlying29
  obtain ⟨wa, hwa⟩ : ∃ wa, wa = w.alloc (.cells #[.int .i64 0, .string ⟨#[]⟩, .int .i64 0, .int .i64 0, .int .i64 0, .int .i64 0, .int .i64 0, .int .i64 0, .int .i64 0, .int .i64 0, .int .i64 0, .int .i64 0, .int .i64 0, .int .i64 0, .string ⟨#[]⟩, .int .i64 0, .int .i64 0, .int .i64 0, .int .i64 0, .slice none 0 0] 33 (0, 0)) := ⟨_, rfl⟩
  have HWA := Aside0.mk hwa
  have HA : Aside0 (Kb g w wa ∧ RS w0 wa g A c b l ∧ wa.heap[w.heap.size]? = some (.cells #[.int .i64 0, .string ⟨#[]⟩, .int .i64 0, .int .i64 0, .int .i64 0, .int .i64 0, .int .i64 0, .int .i64 0, .int .i64 0, .int .i64 0, .int .i64 0, .int .i64 0, .int .i64 0, .int .i64 0, .string ⟨#[]⟩, .int .i64 0, .int .i64 0, .int .i64 0, .int .i64 0, .slice none 0 0] 33 (0, 0))) := ⟨by rw [hwa]; exact ⟨Kb.below (al_below w _), h.below (al_below w _), heap_alloc_new w _⟩⟩
  clear hi_ h hwa
  go_enter Try.func61, Try.ntmps61
  go_upto_region 1 with fail
  rw [← HWA.out]
  go_upto_region 2 with (first | ((with_reducible refine gate_dst (N := 3) rfl ?_); refine box_event ?hg (N := 3) ?hd (cs := #[.int .i64 0, .string ⟨#[]⟩, .int .i64 0, .int .i64 0, .int .i64 0, .int .i64 0, .int .i64 0, .int .i64 0, .int .i64 0, .int .i64 0, .int .i64 0, .int .i64 0, .int .i64 0, .int .i64 0, .string ⟨#[]⟩, .int .i64 0, .int .i64 0, .int .i64 0, .int .i64 0, .slice none 0 0]) (t := 33) ?hr ?_; (case hd => rfl); (case hg => rfl); (case hr => first | (go_simp; done) | (go_simp; rfl)); intro mb hmb w6 hbox hb6; go_loud (refine wpList_store_row rfl 33 (.tmp 3) (.tmp 6) rfl mb #[.int .i64 10, .string ⟨#[]⟩, .int .i64 0, .int .i64 0, .int .i64 0, .int .i64 0, .int .i64 0, .int .i64 0, .int .i64 0, .int .i64 0, .int .i64 0, .int .i64 0, .int .i64 0, .int .i64 0, .string ⟨#[]⟩, .int .i64 0, .int .i64 0, .int .i64 0, .int .i64 0, .slice none 0 0] (by rfl) (by rfl) 33 #[.int .i64 0, .string ⟨#[]⟩, .int .i64 0, .int .i64 0, .int .i64 0, .int .i64 0, .int .i64 0, .int .i64 0, .int .i64 0, .int .i64 0, .int .i64 0, .int .i64 0, .int .i64 0, .int .i64 0, .string ⟨#[]⟩, .int .i64 0, .int .i64 0, .int .i64 0, .int .i64 0, .slice none 0 0] hbox inf33 rfl (by simp [Value.oneCell']) ?_)) | (go_at_call 80; refine (num_calls w0 _ g A c b l 1 10 (by decide) (by decide) (by decide) HI.out HA.out.2.1).mono ?_; rintro e w5 ⟨hkb, hb, hm⟩; simp only [hk] at hm; obtain ⟨rfl, hs1⟩ := hm; have HK5 := Aside0.mk (And.intro (HA.out.1.trans hkb) (And.intro hb hs1)); have HR5 := Aside0.mk (kb_blk hkb HNE.out HA.out.2.2); clear hkb hb hs1))
  obtain ⟨wm, hwm⟩ : ∃ wm, wm = w6.setRow mb #[.int .i64 10, .string ⟨#[]⟩, .int .i64 0, .int .i64 0, .int .i64 0, .int .i64 0, .int .i64 0, .int .i64 0, .int .i64 0, .int .i64 0, .int .i64 0, .int .i64 0, .int .i64 0, .int .i64 0, .string ⟨#[]⟩, .int .i64 0, .int .i64 0, .int .i64 0, .int .i64 0, .slice none 0 0] := ⟨_, rfl⟩
  have H0 : Aside0 (Kb g w wm ∧ RS w0 wm g A c b r0 ∧ wm.heap[mb]? = some (.cells #[.int .i64 10, .string ⟨#[]⟩, .int .i64 0, .int .i64 0, .int .i64 0, .int .i64 0, .int .i64 0, .int .i64 0, .int .i64 0, .int .i64 0, .int .i64 0, .int .i64 0, .int .i64 0, .int .i64 0, .string ⟨#[]⟩, .int .i64 0, .int .i64 0, .int .i64 0, .int .i64 0, .slice none 0 0] 33 (0, 0)) ∧ wm.heap[w.heap.size]? = some (.cells #[.int .i64 0, .string ⟨#[]⟩, .int .i64 0, .int .i64 0, .int .i64 0, .int .i64 0, .int .i64 0, .int .i64 0, .int .i64 0, .int .i64 0, .int .i64 0, .int .i64 0, .int .i64 0, .int .i64 0, .string ⟨#[]⟩, .int .i64 0, .int .i64 0, .int .i64 0, .int .i64 0, .slice none 0 0] 33 (0, 0))) := ⟨by rw [hwm]; exact ⟨(HK5.out.1.trans (Kb.below hb6)).setRowNew (by rw [hmb]; exact HK5.out.1.size) _, (HK5.out.2.2.below hb6).setRowOther (by rw [hmb]; exact rs_ne HK5.out.2.2) (by rw [hmb]; exact HK5.out.2.1.size) _, setRow_blk hbox _, (setRow_far (by rw [hmb]; exact Nat.ne_of_lt (blk_lt HR5.out)) _).trans (blk_keep hb6 HR5.out)⟩⟩
  have HMB : Aside0 (w.heap.size ≤ mb ∧ mb ≠ g ∧ w0.heap.size ≤ mb ∧ mb ≠ w.heap.size) := ⟨by rw [hmb]; exact ⟨HK5.out.1.size, rs_ne HK5.out.2.2, HK5.out.2.1.size, by have := blk_lt HR5.out; omega⟩⟩
  rw [← hwm]
  clear hwm hmb hbox hb6 HK5 HR5
  obtain ⟨li0, hli⟩ : ∃ li0, li0 = r0 := ⟨_, rfl⟩
  rw [← hli] at H0 HP
  clear hli hk
  have HSP : Aside0 (restP 10 li0 = (bnd viewsP fun xs => ret (mDig 10 xs)) li0) := ⟨rfl⟩
  have kk : wm.cell? ⟨mb, 0, none⟩ = some (.int .i64 10) := (blk_cell H0.out.2.2.1 0).trans rfl
  go_upto_region 15 with fail
  clear kk
  rcases h0 : viewsP li0 with n0 | ⟨xs, li1⟩
  · have HQ : Aside0 (msgP l = .bad n0) := ⟨by rw [HP.out, HSP.out, bnd_bad h0]⟩
    go_wp2_with (go_at_call 99; refine (views_calls w0 _ g A c b li0 HI.out H0.out.2.1).mono ?_; rintro e w5 ⟨hk, hb, hm⟩; simp only [h0, pan] at hm; subst hm; have HE := Aside0.mk (And.intro (H0.out.1.trans hk) hb); clear hk hb)
    refine ⟨rfl, HE.out.1, HE.out.2, ?_⟩
    rw [HQ.out]
    rfl
  · go_upto_region 16 with (go_at_call 99; refine (views_calls w0 _ g A c b li0 HI.out H0.out.2.1).mono ?_; rintro e w5 ⟨hk, hb, hm⟩; simp only [h0] at hm; obtain ⟨⟨vb, rfl, hvb, hvh⟩, hs1⟩ := hm; have HVB := Aside0.mk (And.intro hvb hvh); have HK5 := Aside0.mk (And.intro (H0.out.1.trans hk) (And.intro hb hs1)); have HX := Aside0.mk (kb_blk hk HMB.out.2.1 H0.out.2.2.1); have HXR := Aside0.mk (kb_blk hk HNE.out H0.out.2.2.2); clear hk hb hs1 hvb hvh; have kc19 : w5.cell? ⟨mb, 19, none⟩ = some (.slice none 0 0) := (blk_cell HX.out 19).trans rfl; have kf19 : w5.frozen? ⟨mb, 19, none⟩ = false := blk_frozen HX.out 19)
    obtain ⟨wz0, hwz⟩ : ∃ wz : World, wz = (w5.setCell ⟨mb, 19, none⟩ (.slice (some ⟨vb, 0, none⟩) xs.length xs.length)) := ⟨_, rfl⟩
    have hbk := (blk_set HX.out 19 (.slice (some ⟨vb, 0, none⟩) xs.length xs.length))
    have H1 : Aside0 (Kb g w wz0 ∧ RS w0 wz0 g A c b li1 ∧ wz0.heap[mb]? = some (.cells #[.int .i64 10, .string ⟨#[]⟩, .int .i64 0, .int .i64 0, .int .i64 0, .int .i64 0, .int .i64 0, .int .i64 0, .int .i64 0, .int .i64 0, .int .i64 0, .int .i64 0, .int .i64 0, .int .i64 0, .string ⟨#[]⟩, .int .i64 0, .int .i64 0, .int .i64 0, .int .i64 0, .slice (some ⟨vb, 0, none⟩) xs.length xs.length] 33 (0, 0)) ∧ wz0.heap[w.heap.size]? = some (.cells #[.int .i64 0, .string ⟨#[]⟩, .int .i64 0, .int .i64 0, .int .i64 0, .int .i64 0, .int .i64 0, .int .i64 0, .int .i64 0, .int .i64 0, .int .i64 0, .int .i64 0, .int .i64 0, .int .i64 0, .string ⟨#[]⟩, .int .i64 0, .int .i64 0, .int .i64 0, .int .i64 0, .slice none 0 0] 33 (0, 0))) := ⟨by rw [hwz]; exact ⟨(HK5.out.1.setNew HMB.out.1 19 _), (HK5.out.2.2.setOther HMB.out.2.1 HMB.out.2.2.1 19 _), by simpa using hbk, (blk_far HXR.out HMB.out.2.2.2 19 (.slice (some ⟨vb, 0, none⟩) xs.length xs.length))⟩⟩
    have HVM : Aside0 (mb ≠ vb) := ⟨fun e => by have := blk_lt H0.out.2.2.1; have := HVB.out.1; omega⟩
    have HVZ : Aside0 (wm.heap.size ≤ vb ∧ wz0.heap[vb]? = some (.cells (rowV xs).toArray 87 (0, 0))) := ⟨by rw [hwz]; exact ⟨HVB.out.1, (blk_far HVB.out.2 HVM.out 19 (.slice (some ⟨vb, 0, none⟩) xs.length xs.length))⟩⟩
    rw [← hwz]
    clear hwz hbk HK5 HX HXR kc19 kf19
    have kk : wz0.cell? ⟨mb, 0, none⟩ = some (.int .i64 10) := (blk_cell H1.out.2.2.1 0).trans rfl
    go_upto_region 16 with fail
    clear kk
    have HQ : Aside0 (msgP l = .ok (mDig 10 xs) li1) := ⟨by rw [HP.out, HSP.out, bnd_ok h0]; rfl⟩
    go_wp2_with ((with_reducible refine gate_dst (N := 45) rfl ?_); refine wpList_load_row rfl 33 (.tmp 3) rfl mb (by rfl) 33 _ (0, 0) _ H1.out.2.2.1 Try.underlying33 rfl inf33 ?_; go_loud (refine wpList_store_row rfl 33 (.tmp 2) (.tmp 45) rfl w.heap.size #[.int .i64 10, .string ⟨#[]⟩, .int .i64 0, .int .i64 0, .int .i64 0, .int .i64 0, .int .i64 0, .int .i64 0, .int .i64 0, .int .i64 0, .int .i64 0, .int .i64 0, .int .i64 0, .int .i64 0, .string ⟨#[]⟩, .int .i64 0, .int .i64 0, .int .i64 0, .int .i64 0, .slice (some ⟨vb, 0, none⟩) xs.length xs.length] (by rfl) (by rfl) 33 _ H1.out.2.2.2 inf33 rfl (by simp [Value.oneCell']) ?_))
    have HBL := setRow_blk H1.out.2.2.2 #[.int .i64 10, .string ⟨#[]⟩, .int .i64 0, .int .i64 0, .int .i64 0, .int .i64 0, .int .i64 0, .int .i64 0, .int .i64 0, .int .i64 0, .int .i64 0, .int .i64 0, .int .i64 0, .int .i64 0, .string ⟨#[]⟩, .int .i64 0, .int .i64 0, .int .i64 0, .int .i64 0, .slice (some ⟨vb, 0, none⟩) xs.length xs.length]
    (try simp only [Exit.inBlock, Exit.then])
    refine bodyPost_ret (v := .agg #[.int .i64 10, .string ⟨#[]⟩, .int .i64 0, .int .i64 0, .int .i64 0, .int .i64 0, .int .i64 0, .int .i64 0, .int .i64 0, .int .i64 0, .int .i64 0, .int .i64 0, .int .i64 0, .int .i64 0, .string ⟨#[]⟩, .int .i64 0, .int .i64 0, .int .i64 0, .int .i64 0, .slice (some ⟨vb, 0, none⟩) xs.length xs.length]) ?_ rfl ?_
    · exact results_cell_row rfl _ _ w.heap.size 33 _ (0, 0) _ (by rfl) HBL hu33 rfl inf33
    refine ⟨H1.out.1.setRowNew (Nat.le_refl _) _, (H1.out.2.1.setRowOther HNE.out HW0.out _).bel, ?_⟩
    rw [HQ.out]
    exact ⟨⟨some ⟨vb, 0, none⟩, xs.length, rfl, .inr ⟨vb, rfl, rfl, Nat.le_trans (H0.out.1.size) HVZ.out.1, (setRow_far (fun e => by have := blk_lt H0.out.2.2.2; have := HVZ.out.1; omega) _).trans HVZ.out.2⟩⟩, H1.out.2.1.setRowOther HNE.out HW0.out _⟩
set_option maxHeartbeats 8000000 in
set_option maxRecDepth 100000 in
theorem msg3_calls (w0 w : World) (g : Nat) (A : Option Addr) (c : Nat) (b l r0 : List Int) (hi_ : In w0 A c b) (h : RS w0 w g A c b l) (hk : numP 1 10 l = .ok 3 r0) :
    Calls Try.prog 61 #[.pointer (some ⟨g, 0, none⟩)] w fun e w' => LeftM w0 w g A c b (msgP l) e w' := by
  have HI := Aside0.mk hi_
  have HS := Aside0.mk h
  have HNE := Aside0.mk (rs_ne h)
  have HW0 := Aside0.mk h.bel.size
  have HP : Aside0 (msgP l = restP 3 r0) := ⟨by unfold msgP; rw [bnd_ok hk]⟩
  have hu33 := Try.underlying33
  have hu23 := Try.underlying23
  have hu25 := Try.underlying25
  have hu27 := Try.underlying27
  have hu29 := Try.underlying29
  obtain ⟨wa, hwa⟩ : ∃ wa, wa = w.alloc (.cells #[.int .i64 0, .string ⟨#[]⟩, .int .i64 0, .int .i64 0, .int .i64 0, .int .i64 0, .int .i64 0, .int .i64 0, .int .i64 0, .int .i64 0, .int .i64 0, .int .i64 0, .int .i64 0, .int .i64 0, .string ⟨#[]⟩, .int .i64 0, .int .i64 0, .int .i64 0, .int .i64 0, .slice none 0 0] 33 (0, 0)) := ⟨_, rfl⟩
  have HWA := Aside0.mk hwa
  have HA : Aside0 (Kb g w wa ∧ RS w0 wa g A c b l ∧ wa.heap[w.heap.size]? = some (.cells #[.int .i64 0, .string ⟨#[]⟩, .int .i64 0, .int .i64 0, .int .i64 0, .int .i64 0, .int .i64 0, .int .i64 0, .int .i64 0, .int .i64 0, .int .i64 0, .int .i64 0, .int .i64 0, .int .i64 0, .string ⟨#[]⟩, .int .i64 0, .int .i64 0, .int .i64 0, .int .i64 0, .slice none 0 0] 33 (0, 0))) := ⟨by rw [hwa]; exact ⟨Kb.below (al_below w _), h.below (al_below w _), heap_alloc_new w _⟩⟩
  clear hi_ h hwa
  go_enter Try.func61, Try.ntmps61
  go_upto_region 1 with fail
  rw [← HWA.out]
  go_upto_region 2 with (first | ((with_reducible refine gate_dst (N := 3) rfl ?_); refine box_event ?hg (N := 3) ?hd (cs := #[.int .i64 0, .string ⟨#[]⟩, .int .i64 0, .int .i64 0, .int .i64 0, .int .i64 0, .int .i64 0, .int .i64 0, .int .i64 0, .int .i64 0, .int .i64 0, .int .i64 0, .int .i64 0, .int .i64 0, .string ⟨#[]⟩, .int .i64 0, .int .i64 0, .int .i64 0, .int .i64 0, .slice none 0 0]) (t := 33) ?hr ?_; (case hd => rfl); (case hg => rfl); (case hr => first | (go_simp; done) | (go_simp; rfl)); intro mb hmb w6 hbox hb6; go_loud (refine wpList_store_row rfl 33 (.tmp 3) (.tmp 6) rfl mb #[.int .i64 3, .string ⟨#[]⟩, .int .i64 0, .int .i64 0, .int .i64 0, .int .i64 0, .int .i64 0, .int .i64 0, .int .i64 0, .int .i64 0, .int .i64 0, .int .i64 0, .int .i64 0, .int .i64 0, .string ⟨#[]⟩, .int .i64 0, .int .i64 0, .int .i64 0, .int .i64 0, .slice none 0 0] (by rfl) (by rfl) 33 #[.int .i64 0, .string ⟨#[]⟩, .int .i64 0, .int .i64 0, .int .i64 0, .int .i64 0, .int .i64 0, .int .i64 0, .int .i64 0, .int .i64 0, .int .i64 0, .int .i64 0, .int .i64 0, .int .i64 0, .string ⟨#[]⟩, .int .i64 0, .int .i64 0, .int .i64 0, .int .i64 0, .slice none 0 0] hbox inf33 rfl (by simp [Value.oneCell']) ?_)) | (go_at_call 80; refine (num_calls w0 _ g A c b l 1 10 (by decide) (by decide) (by decide) HI.out HA.out.2.1).mono ?_; rintro e w5 ⟨hkb, hb, hm⟩; simp only [hk] at hm; obtain ⟨rfl, hs1⟩ := hm; have HK5 := Aside0.mk (And.intro (HA.out.1.trans hkb) (And.intro hb hs1)); have HR5 := Aside0.mk (kb_blk hkb HNE.out HA.out.2.2); clear hkb hb hs1))
  obtain ⟨wm, hwm⟩ : ∃ wm, wm = w6.setRow mb #[.int .i64 3, .string ⟨#[]⟩, .int .i64 0, .int .i64 0, .int .i64 0, .int .i64 0, .int .i64 0, .int .i64 0, .int .i64 0, .int .i64 0, .int .i64 0, .int .i64 0, .int .i64 0, .int .i64 0, .string ⟨#[]⟩, .int .i64 0, .int .i64 0, .int .i64 0, .int .i64 0, .slice none 0 0] := ⟨_, rfl⟩
  have H0 : Aside0 (Kb g w wm ∧ RS w0 wm g A c b r0 ∧ wm.heap[mb]? = some (.cells #[.int .i64 3, .string ⟨#[]⟩, .int .i64 0, .int .i64 0, .int .i64 0, .int .i64 0, .int .i64 0, .int .i64 0, .int .i64 0, .int .i64 0, .int .i64 0, .int .i64 0, .int .i64 0, .int .i64 0, .string ⟨#[]⟩, .int .i64 0, .int .i64 0, .int .i64 0, .int .i64 0, .slice none 0 0] 33 (0, 0)) ∧ wm.heap[w.heap.size]? = some (.cells #[.int .i64 0, .string ⟨#[]⟩, .int .i64 0, .int .i64 0, .int .i64 0, .int .i64 0, .int .i64 0, .int .i64 0, .int .i64 0, .int .i64 0, .int .i64 0, .int .i64 0, .int .i64 0, .int .i64 0, .string ⟨#[]⟩, .int .i64 0, .int .i64 0, .int .i64 0, .int .i64 0, .slice none 0 0] 33 (0, 0))) := ⟨by rw [hwm]; exact ⟨(HK5.out.1.trans (Kb.below hb6)).setRowNew (by rw [hmb]; exact HK5.out.1.size) _, (HK5.out.2.2.below hb6).setRowOther (by rw [hmb]; exact rs_ne HK5.out.2.2) (by rw [hmb]; exact HK5.out.2.1.size) _, setRow_blk hbox _, (setRow_far (by rw [hmb]; exact Nat.ne_of_lt (blk_lt HR5.out)) _).trans (blk_keep hb6 HR5.out)⟩⟩
  have HMB : Aside0 (w.heap.size ≤ mb ∧ mb ≠ g ∧ w0.heap.size ≤ mb ∧ mb ≠ w.heap.size) := ⟨by rw [hmb]; exact ⟨HK5.out.1.size, rs_ne HK5.out.2.2, HK5.out.2.1.size, by have := blk_lt HR5.out; omega⟩⟩
  rw [← hwm]
  clear hwm hmb hbox hb6 HK5 HR5
  obtain ⟨li0, hli⟩ : ∃ li0, li0 = r0 := ⟨_, rfl⟩
  rw [← hli] at H0 HP
  clear hli hk
  have HSP : Aside0 (restP 3 li0 = (bnd (nameP eB) fun s => bnd (pairP 1 1099511627776 0 1099511627776) fun p => bnd (pairP 1 1099511627776 0 15) fun ep => ret (mOf 3 s p ep z25 z25 0)) li0) := ⟨by unfold restP; rw [if_neg (by decide), if_neg (by decide), if_neg (by decide)]; unfold ofP optP; simp only [hasEp, hasRt, Int.reduceLE, Int.reduceEq, and_self, or_self, or_true, true_or, and_true, true_and, or_false, false_or, and_false, false_and, if_true, if_false, ite_true, ite_false, bnd_ret, reduceIte]; rfl⟩
  have kk : wm.cell? ⟨mb, 0, none⟩ = some (.int .i64 3) := (blk_cell H0.out.2.2.1 0).trans rfl
  go_upto_region 17 with fail
  clear kk
  rcases h0 : nameP eB li0 with n0 | ⟨s, li1⟩
  · have HQ : Aside0 (msgP l = .bad n0) := ⟨by rw [HP.out, HSP.out, bnd_bad h0]⟩
    go_wp2_with (go_at_call 97; refine (name_calls w0 _ g A c b li0 eB HI.out H0.out.2.1).mono ?_; rintro e w5 ⟨hk, hb, hm⟩; simp only [h0, pan] at hm; subst hm; have HE := Aside0.mk (And.intro (H0.out.1.trans hk) hb); clear hk hb)
    refine ⟨rfl, HE.out.1, HE.out.2, ?_⟩
    rw [HQ.out]
    rfl
  · go_upto_region 18 with (go_at_call 97; refine (name_calls w0 _ g A c b li0 eB HI.out H0.out.2.1).mono ?_; rintro e w5 ⟨hk, hb, hm⟩; simp only [h0] at hm; obtain ⟨rfl, hs1⟩ := hm; have HK5 := Aside0.mk (And.intro (H0.out.1.trans hk) (And.intro hb hs1)); have HX := Aside0.mk (kb_blk hk HMB.out.2.1 H0.out.2.2.1); have HXR := Aside0.mk (kb_blk hk HNE.out H0.out.2.2.2); clear hk hb hs1; have kc1 : w5.cell? ⟨mb, 1, none⟩ = some (.string ⟨#[]⟩) := (blk_cell HX.out 1).trans rfl; have kf1 : w5.frozen? ⟨mb, 1, none⟩ = false := blk_frozen HX.out 1)
    obtain ⟨wz0, hwz⟩ : ∃ wz : World, wz = (w5.setCell ⟨mb, 1, none⟩ (.string s)) := ⟨_, rfl⟩
    have hbk := (blk_set HX.out 1 (.string s))
    have H1 : Aside0 (Kb g w wz0 ∧ RS w0 wz0 g A c b li1 ∧ wz0.heap[mb]? = some (.cells #[.int .i64 3, .string s, .int .i64 0, .int .i64 0, .int .i64 0, .int .i64 0, .int .i64 0, .int .i64 0, .int .i64 0, .int .i64 0, .int .i64 0, .int .i64 0, .int .i64 0, .int .i64 0, .string ⟨#[]⟩, .int .i64 0, .int .i64 0, .int .i64 0, .int .i64 0, .slice none 0 0] 33 (0, 0)) ∧ wz0.heap[w.heap.size]? = some (.cells #[.int .i64 0, .string ⟨#[]⟩, .int .i64 0, .int .i64 0, .int .i64 0, .int .i64 0, .int .i64 0, .int .i64 0, .int .i64 0, .int .i64 0, .int .i64 0, .int .i64 0, .int .i64 0, .int .i64 0, .string ⟨#[]⟩, .int .i64 0, .int .i64 0, .int .i64 0, .int .i64 0, .slice none 0 0] 33 (0, 0))) := ⟨by rw [hwz]; exact ⟨(HK5.out.1.setNew HMB.out.1 1 _), (HK5.out.2.2.setOther HMB.out.2.1 HMB.out.2.2.1 1 _), by simpa using hbk, (blk_far HXR.out HMB.out.2.2.2 1 (.string s))⟩⟩
    rw [← hwz]
    clear hwz hbk HK5 HX HXR kc1 kf1
    have kk : wz0.cell? ⟨mb, 0, none⟩ = some (.int .i64 3) := (blk_cell H1.out.2.2.1 0).trans rfl
    go_upto_region 18 with fail
    clear kk
    rcases h1 : pairP 1 1099511627776 0 1099511627776 li1 with n0 | ⟨p, li2⟩
    · have HQ : Aside0 (msgP l = .bad n0) := ⟨by rw [HP.out, HSP.out, bnd_ok h0, bnd_bad h1]⟩
      go_wp2_with (go_at_call 98; refine (cap_calls w0 _ g A c b li1 HI.out H1.out.2.1).mono ?_; rintro e w5 ⟨hk, hb, hm⟩; simp only [h1, pan] at hm; subst hm; have HE := Aside0.mk (And.intro (H1.out.1.trans hk) hb); clear hk hb)
      refine ⟨rfl, HE.out.1, HE.out.2, ?_⟩
      rw [HQ.out]
      rfl
    · go_upto_region 19 with (go_at_call 98; refine (cap_calls w0 _ g A c b li1 HI.out H1.out.2.1).mono ?_; rintro e w5 ⟨hk, hb, hm⟩; simp only [h1] at hm; obtain ⟨rfl, hs1⟩ := hm; have HK5 := Aside0.mk (And.intro (H1.out.1.trans hk) (And.intro hb hs1)); have HX := Aside0.mk (kb_blk hk HMB.out.2.1 H1.out.2.2.1); have HXR := Aside0.mk (kb_blk hk HNE.out H1.out.2.2.2); clear hk hb hs1; have kc2 : w5.cell? ⟨mb, 2, none⟩ = some (.int .i64 0) := (blk_cell HX.out 2).trans rfl; have kf2 : w5.frozen? ⟨mb, 2, none⟩ = false := blk_frozen HX.out 2; have kc3 : w5.cell? ⟨mb, 3, none⟩ = some (.int .i64 0) := (blk_cell HX.out 3).trans rfl; have kf3 : w5.frozen? ⟨mb, 3, none⟩ = false := blk_frozen HX.out 3)
      obtain ⟨wz1, hwz⟩ : ∃ wz : World, wz = ((w5.setCell ⟨mb, 2, none⟩ (.int .i64 p.f0)).setCell ⟨mb, 3, none⟩ (.int .i64 p.f1)) := ⟨_, rfl⟩
      have hbk := (blk_set (blk_set HX.out 2 (.int .i64 p.f0)) 3 (.int .i64 p.f1))
      have H2 : Aside0 (Kb g w wz1 ∧ RS w0 wz1 g A c b li2 ∧ wz1.heap[mb]? = some (.cells #[.int .i64 3, .string s, .int .i64 p.f0, .int .i64 p.f1, .int .i64 0, .int .i64 0, .int .i64 0, .int .i64 0, .int .i64 0, .int .i64 0, .int .i64 0, .int .i64 0, .int .i64 0, .int .i64 0, .string ⟨#[]⟩, .int .i64 0, .int .i64 0, .int .i64 0, .int .i64 0, .slice none 0 0] 33 (0, 0)) ∧ wz1.heap[w.heap.size]? = some (.cells #[.int .i64 0, .string ⟨#[]⟩, .int .i64 0, .int .i64 0, .int .i64 0, .int .i64 0, .int .i64 0, .int .i64 0, .int .i64 0, .int .i64 0, .int .i64 0, .int .i64 0, .int .i64 0, .int .i64 0, .string ⟨#[]⟩, .int .i64 0, .int .i64 0, .int .i64 0, .int .i64 0, .slice none 0 0] 33 (0, 0))) := ⟨by rw [hwz]; exact ⟨((HK5.out.1.setNew HMB.out.1 2 _).setNew HMB.out.1 3 _), ((HK5.out.2.2.setOther HMB.out.2.1 HMB.out.2.2.1 2 _).setOther HMB.out.2.1 HMB.out.2.2.1 3 _), by simpa using hbk, (blk_far (blk_far HXR.out HMB.out.2.2.2 2 (.int .i64 p.f0)) HMB.out.2.2.2 3 (.int .i64 p.f1))⟩⟩
      rw [← hwz]
      clear hwz hbk HK5 HX HXR kc2 kf2 kc3 kf3
      have kk : wz1.cell? ⟨mb, 0, none⟩ = some (.int .i64 3) := (blk_cell H2.out.2.2.1 0).trans rfl
      go_upto_region 25 with fail
      clear kk
      rcases h2 : pairP 1 1099511627776 0 15 li2 with n0 | ⟨ep, li3⟩
      · have HQ : Aside0 (msgP l = .bad n0) := ⟨by rw [HP.out, HSP.out, bnd_ok h0, bnd_ok h1, bnd_bad h2]⟩
        go_wp2_with (go_at_call 100; refine (epoch_calls w0 _ g A c b li2 HI.out H2.out.2.1).mono ?_; rintro e w5 ⟨hk, hb, hm⟩; simp only [h2, pan] at hm; subst hm; have HE := Aside0.mk (And.intro (H2.out.1.trans hk) hb); clear hk hb)
        refine ⟨rfl, HE.out.1, HE.out.2, ?_⟩
        rw [HQ.out]
        rfl
      · go_upto_region 32 with (go_at_call 100; refine (epoch_calls w0 _ g A c b li2 HI.out H2.out.2.1).mono ?_; rintro e w5 ⟨hk, hb, hm⟩; simp only [h2] at hm; obtain ⟨rfl, hs1⟩ := hm; have HK5 := Aside0.mk (And.intro (H2.out.1.trans hk) (And.intro hb hs1)); have HX := Aside0.mk (kb_blk hk HMB.out.2.1 H2.out.2.2.1); have HXR := Aside0.mk (kb_blk hk HNE.out H2.out.2.2.2); clear hk hb hs1; have kc4 : w5.cell? ⟨mb, 4, none⟩ = some (.int .i64 0) := (blk_cell HX.out 4).trans rfl; have kf4 : w5.frozen? ⟨mb, 4, none⟩ = false := blk_frozen HX.out 4; have kc5 : w5.cell? ⟨mb, 5, none⟩ = some (.int .i64 0) := (blk_cell HX.out 5).trans rfl; have kf5 : w5.frozen? ⟨mb, 5, none⟩ = false := blk_frozen HX.out 5)
        obtain ⟨wz2, hwz⟩ : ∃ wz : World, wz = ((w5.setCell ⟨mb, 4, none⟩ (.int .i64 ep.f0)).setCell ⟨mb, 5, none⟩ (.int .i64 ep.f1)) := ⟨_, rfl⟩
        have hbk := (blk_set (blk_set HX.out 4 (.int .i64 ep.f0)) 5 (.int .i64 ep.f1))
        have H3 : Aside0 (Kb g w wz2 ∧ RS w0 wz2 g A c b li3 ∧ wz2.heap[mb]? = some (.cells #[.int .i64 3, .string s, .int .i64 p.f0, .int .i64 p.f1, .int .i64 ep.f0, .int .i64 ep.f1, .int .i64 0, .int .i64 0, .int .i64 0, .int .i64 0, .int .i64 0, .int .i64 0, .int .i64 0, .int .i64 0, .string ⟨#[]⟩, .int .i64 0, .int .i64 0, .int .i64 0, .int .i64 0, .slice none 0 0] 33 (0, 0)) ∧ wz2.heap[w.heap.size]? = some (.cells #[.int .i64 0, .string ⟨#[]⟩, .int .i64 0, .int .i64 0, .int .i64 0, .int .i64 0, .int .i64 0, .int .i64 0, .int .i64 0, .int .i64 0, .int .i64 0, .int .i64 0, .int .i64 0, .int .i64 0, .string ⟨#[]⟩, .int .i64 0, .int .i64 0, .int .i64 0, .int .i64 0, .slice none 0 0] 33 (0, 0))) := ⟨by rw [hwz]; exact ⟨((HK5.out.1.setNew HMB.out.1 4 _).setNew HMB.out.1 5 _), ((HK5.out.2.2.setOther HMB.out.2.1 HMB.out.2.2.1 4 _).setOther HMB.out.2.1 HMB.out.2.2.1 5 _), by simpa using hbk, (blk_far (blk_far HXR.out HMB.out.2.2.2 4 (.int .i64 ep.f0)) HMB.out.2.2.2 5 (.int .i64 ep.f1))⟩⟩
        rw [← hwz]
        clear hwz hbk HK5 HX HXR kc4 kf4 kc5 kf5
        have kk : wz2.cell? ⟨mb, 0, none⟩ = some (.int .i64 3) := (blk_cell H3.out.2.2.1 0).trans rfl
        go_upto_region 32 with fail
        clear kk
        have HQ : Aside0 (msgP l = .ok (mOf 3 s p ep z25 z25 0) li3) := ⟨by rw [HP.out, HSP.out, bnd_ok h0, bnd_ok h1, bnd_ok h2]; rfl⟩
        go_wp2_with ((with_reducible refine gate_dst (N := 87) rfl ?_); refine wpList_load_row rfl 33 (.tmp 3) rfl mb (by rfl) 33 _ (0, 0) _ H3.out.2.2.1 Try.underlying33 rfl inf33 ?_; go_loud (refine wpList_store_row rfl 33 (.tmp 2) (.tmp 87) rfl w.heap.size #[.int .i64 3, .string s, .int .i64 p.f0, .int .i64 p.f1, .int .i64 ep.f0, .int .i64 ep.f1, .int .i64 0, .int .i64 0, .int .i64 0, .int .i64 0, .int .i64 0, .int .i64 0, .int .i64 0, .int .i64 0, .string ⟨#[]⟩, .int .i64 0, .int .i64 0, .int .i64 0, .int .i64 0, .slice none 0 0] (by rfl) (by rfl) 33 _ H3.out.2.2.2 inf33 rfl (by simp [Value.oneCell']) ?_))
        have HBL := setRow_blk H3.out.2.2.2 #[.int .i64 3, .string s, .int .i64 p.f0, .int .i64 p.f1, .int .i64 ep.f0, .int .i64 ep.f1, .int .i64 0, .int .i64 0, .int .i64 0, .int .i64 0, .int .i64 0, .int .i64 0, .int .i64 0, .int .i64 0, .string ⟨#[]⟩, .int .i64 0, .int .i64 0, .int .i64 0, .int .i64 0, .slice none 0 0]
        (try simp only [Exit.inBlock, Exit.then])
        refine bodyPost_ret (v := .agg #[.int .i64 3, .string s, .int .i64 p.f0, .int .i64 p.f1, .int .i64 ep.f0, .int .i64 ep.f1, .int .i64 0, .int .i64 0, .int .i64 0, .int .i64 0, .int .i64 0, .int .i64 0, .int .i64 0, .int .i64 0, .string ⟨#[]⟩, .int .i64 0, .int .i64 0, .int .i64 0, .int .i64 0, .slice none 0 0]) ?_ rfl ?_
        · exact results_cell_row rfl _ _ w.heap.size 33 _ (0, 0) _ (by rfl) HBL hu33 rfl inf33
        refine ⟨H3.out.1.setRowNew (Nat.le_refl _) _, (H3.out.2.1.setRowOther HNE.out HW0.out _).bel, ?_⟩
        rw [HQ.out]
        exact ⟨⟨none, 0, rfl, .inl ⟨rfl, rfl, rfl⟩⟩, H3.out.2.1.setRowOther HNE.out HW0.out _⟩
end Go.Proofs.Ytpgdmmjbhjbbhaa.Rd
end
