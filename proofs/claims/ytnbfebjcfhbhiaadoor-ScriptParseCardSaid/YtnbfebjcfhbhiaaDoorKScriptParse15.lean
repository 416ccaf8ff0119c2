/- texts that the proof needs, laid together by a program of this session. -/
import Derived.BigRegion
import Derived.Lib.ItoaMem
import Derived.Test.YtnbfebjcfhbhiaaDoorKScriptParse14
section
namespace Go.Proofs.YtnbfebjcfhbhiaaDoor.Rf
open Go Go.RowKit Go.Proofs.YtnbfebjcfhbhiaaDoor.P Go.Proofs.YtnbfebjcfhbhiaaDoor.Sc Go.Proofs.YtnbfebjcfhbhiaaDoor.Lw Go.Proofs.YtnbfebjcfhbhiaaDoorW.PrintWords Go.Proofs.YtnbfebjcfhbhiaaDoorW.PrintLast Go.Proofs.YtnbfebjcfhbhiaaDoorW.PrintMore
set_option linter.unusedVariables false
set_option linter.unusedSimpArgs false
theorem cfg_end {s : R Unit} : Post (cfgGo []) s [] s := Post.congr (Post.ret [] s) (fun l => by rw [cfgGo])
theorem cfg_cons {w : By} {ws : List By} {s s1 s2 s3 : R Unit} {n : Int} {x : List Int} (h0 : Post (byteP 32) s () s1) (h1 : Post (namedP w) s1 n s2) (h2 : Post (cfgGo ws) s2 x s3) : Post (cfgGo (w :: ws)) s (n :: x) s3 :=
  Post.congr (h0.bnd (f := fun _ l => (namedP w l).bnd fun n l => (cfgGo ws l).bnd fun x l => .good (n :: x) l) (h1.bnd (f := fun n l => (cfgGo ws l).bnd fun x l => .good (n :: x) l) (h2.bnd (f := fun x l => .good (n :: x) l) (Post.ret _ _)))) (fun l => by rw [cfgGo])
theorem cfg_first {s s1 s2 : R Unit} {n : Int} {x : List Int} (h1 : Post (namedP cfgW0) s n s1) (h2 : Post (cfgGo cfgWs) s1 x s2) : Post cfgP s (n :: x) s2 :=
  h1.bnd (f := fun n l => (cfgGo cfgWs l).bnd fun x l => .good (n :: x) l) (h2.bnd (f := fun x l => .good (n :: x) l) (Post.ret _ _))
theorem cfg_post {c : List Int} {s s1 s2 : R Unit} (h1 : Post cfgP s c s1) (h2 : Post (byteP 10) s1 () s2) : Post (endP cfgP) s c s2 :=
  h1.bnd (f := fun x l => (byteP 10 l).bnd fun _ l => .good x l) (h2.bnd (f := fun _ l => .good c l) (Post.ret c s2))
/-- While a config is read: the config at b. -/
structure CX (w0 W wx : World) (g b : Nat) (a : By) (s : R Unit) (c : List Int) : Prop where
  ls : RSt w0 wx g a s
  cf : wx.heap[b]? = some (.cells (cfc c) 25 (0, 0))
  pl : w0.heap.size ≤ b ∧ g ≠ b
  kb : KB W wx g b
section
variable {w0 W wx w1 : World} {g b : Nat} {a : By} {s s' : R Unit} {c c' : List Int}
theorem CX.call (h : CX w0 W wx g b a s c) (hr : RSt w0 w1 g a s') (k : KeepBut wx w1 g none) : CX w0 W w1 g b a s' c :=
  ⟨hr, (k.2 b (blk_lt h.cf) (Ne.symm h.pl.2) (by simp)).trans h.cf, h.pl, h.kb.keep k⟩
theorem CX.set (h : CX w0 W wx g b a s c) (j : Nat) (v : Int) (hj : j = c.length) (hc : (cfc c).setIfInBounds j (.int .i64 v) = cfc c') : CX w0 W (wx.setCell ⟨b, j, none⟩ (.int .i64 v)) g b a s c' :=
  ⟨h.ls.set (p := ⟨b, j, none⟩) h.pl.2 h.pl.1 _, by rw [heap_setCell_same wx b j _ _ _ h.cf, hc], h.pl, h.kb.set j _⟩
theorem CX.cell (h : CX w0 W wx g b a s c) (hc : c.length ≤ 10) {i : Nat} (hi : i < 10) : wx.cell? ⟨b, i, none⟩ = some (.int .i64 ((cfl c).getD i 0)) ∧ wx.frozen? ⟨b, i, none⟩ = false := by
  refine ⟨(blk_cell h.cf i).trans ?_, blk_frozen h.cf i⟩
  have : i < (cfl c).length := by rw [cfl_len hc]; exact hi
  simp [cfc, this, List.getD_eq_getElem?_getD]
end
/-- What a config leaves. -/
def CfgQ (w0 wx : World) (g : Nat) (a : By) (s : R Unit) (e : Ending) (w' : World) : Prop := ∃ c s', e = .returned (.agg (cfc c)) ∧ c.length = 10 ∧ RSt w0 w' g a s' ∧ KeepBut wx w' g none ∧ Post (endP cfgP) s c s'
set_option maxHeartbeats 16000000 in
set_option maxRecDepth 100000 in
theorem rcfg_calls {w0 wx : World} {g : Nat} {a : By} {s : R Unit} (ha : a.length ≤ 1048576) (h : RSt w0 wx g a s) :
    Calls Tryd.prog 46 #[.pointer (some ⟨g, 0, none⟩)] wx (CfgQ w0 wx g a s) := by
  have HA := Aside0.mk ha
  have hu25 := Tryd.underlying25
  obtain ⟨wa, hwa⟩ : ∃ wa, wa = (wx.alloc (.cells (cfc []) 25 (0, 0))).alloc (.cells (cfc []) 25 (0, 0)) := ⟨_, rfl⟩
  have HWA := Aside0.mk hwa
  have HB : Aside0 (Below wx.heap.size wx wa ∧ wa.heap.size = wx.heap.size + 1 + 1 ∧ wa.heap[wx.heap.size]? = some (.cells (cfc []) 25 (0, 0)) ∧ wa.heap[wx.heap.size + 1]? = some (.cells (cfc []) 25 (0, 0))) := ⟨by
    rw [hwa]
    refine ⟨((Below.refl _ _).alloc (Nat.le_refl _) _).alloc (by simp) _, by simp, (Below.heap_alloc _ _ _ (by simp)).trans (heap_alloc_new wx _), ?_⟩
    have := heap_alloc_new (wx.alloc (.cells (cfc []) 25 (0, 0))) (.cells (cfc []) 25 (0, 0))
    simpa using this⟩
  have HG : Aside0 (g < wx.heap.size ∧ w0.heap.size ≤ g) := ⟨⟨h.lt, h.ge⟩⟩
  have HX : Aside0 (CX w0 wa wa g (wx.heap.size + 1) a s []) := ⟨by
    have h1 := HB.out
    have h2 := HG.out
    exact ⟨h.below h1.1, h1.2.2.2, ⟨by omega, by omega⟩, KB.refl _ _ _⟩⟩
  clear h hwa ha
  go_enter Tryd.func46, Tryd.ntmps46
  go_upto_region 2 with fail
  rw [show ((#[.int .i64 0, .int .i64 0, .int .i64 0, .int .i64 0, .int .i64 0, .int .i64 0, .int .i64 0, .int .i64 0, .int .i64 0, .int .i64 0] : Array Value)) = cfc [] from rfl, ← HWA.out]
  go_upto_region 3 with (go_at_call 64; (refine (named_calls w0 _ g a s _ [114, 101, 112, 108, 105, 99, 97, 115] rfl HA.out HX.out.ls).mono ?_; rintro e v0 ⟨n0, s0, rfl, h1, p1, k1⟩; have HP0 := Aside0.mk p1; have hc0 := ((HX.out.call h1 k1).cell (by simp) (i := 0) (by decide)).1; have hf0 := ((HX.out.call h1 k1).cell (by simp) (i := 0) (by decide)).2; have n0_ := Aside0.mk ((HX.out.call h1 k1).set (c' := [n0]) 0 n0 rfl (by rfl)); clear HX h1 p1 k1; have HX := n0_; clear n0_))
  go_upto_region 4 with (go_at_call 45; (refine (want_calls w0 _ g a s0 32 _ rfl HA.out HX.out.ls).mono ?_; rintro e u0 ⟨t0, rfl, h1, p1, k1⟩; have HQ0 := Aside0.mk p1; have n0_ := Aside0.mk (HX.out.call h1 k1); clear HX h1 p1 k1; have HX := n0_; clear n0_))
  go_upto_region 5 with (go_at_call 64; (refine (named_calls w0 _ g a t0 _ [119, 105, 110, 100, 111, 119] rfl HA.out HX.out.ls).mono ?_; rintro e v1 ⟨n1, s1, rfl, h1, p1, k1⟩; have HP1 := Aside0.mk p1; have hc1 := ((HX.out.call h1 k1).cell (by simp) (i := 1) (by decide)).1; have hf1 := ((HX.out.call h1 k1).cell (by simp) (i := 1) (by decide)).2; have n0_ := Aside0.mk ((HX.out.call h1 k1).set (c' := [n0, n1]) 1 n1 rfl (by rfl)); clear HX h1 p1 k1; have HX := n0_; clear n0_))
  go_upto_region 6 with (go_at_call 45; (refine (want_calls w0 _ g a s1 32 _ rfl HA.out HX.out.ls).mono ?_; rintro e u1 ⟨t1, rfl, h1, p1, k1⟩; have HQ1 := Aside0.mk p1; have n0_ := Aside0.mk (HX.out.call h1 k1); clear HX h1 p1 k1; have HX := n0_; clear n0_))
  go_upto_region 7 with (go_at_call 64; (refine (named_calls w0 _ g a t1 _ [114, 101, 115, 101, 110, 100] rfl HA.out HX.out.ls).mono ?_; rintro e v2 ⟨n2, s2, rfl, h1, p1, k1⟩; have HP2 := Aside0.mk p1; have hc2 := ((HX.out.call h1 k1).cell (by simp) (i := 2) (by decide)).1; have hf2 := ((HX.out.call h1 k1).cell (by simp) (i := 2) (by decide)).2; have n0_ := Aside0.mk ((HX.out.call h1 k1).set (c' := [n0, n1, n2]) 2 n2 rfl (by rfl)); clear HX h1 p1 k1; have HX := n0_; clear n0_))
  go_upto_region 8 with (go_at_call 45; (refine (want_calls w0 _ g a s2 32 _ rfl HA.out HX.out.ls).mono ?_; rintro e u2 ⟨t2, rfl, h1, p1, k1⟩; have HQ2 := Aside0.mk p1; have n0_ := Aside0.mk (HX.out.call h1 k1); clear HX h1 p1 k1; have HX := n0_; clear n0_))
  go_upto_region 9 with (go_at_call 64; (refine (named_calls w0 _ g a t2 _ [116, 105, 109, 101, 111, 117, 116] rfl HA.out HX.out.ls).mono ?_; rintro e v3 ⟨n3, s3, rfl, h1, p1, k1⟩; have HP3 := Aside0.mk p1; have hc3 := ((HX.out.call h1 k1).cell (by simp) (i := 3) (by decide)).1; have hf3 := ((HX.out.call h1 k1).cell (by simp) (i := 3) (by decide)).2; have n0_ := Aside0.mk ((HX.out.call h1 k1).set (c' := [n0, n1, n2, n3]) 3 n3 rfl (by rfl)); clear HX h1 p1 k1; have HX := n0_; clear n0_))
  go_upto_region 10 with (go_at_call 45; (refine (want_calls w0 _ g a s3 32 _ rfl HA.out HX.out.ls).mono ?_; rintro e u3 ⟨t3, rfl, h1, p1, k1⟩; have HQ3 := Aside0.mk p1; have n0_ := Aside0.mk (HX.out.call h1 k1); clear HX h1 p1 k1; have HX := n0_; clear n0_))
  go_upto_region 11 with (go_at_call 64; (refine (named_calls w0 _ g a t3 _ [113, 117, 101, 117, 101] rfl HA.out HX.out.ls).mono ?_; rintro e v4 ⟨n4, s4, rfl, h1, p1, k1⟩; have HP4 := Aside0.mk p1; have hc4 := ((HX.out.call h1 k1).cell (by simp) (i := 4) (by decide)).1; have hf4 := ((HX.out.call h1 k1).cell (by simp) (i := 4) (by decide)).2; have n0_ := Aside0.mk ((HX.out.call h1 k1).set (c' := [n0, n1, n2, n3, n4]) 4 n4 rfl (by rfl)); clear HX h1 p1 k1; have HX := n0_; clear n0_))
  go_upto_region 12 with (go_at_call 45; (refine (want_calls w0 _ g a s4 32 _ rfl HA.out HX.out.ls).mono ?_; rintro e u4 ⟨t4, rfl, h1, p1, k1⟩; have HQ4 := Aside0.mk p1; have n0_ := Aside0.mk (HX.out.call h1 k1); clear HX h1 p1 k1; have HX := n0_; clear n0_))
  go_upto_region 13 with (go_at_call 64; (refine (named_calls w0 _ g a t4 _ [99, 97, 99, 104, 101] rfl HA.out HX.out.ls).mono ?_; rintro e v5 ⟨n5, s5, rfl, h1, p1, k1⟩; have HP5 := Aside0.mk p1; have hc5 := ((HX.out.call h1 k1).cell (by simp) (i := 5) (by decide)).1; have hf5 := ((HX.out.call h1 k1).cell (by simp) (i := 5) (by decide)).2; have n0_ := Aside0.mk ((HX.out.call h1 k1).set (c' := [n0, n1, n2, n3, n4, n5]) 5 n5 rfl (by rfl)); clear HX h1 p1 k1; have HX := n0_; clear n0_))
  go_upto_region 14 with (go_at_call 45; (refine (want_calls w0 _ g a s5 32 _ rfl HA.out HX.out.ls).mono ?_; rintro e u5 ⟨t5, rfl, h1, p1, k1⟩; have HQ5 := Aside0.mk p1; have n0_ := Aside0.mk (HX.out.call h1 k1); clear HX h1 p1 k1; have HX := n0_; clear n0_))
  go_upto_region 15 with (go_at_call 64; (refine (named_calls w0 _ g a t5 _ [99, 111, 117, 110, 116, 101, 114, 115] rfl HA.out HX.out.ls).mono ?_; rintro e v6 ⟨n6, s6, rfl, h1, p1, k1⟩; have HP6 := Aside0.mk p1; have hc6 := ((HX.out.call h1 k1).cell (by simp) (i := 6) (by decide)).1; have hf6 := ((HX.out.call h1 k1).cell (by simp) (i := 6) (by decide)).2; have n0_ := Aside0.mk ((HX.out.call h1 k1).set (c' := [n0, n1, n2, n3, n4, n5, n6]) 6 n6 rfl (by rfl)); clear HX h1 p1 k1; have HX := n0_; clear n0_))
  go_upto_region 16 with (go_at_call 45; (refine (want_calls w0 _ g a s6 32 _ rfl HA.out HX.out.ls).mono ?_; rintro e u6 ⟨t6, rfl, h1, p1, k1⟩; have HQ6 := Aside0.mk p1; have n0_ := Aside0.mk (HX.out.call h1 k1); clear HX h1 p1 k1; have HX := n0_; clear n0_))
  go_upto_region 17 with (go_at_call 64; (refine (named_calls w0 _ g a t6 _ [104, 111, 108, 100, 115] rfl HA.out HX.out.ls).mono ?_; rintro e v7 ⟨n7, s7, rfl, h1, p1, k1⟩; have HP7 := Aside0.mk p1; have hc7 := ((HX.out.call h1 k1).cell (by simp) (i := 7) (by decide)).1; have hf7 := ((HX.out.call h1 k1).cell (by simp) (i := 7) (by decide)).2; have n0_ := Aside0.mk ((HX.out.call h1 k1).set (c' := [n0, n1, n2, n3, n4, n5, n6, n7]) 7 n7 rfl (by rfl)); clear HX h1 p1 k1; have HX := n0_; clear n0_))
  go_upto_region 18 with (go_at_call 45; (refine (want_calls w0 _ g a s7 32 _ rfl HA.out HX.out.ls).mono ?_; rintro e u7 ⟨t7, rfl, h1, p1, k1⟩; have HQ7 := Aside0.mk p1; have n0_ := Aside0.mk (HX.out.call h1 k1); clear HX h1 p1 k1; have HX := n0_; clear n0_))
  go_upto_region 19 with (go_at_call 64; (refine (named_calls w0 _ g a t7 _ [115, 101, 115, 115, 105, 111, 110, 115] rfl HA.out HX.out.ls).mono ?_; rintro e v8 ⟨n8, s8, rfl, h1, p1, k1⟩; have HP8 := Aside0.mk p1; have hc8 := ((HX.out.call h1 k1).cell (by simp) (i := 8) (by decide)).1; have hf8 := ((HX.out.call h1 k1).cell (by simp) (i := 8) (by decide)).2; have n0_ := Aside0.mk ((HX.out.call h1 k1).set (c' := [n0, n1, n2, n3, n4, n5, n6, n7, n8]) 8 n8 rfl (by rfl)); clear HX h1 p1 k1; have HX := n0_; clear n0_))
  go_upto_region 20 with (go_at_call 45; (refine (want_calls w0 _ g a s8 32 _ rfl HA.out HX.out.ls).mono ?_; rintro e u8 ⟨t8, rfl, h1, p1, k1⟩; have HQ8 := Aside0.mk p1; have n0_ := Aside0.mk (HX.out.call h1 k1); clear HX h1 p1 k1; have HX := n0_; clear n0_))
  go_upto_region 21 with (go_at_call 64; (refine (named_calls w0 _ g a t8 _ [98, 97, 103] rfl HA.out HX.out.ls).mono ?_; rintro e v9 ⟨n9, s9, rfl, h1, p1, k1⟩; have HP9 := Aside0.mk p1; have hc9 := ((HX.out.call h1 k1).cell (by simp) (i := 9) (by decide)).1; have hf9 := ((HX.out.call h1 k1).cell (by simp) (i := 9) (by decide)).2; have n0_ := Aside0.mk ((HX.out.call h1 k1).set (c' := [n0, n1, n2, n3, n4, n5, n6, n7, n8, n9]) 9 n9 rfl (by rfl)); clear HX h1 p1 k1; have HX := n0_; clear n0_))
  go_upto_region 22 with (go_at_call 45; (refine (want_calls w0 _ g a s9 10 _ rfl HA.out HX.out.ls).mono ?_; rintro e vE ⟨sE, rfl, h1, p1, k1⟩; have HPE := Aside0.mk p1; have n0_ := Aside0.mk (HX.out.call h1 k1); clear HX h1 p1 k1; have HX := n0_; clear n0_))
  have HZ : Aside0 (CX w0 wa vE g (wx.heap.size + 1) a sE [n0, n1, n2, n3, n4, n5, n6, n7, n8, n9] ∧ Post (endP cfgP) s [n0, n1, n2, n3, n4, n5, n6, n7, n8, n9] sE) := ⟨HX.out, cfg_post (cfg_first HP0.out (cfg_cons HQ0.out HP1.out (cfg_cons HQ1.out HP2.out (cfg_cons HQ2.out HP3.out (cfg_cons HQ3.out HP4.out (cfg_cons HQ4.out HP5.out (cfg_cons HQ5.out HP6.out (cfg_cons HQ6.out HP7.out (cfg_cons HQ7.out HP8.out (cfg_cons HQ8.out HP9.out (cfg_end))))))))))) HPE.out⟩
  clear HX HPE
  have HB5 : Aside0 (vE.heap[wx.heap.size + 1]? = some (.cells (cfc [n0, n1, n2, n3, n4, n5, n6, n7, n8, n9]) 25 (0, 0)) ∧ vE.heap[wx.heap.size]? = some (.cells (cfc []) 25 (0, 0))) := ⟨HZ.out.1.cf, by
    have k3 := HG.out
    have k4 := HB.out
    exact (HZ.out.1.kb.2 _ (blk_lt k4.2.2.1) (by omega) (by omega)).trans k4.2.2.1⟩
  go_wp2_with (first
    | ((with_reducible refine gate_dst (N := 55) rfl ?_); refine wpList_load_row rfl 25 (.tmp 3) rfl (wx.heap.size + 1) (by rfl) 25 (cfc [n0, n1, n2, n3, n4, n5, n6, n7, n8, n9]) (0, 0) _ HB5.out.1 hu25 rfl (inf25c (by simp)) ?_)
    | (refine wpList_store_row rfl 25 (.tmp 2) (.tmp 55) rfl wx.heap.size (cfc [n0, n1, n2, n3, n4, n5, n6, n7, n8, n9]) (by rfl) (by rfl) 25 _ HB5.out.2 (inf25c (by simp)) (by rw [cfc_size (by decide), cfc_size (by simp)]) (cfc_one _) ?_))
  refine bodyPost_ret (results_cell_row rfl _ _ wx.heap.size 25 (cfc [n0, n1, n2, n3, n4, n5, n6, n7, n8, n9]) (0, 0) _ (by rfl) (setRow_blk HB5.out.2 _) hu25 rfl (inf25c (by simp))) rfl ?_
  have k3 := HG.out
  have k4 := HB.out
  have kb4 := HZ.out.1.kb
  refine ⟨[n0, n1, n2, n3, n4, n5, n6, n7, n8, n9], sE, rfl, rfl, ?_, ?_, HZ.out.2⟩
  · obtain ⟨at_, bd, h1, h2, h3⟩ := HZ.out.1.ls
    exact ⟨at_, bd, ⟨(setRow_far (by omega) _).trans h1.1, h1.2⟩, h2, below_setRow h3 (by omega) _⟩
  · refine ⟨?_, fun i hi hg hn => ?_⟩
    · have h2 := kb4.1
      simp only [World.setRow, Array.size_modify]
      omega
    · rw [setRow_far (by omega), kb4.2 i (by omega) hg (by omega)]
      exact k4.1.block i hi
end Go.Proofs.YtnbfebjcfhbhiaaDoor.Rf
end
section
namespace Go.Proofs.YtnbfebjcfhbhiaaDoor.Sc
set_option linter.unusedVariables false
set_option linter.unusedSimpArgs false
theorem nl_split (t : By) : (∀ c ∈ t, c ≠ 10) ∨ ∃ a b, t = a ++ 10 :: b ∧ ∀ c ∈ a, c ≠ 10 := by
  induction t with
  | nil => exact .inl (fun _ h => by cases h)
  | cons c t ih =>
    by_cases hc : c = 10
    · exact .inr ⟨[], t, by rw [hc]; rfl, fun _ h => by cases h⟩
    · rcases ih with h | ⟨a, b, rfl, h⟩
      · left; intro x hx
        rcases List.mem_cons.1 hx with rfl | hx
        · exact hc
        · exact h x hx
      · refine .inr ⟨c :: a, b, rfl, fun x hx => ?_⟩
        rcases List.mem_cons.1 hx with rfl | hx
        · exact hc
        · exact h x hx
def nl (a : By) : Nat := a.count 10
end Go.Proofs.YtnbfebjcfhbhiaaDoor.Sc
end
section
namespace Go.Proofs.YtnbfebjcfhbhiaaDoor.Sc
open Go.Proofs.YtnbfebjcfhbhiaaDoor.Lw (go_hash go_none)
set_option linter.unusedVariables false
set_option linter.unusedSimpArgs false
def lcStep (p : Nat × Nat) (c : UInt8) : Nat × Nat := if c = 10 then (p.1 + 1, 1) else (p.1, p.2 + 1)
/-- The line and the column behind a text. -/
def lcOf (pre : By) : Nat × Nat := pre.foldl lcStep (1, 1)
theorem lc_snoc (pre : By) (c : UInt8) : lcOf (pre ++ [c]) = lcStep (lcOf pre) c := by unfold lcOf; rw [List.foldl_append]; rfl
theorem lc_fold : ∀ (l : By) (p : Nat × Nat), (l.foldl lcStep p).1 = p.1 + nl l
  | [], p => by simp [nl]
  | c :: l, p => by
    rw [List.foldl_cons, lc_fold l]
    unfold lcStep nl
    by_cases h : c = 10
    · rw [if_pos h, List.count_cons]; simp [h]; omega
    · rw [if_neg h, List.count_cons]; simp [h]
theorem lc_no : ∀ (u : By) (p : Nat × Nat), No10 u → u.foldl lcStep p = (p.1, p.2 + u.length)
  | [], p, _ => rfl
  | c :: u, p, h => by
    rw [List.foldl_cons, lc_no u _ h.tail]
    unfold lcStep
    rw [if_neg (h c (.head _)), List.length_cons]
    simp only [Prod.mk.injEq, true_and]
    omega
theorem lc_line {A u : By} (hA : A = [] ∨ A.getLast? = some 10) (hu : No10 u) : lcOf (A ++ u) = (nl A + 1, u.length + 1) := by
  unfold lcOf
  rw [List.foldl_append, lc_no u _ hu]
  rcases hA with rfl | hA
  · simp [nl]; omega
  · obtain ⟨B, rfl⟩ := List.getLast?_eq_some_iff.1 hA
    have h1 := lc_fold (B ++ [10]) (1, 1)
    rw [List.foldl_append] at h1 ⊢
    simp only [List.foldl_cons, List.foldl_nil, lcStep, if_true] at h1 ⊢
    rw [h1]
    simp only [Prod.mk.injEq]
    omega
/-- The reader stands where a line begins. -/
def Good (a l : By) (cfg : Option (List Int)) (out : List St) : Prop := ∃ pre, a = pre ++ l ∧ (pre = [] ∨ pre.getLast? = some 10) ∧ parseGo (lines a) 0 none [] = parseGo (lines l) (nl pre) cfg out
/-- It stands at the byte that cannot stand there. -/
def Fail (a r : By) : Prop := ∃ pre, a = pre ++ r ∧ parseGo (lines a) 0 none [] = .place (lcOf pre).1 (lcOf pre).2
def Stand (a : By) (s : R Unit) (cfg : Option (List Int)) (out : List St) : Prop := match s with
  | .good _ l => Good a l cfg out
  | .bad r => Fail a r
theorem Good.start (a : By) : Good a a none [] := ⟨[], rfl, .inl rfl, rfl⟩
theorem last_nl (A : By) : A ++ [10] = [] ∨ (A ++ [10]).getLast? = some 10 := .inr (by simp)
theorem last_line (A u : By) : A ++ (u ++ [10]) = [] ∨ (A ++ (u ++ [10])).getLast? = some 10 := .inr (by simp)
theorem nl_line {A u : By} (hu : No10 u) : nl (A ++ (u ++ [10])) = nl A + 1 := by
  have : u.count 10 = 0 := List.count_eq_zero.2 (fun h => hu 10 h rfl)
  simp [nl, this]
section
variable {a l z u : By} {cfg : Option (List Int)} {out : List St}
theorem Good.nl (h : Good a (10 :: z) cfg out) : Good a z cfg out := by
  obtain ⟨pre, h1, h2, h3⟩ := h
  refine ⟨pre ++ [10], by rw [h1]; simp, last_nl _, ?_⟩
  have e : lines (10 :: z) = ([], true) :: lines z := lines_nl [] z (fun _ h => by cases h)
  rw [h3, e, go_none, ← nl_line (A := pre) (u := []) (fun _ h => by cases h)]
  rfl
theorem Good.mute (h : Good a (u ++ 10 :: z) cfg out) (hu : No10 u) (h35 : u.head? = some 35) : Good a z cfg out := by
  obtain ⟨pre, h1, h2, h3⟩ := h
  refine ⟨pre ++ (u ++ [10]), by rw [h1]; simp, last_line _ _, ?_⟩
  rw [h3, lines_nl u z hu, go_hash _ h35, if_pos rfl, nl_line hu]
theorem Good.mute_open (h : Good a u cfg out) (hu : No10 u) (h35 : u.head? = some 35) : Fail a [] := by
  obtain ⟨pre, h1, h2, h3⟩ := h
  have hne : u ≠ [] := fun e => by subst e; cases h35
  refine ⟨pre ++ u, by rw [h1]; simp, ?_⟩
  rw [h3, lines_end u hu, if_neg hne, go_hash _ h35, if_neg (by decide), lc_line h2 hu]
theorem take_no {n : Nat} (hu : No10 u) : No10 (u.take n) := fun c hc => hu c (List.mem_of_mem_take hc)
theorem head_app (h : l ≠ []) (z : By) : (l ++ z).head? = l.head? := by cases l <;> first | rfl | exact absurd rfl h
/-- A line that is read by p: f tells what comes of it. -/
theorem Good.line {α : Type} {p : Rd α} (hp : Nl p) (hq : Loc p) (f : α → Option (List Int) × List St) (h : Good a l cfg out) (hne : l ≠ []) (h10 : ¬ l.head? = some 10) (h35 : ¬ l.head? = some 35)
    (hgo : ∀ (t : By) (w : Bool) (r : List (By × Bool)) (i : Nat), ¬ t.head? = some 35 → ¬ t = [] → parseGo ((t, w) :: r) i cfg out = match lineE p t w with | .ok x => parseGo r (i + 1) (f x).1 (f x).2 | .error k => .place (i + 1) (k + 1))
    {x : α} {s' : R Unit} (hP : Post (endP p) (.good () l) x s') : Stand a s' (f x).1 (f x).2 := by
  obtain ⟨pre, h1, h2, h3⟩ := h
  simp only [Post] at hP
  rcases nl_split l with hn | ⟨u, z, rfl, hu⟩
  · have hn2 : No10 l := hn
    obtain ⟨k, e1, e2, hk⟩ := lineE_open hp hq hn2
    rw [e2] at hP
    simp only at hP
    subst hP
    refine ⟨pre ++ l.take k, by rw [h1, List.append_assoc, List.take_append_drop], ?_⟩
    rw [h3, lines_end l hn, if_neg hne, hgo l false [] _ h35 hne, e1, lc_line h2 (take_no hn2), List.length_take, Nat.min_eq_left hk]
  · have hu2 : No10 u := hu
    have hu0 : u ≠ [] := fun e => by subst e; exact h10 rfl
    have hu35 : ¬ u.head? = some 35 := by rw [← head_app hu0 (10 :: z)]; exact h35
    obtain ⟨g1, g2⟩ := lineE_whole hp hq hu2 z
    rw [lines_nl u z hu, hgo u true _ _ hu35 hu0] at h3
    cases e : lineE p u true with
    | ok y =>
      rw [g1 y e] at hP
      simp only at hP
      obtain ⟨rfl, rfl⟩ := hP
      rw [e] at h3
      refine ⟨pre ++ (u ++ [10]), by rw [h1]; simp, last_line _ _, ?_⟩
      rw [h3, nl_line hu2]
    | error k =>
      obtain ⟨e2, hk⟩ := g2 k e
      rw [e2] at hP
      simp only at hP
      subst hP
      rw [e] at h3
      refine ⟨pre ++ u.take k, ?_, ?_⟩
      · rw [h1, List.append_assoc]
        congr 1
        rw [← List.append_assoc, List.take_append_drop]
      · rw [h3, lc_line h2 (take_no hu2), List.length_take, Nat.min_eq_left hk]
theorem Good.step {c : List Int} (h : Good a l (some c) out) (hne : l ≠ []) (h10 : ¬ l.head? = some 10) (h35 : ¬ l.head? = some 35) {x : St} {s' : R Unit} (hP : Post (endP stepP) (.good () l) x s') : Stand a s' (some c) (out ++ [x]) :=
  Good.line stepP_nl stepP_loc (fun x => (some c, out ++ [x])) h hne h10 h35 (fun t w r i k1 k2 => by
    rw [parseGo, if_neg k1, if_neg k2]
    cases lineE stepP t w <;> rfl) hP
theorem Good.config (h : Good a l none out) (hne : l ≠ []) (h10 : ¬ l.head? = some 10) (h35 : ¬ l.head? = some 35) {x : List Int} {s' : R Unit} (hP : Post (endP cfgP) (.good () l) x s') : Stand a s' (some x) out :=
  Good.line cfgP_nl cfgP_loc (fun x => (some x, out)) h hne h10 h35 (fun t w r i k1 k2 => by
    rw [parseGo, if_neg k1, if_neg k2]
    cases lineE cfgP t w <;> rfl) hP
/-- The end without a config. -/
theorem Good.none_end (h : Good a [] none out) : parseGo (lines a) 0 none [] = .place (lcOf a).1 (lcOf a).2 := by
  obtain ⟨pre, h1, h2, h3⟩ := h
  rw [List.append_nil] at h1
  subst h1
  have := lc_line (u := []) h2 (fun _ h => by cases h)
  rw [List.append_nil] at this
  rw [h3, this]
  simp [lines, parseGo]
theorem Good.some_end {c : List Int} (h : Good a [] (some c) out) : parseGo (lines a) 0 none [] = if 20000 < out.length then .long else .ok c out := by
  obtain ⟨pre, h1, h2, h3⟩ := h
  rw [h3]
  simp [lines, parseGo]
end
/-- The line and the column, counted byte by byte. -/
theorem lc_take (a : By) (i : Nat) (h : i < a.length) : lcOf (a.take (i + 1)) = lcStep (lcOf (a.take i)) (a[i]'h) := by
  rw [List.take_succ_eq_append_getElem h, lc_snoc]
theorem lc_bound : ∀ (l : By) (p : Nat × Nat), (l.foldl lcStep p).1 ≤ p.1 + l.length ∧ (l.foldl lcStep p).2 ≤ p.2 + l.length + 1
  | [], p => by simp
  | c :: l, p => by
    have := lc_bound l (lcStep p c)
    rw [List.foldl_cons, List.length_cons]
    unfold lcStep at *
    split at this <;> rename_i h <;> simp only [h, if_true, if_false] at * <;> omega
theorem lc_le (a : By) (i : Nat) : (lcOf (a.take i)).1 ≤ a.length + 2 ∧ (lcOf (a.take i)).2 ≤ a.length + 2 := by
  have h := lc_bound (a.take i) (1, 1)
  have : (a.take i).length ≤ a.length := by rw [List.length_take]; omega
  unfold lcOf
  simp only at h
  omega
end Go.Proofs.YtnbfebjcfhbhiaaDoor.Sc
end
section
namespace Go.Proofs.YtnbfebjcfhbhiaaDoor.Rf
open Go Go.RowKit Go.Proofs.YtnbfebjcfhbhiaaDoor.P Go.Proofs.YtnbfebjcfhbhiaaDoor.Sc Go.Proofs.YtnbfebjcfhbhiaaDoor.Lw Go.Proofs.YtnbfebjcfhbhiaaDoorW.PrintWords Go.Proofs.YtnbfebjcfhbhiaaDoorW.PrintLast Go.Proofs.YtnbfebjcfhbhiaaDoorW.PrintMore
set_option linter.unusedVariables false
set_option linter.unusedSimpArgs false
theorem next_calls (w0 w : World) (g : Nat) (a : By) (l : By) (ha : a.length ≤ 1048576) (h : RSt w0 w g a (.good () l)) :
    Calls Tryd.prog 44 #[.pointer (some ⟨g, 0, none⟩)] w fun e w' => e = .returned (.int .i64 (hd l)) ∧ RSt w0 w' g a (.good () l) ∧ KeepBut w w' g none := by
  obtain ⟨at_, bd, hI, hS, hB⟩ := h
  obtain ⟨rfl, h1, rfl⟩ := hS
  have hf := next_f h1 ha false
  refine (sluiceref18_reader_next.calls g (sb a) _ false _ _ _ _ w0 w hI hB hf).mono ?_
  rintro e w' ⟨he, hI', hB', hk⟩
  exact ⟨he, ⟨_, _, hI', ⟨rfl, h1, rfl⟩, hB'⟩, hk⟩
def isBad : R Unit → Bool
  | .good _ _ => false
  | .bad _ => true
theorem RSt.suf {w0 w : World} {g : Nat} {a : By} {s : R Unit} (h : RSt w0 w g a s) : s.left <:+ a := by
  obtain ⟨at_, bd, hI, hS, hB⟩ := h
  cases s <;> exact hS.2.1
theorem RSt.cells {w0 w : World} {g : Nat} {a : By} {s : R Unit} (h : RSt w0 w g a s) : w.heap[g]? = some (.cells #[.string (sb a), .int .i64 (pos a s.left), .bool (isBad s)] 122 (0, 0)) := by
  obtain ⟨at_, bd, hI, hS, hB⟩ := h
  cases s <;> (obtain ⟨rfl, h1, rfl⟩ := hS; exact hI.1)
/-- One byte further. -/
theorem RSt.adv {w0 w : World} {g : Nat} {a z : By} {c : UInt8} (ha : a.length ≤ 1048576) (h : RSt w0 w g a (.good () (c :: z))) : RSt w0 (w.setCell ⟨g, 1, none⟩ (.int .i64 (pos a (c :: z) + 1))) g a (.good () z) := by
  have hs : (c :: z) <:+ a := h.suf
  obtain ⟨at_, bd, hI, hS, hB⟩ := h
  obtain ⟨rfl, h1, rfl⟩ := hS
  rw [← pos_cons hs]
  exact ⟨_, _, hI.set_1 _, ⟨rfl, suf_tail hs, rfl⟩, hB.setCell (p := ⟨g, 1, none⟩) hI.2 _⟩
/-- How much is still to come. -/
def intN : Option Value → Nat
  | some (.int _ n) => n.toNat
  | _ => 0
def boolN : Option Value → Nat
  | some (.bool true) => 0
  | _ => 1
def meas (a : By) (g : Nat) (w : World) : Nat := 2 * (a.length - intN (w.cell? ⟨g, 1, none⟩)) + boolN (w.cell? ⟨g, 2, none⟩)
theorem meas_of {w0 w : World} {g : Nat} {a : By} {s : R Unit} (h : RSt w0 w g a s) : meas a g w = 2 * s.left.length + boolN (some (.bool (isBad s))) := by
  have h1 := h.cells
  have h2 := suf_len h.suf
  have c1 : w.cell? ⟨g, 1, none⟩ = some (.int .i64 (pos a s.left)) := (blk_cell h1 1).trans rfl
  have c2 : w.cell? ⟨g, 2, none⟩ = some (.bool (isBad s)) := (blk_cell h1 2).trans rfl
  unfold meas
  rw [c1, c2]
  congr 1
  unfold pos
  simp only [intN]
  omega
structure QS (w wr : World) (g cb : Nat) (a : By) (s : R Unit) (c : List Int) (out : List St) (vo : Value) : Prop where
  rd : RSt w wr g a s
  cf : wr.heap[cb]? = some (.cells (cfc c) 25 (0, 0))
  rv : wr.heap[w.heap.size]? = some (.cells (cfc []) 25 (0, 0))
  out_ : Kd.R k48 48 wr w.heap.size (fun _ => True) vo (out.map stS)
  ne : w.heap.size < cb
section
variable {w wr w1 : World} {g cb : Nat} {a l z : By} {b : UInt8} {s s' : R Unit} {c : List Int} {out : List St} {vo vo' : Value}
theorem QS.mv (h : QS w wr g cb a s c out vo) {k : Nat} {cells : Array Value} {T : Nat} (hT : T ≠ 122) (hc : wr.heap[k]? = some (Obj.cells cells T (0, 0))) : k ≠ g := fun e => by
  subst e
  have := h.rd.cells
  rw [hc] at this
  simp at this
  exact hT this.2
theorem QS.call (h : QS w wr g cb a s c out vo) (hr : RSt w w1 g a s') (hb : KeepBut wr w1 g none) : QS w w1 g cb a s' c out vo :=
  ⟨hr, (hb.2 _ (blk_lt h.cf) (h.mv (by decide) h.cf) (by simp)).trans h.cf, (hb.2 _ (blk_lt h.rv) (h.mv (by decide) h.rv) (by simp)).trans h.rv,
    Kd.R_mono (Kd.R_keep (Kd.R_types h.out_ h.rd.cells (by decide)) hb (fun k hk => hk.2)) (fun _ _ => trivial), h.ne⟩
theorem QS.below (h : QS w wr g cb a s c out vo) (hb : Below wr.heap.size wr w1) : QS w w1 g cb a s c out vo := h.call (h.rd.below hb) (KeepBut.of_below hb g none)
theorem QS.adv (ha : a.length ≤ 1048576) (h : QS w wr g cb a (.good () (b :: z)) c out vo) : QS w (wr.setCell ⟨g, 1, none⟩ (.int .i64 (pos a (b :: z) + 1))) g cb a (.good () z) c out vo :=
  h.call (h.rd.adv ha) ((KeepBut.refl wr g none).set_ 1 _)
/-- A config is stored. -/
theorem QS.cfg_ (h : QS w wr g cb a s c out vo) (c' : List Int) : QS w (wr.setRow cb (cfc c')) g cb a s c' out vo := by
  have hg : g ≠ cb := fun e => h.mv (by decide) h.cf e.symm
  refine ⟨?_, setRow_blk h.cf _, (setRow_far (by have := h.ne; omega) _).trans h.rv, Kd.R_mono (Kd.R_step (Kd.R_types h.out_ h.cf (by decide)) (fun k hk _ => setRow_far hk.2 _)) (fun _ _ => trivial), h.ne⟩
  obtain ⟨at_, bd, h1, h2, h3⟩ := h.rd
  exact ⟨at_, bd, ⟨(setRow_far hg _).trans h1.1, h1.2⟩, h2, below_setRow h3 (by have := h.ne; omega) _⟩
/-- A step is appended. -/
theorem QS.app {y : St} (h : QS w wr g cb a s c out vo) (hr : Kd.R k48 48 w1 w.heap.size (fun _ => True) vo' (out.map stS ++ [stS y])) (hb : Below w.heap.size w w1) (hg : wr.grownBy w1 vo.ownBlock) : QS w w1 g cb a s c (out ++ [y]) vo' := by
  have mv : ∀ (k : Nat) (cells : Array Value) (T : Nat), T ≠ 48 → wr.heap[k]? = some (Obj.cells cells T (0, 0)) → w1.heap[k]? = wr.heap[k]? := fun k cells T hT hq => hg.block k (blk_lt hq) (fun e => by
    obtain ⟨c2, hc2⟩ := Kd.R_typed h.out_ k e.symm
    rw [hq] at hc2; simp at hc2; exact hT hc2.2)
  refine ⟨?_, (mv _ _ _ (by decide) h.cf).trans h.cf, (mv _ _ _ (by decide) h.rv).trans h.rv, by simpa using hr, h.ne⟩
  have hc := h.rd.cells
  obtain ⟨at_, bd, h1, h2, h3⟩ := h.rd
  exact ⟨at_, bd, ⟨(mv _ _ _ (by decide) h1.1).trans h1.1, h1.2⟩, h2, hb⟩
/-- The steps so far and the step that has come. -/
theorem QS.push {b0 : Nat} {x : St} {dv : Value} (h : QS w wr g cb a s c out vo) (hR : Kd.R (Kd.int .u8) 5 wr b0 (fun _ => True) dv (Sc.nums x.data)) (hb : w.heap.size ≤ b0) (hv : ∀ k, vo.ownBlock = some k → k < b0) :
    Kd.M k48 wr w.heap.size (fun k => b0 ≤ k) (stS x) (stc x dv).toList ∧ ∀ k, b0 ≤ k → True ∧ some k ≠ vo.ownBlock :=
  ⟨st_M (Kd.R_lower (Kd.R_mono (Kd.R_bound hR) (fun k hk => hk.2.1)) hb), fun k hk => ⟨trivial, fun e => by have := hv k e.symm; omega⟩⟩
end
/-- The reader as it begins. -/
theorem RSt.new {w W : World} {a : By} (hB : Below w.heap.size w W) {g : Nat} {W1 : World} (hb : W1.heap[g]? = some (.cells #[.string (sb a), .int .i64 0, .bool false] 122 (0, 0))) (hg : g = W.heap.size) (h1 : Below W.heap.size W W1) : RSt w W1 g a (.good () a) :=
  ⟨0, false, ⟨hb, by rw [hg]; exact hB.size⟩, ⟨rfl, List.suffix_refl _, by unfold pos; omega⟩, hB.trans (h1.mono hB.size)⟩
/-- Between two lines. -/
def QR (w : World) (g cb : Nat) (a : By) (s9 s10 : Value) (wr : World) : Prop := ∃ (s : R Unit) (cfg : Option (List Int)) (out : List St), s10 = .bool cfg.isSome ∧ QS w wr g cb a s (cfg.getD []) out s9 ∧ Stand a s cfg out ∧ out.length + s.left.length + boolN (some (.bool (isBad s))) ≤ a.length + 1 ∧ ∀ c, cfg = some c → c.length = 10
theorem end_len {α : Type} {p : Rd α} (hq : Sc.Loc p) {l : By} {x : α} {s' : R Unit} (h : Post (endP p) (.good () l) x s') : s'.left.length + boolN (some (.bool (isBad s'))) ≤ l.length := by
  have h1 := (loc_suf hq l).length_le
  simp only [Post, endP] at h
  cases e : p l with
  | bad r =>
    rw [e] at h h1
    simp only [R.bnd] at h
    subst h
    exact h1
  | good y r =>
    rw [e] at h h1
    simp only [R.bnd, R.left] at h h1
    cases r with
    | nil =>
      simp only [byteP] at h
      subst h
      exact h1
    | cons c r =>
      by_cases hc : c = 10
      · simp only [byteP, hc, if_true] at h
        obtain ⟨_, rfl⟩ := h
        exact h1
      · simp only [byteP, if_neg hc] at h
        subst h
        exact h1
/-- Where a bad byte stands. -/
theorem Stand.place {a r : By} {cfg : Option (List Int)} {out : List St} (h : Stand a (.bad r) cfg out) : parseGo (lines a) 0 none [] = .place (lcOf (a.take (a.length - r.length))).1 (lcOf (a.take (a.length - r.length))).2 := by
  obtain ⟨pre, h1, h2⟩ := h
  have : a.take (a.length - r.length) = pre := by rw [h1]; simp
  rw [h2, this]
end Go.Proofs.YtnbfebjcfhbhiaaDoor.Rf
end
section
namespace Go.Proofs.YtnbfebjcfhbhiaaDoor.Rf
open Go Go.RowKit Go.Proofs.YtnbfebjcfhbhiaaDoor.P Go.Proofs.YtnbfebjcfhbhiaaDoor.Sc Go.Proofs.YtnbfebjcfhbhiaaDoor.Lw Go.Proofs.YtnbfebjcfhbhiaaDoorW.PrintWords Go.Proofs.YtnbfebjcfhbhiaaDoorW.PrintLast Go.Proofs.YtnbfebjcfhbhiaaDoorW.PrintMore
set_option linter.unusedVariables false
set_option linter.unusedSimpArgs false
theorem next_nil (w0 w : World) (g : Nat) (a : By) (ha : a.length ≤ 1048576) (h : RSt w0 w g a (.good () [])) :
    Calls Tryd.prog 44 #[.pointer (some ⟨g, 0, none⟩)] w fun e w' => e = .returned (.int .i64 (-1)) ∧ RSt w0 w' g a (.good () []) ∧ KeepBut w w' g none := next_calls w0 w g a [] ha h
theorem next_cons (w0 w : World) (g : Nat) (a z : By) (b : UInt8) (n : Int) (hn : n = (b.toNat : Int)) (ha : a.length ≤ 1048576) (h : RSt w0 w g a (.good () (b :: z))) :
    Calls Tryd.prog 44 #[.pointer (some ⟨g, 0, none⟩)] w fun e w' => e = .returned (.int .i64 n) ∧ RSt w0 w' g a (.good () (b :: z)) ∧ KeepBut w w' g none := by
  subst hn
  exact next_calls w0 w g a (b :: z) ha h
theorem text_at {a l : By} {b : UInt8} (h : (b :: l) <:+ a) : 0 ≤ pos a (b :: l) ∧ pos a (b :: l) < ((sb a).size : Int) ∧ ∀ h, ((((sb a)[(pos a (b :: l)).toNat]'h).toNat : Int)) = (b.toNat : Int) := by
  obtain ⟨pre, rfl⟩ := h
  have hp : pos (pre ++ b :: l) (b :: l) = (pre.length : Int) := by unfold pos; simp
  refine ⟨by omega, by rw [hp, Sc.sb_size]; simp; omega, ?_⟩
  rw [hp, Int.toNat_natCast]
  intro h
  simp [sb, ByteArray.getElem_eq_getElem_data]
theorem byte_at (a : By) (i : Nat) (h : i < a.length) : ∀ h2, ((((sb a)[i]'h2).toNat : Int)) = ((a[i]'h).toNat : Int) := by
  intro h2
  simp [sb, ByteArray.getElem_eq_getElem_data]
theorem u8_eq {b : UInt8} {k : Nat} (hk : k < 256) (h : (b.toNat : Int) = (k : Int)) : b = UInt8.ofNat k := UInt8.toNat_inj.1 (by rw [UInt8.toNat_ofNat']; omega)
set_option maxHeartbeats 16000000 in
set_option maxRecDepth 100000 in
theorem rparse_calls (w : World) (a : By) (ha0 : (sb a).size ≤ 4611686018427387904) :
    Calls Tryd.prog 22 #[.string (sb a)] w fun e w' => ParseP w w' (Sc.parse a) e ∧ Below w.heap.size w w' := by
  have hu25 := Tryd.underlying25
  have hu48 := Tryd.underlying48
  obtain ⟨wa, hwa⟩ : ∃ wa, wa = w.alloc (.cells (cfc []) 25 (0, 0)) := ⟨_, rfl⟩
  have HWA := Aside0.mk hwa
  have HA : Aside0 (Below w.heap.size w wa ∧ wa.heap[w.heap.size]? = some (.cells (cfc []) 25 (0, 0)) ∧ wa.heap.size = w.heap.size + 1) := ⟨by
    rw [hwa]
    exact ⟨(Below.refl _ _).alloc (Nat.le_refl _) _, heap_alloc_new w _, by simp⟩⟩
  have h0 : ((sb a).size : Int) ≤ 4611686018427387904 := by omega
  have HSZ : Aside0 ((sb a).size = a.length) := ⟨Sc.sb_size a⟩
  clear hwa ha0
  go_enter Tryd.func22, Tryd.ntmps22
  go_upto_region 1 with fail
  rw [show ((#[.int .i64 0, .int .i64 0, .int .i64 0, .int .i64 0, .int .i64 0, .int .i64 0, .int .i64 0, .int .i64 0, .int .i64 0, .int .i64 0] : Array Value)) = cfc [] from rfl, ← HWA.out]
  by_cases hl : 1048576 < (sb a).size
  · have h1 : (1048576 : Int) < ((sb a).size : Int) := by omega
    have HL := Aside0.mk hl
    clear hl
    go_wp2_with (refine wpList_store_row rfl 25 (.tmp 2) (.tmp 18) rfl w.heap.size (cfc []) (by rfl) (by rfl) 25 _ HA.out.2.1 (inf25c (by decide)) rfl (cfc_one _) ?_)
    refine bodyPost_ret (results_cell5 rfl _ _ w.heap.size 25 (cfc []) (0, 0) _ (by rfl) (setRow_blk HA.out.2.1 _) hu25 rfl (inf25c (by decide))) rfl ?_
    have hp : Sc.parse a = .long := by unfold Sc.parse; rw [if_pos (by have := HL.out; have := HSZ.out; omega)]
    rw [hp]
    exact ⟨rfl, below_setRow HA.out.1 (Nat.le_refl _) _⟩
  · have h1 : ((sb a).size : Int) ≤ 1048576 := by omega
    have HLA : Aside0 (a.length ≤ 1048576) := ⟨by have := HSZ.out; omega⟩
    have HPA : Aside0 (Sc.parse a = parseGo (Sc.lines a) 0 none []) := ⟨by unfold Sc.parse; rw [if_neg (by have := HLA.out; omega)]⟩
    clear hl h0
    go_upto_region 4 with ((with_reducible refine gate_dst (N := 21) rfl ?_); refine box_event ?hg (N := 21) ?hd (cs := #[.string (sb a), .int .i64 0, .bool false]) (t := 122) ?hr ?_; (case hd => rfl); (case hg => rfl); (case hr => first | (go_simp; done) | (go_simp; rfl)); intro g hg wb hbox hb; have HBX : Aside0 (RSt w wb g a (.good () a) ∧ wb.heap[w.heap.size]? = some (.cells (cfc []) 25 (0, 0)) ∧ w.heap.size < wb.heap.size) := ⟨RSt.new HA.out.1 hbox hg hb, (hb.block _ (blk_lt HA.out.2.1)).trans HA.out.2.1, by have := HA.out.2.2; have := hb.size; omega⟩; clear hg hbox hb)
    obtain ⟨wc, hwc⟩ : ∃ wc, wc = wb.alloc (.cells (cfc []) 25 (0, 0)) := ⟨_, rfl⟩
    have HWC := Aside0.mk hwc
    have HK : Aside0 (QS w wc g wb.heap.size a (.good () a) [] [] (.slice none 0 0)) := ⟨by
      have hbw : Below wb.heap.size wb wc := by rw [hwc]; exact (Below.refl _ _).alloc (Nat.le_refl _) _
      exact ⟨HBX.out.1.below hbw, by rw [hwc]; exact heap_alloc_new wb _, (hbw.block _ (blk_lt HBX.out.2.1)).trans HBX.out.2.1, Kd.R_nil _ _ _ _ _, HBX.out.2.2⟩⟩
    clear hwc
    go_upto_region 5 with fail
    rw [show ((#[.int .i64 0, .int .i64 0, .int .i64 0, .int .i64 0, .int .i64 0, .int .i64 0, .int .i64 0, .int .i64 0, .int .i64 0, .int .i64 0] : Array Value)) = cfc [] from rfl, ← HWC.out]
    clear HBX
    go_wp2_with fail

    go_loopw [9, 10, 11] (fun s9 s10 s11 wr => Aside0 (QR w g wb.heap.size a s9 s10 wr)) (fun _ _ _ wr => meas a g wr)
    case atStart => exact ⟨.good () a, none, [], rfl, HK.out, Good.start a, Nat.le_of_eq (by simp [R.left, boolN, isBad]), fun c h => by cases h⟩
    case round =>
      obtain ⟨s, cfg, out, rfl, hQ, hS, hL, hC⟩ := hrel.out
      have HX := Aside0.mk hQ
      have HS := Aside0.mk hS
      have HL := Aside0.mk hL
      have HCL := Aside0.mk hC
      clear hrel hQ hS hL hC
      cases s with
      | bad r =>
        obtain ⟨m, hm, hml⟩ : ∃ m : Nat, pos a r = (m : Int) ∧ m = a.length - (r : By).length := ⟨a.length - (r : By).length, by have := suf_len HX.out.rd.suf; simp only [R.left] at this; unfold pos; omega, rfl⟩
        have HM : Aside0 (m ≤ a.length ∧ Sc.parse a = .place (lcOf (a.take m)).1 (lcOf (a.take m)).2 ∧ pos a r = (m : Int)) := ⟨by omega, by rw [HPA.out, hml]; exact Stand.place HS.out, hm⟩
        have q1 : wr.cell? ⟨g, 1, none⟩ = some (.int .i64 (m : Int)) := (blk_cell HX.out.rd.cells 1).trans (by rw [← hm]; rfl)
        have q2 : wr.cell? ⟨g, 2, none⟩ = some (.bool true) := (blk_cell HX.out.rd.cells 2).trans rfl
        have hm1 : (m : Int) ≤ 1048576 := by have := HM.out.1; have := HLA.out; omega

        clear hm hml
        go_wp2_with fail
        obtain ⟨wo, rfl⟩ : ∃ wo : World, wo = wr := ⟨_, rfl⟩
        go_loopw [12, 13, 14] (fun s12 s13 s14 wi => Aside0 (∃ i L C : Nat, i ≤ m ∧ lcOf (a.take i) = (L, C) ∧ s14 = .int .i64 (i : Int) ∧ s12 = .int .i64 (L : Int) ∧ s13 = .int .i64 (C : Int) ∧ QS w wi g wb.heap.size a (.bad r) (cfg.getD []) out u9)) (fun _ _ s14 _ => m - (intOf s14).toNat)
        case atStart => exact ⟨0, 1, 1, Nat.zero_le _, rfl, rfl, rfl, rfl, HX.out⟩
        case round =>
          obtain ⟨i, L, C, hi, hLC, rfl, rfl, rfl, hQ⟩ := hrel.out
          have HY := Aside0.mk hQ
          have HI := Aside0.mk (And.intro hi hLC)
          have hLCb : (L : Int) ≤ 1048578 ∧ (C : Int) ≤ 1048578 := by have := lc_le a i; rw [hLC] at this; have := HLA.out; simp only at *; omega
          obtain ⟨hLb, hCb⟩ := hLCb
          have y1 : wr.cell? ⟨g, 1, none⟩ = some (.int .i64 (m : Int)) := (blk_cell HY.out.rd.cells 1).trans (by rw [← HM.out.2.2]; rfl)
          clear hrel hQ hi hLC
          by_cases hlt : i < m
          · have hia : i < a.length := by have := HM.out.1; omega
            obtain ⟨n, hn⟩ : ∃ n : Int, n = ((a[i]'hia).toNat : Int) := ⟨_, rfl⟩
            have hix := byte_at a i hia
            rw [← hn] at hix
            have HN : Aside0 (∃ h, n = ((a[i]'h).toNat : Int)) := ⟨⟨hia, hn⟩⟩
            have hlt2 : (i : Int) < (m : Int) := by omega
            have hi0 : 0 ≤ (i : Int) := by omega
            have hisz : (i : Int) < ((sb a).size : Int) := by have := HSZ.out; omega
            clear hn hlt hia
            by_cases h10 : n = 10
            · subst h10
              go_wp2_with fail
              go_roundw
              case rel => exact ⟨i + 1, L + 1, 1, by have := HI.out.1; omega, by obtain ⟨h, e⟩ := HN.out; rw [lc_take a i h, HI.out.2]; unfold lcStep; rw [if_pos (show (a[i]'h) = 10 from u8_eq (k := 10) (by decide) e.symm)], by go_num, by go_num, rfl, HY.out⟩
              case measure => simp [intOf]; omega
            · have e10 : (n == 10) = false := beq_eq_false_iff_ne.2 h10
              go_wp2_with fail
              go_roundw
              case rel => exact ⟨i + 1, L, C + 1, by have := HI.out.1; omega, by obtain ⟨h, e⟩ := HN.out; rw [lc_take a i h, HI.out.2]; unfold lcStep; rw [if_neg (fun hc => h10 (by rw [e, hc]; rfl))], by go_num, rfl, by go_num, HY.out⟩
              case measure => simp [intOf]; omega
          · have hge : ¬ (i : Int) < (m : Int) := by omega
            have HE : Aside0 (lcOf (a.take m) = (L, C)) := ⟨by
              have h := HI.out
              obtain rfl : i = m := by omega
              exact h.2⟩
            clear hlt
            go_wp2_with (refine wpList_store_row rfl 25 (.tmp 2) (.tmp 112) rfl w.heap.size (cfc []) (by rfl) (by rfl) 25 _ HY.out.rv (inf25c (by decide)) rfl (cfc_one _) ?_)
            refine bodyPost_ret (results_cell5 rfl _ _ w.heap.size 25 (cfc []) (0, 0) _ (by rfl) (setRow_blk HY.out.rv _) hu25 rfl (inf25c (by decide))) rfl ?_
            rw [HM.out.2.1, HE.out]
            exact ⟨rfl, below_setRow HY.out.rd.bel (Nat.le_refl _) _⟩
      | good u l =>
        cases l with
        | nil =>
          cases cfg with
          | none =>
            obtain ⟨m, hm, hml⟩ : ∃ m : Nat, pos a [] = (m : Int) ∧ m = a.length - ([] : By).length := ⟨a.length - ([] : By).length, by have := suf_len HX.out.rd.suf; simp only [R.left] at this; unfold pos; omega, rfl⟩
            have HM : Aside0 (m ≤ a.length ∧ Sc.parse a = .place (lcOf (a.take m)).1 (lcOf (a.take m)).2 ∧ pos a [] = (m : Int)) := ⟨by omega, by rw [HPA.out, hml]; rw [List.length_nil, Nat.sub_zero, List.take_length]; exact Good.none_end HS.out, hm⟩
            have q1 : wr.cell? ⟨g, 1, none⟩ = some (.int .i64 (m : Int)) := (blk_cell HX.out.rd.cells 1).trans (by rw [← hm]; rfl)
            have q2 : wr.cell? ⟨g, 2, none⟩ = some (.bool false) := (blk_cell HX.out.rd.cells 2).trans rfl
            have hm1 : (m : Int) ≤ 1048576 := by have := HM.out.1; have := HLA.out; omega
            have hge2 : ¬ (m : Int) < ((sb a).size : Int) := by have := HSZ.out; simp only [List.length_nil] at hml; omega
            clear hm hml
            go_wp2_with fail
            obtain ⟨wo, rfl⟩ : ∃ wo : World, wo = wr := ⟨_, rfl⟩
            go_loopw [12, 13, 14] (fun s12 s13 s14 wi => Aside0 (∃ i L C : Nat, i ≤ m ∧ lcOf (a.take i) = (L, C) ∧ s14 = .int .i64 (i : Int) ∧ s12 = .int .i64 (L : Int) ∧ s13 = .int .i64 (C : Int) ∧ QS w wi g wb.heap.size a (.good u []) [] out u9)) (fun _ _ s14 _ => m - (intOf s14).toNat)
            case atStart => exact ⟨0, 1, 1, Nat.zero_le _, rfl, rfl, rfl, rfl, HX.out⟩
            case round =>
              obtain ⟨i, L, C, hi, hLC, rfl, rfl, rfl, hQ⟩ := hrel.out
              have HY := Aside0.mk hQ
              have HI := Aside0.mk (And.intro hi hLC)
              have hLCb : (L : Int) ≤ 1048578 ∧ (C : Int) ≤ 1048578 := by have := lc_le a i; rw [hLC] at this; have := HLA.out; simp only at *; omega
              obtain ⟨hLb, hCb⟩ := hLCb
              have y1 : wr.cell? ⟨g, 1, none⟩ = some (.int .i64 (m : Int)) := (blk_cell HY.out.rd.cells 1).trans (by rw [← HM.out.2.2]; rfl)
              clear hrel hQ hi hLC
              by_cases hlt : i < m
              · have hia : i < a.length := by have := HM.out.1; omega
                obtain ⟨n, hn⟩ : ∃ n : Int, n = ((a[i]'hia).toNat : Int) := ⟨_, rfl⟩
                have hix := byte_at a i hia
                rw [← hn] at hix
                have HN : Aside0 (∃ h, n = ((a[i]'h).toNat : Int)) := ⟨⟨hia, hn⟩⟩
                have hlt2 : (i : Int) < (m : Int) := by omega
                have hi0 : 0 ≤ (i : Int) := by omega
                have hisz : (i : Int) < ((sb a).size : Int) := by have := HSZ.out; omega
                clear hn hlt hia
                by_cases h10 : n = 10
                · subst h10
                  go_wp2_with fail
                  go_roundw
                  case rel => exact ⟨i + 1, L + 1, 1, by have := HI.out.1; omega, by obtain ⟨h, e⟩ := HN.out; rw [lc_take a i h, HI.out.2]; unfold lcStep; rw [if_pos (show (a[i]'h) = 10 from u8_eq (k := 10) (by decide) e.symm)], by go_num, by go_num, rfl, HY.out⟩
                  case measure => simp [intOf]; omega
                · have e10 : (n == 10) = false := beq_eq_false_iff_ne.2 h10
                  go_wp2_with fail
                  go_roundw
                  case rel => exact ⟨i + 1, L, C + 1, by have := HI.out.1; omega, by obtain ⟨h, e⟩ := HN.out; rw [lc_take a i h, HI.out.2]; unfold lcStep; rw [if_neg (fun hc => h10 (by rw [e, hc]; rfl))], by go_num, rfl, by go_num, HY.out⟩
                  case measure => simp [intOf]; omega
              · have hge : ¬ (i : Int) < (m : Int) := by omega
                have HE : Aside0 (lcOf (a.take m) = (L, C)) := ⟨by
                  have h := HI.out
                  obtain rfl : i = m := by omega
                  exact h.2⟩
                clear hlt
                go_wp2_with (refine wpList_store_row rfl 25 (.tmp 2) (.tmp 112) rfl w.heap.size (cfc []) (by rfl) (by rfl) 25 _ HY.out.rv (inf25c (by decide)) rfl (cfc_one _) ?_)
                refine bodyPost_ret (results_cell5 rfl _ _ w.heap.size 25 (cfc []) (0, 0) _ (by rfl) (setRow_blk HY.out.rv _) hu25 rfl (inf25c (by decide))) rfl ?_
                rw [HM.out.2.1, HE.out]
                exact ⟨rfl, below_setRow HY.out.rd.bel (Nat.le_refl _) _⟩
          | some cf =>
            have hlm : (out.map stS).length = out.length := List.length_map _
            obtain ⟨A2, c2, hu8⟩ := Kd.R_slice HX.out.out_
            rw [hlm] at hu8
            subst hu8
            have hol : (out.length : Int) ≤ 1048577 := by have h1 := HL.out; have := HLA.out; simp only [R.left, List.length_nil] at h1; omega
            have HCC := Aside0.mk (HCL.out cf rfl)
            have q1 : wr.cell? ⟨g, 1, none⟩ = some (.int .i64 (pos a [])) := (blk_cell HX.out.rd.cells 1).trans rfl
            have q2 : wr.cell? ⟨g, 2, none⟩ = some (.bool false) := (blk_cell HX.out.rd.cells 2).trans rfl
            have hge : ¬ pos a [] < ((sb a).size : Int) := by have := HSZ.out; unfold pos; simp only [List.length_nil]; omega
            clear hlm
            by_cases h20 : 20000 < out.length
            · have h21 : (20000 : Int) < (out.length : Int) := by omega
              have HQ : Aside0 (Sc.parse a = .long) := ⟨by rw [HPA.out, Good.some_end HS.out, if_pos h20]⟩
              clear h20
              go_wp2_with (refine wpList_store_row rfl 25 (.tmp 2) (.tmp 118) rfl w.heap.size (cfc []) (by rfl) (by rfl) 25 _ HX.out.rv (inf25c (by decide)) rfl (cfc_one _) ?_)
              refine bodyPost_ret (results_cell5 rfl _ _ w.heap.size 25 (cfc []) (0, 0) _ (by rfl) (setRow_blk HX.out.rv _) hu25 rfl (inf25c (by decide))) rfl ?_
              rw [HQ.out]
              exact ⟨rfl, below_setRow HX.out.rd.bel (Nat.le_refl _) _⟩
            · have h21 : ¬ (20000 : Int) < (out.length : Int) := by omega
              have HQ : Aside0 (Sc.parse a = .ok cf out) := ⟨by rw [HPA.out, Good.some_end HS.out, if_neg h20]⟩
              have HCF : Aside0 (wr.heap[wb.heap.size]? = some (.cells (cfc cf) 25 (0, 0))) := ⟨HX.out.cf⟩
              clear h20
              go_wp2_with (first
                | ((with_reducible refine gate_dst (N := 119) rfl ?_); refine wpList_load_row rfl 25 (.tmp 8) rfl wb.heap.size (by rfl) 25 (cfc cf) (0, 0) _ HCF.out hu25 rfl (inf25c (by rw [HCC.out]; decide)) ?_)
                | (refine wpList_store_row rfl 25 (.tmp 2) (.tmp 119) rfl w.heap.size (cfc cf) (by rfl) (by rfl) 25 _ HX.out.rv (inf25c (by rw [HCC.out]; decide)) (by rw [cfc_size (by decide), cfc_size (by rw [HCC.out]; decide)]) (cfc_one _) ?_))
              refine bodyPost_ret (results_cell5 rfl _ _ w.heap.size 25 (cfc cf) (0, 0) _ (by rfl) (setRow_blk HX.out.rv _) hu25 rfl (inf25c (by rw [HCC.out]; decide))) rfl ?_
              rw [HQ.out]
              exact ⟨⟨_, rfl, HCC.out, Kd.R_mono (Kd.R_step (Kd.R_types HX.out.out_ HX.out.rv (by decide)) (fun k hk _ => setRow_far hk.2 _)) (fun _ _ => trivial)⟩, below_setRow HX.out.rd.bel (Nat.le_refl _) _⟩
        | cons b z =>
          have hsf : (b :: z) <:+ a := HX.out.rd.suf
          obtain ⟨hp0, hp1, hix⟩ := text_at hsf
          have q1 : wr.cell? ⟨g, 1, none⟩ = some (.int .i64 (pos a (b :: z))) := (blk_cell HX.out.rd.cells 1).trans rfl
          have q2 : wr.cell? ⟨g, 2, none⟩ = some (.bool false) := (blk_cell HX.out.rd.cells 2).trans rfl
          have f1 : wr.frozen? ⟨g, 1, none⟩ = false := blk_frozen HX.out.rd.cells 1
          obtain ⟨n, hn⟩ : ∃ n : Int, n = (b.toNat : Int) := ⟨_, rfl⟩
          rw [← hn] at hix
          have HN := Aside0.mk hn
          clear hn hsf
          by_cases h10 : n = 10
          · subst h10
            have HB : Aside0 (b = 10) := ⟨u8_eq (k := 10) (by decide) HN.out.symm⟩
            go_wp2_with fail
            go_roundw
            case rel => exact ⟨.good () z, cfg, out, rfl, HX.out.adv HLA.out, by have := HS.out; rw [HB.out] at this; exact Good.nl this, by have := HL.out; simp only [R.left, List.length_cons, boolN, isBad] at this ⊢; omega, HCL.out⟩
            case measure => rw [meas_of (HX.out.adv HLA.out).rd, meas_of HX.out.rd]; simp only [R.left, List.length_cons, isBad, boolN]; omega
          · have e10 : (n == 10) = false := beq_eq_false_iff_ne.2 h10
            have HN10 : Aside0 (¬ (b :: z).head? = some 10) := ⟨fun e => h10 (by simp at e; rw [HN.out, e]; rfl)⟩
            by_cases h35 : n = 35
            · subst h35
              have HB : Aside0 (b = 35) := ⟨u8_eq (k := 35) (by decide) HN.out.symm⟩
              go_wp2_with fail
              obtain ⟨wo, rfl⟩ : ∃ wo : World, wo = wr := ⟨_, rfl⟩
              clear q1 q2 f1 h10 hp0 hp1 hix e10
              go_loopw [] (fun wi => Aside0 (∃ u l', b :: z = u ++ l' ∧ No10 u ∧ QS w wi g wb.heap.size a (.good () l') (cfg.getD []) out u9)) (fun wi => meas a g wi)
              case atStart => exact ⟨[], b :: z, rfl, (fun _ h => by cases h), HX.out⟩
              case round =>
                obtain ⟨u, l', hu1, hu2, hQ⟩ := hrel.out
                have HY := Aside0.mk hQ
                have HU := Aside0.mk (And.intro hu1 hu2)
                clear hrel hu1 hu2 hQ
                cases l' with
                | nil =>
                  go_wp2_with (first
                    | (go_at_call 44; (refine (next_nil w _ g a HLA.out HY.out.rd).mono ?_; rintro e w1 ⟨rfl, h1, k1⟩; have n0_ := Aside0.mk (HY.out.call h1 k1); clear HY h1 k1; have HY := n0_; clear n0_))
                    | (go_at_call 45; (refine (want_calls w _ g a _ 10 _ rfl HLA.out HY.out.rd).mono ?_; rintro e w2 ⟨s2, rfl, h1, p1, k1⟩; have HP := Aside0.mk p1; have n0_ := Aside0.mk (HY.out.call h1 k1); clear HY h1 p1 k1; have HY := n0_; clear n0_)))
                  go_roundw
                  case rel => exact ⟨.bad [], cfg, out, rfl, by have h := HP.out; simp only [Post, byteP] at h; subst h; exact HY.out, by have h := HS.out; have h2 := HU.out; rw [List.append_nil] at h2; rw [h2.1] at h; exact Good.mute_open h h2.2 (by rw [← h2.1, HB.out]; rfl), by have := HL.out; simp only [R.left, List.length_cons, List.length_nil, boolN, isBad] at this ⊢; omega, HCL.out⟩
                  case measure => have h := HP.out; simp only [Post, byteP] at h; subst h; rw [meas_of HY.out.rd, meas_of HX.out.rd]; simp only [R.left, List.length_cons, List.length_nil, isBad, boolN]; omega
                | cons d l2 =>
                  obtain ⟨hpd0, hpd1, _⟩ := text_at (HY.out.rd.suf : (d :: l2) <:+ a)
                  obtain ⟨n2, hn2⟩ : ∃ n2 : Int, n2 = (d.toNat : Int) := ⟨_, rfl⟩
                  have hn20 : 0 ≤ n2 := by omega
                  have HY0 := HY
                  have HN2 := Aside0.mk hn2
                  clear hn2
                  by_cases hd10 : n2 = 10
                  · subst hd10
                    have HB2 : Aside0 (d = 10) := ⟨u8_eq (k := 10) (by decide) HN2.out.symm⟩
                    go_wp2_with (first
                      | (go_at_call 44; (refine (next_cons w _ g a l2 d 10 HN2.out HLA.out HY.out.rd).mono ?_; rintro e w1 ⟨rfl, h1, k1⟩; have n0_ := Aside0.mk (HY.out.call h1 k1); clear HY h1 k1; have HY := n0_; clear n0_))
                      | (go_at_call 45; (refine (want_calls w _ g a _ 10 _ rfl HLA.out HY.out.rd).mono ?_; rintro e w2 ⟨s2, rfl, h1, p1, k1⟩; have HP := Aside0.mk p1; have n0_ := Aside0.mk (HY.out.call h1 k1); clear HY h1 p1 k1; have HY := n0_; clear n0_)))
                    have HP2 : Aside0 (s2 = .good () l2) := ⟨by have h := HP.out; rw [HB2.out] at h; simpa [Post, byteP] using h⟩
                    clear HP
                    go_roundw
                    case rel => exact ⟨.good () l2, cfg, out, rfl, by rw [← HP2.out]; exact HY.out, by have h := HS.out; have h2 := HU.out; rw [HB2.out] at h2; rw [h2.1] at h; exact Good.mute h h2.2 (by cases u with
                      | nil => have := h2.1; simp at this; exact absurd (show (b :: z).head? = some 10 by rw [this.1]; rfl) HN10.out
                      | cons c0 u => have := h2.1; simp at this; rw [← this.1, HB.out]; rfl), by have h1 := HL.out; have h2 := congrArg List.length HU.out.1; simp only [R.left, List.length_cons, List.length_append, boolN, isBad] at h1 h2 ⊢; omega, HCL.out⟩
                    case measure => have h := HP2.out; subst h; rw [meas_of HY.out.rd, meas_of HX.out.rd]; have h2 := congrArg List.length HU.out.1; simp only [R.left, List.length_cons, List.length_append, isBad, boolN] at h2 ⊢; omega
                  · have hd10b : (n2 != 10) = true := bne_iff_ne.2 hd10
                    have HD : Aside0 (d ≠ 10) := ⟨fun e => hd10 (by rw [HN2.out, e]; rfl)⟩
                    go_wp2_with (go_at_call 44; (refine (next_cons w _ g a l2 d n2 HN2.out HLA.out HY.out.rd).mono ?_; rintro e w1 ⟨rfl, h1, k1⟩; have n0_ := Aside0.mk (HY.out.call h1 k1); clear HY h1 k1; have HY := n0_; clear n0_; have y1 := (blk_cell HY.out.rd.cells 1).trans (show _ = some (.int .i64 (pos a (d :: l2))) from rfl); have yf := blk_frozen HY.out.rd.cells 1))
                    go_roundw
                    case rel => exact ⟨u ++ [d], l2, by rw [HU.out.1]; simp, (fun c hc => by rcases List.mem_append.1 hc with hc | hc; exact HU.out.2 c hc; rw [List.mem_singleton.1 hc]; exact HD.out), HY.out.adv HLA.out⟩
                    case measure => rw [meas_of (HY.out.adv HLA.out).rd, meas_of HY0.out.rd]; simp only [R.left, List.length_cons, isBad, boolN]; omega
            · have e35 : (n == 35) = false := beq_eq_false_iff_ne.2 h35
              have HN35 : Aside0 (¬ (b :: z).head? = some 35) := ⟨fun e => h35 (by simp at e; rw [HN.out, e]; rfl)⟩
              clear h10 h35
              cases cfg with
              | none =>
                go_wp2_with (first
                  | (go_at_call 46; (refine (rcfg_calls HLA.out HX.out.rd).mono ?_; rintro e w2 ⟨c', s2, rfl, hc10, h1, k1, p1⟩; have HC10 := Aside0.mk hc10; have HP := Aside0.mk p1; have n0_ := Aside0.mk (HX.out.call h1 k1); have HX0 := HX; clear HX h1 k1 p1 hc10; have HX := n0_; clear n0_))
                  | (refine wpList_store_row rfl 25 (.tmp 8) (.tmp 87) rfl wb.heap.size (cfc c') (by rfl) (by rfl) 25 _ HX.out.cf (inf25c (by rw [HC10.out]; decide)) (by rw [cfc_size (by decide), cfc_size (by rw [HC10.out]; decide)]) (cfc_one _) ?_))
                go_roundw
                case rel => exact ⟨s2, some c', out, rfl, HX.out.cfg_ c', Good.config HS.out (by simp) HN10.out HN35.out HP.out, by have h1 := HL.out; have h2 := end_len cfgP_loc HP.out; simp only [R.left, List.length_cons, boolN, isBad] at h1 h2 ⊢; omega, fun c h => by cases h; exact HC10.out⟩
                case measure => rw [meas_of (HX.out.cfg_ c').rd, meas_of HX0.out.rd]; have h2 := end_len cfgP_loc HP.out; simp only [R.left, List.length_cons] at h2 ⊢; show _ < 2 * (z.length + 1) + 1; omega
              | some cf =>
                have HVO : Aside0 (∀ k, u9.ownBlock = some k → k < wr.heap.size) := ⟨Kd.R_lt HX.out.out_⟩
                have HWL : Aside0 (w.heap.size ≤ wr.heap.size) := ⟨HX.out.rd.bel.size⟩
                have HOL : Aside0 ((out.map stS).length ≤ 1048577) := ⟨by have h1 := HL.out; have := HLA.out; rw [List.length_map]; omega⟩
                go_upto_region 9 with (go_at_call 47; (refine (rstep_calls HLA.out HX.out.rd).mono ?_; rintro e w2 ⟨x, A2, c2, s2, rfl, hR, h1, k1, p1⟩; have HR := Aside0.mk hR; have HP := Aside0.mk p1; have n0_ := Aside0.mk (HX.out.call h1 k1); have HX0 := HX; clear HX h1 k1 p1 hR; have HX := n0_; clear n0_; unfold stc))
                obtain ⟨W3, hW3⟩ : ∃ W3, W3 = w2.alloc (.cells (stc x (.slice A2 x.data.length c2)) 48 (0, 0)) := ⟨_, rfl⟩
                have HW3 := Aside0.mk hW3
                have H3 : Aside0 (Below w2.heap.size w2 W3 ∧ W3.heap[w2.heap.size]? = some (.cells (stc x (.slice A2 x.data.length c2)) 48 (0, 0))) := ⟨by rw [hW3]; exact ⟨(Below.refl _ _).alloc (Nat.le_refl _) _, heap_alloc_new _ _⟩⟩
                have HX3 := Aside0.mk (HX.out.below H3.out.1)
                have HPU := Aside0.mk (HX3.out.push (Kd.R_below HR.out H3.out.1) HWL.out HVO.out)
                clear hW3 q1 q2 f1
                rw [show (#[.int .i64 x.kind, .int .i64 x.rep, .int .i64 x.ses, .int .i64 x.id, .int .i64 x.ok, .string (sb x.name), .int .i64 x.a, .int .i64 x.b, .int .i64 x.i, .int .i64 x.j, .slice A2 x.data.length c2] : Array Value) = stc x (.slice A2 x.data.length c2) from rfl, ← HW3.out]
                go_wp2_with (first
                  | ((with_reducible refine gate_dst (N := 40) rfl ?_); refine wpList_load_row rfl 48 (.tmp 11) rfl w2.heap.size (by rfl) 48 (stc x (.slice A2 x.data.length c2)) (0, 0) _ H3.out.2 hu48 rfl inf48 ?_; unfold stc)
                  | (at_builtin; go_loud (rw [show (#[.int .i64 x.kind, .int .i64 x.rep, .int .i64 x.ses, .int .i64 x.id, .int .i64 x.ok, .string (sb x.name), .int .i64 x.a, .int .i64 x.b, .int .i64 x.i, .int .i64 x.j, .slice A2 x.data.length c2] : Array Value) = (stc x (.slice A2 x.data.length c2)).toList.toArray from rfl]; refine Kd.R_append k48 (w0 := w) (W := W3) w.heap.size rfl (.tmp 39) (.tmp 41) 26 48 (.agg #[.int .i64 0, .int .i64 0, .int .i64 0, .int .i64 0, .int .i64 0, .string ⟨#[]⟩, .int .i64 0, .int .i64 0, .int .i64 0, .int .i64 0, .slice none 0 0]) 112 rfl Tryd.underlying26 z48 rfl (by decide) (by decide) u9 (out.map stS) (stS x) (stc x (.slice A2 x.data.length c2)).toList (fun _ => True) (fun k => wr.heap.size ≤ k) rfl rfl HPU.out.1 HPU.out.2 (fun _ _ => trivial) HX3.out.out_ HX3.out.rd.bel HX3.out.rd.bel.size (by have := HOL.out; omega) ?_; intro v1 w4 k1 k2 k3 _; have HPX := Aside0.mk (HX3.out.app k1 k2 k3); clear k1 k2 k3)))
                go_roundw
                case rel => exact ⟨s2, some cf, out ++ [x], rfl, HPX.out, Good.step HS.out (by simp) HN10.out HN35.out HP.out, by have h1 := HL.out; have h2 := end_len stepP_loc HP.out; simp only [R.left, List.length_cons, List.length_append, List.length_nil, boolN, isBad] at h1 h2 ⊢; omega, HCL.out⟩
                case measure => rw [meas_of HPX.out.rd, meas_of HX0.out.rd]; have h2 := end_len stepP_loc HP.out; simp only [R.left, List.length_cons] at h2 ⊢; show _ < 2 * (z.length + 1) + 1; omega
end Go.Proofs.YtnbfebjcfhbhiaaDoor.Rf
end
section
namespace Go.Proofs.YtnbfebjcfhbhiaaDoor.Sc
set_option linter.unusedVariables false
set_option linter.unusedSimpArgs false
/-- What may stand behind a word. -/
def Bd (r : By) : Prop := r = [] ∨ ∃ m, r = 32 :: m
theorem Bd.cons (m : By) : Bd (32 :: m) := .inr ⟨m, rfl⟩
structure Cod {α : Type} (p : Rd α) (e : α → By) (v : α → Prop) : Prop where
  sound : ∀ l x r, p l = .good x r → l = e x ++ r ∧ v x
  full : ∀ x r, v x → Bd r → p (e x ++ r) = .good x r
theorem bnd_good_iff {α β : Type} {r : R α} {f : α → By → R β} {y : β} {s : By} : r.bnd f = .good y s ↔ ∃ x l, r = .good x l ∧ f x l = .good y s := by
  cases r with
  | good x l => exact ⟨fun h => ⟨x, l, rfl, h⟩, fun ⟨x', l', h, h2⟩ => by injection h with h1 h3; subst h1 h3; exact h2⟩
  | bad l => exact ⟨fun h => by simp [R.bnd_bad] at h, fun ⟨x', l', h, h2⟩ => by cases h⟩
theorem byte_good {c : UInt8} {l r : By} {u : Unit} : byteP c l = .good u r ↔ l = c :: r := by
  cases l with
  | nil => simp [byteP]
  | cons x l =>
    by_cases h : x = c
    · simp [byteP, h]
    · simp [byteP, h]
theorem dec_snoc {m d : Nat} (hm : 1 ≤ m) (hd : d < 10) : Lib.decDigits (10 * m + d) = Lib.decDigits m ++ [UInt8.ofNat (48 + d)] := by
  rw [Lib.decDigits, dif_neg (by omega), show (10 * m + d) / 10 = m by omega, show (10 * m + d) % 10 = d by omega]
theorem dig_back {c : UInt8} (h : isDig c = true) : UInt8.ofNat (48 + (c.toNat - 48)) = c ∧ c.toNat - 48 < 10 := by
  simp [isDig] at h
  refine ⟨?_, by omega⟩
  rw [show 48 + (c.toNat - 48) = c.toNat by omega]
  exact UInt8.ofNat_toNat
theorem dig_of {d : Nat} (h : d < 10) : (UInt8.ofNat (48 + d)).toNat = 48 + d ∧ isDig (UInt8.ofNat (48 + d)) = true := by
  have : (UInt8.ofNat (48 + d)).toNat = 48 + d := by simp; omega
  refine ⟨this, ?_⟩
  simp [isDig, this]; omega
theorem numGo_sound {L k : Nat} {r : By} : ∀ (l : By) (m : Nat), 1 ≤ m → m ≤ L → numGo L m l = .good k r → Lib.decDigits m ++ l = Lib.decDigits k ++ r ∧ k ≤ L ∧ 1 ≤ k
  | [], m, h1, h2, h => by
    simp [numGo] at h
    obtain ⟨rfl, rfl⟩ := h
    exact ⟨rfl, h2, h1⟩
  | c :: l, m, h1, h2, h => by
    by_cases hd : isDig c = true
    · by_cases hb : L < 10 * m + (c.toNat - 48)
      · simp [numGo, hd, hb] at h
      · have e : numGo L (10 * m + (c.toNat - 48)) l = .good k r := by simpa [numGo, hd, hb] using h
        obtain ⟨e1, e2⟩ := dig_back hd
        obtain ⟨g1, g2⟩ := numGo_sound l _ (by omega) (by omega) e
        refine ⟨?_, g2⟩
        rw [← g1, dec_snoc h1 e2, e1]
        simp
    · simp [numGo, hd] at h
      obtain ⟨rfl, rfl⟩ := h
      exact ⟨rfl, h2, h1⟩
theorem numGo_end {L k : Nat} {r : By} (hr : ∀ c, r.head? = some c → isDig c = false) : numGo L k r = .good k r := by
  cases r with
  | nil => rfl
  | cons c r => simp [numGo, hr c rfl]
theorem natP_go (L : Nat) (neg : Bool) (k : Nat) : ∀ (r : By), 1 ≤ k → k ≤ L → natP L neg (Lib.decDigits k ++ r) = numGo L k r := by
  induction k using Nat.strongRecOn with
  | ind k ih =>
    intro r h1 h2
    by_cases hk : k < 10
    · rw [Lib.decDigits_one hk]
      obtain ⟨e1, e2⟩ := dig_of hk
      show natP L neg (UInt8.ofNat (48 + k) :: r) = _
      simp only [natP, e2, e1, if_true]
      rw [if_neg (by omega), show 48 + k - 48 = k by omega]
    · have hd : k % 10 < 10 := Nat.mod_lt _ (by decide)
      obtain ⟨e1, e2⟩ := dig_of hd
      have e : Lib.decDigits k = Lib.decDigits (k / 10) ++ [UInt8.ofNat (48 + k % 10)] := by
        have := dec_snoc (m := k / 10) (d := k % 10) (by omega) hd
        rw [← this]; congr 1; omega
      rw [e, List.append_assoc, ih (k / 10) (by omega) _ (by omega) (by omega)]
      show numGo L (k / 10) (UInt8.ofNat (48 + k % 10) :: r) = _
      simp only [numGo, e2, e1, if_true]
      have e3 : 10 * (k / 10) + (48 + k % 10 - 48) = k := by omega
      rw [e3, if_neg (by omega)]
theorem natP_sound {L m : Nat} {neg : Bool} {l r : By} (h9 : 9 ≤ L) (h : natP L neg l = .good m r) : l = Lib.decDigits m ++ r ∧ m ≤ L ∧ (neg = true → m ≠ 0) := by
  cases l with
  | nil => simp [natP] at h
  | cons c l =>
    by_cases hd : isDig c = true
    · obtain ⟨e1, e2⟩ := dig_back hd
      by_cases h0 : c.toNat = 48
      · cases neg with
        | true => simp [natP, hd, h0] at h
        | false =>
          simp [natP, hd, h0] at h
          obtain ⟨rfl, rfl⟩ := h
          refine ⟨?_, Nat.zero_le _, fun h => by cases h⟩
          rw [Lib.decDigits_one (by decide)]
          have : c = 48 := UInt8.toNat_inj.1 h0
          rw [this]; rfl
      · have hd2 := hd
        simp [isDig] at hd2
        have hL : c.toNat - 48 ≤ L := by omega
        · have e : numGo L (c.toNat - 48) l = .good m r := by simpa [natP, hd, h0] using h
          obtain ⟨g1, g2, g3⟩ := numGo_sound l _ (by omega) hL e
          refine ⟨?_, g2, fun _ => by omega⟩
          rw [← g1, Lib.decDigits_one e2, e1]; rfl
    · simp [natP, hd] at h
theorem bd_nodig {r : By} (h : Bd r) : ∀ c, r.head? = some c → isDig c = false := by
  rcases h with rfl | ⟨m, rfl⟩
  · intro c h; cases h
  · intro c h; cases h; rfl
theorem natP_full {L m : Nat} {neg : Bool} {r : By} (hm : m ≤ L) (hn : neg = true → m ≠ 0) (hr : Bd r) : natP L neg (Lib.decDigits m ++ r) = .good m r := by
  by_cases h0 : m = 0
  · subst h0
    cases neg with
    | true => exact absurd rfl (hn rfl)
    | false => rw [Lib.decDigits_one (by decide)]; rfl
  · rw [natP_go L neg m r (by omega) hm, numGo_end (bd_nodig hr)]
theorem dec_head (m : Nat) (r : By) : (Lib.decDigits m ++ r).head? ≠ some 45 ∧ (Lib.decDigits m) ≠ [] := by
  have key : ∀ m, ∃ d, d < 10 ∧ ∃ t, Lib.decDigits m = UInt8.ofNat (48 + d) :: t := by
    intro m
    induction m using Nat.strongRecOn with
    | ind k ih =>
      by_cases hk : k < 10
      · exact ⟨k, hk, [], Lib.decDigits_one hk⟩
      · obtain ⟨d, hd, t, ht⟩ := ih (k / 10) (by omega)
        have := dec_snoc (m := k / 10) (d := k % 10) (by omega) (Nat.mod_lt _ (by decide))
        rw [show 10 * (k / 10) + k % 10 = k by omega, ht] at this
        exact ⟨d, hd, _, this⟩
  obtain ⟨d, hd, t, ht⟩ := key m
  refine ⟨fun h => ?_, by rw [ht]; simp⟩
  rw [ht] at h
  simp only [List.cons_append, List.head?_cons, Option.some.injEq] at h
  have := (dig_of hd).1
  rw [h] at this
  have h45 : (45 : UInt8).toNat = 45 := rfl
  omega
theorem num_cod : Cod numP numW inI where
  sound l x r h := by
    unfold numP at h
    by_cases h45 : l.head? = some 45
    · rw [if_pos h45] at h
      obtain ⟨m, l', h1, h2⟩ := bnd_good_iff.1 h
      injection h2 with h3 h4
      subst h3 h4
      obtain ⟨g1, g2, g3⟩ := natP_sound (by decide) h1
      have g4 := g3 rfl
      cases l with
      | nil => cases h45
      | cons c l =>
        cases h45
        simp only [List.tail_cons] at g1
        refine ⟨?_, ?_⟩
        · rw [g1]
          unfold numW
          rw [Lib.itoa_neg m (by omega)]; rfl
        · unfold maxI at g2; constructor <;> omega
    · rw [if_neg h45] at h
      obtain ⟨m, l', h1, h2⟩ := bnd_good_iff.1 h
      injection h2 with h3 h4
      subst h3 h4
      obtain ⟨g1, g2, g3⟩ := natP_sound (by decide) h1
      refine ⟨?_, ?_⟩
      · rw [g1]
        unfold numW
        rw [Lib.itoa_nonneg]
      · unfold maxI at g2; constructor <;> omega
  full x r hv hr := by
    unfold inI at hv
    unfold numP numW
    by_cases hx : x < 0
    · obtain ⟨m, rfl⟩ : ∃ m : Nat, x = -(m : Int) := ⟨x.natAbs, by omega⟩
      rw [Lib.itoa_neg m (by omega)]
      rw [if_pos (by rfl)]
      show (natP (maxI + 1) true (Lib.decDigits m ++ r)).bnd _ = _
      rw [natP_full (by unfold maxI; omega) (fun _ => by omega) hr]; rfl
    · obtain ⟨m, rfl⟩ : ∃ m : Nat, x = (m : Int) := ⟨x.toNat, by omega⟩
      rw [Lib.itoa_nonneg, if_neg (dec_head m r).1, natP_full (by unfold maxI; omega) (fun h => by cases h) hr]; rfl
theorem hex_back : ∀ n : Fin 256, ∀ a, hexV (UInt8.ofNat n.val) = some a → hexD a = UInt8.ofNat n.val ∧ a < 16 := by
  intro n a h
  have key : ∀ n : Fin 256, ((hexV (UInt8.ofNat n.val)).all fun a => decide (hexD a = UInt8.ofNat n.val) && decide (a < 16)) = true := by decide +kernel
  have := key n
  rw [h] at this
  simpa using this
theorem hexV_back {h : UInt8} {a : Nat} (e : hexV h = some a) : hexD a = h ∧ a < 16 := by
  have := hex_back ⟨h.toNat, h.toNat_lt⟩ a (by simp only [UInt8.ofNat_toNat]; exact e)
  simpa only [UInt8.ofNat_toNat] using this
theorem hexV_D : ∀ n : Fin 16, hexV (hexD n.val) = some n.val := by decide +kernel
theorem hexB_nat {a b : Nat} (ha : a < 16) (hb : b < 16) : (hexB a b).toNat = 16 * a + b := by unfold hexB; simp; omega
theorem sign_hex {a b : Nat} (ha : a < 16) (hb : b < 16) (hp : ¬ plainB (hexB a b) = true) : signB (hexB a b) = [37, hexD a, hexD b] := by
  unfold signB
  rw [if_neg hp, hexB_nat ha hb, show (16 * a + b) / 16 = a by omega, show (16 * a + b) % 16 = b by omega]
theorem textGo_sound : ∀ (n : Nat) (l x r : By), l.length ≤ n → textGo l = .good x r → l = x.flatMap signB ++ r
  | _, [], x, r, _, h => by
    simp [textGo] at h
    obtain ⟨rfl, rfl⟩ := h
    rfl
  | 0, c :: l, x, r, hn, h => by simp at hn
  | n + 1, c :: l, x, r, hn, h => by
    by_cases hp : plainB c = true
    · rw [textGo_plain hp] at h
      obtain ⟨y, l', h1, h2⟩ := bnd_good_iff.1 h
      injection h2 with h3 h4
      subst h3 h4
      have := textGo_sound n l y l' (by simpa using hn) h1
      rw [this]
      simp [signB, hp]
    · by_cases h37 : c.toNat = 37
      · rw [textGo_hex hp h37] at h
        have hc : c = 37 := UInt8.toNat_inj.1 h37
        subst hc
        cases l with
        | nil => simp [hexG1] at h
        | cons d l =>
          cases e1 : hexV d with
          | none => simp [hexG1, e1] at h
          | some a =>
            simp only [hexG1, e1] at h
            cases l with
            | nil => simp [hexG2] at h
            | cons k l =>
              cases e2 : hexV k with
              | none => simp [hexG2, e2] at h
              | some b =>
                simp only [hexG2, e2] at h
                by_cases hb : plainB (hexB a b) = true
                · rw [if_pos hb] at h; cases h
                · rw [if_neg hb] at h
                  obtain ⟨y, l', h1, h2⟩ := bnd_good_iff.1 h
                  injection h2 with h3 h4
                  subst h3 h4
                  have := textGo_sound n l y l' (by simp at hn; omega) h1
                  obtain ⟨f1, f2⟩ := hexV_back e1
                  obtain ⟨f3, f4⟩ := hexV_back e2
                  rw [this, List.flatMap_cons, sign_hex f2 f4 hb, f1, f3]
                  rfl
      · rw [textGo_stop hp h37] at h
        injection h with h3 h4
        subst h3 h4
        rfl
theorem textGo_full {r : By} (hr : Bd r) : ∀ x : By, textGo (x.flatMap signB ++ r) = .good x r
  | [] => by
    rcases hr with rfl | ⟨m, rfl⟩
    · rfl
    · exact textGo_stop (c := 32) (by decide) (by decide) m
  | c :: x => by
    rw [List.flatMap_cons, List.append_assoc]
    by_cases hp : plainB c = true
    · rw [show signB c = [c] by simp [signB, hp]]
      show textGo (c :: (x.flatMap signB ++ r)) = _
      rw [textGo_plain hp, textGo_full hr x]; rfl
    · rw [show signB c = [37, hexD (c.toNat / 16), hexD (c.toNat % 16)] by simp [signB, hp]]
      show textGo (37 :: hexD (c.toNat / 16) :: hexD (c.toNat % 16) :: (x.flatMap signB ++ r)) = _
      have h1 : c.toNat / 16 < 16 := by have := c.toNat_lt; omega
      have h2 : c.toNat % 16 < 16 := Nat.mod_lt _ (by decide)
      have e : hexB (c.toNat / 16) (c.toNat % 16) = c := UInt8.toNat_inj.1 (by rw [hexB_nat h1 h2]; omega)
      rw [textGo_hex (by decide) (by decide)]
      simp only [hexG1, hexV_D ⟨_, h1⟩, hexG2, hexV_D ⟨_, h2⟩, e]
      rw [if_neg hp, textGo_full hr x]; rfl
theorem text_cod : Cod textP textW (fun _ => True) where
  sound l x r h := by
    refine ⟨?_, trivial⟩
    unfold textP at h
    by_cases h45 : l.head? = some 45
    · rw [if_pos h45] at h
      injection h with h1 h2
      subst h1 h2
      cases l with
      | nil => cases h45
      | cons c l => cases h45; rfl
    · rw [if_neg h45] at h
      obtain ⟨y, l', h1, h2⟩ := bnd_good_iff.1 h
      by_cases hy : y = []
      · rw [if_pos hy] at h2; cases h2
      · rw [if_neg hy] at h2
        injection h2 with h3 h4
        subst h3 h4
        rw [textGo_sound l.length l y l' (Nat.le_refl _) h1]
        simp [textW, hy]
  full x r _ hr := by
    unfold textP
    by_cases hx : x = []
    · subst hx; rfl
    · have e : textW x = x.flatMap signB := by simp [textW, hx]
      rw [e, if_neg, textGo_full hr x]
      · show (if x = [] then R.bad r else R.good x r) = _
        rw [if_neg hx]
      · cases x with
        | nil => exact absurd rfl hx
        | cons c x =>
          rw [List.flatMap_cons]
          unfold signB
          by_cases hp : plainB c = true
          · rw [if_pos hp]
            intro h
            simp at h
            subst h
            exact absurd hp (by decide)
          · rw [if_neg hp]
            intro h
            simp at h
end Go.Proofs.YtnbfebjcfhbhiaaDoor.Sc
end
section
namespace Go.Proofs.YtnbfebjcfhbhiaaDoor.Sc
open Go.Proofs.YtnbfebjcfhbhiaaDoor.Bw Go.Proofs.YtnbfebjcfhbhiaaDoor.Lw
set_option linter.unusedVariables false
set_option linter.unusedSimpArgs false
def beh (ws : List By) : By := ws.flatMap (32 :: ·)
theorem beh_cons (w : By) (ws : List By) : beh (w :: ws) = 32 :: (w ++ beh ws) := rfl
theorem beh_append (a b : List By) : beh (a ++ b) = beh a ++ beh b := by simp [beh]
section
variable {x y z : St} {p q : Part}
theorem zero_comm : (x.zero p).zero q = (x.zero q).zero p := by cases p <;> cases q <;> rfl
theorem partW_zero (h : p ≠ q) : partW (y.zero p) q = partW y q := by cases p <;> cases q <;> first | rfl | exact absurd rfl h
theorem get_zero (h : p ≠ q) : (y.zero p).get q = y.get q := by cases p <;> cases q <;> first | rfl | exact absurd rfl h
end
def zeroAll (ps : List Part) (x : St) : St := ps.foldl St.zero x
theorem zeroAll_zero (ps : List Part) (x : St) (p : Part) : zeroAll ps (x.zero p) = (zeroAll ps x).zero p := by
  induction ps generalizing x with
  | nil => rfl
  | cons q ps ih => show zeroAll ps ((x.zero p).zero q) = (zeroAll ps (x.zero q)).zero p; rw [zero_comm, ih]
theorem partW_all {ps : List Part} {p : Part} (hp : p ∉ ps) (x : St) : partW (zeroAll ps x) p = partW x p := by
  induction ps generalizing x with
  | nil => rfl
  | cons q ps ih =>
    show partW (zeroAll ps (x.zero q)) p = _
    rw [ih (fun h => hp (.tail _ h)), partW_zero (fun h => hp (by subst h; exact List.mem_cons_self))]
theorem get_all {ps : List Part} {p : Part} (hp : p ∉ ps) (x : St) : (zeroAll ps x).get p = x.get p := by
  induction ps generalizing x with
  | nil => rfl
  | cons q ps ih =>
    show (zeroAll ps (x.zero q)).get p = _
    rw [ih (fun h => hp (.tail _ h)), get_zero (fun h => hp (by subst h; exact List.mem_cons_self))]
theorem word_sound {p : Part} (hp : p ≠ .o) {x y : St} {l r : By} (h : wordP p x l = .good y r) : l = partW y p ++ r ∧ y.zero p = x.zero p ∧ inI (y.get p) := by
  cases p with
  | o => exact absurd rfl hp
  | d =>
    obtain ⟨v, l', h1, h2⟩ := bnd_good_iff.1 h
    injection h2 with h3 h4
    subst h3 h4
    exact ⟨(text_cod.sound _ _ _ h1).1, rfl, inI0⟩
  | k =>
    obtain ⟨v, l', h1, h2⟩ := bnd_good_iff.1 h
    injection h2 with h3 h4
    subst h3 h4
    exact ⟨(text_cod.sound _ _ _ h1).1, rfl, inI0⟩
  | _ =>
    obtain ⟨v, l', h1, h2⟩ := bnd_good_iff.1 h
    injection h2 with h3 h4
    subst h3 h4
    obtain ⟨g1, g2⟩ := num_cod.sound _ _ _ h1
    exact ⟨g1, rfl, g2⟩
theorem op_sound : ∀ (ps : List Part) (x y : St) (l r : By), ps.Nodup → .o ∉ ps → opGo ps x l = .good y r → l = beh (ps.map (partW y)) ++ r ∧ zeroAll ps y = zeroAll ps x ∧ ∀ p ∈ ps, inI (y.get p)
  | [], x, y, l, r, hn, ho, h => by
    injection h with h1 h2
    subst h1 h2
    exact ⟨rfl, rfl, fun _ h => by cases h⟩
  | p :: ps, x, y, l, r, hn, ho, h => by
    have hpo : p ≠ .o := fun h => ho (h ▸ .head _)
    obtain ⟨hp, hn2⟩ := List.nodup_cons.1 hn
    rw [opGo] at h
    obtain ⟨_, l1, h1, h⟩ := bnd_good_iff.1 h
    obtain ⟨x1, l2, h2, h3⟩ := bnd_good_iff.1 h
    obtain ⟨e1, e2, e3⟩ := word_sound hpo h2
    obtain ⟨g1, g2, g3⟩ := op_sound ps x1 y l2 r hn2 (fun h => ho (.tail _ h)) h3
    have e4 : partW y p = partW x1 p := by rw [← partW_all hp y, g2, partW_all hp]
    have e5 : y.get p = x1.get p := by rw [← get_all hp y, g2, get_all hp]
    refine ⟨?_, ?_, fun q hq => ?_⟩
    · rw [byte_good.1 h1, e1, g1, List.map_cons, beh_cons, e4]
      simp
    · show zeroAll ps (y.zero p) = zeroAll ps (x.zero p)
      rw [← e2, zeroAll_zero, zeroAll_zero, g2]
    · rcases List.mem_cons.1 hq with rfl | hq
      · rw [e5]; exact e3
      · exact g3 q hq
theorem partGo_op : ∀ (ps : List Part) (x : St) (l : By), .o ∉ ps → partGo ps x l = opGo ps x l
  | [], x, l, _ => rfl
  | p :: ps, x, l, h => by
    have ih := fun x l => partGo_op ps x l (fun h2 => h (.tail _ h2))
    cases p with
    | o => exact absurd (.head _) h
    | _ =>
      rw [partGo]
      · rw [opGo]; simp only [ih]
      · intro h; cases h
theorem one_sound {ws : List By} {l r : By} {i : Nat} (h : oneP ws l = .good i r) : i < ws.length ∧ l = ws.getD i [] ++ r := by
  rcases first_of l ws with hb | ⟨ws1, w, ws2, rfl, hw, hb⟩
  · have := oneFrom_bad l ws 0 0 hb
    unfold oneP at h
    rw [this] at h; cases h
  · have := oneFrom_good l w hw ws2 ws1 0 0 hb
    unfold oneP at h
    rw [this] at h
    injection h with h1 h2
    subst h1 h2
    obtain ⟨m, rfl⟩ := (common_pre l w).1 hw
    simp
theorem one_full {ws : List By} (hf : PF ws) (hn : ws.Nodup) {i : Nat} (hi : i < ws.length) (r : By) : oneP ws (ws.getD i [] ++ r) = .good i r := by
  have hg : ws.getD i [] = ws[i] := by rw [List.getD_eq_getElem?_getD, List.getElem?_eq_getElem hi]; rfl
  rw [hg]
  rcases first_of (ws[i] ++ r) ws with hb | ⟨ws1, w, ws2, he, hw, hb⟩
  · exact absurd (common_pref r (List.prefix_refl _)) (hb _ (List.getElem_mem hi))
  · have hwm : w ∈ ws := by rw [he]; simp
    have h1 := (common_pre _ _).1 hw
    have h2 : ws[i] <+: ws[i] ++ r := List.prefix_append _ _
    have : w = ws[i] := by
      rcases Nat.le_total w.length ws[i].length with hl | hl
      · exact hf w hwm _ (List.getElem_mem hi) (List.prefix_of_prefix_length_le h1 h2 hl)
      · exact (hf _ (List.getElem_mem hi) w hwm (List.prefix_of_prefix_length_le h2 h1 hl)).symm
    subst this
    have hlen : ws1.length < ws.length := by
      have := congrArg List.length he
      simp at this; omega
    have hj : ws[ws1.length]'hlen = ws[i] := by
      have : ws[ws1.length]? = some ws[i] := by
        conv => lhs; rw [he]
        simp
      rw [List.getElem?_eq_getElem hlen] at this
      exact Option.some.inj this
    have hij : ws1.length = i := (List.getElem_inj (h₀ := hlen) (h₁ := hi) hn).1 hj
    have := oneFrom_good (ws[i] ++ r) ws[i] hw ws2 ws1 0 0 hb
    unfold oneP
    rw [← he, List.drop_left, Nat.zero_add, hij] at this
    exact this
end Go.Proofs.YtnbfebjcfhbhiaaDoor.Sc
end
section
namespace Go.Proofs.YtnbfebjcfhbhiaaDoor.Sc
open Go.Proofs.YtnbfebjcfhbhiaaDoor.Bw Go.Proofs.YtnbfebjcfhbhiaaDoor.Lw
set_option linter.unusedVariables false
set_option linter.unusedSimpArgs false
theorem kind_all (ps : List Part) (x : St) : (zeroAll ps x).kind = x.kind := by
  induction ps generalizing x with
  | nil => rfl
  | cons q ps ih => show (zeroAll ps (x.zero q)).kind = _; rw [ih]; cases q <;> rfl
theorem ok_all (ps : List Part) (x : St) : (zeroAll ps x).ok = x.ok := by
  induction ps generalizing x with
  | nil => rfl
  | cons q ps ih => show (zeroAll ps (x.zero q)).ok = _; rw [ih]; cases q <;> rfl
theorem tellG_plain (rec : St → Bool × List By × St) : ∀ (ps : List Part) (y : St), ps.Nodup → .o ∉ ps → tellG rec ps y = (true, ps.map (partW y), zeroAll ps y)
  | [], y, _, _ => rfl
  | p :: ps, y, hn, ho => by
    obtain ⟨hp, hn2⟩ := List.nodup_cons.1 hn
    rw [tellG_cons rec p (fun h => ho (by subst h; exact List.mem_cons_self)), tellG_plain rec ps (y.zero p) hn2 (fun h => ho (.tail _ h))]
    have : ps.map (partW (y.zero p)) = ps.map (partW y) := List.map_congr_left (fun q hq => partW_zero (fun h => hp (by subst h; exact hq)))
    rw [this]; rfl
theorem tellS_at (rec : St → Bool × List By × St) (x : St) : ∀ f : Fin 15, tellF rec stepFs ((f.val : Int) + 1) x = ((tellG rec (stepParts f.val) x).1, stepWs.getD f.val [] :: (tellG rec (stepParts f.val) x).2.1, (tellG rec (stepParts f.val) x).2.2)
  | ⟨0, _⟩ => rfl | ⟨1, _⟩ => rfl | ⟨2, _⟩ => rfl | ⟨3, _⟩ => rfl | ⟨4, _⟩ => rfl | ⟨5, _⟩ => rfl | ⟨6, _⟩ => rfl | ⟨7, _⟩ => rfl | ⟨8, _⟩ => rfl | ⟨9, _⟩ => rfl | ⟨10, _⟩ => rfl | ⟨11, _⟩ => rfl | ⟨12, _⟩ => rfl | ⟨13, _⟩ => rfl | ⟨14, _⟩ => rfl
theorem tellO_at (rec : St → Bool × List By × St) (x : St) : ∀ f : Fin 11, tellF rec opFs ((f.val : Int) + 1) x = ((tellG rec (opParts f.val) x).1, opWs.getD f.val [] :: (tellG rec (opParts f.val) x).2.1, (tellG rec (opParts f.val) x).2.2)
  | ⟨0, _⟩ => rfl | ⟨1, _⟩ => rfl | ⟨2, _⟩ => rfl | ⟨3, _⟩ => rfl | ⟨4, _⟩ => rfl | ⟨5, _⟩ => rfl | ⟨6, _⟩ => rfl | ⟨7, _⟩ => rfl | ⟨8, _⟩ => rfl | ⟨9, _⟩ => rfl | ⟨10, _⟩ => rfl
theorem tellF_some (rec : St → Bool × List By × St) (k : Int) (x : St) : ∀ fs, (tellF rec fs k x).1 = true → ∃ f ∈ fs, f.f2 = k
  | [], h => by cases h
  | f :: fs, h => by
    by_cases hk : f.f2 = k
    · exact ⟨f, .head _, hk⟩
    · rw [tellF, if_neg hk] at h
      obtain ⟨g, hg, e⟩ := tellF_some rec k x fs h
      exact ⟨g, .tail _ hg, e⟩
theorem stepFs_f2 : ∀ f ∈ stepFs, 1 ≤ f.f2 ∧ f.f2 ≤ 15 := by decide
theorem opParts_fine : ∀ f : Fin 11, (opParts f.val).Nodup ∧ .o ∉ opParts f.val ∧ .r ∉ opParts f.val ∧ .s ∉ opParts f.val ∧ .n ∉ opParts f.val := by decide
theorem stepParts_fine : ∀ f : Fin 15, f.val ≠ 0 → (stepParts f.val).Nodup ∧ .o ∉ stepParts f.val := by decide
def rsn : List Part := [.r, .s, .n]
theorem rsn_fine : rsn.Nodup ∧ .o ∉ rsn := by decide
/-- A call: the parts ahead of the op, then the op. -/
theorem call_go (x : St) (l : By) : partGo (stepParts 0) x l = (opGo rsn x l).bnd fun x l => (byteP 32 l).bnd fun _ l => (oneP opWs l).bnd fun g l => opGo (opParts g) { x with ok := (g : Int) + 1 } l := by
  show partGo [.r, .s, .n, .o] x l = _
  have hb : ∀ {α β γ : Type} (r : R α) (f : α → By → R β) (g : β → By → R γ), (r.bnd f).bnd g = r.bnd fun x l => (f x l).bnd g := fun r f g => by cases r <;> rfl
  have h1 : ∀ {β : Type} (r : R β), (r.bnd fun x l => R.good x l) = r := fun r => by cases r <;> rfl
  simp only [rsn, partGo, opGo, hb, h1, R.bnd_good]
theorem tell_call (y : St) (g : Nat) (hg : g < 11) (hk : y.ok = (g : Int) + 1) :
    tellStep 1 y = (true, stepWs.getD 0 [] :: (rsn.map (partW y) ++ (opWs.getD g [] :: (opParts g).map (partW y))), { zeroAll (opParts g) (zeroAll rsn y) with ok := 0 }) := by
  obtain ⟨f1, f2, f3, f4, f5⟩ := opParts_fine ⟨g, hg⟩
  have e := tellS_at tellOps y ⟨0, by decide⟩
  have e2 : tellOps (zeroAll rsn y) = (true, opWs.getD g [] :: (opParts g).map (partW y), zeroAll (opParts g) (zeroAll rsn y)) := by
    unfold tellOps
    rw [ok_all, hk]
    have := tellO_at tell0 (zeroAll rsn y) ⟨g, hg⟩
    simp only at this
    rw [this, tellG_plain _ _ _ f1 f2]
    have : (opParts g).map (partW (zeroAll rsn y)) = (opParts g).map (partW y) := List.map_congr_left (fun q hq => partW_all (fun h => by
      simp only [rsn, List.mem_cons, List.not_mem_nil, or_false] at h
      rcases h with rfl | rfl | rfl
      · exact f3 hq
      · exact f4 hq
      · exact f5 hq) y)
    rw [this]
  show tellF tellOps stepFs 1 y = _
  have e3 : tellG tellOps (stepParts 0) y = (true, rsn.map (partW y) ++ (opWs.getD g [] :: (opParts g).map (partW y)), { zeroAll (opParts g) (zeroAll rsn y) with ok := 0 }) := by
    show tellG tellOps [.r, .s, .n, .o] y = _
    rw [tellG_cons _ _ (by decide), tellG_cons _ _ (by decide), tellG_cons _ _ (by decide)]
    have : ((y.zero .r).zero .s).zero .n = zeroAll rsn y := rfl
    rw [this]
    simp only [tellG, e2, if_true, List.append_nil]
    rfl
  refine Eq.trans e ?_
  simp only [e3]
theorem tell_other (y : St) (f : Nat) (hf : f < 15) (h0 : f ≠ 0) : tellStep ((f : Int) + 1) y = (true, stepWs.getD f [] :: (stepParts f).map (partW y), zeroAll (stepParts f) y) := by
  obtain ⟨h1, h2⟩ := stepParts_fine ⟨f, hf⟩ h0
  have e := tellS_at tellOps y ⟨f, hf⟩
  simp only at e
  refine Eq.trans e ?_
  rw [tellG_plain _ _ _ h1 h2]
end Go.Proofs.YtnbfebjcfhbhiaaDoor.Sc
end
section
namespace Go.Proofs.YtnbfebjcfhbhiaaDoor.Sc
open Go.Proofs.YtnbfebjcfhbhiaaDoor.Bw Go.Proofs.YtnbfebjcfhbhiaaDoor.Lw
set_option linter.unusedVariables false
set_option linter.unusedSimpArgs false
def joinW : List By → By
  | [] => []
  | w :: ws => w ++ beh ws
def wordsS (x : St) : List By := (tellStep x.kind x).2.1
theorem zeroAll_st0 (ps : List Part) (k : Int) : zeroAll ps (st0 k) = st0 k := by
  induction ps with
  | nil => rfl
  | cons q ps ih => show zeroAll ps ((st0 k).zero q) = _; rw [show (st0 k).zero q = st0 k by cases q <;> rfl, ih]
def St.okTo (x : St) (v : Int) : St := { x with ok := v }
theorem zeroAll_ok (ps : List Part) (x : St) (v : Int) : zeroAll ps (x.okTo v) = (zeroAll ps x).okTo v := by
  induction ps generalizing x with
  | nil => rfl
  | cons q ps ih => show zeroAll ps ((x.okTo v).zero q) = (zeroAll ps (x.zero q)).okTo v; rw [← ih]; cases q <;> rfl
theorem zeroAll_comm (ps qs : List Part) (x : St) : zeroAll ps (zeroAll qs x) = zeroAll qs (zeroAll ps x) := by
  induction qs generalizing x with
  | nil => rfl
  | cons q qs ih => show zeroAll ps (zeroAll qs (x.zero q)) = zeroAll qs ((zeroAll ps x).zero q); rw [ih, zeroAll_zero]
theorem textW_len (b : By) : b.length ≤ (textW b).length := by
  unfold textW
  by_cases h : b = []
  · simp [h]
  · rw [if_neg h]
    clear h
    induction b with
    | nil => simp
    | cons c b ih =>
      rw [List.flatMap_cons, List.length_append, List.length_cons]
      have : 1 ≤ (signB c).length := by unfold signB; split <;> simp
      omega
theorem beh_mem {w : By} {ws : List By} (h : w ∈ ws) : w.length ≤ (beh ws).length := by
  induction ws with
  | nil => cases h
  | cons v ws ih =>
    rw [beh_cons]
    simp only [List.length_cons, List.length_append]
    rcases List.mem_cons.1 h with rfl | h
    · omega
    · have := ih h; omega
/-- A text part is no longer than the words that tell it. -/
theorem part_len {ps : List Part} {y : St} {k : Int} {p : Part} (hz : zeroAll ps y = st0 k) (hp : p = .d ∨ p = .k) : (partW y p).length ≤ (beh (ps.map (partW y))).length + 1 := by
  by_cases hm : p ∈ ps
  · have := beh_mem (List.mem_map.2 ⟨p, hm, rfl⟩ : partW y p ∈ ps.map (partW y))
    omega
  · rw [← partW_all hm y, hz]
    rcases hp with rfl | rfl
    · show ([45] : By).length ≤ _; simp
    · show ([45] : By).length ≤ _; simp
theorem inI_nat {n : Nat} (h : n ≤ 100) : inI ((n : Int) + 1) := by constructor <;> omega
theorem step_sound {l r : By} {y : St} (h : stepP l = .good y r) : goodL y = true ∧ l = joinW (wordsS y) ++ r ∧ (∀ p, inI (y.get p)) ∧ inI y.kind ∧ inI y.ok ∧ y.name.length ≤ l.length + 1 ∧ y.data.length ≤ l.length + 1 := by
  obtain ⟨f, l1, h1, h2⟩ := bnd_good_iff.1 h
  obtain ⟨hf, rfl⟩ := one_sound h1
  replace hf : f < 15 := hf
  by_cases h0 : f = 0
  · subst h0
    rw [call_go] at h2
    obtain ⟨x1, l2, g1, h2⟩ := bnd_good_iff.1 h2
    obtain ⟨_, l3, g2, h2⟩ := bnd_good_iff.1 h2
    obtain ⟨g, l4, g3, g4⟩ := bnd_good_iff.1 h2
    obtain ⟨hg, rfl⟩ := one_sound g3
    replace hg : g < 11 := hg
    obtain ⟨f1, f2, f3, f4, f5⟩ := opParts_fine ⟨g, hg⟩
    simp only at f1 f2 f3 f4 f5
    obtain ⟨a1, a2, a3⟩ := op_sound rsn _ _ _ _ rsn_fine.1 rsn_fine.2 g1
    obtain ⟨b1, b2, b3⟩ := op_sound _ _ _ _ _ f1 f2 g4
    rw [zeroAll_st0] at a2
    have hok : y.ok = (g : Int) + 1 := by
      have := congrArg St.ok b2
      rwa [ok_all, ok_all] at this
    have hkind : y.kind = 1 := by
      have := congrArg St.kind b2
      rw [kind_all, kind_all] at this
      have h3 := congrArg St.kind a2
      rw [kind_all] at h3
      exact this.trans h3
    have hnr : ∀ p ∈ rsn, p ∉ opParts g := fun p hp => by
      simp only [rsn, List.mem_cons, List.not_mem_nil, or_false] at hp
      rcases hp with rfl | rfl | rfl
      · exact f3
      · exact f4
      · exact f5
    have hsame : ∀ p ∈ rsn, partW y p = partW x1 p ∧ y.get p = x1.get p := fun p hp => by
      have hx : partW ({ x1 with ok := (g : Int) + 1 } : St) p = partW x1 p ∧ ({ x1 with ok := (g : Int) + 1 } : St).get p = x1.get p := by cases p <;> exact ⟨rfl, rfl⟩
      refine ⟨?_, ?_⟩
      · rw [← partW_all (hnr p hp) y, b2, partW_all (hnr p hp), hx.1]
      · rw [← get_all (hnr p hp) y, b2, get_all (hnr p hp), hx.2]
    have hv : zeroAll (opParts g) (zeroAll rsn y) = (st0 1).okTo ((g : Int) + 1) := by
      have b2' : zeroAll (opParts g) y = zeroAll (opParts g) (x1.okTo ((g : Int) + 1)) := b2
      rw [zeroAll_comm, b2', zeroAll_comm, zeroAll_ok, a2, zeroAll_ok]
      congr 1
      exact zeroAll_st0 _ _
    have ht := tell_call y g hg hok
    rw [hv] at ht
    have hw : wordsS y = stepWs.getD 0 [] :: (rsn.map (partW y) ++ (opWs.getD g [] :: (opParts g).map (partW y))) := by
      unfold wordsS; rw [hkind, ht]
    have hm : rsn.map (partW y) = rsn.map (partW x1) := List.map_congr_left (fun p hp => (hsame p hp).1)
    have hl : l1 = beh (rsn.map (partW y) ++ (opWs.getD g [] :: (opParts g).map (partW y))) ++ r := by
      rw [beh_append, beh_cons, a1, byte_good.1 g2, b1, hm]
      simp
    refine ⟨?_, ?_, fun p => ?_, ?_, ?_, ?_⟩
    · unfold goodL; rw [hkind, ht]; rfl
    · rw [hw, hl]; simp [joinW]
    · by_cases hp : p ∈ rsn
      · rw [(hsame p hp).2]; exact a3 p hp
      · by_cases hp2 : p ∈ opParts g
        · exact b3 p hp2
        · have : y.get p = (zeroAll (opParts g) (zeroAll rsn y)).get p := by rw [get_all hp2, get_all hp]
          rw [this, hv]
          cases p <;> exact inI0
    · rw [hkind]; exact ⟨by decide, by decide⟩
    · rw [hok]; exact inI_nat (by omega)
    · have hz : zeroAll (rsn ++ opParts g) (y.okTo 0) = st0 1 := by
        have : zeroAll (rsn ++ opParts g) (y.okTo 0) = zeroAll (opParts g) (zeroAll rsn (y.okTo 0)) := by simp [zeroAll]
        rw [this, zeroAll_ok, zeroAll_ok, hv]; rfl
      have e : (rsn ++ opParts g).map (partW (y.okTo 0)) = rsn.map (partW y) ++ (opParts g).map (partW y) := by
        rw [← List.map_append]
        exact List.map_congr_left (fun p _ => by cases p <;> rfl)
      have q1 := part_len hz (p := .k) (.inr rfl)
      have q2 := part_len hz (p := .d) (.inl rfl)
      rw [e, beh_append] at q1 q2
      have q3 := textW_len y.name
      have q4 := textW_len y.data
      have q5 : l1.length = (beh (rsn.map (partW y))).length + (1 + ((opWs.getD g []).length + (beh ((opParts g).map (partW y))).length)) + r.length := by
        rw [hl, beh_append, beh_cons]; simp; omega
      have q6 : partW (y.okTo 0) .k = textW y.name := rfl
      have q7 : partW (y.okTo 0) .d = textW y.data := rfl
      rw [q6] at q1
      rw [q7] at q2
      simp only [List.length_append] at q1 q2 ⊢
      exact ⟨by omega, by omega⟩
  · obtain ⟨f1, f2⟩ := stepParts_fine ⟨f, hf⟩ h0
    simp only at f1 f2
    rw [partGo_op _ _ _ f2] at h2
    obtain ⟨a1, a2, a3⟩ := op_sound _ _ _ _ _ f1 f2 h2
    rw [zeroAll_st0] at a2
    have hkind : y.kind = (f : Int) + 1 := by
      have := congrArg St.kind a2
      rwa [kind_all] at this
    have hok : y.ok = 0 := by
      have := congrArg St.ok a2
      rwa [ok_all] at this
    have ht := tell_other y f hf h0
    rw [a2] at ht
    refine ⟨?_, ?_, fun p => ?_, ?_, ?_, ?_⟩
    · unfold goodL; rw [hkind, ht]; rfl
    · unfold wordsS; rw [hkind, ht, a1]; simp [joinW]
    · by_cases hp : p ∈ stepParts f
      · exact a3 p hp
      · rw [← get_all hp y, a2]
        cases p <;> exact inI0
    · rw [hkind]; exact inI_nat (by omega)
    · rw [hok]; exact inI0
    · have q1 := part_len a2 (p := .k) (.inr rfl)
      have q2 := part_len a2 (p := .d) (.inl rfl)
      have q3 := textW_len y.name
      have q4 := textW_len y.data
      have q6 : partW y .k = textW y.name := rfl
      have q7 : partW y .d = textW y.data := rfl
      rw [q6] at q1
      rw [q7] at q2
      have q5 : l1.length = (beh ((stepParts f).map (partW y))).length + r.length := by rw [a1]; simp
      simp only [List.length_append]
      exact ⟨by omega, by omega⟩
end Go.Proofs.YtnbfebjcfhbhiaaDoor.Sc
end
section
namespace Go.Proofs.YtnbfebjcfhbhiaaDoor.Sc
open Go.Proofs.YtnbfebjcfhbhiaaDoor.Bw Go.Proofs.YtnbfebjcfhbhiaaDoor.Lw
set_option linter.unusedVariables false
set_option linter.unusedSimpArgs false
theorem good_kind {y : St} (h : goodL y = true) : ∃ f : Nat, f < 15 ∧ y.kind = (f : Int) + 1 := by
  unfold goodL at h
  simp only [Bool.and_eq_true] at h
  obtain ⟨g, hg, e⟩ := tellF_some tellOps y.kind y stepFs h.1
  have := stepFs_f2 g hg
  exact ⟨(y.kind - 1).toNat, by omega, by omega⟩
theorem named_cod (w : By) : Cod (namedP w) (fun n => w ++ 32 :: numW n) inI where
  sound l x r h := by
    obtain ⟨i, l1, h1, k1⟩ := bnd_good_iff.1 h
    obtain ⟨_, l2, h2, k2⟩ := bnd_good_iff.1 k1
    obtain ⟨hi, rfl⟩ := one_sound h1
    have : i = 0 := by simpa using hi
    subst this
    obtain ⟨g1, g2⟩ := num_cod.sound _ _ _ k2
    refine ⟨?_, g2⟩
    rw [byte_good.1 h2, g1]; simp
  full x r hv hr := by
    show namedP w ((w ++ 32 :: numW x) ++ r) = _
    rw [List.append_assoc]
    refine bnd_good_iff.2 ⟨0, _, one_full (ws := [w]) (i := 0) (pf_one w) (by simp) (by simp) _, ?_⟩
    exact bnd_good_iff.2 ⟨(), _, byte_good.2 (List.cons_append ..), num_cod.full x r hv hr⟩
def cfgB (ws : List By) (c : List Int) : By := (ws.zip c).flatMap fun p => 32 :: (p.1 ++ 32 :: numW p.2)
theorem cfgGo_cod : ∀ ws : List By, Cod (cfgGo ws) (cfgB ws) (fun c => c.length = ws.length ∧ ∀ x ∈ c, inI x)
  | [] => {
    sound := fun l x r h => by
      injection h with h1 h2
      subst h1 h2
      exact ⟨rfl, rfl, fun _ h => by cases h⟩
    full := fun x r hv hr => by
      obtain ⟨h1, _⟩ := hv
      cases x with
      | nil => rfl
      | cons a x => simp at h1 }
  | w :: ws => {
    sound := fun l x r h => by
      rw [cfgGo] at h
      obtain ⟨_, l1, h1, h⟩ := bnd_good_iff.1 h
      obtain ⟨n, l2, h2, h⟩ := bnd_good_iff.1 h
      obtain ⟨y, l3, h3, h4⟩ := bnd_good_iff.1 h
      injection h4 with h4 h5
      subst h4 h5
      obtain ⟨g1, g2⟩ := (named_cod w).sound _ _ _ h2
      obtain ⟨k1, k2, k3⟩ := (cfgGo_cod ws).sound _ _ _ h3
      refine ⟨?_, by simp [k2], fun z hz => ?_⟩
      · rw [byte_good.1 h1, g1, k1]; simp [cfgB]
      · rcases List.mem_cons.1 hz with rfl | hz
        · exact g2
        · exact k3 z hz
    full := fun x r hv hr => by
      obtain ⟨h1, h2⟩ := hv
      cases x with
      | nil => simp at h1
      | cons n x =>
        have e : cfgB (w :: ws) (n :: x) ++ r = 32 :: ((w ++ 32 :: numW n) ++ (cfgB ws x ++ r)) := by simp [cfgB]
        have hb : Bd (cfgB ws x ++ r) := by
          unfold cfgB
          cases hz : ws.zip x with
          | nil => exact hr
          | cons p q => exact .cons _
        rw [e, cfgGo]
        refine bnd_good_iff.2 ⟨(), _, byte_good.2 rfl, ?_⟩
        refine bnd_good_iff.2 ⟨n, _, (named_cod w).full n _ (h2 n (.head _)) hb, ?_⟩
        exact bnd_good_iff.2 ⟨x, _, (cfgGo_cod ws).full x r ⟨by simpa using h1, fun z hz => h2 z (.tail _ hz)⟩ hr, rfl⟩ }
end Go.Proofs.YtnbfebjcfhbhiaaDoor.Sc
end
section
namespace Go.Proofs.YtnbfebjcfhbhiaaDoor.Sc
open Go.Proofs.YtnbfebjcfhbhiaaDoor.Bw Go.Proofs.YtnbfebjcfhbhiaaDoor.Lw
set_option linter.unusedVariables false
set_option linter.unusedSimpArgs false
theorem addWs_true : ∀ (ws : List By) (t : By), addWs (t, true) ws = (t ++ beh ws, true)
  | [], t => by simp [addWs, beh]
  | w :: ws, t => by
    show addWs (addW (t, true) w) ws = _
    have : addW (t, true) w = (t ++ 32 :: w, true) := rfl
    rw [this, addWs_true ws, beh_cons]; simp
theorem addWs_false {ws : List By} (h : ws ≠ []) (t : By) : addWs (t, false) ws = (t ++ joinW ws, true) := by
  cases ws with
  | nil => exact absurd rfl h
  | cons w ws =>
    show addWs (addW (t, false) w) ws = _
    have : addW (t, false) w = (t ++ w, true) := rfl
    rw [this, addWs_true]; simp [joinW]
theorem cfg_words {c : List Int} (h : c.length = 10) : cfgTell c ≠ [] ∧ joinW (cfgTell c) = (cfgW0 ++ 32 :: numW (c.getD 0 0)) ++ cfgB cfgWs c.tail := by
  match c, h with
  | [a0, a1, a2, a3, a4, a5, a6, a7, a8, a9], _ =>
    refine ⟨by simp [cfgTell, cfgTellN, List.range_succ], ?_⟩
    simp [cfgTell, cfgTellN, List.range_succ, joinW, beh, cfgB, cfgWs, cfgW, cfgW0]
theorem cfg_cod : Cod cfgP (fun c => joinW (cfgTell c)) (fun c => c.length = 10 ∧ ∀ x ∈ c, inI x) where
  sound l x r h := by
    obtain ⟨n, l1, h1, k1⟩ := bnd_good_iff.1 h
    obtain ⟨y, l2, h2, k2⟩ := bnd_good_iff.1 k1
    injection k2 with h3 h4
    subst h3 h4
    obtain ⟨g1, g2⟩ := (named_cod cfgW0).sound _ _ _ h1
    obtain ⟨j1, j2, j3⟩ := (cfgGo_cod cfgWs).sound _ _ _ h2
    have hl : (n :: y).length = 10 := by rw [List.length_cons, j2]; rfl
    refine ⟨?_, hl, fun z hz => ?_⟩
    · rw [(cfg_words hl).2, g1, j1]; simp
    · rcases List.mem_cons.1 hz with rfl | hz
      · exact g2
      · exact j3 z hz
  full x r hv hr := by
    obtain ⟨h1, h2⟩ := hv
    show cfgP (joinW (cfgTell x) ++ r) = _
    rw [(cfg_words h1).2, List.append_assoc]
    cases x with
    | nil => simp at h1
    | cons n y =>
      have hb : Bd (cfgB cfgWs y ++ r) := by
        unfold cfgB
        cases hz : cfgWs.zip y with
        | nil => exact hr
        | cons p q => exact .cons _
      refine bnd_good_iff.2 ⟨n, _, (named_cod cfgW0).full n _ (h2 n (.head _)) hb, ?_⟩
      exact bnd_good_iff.2 ⟨y, _, (cfgGo_cod cfgWs).full y r ⟨(show y.length = 9 by simpa using h1), fun z hz => h2 z (.tail _ hz)⟩ hr, rfl⟩
/-- The text of steps. -/
def stepsT (l : List St) : By := l.flatMap fun x => joinW (wordsS x) ++ [10]
theorem words_ne {x : St} (h : goodL x = true) : ∃ w ws, wordsS x = w :: ws ∧ w ∈ stepWs := by
  obtain ⟨f, hf, hk⟩ := good_kind h
  have e := tellS_at tellOps x ⟨f, hf⟩
  have hw : wordsS x = stepWs.getD f [] :: (tellG tellOps (stepParts f) x).2.1 := by
    unfold wordsS
    rw [hk]
    exact congrArg (·.2.1) e
  refine ⟨_, _, hw, ?_⟩
  have hf2 : f < stepWs.length := hf
  rw [List.getD_eq_getElem?_getD, List.getElem?_eq_getElem hf2]
  exact List.getElem_mem hf2
theorem printGo_of : ∀ (l : List St) (t : By), (∀ x ∈ l, goodL x = true) → printGo l (t, false) = some (t ++ stepsT l, false)
  | [], t, h => by simp [printGo, stepsT]
  | x :: l, t, h => by
    have hg := h x (.head _)
    obtain ⟨w, ws, hw, _⟩ := words_ne hg
    have e : endL (addWs (t, false) (tellStep x.kind x).2.1) = (t ++ (joinW (wordsS x) ++ [10]), false) := by
      show endL (addWs (t, false) (wordsS x)) = _
      rw [addWs_false (by rw [hw]; simp)]; simp [endL]
    rw [printGo, if_pos hg, e, printGo_of l _ (fun y hy => h y (.tail _ hy))]
    simp [stepsT]
theorem cfgTS_eq {c : List Int} (h : c.length = 10) : cfgTS c = (joinW (cfgTell c) ++ [10], false) := by
  unfold cfgTS
  rw [addWs_false (cfg_words h).1]; simp [endL]
end Go.Proofs.YtnbfebjcfhbhiaaDoor.Sc
end
section
namespace Go.Proofs.YtnbfebjcfhbhiaaDoor.Sc
open Go Go.RowKit Go.Proofs.YtnbfebjcfhbhiaaDoor.P Go.Proofs.YtnbfebjcfhbhiaaDoor.Bw Go.Proofs.YtnbfebjcfhbhiaaDoor.Lw Go.Proofs.YtnbfebjcfhbhiaaDoorW.PrintWords
set_option linter.unusedVariables false
set_option linter.unusedSimpArgs false
end Go.Proofs.YtnbfebjcfhbhiaaDoor.Sc
end
section
namespace Go.Proofs.YtnbfebjcfhbhiaaDoor.Sc
open Go Go.RowKit Go.Proofs.YtnbfebjcfhbhiaaDoor.P Go.Proofs.YtnbfebjcfhbhiaaDoorW.PrintWords Go.Proofs.YtnbfebjcfhbhiaaDoorW.PrintLast Go.Proofs.YtnbfebjcfhbhiaaDoorW.PrintMore
set_option linter.unusedVariables false
set_option linter.unusedSimpArgs false
theorem alike_go (l : List S48) (hl : l.length ≤ 4611686018427387904) : ∀ n i : Nat, i + n = l.length → Ev (fun k => sluicelaw18_alike.l0 k l l (i : Int)) true := by
  intro n
  induction n with
  | zero =>
    intro i hi
    refine Ev.step (f := fun _ => some true) (fun k => ?_) (Ev.now _)
    rw [sluicelaw18_alike.l0, if_neg (by omega)]
  | succ n ih =>
    intro i hi
    have h := ih (i + 1) (by omega)
    have e : wrap64 ((i : Int) + 1) = ((i + 1 : Nat) : Int) := by rw [w64 (by omega) (by omega)]; omega
    refine Ev.step (fun k => ?_) h
    rw [sluicelaw18_alike.l0, if_pos (by omega), if_pos (by omega), if_pos (by omega), e]
    simp [sluicelaw18_same.f]
theorem alike_ev (l : List S48) (hl : l.length ≤ 4611686018427387904) : Ev (fun k => sluicelaw18_alike.f k l l) true := by
  have h := alike_go l hl l.length 0 (by omega)
  exact Ev.congr (fun k => by unfold sluicelaw18_alike.f; rw [if_pos rfl]; rfl) h
end Go.Proofs.YtnbfebjcfhbhiaaDoor.Sc
end
section
namespace Go.Proofs.YtnbfebjcfhbhiaaDoor.Bw
open Go Go.RowKit Go.Proofs.YtnbfebjcfhbhiaaDoor.P Go.Proofs.YtnbfebjcfhbhiaaDoor.Sc Go.Proofs.YtnbfebjcfhbhiaaDoor.Lw Go.Proofs.YtnbfebjcfhbhiaaDoorW.PrintWords Go.Proofs.YtnbfebjcfhbhiaaDoorW.PrintLast Go.Proofs.YtnbfebjcfhbhiaaDoorW.PrintMore
set_option linter.unusedVariables false
set_option linter.unusedSimpArgs false
theorem alike_calls (w : World) (l : List St) (A A2 : Option Addr) (cp cp2 : Nat) {K : Nat} (hK : sluicelaw18_alike.f K (l.map stS) (l.map stS) = some true) (h1 : Kd.C k48 w A l.length (l.map stS)) (k1 : l.length ≤ cp) (h2 : Kd.C k48 w A2 l.length (l.map stS)) (k2 : l.length ≤ cp2) :
    Calls Tryd.prog 17 #[.slice A l.length cp, .slice A2 l.length cp2] w fun e w' => e = .returned (.bool true) ∧ Below w.heap.size w w' := by
  have := sluicelaw18_alike.calls K A cp (l.map stS) A2 cp2 (l.map stS) true w (by rw [List.length_map]; exact h1) (by rw [List.length_map]; exact k1) (by rw [List.length_map]; exact h2) (by rw [List.length_map]; exact k2) hK
  rw [List.length_map] at this
  exact this
theorem ten {c : List Int} (h : c.length = 10) : ∃ a0 a1 a2 a3 a4 a5 a6 a7 a8 a9, c = [a0, a1, a2, a3, a4, a5, a6, a7, a8, a9] := by
  match c, h with
  | [a0, a1, a2, a3, a4, a5, a6, a7, a8, a9], _ => exact ⟨a0, a1, a2, a3, a4, a5, a6, a7, a8, a9, rfl⟩
end Go.Proofs.YtnbfebjcfhbhiaaDoor.Bw
end
section
namespace Go.Proofs.YtnbfebjcfhbhiaaDoor.Sc
open Go.Proofs.YtnbfebjcfhbhiaaDoor.Bw Go.Proofs.YtnbfebjcfhbhiaaDoor.Lw
set_option linter.unusedVariables false
set_option linter.unusedSimpArgs false
/-- A line that means nothing. -/
def Mute (t : By) : Prop := t = [] ∨ t.head? = some 35
instance (t : By) : Decidable (Mute t) := by unfold Mute; infer_instance
def meantT (ls : List (By × Bool)) : By := ls.flatMap fun p => if Mute p.1 then [] else p.1 ++ [10]
def fitS (m : Nat) (y : St) : Prop := (∀ p, inI (y.get p)) ∧ inI y.kind ∧ inI y.ok ∧ y.name.length ≤ m + 1 ∧ y.data.length ≤ m + 1
theorem lineE_ok {α : Type} {p : Rd α} {t : By} {w : Bool} {x : α} (h : lineE p t w = .ok x) : p t = .good x [] ∧ w = true := by
  unfold lineE at h
  split at h
  · rename_i y hp
    by_cases hw : w = true
    · rw [if_pos hw] at h
      injection h with h1
      subst h1
      exact ⟨hp, hw⟩
    · rw [if_neg hw] at h; cases h
  · cases h
  · cases h
theorem mute_go {t : By} (h : Mute t) (r : List (By × Bool)) (i : Nat) (cfg : Option (List Int)) (out : List St) : parseGo ((t, true) :: r) i cfg out = parseGo r (i + 1) cfg out := by
  rcases h with rfl | h
  · cases cfg <;> simp [parseGo]
  · cases cfg <;> simp [parseGo, h]
theorem one_go_some (m : Nat) (c0 : List Int) : ∀ (ls : List (By × Bool)) (i : Nat) (out : List St) (c : List Int) (l' : List St), (∀ p ∈ ls, p.1.length ≤ m) → parseGo ls i (some c0) out = .ok c l' →
    c = c0 ∧ ∃ l, l' = out ++ l ∧ l'.length ≤ 20000 ∧ meantT ls = stepsT l ∧ (∀ x ∈ l, goodL x = true ∧ fitS m x) ∧ (∀ p ∈ ls, ¬ Mute p.1 ∨ p.1.head? = some 35 → p.2 = true)
  | [], i, out, c, l', hm, h => by
    have h2 : (if 20000 < out.length then Out.long else .ok c0 out) = .ok c l' := h
    by_cases hl : 20000 < out.length
    · rw [if_pos hl] at h2; cases h2
    · rw [if_neg hl] at h2
      injection h2 with h3 h4
      subst h3 h4
      exact ⟨rfl, [], by simp, by omega, rfl, (fun _ h => by cases h), (fun _ h => by cases h)⟩
  | (t, w) :: r, i, out, c, l', hm, h => by
    have hm2 : ∀ p ∈ r, p.1.length ≤ m := fun p hp => hm p (.tail _ hp)
    by_cases h35 : t.head? = some 35
    · cases w with
      | false => simp [parseGo, h35] at h
      | true =>
        rw [mute_go (.inr h35)] at h
        obtain ⟨e, l, e1, e2, e3, e4, e5⟩ := one_go_some m c0 r _ out c l' hm2 h
        refine ⟨e, l, e1, e2, ?_, e4, fun p hp hq => ?_⟩
        · rw [← e3]; simp [meantT, show Mute t from .inr h35]
        · rcases List.mem_cons.1 hp with rfl | hp
          · rfl
          · exact e5 p hp hq
    · by_cases h0 : t = []
      · have e0 : parseGo ((t, w) :: r) i (some c0) out = parseGo r (i + 1) (some c0) out := by simp [parseGo, h0]
        rw [e0] at h
        obtain ⟨e, l, e1, e2, e3, e4, e5⟩ := one_go_some m c0 r _ out c l' hm2 h
        refine ⟨e, l, e1, e2, ?_, e4, fun p hp hq => ?_⟩
        · rw [← e3]; simp [meantT, show Mute t from .inl h0]
        · rcases List.mem_cons.1 hp with rfl | hp
          · rcases hq with hq | hq
            · exact absurd (.inl h0) hq
            · exact absurd hq h35
          · exact e5 p hp hq
      · rw [parseGo, if_neg h35, if_neg h0] at h
        cases hx : lineE stepP t w with
        | error k => rw [hx] at h; cases h
        | ok x =>
          rw [hx] at h
          obtain ⟨g1, g2⟩ := lineE_ok hx
          obtain ⟨s1, s2, s3, s4, s5, s6, s7⟩ := step_sound g1
          rw [List.append_nil] at s2
          obtain ⟨e, l, e1, e2, e3, e4, e5⟩ := one_go_some m c0 r _ (out ++ [x]) c l' hm2 h
          have ht := hm (t, w) (.head _)
          simp only at ht
          refine ⟨e, x :: l, by rw [e1]; simp, e2, ?_, fun y hy => ?_, fun p hp hq => ?_⟩
          · have hmu : ¬ Mute t := fun h => h.elim h0 h35
            have : meantT ((t, w) :: r) = t ++ 10 :: meantT r := by simp [meantT, hmu]
            rw [this, e3, s2]; simp [stepsT]
          · rcases List.mem_cons.1 hy with rfl | hy
            · exact ⟨s1, s3, s4, s5, by omega, by omega⟩
            · exact e4 y hy
          · rcases List.mem_cons.1 hp with rfl | hp
            · exact g2
            · exact e5 p hp hq
theorem one_go_none (m : Nat) : ∀ (ls : List (By × Bool)) (i : Nat) (c : List Int) (l : List St), (∀ p ∈ ls, p.1.length ≤ m) → parseGo ls i none [] = .ok c l →
    c.length = 10 ∧ (∀ x ∈ c, inI x) ∧ l.length ≤ 20000 ∧ meantT ls = (joinW (cfgTell c) ++ [10]) ++ stepsT l ∧ (∀ x ∈ l, goodL x = true ∧ fitS m x) ∧ (∀ p ∈ ls, ¬ Mute p.1 ∨ p.1.head? = some 35 → p.2 = true)
  | [], i, c, l, hm, h => by cases h
  | (t, w) :: r, i, c, l, hm, h => by
    have hm2 : ∀ p ∈ r, p.1.length ≤ m := fun p hp => hm p (.tail _ hp)
    by_cases h35 : t.head? = some 35
    · cases w with
      | false => simp [parseGo, h35] at h
      | true =>
        rw [mute_go (.inr h35)] at h
        obtain ⟨e, e1, e2, e3, e4, e5⟩ := one_go_none m r _ c l hm2 h
        refine ⟨e, e1, e2, ?_, e4, fun p hp hq => ?_⟩
        · rw [← e3]; simp [meantT, show Mute t from .inr h35]
        · rcases List.mem_cons.1 hp with rfl | hp
          · rfl
          · exact e5 p hp hq
    · by_cases h0 : t = []
      · have e0 : parseGo ((t, w) :: r) i none [] = parseGo r (i + 1) none [] := by simp [parseGo, h0]
        rw [e0] at h
        obtain ⟨e, e1, e2, e3, e4, e5⟩ := one_go_none m r _ c l hm2 h
        refine ⟨e, e1, e2, ?_, e4, fun p hp hq => ?_⟩
        · rw [← e3]; simp [meantT, show Mute t from .inl h0]
        · rcases List.mem_cons.1 hp with rfl | hp
          · rcases hq with hq | hq
            · exact absurd (.inl h0) hq
            · exact absurd hq h35
          · exact e5 p hp hq
      · rw [parseGo, if_neg h35, if_neg h0] at h
        cases hx : lineE cfgP t w with
        | error k => rw [hx] at h; cases h
        | ok c0 =>
          rw [hx] at h
          obtain ⟨g1, g2⟩ := lineE_ok hx
          obtain ⟨s1, s2, s3⟩ := cfg_cod.sound _ _ _ g1
          rw [List.append_nil] at s1
          obtain ⟨rfl, l2, e1, e2, e3, e4, e5⟩ := one_go_some m c0 r _ [] c l hm2 h
          rw [List.nil_append] at e1
          subst e1
          refine ⟨s2, s3, e2, ?_, e4, fun p hp hq => ?_⟩
          · have hmu : ¬ Mute t := fun h => h.elim h0 h35
            have : meantT ((t, w) :: r) = t ++ 10 :: meantT r := by simp [meantT, hmu]
            rw [this, e3, s1]; simp
          · rcases List.mem_cons.1 hp with rfl | hp
            · exact g2
            · exact e5 p hp hq
end Go.Proofs.YtnbfebjcfhbhiaaDoor.Sc
end
