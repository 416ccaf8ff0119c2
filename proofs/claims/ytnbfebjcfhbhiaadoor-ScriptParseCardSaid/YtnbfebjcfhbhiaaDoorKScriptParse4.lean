/- texts that the proof needs, laid together by a program of this session. -/
import Derived.Test.YtnbfebjcfhbhiaaDoorKScriptParse3
section
namespace Go.Proofs.YtnbfebjcfhbhiaaDoor.P
open Go.RowKit Go.Proofs.YtnbfebjcfhbhiaaDoorW.PrintWords Go.Proofs.YtnbfebjcfhbhiaaDoorW.PrintLast Go.Proofs.YtnbfebjcfhbhiaaDoorW.PrintMore
attribute [local go_sem] max2_int min2_int max_two min_two max_three min_three max_four min_four   -- for this text's walks alone
set_option linter.unusedVariables false
set_option linter.unusedSimpArgs false

def script_line_one.l0 : Nat → Int → List (S153) → Int → Int → ByteArray → Int → Bool → Bool → Option (ByteArray × ByteArray × Int × ByteArray × Int × Bool × Bool)
  | 0, _, _, _, _, _, _, _, _ => none
  | k + 1, x5, x9, x10, x11, x1000, x1001, x1002, x1003 => if x11 < x10 then (if 0 ≤ x11 then (if x11 < (x9.length : Int) then ((script_line_rest.f x1000 x1001 x1002 x1003).bind fun bt134 => ((script_common.f k bt134.1 ((rd_T153 x9 x11).f0)).bind fun t139 => (if t139 = (((rd_T153 x9 x11).f0).size : Int) then (if bt134.2.2.2.2 = true then (script_line_one.l0 k (mx x5 t139) x9 x10 (wrap64 (x11 + 1)) bt134.2.1 bt134.2.2.1 bt134.2.2.2.1 bt134.2.2.2.2) else (some ((rd_T153 x9 x11).f0, (rd_T153 x9 x11).f1, (rd_T153 x9 x11).f2, bt134.2.1, wrap64 (bt134.2.2.1 + t139), bt134.2.2.2.1, bt134.2.2.2.2))) else (script_line_one.l0 k (mx x5 t139) x9 x10 (wrap64 (x11 + 1)) bt134.2.1 bt134.2.2.1 bt134.2.2.2.1 bt134.2.2.2.2)))) else (none)) else (none)) else ((script_line_fail.f x1000 x1001 x1002 x1003 x5).bind fun bt128 => (some ((⟨#[]⟩ : ByteArray), (⟨#[]⟩ : ByteArray), 0, bt128.1, bt128.2.1, bt128.2.2.1, bt128.2.2.2)))
def script_line_one.f (k : Nat) (s0_0 : ByteArray) (s0_1 : Int) (s0_2 : Bool) (s0_3 : Bool) (l1 : List (S153)) : Option (ByteArray × ByteArray × Int × ByteArray × Int × Bool × Bool) := script_line_one.l0 k 0 l1 (l1.length : Int) 0 s0_0 s0_1 s0_2 s0_3
set_option maxHeartbeats 8000000 in
set_option maxRecDepth 100000 in
theorem script_line_one.calls (k : Nat) (g : Nat) (s0_0 : ByteArray) (s0_1 : Int) (s0_2 : Bool) (s0_3 : Bool) (A1 : Option Addr) (c1 : Nat) (l1 : List (S153)) (r1 : ByteArray) (r2 : ByteArray) (r3 : Int) (r4 : ByteArray) (r5 : Int) (r6 : Bool) (r7 : Bool) (w0 w : World) (hI : IsS109 w0 w g s0_0 s0_1 s0_2 s0_3) (hB : Below w0.heap.size w0 w) (hr1 : ∀ W_, KeepBut w W_ g none → Kd.C k153 W_ A1 l1.length l1) (hc1 : l1.length ≤ c1) (h : script_line_one.f k s0_0 s0_1 s0_2 s0_3 l1 = some (r1, r2, r3, r4, r5, r6, r7)) :
    Calls Tryd.prog 60 #[.pointer (some ⟨g, 0, none⟩), .slice A1 l1.length c1] w fun e w' => e = .returned (.agg #[.string r1, .string r2, .int .i64 r3]) ∧ IsS109 w0 w' g r4 r5 r6 r7 ∧ Below w0.heap.size w0 w' ∧ KeepBut w w' g none := by
  have hu153 := Tryd.underlying153
  have HR1 := Aside0.mk hr1
  have HC1 := Aside0.mk hc1
  clear hr1 hc1
  have HI0 := Aside0.mk hI
  have HK := Aside0.mk (KeepBut.refl w g none)
  have HL := Aside0.mk hB.size
  clear hI
  have HW0 := Aside0.mk hB.size
  have HB := Aside0.mk hB
  clear hB
  have H : (script_line_one.l0 k 0 l1 (l1.length : Int) 0 s0_0 s0_1 s0_2 s0_3) = some (r1, r2, r3, r4, r5, r6, r7) := h
  clear h
  have H' := Aside0.mk H
  clear H
  go_enter Tryd.func60, Tryd.ntmps60
  go_wp2_with (first | ((with_reducible refine gate_dst (N := 4) rfl ?_); refine box_event ?hg (N := 4) ?hd (cs := #[.string (⟨#[]⟩ : ByteArray), .string (⟨#[]⟩ : ByteArray), .int .i64 0]) (t := 153) ?hr ?_; (case hd => rfl); (case hg => rfl); (case hr => first | (go_simp; done) | (go_simp; rfl)); intro gb127 hg w3 hbox hb; have n0_ := Aside0.mk (IsS109.below (by repeat (first | (with_reducible first | exact HI0.out | apply IsS109.alloc | apply IsS109.drewN | apply IsS109.drew | apply IsS109.set_0 | apply IsS109.set_1 | apply IsS109.set_2 | apply IsS109.set_3) | exact HI0.out)) hb); have n1_ := Aside0.mk (KeepBut.trans (by repeat (first | (with_reducible first | exact HK.out | apply KeepBut.set_ | apply keep_drewN | apply keep_drew | apply keep_alloc) | exact HK.out)) (KeepBut.of_below hb g none) (.inl rfl)); have n2_ := Aside0.mk (below_step (by repeat (first | (with_reducible first | exact HB.out | apply below_alloc | apply pw_below_drewN | apply below_drew1 | refine below_set ?_ (IsS109.ge HI0.out)) | exact HB.out)) hb); have n3_ := Aside0.mk (hbox); have n4_ := Aside0.mk ((by rw [hg]; exact (keep_size (w := w) (g := g) (row := none) (by repeat (first | (with_reducible first | exact HK.out | apply KeepBut.set_ | apply keep_drewN | apply keep_drew | apply keep_alloc) | exact HK.out))) : w.heap.size ≤ gb127)); have n5_ := Aside0.mk ((Nat.le_trans HW0.out (by rw [hg]; exact (keep_size (w := w) (g := g) (row := none) (by repeat (first | (with_reducible first | exact HK.out | apply KeepBut.set_ | apply keep_drewN | apply keep_drew | apply keep_alloc) | exact HK.out))) : w.heap.size ≤ gb127) : w0.heap.size ≤ gb127)); have n6_ := Aside0.mk ((by rw [hg]; exact Nat.ne_of_lt (IsS109.lt (show IsS109 w0 _ g s0_0 s0_1 s0_2 s0_3 from by repeat (first | (with_reducible first | exact HI0.out | apply IsS109.alloc | apply IsS109.drewN | apply IsS109.drew | apply IsS109.set_0 | apply IsS109.set_1 | apply IsS109.set_2 | apply IsS109.set_3) | exact HI0.out))) : g ≠ gb127)); have n7_ := Aside0.mk ((by rw [hg]; exact Nat.ne_of_gt (IsS109.lt (show IsS109 w0 _ g s0_0 s0_1 s0_2 s0_3 from by repeat (first | (with_reducible first | exact HI0.out | apply IsS109.alloc | apply IsS109.drewN | apply IsS109.drew | apply IsS109.set_0 | apply IsS109.set_1 | apply IsS109.set_2 | apply IsS109.set_3) | exact HI0.out))) : gb127 ≠ g)); clear HI0; clear HK; clear HB; have HI0 := n0_; have HK := n1_; have HB := n2_; have BK127 := n3_; have GW127 := n4_; have GE127 := n5_; have NB0_127 := n6_; have NB127_0 := n7_; clear n0_ n1_ n2_ n3_ n4_ n5_ n6_ n7_; clear hb hbox hg))
  go_loopg [5, 11] k (fun kq v5 v11 w' => ∃ (x5_1 : Int) (x11_1 : Int) (x1000_1 : ByteArray) (x1001_1 : Int) (x1002_1 : Bool) (x1003_1 : Bool) (x128000_1 : ByteArray) (x128001_1 : ByteArray) (x128002_1 : Int), v5 = .int .i64 x5_1 ∧ v11 = .int .i64 x11_1 ∧ Aside0 (script_line_one.l0 kq x5_1 l1 (l1.length : Int) x11_1 x1000_1 x1001_1 x1002_1 x1003_1 = some (r1, r2, r3, r4, r5, r6, r7)) ∧ Aside0 (kq ≤ k) ∧ Aside0 (w'.heap[gb127]? = some (.cells #[.string x128000_1, .string x128001_1, .int .i64 x128002_1] 153 (0, 0))) ∧ Aside0 (IsS109 w0 w' g x1000_1 x1001_1 x1002_1 x1003_1) ∧ Aside0 (KeepBut w w' g none) ∧ Aside0 (Below w0.heap.size w0 w'))
  case atStart => exact ⟨(0), (0), (s0_0), (s0_1), (s0_2), (s0_3), ((⟨#[]⟩ : ByteArray)), ((⟨#[]⟩ : ByteArray)), (0), (by first | rfl | (simp; done) | (simp [*]; done)), (by first | rfl | (simp; done) | (simp [*]; done)), H', ⟨Nat.le_refl _⟩, ⟨by (with_reducible repeat (first | refine blk_drewN ?_ _ | refine blk_drew ?_ | refine blk_alloc ?_ _)); exact BK127.out⟩, ⟨by repeat (first | (with_reducible first | exact HI0.out | apply IsS109.alloc | apply IsS109.drewN | apply IsS109.drew | apply IsS109.set_0 | apply IsS109.set_1 | apply IsS109.set_2 | apply IsS109.set_3 | refine IsS109.far ?_ NB0_127.out _) | exact HI0.out)⟩, ⟨by repeat (first | (with_reducible first | exact HK.out | apply KeepBut.set_ | apply keep_drewN | apply keep_drew | apply keep_alloc | refine keep_far ?_ GW127.out _) | exact HK.out)⟩, ⟨by repeat (first | (with_reducible first | exact HB.out | apply below_alloc | apply pw_below_drewN | apply below_drew1 | refine below_set ?_ (IsS109.ge HI0.out) | refine below_set ?_ GE127.out) | exact HB.out)⟩⟩
  case round =>
    clear H'
    try clear c1
    try clear p2
    obtain ⟨x5_1, x11_1, x1000_1, x1001_1, x1002_1, x1003_1, x128000_1, x128001_1, x128002_1, rfl, rfl, HA, HK1, BK127, HI0, HK, HB⟩ := hrel
    cases gk with
    | zero => exact absurd HA.out (by simp [script_line_one.l0])
    | succ k1 =>
      have H := HA.out
      clear HA
      simp only [script_line_one.l0] at H
      by_cases c4 : x11_1 < (l1.length : Int)
      · rw [if_pos c4] at H
        have c4b0 : decide (x11_1 < (l1.length : Int)) = true := decide_eq_true c4
        clear c4
        by_cases c5 : 0 ≤ x11_1
        · rw [if_pos c5] at H
          have c5b0 : decide (0 ≤ x11_1) = true := decide_eq_true c5
          clear c5
          by_cases c6 : x11_1 < (l1.length : Int)
          · rw [if_pos c6] at H
            have c6b0 : decide (x11_1 < (l1.length : Int)) = true := decide_eq_true c6
            clear c6
            replace H := Option.bind_eq_some_iff.mp H
            obtain ⟨⟨t134, t135, t136, t137, t138⟩, A70, H⟩ := H
            replace H : ((script_common.f k1 t134 ((rd_T153 l1 x11_1).f0)).bind fun t139 => (if t139 = (((rd_T153 l1 x11_1).f0).size : Int) then (if t138 = true then (script_line_one.l0 k1 (mx x5_1 t139) l1 (l1.length : Int) (wrap64 (x11_1 + 1)) t135 t136 t137 t138) else (some ((rd_T153 l1 x11_1).f0, (rd_T153 l1 x11_1).f1, (rd_T153 l1 x11_1).f2, t135, wrap64 (t136 + t139), t137, t138))) else (script_line_one.l0 k1 (mx x5_1 t139) l1 (l1.length : Int) (wrap64 (x11_1 + 1)) t135 t136 t137 t138))) = some (r1, r2, r3, r4, r5, r6, r7) := H
            have A7 := Aside0.mk A70
            clear A70
            replace H := Option.bind_eq_some_iff.mp H
            obtain ⟨t139, A80, H⟩ := H
            replace H : (if t139 = (((rd_T153 l1 x11_1).f0).size : Int) then (if t138 = true then (script_line_one.l0 k1 (mx x5_1 t139) l1 (l1.length : Int) (wrap64 (x11_1 + 1)) t135 t136 t137 t138) else (some ((rd_T153 l1 x11_1).f0, (rd_T153 l1 x11_1).f1, (rd_T153 l1 x11_1).f2, t135, wrap64 (t136 + t139), t137, t138))) else (script_line_one.l0 k1 (mx x5_1 t139) l1 (l1.length : Int) (wrap64 (x11_1 + 1)) t135 t136 t137 t138)) = some (r1, r2, r3, r4, r5, r6, r7) := H
            have A8 := Aside0.mk A80
            clear A80
            by_cases c9 : t139 = (((rd_T153 l1 x11_1).f0).size : Int)
            · rw [if_pos c9] at H
              have c9b0 : (t139 == (((rd_T153 l1 x11_1).f0).size : Int)) = true := beq_iff_eq.mpr c9
              have c9b1 : (t139 != (((rd_T153 l1 x11_1).f0).size : Int)) = false := bne_eq_false_iff_eq.mpr c9
              clear c9
              by_cases c10 : t138 = true
              · subst c10
                have H1 : (script_line_one.l0 k1 (mx x5_1 t139) l1 (l1.length : Int) (wrap64 (x11_1 + 1)) t135 t136 t137 true) = some (r1, r2, r3, r4, r5, r6, r7) := by rw [if_pos rfl] at H; exact H
                clear H
                have H := H1
                clear H1
                obtain ⟨ji11, hji11⟩ : ∃ j_ : Int, (mx x5_1 t139) = j_ := ⟨_, rfl⟩
                replace H : (script_line_one.l0 k1 ji11 l1 (l1.length : Int) (wrap64 (x11_1 + 1)) t135 t136 t137 true) = some (r1, r2, r3, r4, r5, r6, r7) := by first | (rw [hji11] at H; exact H) | (simp only [hji11] at H ⊢; exact H)
                (try rw [hji11] at A7)
                (try rw [hji11] at A8)
                have hji11_ : (if x5_1 < t139 then t139 else x5_1) = ji11 := hji11
                have H' := Aside0.mk H
                clear H
                have p132 : 0 ≤ (x11_1 : Int) := of_decide_eq_true (by first | (with_reducible assumption) | assumption)
                have q132 : x11_1 < (l1.length : Int) := of_decide_eq_true (by first | (with_reducible assumption) | assumption)
                obtain ⟨ad132, e132, hx132_0, hx132_1, hx132_2⟩ := at_T153 (Kd.C_foot_now HR1.out HK.out) x11_1 p132 q132
                cases e132
                replace p132 := eq_true p132
                replace q132 := eq_true q132
                try go_wp2_with (first | ((with_reducible refine gate_dst (N := 7) rfl ?_); refine box_event ?hg (N := 7) ?hd (cs := #[.string (⟨#[]⟩ : ByteArray), .string (⟨#[]⟩ : ByteArray), .int .i64 0]) (t := 153) ?hr ?_; (case hd => rfl); (case hg => rfl); (case hr => first | (go_simp; done) | (go_simp; rfl)); intro gb133 hg w12 hbox hb; have n0_ := Aside0.mk (blk_below (g := gb127) (o := .cells #[.string x128000_1, .string x128001_1, .int .i64 x128002_1] 153 (0, 0)) (by (with_reducible repeat (first | refine blk_drewN ?_ _ | refine blk_drew ?_ | refine blk_alloc ?_ _)); exact BK127.out) hb); have n1_ := Aside0.mk (IsS109.below (by repeat (first | (with_reducible first | exact HI0.out | apply IsS109.alloc | apply IsS109.drewN | apply IsS109.drew | apply IsS109.set_0 | apply IsS109.set_1 | apply IsS109.set_2 | apply IsS109.set_3 | refine IsS109.far ?_ NB0_127.out _) | exact HI0.out)) hb); have n2_ := Aside0.mk (KeepBut.trans (by repeat (first | (with_reducible first | exact HK.out | apply KeepBut.set_ | apply keep_drewN | apply keep_drew | apply keep_alloc | refine keep_far ?_ GW127.out _) | exact HK.out)) (KeepBut.of_below hb g none) (.inl rfl)); have n3_ := Aside0.mk (below_step (by repeat (first | (with_reducible first | exact HB.out | apply below_alloc | apply pw_below_drewN | apply below_drew1 | refine below_set ?_ (IsS109.ge HI0.out) | refine below_set ?_ GE127.out) | exact HB.out)) hb); have n4_ := Aside0.mk (hbox); have n5_ := Aside0.mk ((by rw [hg]; exact (keep_size (w := w) (g := g) (row := none) (by repeat (first | (with_reducible first | exact HK.out | apply KeepBut.set_ | apply keep_drewN | apply keep_drew | apply keep_alloc | refine keep_far ?_ GW127.out _) | exact HK.out))) : w.heap.size ≤ gb133)); have n6_ := Aside0.mk ((Nat.le_trans HW0.out (by rw [hg]; exact (keep_size (w := w) (g := g) (row := none) (by repeat (first | (with_reducible first | exact HK.out | apply KeepBut.set_ | apply keep_drewN | apply keep_drew | apply keep_alloc | refine keep_far ?_ GW127.out _) | exact HK.out))) : w.heap.size ≤ gb133) : w0.heap.size ≤ gb133)); have n7_ := Aside0.mk ((by rw [hg]; exact Nat.ne_of_lt (blk_lt (g := gb127) (o := .cells #[.string x128000_1, .string x128001_1, .int .i64 x128002_1] 153 (0, 0)) (by (with_reducible repeat (first | refine blk_drewN ?_ _ | refine blk_drew ?_ | refine blk_alloc ?_ _)); exact BK127.out)) : gb127 ≠ gb133)); have n8_ := Aside0.mk ((by rw [hg]; exact Nat.ne_of_gt (blk_lt (g := gb127) (o := .cells #[.string x128000_1, .string x128001_1, .int .i64 x128002_1] 153 (0, 0)) (by (with_reducible repeat (first | refine blk_drewN ?_ _ | refine blk_drew ?_ | refine blk_alloc ?_ _)); exact BK127.out)) : gb133 ≠ gb127)); have n9_ := Aside0.mk ((by rw [hg]; exact Nat.ne_of_lt (IsS109.lt (show IsS109 w0 _ g x1000_1 x1001_1 x1002_1 x1003_1 from by repeat (first | (with_reducible first | exact HI0.out | apply IsS109.alloc | apply IsS109.drewN | apply IsS109.drew | apply IsS109.set_0 | apply IsS109.set_1 | apply IsS109.set_2 | apply IsS109.set_3 | refine IsS109.far ?_ NB0_127.out _) | exact HI0.out))) : g ≠ gb133)); have n10_ := Aside0.mk ((by rw [hg]; exact Nat.ne_of_gt (IsS109.lt (show IsS109 w0 _ g x1000_1 x1001_1 x1002_1 x1003_1 from by repeat (first | (with_reducible first | exact HI0.out | apply IsS109.alloc | apply IsS109.drewN | apply IsS109.drew | apply IsS109.set_0 | apply IsS109.set_1 | apply IsS109.set_2 | apply IsS109.set_3 | refine IsS109.far ?_ NB0_127.out _) | exact HI0.out))) : gb133 ≠ g)); clear BK127; clear HI0; clear HK; clear HB; have BK127 := n0_; have HI0 := n1_; have HK := n2_; have HB := n3_; have BK133 := n4_; have GW133 := n5_; have GE133 := n6_; have NB127_133 := n7_; have NB133_127 := n8_; have NB0_133 := n9_; have NB133_0 := n10_; clear n0_ n1_ n2_ n3_ n4_ n5_ n6_ n7_ n8_ n9_ n10_; clear hb hbox hg; have hnb13 := NB133_127.out; have hnc13 := NB127_133.out; have hnb14 := NB133_0.out; have hnc14 := NB0_133.out; have hcz15_0 : w12.cell? ⟨gb133, 0, none⟩ = some (.string (⟨#[]⟩ : ByteArray)) := (blk_cell BK133.out 0).trans rfl; have hcz15_1 : w12.cell? ⟨gb133, 1, none⟩ = some (.string (⟨#[]⟩ : ByteArray)) := (blk_cell BK133.out 1).trans rfl; have hcz15_2 : w12.cell? ⟨gb133, 2, none⟩ = some (.int .i64 0) := (blk_cell BK133.out 2).trans rfl; have hfz15_0 := blk_frozen BK133.out 0; have hfz15_1 := blk_frozen BK133.out 1; have hfz15_2 := blk_frozen BK133.out 2))
                have n0_ : Aside0 ((((w12.setCell ⟨gb133, 0, none⟩ (.string ((rd_T153 l1 x11_1).f0))).setCell ⟨gb133, 1, none⟩ (.string ((rd_T153 l1 x11_1).f1))).setCell ⟨gb133, 2, none⟩ (.int .i64 ((rd_T153 l1 x11_1).f2))).heap[gb127]? = some (.cells #[.string x128000_1, .string x128001_1, .int .i64 x128002_1] 153 (0, 0))) := ⟨by (with_reducible repeat (first | refine blk_drewN ?_ _ | refine blk_drew ?_ | refine blk_alloc ?_ _)); refine blk_far ?_ NB127_133.out _; (with_reducible repeat (first | refine blk_drewN ?_ _ | refine blk_drew ?_ | refine blk_alloc ?_ _)); refine blk_far ?_ NB127_133.out _; (with_reducible repeat (first | refine blk_drewN ?_ _ | refine blk_drew ?_ | refine blk_alloc ?_ _)); refine blk_far ?_ NB127_133.out _; (with_reducible repeat (first | refine blk_drewN ?_ _ | refine blk_drew ?_ | refine blk_alloc ?_ _)); exact BK127.out⟩
                have n1_ : Aside0 ((((w12.setCell ⟨gb133, 0, none⟩ (.string ((rd_T153 l1 x11_1).f0))).setCell ⟨gb133, 1, none⟩ (.string ((rd_T153 l1 x11_1).f1))).setCell ⟨gb133, 2, none⟩ (.int .i64 ((rd_T153 l1 x11_1).f2))).heap[gb133]? = some (.cells #[.string ((rd_T153 l1 x11_1).f0), .string ((rd_T153 l1 x11_1).f1), .int .i64 ((rd_T153 l1 x11_1).f2)] 153 (0, 0))) := ⟨by (with_reducible repeat (first | refine blk_drewN ?_ _ | refine blk_drew ?_ | refine blk_alloc ?_ _)); refine blk_put (cs := #[.string ((rd_T153 l1 x11_1).f0), .string ((rd_T153 l1 x11_1).f1), .int .i64 0]) ?_ 2 _ rfl; (with_reducible repeat (first | refine blk_drewN ?_ _ | refine blk_drew ?_ | refine blk_alloc ?_ _)); refine blk_put (cs := #[.string ((rd_T153 l1 x11_1).f0), .string (⟨#[]⟩ : ByteArray), .int .i64 0]) ?_ 1 _ rfl; (with_reducible repeat (first | refine blk_drewN ?_ _ | refine blk_drew ?_ | refine blk_alloc ?_ _)); refine blk_put (cs := #[.string (⟨#[]⟩ : ByteArray), .string (⟨#[]⟩ : ByteArray), .int .i64 0]) ?_ 0 _ rfl; (with_reducible repeat (first | refine blk_drewN ?_ _ | refine blk_drew ?_ | refine blk_alloc ?_ _)); exact BK133.out⟩
                have n2_ : Aside0 (IsS109 w0 (((w12.setCell ⟨gb133, 0, none⟩ (.string ((rd_T153 l1 x11_1).f0))).setCell ⟨gb133, 1, none⟩ (.string ((rd_T153 l1 x11_1).f1))).setCell ⟨gb133, 2, none⟩ (.int .i64 ((rd_T153 l1 x11_1).f2))) g x1000_1 x1001_1 x1002_1 x1003_1) := ⟨by repeat (first | (with_reducible first | exact HI0.out | apply IsS109.alloc | apply IsS109.drewN | apply IsS109.drew | apply IsS109.set_0 | apply IsS109.set_1 | apply IsS109.set_2 | apply IsS109.set_3 | refine IsS109.far ?_ NB0_127.out _ | refine IsS109.far ?_ NB0_133.out _) | exact HI0.out)⟩
                have n3_ : Aside0 (KeepBut w (((w12.setCell ⟨gb133, 0, none⟩ (.string ((rd_T153 l1 x11_1).f0))).setCell ⟨gb133, 1, none⟩ (.string ((rd_T153 l1 x11_1).f1))).setCell ⟨gb133, 2, none⟩ (.int .i64 ((rd_T153 l1 x11_1).f2))) g none) := ⟨by repeat (first | (with_reducible first | exact HK.out | apply KeepBut.set_ | apply keep_drewN | apply keep_drew | apply keep_alloc | refine keep_far ?_ GW127.out _ | refine keep_far ?_ GW133.out _) | exact HK.out)⟩
                have n4_ : Aside0 (Below w0.heap.size w0 (((w12.setCell ⟨gb133, 0, none⟩ (.string ((rd_T153 l1 x11_1).f0))).setCell ⟨gb133, 1, none⟩ (.string ((rd_T153 l1 x11_1).f1))).setCell ⟨gb133, 2, none⟩ (.int .i64 ((rd_T153 l1 x11_1).f2)))) := ⟨by repeat (first | (with_reducible first | exact HB.out | apply below_alloc | apply pw_below_drewN | apply below_drew1 | refine below_set ?_ (IsS109.ge HI0.out) | refine below_set ?_ GE127.out | refine below_set ?_ GE133.out) | exact HB.out)⟩
                (try clear BK127)
                (try clear BK133)
                (try clear HI0)
                (try clear HK)
                (try clear HB)
                generalize (((w12.setCell ⟨gb133, 0, none⟩ (.string ((rd_T153 l1 x11_1).f0))).setCell ⟨gb133, 1, none⟩ (.string ((rd_T153 l1 x11_1).f1))).setCell ⟨gb133, 2, none⟩ (.int .i64 ((rd_T153 l1 x11_1).f2))) = w16 at n0_ n1_ n2_ n3_ n4_ ⊢
                have BK127 := n0_
                have BK133 := n1_
                have HI0 := n2_
                have HK := n3_
                have HB := n4_
                clear n0_ n1_ n2_ n3_ n4_
                have n0_ := Aside0.mk (blk_drew BK127.out)
                have n1_ := Aside0.mk (blk_drew BK133.out)
                have n2_ := Aside0.mk (IsS109.drew HI0.out)
                have n3_ := Aside0.mk (keep_drew HK.out)
                have n4_ := Aside0.mk (below_drew1 HB.out)
                clear BK127
                clear BK133
                clear HI0
                clear HK
                clear HB
                have BK127 := n0_
                have BK133 := n1_
                have HI0 := n2_
                have HK := n3_
                have HB := n4_
                clear n0_ n1_ n2_ n3_ n4_
                refine start_ (n := 6) (S := fun w' => w'.cell? ⟨gb133, 0, none⟩ = some (.string ((rd_T153 l1 x11_1).f0)) ∧ w'.cell? ⟨gb133, 1, none⟩ = some (.string ((rd_T153 l1 x11_1).f1)) ∧ w'.cell? ⟨gb133, 2, none⟩ = some (.int .i64 ((rd_T153 l1 x11_1).f2))) (ds := []) #[false, false, false, false, false, false] (by kernel_rfl) rfl rfl ⟨(blk_cell BK133.out 0).trans rfl, (blk_cell BK133.out 1).trans rfl, (blk_cell BK133.out 2).trans rfl⟩ (fun hHeld => ?_)
                generalize w16.drew = w17 at BK127 BK133 HI0 HK HB hHeld ⊢
                refine pure_ (i := 0) (N := some 15) (v := ?_) (a' := ?_) #[true, false, false, false, false, false] rfl rfl (by kernel_rfl) (fun _ _ _ h => h) (Or.inl ⟨by rfl, ?_⟩) ?_ ?_
                rotate_left
                · intro w'
                  go_simp
                  with_reducible rfl
                rotate_left
                · simp only [Act.put, List.setIfInBounds_toArray, List.set_cons_zero, List.set_cons_succ, i64_w, i32_w]
                  rfl
                refine pure_ (i := 2) (N := some 17) (v := ?_) (a' := ?_) #[true, false, true, false, false, false] rfl rfl (by kernel_rfl) (fun _ _ _ h => h) (Or.inl ⟨by rfl, ?_⟩) ?_ ?_
                rotate_left
                · intro w'
                  go_simp
                  with_reducible rfl
                rotate_left
                · simp only [Act.put, List.setIfInBounds_toArray, List.set_cons_zero, List.set_cons_succ, i64_w, i32_w]
                  rfl
                refine take_ (i := 3) (N := some 18) (v := ?_) (a' := ?_) #[true, false, true, true, false, false] rfl rfl (by kernel_rfl) (fun _ _ _ h => h) (Or.inl ⟨by rfl, ?_⟩) hHeld ?_ ?_
                rotate_left
                · rintro w' ⟨s0, s1, s2⟩
                  go_simp
                  with_reducible rfl
                rotate_left
                · simp only [Act.put, List.setIfInBounds_toArray, List.set_cons_zero, List.set_cons_succ, i64_w, i32_w]
                  rfl
                refine one_ (i := 1) (N := some 16) #[true, true, true, true, false, false] rfl rfl (by kernel_rfl) (by decide) (fun K hK => ?_)
                refine goes_ Tryd.func85 (by kernel_rfl) rfl #[.pointer (some ⟨g, 0, none⟩)] (by rfl) rfl rfl (by (try simp only [List.map_toArray, List.map_cons, List.map_nil]); first | done | rfl | (simp only [List.length_drop, List.length_take]; rfl)) ?_
                with_reducible refine (script_line_rest.calls g x1000_1 x1001_1 x1002_1 x1003_1 t134 t135 t136 t137 true w0 _ ?side1 ?side2 A7.out).mono ?_
                (case side1 => repeat (first | (with_reducible first | exact HI0.out | apply IsS109.alloc | apply IsS109.drewN | apply IsS109.drew | apply IsS109.set_0 | apply IsS109.set_1 | apply IsS109.set_2 | apply IsS109.set_3 | refine IsS109.far ?_ NB0_127.out _ | refine IsS109.far ?_ NB0_133.out _) | exact HI0.out))
                (case side2 => repeat (first | (with_reducible first | exact HB.out | apply below_alloc | apply pw_below_drewN | apply below_drew1 | refine below_set ?_ (IsS109.ge HI0.out) | refine below_set ?_ GE127.out | refine below_set ?_ GE133.out) | exact HB.out))
                rintro e w18 ⟨rfl, hi, hb, hk⟩
                refine ⟨_, rfl, ?_⟩
                have n0_ := Aside0.mk (KeepBut.blk hk (g' := gb127) (o := .cells #[.string x128000_1, .string x128001_1, .int .i64 x128002_1] 153 (0, 0)) (by (with_reducible repeat (first | refine blk_drewN ?_ _ | refine blk_drew ?_ | refine blk_alloc ?_ _)); exact BK127.out) NB127_0.out (by simp))
                have n1_ := Aside0.mk (KeepBut.blk hk (g' := gb133) (o := .cells #[.string ((rd_T153 l1 x11_1).f0), .string ((rd_T153 l1 x11_1).f1), .int .i64 ((rd_T153 l1 x11_1).f2)] 153 (0, 0)) (by (with_reducible repeat (first | refine blk_drewN ?_ _ | refine blk_drew ?_ | refine blk_alloc ?_ _)); exact BK133.out) NB133_0.out (by simp))
                have n2_ := Aside0.mk (KeepBut.trans (by repeat (first | (with_reducible first | exact HK.out | apply KeepBut.set_ | apply keep_drewN | apply keep_drew | apply keep_alloc | refine keep_far ?_ GW127.out _ | refine keep_far ?_ GW133.out _) | exact HK.out)) hk (.inl rfl))
                have n3_ := Aside0.mk (hb)
                have n4_ := Aside0.mk (hi)
                clear BK127
                clear BK133
                clear HK
                clear HB
                clear HI0
                have BK127 := n0_
                have BK133 := n1_
                have HK := n2_
                have HB := n3_
                have HI0 := n4_
                clear n0_ n1_ n2_ n3_ n4_
                (try clear hb)
                (try clear hb2)
                (try clear hk)
                (try clear hi)
                refine hK.out _ _ ⟨(blk_cell BK133.out 0).trans rfl, (blk_cell BK133.out 1).trans rfl, (blk_cell BK133.out 2).trans rfl⟩ (fun hHeld => ?_)
                clear hK K
                refine norm_ (a' := ?_) ?_ ?_
                rotate_left
                · show Act.put _ (some 16) _ = _
                  simp only [Act.put, List.setIfInBounds_toArray, List.set_cons_zero, List.set_cons_succ, i64_w, i32_w]
                  rfl
                refine one_ (i := 4) (N := some 19) #[true, true, true, true, true, false] rfl rfl (by kernel_rfl) (by decide) (fun K hK => ?_)
                refine goes_ Tryd.func84 (by kernel_rfl) rfl #[.string t134, .string ((rd_T153 l1 x11_1).f0)] (by rfl) rfl rfl (by (try simp only [List.map_toArray, List.map_cons, List.map_nil]); first | done | rfl | (simp only [List.length_drop, List.length_take]; rfl)) ?_
                with_reducible refine (script_common.calls k1 t134 ((rd_T153 l1 x11_1).f0) t139 _ A8.out).mono ?_
                rintro e w19 ⟨rfl, hb⟩
                refine ⟨_, rfl, ?_⟩
                have n0_ := Aside0.mk (blk_below (g := gb127) (o := .cells #[.string x128000_1, .string x128001_1, .int .i64 x128002_1] 153 (0, 0)) (by (with_reducible repeat (first | refine blk_drewN ?_ _ | refine blk_drew ?_ | refine blk_alloc ?_ _)); exact BK127.out) hb)
                have n1_ := Aside0.mk (IsS109.below (by repeat (first | (with_reducible first | exact HI0.out | apply IsS109.alloc | apply IsS109.drewN | apply IsS109.drew | apply IsS109.set_0 | apply IsS109.set_1 | apply IsS109.set_2 | apply IsS109.set_3 | refine IsS109.far ?_ NB0_127.out _ | refine IsS109.far ?_ NB0_133.out _) | exact HI0.out)) hb)
                have n2_ := Aside0.mk (blk_below (g := gb133) (o := .cells #[.string ((rd_T153 l1 x11_1).f0), .string ((rd_T153 l1 x11_1).f1), .int .i64 ((rd_T153 l1 x11_1).f2)] 153 (0, 0)) (by (with_reducible repeat (first | refine blk_drewN ?_ _ | refine blk_drew ?_ | refine blk_alloc ?_ _)); exact BK133.out) hb)
                have n3_ := Aside0.mk (KeepBut.trans (by repeat (first | (with_reducible first | exact HK.out | apply KeepBut.set_ | apply keep_drewN | apply keep_drew | apply keep_alloc | refine keep_far ?_ GW127.out _ | refine keep_far ?_ GW133.out _) | exact HK.out)) (KeepBut.of_below hb g none) (.inl rfl))
                have n4_ := Aside0.mk (below_step (by repeat (first | (with_reducible first | exact HB.out | apply below_alloc | apply pw_below_drewN | apply below_drew1 | refine below_set ?_ (IsS109.ge HI0.out) | refine below_set ?_ GE127.out | refine below_set ?_ GE133.out) | exact HB.out)) hb)
                clear BK127
                clear HI0
                clear BK133
                clear HK
                clear HB
                have BK127 := n0_
                have HI0 := n1_
                have BK133 := n2_
                have HK := n3_
                have HB := n4_
                clear n0_ n1_ n2_ n3_ n4_
                (try clear hb)
                (try clear hb2)
                (try clear hk)
                (try clear hi)
                refine hK.out _ _ ⟨(blk_cell BK133.out 0).trans rfl, (blk_cell BK133.out 1).trans rfl, (blk_cell BK133.out 2).trans rfl⟩ (fun hHeld => ?_)
                clear hK K
                refine norm_ (a' := ?_) ?_ ?_
                rotate_left
                · show Act.put _ (some 19) _ = _
                  simp only [Act.put, List.setIfInBounds_toArray, List.set_cons_zero, List.set_cons_succ, i64_w, i32_w]
                  rfl
                refine pure_ (i := 5) (N := some 8) (v := ?_) (a' := ?_) #[true, true, true, true, true, true] rfl rfl (by kernel_rfl) (fun _ _ _ h => h) (Or.inl ⟨by rfl, ?_⟩) ?_ ?_
                rotate_left
                · intro w'
                  go_simp
                  with_reducible rfl
                rotate_left
                · simp only [Act.put, List.setIfInBounds_toArray, List.set_cons_zero, List.set_cons_succ, i64_w, i32_w]
                  rfl
                refine done_ (by kernel_rfl) ?_
                have hcz20_0 : w19.cell? ⟨gb133, 0, none⟩ = some (.string ((rd_T153 l1 x11_1).f0)) := (blk_cell BK133.out 0).trans rfl
                have hcz20_1 : w19.cell? ⟨gb133, 1, none⟩ = some (.string ((rd_T153 l1 x11_1).f1)) := (blk_cell BK133.out 1).trans rfl
                have hcz20_2 : w19.cell? ⟨gb133, 2, none⟩ = some (.int .i64 ((rd_T153 l1 x11_1).f2)) := (blk_cell BK133.out 2).trans rfl
                have hfz20_0 := blk_frozen BK133.out 0
                have hfz20_1 := blk_frozen BK133.out 1
                have hfz20_2 := blk_frozen BK133.out 2
                obtain ⟨HGz21, hgz21⟩ := HI0.out
                have hcz21_0 := cellS109_0 HGz21
                have hcz21_1 := cellS109_1 HGz21
                have hcz21_2 := cellS109_2 HGz21
                have hcz21_3 := cellS109_3 HGz21
                have hfz21_0 := blk_frozen HGz21 0
                have hfz21_1 := blk_frozen HGz21 1
                have hfz21_2 := blk_frozen HGz21 2
                have hfz21_3 := blk_frozen HGz21 3
                clear HGz21 hgz21
                try go_wp2
                go_roundg k1
                case measure => have := HK1.out; omega
                case rel => exact ⟨(ji11), (wrap64 (x11_1 + 1)), (t135), (t136), (t137), (true), (x128000_1), (x128001_1), (x128002_1), (by first | rfl | (simp; done) | (simp only [← hji11] <;> (first | rfl | simp)) | (simp [*]; done)), (by first | rfl | (simp; done) | (simp [*]; done)), H', ⟨by have := HK1.out; omega⟩, ⟨by (with_reducible repeat (first | refine blk_drewN ?_ _ | refine blk_drew ?_ | refine blk_alloc ?_ _)); exact BK127.out⟩, ⟨by repeat (first | (with_reducible first | exact HI0.out | apply IsS109.alloc | apply IsS109.drewN | apply IsS109.drew | apply IsS109.set_0 | apply IsS109.set_1 | apply IsS109.set_2 | apply IsS109.set_3 | refine IsS109.far ?_ NB0_127.out _ | refine IsS109.far ?_ NB0_133.out _) | exact HI0.out)⟩, ⟨by repeat (first | (with_reducible first | exact HK.out | apply KeepBut.set_ | apply keep_drewN | apply keep_drew | apply keep_alloc | refine keep_far ?_ GW127.out _ | refine keep_far ?_ GW133.out _) | exact HK.out)⟩, ⟨by repeat (first | (with_reducible first | exact HB.out | apply below_alloc | apply pw_below_drewN | apply below_drew1 | refine below_set ?_ (IsS109.ge HI0.out) | refine below_set ?_ GE127.out | refine below_set ?_ GE133.out) | exact HB.out)⟩⟩
              · replace c10 := Bool.eq_false_iff.mpr c10
                subst c10
                have H1 : (some ((rd_T153 l1 x11_1).f0, (rd_T153 l1 x11_1).f1, (rd_T153 l1 x11_1).f2, t135, wrap64 (t136 + t139), t137, false)) = some (r1, r2, r3, r4, r5, r6, r7) := by rw [if_neg (show ¬ (false = true) by decide)] at H; exact H
                clear H
                have H := H1
                clear H1
                simp only [Option.some.injEq, Prod.mk.injEq] at H
                obtain ⟨rfl, rfl, rfl, rfl, rfl, rfl, rfl⟩ := H
                have p132 : 0 ≤ (x11_1 : Int) := of_decide_eq_true (by first | (with_reducible assumption) | assumption)
                have q132 : x11_1 < (l1.length : Int) := of_decide_eq_true (by first | (with_reducible assumption) | assumption)
                obtain ⟨ad132, e132, hx132_0, hx132_1, hx132_2⟩ := at_T153 (Kd.C_foot_now HR1.out HK.out) x11_1 p132 q132
                cases e132
                replace p132 := eq_true p132
                replace q132 := eq_true q132
                try go_wp2_with (first | ((with_reducible refine gate_dst (N := 7) rfl ?_); refine box_event ?hg (N := 7) ?hd (cs := #[.string (⟨#[]⟩ : ByteArray), .string (⟨#[]⟩ : ByteArray), .int .i64 0]) (t := 153) ?hr ?_; (case hd => rfl); (case hg => rfl); (case hr => first | (go_simp; done) | (go_simp; rfl)); intro gb133 hg w22 hbox hb; have n0_ := Aside0.mk (blk_below (g := gb127) (o := .cells #[.string x128000_1, .string x128001_1, .int .i64 x128002_1] 153 (0, 0)) (by (with_reducible repeat (first | refine blk_drewN ?_ _ | refine blk_drew ?_ | refine blk_alloc ?_ _)); exact BK127.out) hb); have n1_ := Aside0.mk (IsS109.below (by repeat (first | (with_reducible first | exact HI0.out | apply IsS109.alloc | apply IsS109.drewN | apply IsS109.drew | apply IsS109.set_0 | apply IsS109.set_1 | apply IsS109.set_2 | apply IsS109.set_3 | refine IsS109.far ?_ NB0_127.out _) | exact HI0.out)) hb); have n2_ := Aside0.mk (KeepBut.trans (by repeat (first | (with_reducible first | exact HK.out | apply KeepBut.set_ | apply keep_drewN | apply keep_drew | apply keep_alloc | refine keep_far ?_ GW127.out _) | exact HK.out)) (KeepBut.of_below hb g none) (.inl rfl)); have n3_ := Aside0.mk (below_step (by repeat (first | (with_reducible first | exact HB.out | apply below_alloc | apply pw_below_drewN | apply below_drew1 | refine below_set ?_ (IsS109.ge HI0.out) | refine below_set ?_ GE127.out) | exact HB.out)) hb); have n4_ := Aside0.mk (hbox); have n5_ := Aside0.mk ((by rw [hg]; exact (keep_size (w := w) (g := g) (row := none) (by repeat (first | (with_reducible first | exact HK.out | apply KeepBut.set_ | apply keep_drewN | apply keep_drew | apply keep_alloc | refine keep_far ?_ GW127.out _) | exact HK.out))) : w.heap.size ≤ gb133)); have n6_ := Aside0.mk ((Nat.le_trans HW0.out (by rw [hg]; exact (keep_size (w := w) (g := g) (row := none) (by repeat (first | (with_reducible first | exact HK.out | apply KeepBut.set_ | apply keep_drewN | apply keep_drew | apply keep_alloc | refine keep_far ?_ GW127.out _) | exact HK.out))) : w.heap.size ≤ gb133) : w0.heap.size ≤ gb133)); have n7_ := Aside0.mk ((by rw [hg]; exact Nat.ne_of_lt (blk_lt (g := gb127) (o := .cells #[.string x128000_1, .string x128001_1, .int .i64 x128002_1] 153 (0, 0)) (by (with_reducible repeat (first | refine blk_drewN ?_ _ | refine blk_drew ?_ | refine blk_alloc ?_ _)); exact BK127.out)) : gb127 ≠ gb133)); have n8_ := Aside0.mk ((by rw [hg]; exact Nat.ne_of_gt (blk_lt (g := gb127) (o := .cells #[.string x128000_1, .string x128001_1, .int .i64 x128002_1] 153 (0, 0)) (by (with_reducible repeat (first | refine blk_drewN ?_ _ | refine blk_drew ?_ | refine blk_alloc ?_ _)); exact BK127.out)) : gb133 ≠ gb127)); have n9_ := Aside0.mk ((by rw [hg]; exact Nat.ne_of_lt (IsS109.lt (show IsS109 w0 _ g x1000_1 x1001_1 x1002_1 x1003_1 from by repeat (first | (with_reducible first | exact HI0.out | apply IsS109.alloc | apply IsS109.drewN | apply IsS109.drew | apply IsS109.set_0 | apply IsS109.set_1 | apply IsS109.set_2 | apply IsS109.set_3 | refine IsS109.far ?_ NB0_127.out _) | exact HI0.out))) : g ≠ gb133)); have n10_ := Aside0.mk ((by rw [hg]; exact Nat.ne_of_gt (IsS109.lt (show IsS109 w0 _ g x1000_1 x1001_1 x1002_1 x1003_1 from by repeat (first | (with_reducible first | exact HI0.out | apply IsS109.alloc | apply IsS109.drewN | apply IsS109.drew | apply IsS109.set_0 | apply IsS109.set_1 | apply IsS109.set_2 | apply IsS109.set_3 | refine IsS109.far ?_ NB0_127.out _) | exact HI0.out))) : gb133 ≠ g)); clear BK127; clear HI0; clear HK; clear HB; have BK127 := n0_; have HI0 := n1_; have HK := n2_; have HB := n3_; have BK133 := n4_; have GW133 := n5_; have GE133 := n6_; have NB127_133 := n7_; have NB133_127 := n8_; have NB0_133 := n9_; have NB133_0 := n10_; clear n0_ n1_ n2_ n3_ n4_ n5_ n6_ n7_ n8_ n9_ n10_; clear hb hbox hg; have hnb23 := NB133_127.out; have hnc23 := NB127_133.out; have hnb24 := NB133_0.out; have hnc24 := NB0_133.out; have hcz25_0 : w22.cell? ⟨gb133, 0, none⟩ = some (.string (⟨#[]⟩ : ByteArray)) := (blk_cell BK133.out 0).trans rfl; have hcz25_1 : w22.cell? ⟨gb133, 1, none⟩ = some (.string (⟨#[]⟩ : ByteArray)) := (blk_cell BK133.out 1).trans rfl; have hcz25_2 : w22.cell? ⟨gb133, 2, none⟩ = some (.int .i64 0) := (blk_cell BK133.out 2).trans rfl; have hfz25_0 := blk_frozen BK133.out 0; have hfz25_1 := blk_frozen BK133.out 1; have hfz25_2 := blk_frozen BK133.out 2))
                have n0_ : Aside0 ((((w22.setCell ⟨gb133, 0, none⟩ (.string ((rd_T153 l1 x11_1).f0))).setCell ⟨gb133, 1, none⟩ (.string ((rd_T153 l1 x11_1).f1))).setCell ⟨gb133, 2, none⟩ (.int .i64 ((rd_T153 l1 x11_1).f2))).heap[gb127]? = some (.cells #[.string x128000_1, .string x128001_1, .int .i64 x128002_1] 153 (0, 0))) := ⟨by (with_reducible repeat (first | refine blk_drewN ?_ _ | refine blk_drew ?_ | refine blk_alloc ?_ _)); refine blk_far ?_ NB127_133.out _; (with_reducible repeat (first | refine blk_drewN ?_ _ | refine blk_drew ?_ | refine blk_alloc ?_ _)); refine blk_far ?_ NB127_133.out _; (with_reducible repeat (first | refine blk_drewN ?_ _ | refine blk_drew ?_ | refine blk_alloc ?_ _)); refine blk_far ?_ NB127_133.out _; (with_reducible repeat (first | refine blk_drewN ?_ _ | refine blk_drew ?_ | refine blk_alloc ?_ _)); exact BK127.out⟩
                have n1_ : Aside0 ((((w22.setCell ⟨gb133, 0, none⟩ (.string ((rd_T153 l1 x11_1).f0))).setCell ⟨gb133, 1, none⟩ (.string ((rd_T153 l1 x11_1).f1))).setCell ⟨gb133, 2, none⟩ (.int .i64 ((rd_T153 l1 x11_1).f2))).heap[gb133]? = some (.cells #[.string ((rd_T153 l1 x11_1).f0), .string ((rd_T153 l1 x11_1).f1), .int .i64 ((rd_T153 l1 x11_1).f2)] 153 (0, 0))) := ⟨by (with_reducible repeat (first | refine blk_drewN ?_ _ | refine blk_drew ?_ | refine blk_alloc ?_ _)); refine blk_put (cs := #[.string ((rd_T153 l1 x11_1).f0), .string ((rd_T153 l1 x11_1).f1), .int .i64 0]) ?_ 2 _ rfl; (with_reducible repeat (first | refine blk_drewN ?_ _ | refine blk_drew ?_ | refine blk_alloc ?_ _)); refine blk_put (cs := #[.string ((rd_T153 l1 x11_1).f0), .string (⟨#[]⟩ : ByteArray), .int .i64 0]) ?_ 1 _ rfl; (with_reducible repeat (first | refine blk_drewN ?_ _ | refine blk_drew ?_ | refine blk_alloc ?_ _)); refine blk_put (cs := #[.string (⟨#[]⟩ : ByteArray), .string (⟨#[]⟩ : ByteArray), .int .i64 0]) ?_ 0 _ rfl; (with_reducible repeat (first | refine blk_drewN ?_ _ | refine blk_drew ?_ | refine blk_alloc ?_ _)); exact BK133.out⟩
                have n2_ : Aside0 (IsS109 w0 (((w22.setCell ⟨gb133, 0, none⟩ (.string ((rd_T153 l1 x11_1).f0))).setCell ⟨gb133, 1, none⟩ (.string ((rd_T153 l1 x11_1).f1))).setCell ⟨gb133, 2, none⟩ (.int .i64 ((rd_T153 l1 x11_1).f2))) g x1000_1 x1001_1 x1002_1 x1003_1) := ⟨by repeat (first | (with_reducible first | exact HI0.out | apply IsS109.alloc | apply IsS109.drewN | apply IsS109.drew | apply IsS109.set_0 | apply IsS109.set_1 | apply IsS109.set_2 | apply IsS109.set_3 | refine IsS109.far ?_ NB0_127.out _ | refine IsS109.far ?_ NB0_133.out _) | exact HI0.out)⟩
                have n3_ : Aside0 (KeepBut w (((w22.setCell ⟨gb133, 0, none⟩ (.string ((rd_T153 l1 x11_1).f0))).setCell ⟨gb133, 1, none⟩ (.string ((rd_T153 l1 x11_1).f1))).setCell ⟨gb133, 2, none⟩ (.int .i64 ((rd_T153 l1 x11_1).f2))) g none) := ⟨by repeat (first | (with_reducible first | exact HK.out | apply KeepBut.set_ | apply keep_drewN | apply keep_drew | apply keep_alloc | refine keep_far ?_ GW127.out _ | refine keep_far ?_ GW133.out _) | exact HK.out)⟩
                have n4_ : Aside0 (Below w0.heap.size w0 (((w22.setCell ⟨gb133, 0, none⟩ (.string ((rd_T153 l1 x11_1).f0))).setCell ⟨gb133, 1, none⟩ (.string ((rd_T153 l1 x11_1).f1))).setCell ⟨gb133, 2, none⟩ (.int .i64 ((rd_T153 l1 x11_1).f2)))) := ⟨by repeat (first | (with_reducible first | exact HB.out | apply below_alloc | apply pw_below_drewN | apply below_drew1 | refine below_set ?_ (IsS109.ge HI0.out) | refine below_set ?_ GE127.out | refine below_set ?_ GE133.out) | exact HB.out)⟩
                (try clear BK127)
                (try clear BK133)
                (try clear HI0)
                (try clear HK)
                (try clear HB)
                generalize (((w22.setCell ⟨gb133, 0, none⟩ (.string ((rd_T153 l1 x11_1).f0))).setCell ⟨gb133, 1, none⟩ (.string ((rd_T153 l1 x11_1).f1))).setCell ⟨gb133, 2, none⟩ (.int .i64 ((rd_T153 l1 x11_1).f2))) = w26 at n0_ n1_ n2_ n3_ n4_ ⊢
                have BK127 := n0_
                have BK133 := n1_
                have HI0 := n2_
                have HK := n3_
                have HB := n4_
                clear n0_ n1_ n2_ n3_ n4_
                have n0_ := Aside0.mk (blk_drew BK127.out)
                have n1_ := Aside0.mk (blk_drew BK133.out)
                have n2_ := Aside0.mk (IsS109.drew HI0.out)
                have n3_ := Aside0.mk (keep_drew HK.out)
                have n4_ := Aside0.mk (below_drew1 HB.out)
                clear BK127
                clear BK133
                clear HI0
                clear HK
                clear HB
                have BK127 := n0_
                have BK133 := n1_
                have HI0 := n2_
                have HK := n3_
                have HB := n4_
                clear n0_ n1_ n2_ n3_ n4_
                refine start_ (n := 6) (S := fun w' => w'.cell? ⟨gb133, 0, none⟩ = some (.string ((rd_T153 l1 x11_1).f0)) ∧ w'.cell? ⟨gb133, 1, none⟩ = some (.string ((rd_T153 l1 x11_1).f1)) ∧ w'.cell? ⟨gb133, 2, none⟩ = some (.int .i64 ((rd_T153 l1 x11_1).f2))) (ds := []) #[false, false, false, false, false, false] (by kernel_rfl) rfl rfl ⟨(blk_cell BK133.out 0).trans rfl, (blk_cell BK133.out 1).trans rfl, (blk_cell BK133.out 2).trans rfl⟩ (fun hHeld => ?_)
                generalize w26.drew = w27 at BK127 BK133 HI0 HK HB hHeld ⊢
                refine pure_ (i := 0) (N := some 15) (v := ?_) (a' := ?_) #[true, false, false, false, false, false] rfl rfl (by kernel_rfl) (fun _ _ _ h => h) (Or.inl ⟨by rfl, ?_⟩) ?_ ?_
                rotate_left
                · intro w'
                  go_simp
                  with_reducible rfl
                rotate_left
                · simp only [Act.put, List.setIfInBounds_toArray, List.set_cons_zero, List.set_cons_succ, i64_w, i32_w]
                  rfl
                refine pure_ (i := 2) (N := some 17) (v := ?_) (a' := ?_) #[true, false, true, false, false, false] rfl rfl (by kernel_rfl) (fun _ _ _ h => h) (Or.inl ⟨by rfl, ?_⟩) ?_ ?_
                rotate_left
                · intro w'
                  go_simp
                  with_reducible rfl
                rotate_left
                · simp only [Act.put, List.setIfInBounds_toArray, List.set_cons_zero, List.set_cons_succ, i64_w, i32_w]
                  rfl
                refine take_ (i := 3) (N := some 18) (v := ?_) (a' := ?_) #[true, false, true, true, false, false] rfl rfl (by kernel_rfl) (fun _ _ _ h => h) (Or.inl ⟨by rfl, ?_⟩) hHeld ?_ ?_
                rotate_left
                · rintro w' ⟨s0, s1, s2⟩
                  go_simp
                  with_reducible rfl
                rotate_left
                · simp only [Act.put, List.setIfInBounds_toArray, List.set_cons_zero, List.set_cons_succ, i64_w, i32_w]
                  rfl
                refine one_ (i := 1) (N := some 16) #[true, true, true, true, false, false] rfl rfl (by kernel_rfl) (by decide) (fun K hK => ?_)
                refine goes_ Tryd.func85 (by kernel_rfl) rfl #[.pointer (some ⟨g, 0, none⟩)] (by rfl) rfl rfl (by (try simp only [List.map_toArray, List.map_cons, List.map_nil]); first | done | rfl | (simp only [List.length_drop, List.length_take]; rfl)) ?_
                with_reducible refine (script_line_rest.calls g x1000_1 x1001_1 x1002_1 x1003_1 t134 t135 t136 t137 false w0 _ ?side1 ?side2 A7.out).mono ?_
                (case side1 => repeat (first | (with_reducible first | exact HI0.out | apply IsS109.alloc | apply IsS109.drewN | apply IsS109.drew | apply IsS109.set_0 | apply IsS109.set_1 | apply IsS109.set_2 | apply IsS109.set_3 | refine IsS109.far ?_ NB0_127.out _ | refine IsS109.far ?_ NB0_133.out _) | exact HI0.out))
                (case side2 => repeat (first | (with_reducible first | exact HB.out | apply below_alloc | apply pw_below_drewN | apply below_drew1 | refine below_set ?_ (IsS109.ge HI0.out) | refine below_set ?_ GE127.out | refine below_set ?_ GE133.out) | exact HB.out))
                rintro e w28 ⟨rfl, hi, hb, hk⟩
                refine ⟨_, rfl, ?_⟩
                have n0_ := Aside0.mk (KeepBut.blk hk (g' := gb127) (o := .cells #[.string x128000_1, .string x128001_1, .int .i64 x128002_1] 153 (0, 0)) (by (with_reducible repeat (first | refine blk_drewN ?_ _ | refine blk_drew ?_ | refine blk_alloc ?_ _)); exact BK127.out) NB127_0.out (by simp))
                have n1_ := Aside0.mk (KeepBut.blk hk (g' := gb133) (o := .cells #[.string ((rd_T153 l1 x11_1).f0), .string ((rd_T153 l1 x11_1).f1), .int .i64 ((rd_T153 l1 x11_1).f2)] 153 (0, 0)) (by (with_reducible repeat (first | refine blk_drewN ?_ _ | refine blk_drew ?_ | refine blk_alloc ?_ _)); exact BK133.out) NB133_0.out (by simp))
                have n2_ := Aside0.mk (KeepBut.trans (by repeat (first | (with_reducible first | exact HK.out | apply KeepBut.set_ | apply keep_drewN | apply keep_drew | apply keep_alloc | refine keep_far ?_ GW127.out _ | refine keep_far ?_ GW133.out _) | exact HK.out)) hk (.inl rfl))
                have n3_ := Aside0.mk (hb)
                have n4_ := Aside0.mk (hi)
                clear BK127
                clear BK133
                clear HK
                clear HB
                clear HI0
                have BK127 := n0_
                have BK133 := n1_
                have HK := n2_
                have HB := n3_
                have HI0 := n4_
                clear n0_ n1_ n2_ n3_ n4_
                (try clear hb)
                (try clear hb2)
                (try clear hk)
                (try clear hi)
                refine hK.out _ _ ⟨(blk_cell BK133.out 0).trans rfl, (blk_cell BK133.out 1).trans rfl, (blk_cell BK133.out 2).trans rfl⟩ (fun hHeld => ?_)
                clear hK K
                refine norm_ (a' := ?_) ?_ ?_
                rotate_left
                · show Act.put _ (some 16) _ = _
                  simp only [Act.put, List.setIfInBounds_toArray, List.set_cons_zero, List.set_cons_succ, i64_w, i32_w]
                  rfl
                refine one_ (i := 4) (N := some 19) #[true, true, true, true, true, false] rfl rfl (by kernel_rfl) (by decide) (fun K hK => ?_)
                refine goes_ Tryd.func84 (by kernel_rfl) rfl #[.string t134, .string ((rd_T153 l1 x11_1).f0)] (by rfl) rfl rfl (by (try simp only [List.map_toArray, List.map_cons, List.map_nil]); first | done | rfl | (simp only [List.length_drop, List.length_take]; rfl)) ?_
                with_reducible refine (script_common.calls k1 t134 ((rd_T153 l1 x11_1).f0) t139 _ A8.out).mono ?_
                rintro e w29 ⟨rfl, hb⟩
                refine ⟨_, rfl, ?_⟩
                have n0_ := Aside0.mk (blk_below (g := gb127) (o := .cells #[.string x128000_1, .string x128001_1, .int .i64 x128002_1] 153 (0, 0)) (by (with_reducible repeat (first | refine blk_drewN ?_ _ | refine blk_drew ?_ | refine blk_alloc ?_ _)); exact BK127.out) hb)
                have n1_ := Aside0.mk (IsS109.below (by repeat (first | (with_reducible first | exact HI0.out | apply IsS109.alloc | apply IsS109.drewN | apply IsS109.drew | apply IsS109.set_0 | apply IsS109.set_1 | apply IsS109.set_2 | apply IsS109.set_3 | refine IsS109.far ?_ NB0_127.out _ | refine IsS109.far ?_ NB0_133.out _) | exact HI0.out)) hb)
                have n2_ := Aside0.mk (blk_below (g := gb133) (o := .cells #[.string ((rd_T153 l1 x11_1).f0), .string ((rd_T153 l1 x11_1).f1), .int .i64 ((rd_T153 l1 x11_1).f2)] 153 (0, 0)) (by (with_reducible repeat (first | refine blk_drewN ?_ _ | refine blk_drew ?_ | refine blk_alloc ?_ _)); exact BK133.out) hb)
                have n3_ := Aside0.mk (KeepBut.trans (by repeat (first | (with_reducible first | exact HK.out | apply KeepBut.set_ | apply keep_drewN | apply keep_drew | apply keep_alloc | refine keep_far ?_ GW127.out _ | refine keep_far ?_ GW133.out _) | exact HK.out)) (KeepBut.of_below hb g none) (.inl rfl))
                have n4_ := Aside0.mk (below_step (by repeat (first | (with_reducible first | exact HB.out | apply below_alloc | apply pw_below_drewN | apply below_drew1 | refine below_set ?_ (IsS109.ge HI0.out) | refine below_set ?_ GE127.out | refine below_set ?_ GE133.out) | exact HB.out)) hb)
                clear BK127
                clear HI0
                clear BK133
                clear HK
                clear HB
                have BK127 := n0_
                have HI0 := n1_
                have BK133 := n2_
                have HK := n3_
                have HB := n4_
                clear n0_ n1_ n2_ n3_ n4_
                (try clear hb)
                (try clear hb2)
                (try clear hk)
                (try clear hi)
                refine hK.out _ _ ⟨(blk_cell BK133.out 0).trans rfl, (blk_cell BK133.out 1).trans rfl, (blk_cell BK133.out 2).trans rfl⟩ (fun hHeld => ?_)
                clear hK K
                refine norm_ (a' := ?_) ?_ ?_
                rotate_left
                · show Act.put _ (some 19) _ = _
                  simp only [Act.put, List.setIfInBounds_toArray, List.set_cons_zero, List.set_cons_succ, i64_w, i32_w]
                  rfl
                refine pure_ (i := 5) (N := some 8) (v := ?_) (a' := ?_) #[true, true, true, true, true, true] rfl rfl (by kernel_rfl) (fun _ _ _ h => h) (Or.inl ⟨by rfl, ?_⟩) ?_ ?_
                rotate_left
                · intro w'
                  go_simp
                  with_reducible rfl
                rotate_left
                · simp only [Act.put, List.setIfInBounds_toArray, List.set_cons_zero, List.set_cons_succ, i64_w, i32_w]
                  rfl
                refine done_ (by kernel_rfl) ?_
                have hcz30_0 : w29.cell? ⟨gb133, 0, none⟩ = some (.string ((rd_T153 l1 x11_1).f0)) := (blk_cell BK133.out 0).trans rfl
                have hcz30_1 : w29.cell? ⟨gb133, 1, none⟩ = some (.string ((rd_T153 l1 x11_1).f1)) := (blk_cell BK133.out 1).trans rfl
                have hcz30_2 : w29.cell? ⟨gb133, 2, none⟩ = some (.int .i64 ((rd_T153 l1 x11_1).f2)) := (blk_cell BK133.out 2).trans rfl
                have hfz30_0 := blk_frozen BK133.out 0
                have hfz30_1 := blk_frozen BK133.out 1
                have hfz30_2 := blk_frozen BK133.out 2
                obtain ⟨HGz31, hgz31⟩ := HI0.out
                have hcz31_0 := cellS109_0 HGz31
                have hcz31_1 := cellS109_1 HGz31
                have hcz31_2 := cellS109_2 HGz31
                have hcz31_3 := cellS109_3 HGz31
                have hfz31_0 := blk_frozen HGz31 0
                have hfz31_1 := blk_frozen HGz31 1
                have hfz31_2 := blk_frozen HGz31 2
                have hfz31_3 := blk_frozen HGz31 3
                clear HGz31 hgz31
                have hnb32 := NB127_0.out
                have hnc32 := NB0_127.out
                have hcz33_0 : w29.cell? ⟨gb127, 0, none⟩ = some (.string x128000_1) := (blk_cell BK127.out 0).trans rfl
                have hcz33_1 : w29.cell? ⟨gb127, 1, none⟩ = some (.string x128001_1) := (blk_cell BK127.out 1).trans rfl
                have hcz33_2 : w29.cell? ⟨gb127, 2, none⟩ = some (.int .i64 x128002_1) := (blk_cell BK127.out 2).trans rfl
                have hfz33_0 := blk_frozen BK127.out 0
                have hfz33_1 := blk_frozen BK127.out 1
                have hfz33_2 := blk_frozen BK127.out 2
                try go_wp2
                refine bodyPost_ret (results_cell_row rfl _ _ gb127 153 #[.string ((rd_T153 l1 x11_1).f0), .string ((rd_T153 l1 x11_1).f1), .int .i64 ((rd_T153 l1 x11_1).f2)] (0, 0) _ rfl (by (with_reducible repeat (first | refine blk_drewN ?_ _ | refine blk_drew ?_ | refine blk_alloc ?_ _)); refine blk_put (cs := #[.string ((rd_T153 l1 x11_1).f0), .string ((rd_T153 l1 x11_1).f1), .int .i64 x128002_1]) ?_ 2 _ rfl; (with_reducible repeat (first | refine blk_drewN ?_ _ | refine blk_drew ?_ | refine blk_alloc ?_ _)); refine blk_put (cs := #[.string ((rd_T153 l1 x11_1).f0), .string x128001_1, .int .i64 x128002_1]) ?_ 1 _ rfl; (with_reducible repeat (first | refine blk_drewN ?_ _ | refine blk_drew ?_ | refine blk_alloc ?_ _)); refine blk_put (cs := #[.string x128000_1, .string x128001_1, .int .i64 x128002_1]) ?_ 0 _ rfl; (with_reducible repeat (first | refine blk_drewN ?_ _ | refine blk_drew ?_ | refine blk_alloc ?_ _)); refine blk_far ?_ NB127_0.out _; (with_reducible repeat (first | refine blk_drewN ?_ _ | refine blk_drew ?_ | refine blk_alloc ?_ _)); exact BK127.out) Tryd.underlying153 rfl (by kernel_rfl)) rfl ?_
                exact ⟨by first | rfl | (simp [errW_none, errW_some] <;> rfl) | (simp [*, errW_none, errW_some] <;> rfl), by repeat (first | (with_reducible first | exact HI0.out | apply IsS109.alloc | apply IsS109.drewN | apply IsS109.drew | apply IsS109.set_0 | apply IsS109.set_1 | apply IsS109.set_2 | apply IsS109.set_3 | refine IsS109.far ?_ NB0_127.out _ | refine IsS109.far ?_ NB0_133.out _) | exact HI0.out), by repeat (first | (with_reducible first | exact HB.out | apply below_alloc | apply pw_below_drewN | apply below_drew1 | refine below_set ?_ (IsS109.ge HI0.out) | refine below_set ?_ GE127.out | refine below_set ?_ GE133.out) | exact HB.out), by repeat (first | (with_reducible first | exact HK.out | apply KeepBut.set_ | apply keep_drewN | apply keep_drew | apply keep_alloc | refine keep_far ?_ GW127.out _ | refine keep_far ?_ GW133.out _) | exact HK.out)⟩
            · rw [if_neg c9] at H
              have c9b0 : (t139 == (((rd_T153 l1 x11_1).f0).size : Int)) = false := beq_eq_false_iff_ne.mpr c9
              have c9b1 : (t139 != (((rd_T153 l1 x11_1).f0).size : Int)) = true := bne_iff_ne.mpr c9
              obtain ⟨ji34, hji34⟩ : ∃ j_ : Int, (mx x5_1 t139) = j_ := ⟨_, rfl⟩
              replace H : (script_line_one.l0 k1 ji34 l1 (l1.length : Int) (wrap64 (x11_1 + 1)) t135 t136 t137 t138) = some (r1, r2, r3, r4, r5, r6, r7) := by first | (rw [hji34] at H; exact H) | (simp only [hji34] at H ⊢; exact H)
              (try rw [hji34] at A7)
              (try rw [hji34] at A8)
              have hji34_ : (if x5_1 < t139 then t139 else x5_1) = ji34 := hji34
              have H' := Aside0.mk H
              clear H
              have p132 : 0 ≤ (x11_1 : Int) := of_decide_eq_true (by first | (with_reducible assumption) | assumption)
              have q132 : x11_1 < (l1.length : Int) := of_decide_eq_true (by first | (with_reducible assumption) | assumption)
              obtain ⟨ad132, e132, hx132_0, hx132_1, hx132_2⟩ := at_T153 (Kd.C_foot_now HR1.out HK.out) x11_1 p132 q132
              cases e132
              replace p132 := eq_true p132
              replace q132 := eq_true q132
              try go_wp2_with (first | ((with_reducible refine gate_dst (N := 7) rfl ?_); refine box_event ?hg (N := 7) ?hd (cs := #[.string (⟨#[]⟩ : ByteArray), .string (⟨#[]⟩ : ByteArray), .int .i64 0]) (t := 153) ?hr ?_; (case hd => rfl); (case hg => rfl); (case hr => first | (go_simp; done) | (go_simp; rfl)); intro gb133 hg w35 hbox hb; have n0_ := Aside0.mk (blk_below (g := gb127) (o := .cells #[.string x128000_1, .string x128001_1, .int .i64 x128002_1] 153 (0, 0)) (by (with_reducible repeat (first | refine blk_drewN ?_ _ | refine blk_drew ?_ | refine blk_alloc ?_ _)); exact BK127.out) hb); have n1_ := Aside0.mk (IsS109.below (by repeat (first | (with_reducible first | exact HI0.out | apply IsS109.alloc | apply IsS109.drewN | apply IsS109.drew | apply IsS109.set_0 | apply IsS109.set_1 | apply IsS109.set_2 | apply IsS109.set_3 | refine IsS109.far ?_ NB0_127.out _) | exact HI0.out)) hb); have n2_ := Aside0.mk (KeepBut.trans (by repeat (first | (with_reducible first | exact HK.out | apply KeepBut.set_ | apply keep_drewN | apply keep_drew | apply keep_alloc | refine keep_far ?_ GW127.out _) | exact HK.out)) (KeepBut.of_below hb g none) (.inl rfl)); have n3_ := Aside0.mk (below_step (by repeat (first | (with_reducible first | exact HB.out | apply below_alloc | apply pw_below_drewN | apply below_drew1 | refine below_set ?_ (IsS109.ge HI0.out) | refine below_set ?_ GE127.out) | exact HB.out)) hb); have n4_ := Aside0.mk (hbox); have n5_ := Aside0.mk ((by rw [hg]; exact (keep_size (w := w) (g := g) (row := none) (by repeat (first | (with_reducible first | exact HK.out | apply KeepBut.set_ | apply keep_drewN | apply keep_drew | apply keep_alloc | refine keep_far ?_ GW127.out _) | exact HK.out))) : w.heap.size ≤ gb133)); have n6_ := Aside0.mk ((Nat.le_trans HW0.out (by rw [hg]; exact (keep_size (w := w) (g := g) (row := none) (by repeat (first | (with_reducible first | exact HK.out | apply KeepBut.set_ | apply keep_drewN | apply keep_drew | apply keep_alloc | refine keep_far ?_ GW127.out _) | exact HK.out))) : w.heap.size ≤ gb133) : w0.heap.size ≤ gb133)); have n7_ := Aside0.mk ((by rw [hg]; exact Nat.ne_of_lt (blk_lt (g := gb127) (o := .cells #[.string x128000_1, .string x128001_1, .int .i64 x128002_1] 153 (0, 0)) (by (with_reducible repeat (first | refine blk_drewN ?_ _ | refine blk_drew ?_ | refine blk_alloc ?_ _)); exact BK127.out)) : gb127 ≠ gb133)); have n8_ := Aside0.mk ((by rw [hg]; exact Nat.ne_of_gt (blk_lt (g := gb127) (o := .cells #[.string x128000_1, .string x128001_1, .int .i64 x128002_1] 153 (0, 0)) (by (with_reducible repeat (first | refine blk_drewN ?_ _ | refine blk_drew ?_ | refine blk_alloc ?_ _)); exact BK127.out)) : gb133 ≠ gb127)); have n9_ := Aside0.mk ((by rw [hg]; exact Nat.ne_of_lt (IsS109.lt (show IsS109 w0 _ g x1000_1 x1001_1 x1002_1 x1003_1 from by repeat (first | (with_reducible first | exact HI0.out | apply IsS109.alloc | apply IsS109.drewN | apply IsS109.drew | apply IsS109.set_0 | apply IsS109.set_1 | apply IsS109.set_2 | apply IsS109.set_3 | refine IsS109.far ?_ NB0_127.out _) | exact HI0.out))) : g ≠ gb133)); have n10_ := Aside0.mk ((by rw [hg]; exact Nat.ne_of_gt (IsS109.lt (show IsS109 w0 _ g x1000_1 x1001_1 x1002_1 x1003_1 from by repeat (first | (with_reducible first | exact HI0.out | apply IsS109.alloc | apply IsS109.drewN | apply IsS109.drew | apply IsS109.set_0 | apply IsS109.set_1 | apply IsS109.set_2 | apply IsS109.set_3 | refine IsS109.far ?_ NB0_127.out _) | exact HI0.out))) : gb133 ≠ g)); clear BK127; clear HI0; clear HK; clear HB; have BK127 := n0_; have HI0 := n1_; have HK := n2_; have HB := n3_; have BK133 := n4_; have GW133 := n5_; have GE133 := n6_; have NB127_133 := n7_; have NB133_127 := n8_; have NB0_133 := n9_; have NB133_0 := n10_; clear n0_ n1_ n2_ n3_ n4_ n5_ n6_ n7_ n8_ n9_ n10_; clear hb hbox hg; have hnb36 := NB133_127.out; have hnc36 := NB127_133.out; have hnb37 := NB133_0.out; have hnc37 := NB0_133.out; have hcz38_0 : w35.cell? ⟨gb133, 0, none⟩ = some (.string (⟨#[]⟩ : ByteArray)) := (blk_cell BK133.out 0).trans rfl; have hcz38_1 : w35.cell? ⟨gb133, 1, none⟩ = some (.string (⟨#[]⟩ : ByteArray)) := (blk_cell BK133.out 1).trans rfl; have hcz38_2 : w35.cell? ⟨gb133, 2, none⟩ = some (.int .i64 0) := (blk_cell BK133.out 2).trans rfl; have hfz38_0 := blk_frozen BK133.out 0; have hfz38_1 := blk_frozen BK133.out 1; have hfz38_2 := blk_frozen BK133.out 2))
              have n0_ : Aside0 ((((w35.setCell ⟨gb133, 0, none⟩ (.string ((rd_T153 l1 x11_1).f0))).setCell ⟨gb133, 1, none⟩ (.string ((rd_T153 l1 x11_1).f1))).setCell ⟨gb133, 2, none⟩ (.int .i64 ((rd_T153 l1 x11_1).f2))).heap[gb127]? = some (.cells #[.string x128000_1, .string x128001_1, .int .i64 x128002_1] 153 (0, 0))) := ⟨by (with_reducible repeat (first | refine blk_drewN ?_ _ | refine blk_drew ?_ | refine blk_alloc ?_ _)); refine blk_far ?_ NB127_133.out _; (with_reducible repeat (first | refine blk_drewN ?_ _ | refine blk_drew ?_ | refine blk_alloc ?_ _)); refine blk_far ?_ NB127_133.out _; (with_reducible repeat (first | refine blk_drewN ?_ _ | refine blk_drew ?_ | refine blk_alloc ?_ _)); refine blk_far ?_ NB127_133.out _; (with_reducible repeat (first | refine blk_drewN ?_ _ | refine blk_drew ?_ | refine blk_alloc ?_ _)); exact BK127.out⟩
              have n1_ : Aside0 ((((w35.setCell ⟨gb133, 0, none⟩ (.string ((rd_T153 l1 x11_1).f0))).setCell ⟨gb133, 1, none⟩ (.string ((rd_T153 l1 x11_1).f1))).setCell ⟨gb133, 2, none⟩ (.int .i64 ((rd_T153 l1 x11_1).f2))).heap[gb133]? = some (.cells #[.string ((rd_T153 l1 x11_1).f0), .string ((rd_T153 l1 x11_1).f1), .int .i64 ((rd_T153 l1 x11_1).f2)] 153 (0, 0))) := ⟨by (with_reducible repeat (first | refine blk_drewN ?_ _ | refine blk_drew ?_ | refine blk_alloc ?_ _)); refine blk_put (cs := #[.string ((rd_T153 l1 x11_1).f0), .string ((rd_T153 l1 x11_1).f1), .int .i64 0]) ?_ 2 _ rfl; (with_reducible repeat (first | refine blk_drewN ?_ _ | refine blk_drew ?_ | refine blk_alloc ?_ _)); refine blk_put (cs := #[.string ((rd_T153 l1 x11_1).f0), .string (⟨#[]⟩ : ByteArray), .int .i64 0]) ?_ 1 _ rfl; (with_reducible repeat (first | refine blk_drewN ?_ _ | refine blk_drew ?_ | refine blk_alloc ?_ _)); refine blk_put (cs := #[.string (⟨#[]⟩ : ByteArray), .string (⟨#[]⟩ : ByteArray), .int .i64 0]) ?_ 0 _ rfl; (with_reducible repeat (first | refine blk_drewN ?_ _ | refine blk_drew ?_ | refine blk_alloc ?_ _)); exact BK133.out⟩
              have n2_ : Aside0 (IsS109 w0 (((w35.setCell ⟨gb133, 0, none⟩ (.string ((rd_T153 l1 x11_1).f0))).setCell ⟨gb133, 1, none⟩ (.string ((rd_T153 l1 x11_1).f1))).setCell ⟨gb133, 2, none⟩ (.int .i64 ((rd_T153 l1 x11_1).f2))) g x1000_1 x1001_1 x1002_1 x1003_1) := ⟨by repeat (first | (with_reducible first | exact HI0.out | apply IsS109.alloc | apply IsS109.drewN | apply IsS109.drew | apply IsS109.set_0 | apply IsS109.set_1 | apply IsS109.set_2 | apply IsS109.set_3 | refine IsS109.far ?_ NB0_127.out _ | refine IsS109.far ?_ NB0_133.out _) | exact HI0.out)⟩
              have n3_ : Aside0 (KeepBut w (((w35.setCell ⟨gb133, 0, none⟩ (.string ((rd_T153 l1 x11_1).f0))).setCell ⟨gb133, 1, none⟩ (.string ((rd_T153 l1 x11_1).f1))).setCell ⟨gb133, 2, none⟩ (.int .i64 ((rd_T153 l1 x11_1).f2))) g none) := ⟨by repeat (first | (with_reducible first | exact HK.out | apply KeepBut.set_ | apply keep_drewN | apply keep_drew | apply keep_alloc | refine keep_far ?_ GW127.out _ | refine keep_far ?_ GW133.out _) | exact HK.out)⟩
              have n4_ : Aside0 (Below w0.heap.size w0 (((w35.setCell ⟨gb133, 0, none⟩ (.string ((rd_T153 l1 x11_1).f0))).setCell ⟨gb133, 1, none⟩ (.string ((rd_T153 l1 x11_1).f1))).setCell ⟨gb133, 2, none⟩ (.int .i64 ((rd_T153 l1 x11_1).f2)))) := ⟨by repeat (first | (with_reducible first | exact HB.out | apply below_alloc | apply pw_below_drewN | apply below_drew1 | refine below_set ?_ (IsS109.ge HI0.out) | refine below_set ?_ GE127.out | refine below_set ?_ GE133.out) | exact HB.out)⟩
              (try clear BK127)
              (try clear BK133)
              (try clear HI0)
              (try clear HK)
              (try clear HB)
              generalize (((w35.setCell ⟨gb133, 0, none⟩ (.string ((rd_T153 l1 x11_1).f0))).setCell ⟨gb133, 1, none⟩ (.string ((rd_T153 l1 x11_1).f1))).setCell ⟨gb133, 2, none⟩ (.int .i64 ((rd_T153 l1 x11_1).f2))) = w39 at n0_ n1_ n2_ n3_ n4_ ⊢
              have BK127 := n0_
              have BK133 := n1_
              have HI0 := n2_
              have HK := n3_
              have HB := n4_
              clear n0_ n1_ n2_ n3_ n4_
              have n0_ := Aside0.mk (blk_drew BK127.out)
              have n1_ := Aside0.mk (blk_drew BK133.out)
              have n2_ := Aside0.mk (IsS109.drew HI0.out)
              have n3_ := Aside0.mk (keep_drew HK.out)
              have n4_ := Aside0.mk (below_drew1 HB.out)
              clear BK127
              clear BK133
              clear HI0
              clear HK
              clear HB
              have BK127 := n0_
              have BK133 := n1_
              have HI0 := n2_
              have HK := n3_
              have HB := n4_
              clear n0_ n1_ n2_ n3_ n4_
              refine start_ (n := 6) (S := fun w' => w'.cell? ⟨gb133, 0, none⟩ = some (.string ((rd_T153 l1 x11_1).f0)) ∧ w'.cell? ⟨gb133, 1, none⟩ = some (.string ((rd_T153 l1 x11_1).f1)) ∧ w'.cell? ⟨gb133, 2, none⟩ = some (.int .i64 ((rd_T153 l1 x11_1).f2))) (ds := []) #[false, false, false, false, false, false] (by kernel_rfl) rfl rfl ⟨(blk_cell BK133.out 0).trans rfl, (blk_cell BK133.out 1).trans rfl, (blk_cell BK133.out 2).trans rfl⟩ (fun hHeld => ?_)
              generalize w39.drew = w40 at BK127 BK133 HI0 HK HB hHeld ⊢
              refine pure_ (i := 0) (N := some 15) (v := ?_) (a' := ?_) #[true, false, false, false, false, false] rfl rfl (by kernel_rfl) (fun _ _ _ h => h) (Or.inl ⟨by rfl, ?_⟩) ?_ ?_
              rotate_left
              · intro w'
                go_simp
                with_reducible rfl
              rotate_left
              · simp only [Act.put, List.setIfInBounds_toArray, List.set_cons_zero, List.set_cons_succ, i64_w, i32_w]
                rfl
              refine pure_ (i := 2) (N := some 17) (v := ?_) (a' := ?_) #[true, false, true, false, false, false] rfl rfl (by kernel_rfl) (fun _ _ _ h => h) (Or.inl ⟨by rfl, ?_⟩) ?_ ?_
              rotate_left
              · intro w'
                go_simp
                with_reducible rfl
              rotate_left
              · simp only [Act.put, List.setIfInBounds_toArray, List.set_cons_zero, List.set_cons_succ, i64_w, i32_w]
                rfl
              refine take_ (i := 3) (N := some 18) (v := ?_) (a' := ?_) #[true, false, true, true, false, false] rfl rfl (by kernel_rfl) (fun _ _ _ h => h) (Or.inl ⟨by rfl, ?_⟩) hHeld ?_ ?_
              rotate_left
              · rintro w' ⟨s0, s1, s2⟩
                go_simp
                with_reducible rfl
              rotate_left
              · simp only [Act.put, List.setIfInBounds_toArray, List.set_cons_zero, List.set_cons_succ, i64_w, i32_w]
                rfl
              refine one_ (i := 1) (N := some 16) #[true, true, true, true, false, false] rfl rfl (by kernel_rfl) (by decide) (fun K hK => ?_)
              refine goes_ Tryd.func85 (by kernel_rfl) rfl #[.pointer (some ⟨g, 0, none⟩)] (by rfl) rfl rfl (by (try simp only [List.map_toArray, List.map_cons, List.map_nil]); first | done | rfl | (simp only [List.length_drop, List.length_take]; rfl)) ?_
              with_reducible refine (script_line_rest.calls g x1000_1 x1001_1 x1002_1 x1003_1 t134 t135 t136 t137 t138 w0 _ ?side1 ?side2 A7.out).mono ?_
              (case side1 => repeat (first | (with_reducible first | exact HI0.out | apply IsS109.alloc | apply IsS109.drewN | apply IsS109.drew | apply IsS109.set_0 | apply IsS109.set_1 | apply IsS109.set_2 | apply IsS109.set_3 | refine IsS109.far ?_ NB0_127.out _ | refine IsS109.far ?_ NB0_133.out _) | exact HI0.out))
              (case side2 => repeat (first | (with_reducible first | exact HB.out | apply below_alloc | apply pw_below_drewN | apply below_drew1 | refine below_set ?_ (IsS109.ge HI0.out) | refine below_set ?_ GE127.out | refine below_set ?_ GE133.out) | exact HB.out))
              rintro e w41 ⟨rfl, hi, hb, hk⟩
              refine ⟨_, rfl, ?_⟩
              have n0_ := Aside0.mk (KeepBut.blk hk (g' := gb127) (o := .cells #[.string x128000_1, .string x128001_1, .int .i64 x128002_1] 153 (0, 0)) (by (with_reducible repeat (first | refine blk_drewN ?_ _ | refine blk_drew ?_ | refine blk_alloc ?_ _)); exact BK127.out) NB127_0.out (by simp))
              have n1_ := Aside0.mk (KeepBut.blk hk (g' := gb133) (o := .cells #[.string ((rd_T153 l1 x11_1).f0), .string ((rd_T153 l1 x11_1).f1), .int .i64 ((rd_T153 l1 x11_1).f2)] 153 (0, 0)) (by (with_reducible repeat (first | refine blk_drewN ?_ _ | refine blk_drew ?_ | refine blk_alloc ?_ _)); exact BK133.out) NB133_0.out (by simp))
              have n2_ := Aside0.mk (KeepBut.trans (by repeat (first | (with_reducible first | exact HK.out | apply KeepBut.set_ | apply keep_drewN | apply keep_drew | apply keep_alloc | refine keep_far ?_ GW127.out _ | refine keep_far ?_ GW133.out _) | exact HK.out)) hk (.inl rfl))
              have n3_ := Aside0.mk (hb)
              have n4_ := Aside0.mk (hi)
              clear BK127
              clear BK133
              clear HK
              clear HB
              clear HI0
              have BK127 := n0_
              have BK133 := n1_
              have HK := n2_
              have HB := n3_
              have HI0 := n4_
              clear n0_ n1_ n2_ n3_ n4_
              (try clear hb)
              (try clear hb2)
              (try clear hk)
              (try clear hi)
              refine hK.out _ _ ⟨(blk_cell BK133.out 0).trans rfl, (blk_cell BK133.out 1).trans rfl, (blk_cell BK133.out 2).trans rfl⟩ (fun hHeld => ?_)
              clear hK K
              refine norm_ (a' := ?_) ?_ ?_
              rotate_left
              · show Act.put _ (some 16) _ = _
                simp only [Act.put, List.setIfInBounds_toArray, List.set_cons_zero, List.set_cons_succ, i64_w, i32_w]
                rfl
              refine one_ (i := 4) (N := some 19) #[true, true, true, true, true, false] rfl rfl (by kernel_rfl) (by decide) (fun K hK => ?_)
              refine goes_ Tryd.func84 (by kernel_rfl) rfl #[.string t134, .string ((rd_T153 l1 x11_1).f0)] (by rfl) rfl rfl (by (try simp only [List.map_toArray, List.map_cons, List.map_nil]); first | done | rfl | (simp only [List.length_drop, List.length_take]; rfl)) ?_
              with_reducible refine (script_common.calls k1 t134 ((rd_T153 l1 x11_1).f0) t139 _ A8.out).mono ?_
              rintro e w42 ⟨rfl, hb⟩
              refine ⟨_, rfl, ?_⟩
              have n0_ := Aside0.mk (blk_below (g := gb127) (o := .cells #[.string x128000_1, .string x128001_1, .int .i64 x128002_1] 153 (0, 0)) (by (with_reducible repeat (first | refine blk_drewN ?_ _ | refine blk_drew ?_ | refine blk_alloc ?_ _)); exact BK127.out) hb)
              have n1_ := Aside0.mk (IsS109.below (by repeat (first | (with_reducible first | exact HI0.out | apply IsS109.alloc | apply IsS109.drewN | apply IsS109.drew | apply IsS109.set_0 | apply IsS109.set_1 | apply IsS109.set_2 | apply IsS109.set_3 | refine IsS109.far ?_ NB0_127.out _ | refine IsS109.far ?_ NB0_133.out _) | exact HI0.out)) hb)
              have n2_ := Aside0.mk (blk_below (g := gb133) (o := .cells #[.string ((rd_T153 l1 x11_1).f0), .string ((rd_T153 l1 x11_1).f1), .int .i64 ((rd_T153 l1 x11_1).f2)] 153 (0, 0)) (by (with_reducible repeat (first | refine blk_drewN ?_ _ | refine blk_drew ?_ | refine blk_alloc ?_ _)); exact BK133.out) hb)
              have n3_ := Aside0.mk (KeepBut.trans (by repeat (first | (with_reducible first | exact HK.out | apply KeepBut.set_ | apply keep_drewN | apply keep_drew | apply keep_alloc | refine keep_far ?_ GW127.out _ | refine keep_far ?_ GW133.out _) | exact HK.out)) (KeepBut.of_below hb g none) (.inl rfl))
              have n4_ := Aside0.mk (below_step (by repeat (first | (with_reducible first | exact HB.out | apply below_alloc | apply pw_below_drewN | apply below_drew1 | refine below_set ?_ (IsS109.ge HI0.out) | refine below_set ?_ GE127.out | refine below_set ?_ GE133.out) | exact HB.out)) hb)
              clear BK127
              clear HI0
              clear BK133
              clear HK
              clear HB
              have BK127 := n0_
              have HI0 := n1_
              have BK133 := n2_
              have HK := n3_
              have HB := n4_
              clear n0_ n1_ n2_ n3_ n4_
              (try clear hb)
              (try clear hb2)
              (try clear hk)
              (try clear hi)
              refine hK.out _ _ ⟨(blk_cell BK133.out 0).trans rfl, (blk_cell BK133.out 1).trans rfl, (blk_cell BK133.out 2).trans rfl⟩ (fun hHeld => ?_)
              clear hK K
              refine norm_ (a' := ?_) ?_ ?_
              rotate_left
              · show Act.put _ (some 19) _ = _
                simp only [Act.put, List.setIfInBounds_toArray, List.set_cons_zero, List.set_cons_succ, i64_w, i32_w]
                rfl
              refine pure_ (i := 5) (N := some 8) (v := ?_) (a' := ?_) #[true, true, true, true, true, true] rfl rfl (by kernel_rfl) (fun _ _ _ h => h) (Or.inl ⟨by rfl, ?_⟩) ?_ ?_
              rotate_left
              · intro w'
                go_simp
                with_reducible rfl
              rotate_left
              · simp only [Act.put, List.setIfInBounds_toArray, List.set_cons_zero, List.set_cons_succ, i64_w, i32_w]
                rfl
              refine done_ (by kernel_rfl) ?_
              have hcz43_0 : w42.cell? ⟨gb133, 0, none⟩ = some (.string ((rd_T153 l1 x11_1).f0)) := (blk_cell BK133.out 0).trans rfl
              have hcz43_1 : w42.cell? ⟨gb133, 1, none⟩ = some (.string ((rd_T153 l1 x11_1).f1)) := (blk_cell BK133.out 1).trans rfl
              have hcz43_2 : w42.cell? ⟨gb133, 2, none⟩ = some (.int .i64 ((rd_T153 l1 x11_1).f2)) := (blk_cell BK133.out 2).trans rfl
              have hfz43_0 := blk_frozen BK133.out 0
              have hfz43_1 := blk_frozen BK133.out 1
              have hfz43_2 := blk_frozen BK133.out 2
              try go_wp2
              go_roundg k1
              case measure => have := HK1.out; omega
              case rel => exact ⟨(ji34), (wrap64 (x11_1 + 1)), (t135), (t136), (t137), (t138), (x128000_1), (x128001_1), (x128002_1), (by first | rfl | (simp; done) | (simp only [← hji34] <;> (first | rfl | simp)) | (simp [*]; done)), (by first | rfl | (simp; done) | (simp [*]; done)), H', ⟨by have := HK1.out; omega⟩, ⟨by (with_reducible repeat (first | refine blk_drewN ?_ _ | refine blk_drew ?_ | refine blk_alloc ?_ _)); exact BK127.out⟩, ⟨by repeat (first | (with_reducible first | exact HI0.out | apply IsS109.alloc | apply IsS109.drewN | apply IsS109.drew | apply IsS109.set_0 | apply IsS109.set_1 | apply IsS109.set_2 | apply IsS109.set_3 | refine IsS109.far ?_ NB0_127.out _ | refine IsS109.far ?_ NB0_133.out _) | exact HI0.out)⟩, ⟨by repeat (first | (with_reducible first | exact HK.out | apply KeepBut.set_ | apply keep_drewN | apply keep_drew | apply keep_alloc | refine keep_far ?_ GW127.out _ | refine keep_far ?_ GW133.out _) | exact HK.out)⟩, ⟨by repeat (first | (with_reducible first | exact HB.out | apply below_alloc | apply pw_below_drewN | apply below_drew1 | refine below_set ?_ (IsS109.ge HI0.out) | refine below_set ?_ GE127.out | refine below_set ?_ GE133.out) | exact HB.out)⟩⟩
          · rw [if_neg c6] at H
            exact absurd H (by simp)
        · rw [if_neg c5] at H
          exact absurd H (by simp)
      · rw [if_neg c4] at H
        have c4b0 : decide (x11_1 < (l1.length : Int)) = false := decide_eq_false c4
        clear c4
        replace H := Option.bind_eq_some_iff.mp H
        obtain ⟨⟨t128, t129, t130, t131⟩, A440, H⟩ := H
        replace H : (some ((⟨#[]⟩ : ByteArray), (⟨#[]⟩ : ByteArray), 0, t128, t129, t130, t131)) = some (r1, r2, r3, r4, r5, r6, r7) := H
        have A44 := Aside0.mk A440
        clear A440
        simp only [Option.some.injEq, Prod.mk.injEq] at H
        obtain ⟨rfl, rfl, rfl, rfl, rfl, rfl, rfl⟩ := H
        go_wp2_with (first | ((with_reducible refine gate_callee (f := 59) rfl ?_); refine goesL_ (some 47) rfl rfl Tryd.func59 (by kernel_rfl) rfl #[.pointer (some ⟨g, 0, none⟩), .int .i64 x5_1] rfl (by (try simp only [List.map_toArray, List.map_cons, List.map_nil]); first | done | rfl | (simp only [List.length_drop, List.length_take]; rfl)) ?_; (with_reducible refine (script_line_fail.calls g x1000_1 x1001_1 x1002_1 x1003_1 x5_1 t128 t129 t130 t131 w0 _ ?side1 ?side2 A44.out).mono ?_); (case side1 => repeat (first | (with_reducible first | exact HI0.out | apply IsS109.alloc | apply IsS109.drewN | apply IsS109.drew | apply IsS109.set_0 | apply IsS109.set_1 | apply IsS109.set_2 | apply IsS109.set_3 | refine IsS109.far ?_ NB0_127.out _) | exact HI0.out)); (case side2 => repeat (first | (with_reducible first | exact HB.out | apply below_alloc | apply pw_below_drewN | apply below_drew1 | refine below_set ?_ (IsS109.ge HI0.out) | refine below_set ?_ GE127.out) | exact HB.out)); rintro e w45 ⟨rfl, hi, hb, hk⟩; refine ⟨_, rfl, ?_⟩; have n0_ := Aside0.mk (KeepBut.blk hk (g' := gb127) (o := .cells #[.string x128000_1, .string x128001_1, .int .i64 x128002_1] 153 (0, 0)) (by (with_reducible repeat (first | refine blk_drewN ?_ _ | refine blk_drew ?_ | refine blk_alloc ?_ _)); exact BK127.out) NB127_0.out (by simp)); have n1_ := Aside0.mk (KeepBut.trans (by repeat (first | (with_reducible first | exact HK.out | apply KeepBut.set_ | apply keep_drewN | apply keep_drew | apply keep_alloc | refine keep_far ?_ GW127.out _) | exact HK.out)) hk (.inl rfl)); have n2_ := Aside0.mk (hb); have n3_ := Aside0.mk (hi); clear BK127; clear HK; clear HB; clear HI0; have BK127 := n0_; have HK := n1_; have HB := n2_; have HI0 := n3_; clear n0_ n1_ n2_ n3_; (try clear hb); (try clear hb2); (try clear hk); (try clear hi); have hnb46 := NB127_0.out; have hnc46 := NB0_127.out; have hcz47_0 : w45.cell? ⟨gb127, 0, none⟩ = some (.string x128000_1) := (blk_cell BK127.out 0).trans rfl; have hcz47_1 : w45.cell? ⟨gb127, 1, none⟩ = some (.string x128001_1) := (blk_cell BK127.out 1).trans rfl; have hcz47_2 : w45.cell? ⟨gb127, 2, none⟩ = some (.int .i64 x128002_1) := (blk_cell BK127.out 2).trans rfl; have hfz47_0 := blk_frozen BK127.out 0; have hfz47_1 := blk_frozen BK127.out 1; have hfz47_2 := blk_frozen BK127.out 2))
        refine bodyPost_ret (results_cell_row rfl _ _ gb127 153 #[.string (⟨#[]⟩ : ByteArray), .string (⟨#[]⟩ : ByteArray), .int .i64 0] (0, 0) _ rfl (by (with_reducible repeat (first | refine blk_drewN ?_ _ | refine blk_drew ?_ | refine blk_alloc ?_ _)); refine blk_put (cs := #[.string (⟨#[]⟩ : ByteArray), .string (⟨#[]⟩ : ByteArray), .int .i64 x128002_1]) ?_ 2 _ rfl; (with_reducible repeat (first | refine blk_drewN ?_ _ | refine blk_drew ?_ | refine blk_alloc ?_ _)); refine blk_put (cs := #[.string (⟨#[]⟩ : ByteArray), .string x128001_1, .int .i64 x128002_1]) ?_ 1 _ rfl; (with_reducible repeat (first | refine blk_drewN ?_ _ | refine blk_drew ?_ | refine blk_alloc ?_ _)); refine blk_put (cs := #[.string x128000_1, .string x128001_1, .int .i64 x128002_1]) ?_ 0 _ rfl; (with_reducible repeat (first | refine blk_drewN ?_ _ | refine blk_drew ?_ | refine blk_alloc ?_ _)); exact BK127.out) Tryd.underlying153 rfl (by kernel_rfl)) rfl ?_
        exact ⟨by first | rfl | (simp [errW_none, errW_some] <;> rfl) | (simp [*, errW_none, errW_some] <;> rfl), by repeat (first | (with_reducible first | exact HI0.out | apply IsS109.alloc | apply IsS109.drewN | apply IsS109.drew | apply IsS109.set_0 | apply IsS109.set_1 | apply IsS109.set_2 | apply IsS109.set_3 | refine IsS109.far ?_ NB0_127.out _) | exact HI0.out), by repeat (first | (with_reducible first | exact HB.out | apply below_alloc | apply pw_below_drewN | apply below_drew1 | refine below_set ?_ (IsS109.ge HI0.out) | refine below_set ?_ GE127.out) | exact HB.out), by repeat (first | (with_reducible first | exact HK.out | apply KeepBut.set_ | apply keep_drewN | apply keep_drew | apply keep_alloc | refine keep_far ?_ GW127.out _) | exact HK.out)⟩

def script_line_blank.f (s0_0 : ByteArray) (s0_1 : Int) (s0_2 : Bool) (s0_3 : Bool) : Option (ByteArray × Int × Bool × Bool) := if s0_3 = true then (some (s0_0, s0_1, s0_2, s0_3)) else ((script_line_rest.f s0_0 s0_1 s0_2 s0_3).bind fun bt140 => ((strings_HasPrefix.f bt140.1 (⟨#[32]⟩ : ByteArray)).bind fun t145 => (if t145 = true then (some (bt140.2.1, wrap64 (bt140.2.2.1 + 1), bt140.2.2.2.1, bt140.2.2.2.2)) else ((script_line_fail.f bt140.2.1 bt140.2.2.1 bt140.2.2.2.1 bt140.2.2.2.2 0).bind fun bt146 => (some (bt146.1, bt146.2.1, bt146.2.2.1, bt146.2.2.2))))))
set_option maxHeartbeats 8000000 in
set_option maxRecDepth 100000 in
theorem script_line_blank.calls (g : Nat) (s0_0 : ByteArray) (s0_1 : Int) (s0_2 : Bool) (s0_3 : Bool) (r1 : ByteArray) (r2 : Int) (r3 : Bool) (r4 : Bool) (w0 w : World) (hI : IsS109 w0 w g s0_0 s0_1 s0_2 s0_3) (hB : Below w0.heap.size w0 w) (h : script_line_blank.f s0_0 s0_1 s0_2 s0_3 = some (r1, r2, r3, r4)) :
    Calls Tryd.prog 62 #[.pointer (some ⟨g, 0, none⟩)] w fun e w' => e = .returned (.tuple #[]) ∧ IsS109 w0 w' g r1 r2 r3 r4 ∧ Below w0.heap.size w0 w' ∧ KeepBut w w' g none := by
  have HI0 := Aside0.mk hI
  have HK := Aside0.mk (KeepBut.refl w g none)
  have HL := Aside0.mk hB.size
  clear hI
  have HW0 := Aside0.mk hB.size
  have HB := Aside0.mk hB
  clear hB
  have H : (if s0_3 = true then (some (s0_0, s0_1, s0_2, s0_3)) else ((script_line_rest.f s0_0 s0_1 s0_2 s0_3).bind fun bt140 => ((strings_HasPrefix.f bt140.1 (⟨#[32]⟩ : ByteArray)).bind fun t145 => (if t145 = true then (some (bt140.2.1, wrap64 (bt140.2.2.1 + 1), bt140.2.2.2.1, bt140.2.2.2.2)) else ((script_line_fail.f bt140.2.1 bt140.2.2.1 bt140.2.2.2.1 bt140.2.2.2.2 0).bind fun bt146 => (some (bt146.1, bt146.2.1, bt146.2.2.1, bt146.2.2.2))))))) = some (r1, r2, r3, r4) := h
  clear h
  by_cases c2 : s0_3 = true
  · subst c2
    have H1 : (some (s0_0, s0_1, s0_2, true)) = some (r1, r2, r3, r4) := by rw [if_pos rfl] at H; exact H
    clear H
    have H := H1
    clear H1
    simp only [Option.some.injEq, Prod.mk.injEq] at H
    obtain ⟨rfl, rfl, rfl, rfl⟩ := H
    obtain ⟨HGz3, hgz3⟩ := HI0.out
    have hcz3_0 := cellS109_0 HGz3
    have hcz3_1 := cellS109_1 HGz3
    have hcz3_2 := cellS109_2 HGz3
    have hcz3_3 := cellS109_3 HGz3
    have hfz3_0 := blk_frozen HGz3 0
    have hfz3_1 := blk_frozen HGz3 1
    have hfz3_2 := blk_frozen HGz3 2
    have hfz3_3 := blk_frozen HGz3 3
    clear HGz3 hgz3
    go_enter Tryd.func62, Tryd.ntmps62
    go_wp2
    first | go_end0 | ((try simp only [Exit.inBlock, Exit.then]); refine bodyPost_ret (results_none rfl _ _ _) rfl ?_)
    exact ⟨by first | rfl | (simp [errW_none, errW_some] <;> rfl) | (simp [*, errW_none, errW_some] <;> rfl), by repeat (first | (with_reducible first | exact HI0.out | apply IsS109.alloc | apply IsS109.drewN | apply IsS109.drew | apply IsS109.set_0 | apply IsS109.set_1 | apply IsS109.set_2 | apply IsS109.set_3) | exact HI0.out), by repeat (first | (with_reducible first | exact HB.out | apply below_alloc | apply pw_below_drewN | apply below_drew1 | refine below_set ?_ (IsS109.ge HI0.out)) | exact HB.out), by repeat (first | (with_reducible first | exact HK.out | apply KeepBut.set_ | apply keep_drewN | apply keep_drew | apply keep_alloc) | exact HK.out)⟩
  · replace c2 := Bool.eq_false_iff.mpr c2
    subst c2
    have H1 : ((script_line_rest.f s0_0 s0_1 s0_2 false).bind fun bt140 => ((strings_HasPrefix.f bt140.1 (⟨#[32]⟩ : ByteArray)).bind fun t145 => (if t145 = true then (some (bt140.2.1, wrap64 (bt140.2.2.1 + 1), bt140.2.2.2.1, bt140.2.2.2.2)) else ((script_line_fail.f bt140.2.1 bt140.2.2.1 bt140.2.2.2.1 bt140.2.2.2.2 0).bind fun bt146 => (some (bt146.1, bt146.2.1, bt146.2.2.1, bt146.2.2.2)))))) = some (r1, r2, r3, r4) := by rw [if_neg (show ¬ (false = true) by decide)] at H; exact H
    clear H
    have H := H1
    clear H1
    replace H := Option.bind_eq_some_iff.mp H
    obtain ⟨⟨t140, t141, t142, t143, t144⟩, A40, H⟩ := H
    replace H : ((strings_HasPrefix.f t140 (⟨#[32]⟩ : ByteArray)).bind fun t145 => (if t145 = true then (some (t141, wrap64 (t142 + 1), t143, t144)) else ((script_line_fail.f t141 t142 t143 t144 0).bind fun bt146 => (some (bt146.1, bt146.2.1, bt146.2.2.1, bt146.2.2.2))))) = some (r1, r2, r3, r4) := H
    have A4 := Aside0.mk A40
    clear A40
    replace H := Option.bind_eq_some_iff.mp H
    obtain ⟨t145, A50, H⟩ := H
    replace H : (if t145 = true then (some (t141, wrap64 (t142 + 1), t143, t144)) else ((script_line_fail.f t141 t142 t143 t144 0).bind fun bt146 => (some (bt146.1, bt146.2.1, bt146.2.2.1, bt146.2.2.2)))) = some (r1, r2, r3, r4) := H
    have A5 := Aside0.mk A50
    clear A50
    by_cases c6 : t145 = true
    · subst c6
      have H1 : (some (t141, wrap64 (t142 + 1), t143, t144)) = some (r1, r2, r3, r4) := by rw [if_pos rfl] at H; exact H
      clear H
      have H := H1
      clear H1
      simp only [Option.some.injEq, Prod.mk.injEq] at H
      obtain ⟨rfl, rfl, rfl, rfl⟩ := H
      obtain ⟨HGz7, hgz7⟩ := HI0.out
      have hcz7_0 := cellS109_0 HGz7
      have hcz7_1 := cellS109_1 HGz7
      have hcz7_2 := cellS109_2 HGz7
      have hcz7_3 := cellS109_3 HGz7
      have hfz7_0 := blk_frozen HGz7 0
      have hfz7_1 := blk_frozen HGz7 1
      have hfz7_2 := blk_frozen HGz7 2
      have hfz7_3 := blk_frozen HGz7 3
      clear HGz7 hgz7
      go_enter Tryd.func62, Tryd.ntmps62
      go_wp2_with (first | ((with_reducible refine gate_callee (f := 85) rfl ?_); refine goesL_ (some 7) rfl rfl Tryd.func85 (by kernel_rfl) rfl #[.pointer (some ⟨g, 0, none⟩)] rfl (by (try simp only [List.map_toArray, List.map_cons, List.map_nil]); first | done | rfl | (simp only [List.length_drop, List.length_take]; rfl)) ?_; (with_reducible refine (script_line_rest.calls g s0_0 s0_1 s0_2 false t140 t141 t142 t143 t144 w0 _ ?side1 ?side2 A4.out).mono ?_); (case side1 => repeat (first | (with_reducible first | exact HI0.out | apply IsS109.alloc | apply IsS109.drewN | apply IsS109.drew | apply IsS109.set_0 | apply IsS109.set_1 | apply IsS109.set_2 | apply IsS109.set_3) | exact HI0.out)); (case side2 => repeat (first | (with_reducible first | exact HB.out | apply below_alloc | apply pw_below_drewN | apply below_drew1 | refine below_set ?_ (IsS109.ge HI0.out)) | exact HB.out)); rintro e w8 ⟨rfl, hi, hb, hk⟩; refine ⟨_, rfl, ?_⟩; have n0_ := Aside0.mk (KeepBut.trans (by repeat (first | (with_reducible first | exact HK.out | apply KeepBut.set_ | apply keep_drewN | apply keep_drew | apply keep_alloc) | exact HK.out)) hk (.inl rfl)); have n1_ := Aside0.mk (hb); have n2_ := Aside0.mk (hi); clear HK; clear HB; clear HI0; have HK := n0_; have HB := n1_; have HI0 := n2_; clear n0_ n1_ n2_; (try clear hb); (try clear hb2); (try clear hk); (try clear hi)) | ((with_reducible refine gate_callee (f := 36) rfl ?_); refine goesL_ (some 8) rfl rfl Tryd.func36 (by kernel_rfl) rfl #[.string t140, .string (⟨#[32]⟩ : ByteArray)] rfl (by (try simp only [List.map_toArray, List.map_cons, List.map_nil]); first | done | rfl | (simp only [List.length_drop, List.length_take]; rfl)) ?_; (with_reducible refine (strings_HasPrefix.calls t140 (⟨#[32]⟩ : ByteArray) true _ A5.out).mono ?_); rintro e w' ⟨rfl, ⟨nd, rfl⟩⟩; refine ⟨_, rfl, ?_⟩; (try (rw [drewN_self w8]; generalize hq_ : World.drewN w8 _ = w8; have n0_ : Aside0 (IsS109 w0 w8 g t141 t142 t143 t144) := ⟨by rw [← hq_]; exact (by repeat (first | (with_reducible first | exact HI0.out | apply IsS109.alloc | apply IsS109.drewN | apply IsS109.drew | apply IsS109.set_0 | apply IsS109.set_1 | apply IsS109.set_2 | apply IsS109.set_3) | exact HI0.out))⟩; have n1_ : Aside0 (KeepBut w w8 g none) := ⟨by rw [← hq_]; exact (by repeat (first | (with_reducible first | exact HK.out | apply KeepBut.set_ | apply keep_drewN | apply keep_drew | apply keep_alloc) | exact HK.out))⟩; have n2_ : Aside0 (Below w0.heap.size w0 w8) := ⟨by rw [← hq_]; exact (by repeat (first | (with_reducible first | exact HB.out | apply below_alloc | apply pw_below_drewN | apply below_drew1 | refine below_set ?_ (IsS109.ge HI0.out)) | exact HB.out))⟩; clear HI0 HK HB hq_; have HI0 := n0_; have HK := n1_; have HB := n2_; clear n0_ n1_ n2_)); obtain ⟨HGz9, hgz9⟩ := HI0.out; have hcz9_0 := cellS109_0 HGz9; have hcz9_1 := cellS109_1 HGz9; have hcz9_2 := cellS109_2 HGz9; have hcz9_3 := cellS109_3 HGz9; have hfz9_0 := blk_frozen HGz9 0; have hfz9_1 := blk_frozen HGz9 1; have hfz9_2 := blk_frozen HGz9 2; have hfz9_3 := blk_frozen HGz9 3; clear HGz9 hgz9))
      first | go_end0 | ((try simp only [Exit.inBlock, Exit.then]); refine bodyPost_ret (results_none rfl _ _ _) rfl ?_)
      exact ⟨by first | rfl | (simp [errW_none, errW_some] <;> rfl) | (simp [*, errW_none, errW_some] <;> rfl), by repeat (first | (with_reducible first | exact HI0.out | apply IsS109.alloc | apply IsS109.drewN | apply IsS109.drew | apply IsS109.set_0 | apply IsS109.set_1 | apply IsS109.set_2 | apply IsS109.set_3) | exact HI0.out), by repeat (first | (with_reducible first | exact HB.out | apply below_alloc | apply pw_below_drewN | apply below_drew1 | refine below_set ?_ (IsS109.ge HI0.out)) | exact HB.out), by repeat (first | (with_reducible first | exact HK.out | apply KeepBut.set_ | apply keep_drewN | apply keep_drew | apply keep_alloc) | exact HK.out)⟩
    · replace c6 := Bool.eq_false_iff.mpr c6
      subst c6
      have H1 : ((script_line_fail.f t141 t142 t143 t144 0).bind fun bt146 => (some (bt146.1, bt146.2.1, bt146.2.2.1, bt146.2.2.2))) = some (r1, r2, r3, r4) := by rw [if_neg (show ¬ (false = true) by decide)] at H; exact H
      clear H
      have H := H1
      clear H1
      replace H := Option.bind_eq_some_iff.mp H
      obtain ⟨⟨t146, t147, t148, t149⟩, A100, H⟩ := H
      replace H : (some (t146, t147, t148, t149)) = some (r1, r2, r3, r4) := H
      have A10 := Aside0.mk A100
      clear A100
      simp only [Option.some.injEq, Prod.mk.injEq] at H
      obtain ⟨rfl, rfl, rfl, rfl⟩ := H
      obtain ⟨HGz11, hgz11⟩ := HI0.out
      have hcz11_0 := cellS109_0 HGz11
      have hcz11_1 := cellS109_1 HGz11
      have hcz11_2 := cellS109_2 HGz11
      have hcz11_3 := cellS109_3 HGz11
      have hfz11_0 := blk_frozen HGz11 0
      have hfz11_1 := blk_frozen HGz11 1
      have hfz11_2 := blk_frozen HGz11 2
      have hfz11_3 := blk_frozen HGz11 3
      clear HGz11 hgz11
      go_enter Tryd.func62, Tryd.ntmps62
      go_wp2_with (first | ((with_reducible refine gate_callee (f := 85) rfl ?_); refine goesL_ (some 7) rfl rfl Tryd.func85 (by kernel_rfl) rfl #[.pointer (some ⟨g, 0, none⟩)] rfl (by (try simp only [List.map_toArray, List.map_cons, List.map_nil]); first | done | rfl | (simp only [List.length_drop, List.length_take]; rfl)) ?_; (with_reducible refine (script_line_rest.calls g s0_0 s0_1 s0_2 false t140 t141 t142 t143 t144 w0 _ ?side1 ?side2 A4.out).mono ?_); (case side1 => repeat (first | (with_reducible first | exact HI0.out | apply IsS109.alloc | apply IsS109.drewN | apply IsS109.drew | apply IsS109.set_0 | apply IsS109.set_1 | apply IsS109.set_2 | apply IsS109.set_3) | exact HI0.out)); (case side2 => repeat (first | (with_reducible first | exact HB.out | apply below_alloc | apply pw_below_drewN | apply below_drew1 | refine below_set ?_ (IsS109.ge HI0.out)) | exact HB.out)); rintro e w12 ⟨rfl, hi, hb, hk⟩; refine ⟨_, rfl, ?_⟩; have n0_ := Aside0.mk (KeepBut.trans (by repeat (first | (with_reducible first | exact HK.out | apply KeepBut.set_ | apply keep_drewN | apply keep_drew | apply keep_alloc) | exact HK.out)) hk (.inl rfl)); have n1_ := Aside0.mk (hb); have n2_ := Aside0.mk (hi); clear HK; clear HB; clear HI0; have HK := n0_; have HB := n1_; have HI0 := n2_; clear n0_ n1_ n2_; (try clear hb); (try clear hb2); (try clear hk); (try clear hi)) | ((with_reducible refine gate_callee (f := 36) rfl ?_); refine goesL_ (some 8) rfl rfl Tryd.func36 (by kernel_rfl) rfl #[.string t140, .string (⟨#[32]⟩ : ByteArray)] rfl (by (try simp only [List.map_toArray, List.map_cons, List.map_nil]); first | done | rfl | (simp only [List.length_drop, List.length_take]; rfl)) ?_; (with_reducible refine (strings_HasPrefix.calls t140 (⟨#[32]⟩ : ByteArray) false _ A5.out).mono ?_); rintro e w' ⟨rfl, ⟨nd, rfl⟩⟩; refine ⟨_, rfl, ?_⟩) | ((with_reducible refine gate_callee (f := 59) rfl ?_); refine goesL_ (some 11) rfl rfl Tryd.func59 (by kernel_rfl) rfl #[.pointer (some ⟨g, 0, none⟩), .int .i64 0] rfl (by (try simp only [List.map_toArray, List.map_cons, List.map_nil]); first | done | rfl | (simp only [List.length_drop, List.length_take]; rfl)) ?_; (with_reducible refine (script_line_fail.calls g t141 t142 t143 t144 0 t146 t147 t148 t149 w0 _ ?side1 ?side2 A10.out).mono ?_); (case side1 => repeat (first | (with_reducible first | exact HI0.out | apply IsS109.alloc | apply IsS109.drewN | apply IsS109.drew | apply IsS109.set_0 | apply IsS109.set_1 | apply IsS109.set_2 | apply IsS109.set_3) | exact HI0.out)); (case side2 => repeat (first | (with_reducible first | exact HB.out | apply below_alloc | apply pw_below_drewN | apply below_drew1 | refine below_set ?_ (IsS109.ge HI0.out)) | exact HB.out)); rintro e w13 ⟨rfl, hi, hb, hk⟩; refine ⟨_, rfl, ?_⟩; have n0_ := Aside0.mk (KeepBut.trans (by repeat (first | (with_reducible first | exact HK.out | apply KeepBut.set_ | apply keep_drewN | apply keep_drew | apply keep_alloc) | exact HK.out)) hk (.inl rfl)); have n1_ := Aside0.mk (hb); have n2_ := Aside0.mk (hi); clear HK; clear HB; clear HI0; have HK := n0_; have HB := n1_; have HI0 := n2_; clear n0_ n1_ n2_; (try clear hb); (try clear hb2); (try clear hk); (try clear hi)))
      first | go_end0 | ((try simp only [Exit.inBlock, Exit.then]); refine bodyPost_ret (results_none rfl _ _ _) rfl ?_)
      exact ⟨by first | rfl | (simp [errW_none, errW_some] <;> rfl) | (simp [*, errW_none, errW_some] <;> rfl), by repeat (first | (with_reducible first | exact HI0.out | apply IsS109.alloc | apply IsS109.drewN | apply IsS109.drew | apply IsS109.set_0 | apply IsS109.set_1 | apply IsS109.set_2 | apply IsS109.set_3) | exact HI0.out), by repeat (first | (with_reducible first | exact HB.out | apply below_alloc | apply pw_below_drewN | apply below_drew1 | refine below_set ?_ (IsS109.ge HI0.out)) | exact HB.out), by repeat (first | (with_reducible first | exact HK.out | apply KeepBut.set_ | apply keep_drewN | apply keep_drew | apply keep_alloc) | exact HK.out)⟩

def strings_IndexByte.f (a0 : ByteArray) (a1 : Int) : Option Int := some (Lib.indexByte a0.data.toList a1.toNat.toUInt8)
theorem strings_IndexByte.calls (a0 : ByteArray) (a1 : Int) (r : Int) (w : World) (h : strings_IndexByte.f a0 a1 = some r) :
    Calls Tryd.prog 107 #[.string a0, .int .u8 a1] w fun e w' => e = .returned (.int .i64 r) ∧ Drawn0 w w' := by
  obtain rfl := Option.some.inj h
  exact (Tryd.strings_IndexByte a0 a1 w).mono fun e w' hh => ⟨hh.1, 0, hh.2⟩

end Go.Proofs.YtnbfebjcfhbhiaaDoor.P
end
section
namespace Go.Proofs.YtnbfebjcfhbhiaaDoor.Sc
open Go Go.RowKit Go.Proofs.YtnbfebjcfhbhiaaDoor.P Go.Proofs.YtnbfebjcfhbhiaaDoorW.PrintWords Go.Proofs.YtnbfebjcfhbhiaaDoorW.PrintLast Go.Proofs.YtnbfebjcfhbhiaaDoorW.PrintMore
set_option linter.unusedVariables false
set_option linter.unusedSimpArgs false
def bs (s : ByteArray) : By := s.data.toList
def sb (l : By) : ByteArray := ⟨l.toArray⟩
theorem bs_sb (l : By) : bs (sb l) = l := by simp [bs, sb]
theorem sb_bs (s : ByteArray) : sb (bs s) = s := by cases s; simp [bs, sb]
theorem bs_len (s : ByteArray) : (bs s).length = s.size := by cases s; simp [bs, ByteArray.size]
theorem toList_bs (s : ByteArray) : s.toList = bs s := ByteArray.toList_eq s
theorem bs_inj {s t : ByteArray} (h : bs s = bs t) : s = t := by rw [← sb_bs s, h, sb_bs]
theorem bs_extract (s : ByteArray) (a b : Nat) : bs (s.extract a b) = ((bs s).take b).drop a := by
  unfold bs
  rw [ByteArray.data_extract, Array.toList_extract, List.extract_eq_take_drop, List.take_drop]
  by_cases h : a ≤ b
  · rw [Nat.add_sub_cancel' h]
  · rw [Nat.sub_eq_zero_of_le (by omega), Nat.add_zero]
    rw [List.drop_eq_nil_of_le (by rw [List.length_take]; omega), List.drop_eq_nil_of_le (by rw [List.length_take]; omega)]
/-- Where the reader stands. -/
def LSt (t : By) (r : R Unit) (at_ : Int) (bad : Bool) : Prop := match r with
  | .good _ l => bad = false ∧ ∃ p, t = p ++ l ∧ at_ = (p.length : Int)
  | .bad l => bad = true ∧ ∃ p, t = p ++ l ∧ at_ = (p.length : Int)
/-- What a reader does to where it stands. -/
def Pst {α : Type} (p : Rd α) (r : R Unit) (x : α) (r' : R Unit) : Prop := match r with
  | .good _ l => (match p l with
    | .good y l' => x = y ∧ r' = .good () l'
    | .bad l' => r' = .bad l')
  | .bad l => r' = .bad l
theorem Pst.bnd {α β : Type} {p : Rd α} {q : α → Rd β} {r r1 r2 : R Unit} {x : α} {y : β} (h1 : Pst p r x r1) (h2 : Pst (q x) r1 y r2) : Pst (fun l => (p l).bnd q) r y r2 := by
  unfold Pst at *
  match r, h1 with
  | .bad l, h1 =>
    obtain rfl : r1 = .bad l := h1
    exact h2
  | .good _ l, h1 =>
    simp only at h1 ⊢
    cases hp : p l with
    | good z l' =>
      rw [hp] at h1
      obtain ⟨rfl, rfl⟩ := h1
      simpa [R.bnd] using h2
    | bad l' =>
      rw [hp] at h1
      obtain rfl := h1
      simpa [R.bnd] using h2
theorem Pst.ret {α : Type} (x : α) (r : R Unit) : Pst (one x) r x r := by
  unfold Pst one
  cases r <;> simp
theorem rest_f {t : ByteArray} {u : Unit} {l : By} {at_ : Int} {w bad : Bool} (h : LSt (bs t) (.good u l) at_ bad) : script_line_rest.f t at_ w bad = some (sb l, t, at_, w, bad) := by
  obtain ⟨rfl, p, hp, rfl⟩ := h
  have hl : p.length + l.length = t.size := by rw [← bs_len, hp, List.length_append]
  have he : t.extract p.length t.size = sb l := by
    apply bs_inj
    rw [bs_extract, bs_sb, ← bs_len, List.take_length, hp, List.drop_left]
  unfold script_line_rest.f
  rw [if_pos (by omega), if_pos (by omega), Int.toNat_natCast, he]
theorem pre_f (s p : ByteArray) : strings_HasPrefix.f s p = some (decide ((bs p) <+: (bs s))) := by
  unfold strings_HasPrefix.f stringslite_HasPrefix.f
  have h1 := bs_len s
  have h2 := bs_len p
  by_cases hl : p.size ≤ s.size
  · rw [if_pos (by omega), if_pos (by omega), if_pos (by omega), Option.bind_some]
    congr 1
    rw [toList_bs, toList_bs, bs_extract, Int.toNat_natCast, List.drop_zero]
    rw [Bool.eq_iff_iff, beq_iff_eq, decide_eq_true_iff, List.prefix_iff_eq_take, h2]
    exact eq_comm
  · rw [if_neg (by omega), Option.bind_some]
    congr 1
    symm
    rw [decide_eq_false_iff_not]
    intro h
    have := h.length_le
    omega
theorem fail_f {t : ByteArray} {l : By} {at_ n : Int} {w bad : Bool} {u : Unit} (h : LSt (bs t) (.good u l) at_ bad) (k : Nat) (hn : n = (k : Int)) (hk : k ≤ l.length) (hs : t.size ≤ 4611686018427387904) :
    ∃ at', script_line_fail.f t at_ w bad n = some (t, at', w, true) ∧ LSt (bs t) (.bad (l.drop k)) at' true := by
  obtain ⟨rfl, p, hp, rfl⟩ := h
  have hl : p.length + l.length = t.size := by rw [← bs_len, hp, List.length_append]
  subst hn
  refine ⟨(p.length : Int) + k, ?_, rfl, p ++ l.take k, by rw [List.append_assoc, List.take_append_drop]; exact hp, by rw [List.length_append, List.length_take, Nat.min_eq_left hk]; omega⟩
  unfold script_line_fail.f
  rw [if_neg (by decide), IntWalk.wrap64_in _ ⟨by omega, by omega⟩]
theorem blank_f (t : ByteArray) (r : R Unit) (at_ : Int) (w bad : Bool) (h : LSt (bs t) r at_ bad) (hs : t.size ≤ 4611686018427387904) :
    ∃ at' bad' r', script_line_blank.f t at_ w bad = some (t, at', w, bad') ∧ LSt (bs t) r' at' bad' ∧ Pst (byteP 32) r () r' := by
  unfold script_line_blank.f
  match r, h with
  | .bad l, h =>
    obtain ⟨rfl, hh⟩ := h
    exact ⟨at_, true, .bad l, by rw [if_pos rfl], ⟨rfl, hh⟩, rfl⟩
  | .good u l, h =>
    have hb := h.1
    rw [if_neg (by rw [hb]; decide), rest_f h, Option.bind_some, pre_f]
    simp only [Option.bind_some, bs_sb]
    obtain ⟨rfl, p, hp, rfl⟩ := h
    have hl : p.length + l.length = t.size := by rw [← bs_len, hp, List.length_append]
    match l, hp, hl with
    | [], hp, hl =>
      obtain ⟨at', h1, h2⟩ := fail_f (w := w) (n := 0) (u := ()) ⟨rfl, p, hp, rfl⟩ 0 rfl (Nat.zero_le _) hs
      refine ⟨at', true, .bad [], ?_, h2, rfl⟩
      rw [if_neg (by simp [bs]), h1, Option.bind_some]
    | c :: l, hp, hl =>
      by_cases hc : c = 32
      · subst hc
        refine ⟨(p.length : Int) + 1, false, .good () l, ?_, ⟨rfl, p ++ [32], by simpa using hp, by simp⟩, by simp [Pst, byteP]⟩
        simp only [List.length_cons] at hl
        rw [if_pos (by simp [bs]), IntWalk.wrap64_in _ ⟨by omega, by omega⟩]
      · obtain ⟨at', h1, h2⟩ := fail_f (w := w) (n := 0) (u := ()) ⟨rfl, p, hp, rfl⟩ 0 rfl (Nat.zero_le _) hs
        refine ⟨at', true, .bad (c :: l), ?_, h2, by simp [Pst, byteP, hc]⟩
        rw [if_neg (by simp [bs]; exact fun e => hc e.symm), h1, Option.bind_some]
theorem ends_f (t : ByteArray) (r : R Unit) (at_ : Int) (w bad : Bool) (h : LSt (bs t) r at_ bad) (hs : t.size ≤ 4611686018427387904) :
    ∃ at' bad', script_line_ends.f t at_ w bad = some (t, at', w, bad') ∧ match r with
      | .good _ [] => if w = true then bad' = false else bad' = true ∧ at' = (t.size : Int)
      | .good _ (c :: l) => bad' = true ∧ at' = (t.size : Int) - ((c :: l).length : Int)
      | .bad l => bad' = true ∧ at' = (t.size : Int) - (l.length : Int) := by
  unfold script_line_ends.f
  match r, h with
  | .bad l, h =>
    obtain ⟨rfl, p, hp, rfl⟩ := h
    have hl : p.length + l.length = t.size := by rw [← bs_len, hp, List.length_append]
    exact ⟨_, true, by rw [if_pos rfl], rfl, by omega⟩
  | .good u l, h =>
    have hb := h.1
    rw [if_neg (by rw [hb]; decide)]
    have h0 := h
    obtain ⟨rfl, p, hp, rfl⟩ := h
    have hl : p.length + l.length = t.size := by rw [← bs_len, hp, List.length_append]
    obtain ⟨at', h1, h2⟩ := fail_f (w := w) (n := 0) h0 0 rfl (Nat.zero_le _) hs
    obtain ⟨_, q, hq, rfl⟩ := h2
    rw [List.drop_zero] at hq
    have hl2 : q.length + l.length = t.size := by rw [← bs_len, hq, List.length_append]
    match l, hp, hl, hl2 with
    | [], hp, hl, hl2 =>
      simp only [List.length_nil] at hl hl2
      rw [if_neg (by omega)]
      by_cases hw : w = true
      · exact ⟨_, false, by rw [if_pos hw], by rw [if_pos hw]⟩
      · refine ⟨(q.length : Int), true, by rw [if_neg hw, h1, Option.bind_some], ?_⟩
        rw [if_neg hw]
        exact ⟨rfl, by omega⟩
    | c :: l, hp, hl, hl2 =>
      simp only [List.length_cons] at hl hl2
      rw [if_pos (by omega), h1, Option.bind_some]
      exact ⟨(q.length : Int), true, rfl, rfl, by simp only [List.length_cons]; omega⟩
end Go.Proofs.YtnbfebjcfhbhiaaDoor.Sc
end
