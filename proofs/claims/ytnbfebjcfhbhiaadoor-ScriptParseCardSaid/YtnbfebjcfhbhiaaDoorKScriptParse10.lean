/- texts that the proof needs, laid together by a program of this session. -/
import Derived.Lib.OthersKept
import Derived.Laws.Strings2
import Derived.Laws.ResultCell
import Derived.Lib.ItoaLen
import Derived.Lib.ItoaMem
import Derived.BigRegion
import Derived.Test.YtnbfebjcfhbhiaaDoorKScriptParse9
section
namespace Go.Proofs.YtnbfebjcfhbhiaaDoor.Lw
open Go Go.RowKit Go.Proofs.YtnbfebjcfhbhiaaDoor.P Go.Proofs.YtnbfebjcfhbhiaaDoor.Sc Go.Proofs.YtnbfebjcfhbhiaaDoorW.PrintWords Go.Proofs.YtnbfebjcfhbhiaaDoorW.PrintLast Go.Proofs.YtnbfebjcfhbhiaaDoorW.PrintMore
set_option linter.unusedVariables false
set_option linter.unusedSimpArgs false
theorem inf107 : (Tryd.prog.info? 107).map (fun i => (i.zero, i.size, i.bytes)) = some (some (.pointer none), 1, 8) := by kernel_rfl
set_option maxHeartbeats 8000000 in
set_option maxRecDepth 100000 in
theorem lines_calls (w : World) (s : ByteArray) (hs : s.size ≤ 1048576) :
    Calls Tryd.prog 35 #[.string s] w fun e w' => ∃ v ks, e = .returned v ∧ LN w' w.heap.size v ks (Sc.lines (bs s)) ∧ Below w.heap.size w w' := by
  have HS := Aside0.mk hs
  have HL : Aside0 (LK w (w.iter s 0) s (.slice none 0 0) 0 0 [] []) := ⟨⟨Pos.zero s, World.iter_heap w s 0, LN.nil _ _, (Below.refl _ _).alloc (Nat.le_refl _) _, Nat.zero_le _⟩⟩
  clear hs
  go_enter Tryd.func35, Tryd.ntmps35
  go_wp2_with fail
  go_loopw [3, 4, 5, 6] (fun v3 v4 _ _ wr => Aside0 (∃ pos f : Nat, ∃ ks ls, v4 = .int .i64 f ∧ LK w wr s v3 pos f ks ls)) (fun _ _ _ _ wr => s.size - wr.iterPos w.heap.size)
  case atStart => exact ⟨0, 0, [], [], rfl, HL.out⟩
  case round =>
    obtain ⟨pos, f, ks, ls, rfl, hK⟩ := hrel.out
    have HK := Aside0.mk hK
    have hmu : wr.iterPos w.heap.size = pos := by simp [World.iterPos, hK.it]
    have HMU := Aside0.mk hmu
    clear hrel HL
    by_cases hp : pos < s.size
    · have hnext : ∀ ty, (Instr.next (.pointer (some ⟨w.heap.size, 0, none⟩)) true ty).run Tryd.prog wr = _ := fun ty => Lib.run_next_any_at wr w.heap.size s pos ty hK.it hp
      have hit := fun p2 => hK.iter p2
      by_cases hn : (s[pos]'hp).toNat = 10
      · have hd := (decode_nl s pos hp).1 hn
        rw [hd] at hnext
        have hi := hit (pos + 1)
        have HI := Aside0.mk hi
        have HP : Aside0 (Pos s (ls ++ [(bs (s.extract f pos), true)]) (pos + 1) (pos + 1)) := ⟨hK.ps.line hp hn⟩
        have h1 : (f : Int) ≤ (pos : Int) := by have := hK.ps.1; omega
        have h2 : (pos : Int) < (s.size : Int) := by omega
        have h3 : (s.size : Int) ≤ 1048576 := by have := HS.out; omega
        have h4 : (pos : Int) ≤ (s.size : Int) := by omega
        have hsl : (Instr.slice 9 (.string s) (some (.int .i64 (f : Int))) (some (.int .i64 (pos : Int))) none).run Tryd.prog (wr.iterAt w.heap.size s (pos + 1)) = .ok (.string (s.extract f pos)) (wr.iterAt w.heap.size s (pos + 1)) := run_slice_string _ 9 s .i64 .i64 f pos Tryd.underlying9 (by omega) h1 h4
        have hnl := hK.nl
        have hlen := hK.ln.len
        have H4 : Aside0 (ks.length + 1 ≤ 1048576 + 1) := ⟨by omega⟩
        clear hK hit hmu hn hd hi hnl hlen
        generalize wr.iterAt w.heap.size s (pos + 1) = W1 at hnext HI
        obtain ⟨W3, hW3⟩ : ∃ W3, W3 = (W1.alloc (.cells (lv (s.extract f pos) true) 109 (0, 0))).alloc (.cells #[pt W1.heap.size] 107 (0, 0)) := ⟨_, rfl⟩
        have HW3 := Aside0.mk hW3
        have HA := Aside0.mk (app_line HI.out.2.1 (by have := blk_lt HI.out.1; omega) (s.extract f pos) true W3 hW3)
        clear hW3
        have HNL : Aside0 (ls.length + 1 ≤ pos + 1) := ⟨by have := HK.out.nl; have := HK.out.ps.1; omega⟩
        go_wp2_with (at_builtin; rw [show (W1.alloc (.cells #[.string (s.extract f pos), .int .i64 0, .bool true, .bool false] 109)).alloc (.cells #[.pointer (some ⟨W1.heap.size, 0, none⟩)] 107) = W3 from HW3.out.symm]; refine wpList_app1 rfl _ _ 105 rfl (w.heap.size + 1) 107 (.pointer none) 1 8 Tryd.underlying105 inf107 rfl (by decide) (by decide) u3 _ _ (by rfl) HA.out.1 (W1.heap.size + 1) 1 #[pt W1.heap.size] (by rfl) HA.out.2.1 (by rfl) (by simp [pt, Value.oneCell']) (by have := H4.out; omega) HA.out.2.2.1 ?_; intro v' w' k1 k2; have HA2 := Aside0.mk (HA.out.2.2.2.2 v' w' k1 k2); clear k1 k2)
        have hit2 : w'.heap[w.heap.size]? = some (.stringIter s (pos + 1)) := ((HA2.out.2 _ _ (Nat.le_refl _) (Below.refl _ W1)).block _ (Nat.lt_succ_self _)).trans HI.out.1
        refine ⟨⟨pos + 1, pos + 1, _, _, by simp, ⟨HP.out, hit2, HA2.out.1, HA2.out.2 _ _ (by omega) HI.out.2.2, by rw [List.length_append]; exact HNL.out⟩⟩, ?_⟩
        have hh : w'.iterPos w.heap.size = pos + 1 := by simp [World.iterPos, hit2]
        rw [hh, HMU.out]; have := HP.out.2.1; omega
      · obtain ⟨h1, h2, h3⟩ := (decode_nl s pos hp).2 hn
        have HP : Aside0 (Pos s ls f (pos + (Utf8.decode s pos).2)) := ⟨hK.ps.skip hp hn⟩
        have hi := hit (pos + (Utf8.decode s pos).2)
        have HI := Aside0.mk hi
        have h0 := decode_le s pos
        have hw := Lib.decode_width_pos s pos hp
        obtain ⟨c, hc⟩ : ∃ c, Utf8.decode s pos = c := ⟨_, rfl⟩
        rw [hc] at hnext HP HI h1 h0 hw
        have he : (((c.1 : Nat) : Int) == 10) = false := by simp; omega
        have HN := Aside0.mk hK.nl
        have HW := Aside0.mk hw
        have HPP := Aside0.mk hp
        clear hK hit hmu hn hi h2 h3 hc hw hp
        generalize wr.iterAt w.heap.size s (pos + c.2) = W1 at hnext HI
        go_wp2_with fail
        go_roundw
        case rel => exact ⟨_, f, ks, ls, rfl, ⟨HP.out, HI.out.1, HI.out.2.1, HI.out.2.2, HN.out⟩⟩
        case measure =>
          have hh : W1.iterPos w.heap.size = pos + c.2 := by simp [World.iterPos, HI.out.1]
          rw [hh, HMU.out]; have := HPP.out; have := HW.out; omega
    · have hnext : ∀ ty, (Instr.next (.pointer (some ⟨w.heap.size, 0, none⟩)) true ty).run Tryd.prog wr = _ := fun ty => Lib.run_next_end_at wr w.heap.size s pos ty hK.it hp
      have HD := Aside0.mk (hK.ps.done hp)
      have h0 : (0 : Int) ≤ (f : Int) := by omega
      have h3 : (s.size : Int) ≤ 1048576 := by have := HS.out; omega
      have H4 : Aside0 (ks.length + 1 ≤ 1048576 + 1) := ⟨by have h1 := hK.nl; have h2 := hK.ln.len; have h3 := hK.ps.1; have h4 := hK.ps.2.1; have := HS.out; omega⟩
      have HB : Aside0 (w.heap.size + 1 ≤ wr.heap.size) := ⟨blk_lt hK.it⟩
      clear hK hmu
      by_cases hf : f < s.size
      · have h1 : (f : Int) < (s.size : Int) := by omega
        have hsl : (Instr.slice 9 (.string s) (some (.int .i64 (f : Int))) none none).run Tryd.prog wr = .ok (.string (s.extract f s.size)) wr := run_slice_string_l _ 9 s Tryd.underlying9 .i64 f (by omega) (by omega)
        obtain ⟨W3, hW3⟩ : ∃ W3, W3 = (wr.alloc (.cells (lv (s.extract f s.size) false) 109 (0, 0))).alloc (.cells #[pt wr.heap.size] 107 (0, 0)) := ⟨_, rfl⟩
        have HW3 := Aside0.mk hW3
        have HA := Aside0.mk (app_line HK.out.ln HB.out (s.extract f s.size) false W3 hW3)
        clear hW3
        go_wp2_with (at_builtin; rw [show (wr.alloc (.cells #[.string (s.extract f s.size), .int .i64 0, .bool false, .bool false] 109)).alloc (.cells #[.pointer (some ⟨wr.heap.size, 0, none⟩)] 107) = W3 from HW3.out.symm]; refine wpList_app1 rfl _ _ 105 rfl (w.heap.size + 1) 107 (.pointer none) 1 8 Tryd.underlying105 inf107 rfl (by decide) (by decide) u3 _ _ (by rfl) HA.out.1 (wr.heap.size + 1) 1 #[pt wr.heap.size] (by rfl) HA.out.2.1 (by rfl) (by simp [pt, Value.oneCell']) (by have := H4.out; omega) HA.out.2.2.1 ?_; intro v' w' k1 k2; have HA2 := Aside0.mk (HA.out.2.2.2.2 v' w' k1 k2); clear k1 k2)
        go_ret
        refine ⟨v', ks ++ [wr.heap.size], rfl, ?_, HA2.out.2 _ _ (by omega) HK.out.bl⟩
        rw [HD.out, if_pos hf]
        have := HA2.out.1
        exact ⟨own_weaken this.own (by omega), this.len, fun j k x a b => ⟨(this.at_ j k x a b).1, by have := (this.at_ j k x a b).2; omega⟩, this.nd⟩
      · have h1 : (s.size : Int) ≤ (f : Int) := by omega
        go_wp2_with fail
        go_ret
        refine ⟨u3, ks, rfl, ?_, HK.out.bl⟩
        rw [HD.out, if_neg hf, List.append_nil]
        have := HK.out.ln
        exact ⟨own_weaken this.own (by omega), this.len, fun j k x a b => ⟨(this.at_ j k x a b).1, by have := (this.at_ j k x a b).2; omega⟩, this.nd⟩
end Go.Proofs.YtnbfebjcfhbhiaaDoor.Lw
end
section
namespace Go.Proofs.YtnbfebjcfhbhiaaDoor.Lw
open Go Go.RowKit Go.Proofs.YtnbfebjcfhbhiaaDoor.P Go.Proofs.YtnbfebjcfhbhiaaDoor.Sc Go.Proofs.YtnbfebjcfhbhiaaDoorW.PrintWords Go.Proofs.YtnbfebjcfhbhiaaDoorW.PrintLast Go.Proofs.YtnbfebjcfhbhiaaDoorW.PrintMore
set_option linter.unusedVariables false
set_option linter.unusedSimpArgs false
def stS (x : St) : S48 := ⟨x.kind, x.rep, ⟨x.ses, x.id⟩, ⟨x.ok, sb x.name, x.a, x.b⟩, x.i, x.j, nums x.data⟩
theorem st_M {W : World} {base : Nat} {ok : Nat → Prop} {x : St} {dv : Value} (h : Kd.R (Kd.int .u8) 5 W base ok dv (nums x.data)) : Kd.M k48 W base ok (stS x) (stc x dv).toList := k48_mkM W base ok (stS x) h
theorem lines_len : ∀ l : By, (Sc.lines l).length ≤ l.length
  | [] => Nat.le_refl _
  | c :: l => by
    have ih := lines_len l
    rw [Sc.lines]
    split
    · simpa using ih
    · split
      · simp
      · rename_i h; rw [h] at ih; simp at ih ⊢; omega
theorem lines_le : ∀ (l : By) (x : By × Bool), x ∈ Sc.lines l → x.1.length ≤ l.length
  | [], x, h => by simp [Sc.lines] at h
  | c :: l, x, h => by
    have ih := lines_le l
    rw [Sc.lines] at h
    split at h
    · rcases List.mem_cons.1 h with rfl | h
      · simp
      · have := ih x h; simp; omega
    · split at h
      · simp at h; subst h; simp
      · rename_i t w r hr
        rw [hr] at ih
        rcases List.mem_cons.1 h with rfl | h
        · have := ih (t, w) (by simp); simp at this ⊢; omega
        · have := ih x (by simp [h]); simp; omega
structure PS (w wr : World) (Ls : List (By × Bool)) (v : Value) (ks : List Nat) (i : Nat) (cfg : Option (List Int)) (out : List St) (vo : Value) : Prop where
  row : wr.ownsRow w.heap.size 107 1 v ks.length (ks.map pt)
  len : ks.length = Ls.length
  at_ : ∀ (j k : Nat) (x : By × Bool), i ≤ j → ks[j]? = some k → Ls[j]? = some x → wr.heap[k]? = some (.cells (lc x) 109 (0, 0)) ∧ w.heap.size ≤ k
  nd : ks.Nodup
  cf : wr.heap[w.heap.size + 1]? = some (.cells (cfc (cfg.getD [])) 25 (0, 0))
  rv : wr.heap[w.heap.size]? = some (.cells (cfc []) 25 (0, 0))
  out_ : Kd.R k48 48 wr w.heap.size (fun _ => True) vo (out.map stS)
  bl : Below w.heap.size w wr
  ol : out.length ≤ i
  cl : ∀ c, cfg = some c → c.length = 10
section
variable {w wr w1 : World} {Ls : List (By × Bool)} {v vo vo' : Value} {ks : List Nat} {i g : Nat} {cfg : Option (List Int)} {out : List St} {x : By × Bool}
theorem PS.below (h : PS w wr Ls v ks i cfg out vo) (hb : Below wr.heap.size wr w1) : PS w w1 Ls v ks i cfg out vo := by
  refine ⟨own_move h.row (fun k hk => ?_), h.len, fun j k x a b c => ?_, h.nd, (hb.block _ (blk_lt h.cf)).trans h.cf, (hb.block _ (blk_lt h.rv)).trans h.rv, Kd.R_below h.out_ hb, h.bl.trans (hb.mono h.bl.size), h.ol, h.cl⟩
  · obtain ⟨cells, hc⟩ := own_typed h.row k hk
    exact hb.block _ (blk_lt hc)
  · obtain ⟨k1, k2⟩ := h.at_ j k x a b c
    exact ⟨(hb.block _ (blk_lt k1)).trans k1, k2⟩
/-- The line at hand. -/
theorem PS.line (h : PS w wr Ls v ks i cfg out vo) (hk : ks[i]? = some g) (hx : Ls[i]? = some x) : wr.heap[g]? = some (.cells (lc x) 109 (0, 0)) ∧ w.heap.size ≤ g := h.at_ i g x (Nat.le_refl _) hk hx
theorem PS.next (h : PS w wr Ls v ks i cfg out vo) (hk : ks[i]? = some g) (hx : Ls[i]? = some x) (hb : KeepBut wr w1 g none) (hw : Below w.heap.size w w1) : PS w w1 Ls v ks (i + 1) cfg out vo := by
  obtain ⟨hg, hgw⟩ := h.line hk hx
  have mv : ∀ (k : Nat) (cells : Array Value) (T : Nat), T ≠ 109 → wr.heap[k]? = some (Obj.cells cells T (0, 0)) → w1.heap[k]? = wr.heap[k]? := fun k cells T hT hc => hb.2 k (blk_lt hc) (fun e => by subst e; rw [hg] at hc; simp at hc; exact hT hc.2.symm) (by simp)
  refine ⟨own_move h.row (fun k hk => ?_), h.len, fun j k x a b c => ?_, h.nd, (mv _ _ _ (by decide) h.cf).trans h.cf, (mv _ _ _ (by decide) h.rv).trans h.rv, ?_, hw, Nat.le_succ_of_le h.ol, h.cl⟩
  · obtain ⟨cells, hc⟩ := own_typed h.row k hk
    exact mv _ _ _ (by decide) hc
  · obtain ⟨k1, k2⟩ := h.at_ j k x (by omega) b c
    refine ⟨(hb.2 k (blk_lt k1) (fun e => ?_) (by simp)).trans k1, k2⟩
    subst e
    obtain ⟨hi, ei⟩ := List.getElem?_eq_some_iff.1 hk
    obtain ⟨hj, ej⟩ := List.getElem?_eq_some_iff.1 b
    have := (List.getElem_inj h.nd).1 (ei.trans ej.symm)
    omega
  · exact Kd.R_mono (Kd.R_keep (Kd.R_types h.out_ hg (by decide)) hb (fun k hk => hk.2)) (fun _ _ => trivial)
theorem PS.skip (h : PS w wr Ls v ks i cfg out vo) : PS w wr Ls v ks (i + 1) cfg out vo :=
  ⟨h.row, h.len, fun j k x a b c => h.at_ j k x (by omega) b c, h.nd, h.cf, h.rv, h.out_, h.bl, Nat.le_succ_of_le h.ol, h.cl⟩
theorem PS.cfg_ (h : PS w wr Ls v ks i none out vo) (c : List Int) (hc : c.length = 10) : PS w (wr.setRow (w.heap.size + 1) (cfc c)) Ls v ks i (some c) out vo := by
  have mv : ∀ (k : Nat) (cells : Array Value) (T : Nat), T ≠ 25 → wr.heap[k]? = some (Obj.cells cells T (0, 0)) → (wr.setRow (w.heap.size + 1) (cfc c)).heap[k]? = wr.heap[k]? := fun k cells T hT hq => setRow_far (fun e => by subst e; rw [h.cf] at hq; simp at hq; exact hT hq.2.symm) _
  refine ⟨own_move h.row (fun k hk => ?_), h.len, fun j k x a b cc => ?_, h.nd, setRow_blk h.cf _, (setRow_far (by omega) _).trans h.rv, ?_, below_setRow h.bl (by omega) _, h.ol, fun c' e => by cases e; exact hc⟩
  · obtain ⟨cells, hq⟩ := own_typed h.row k hk
    exact mv _ _ _ (by decide) hq
  · obtain ⟨k1, k2⟩ := h.at_ j k x (by omega) b cc
    exact ⟨(mv _ _ _ (by decide) k1).trans k1, k2⟩
  · exact Kd.R_mono (Kd.R_step (Kd.R_types h.out_ h.cf (by decide)) (fun k hk _ => setRow_far hk.2 _)) (fun _ _ => trivial)
theorem PS.app {y : St} (h : PS w wr Ls v ks i cfg out vo) (hi : out.length < i) (hr : Kd.R k48 48 w1 w.heap.size (fun _ => True) vo' (out.map stS ++ [stS y])) (hb : Below w.heap.size w w1) (hg : wr.grownBy w1 vo.ownBlock) : PS w w1 Ls v ks i cfg (out ++ [y]) vo' := by
  have mv : ∀ (k : Nat) (cells : Array Value) (T : Nat), T ≠ 48 → wr.heap[k]? = some (Obj.cells cells T (0, 0)) → w1.heap[k]? = wr.heap[k]? := fun k cells T hT hq => hg.block k (blk_lt hq) (fun e => by
    obtain ⟨c2, hc2⟩ := Kd.R_typed h.out_ k e.symm
    rw [hq] at hc2; simp at hc2; exact hT hc2.2)
  refine ⟨own_move h.row (fun k hk => ?_), h.len, fun j k x a b cc => ?_, h.nd, (mv _ _ _ (by decide) h.cf).trans h.cf, (mv _ _ _ (by decide) h.rv).trans h.rv, by simpa using hr, hb, by simp; omega, h.cl⟩
  · obtain ⟨cells, hq⟩ := own_typed h.row k hk
    exact mv _ _ _ (by decide) hq
  · obtain ⟨k1, k2⟩ := h.at_ j k x (by omega) b cc
    exact ⟨(mv _ _ _ (by decide) k1).trans k1, k2⟩
end
/-- What Parse promises. -/
def ParseP (w w' : World) (o : Out) (e : Ending) : Prop := match o with
  | .long => e = .returned (.tuple #[.agg (cfc []), .slice none 0 0, .int .i64 0, .int .i64 0, .int .i64 2])
  | .place l c => e = .returned (.tuple #[.agg (cfc []), .slice none 0 0, .int .i64 l, .int .i64 c, .int .i64 180])
  | .ok c l => ∃ v, e = .returned (.tuple #[.agg (cfc c), v, .int .i64 0, .int .i64 0, .int .i64 0]) ∧ c.length = 10 ∧ Kd.R k48 48 w' w.heap.size (fun _ => True) v (l.map stS)
theorem results_cell5 {P : Program} {fn : Func} {p a b c d : Tmp} {ty : TypeId} (h : fn.results = #[.cell p ty, .tmp a, .tmp b, .tmp c, .tmp d]) (tmps : Array Value) (w : World) (g : Nat) (t : TypeId) (cs : Array Value) (fr : Nat × Nat) (dd : TypeDesc)
    (hp : tmps.getD p undef = .pointer (some ⟨g, 0, none⟩)) (hg : w.heap[g]? = some (.cells cs t fr))
    (hu : P.underlying ty = some dd) (hd : (match dd with | .struct _ | .array _ _ => true | _ => false) = true) (hi : (P.info? ty).map (·.size) = some cs.size) :
    (results fn tmps).run P w = .ok (.tuple #[.agg cs, tmps.getD a undef, tmps.getD b undef, tmps.getD c undef, tmps.getD d undef]) w := by
  have hp' : tmps[p]?.getD undef = .pointer (some ⟨g, 0, none⟩) := by simpa using hp
  simp [results, h, hp', asAddr, run_loadVar_row w g t ty cs fr dd hg hu hd hi]
end Go.Proofs.YtnbfebjcfhbhiaaDoor.Lw
end
section
namespace Go.Proofs.YtnbfebjcfhbhiaaDoor.Bw
open Go Go.RowKit Go.Proofs.YtnbfebjcfhbhiaaDoor.P Go.Proofs.YtnbfebjcfhbhiaaDoor.Sc Go.Proofs.YtnbfebjcfhbhiaaDoor.Lw Go.Proofs.YtnbfebjcfhbhiaaDoorW.PrintWords Go.Proofs.YtnbfebjcfhbhiaaDoorW.PrintLast Go.Proofs.YtnbfebjcfhbhiaaDoorW.PrintMore
set_option linter.unusedVariables false
set_option linter.unusedSimpArgs false
def cfgTellN (c : List Int) (i : Nat) : List By := (List.range i).flatMap fun j => [cfgW j, numW (c.getD j 0)]
def cfgTell (c : List Int) : List By := cfgTellN c 10
theorem cfgTellN_succ (c : List Int) (i : Nat) : cfgTellN c (i + 1) = cfgTellN c i ++ [cfgW i, numW (c.getD i 0)] := by simp [cfgTellN, List.range_succ]
theorem cfgTellN_le (c : List Int) : ∀ (d i : Nat), lenW (cfgTellN c i) ≤ lenW (cfgTellN c (i + d))
  | 0, i => Nat.le_refl _
  | d + 1, i => by
    have := cfgTellN_le c d i
    rw [← Nat.add_assoc, cfgTellN_succ, lenW_append]; omega
/-- Nothing is left to be told. -/
def blank (y : St) : Bool := y.rep == 0 && (y.ses == 0 && y.id == 0) && (y.ok == 0 && y.name == [] && y.a == 0 && y.b == 0) && y.i == 0 && y.j == 0 && y.data == []
theorem blank_iff (y : St) : blank y = true ↔ y.rep = 0 ∧ y.ses = 0 ∧ y.id = 0 ∧ y.ok = 0 ∧ (sb y.name).toList = [] ∧ y.a = 0 ∧ y.b = 0 ∧ y.i = 0 ∧ y.j = 0 ∧ ¬ 0 < y.data.length := by
  rw [toList_bs, bs_sb, Nat.not_lt, Nat.le_zero_eq, List.length_eq_zero_iff]
  simp only [blank, Bool.and_eq_true, beq_iff_eq]
  constructor
  · rintro ⟨⟨⟨⟨⟨a, b, c⟩, ⟨⟨d, e⟩, f⟩, g⟩, h⟩, i⟩, j⟩; exact ⟨a, b, c, d, e, f, g, h, i, j⟩
  · rintro ⟨a, b, c, d, e, f, g, h, i, j⟩; exact ⟨⟨⟨⟨⟨a, b, c⟩, ⟨⟨d, e⟩, f⟩, g⟩, h⟩, i⟩, j⟩
def goodL (x : St) : Bool := (tellStep x.kind x).1 && blank (tellStep x.kind x).2.2
def printGo : List St → TS → Option TS
  | [], s => some s
  | x :: l, s => if goodL x then printGo l (endL (addWs s (tellStep x.kind x).2.1)) else none
def cfgTS (c : List Int) : TS := endL (addWs ([], false) (cfgTell c))
/-- The text, or the error. -/
def printR (c : List Int) (l : List St) : By × Int := if 20000 < l.length then ([], 2) else match printGo l (cfgTS c) with
  | none => ([], 1)
  | some s => if 1048576 < s.1.length then ([], 2) else (s.1, 0)
def lenL : List St → Nat
  | [] => 0
  | x :: l => lenW (tellStep x.kind x).2.1 + 1 + lenL l
theorem addW_len' (s : TS) (w : By) : s.1.length + w.length ≤ (addW s w).1.length ∧ (s.2 = true → (addW s w).1.length = s.1.length + w.length + 1) := by
  unfold addW
  simp only
  constructor
  · split <;> simp
  · intro h; rw [if_pos h]; simp; omega
theorem addWs_len' : ∀ (ws : List By) (s : TS), s.1.length + lenW ws ≤ (addWs s ws).1.length + 1
  | [], s => by simp [addWs, lenW]
  | w :: ws, s => by
    have h1 := addW_len' s w
    have h2 : (addW s w).2 = true := rfl
    show s.1.length + lenW (w :: ws) ≤ (addWs (addW s w) ws).1.length + 1
    have h3 : ∀ (ws : List By) (s : TS), s.2 = true → s.1.length + lenW ws = (addWs s ws).1.length := by
      intro ws
      induction ws with
      | nil => intro s _; simp [addWs, lenW]
      | cons w ws ih =>
        intro s hs
        have h4 := (addW_len' s w).2 hs
        have h5 := ih (addW s w) rfl
        show s.1.length + lenW (w :: ws) = (addWs (addW s w) ws).1.length
        simp only [lenW]; omega
    have h4 := h3 ws (addW s w) rfl
    simp only [lenW]; omega
theorem endL_ne (s : TS) : (endL s).1 ≠ [] := by simp [endL]
theorem endL_len (s : TS) : (endL s).1.length = s.1.length + 1 := by simp [endL]
theorem step_cells {w : World} {A : Option Addr} {n i : Nat} {l : List St} {x : St} (h : Kd.C k48 w A n (l.map stS)) (hx : l[i]? = some x) : ∃ ad Ad cd, A = some ad ∧ w.cell? (ad.add (i * 11)) = some (.int .i64 x.kind) ∧ w.cell? ⟨(ad.add (i * 11)).block, (ad.add (i * 11)).off + 1, none⟩ = some (.int .i64 x.rep) ∧ w.cell? ⟨(ad.add (i * 11)).block, (ad.add (i * 11)).off + 2, none⟩ = some (.int .i64 x.ses) ∧ w.cell? ⟨(ad.add (i * 11)).block, (ad.add (i * 11)).off + 3, none⟩ = some (.int .i64 x.id) ∧ w.cell? ⟨(ad.add (i * 11)).block, (ad.add (i * 11)).off + 4, none⟩ = some (.int .i64 x.ok) ∧ w.cell? ⟨(ad.add (i * 11)).block, (ad.add (i * 11)).off + 5, none⟩ = some (.string (sb x.name)) ∧ w.cell? ⟨(ad.add (i * 11)).block, (ad.add (i * 11)).off + 6, none⟩ = some (.int .i64 x.a) ∧ w.cell? ⟨(ad.add (i * 11)).block, (ad.add (i * 11)).off + 7, none⟩ = some (.int .i64 x.b) ∧ w.cell? ⟨(ad.add (i * 11)).block, (ad.add (i * 11)).off + 8, none⟩ = some (.int .i64 x.i) ∧ w.cell? ⟨(ad.add (i * 11)).block, (ad.add (i * 11)).off + 9, none⟩ = some (.int .i64 x.j) ∧ w.cell? ⟨(ad.add (i * 11)).block, (ad.add (i * 11)).off + 10, none⟩ = some (.slice Ad x.data.length cd) ∧ Kd.C (Kd.int .u8) w Ad x.data.length (Sc.nums x.data) := by
  have hi := (List.getElem?_eq_some_iff.1 hx).1
  have hn : n = l.length := by have := h.1; simpa using this.symm
  obtain ⟨ad, A10, c10, e, h0, h1, h2, h3, h4, h5, h6, h7, h8, h9, h10, _, hC⟩ := at_T48 h (i : Int) (by omega) (by omega)
  have hrd : rd_T48 (l.map stS) (i : Int) = stS x := by
    unfold rd_T48
    rw [Int.toNat_natCast, List.getD_eq_getElem?_getD, List.getElem?_map, hx]; rfl
  rw [hrd] at h0 h1 h2 h3 h4 h5 h6 h7 h8 h9 h10 hC
  rw [Int.toNat_natCast] at h0 h1 h2 h3 h4 h5 h6 h7 h8 h9 h10
  have hl : (stS x).f6.length = x.data.length := by simp [stS, Sc.nums]
  rw [hl] at h10 hC
  exact ⟨ad, A10, c10, e, h0, h1, h2, h3, h4, h5, h6, h7, h8, h9, h10, hC⟩
theorem cfcI {c : List Int} (h : c.length = 10) {i : Nat} (hi : i < 10) : (cfc c)[i]? = some (.int .i64 (c.getD i 0)) := by
  have h2 : i < c.length := by omega
  have h3 : cfl c = c := by simp [cfl, h]
  unfold cfc
  rw [h3]
  simp [List.getD_eq_getElem?_getD, h2]
/-- In Print: the printer at pb, the config at cb. -/
structure PG (w w2 wr : World) (pb cb G : Nat) (r0 row : Option Nat) (c : List Int) (s : TS) : Prop where
  pr : PrS w w2 wr pb r0 row s
  cf : wr.heap[cb]? = some (.cells (cfc c) 25 (0, 0))
  gp : ∃ T, wr.heap[G]? = some (.cells (numps cb) T (0, 0))
  ne : cb ≠ pb ∧ G ≠ pb ∧ row ≠ some cb ∧ row ≠ some G ∧ cb < w2.heap.size ∧ G < w2.heap.size
theorem PG.call {w w2 wr w1 : World} {pb cb G : Nat} {r0 row r1 : Option Nat} {c : List Int} {s s' : TS} (h : PG w w2 wr pb cb G r0 row c s) (k : PrS w wr w1 pb row r1 s') : PG w w2 w1 pb cb G r0 r1 c s' := by
  obtain ⟨T, hg⟩ := h.gp
  have h1 := h.ne
  have hs := h.pr.kb.1
  refine ⟨h.pr.then_ k, (k.kb.2 cb (blk_lt h.cf) h1.1 (Ne.symm h1.2.2.1)).trans h.cf, ⟨T, (k.kb.2 G (blk_lt hg) h1.2.1 (Ne.symm h1.2.2.2.1)).trans hg⟩, ⟨h1.1, h1.2.1, fun e => ?_, fun e => ?_, h1.2.2.2.2⟩⟩
  · rcases k.rn cb e with e2 | e2
    · exact h1.2.2.1 e2.symm
    · omega
  · rcases k.rn G e with e2 | e2
    · exact h1.2.2.2.1 e2.symm
    · omega
theorem PG.gcell {w w2 wr : World} {pb cb G : Nat} {r0 row : Option Nat} {c : List Int} {s : TS} (h : PG w w2 wr pb cb G r0 row c s) {i : Nat} (hi : i < 10) : wr.cell? ⟨G, i, none⟩ = some (.pointer (some ⟨cb, i, none⟩)) := by
  obtain ⟨T, h3⟩ := h.gp
  refine (blk_cell h3 i).trans ?_
  match i, hi with
  | 0, _ => rfl | 1, _ => rfl | 2, _ => rfl | 3, _ => rfl | 4, _ => rfl | 5, _ => rfl | 6, _ => rfl | 7, _ => rfl | 8, _ => rfl | 9, _ => rfl
theorem nest_kv {w0 W wx : World} {b T : Nat} {r0 row : Option Nat} {S : TS} {n : By} {v : Int} {c : Nat} (hT : TB w0) (hX : PrS w0 W wx b r0 row S) (hf : n.length ≤ 1099511627776) (hv : inI v) (hbd : S.1.length + lenW [n, numW v] ≤ 140737488355328) :
    Calls Tryd.prog 30 #[.pointer (some ⟨b, 0, none⟩), .slice (some ⟨wx.heap.size, 0, none⟩) 2 c] (wx.alloc (.cells #[.iface 9 (.string (sb n)), .iface 3 (.int .i64 v)] T (0, 0))) fun e w' => e = .returned (.tuple #[]) ∧ ∃ r1, PrS w0 wx w' b row r1 (addWs S [n, numW v]) := by
  exact nest (l := [.str n, .int v]) (put_any _) hT hX ((Below.refl _ _).alloc (Nat.le_refl _) _) (Nat.le_refl _) (heap_alloc_new _ _) (by simp) (vs2 rfl rfl) (by intro x hx; simp only [List.mem_cons, List.not_mem_nil, or_false] at hx; rcases hx with rfl | rfl; exact hf; exact hv) hbd
theorem nest_kvd {w0 W wx : World} {b T : Nat} {r0 row : Option Nat} {S : TS} {n : By} {v : Int} {c : Nat} (hT : TB w0) (hX : PrS w0 W wx b r0 row S) (hf : n.length ≤ 1099511627776) (hv : inI v) (hbd : S.1.length + lenW [n, numW v] ≤ 140737488355328) :
    Calls Tryd.prog 30 #[.pointer (some ⟨b, 0, none⟩), .slice (some ⟨wx.heap.size, 0, none⟩) 2 c] (wx.alloc (.cells #[.iface 9 (.string (sb n)), .iface 3 (.int .i64 v)] T (0, 0))).drew fun e w' => e = .returned (.tuple #[]) ∧ ∃ r1, PrS w0 wx w' b row r1 (addWs S [n, numW v]) := by
  exact nest (l := [.str n, .int v]) (put_any _) hT hX (below_drew ((Below.refl _ _).alloc (Nat.le_refl _) _)) (Nat.le_refl _) (heap_alloc_new _ _) (by simp) (vs2 rfl rfl) (by intro x hx; simp only [List.mem_cons, List.not_mem_nil, or_false] at hx; rcases hx with rfl | rfl; exact hf; exact hv) hbd
theorem cell_ad {w : World} {a : Addr} {v : Value} {o : Obj} (h : w.cell? a = some v) : (w.alloc o).drew.cell? a = some v := pw_cell_below (below_drew ((Below.refl _ _).alloc (Nat.le_refl _) _)) h
theorem cfgW_le {i : Nat} (h : i < 10) : (cfgW i).length ≤ 1099511627776 := by
  have : ∀ i : Fin 10, (cfgW i.val).length ≤ 1099511627776 := by decide
  exact this ⟨i, h⟩
set_option maxHeartbeats 32000000 in
set_option maxRecDepth 100000 in
theorem print_calls (w : World) (c : List Int) (l : List St) (A : Option Addr) (cp : Nat) (hT : TB w) (hV : VS w) (hVC : VC w) (hc : c.length = 10) (hci : ∀ i < 10, inI (c.getD i 0)) (hC : Kd.C k48 w A l.length (l.map stS)) (hf : ∀ x ∈ l, sfit x) (hB : (cfgTS c).1.length + lenL l ≤ 140737488355328) :
    Calls Tryd.prog 14 #[.agg (cfc c), .slice A l.length cp] w fun e w' => e = .returned (.tuple #[.string (sb (printR c l).1), .int .i64 (printR c l).2]) ∧ Below w.heap.size w w' := by
  have HT := Aside0.mk hT
  have HV := Aside0.mk hV
  have HVC := Aside0.mk hVC
  have HC := Aside0.mk hC
  have HF := Aside0.mk hf
  have HB := Aside0.mk hB
  have HCI := Aside0.mk hci
  have HCL := Aside0.mk hc
  have hlm : (l.length : Int) ≤ 9223372036854775807 := by have := hC.2.1; omega
  clear hT hV hVC hC hf hB hci hc
  by_cases h20 : 20000 < l.length
  · have h21 : (20000 : Int) < (l.length : Int) := by omega
    have HQ : Aside0 (printR c l = ([], 2)) := ⟨by unfold printR; rw [if_pos h20]⟩
    clear h20
    go_enter Tryd.func14, Tryd.ntmps14
    go_wp2_with fail
    go_ret2
    rw [HQ.out]
    exact ⟨rfl, (Below.refl _ _).alloc (Nat.le_refl _) _⟩
  · have h21 : ¬ (20000 : Int) < (l.length : Int) := by omega
    have HL20 := Aside0.mk h20
    clear h20
    go_enter Tryd.func14, Tryd.ntmps14
    go_upto_region 4 with fail
    obtain ⟨w1, hw1⟩ : ∃ w1, w1 = (w.alloc (.cells (cfc c) 25 (0, 0))).alloc (.cells #[.pointer none, .slice none 0 0, .bool false] 93 (0, 0)) := ⟨_, rfl⟩
    have HW1 := Aside0.mk hw1
    have HA : Aside0 (Below w.heap.size w w1 ∧ w1.heap[w.heap.size]? = some (.cells (cfc c) 25 (0, 0)) ∧ w1.heap[w.heap.size + 1]? = some (.cells (bcells (.pointer none) (.slice none 0 0) [.bool false]) 93 (0, 0)) ∧ w1.heap.size = w.heap.size + 2) := ⟨by
      rw [hw1]; exact ⟨bel2 _ _ _, heap_alloc2_old _ _ _, new2 _ _ _, by simp⟩⟩
    rw [← HW1.out]
    clear hw1
    go_wp2_with (go_at_call 29; refine (cfgnums_calls _ _).mono ?_; rintro e w2 ⟨G, T, rfl, hG, hGc, hb⟩; have HPG : Aside0 (PG w w2 w2 (w.heap.size + 1) w.heap.size G none none c ([], false)) := ⟨by
      have h1 := HA.out
      refine ⟨⟨.inl ⟨Nat.le_succ _, _, (hb.block _ (by omega)).trans h1.2.2.1, Kd.R_nil _ _ _ _ _, rfl, by simp⟩, h1.1.trans (hb.mono (by omega)), KeepBut.refl _ _ _, RN.refl _ _⟩, (hb.block _ (by omega)).trans h1.2.1, ⟨T, hGc⟩, ⟨by omega, by omega, by simp, by simp, by have := hb.size; omega, blk_lt hGc⟩⟩⟩; clear hGc hb hG)
    go_loopw [7, 8, 19] (fun _ _ s wr => ∃ i : Nat, s = .int .i64 i ∧ Aside0 (i ≤ 10 ∧ ∃ row, PG w w2 wr (w.heap.size + 1) w.heap.size G none row c (addWs ([], false) (cfgTellN c i)))) (fun _ _ s _ => 10 - (intOf s).toNat)
    case atStart => exact ⟨0, rfl, ⟨by omega, none, HPG.out⟩⟩
    case round =>
      obtain ⟨i, rfl, hP⟩ := hrel
      obtain ⟨hi, row, hX⟩ := hP.out
      have HX := Aside0.mk hX
      clear hP HPG
      by_cases hlt : i < 10
      · have q0 := HX.out.gcell hlt
        have HLT := Aside0.mk hlt
        obtain ⟨v, hv⟩ : ∃ v, c.getD i 0 = v := ⟨_, rfl⟩
        have HVV := Aside0.mk hv
        have p0 : wr.cell? ⟨0, i, none⟩ = some (.string (sb (cfgW i))) := (HVC.out.below HX.out.pr.bl).cell hlt
        have p1 : wr.cell? ⟨w.heap.size, i, none⟩ = some (.int .i64 v) := by rw [← hv]; exact (blk_cell HX.out.cf i).trans (cfcI HCL.out hlt)
        have HFI : Aside0 (inI v ∧ (cfgW i).length ≤ 1099511627776) := ⟨⟨by rw [← hv]; exact HCI.out i hlt, cfgW_le hlt⟩⟩
        have HBD : Aside0 ((addWs ([], false) (cfgTellN c i)).1.length + lenW [cfgW i, numW v] ≤ 140737488355328) := ⟨by
          have h1 := addWs_len (cfgTellN c i) ([], false)
          have h2 := cfgTellN_le c (10 - (i + 1)) (i + 1)
          rw [show i + 1 + (10 - (i + 1)) = 10 by omega, cfgTellN_succ, lenW_append, hv] at h2
          have h3 := HB.out
          have h4 := addWs_len' (cfgTell c) ([], false)
          have h5 := endL_len (addWs ([], false) (cfgTell c))
          unfold cfgTS at h3
          unfold cfgTell at h3 h4 h5
          simp only [List.length_nil] at h1 h4
          omega⟩
        have HNB : Aside0 ((0 ≠ w.heap.size + 1 ∧ some 0 ≠ row) ∧ w.heap.size ≠ w.heap.size + 1 ∧ some w.heap.size ≠ row) := ⟨by
          obtain ⟨T0, h0⟩ := HVC.out
          have h1 := blk_lt h0
          exact ⟨⟨by omega, fun e => by have := (HX.out.pr.bd.row_base _ e.symm).1; omega⟩, by omega, Ne.symm HX.out.ne.2.2.1⟩⟩
        have hiI : (i : Int) < 10 := by omega
        clear hX hi hlt hv
        go_upto_region 7 with fail
        go_region_held3 (fun w' => w'.cell? ⟨0, i, none⟩ = some (.string (sb (cfgW i))) ∧ w'.cell? ⟨w.heap.size, i, none⟩ = some (.int .i64 v)) (first | exact ⟨p0, p1⟩ | exact ⟨cell_ad p0, cell_ad p1⟩) (first
          | (go_at_call 30; (with_reducible refine (nest_kvd HT.out HX.out.pr HFI.out.2 HFI.out.1 HBD.out).mono ?_); rintro e w9 ⟨rfl, r9, h9⟩; have n1_ := cell_kb p0 h9.kb HNB.out.1.1 HNB.out.1.2; have n2_ := cell_kb p1 h9.kb HNB.out.2.1 HNB.out.2.2; clear p0 p1; have p0 := n1_; have p1 := n2_; clear n1_ n2_; have HY := Aside0.mk (HX.out.call h9); clear h9))
        clear p0 p1
        go_wp2_with fail
        go_roundw
        case rel => exact ⟨i + 1, by go_num, ⟨HLT.out, r9, by have := HY.out; rw [cfgTellN_succ, HVV.out, addWs_append]; exact this⟩⟩
        case measure => simp [intOf]; have := HLT.out; omega
      · obtain rfl : i = 10 := by omega
        clear hi hlt hX
        have HE0 : Aside0 ((addWs ([], false) (cfgTellN c 10)).1.length + 1 ≤ 140737488355328) := ⟨by have h3 := HB.out; have h5 := endL_len (addWs ([], false) (cfgTell c)); unfold cfgTS at h3; unfold cfgTell at h3 h5; omega⟩
        go_upto_region 10 with (go_at_call 31; (with_reducible refine (end_calls HX.out.pr.from_ HE0.out).mono ?_); rintro e w3 ⟨rfl, r3, h3⟩; have HP3 : Aside0 (∃ row, PrS w w3 w3 (w.heap.size + 1) row row (cfgTS c)) := ⟨⟨r3, h3.from_⟩⟩; clear h3 HX)
        go_wp2_with fail
        go_loopw [10, 11, 40] (fun _ _ s wr => ∃ i : Nat, s = .int .i64 i ∧ Aside0 (i ≤ l.length ∧ ∃ row s, PrS w wr wr (w.heap.size + 1) row row s ∧ printGo l (cfgTS c) = printGo (l.drop i) s ∧ s.1.length + lenL (l.drop i) ≤ 140737488355328 ∧ s.1 ≠ [])) (fun _ _ s _ => l.length - (intOf s).toNat)
        case atStart => exact ⟨0, rfl, ⟨Nat.zero_le _, by obtain ⟨row, h⟩ := HP3.out; exact ⟨row, _, h, rfl, HB.out, endL_ne _⟩⟩⟩
        case round =>
          obtain ⟨i, rfl, hP⟩ := hrel
          obtain ⟨hi, row, s, hX, hG, hS, hN⟩ := hP.out
          have HNE := Aside0.mk hN
          have HX := Aside0.mk hX
          have HG := Aside0.mk hG
          have HS := Aside0.mk hS
          clear hP HP3 hX hG hS hN
          by_cases hlt : i < l.length
          · obtain ⟨x, hx⟩ : ∃ x, l[i]? = some x := ⟨_, List.getElem?_eq_getElem hlt⟩
            have HDR : Aside0 (l.drop i = x :: l.drop (i + 1)) := ⟨by rw [List.drop_eq_getElem_cons hlt]; congr 1; exact (List.getElem?_eq_some_iff.1 hx).2⟩
            have HFX : Aside0 (sfit x) := ⟨HF.out x (List.mem_of_getElem? hx)⟩
            have hbl := HX.out.bl
            obtain ⟨ad, Ad, cd, rfl, c0, c1, c2, c3, c4, c5, c6, c7, c8, c9, c10, hCd⟩ := step_cells HC.out hx
            have HCD := Aside0.mk hCd
            replace c0 := pw_cell_below hbl c0
            replace c1 := pw_cell_below hbl c1
            replace c2 := pw_cell_below hbl c2
            replace c3 := pw_cell_below hbl c3
            replace c4 := pw_cell_below hbl c4
            replace c5 := pw_cell_below hbl c5
            replace c6 := pw_cell_below hbl c6
            replace c7 := pw_cell_below hbl c7
            replace c8 := pw_cell_below hbl c8
            replace c9 := pw_cell_below hbl c9
            replace c10 := pw_cell_below hbl c10
            obtain ⟨wa, hwa⟩ : ∃ wa, wa = wr.alloc (.cells (stc x (.slice Ad x.data.length cd)) 48 (0, 0)) := ⟨_, rfl⟩
            have HWA := Aside0.mk hwa
            have HBA : Aside0 (Below wr.heap.size wr wa ∧ wa.heap[wr.heap.size]? = some (.cells (stc x (.slice Ad x.data.length cd)) 48 (0, 0))) := ⟨by rw [hwa]; exact ⟨(Below.refl _ _).alloc (Nat.le_refl _) _, heap_alloc_new _ _⟩⟩
            have hltI : (i : Int) < (l.length : Int) := by omega
            have HLT := Aside0.mk hlt
            clear hx hbl hCd hwa hlt hi
            go_upto_region 13 with fail
            rw [show wr.alloc (.cells #[.int .i64 x.kind, .int .i64 x.rep, .int .i64 x.ses, .int .i64 x.id, .int .i64 x.ok, .string (sb x.name), .int .i64 x.a, .int .i64 x.b, .int .i64 x.i, .int .i64 x.j, .slice Ad x.data.length cd] 48 (0, 0)) = wa from HWA.out.symm]
            clear c0 c1 c2 c3 c4 c5 c6 c7 c8 c9 c10
            have HPX : Aside0 (PX w wa wa (w.heap.size + 1) wr.heap.size row row s x) := ⟨by
              have h1 := HX.out.below HBA.out.1
              exact ⟨h1.from_, ⟨Ad, cd, HBA.out.2, HCD.out⟩, ⟨fun e => by have := HX.out.bd.lt; omega, HX.out.bl.size⟩, Kept.refl _ _, RN.refl _ _⟩⟩
            obtain ⟨ao, co, ko, hoc, hoC⟩ := HV.out.steps
            have HOC := Aside0.mk hoC
            have q0 : wa.cell? ⟨wr.heap.size, 0, none⟩ = some (.int .i64 x.kind) := (blk_cell HBA.out.2 0).trans rfl
            have q1 : wa.cell? ⟨1, 0, none⟩ = some (.slice (some ao) stepFs.length co) := (blk_cell ((HPX.out.pr.bl.block _ (blk_lt ko)).trans ko) 0).trans rfl
            obtain ⟨ok, ws, y, ht⟩ : ∃ ok ws y, tellStep x.kind x = (ok, ws, y) := ⟨_, _, _, rfl⟩
            have HT0 := Aside0.mk ht
            have HGO : Aside0 (printGo (l.drop i) s = if goodL x then printGo (l.drop (i + 1)) (endL (addWs s ws)) else none) := ⟨by rw [HDR.out, printGo, ht]⟩
            have HLL : Aside0 (s.1.length + (lenW ws + 1 + lenL (l.drop (i + 1))) ≤ 140737488355328) := ⟨by have := HS.out; rw [HDR.out, lenL, ht] at this; exact this⟩
            have HB1 : Aside0 (s.1.length + lenW (tellF tellOps stepFs x.kind x).2.1 ≤ 140737488355328) := ⟨by rw [show tellF tellOps stepFs x.kind x = (ok, ws, y) from ht]; have := HLL.out; simp only; omega⟩
            have HB2 : Aside0 ((addWs s ws).1.length + 1 ≤ 140737488355328) := ⟨by have := HLL.out; have := addWs_len ws s; omega⟩
            have HCL2 := Aside0.mk (parts_steps (kind := x.kind) (c := co) HT.out HV.out HPX.out HOC.out HFX.out HB1.out)
            have HTF : Aside0 (tellF tellOps stepFs x.kind x = (ok, ws, y)) := ⟨ht⟩
            clear ko hoc hoC ht
            go_upto_region 14 with (go_at_call 32; (with_reducible refine HCL2.out.mono ?_); rintro e w5 ⟨rfl, r5, h5⟩; rw [HTF.out] at h5 ⊢; have HY := Aside0.mk h5; clear h5 q0 q1)
            go_upto_region 15 with (go_at_call 31; (with_reducible refine (end_calls HY.out.pr HB2.out).mono ?_); rintro e w6 ⟨rfl, r6, h6⟩; have HZ := Aside0.mk (HY.out.call h6); clear h6 HY)
            obtain ⟨A6, c6, hb6, hC6⟩ := HZ.out.st
            have d1 : w6.cell? ⟨wr.heap.size, 1, none⟩ = some (.int .i64 y.rep) := (blk_cell hb6 1).trans rfl
            have d2 : w6.cell? ⟨wr.heap.size, 2, none⟩ = some (.int .i64 y.ses) := (blk_cell hb6 2).trans rfl
            have d3 : w6.cell? ⟨wr.heap.size, 3, none⟩ = some (.int .i64 y.id) := (blk_cell hb6 3).trans rfl
            have d4 : w6.cell? ⟨wr.heap.size, 4, none⟩ = some (.int .i64 y.ok) := (blk_cell hb6 4).trans rfl
            have d5 : w6.cell? ⟨wr.heap.size, 5, none⟩ = some (.string (sb y.name)) := (blk_cell hb6 5).trans rfl
            have d6 : w6.cell? ⟨wr.heap.size, 6, none⟩ = some (.int .i64 y.a) := (blk_cell hb6 6).trans rfl
            have d7 : w6.cell? ⟨wr.heap.size, 7, none⟩ = some (.int .i64 y.b) := (blk_cell hb6 7).trans rfl
            have d8 : w6.cell? ⟨wr.heap.size, 8, none⟩ = some (.int .i64 y.i) := (blk_cell hb6 8).trans rfl
            have d9 : w6.cell? ⟨wr.heap.size, 9, none⟩ = some (.int .i64 y.j) := (blk_cell hb6 9).trans rfl
            have d10 : w6.cell? ⟨wr.heap.size, 10, none⟩ = some (.slice A6 y.data.length c6) := (blk_cell hb6 10).trans rfl
            have HBL : Aside0 (Below w.heap.size w w6) := ⟨HZ.out.pr.bl⟩
            clear hb6 hC6
            cases ok with
            | false =>
              have HQ : Aside0 (printR c l = ([], 1)) := ⟨by unfold printR; rw [if_neg HL20.out, HG.out, HGO.out, if_neg (by unfold goodL; rw [HT0.out]; simp)]⟩
              go_wp2_with fail
              go_ret2
              rw [HQ.out]
              exact ⟨rfl, HBL.out⟩
            | true =>
              go_wp2_with fail
              all_goals first
                | (go_ret2
                   have HQ : printR c l = ([], 1) := by
                     unfold printR
                     rw [if_neg HL20.out, HG.out, HGO.out, if_neg ?_]
                     intro hg
                     unfold goodL at hg
                     rw [HT0.out] at hg
                     obtain ⟨z1, z2, z3, z4, z5, z6, z7, z8, z9, z10⟩ := (blank_iff y).1 (by simpa using hg)
                     contradiction
                   rw [HQ]
                   exact ⟨rfl, HBL.out⟩)
                | (have HGD : Aside0 (goodL x = true) := ⟨by
                     unfold goodL
                     rw [HT0.out]
                     rw [Bool.true_and]
                     exact (blank_iff y).2 ⟨by assumption, by assumption, by assumption, by assumption, by assumption, by assumption, by assumption, by assumption, by assumption, by assumption⟩⟩
                   go_roundw
                   case rel => exact ⟨i + 1, by go_num, ⟨HLT.out, r6, _, HZ.out.pr, by rw [HG.out, HGO.out, if_pos HGD.out], by have := HLL.out; have := addWs_len ws s; have := endL_len (addWs s ws); omega, endL_ne _⟩⟩
                   case measure => simp [intOf]; have := HLT.out; omega)
          · have HZ0 : Aside0 (printGo l (cfgTS c) = some s) := ⟨by rw [HG.out, List.drop_eq_nil_of_le (by omega)]; rfl⟩
            have HLL : Aside0 (s.1.length ≤ 140737488355328) := ⟨by have := HS.out; omega⟩
            have hge : ¬ (i : Int) < (l.length : Int) := by omega
            clear hlt hi
            by_cases hbig : 1048576 < s.1.length
            · have hbI : (1048576 : Int) < (s.1.length : Int) := by omega
              have HQ : Aside0 (printR c l = ([], 2)) := ⟨by unfold printR; rw [if_neg HL20.out, HZ0.out]; simp only; rw [if_pos hbig]⟩
              clear hbig
              go_wp2_with (go_at_call 33; refine (len_calls HX.out.bd).mono ?_; rintro e w' ⟨rfl, rfl⟩)
              go_ret2
              rw [HQ.out]
              exact ⟨rfl, HX.out.bl⟩
            · have hbI : ¬ (1048576 : Int) < (s.1.length : Int) := by omega
              have HQ : Aside0 (printR c l = (s.1, 0)) := ⟨by unfold printR; rw [if_neg HL20.out, HZ0.out]; simp only; rw [if_neg hbig]⟩
              clear hbig
              go_wp2_with (first
                | (go_at_call 33; refine (len_calls HX.out.bd).mono ?_; rintro e w' ⟨rfl, rfl⟩)
                | (go_at_call 34; refine (str_some HX.out.bd HNE.out).mono ?_; rintro e w' ⟨rfl, hb⟩; have HBE := Aside0.mk hb; clear hb))
              go_ret2
              rw [HQ.out]
              exact ⟨rfl, HX.out.bl.trans HBE.out⟩
end Go.Proofs.YtnbfebjcfhbhiaaDoor.Bw
end
section
namespace Go.Proofs.YtnbfebjcfhbhiaaDoor.Bw
open Go Go.RowKit Go.Proofs.YtnbfebjcfhbhiaaDoor.P Go.Proofs.YtnbfebjcfhbhiaaDoor.Sc Go.Proofs.YtnbfebjcfhbhiaaDoor.Lw Go.Proofs.YtnbfebjcfhbhiaaDoorW.PrintWords Go.Proofs.YtnbfebjcfhbhiaaDoorW.PrintLast Go.Proofs.YtnbfebjcfhbhiaaDoorW.PrintMore
set_option linter.unusedVariables false
set_option linter.unusedSimpArgs false
set_option maxHeartbeats 4000000 in
set_option maxRecDepth 100000 in
theorem line_any (l : List Wd) {w0 wx : World} {b : Nat} {row : Option Nat} {s : TS} {A : Option Addr} {c : Nat} (hT : TB w0) (hX : PrS w0 wx wx b row row s) (hV : WVs wx b row A l) (hf : ∀ x ∈ l, x.fit 1099511627776) (hB : s.1.length + lenW (wdsT l) + 1 ≤ 140737488355328) :
    Calls Tryd.prog 41 #[.pointer (some ⟨b, 0, none⟩), .slice A l.length c] wx fun e w' => e = .returned (.tuple #[]) ∧ ∃ r1, PrS w0 wx w' b row r1 (endL (addWs s (wdsT l))) := by
  have HT := Aside0.mk hT
  have HX := Aside0.mk hX
  have HV := Aside0.mk hV
  have HF := Aside0.mk hf
  have HB : Aside0 (s.1.length + lenW (wdsT l) ≤ 140737488355328 ∧ (addWs s (wdsT l)).1.length + 1 ≤ 140737488355328) := ⟨⟨by omega, by have := addWs_len (wdsT l) s; omega⟩⟩
  clear hT hX hV hf hB
  go_enter Tryd.func41, Tryd.ntmps41
  go_wp2_with (first
    | (go_at_call 30; refine (put_any l HT.out HX.out HV.out HF.out HB.out.1).mono ?_; rintro e w1 ⟨rfl, r1, h1⟩; have H1 := Aside0.mk h1; clear h1)
    | (go_at_call 31; refine (end_calls H1.out.from_ HB.out.2).mono ?_; rintro e w2 ⟨rfl, r2, h2⟩; have H2 := Aside0.mk h2; clear h2))
  go_end0
  exact ⟨rfl, r2, H1.out.then_ H2.out⟩
/-- line of a row that has just been built. -/
theorem nestL {w0 W wx w1 : World} {b k T : Nat} {r0 row : Option Nat} {S : TS} {l : List Wd} {cs : Array Value} {c : Nat} (hT : TB w0) (hX : PrS w0 W wx b r0 row S) (hb1 : Below wx.heap.size wx w1) (hk : wx.heap.size ≤ k) (hc : w1.heap[k]? = some (.cells cs T (0, 0))) (hl : l.length ≤ 9223372036854775807)
    (hv : ∀ (i : Nat) x, l[i]? = some x → ∃ v, cs[i]? = some v ∧ WV w1 b row x v) (hf : ∀ x ∈ l, x.fit 1099511627776) (hbd : S.1.length + lenW (wdsT l) + 1 ≤ 140737488355328) :
    Calls Tryd.prog 41 #[.pointer (some ⟨b, 0, none⟩), .slice (some ⟨k, 0, none⟩) l.length c] w1 fun e w' => e = .returned (.tuple #[]) ∧ ∃ r1, PrS w0 wx w' b row r1 (endL (addWs S (wdsT l))) := by
  have h1 := hX.below hb1
  refine (line_any l hT h1.from_ (WVs.made hc (fun e => ?_) (fun e => ?_) hl hv) hf hbd).mono ?_
  · have := hX.bd.lt; omega
  · have := (hX.bd.row_base k e).2.1; omega
  rintro e w' ⟨he, r1, h2⟩
  exact ⟨he, r1, (hX.from_.below hb1).then_ h2⟩
theorem numW_dig (n : Nat) (h : n < 10) : numW (n : Int) = [UInt8.ofNat (48 + n)] := by
  unfold numW
  rw [Lib.itoa_nonneg, Lib.decDigits, dif_pos h]
set_option maxHeartbeats 4000000 in
set_option maxRecDepth 100000 in
/-- A sight of nothing. -/
theorem sight_none {w0 wx : World} {b : Nat} {row : Option Nat} {s : TS} (hX : PrS w0 wx wx b row row s) (n d : Value) (s1 s2 s3 s4 : Value) (c : Nat) (A : Option Addr) :
    Calls Tryd.prog 42 #[.pointer (some ⟨b, 0, none⟩), .agg #[n, s1, s2, s3, .slice A 0 c, s4, d]] wx fun e w' => e = .returned (.tuple #[]) ∧ PrS w0 wx w' b row row s := by
  have HX := Aside0.mk hX
  clear hX
  go_enter Tryd.func42, Tryd.ntmps42
  go_wp2_with fail
  first | go_end0 | ((try simp only [Exit.inBlock, Exit.then]); refine bodyPost_ret (results_none rfl _ _ _) rfl ?_)
  exact ⟨rfl, HX.out.below ((Below.refl _ _).alloc (Nat.le_refl _) _)⟩
def aliveT : By := [49, 32, 48, 10, 114, 101, 112, 108, 121, 32, 50, 32, 49, 32, 48, 32, 51, 10]
set_option maxHeartbeats 16000000 in
set_option maxRecDepth 100000 in
theorem pa_calls (w : World) (ka kr c : Nat) (hT : TB w) (ha : w.heap[ka]? = some (.cells #[.int .i64 0, .slice (some ⟨kr, 0, none⟩) 1 1, .int .i64 0, .slice none 0 0, .slice none 0 0, .slice none 0 0, .slice none 0 0, .slice none 0 0, .int .i64 0, .slice none 0 0, .slice none 0 0, .slice none 0 0, .bool false] 66 (0, 0))) (hr : w.heap[kr]? = some (.cells #[.int .i64 2, .int .i64 1, .int .i64 0, .int .i64 3] 54 (0, 0))) :
    Calls Tryd.prog 21 #[.slice (some ⟨ka, 0, none⟩) 1 c] w fun e w' => e = .returned (.string (sb aliveT)) ∧ Below w.heap.size w w' := by
  have HT := Aside0.mk hT
  have HKA := Aside0.mk ha
  have HKR := Aside0.mk hr
  clear hT ha hr
  go_enter Tryd.func21, Tryd.ntmps21
  go_upto_region 2 with fail
  obtain ⟨w1, hw1⟩ : ∃ w1, w1 = w.alloc (.cells #[.pointer none, .slice none 0 0, .bool false] 93 (0, 0)) := ⟨_, rfl⟩
  have HW1 := Aside0.mk hw1
  have HA : Aside0 (PrS w w1 w1 w.heap.size none none ([], false)) := ⟨by
    rw [hw1]
    exact ⟨.inl ⟨Nat.le_refl _, _, heap_alloc_new w _, Kd.R_nil _ _ _ _ _, rfl, by simp⟩, (Below.refl _ _).alloc (Nat.le_refl _) _, KeepBut.refl _ _ _, RN.refl _ _⟩⟩
  rw [← HW1.out]
  clear hw1
  go_wp2_with fail
  refine wp_loop_rounds 2 ?_
  rw [rounds_succ]
  have hbl := HA.out.bl
  have a0 : w1.cell? ⟨ka, 0, none⟩ = some (.int .i64 0) := (blk_cell ((hbl.block _ (blk_lt HKA.out)).trans HKA.out) 0).trans rfl
  have a1 : w1.cell? ⟨ka, 1, none⟩ = some (.slice (some ⟨kr, 0, none⟩) 1 1) := (blk_cell ((hbl.block _ (blk_lt HKA.out)).trans HKA.out) 1).trans rfl
  have a2 : w1.cell? ⟨ka, 2, none⟩ = some (.int .i64 0) := (blk_cell ((hbl.block _ (blk_lt HKA.out)).trans HKA.out) 2).trans rfl
  have a3 : w1.cell? ⟨ka, 3, none⟩ = some (.slice none 0 0) := (blk_cell ((hbl.block _ (blk_lt HKA.out)).trans HKA.out) 3).trans rfl
  have a4 : w1.cell? ⟨ka, 4, none⟩ = some (.slice none 0 0) := (blk_cell ((hbl.block _ (blk_lt HKA.out)).trans HKA.out) 4).trans rfl
  have a5 : w1.cell? ⟨ka, 5, none⟩ = some (.slice none 0 0) := (blk_cell ((hbl.block _ (blk_lt HKA.out)).trans HKA.out) 5).trans rfl
  have a6 : w1.cell? ⟨ka, 6, none⟩ = some (.slice none 0 0) := (blk_cell ((hbl.block _ (blk_lt HKA.out)).trans HKA.out) 6).trans rfl
  have a7 : w1.cell? ⟨ka, 7, none⟩ = some (.slice none 0 0) := (blk_cell ((hbl.block _ (blk_lt HKA.out)).trans HKA.out) 7).trans rfl
  have a8 : w1.cell? ⟨ka, 8, none⟩ = some (.int .i64 0) := (blk_cell ((hbl.block _ (blk_lt HKA.out)).trans HKA.out) 8).trans rfl
  have a9 : w1.cell? ⟨ka, 9, none⟩ = some (.slice none 0 0) := (blk_cell ((hbl.block _ (blk_lt HKA.out)).trans HKA.out) 9).trans rfl
  have a10 : w1.cell? ⟨ka, 10, none⟩ = some (.slice none 0 0) := (blk_cell ((hbl.block _ (blk_lt HKA.out)).trans HKA.out) 10).trans rfl
  have a11 : w1.cell? ⟨ka, 11, none⟩ = some (.slice none 0 0) := (blk_cell ((hbl.block _ (blk_lt HKA.out)).trans HKA.out) 11).trans rfl
  have a12 : w1.cell? ⟨ka, 12, none⟩ = some (.bool false) := (blk_cell ((hbl.block _ (blk_lt HKA.out)).trans HKA.out) 12).trans rfl
  clear hbl
  go_upto_region 5 with fail
  obtain ⟨wb, hwb⟩ : ∃ wb, wb = w1.alloc (.cells #[.int .i64 0, .slice (some ⟨kr, 0, none⟩) 1 1, .int .i64 0, .slice none 0 0, .slice none 0 0, .slice none 0 0, .slice none 0 0, .slice none 0 0, .int .i64 0, .slice none 0 0, .slice none 0 0, .slice none 0 0, .bool false] 66 (0, 0)) := ⟨_, rfl⟩
  have HWB := Aside0.mk hwb
  have HBB : Aside0 (Below w1.heap.size w1 wb ∧ wb.heap[w1.heap.size]? = some (.cells #[.int .i64 0, .slice (some ⟨kr, 0, none⟩) 1 1, .int .i64 0, .slice none 0 0, .slice none 0 0, .slice none 0 0, .slice none 0 0, .slice none 0 0, .int .i64 0, .slice none 0 0, .slice none 0 0, .slice none 0 0, .bool false] 66 (0, 0))) := ⟨by rw [hwb]; exact ⟨(Below.refl _ _).alloc (Nat.le_refl _) _, heap_alloc_new _ _⟩⟩
  rw [← HWB.out]
  clear hwb a0 a1 a2 a3 a4 a5 a6 a7 a8 a9 a10 a11 a12
  have b0 : wb.cell? ⟨w1.heap.size, 0, none⟩ = some (.int .i64 0) := (blk_cell HBB.out.2 0).trans rfl
  have HX := Aside0.mk (HA.out.below HBB.out.1).from_
  have hd1 : numW 1 = [49] := numW_dig 1 (by decide)
  have hd0 : numW 0 = [48] := numW_dig 0 (by decide)
  have hd2 : numW 2 = [50] := numW_dig 2 (by decide)
  have hd3 : numW 3 = [51] := numW_dig 3 (by decide)
  have HD := Aside0.mk (And.intro hd0 (And.intro hd1 (And.intro hd2 hd3)))
  have HBD1 : Aside0 ((([], false) : TS).1.length + lenW (wdsT [.int 1, .err 0]) + 1 ≤ 140737488355328) := ⟨by simp [wdsT, Wd.ws, lenW, hd1, hd0]⟩
  clear hd0 hd1 hd2 hd3
  go_upto_region 6 with (go_at_call 41; refine (nestL (l := [.int 1, .err 0]) HT.out HX.out ((Below.refl _ _).alloc (Nat.le_refl _) _) (Nat.le_refl _) (heap_alloc_new _ _) (by simp) (vs2 rfl rfl) (by intro x hx; simp only [List.mem_cons, List.not_mem_nil, or_false] at hx; rcases hx with rfl | rfl <;> exact ⟨by decide, by decide⟩) HBD1.out).mono ?_; rintro e w2 ⟨rfl, r2, h2⟩; have H2 := Aside0.mk h2; clear h2 b0)
  have HB2 : Aside0 (w2.heap[w1.heap.size]? = some (.cells #[.int .i64 0, .slice (some ⟨kr, 0, none⟩) 1 1, .int .i64 0, .slice none 0 0, .slice none 0 0, .slice none 0 0, .slice none 0 0, .slice none 0 0, .int .i64 0, .slice none 0 0, .slice none 0 0, .slice none 0 0, .bool false] 66 (0, 0)) ∧ w1.heap.size ≠ w.heap.size) := ⟨by
    have h0 := HA.out.bd.lt
    exact ⟨(H2.out.kb.2 _ (blk_lt HBB.out.2) (by omega) (by simp)).trans HBB.out.2, by omega⟩⟩
  have b1 : w2.cell? ⟨w1.heap.size, 1, none⟩ = some (.slice (some ⟨kr, 0, none⟩) 1 1) := (blk_cell HB2.out.1 1).trans rfl
  go_wp2_with fail
  refine wp_loop_rounds 2 ?_
  rw [rounds_succ]
  have hkr : w2.heap[kr]? = some (.cells #[.int .i64 2, .int .i64 1, .int .i64 0, .int .i64 3] 54 (0, 0)) := (H2.out.bl.block _ (blk_lt HKR.out)).trans HKR.out
  have e0 : w2.cell? ⟨kr, 0, none⟩ = some (.int .i64 2) := (blk_cell hkr 0).trans rfl
  have e1 : w2.cell? ⟨kr, 1, none⟩ = some (.int .i64 1) := (blk_cell hkr 1).trans rfl
  have e2 : w2.cell? ⟨kr, 2, none⟩ = some (.int .i64 0) := (blk_cell hkr 2).trans rfl
  have e3 : w2.cell? ⟨kr, 3, none⟩ = some (.int .i64 3) := (blk_cell hkr 3).trans rfl
  clear hkr
  go_upto_region 9 with fail
  obtain ⟨wc, hwc⟩ : ∃ wc, wc = w2.alloc (.cells #[.int .i64 2, .int .i64 1, .int .i64 0, .int .i64 3] 54 (0, 0)) := ⟨_, rfl⟩
  have HWC := Aside0.mk hwc
  have HBC : Aside0 (Below w2.heap.size w2 wc ∧ wc.heap[w2.heap.size]? = some (.cells #[.int .i64 2, .int .i64 1, .int .i64 0, .int .i64 3] 54 (0, 0))) := ⟨by rw [hwc]; exact ⟨(Below.refl _ _).alloc (Nat.le_refl _) _, heap_alloc_new _ _⟩⟩
  rw [← HWC.out]
  clear hwc e0 e1 e2 e3 b1
  have f0 : wc.cell? ⟨w2.heap.size, 0, none⟩ = some (.int .i64 2) := (blk_cell HBC.out.2 0).trans rfl
  have f1 : wc.cell? ⟨w2.heap.size, 1, none⟩ = some (.int .i64 1) := (blk_cell HBC.out.2 1).trans rfl
  have f2 : wc.cell? ⟨w2.heap.size, 2, none⟩ = some (.int .i64 0) := (blk_cell HBC.out.2 2).trans rfl
  have f3 : wc.cell? ⟨w2.heap.size, 3, none⟩ = some (.int .i64 3) := (blk_cell HBC.out.2 3).trans rfl
  have HX2 := Aside0.mk (H2.out.below HBC.out.1).from_
  have HBD2 : Aside0 ((endL (addWs ([], false) (wdsT [.int 1, .err 0]))).1.length + lenW (wdsT [.str [114, 101, 112, 108, 121], .call 2 1, .err 0, .int 3]) + 1 ≤ 140737488355328) := ⟨by simp [wdsT, Wd.ws, lenW, HD.out.1, HD.out.2.1, HD.out.2.2.1, HD.out.2.2.2, endL, addWs, addW]⟩
  go_wp2_with (go_at_call 41; refine (nestL (l := [.str [114, 101, 112, 108, 121], .call 2 1, .err 0, .int 3]) HT.out HX2.out ((Below.refl _ _).alloc (Nat.le_refl _) _) (Nat.le_refl _) (heap_alloc_new _ _) (by simp) (vs4 rfl rfl rfl rfl) (by intro x hx; simp only [List.mem_cons, List.not_mem_nil, or_false] at hx; rcases hx with rfl | rfl | rfl | rfl; exact (show (5 : Nat) ≤ _ by decide); exact ⟨⟨by decide, by decide⟩, ⟨by decide, by decide⟩⟩; exact ⟨by decide, by decide⟩; exact ⟨by decide, by decide⟩) HBD2.out).mono ?_; rintro e w3 ⟨rfl, r3, h3⟩; have H3 := Aside0.mk h3; clear h3 f0 f1 f2 f3)
  have HB3 : Aside0 (w3.heap[w1.heap.size]? = some (.cells #[.int .i64 0, .slice (some ⟨kr, 0, none⟩) 1 1, .int .i64 0, .slice none 0 0, .slice none 0 0, .slice none 0 0, .slice none 0 0, .slice none 0 0, .int .i64 0, .slice none 0 0, .slice none 0 0, .slice none 0 0, .bool false] 66 (0, 0)) ∧ r3 ≠ some w1.heap.size) := ⟨by
    have h1 := blk_lt HBB.out.2
    have h2 := H2.out.kb.1
    have h4 := HBC.out.1.size
    have h5 : r2 ≠ some w1.heap.size := fun e => by
      rcases H2.out.rn _ e with e2 | e2
      · cases e2
      · omega
    refine ⟨(H3.out.kb.2 _ (by omega) HB2.out.2 (Ne.symm h5)).trans ((HBC.out.1.block _ (by omega)).trans HB2.out.1), fun e => ?_⟩
    rcases H3.out.rn _ e with e2 | e2
    · exact h5 e2.symm
    · omega⟩
  have g2 : w3.cell? ⟨w1.heap.size, 2, none⟩ = some (.int .i64 0) := (blk_cell HB3.out.1 2).trans rfl
  have g3 : w3.cell? ⟨w1.heap.size, 3, none⟩ = some (.slice none 0 0) := (blk_cell HB3.out.1 3).trans rfl
  have g4 : w3.cell? ⟨w1.heap.size, 4, none⟩ = some (.slice none 0 0) := (blk_cell HB3.out.1 4).trans rfl
  have g5 : w3.cell? ⟨w1.heap.size, 5, none⟩ = some (.slice none 0 0) := (blk_cell HB3.out.1 5).trans rfl
  have g6 : w3.cell? ⟨w1.heap.size, 6, none⟩ = some (.slice none 0 0) := (blk_cell HB3.out.1 6).trans rfl
  have g7 : w3.cell? ⟨w1.heap.size, 7, none⟩ = some (.slice none 0 0) := (blk_cell HB3.out.1 7).trans rfl
  have g8 : w3.cell? ⟨w1.heap.size, 8, none⟩ = some (.int .i64 0) := (blk_cell HB3.out.1 8).trans rfl
  have g9 : w3.cell? ⟨w1.heap.size, 9, none⟩ = some (.slice none 0 0) := (blk_cell HB3.out.1 9).trans rfl
  have g10 : w3.cell? ⟨w1.heap.size, 10, none⟩ = some (.slice none 0 0) := (blk_cell HB3.out.1 10).trans rfl
  have g11 : w3.cell? ⟨w1.heap.size, 11, none⟩ = some (.slice none 0 0) := (blk_cell HB3.out.1 11).trans rfl
  have g12 : w3.cell? ⟨w1.heap.size, 12, none⟩ = some (.bool false) := (blk_cell HB3.out.1 12).trans rfl
  rw [rounds_succ]
  go_upto_region 14 with (go_at_call 42; refine (sight_none H3.out.from_ _ _ _ _ _ _ _ _).mono ?_; rintro e w4 ⟨rfl, h4⟩; have H4 := Aside0.mk h4; clear h4 g2 g3 g4 g5 g6 g7 g8 g9 g10 g11 g12)
  have HB4 : Aside0 (w4.heap[w1.heap.size]? = some (.cells #[.int .i64 0, .slice (some ⟨kr, 0, none⟩) 1 1, .int .i64 0, .slice none 0 0, .slice none 0 0, .slice none 0 0, .slice none 0 0, .slice none 0 0, .int .i64 0, .slice none 0 0, .slice none 0 0, .slice none 0 0, .bool false] 66 (0, 0))) := ⟨(H4.out.kb.2 _ (blk_lt HB3.out.1) HB2.out.2 (Ne.symm HB3.out.2)).trans HB3.out.1⟩
  have k9 : w4.cell? ⟨w1.heap.size, 9, none⟩ = some (.slice none 0 0) := (blk_cell HB4.out 9).trans rfl
  have k10 : w4.cell? ⟨w1.heap.size, 10, none⟩ = some (.slice none 0 0) := (blk_cell HB4.out 10).trans rfl
  have k11 : w4.cell? ⟨w1.heap.size, 11, none⟩ = some (.slice none 0 0) := (blk_cell HB4.out 11).trans rfl
  go_wp2_with fail
  refine wp_loop_rounds 1 ?_
  rw [rounds_succ]
  go_wp2_with fail
  refine wp_loop_rounds 1 ?_
  rw [rounds_succ]
  go_wp2_with fail
  clear k9 k10 k11
  have HE : Aside0 ((endL (addWs (endL (addWs ([], false) (wdsT [.int 1, .err 0]))) (wdsT [.str [114, 101, 112, 108, 121], .call 2 1, .err 0, .int 3]))).1 = aliveT) := ⟨by
    simp [wdsT, Wd.ws, HD.out.1, HD.out.2.1, HD.out.2.2.1, HD.out.2.2.2, endL, addWs, addW, aliveT]⟩
  rw [rounds_succ]
  go_wp2_with (go_at_call 34; refine (str_some H4.out.bd (by rw [HE.out]; decide)).mono ?_; rintro e w5 ⟨rfl, hb⟩; have HB5 := Aside0.mk hb; clear hb)
  go_ret
  refine ⟨?_, H4.out.bl.trans HB5.out⟩
  rw [← HE.out]; rfl
end Go.Proofs.YtnbfebjcfhbhiaaDoor.Bw
end
section
namespace Go.Proofs.YtnbfebjcfhbhiaaDoor.Bw
open Go Go.RowKit Go.Proofs.YtnbfebjcfhbhiaaDoor.P Go.Proofs.YtnbfebjcfhbhiaaDoor.Sc Go.Proofs.YtnbfebjcfhbhiaaDoor.Lw Go.Proofs.YtnbfebjcfhbhiaaDoorW.PrintWords Go.Proofs.YtnbfebjcfhbhiaaDoorW.PrintLast Go.Proofs.YtnbfebjcfhbhiaaDoorW.PrintMore
set_option linter.unusedVariables false
set_option linter.unusedSimpArgs false
def aliveX : By := [114, 101, 112, 108, 105, 99, 97, 115, 32, 50, 32, 119, 105, 110, 100, 111, 119, 32, 50, 32, 114, 101, 115, 101, 110, 100, 32, 50, 32, 116, 105, 109, 101, 111, 117, 116, 32, 50, 48, 32, 113, 117, 101, 117, 101, 32, 52, 32, 99, 97, 99, 104, 101, 32, 50, 32, 99, 111, 117, 110, 116, 101, 114, 115, 32, 50, 32, 104, 111, 108, 100, 115, 32, 50, 32, 115, 101, 115, 115, 105, 111, 110, 115, 32, 52, 32, 98, 97, 103, 32, 53, 48, 10, 99, 97, 108, 108, 32, 48, 32, 50, 32, 49, 32, 99, 114, 101, 97, 116, 101, 32, 107, 37, 50, 48, 32, 49, 48, 32, 52, 10]
def aliveC : List Int := [2, 2, 2, 20, 4, 2, 2, 2, 4, 50]
def aliveS : St := ⟨1, 0, 2, 1, 1, [107, 32], 10, 4, 0, 0, []⟩
theorem alive_parse : Sc.parse aliveX = .ok aliveC [aliveS] := by rfl
theorem alive_print : printR aliveC [aliveS] = (aliveX, 0) := by decide +kernel
end Go.Proofs.YtnbfebjcfhbhiaaDoor.Bw
end
section
namespace Go.Proofs.YtnbfebjcfhbhiaaDoor.Lw
open Go Go.RowKit Go.Proofs.YtnbfebjcfhbhiaaDoor.P Go.Proofs.YtnbfebjcfhbhiaaDoor.Sc Go.Proofs.YtnbfebjcfhbhiaaDoorW.PrintWords Go.Proofs.YtnbfebjcfhbhiaaDoorW.PrintLast Go.Proofs.YtnbfebjcfhbhiaaDoorW.PrintMore
set_option linter.unusedVariables false
set_option linter.unusedSimpArgs false
theorem hash_iff (t : By) : bs ⟨#[35]⟩ <+: bs (sb t) ↔ t.head? = some 35 := by
  rw [bs_sb]
  show [35] <+: t ↔ _
  cases t with
  | nil => simp
  | cons c t => simp [List.cons_prefix_cons, eq_comm]
theorem hash_yes {t : By} (h : t.head? = some 35) (w : World) : Calls Tryd.prog 36 #[.string (sb t), .string ⟨#[35]⟩] w fun e w' => e = .returned (.bool true) ∧ Below w.heap.size w w' := by
  have := prefix_calls (sb t) ⟨#[35]⟩ w
  rwa [decide_eq_true ((hash_iff t).2 h)] at this
theorem hash_no {t : By} (h : ¬ t.head? = some 35) (w : World) : Calls Tryd.prog 36 #[.string (sb t), .string ⟨#[35]⟩] w fun e w' => e = .returned (.bool false) ∧ Below w.heap.size w w' := by
  have := prefix_calls (sb t) ⟨#[35]⟩ w
  rwa [decide_eq_false (fun hh => h ((hash_iff t).1 hh))] at this
theorem lineE_le {α : Type} (p : Rd α) (t : By) (wh : Bool) {k : Nat} (h : lineE p t wh = .error k) : k ≤ t.length := by
  unfold lineE at h
  split at h
  · split at h
    · cases h
    · injection h with h; omega
  · injection h with h; omega
  · injection h with h; omega
/-- Behind a line: how it stands with what Parse has to say. -/
def Spec (Ls : List (By × Bool)) (i : Nat) (cfg : Option (List Int)) (out : List St) (at' : Int) (bad' : Bool) : Prop :=
  if bad' = true then ∃ k : Nat, at' = (k : Int) ∧ k ≤ 1048576 ∧ parseGo Ls 0 none [] = .place (i + 1) (k + 1) else parseGo Ls 0 none [] = parseGo (Ls.drop (i + 1)) (i + 1) cfg out
section
variable {Ls : List (By × Bool)} {i : Nat} {cfg : Option (List Int)} {out : List St} {at' : Int} {bad' : Bool} {t : By} {wh : Bool}
theorem drop_line (hx : Ls[i]? = some (t, wh)) : Ls.drop i = (t, wh) :: Ls.drop (i + 1) := by
  obtain ⟨hi, e⟩ := List.getElem?_eq_some_iff.1 hx
  rw [List.drop_eq_getElem_cons hi, e]
theorem go_hash (r : List (By × Bool)) (h : t.head? = some 35) : parseGo ((t, wh) :: r) i cfg out = if wh then parseGo r (i + 1) cfg out else .place (i + 1) (t.length + 1) := by
  cases cfg <;> rw [parseGo, if_pos h]
theorem go_none (r : List (By × Bool)) : parseGo (([], wh) :: r) i cfg out = parseGo r (i + 1) cfg out := by
  cases cfg <;> rw [parseGo, if_neg (by simp), if_pos rfl]
theorem spec_hash (hS : parseGo Ls 0 none [] = parseGo (Ls.drop i) i cfg out) (hx : Ls[i]? = some (t, wh)) (ht : t.length ≤ 1048576) (h : t.head? = some 35) (hE : EndP (sb t) wh (.good () []) at' bad') : Spec Ls i cfg out at' bad' := by
  rw [drop_line hx, go_hash _ h] at hS
  unfold Spec
  unfold EndP at hE
  simp only at hE
  cases wh with
  | true =>
    simp only [if_true] at hE hS
    subst hE
    simpa using hS
  | false =>
    simp only [Bool.false_eq_true, if_false] at hE hS
    obtain ⟨rfl, rfl⟩ := hE
    rw [if_pos rfl]
    exact ⟨t.length, by rw [← bs_len, bs_sb], ht, hS⟩
theorem spec_none (hS : parseGo Ls 0 none [] = parseGo (Ls.drop i) i cfg out) (hx : Ls[i]? = some ([], wh)) : Spec Ls i cfg out 0 false := by
  rw [drop_line hx, go_none] at hS
  unfold Spec
  simpa using hS
theorem spec_step {c : List Int} {x : St} (hS : parseGo Ls 0 none [] = parseGo (Ls.drop i) i (some c) out) (hx : Ls[i]? = some (t, wh)) (ht : t.length ≤ 1048576) (h : ¬ t.head? = some 35) (h0 : ¬ t = []) (hP : LineP stepP (sb t) wh x at' bad') : Spec Ls i (some c) (out ++ [x]) at' bad' := by
  rw [drop_line hx, parseGo, if_neg h, if_neg h0] at hS
  unfold Spec
  unfold LineP at hP
  rw [bs_sb] at hP
  cases hl : lineE stepP t wh with
  | ok y =>
    rw [hl] at hP hS
    obtain ⟨rfl, rfl⟩ := hP
    simpa using hS
  | error k =>
    rw [hl] at hP hS
    obtain ⟨rfl, rfl⟩ := hP
    rw [if_pos rfl]
    exact ⟨k, rfl, Nat.le_trans (lineE_le _ _ _ hl) ht, hS⟩
theorem spec_cfg {x : List Int} (hS : parseGo Ls 0 none [] = parseGo (Ls.drop i) i none out) (hx : Ls[i]? = some (t, wh)) (ht : t.length ≤ 1048576) (h : ¬ t.head? = some 35) (h0 : ¬ t = []) (hP : LineP cfgP (sb t) wh x at' bad') : Spec Ls i (some x) out at' bad' := by
  rw [drop_line hx, parseGo, if_neg h, if_neg h0] at hS
  unfold Spec
  unfold LineP at hP
  rw [bs_sb] at hP
  cases hl : lineE cfgP t wh with
  | ok y =>
    rw [hl] at hP hS
    obtain ⟨rfl, rfl⟩ := hP
    simpa using hS
  | error k =>
    rw [hl] at hP hS
    obtain ⟨rfl, rfl⟩ := hP
    rw [if_pos rfl]
    exact ⟨k, rfl, Nat.le_trans (lineE_le _ _ _ hl) ht, hS⟩
end
section
variable {w wr : World} {Ls : List (By × Bool)} {v vo : Value} {ks : List Nat} {i g : Nat} {cfg : Option (List Int)} {out : List St} {t : By} {wh : Bool}
theorem PS.lsr (h : PS w wr Ls v ks i cfg out vo) (hk : ks[i]? = some g) (hx : Ls[i]? = some (t, wh)) (ht : t.length ≤ 1048576) : LS w wr wr g (sb t) wh (.good () (bs (sb t))) := by
  obtain ⟨h1, h2⟩ := h.line hk hx
  exact ⟨0, false, ⟨h1, h2⟩, ⟨rfl, [], rfl, rfl⟩, h.bl, KeepBut.refl _ _ _, by rw [← bs_len, bs_sb]; omega⟩
theorem PS.lsh (h : PS w wr Ls v ks i cfg out vo) (hk : ks[i]? = some g) (hx : Ls[i]? = some (t, wh)) (ht : t.length ≤ 1048576) : LS w wr (wr.setCell ⟨g, 1, none⟩ (.int .i64 (sb t).size)) g (sb t) wh (.good () []) := by
  obtain ⟨h1, h2⟩ := h.line hk hx
  have hi : IsS109 w wr g (sb t) 0 wh false := ⟨h1, h2⟩
  refine ⟨(sb t).size, false, hi.set_1 _, ⟨rfl, bs (sb t), by simp, by rw [bs_len]⟩, h.bl.setCell (p := ⟨g, 1, none⟩) h2 _, (KeepBut.refl _ _ _).set_ 1 _, by rw [← bs_len, bs_sb]; omega⟩
theorem own_form {w : World} {base e n : Nat} {v : Value} {xs : List Value} (h : w.ownsRow base e 1 v n xs) : ∃ A c, v = .slice A n c ∧ n ≤ 9223372036854775807 := by
  rcases h.2 with ⟨rfl, rfl⟩ | ⟨G, cap, cur, rfl, _, _, h1, h2, _⟩
  · exact ⟨_, _, rfl, by omega⟩
  · refine ⟨_, _, rfl, ?_⟩
    simp only [maxLen] at h2; omega
theorem own_get {w : World} {base e n m c : Nat} {A : Option Addr} {xs : List Value} (h : w.ownsRow base e 1 (.slice A m c) n xs) {i : Nat} (hi : i < n) : ∃ ad, A = some ad ∧ ∀ j u, xs[j]? = some u → w.cell? (ad.add j) = some u := by
  have h0 := h
  rcases h.2 with ⟨_, rfl⟩ | ⟨G, cap, cur, e, _⟩
  · omega
  · injection e with e1 e2 e3
    subst e1 e2 e3
    exact ⟨_, rfl, h0.cells (g := G) rfl⟩
end
theorem setCell_idem {w : World} {b j T : Nat} {cs : Array Value} {v : Value} (h : w.heap[b]? = some (.cells cs T (0, 0))) (hv : cs[j]? = some v) : w.setCell ⟨b, j, none⟩ v = w := by
  have e : cs.setIfInBounds j v = cs := by
    apply Array.ext_getElem?
    intro k
    by_cases hk : k = j
    · subst hk
      have : k < cs.size := by rw [Array.getElem?_eq_some_iff] at hv; exact hv.1
      rw [hv, Array.getElem?_setIfInBounds_self_of_lt this]
    · rw [Array.getElem?_setIfInBounds_ne (Ne.symm hk)]
  have h1 : (w.setCell ⟨b, j, none⟩ v).heap = w.heap := by
    apply Array.ext_getElem?
    intro i
    by_cases hi : i = b
    · subst hi
      rw [heap_setCell_same w i j _ _ v h, h, e]
    · exact Below.heap_setCell w ⟨b, j, none⟩ v i hi
  unfold World.setCell at h1 ⊢
  cases w
  simp only at h1 ⊢
  rw [h1]
theorem PS.far {w wr w1 : World} {Ls : List (By × Bool)} {v vo : Value} {ks : List Nat} {i g : Nat} {cfg : Option (List Int)} {out : List St} {cs : Array Value} (h : PS w wr Ls v ks i cfg out vo) (hg : wr.grownBy w1 vo.ownBlock) (hb : wr.heap[g]? = some (.cells cs 109 (0, 0))) : w1.heap[g]? = some (.cells cs 109 (0, 0)) :=
  (hg.block g (blk_lt hb) (fun e => by
    obtain ⟨c2, hc2⟩ := Kd.R_typed h.out_ g e.symm
    rw [hb] at hc2; simp at hc2)).trans hb
/-- The steps so far and the step that has come. -/
theorem PS.push {w w2 : World} {Ls : List (By × Bool)} {v vo dv : Value} {ks : List Nat} {i b0 : Nat} {cfg : Option (List Int)} {out : List St} {x : St} (h : PS w w2 Ls v ks i cfg out vo) (hR : Kd.R (Kd.int .u8) 5 w2 b0 (fun _ => True) dv (nums x.data)) (hb : w.heap.size ≤ b0) (hv : ∀ k, vo.ownBlock = some k → k < b0) :
    Kd.M k48 w2 w.heap.size (fun k => b0 ≤ k) (stS x) (stc x dv).toList ∧ ∀ k, b0 ≤ k → True ∧ some k ≠ vo.ownBlock :=
  ⟨st_M (Kd.R_lower (Kd.R_mono (Kd.R_bound hR) (fun k hk => hk.2.1)) hb), fun k hk => ⟨trivial, fun e => by have := hv k e.symm; omega⟩⟩
theorem z48 : (Tryd.prog.info? 48).map (fun i => (i.zero, i.size, i.bytes)) = some (some (.agg #[.int .i64 0, .int .i64 0, .int .i64 0, .int .i64 0, .int .i64 0, .string ⟨#[]⟩, .int .i64 0, .int .i64 0, .int .i64 0, .int .i64 0, .slice none 0 0]), 11, 112) := by kernel_rfl
end Go.Proofs.YtnbfebjcfhbhiaaDoor.Lw
end
section
namespace Go.Proofs.YtnbfebjcfhbhiaaDoor.Lw
open Go Go.RowKit Go.Proofs.YtnbfebjcfhbhiaaDoor.P Go.Proofs.YtnbfebjcfhbhiaaDoor.Sc Go.Proofs.YtnbfebjcfhbhiaaDoorW.PrintWords Go.Proofs.YtnbfebjcfhbhiaaDoorW.PrintLast Go.Proofs.YtnbfebjcfhbhiaaDoorW.PrintMore
set_option linter.unusedVariables false
set_option linter.unusedSimpArgs false
def PR (w : World) (Ls : List (By × Bool)) (v : Value) (ks : List Nat) (s8 s9 s21 : Value) (wr : World) : Prop := ∃ (i : Nat) (cfg : Option (List Int)) (out : List St), s21 = .int .i64 i ∧ s9 = .bool cfg.isSome ∧ i ≤ Ls.length ∧ PS w wr Ls v ks i cfg out s8 ∧ parseGo Ls 0 none [] = parseGo (Ls.drop i) i cfg out
set_option maxHeartbeats 16000000 in
set_option maxRecDepth 100000 in
theorem parse_calls (w : World) (s : ByteArray) (hV : VS w) (hC : VC w) (hs : s.size ≤ 4611686018427387904) :
    Calls Tryd.prog 16 #[.string s] w fun e w' => ParseP w w' (Sc.parse (bs s)) e ∧ Below w.heap.size w w' := by
  have HV := Aside0.mk hV
  have HC := Aside0.mk hC
  have hu25 := Tryd.underlying25
  obtain ⟨wa, hwa⟩ : ∃ wa, wa = w.alloc (.cells (cfc []) 25 (0, 0)) := ⟨_, rfl⟩
  have HWA := Aside0.mk hwa
  have HA : Aside0 (Below w.heap.size w wa ∧ wa.heap[w.heap.size]? = some (.cells (cfc []) 25 (0, 0)) ∧ wa.heap.size = w.heap.size + 1) := ⟨by
    rw [hwa]
    exact ⟨(Below.refl _ _).alloc (Nat.le_refl _) _, heap_alloc_new w _, by simp⟩⟩
  have h0 : (s.size : Int) ≤ 4611686018427387904 := by omega
  have HLEN := Aside0.mk (bs_len s)
  clear hV hwa hC
  go_enter Tryd.func16, Tryd.ntmps16
  go_upto_region 1 with fail
  rw [show ((#[.int .i64 0, .int .i64 0, .int .i64 0, .int .i64 0, .int .i64 0, .int .i64 0, .int .i64 0, .int .i64 0, .int .i64 0, .int .i64 0] : Array Value)) = cfc [] from rfl, ← HWA.out]
  by_cases hl : 1048576 < s.size
  · have h1 : (1048576 : Int) < (s.size : Int) := by omega
    have HL := Aside0.mk hl
    clear hl
    go_wp2_with (refine wpList_store_row rfl 25 (.tmp 2) (.tmp 16) rfl w.heap.size (cfc []) (by rfl) (by rfl) 25 _ HA.out.2.1 (inf25c (by decide)) rfl (cfc_one _) ?_)
    refine bodyPost_ret (results_cell5 rfl _ _ w.heap.size 25 (cfc []) (0, 0) _ (by rfl) (setRow_blk HA.out.2.1 _) hu25 rfl (inf25c (by decide))) rfl ?_
    have hp : Sc.parse (bs s) = .long := by unfold Sc.parse; rw [HLEN.out, if_pos HL.out]
    rw [hp]
    exact ⟨rfl, below_setRow HA.out.1 (Nat.le_refl _) _⟩
  · have h1 : (s.size : Int) ≤ 1048576 := by omega
    have HS : Aside0 (s.size ≤ 1048576) := ⟨by omega⟩
    have HPA : Aside0 (Sc.parse (bs s) = parseGo (Sc.lines (bs s)) 0 none []) := ⟨by unfold Sc.parse; rw [HLEN.out, if_neg hl]⟩
    clear hl h0
    obtain ⟨wb, hwb⟩ : ∃ wb, wb = wa.alloc (.cells (cfc []) 25 (0, 0)) := ⟨_, rfl⟩
    have HWB := Aside0.mk hwb
    have HB : Aside0 (Below w.heap.size w wb ∧ wb.heap[w.heap.size]? = some (.cells (cfc []) 25 (0, 0)) ∧ wb.heap[w.heap.size + 1]? = some (.cells (cfc []) 25 (0, 0)) ∧ wb.heap.size = w.heap.size + 2) := ⟨by
      have hsz := HA.out.2.2
      rw [hwb]
      refine ⟨HA.out.1.alloc (by omega) _, (heap_alloc_old wa _ (by omega)).trans HA.out.2.1, ?_, by simp [hsz]⟩
      rw [← hsz]; exact heap_alloc_new wa _⟩
    have hsz := HA.out.2.2
    clear hwb
    go_upto_region 5 with fail
    rw [show ((#[.int .i64 0, .int .i64 0, .int .i64 0, .int .i64 0, .int .i64 0, .int .i64 0, .int .i64 0, .int .i64 0, .int .i64 0, .int .i64 0] : Array Value)) = cfc [] from rfl, ← HWB.out]
    clear hsz
    go_upto_region 6 with (go_at_call 35; refine (lines_calls _ s HS.out).mono ?_; rintro e wc ⟨v, ks, rfl, hLN, hb⟩; have HN := Aside0.mk hLN; have HBC := Aside0.mk hb; clear hLN hb)
    obtain ⟨A, c, rfl, hmax⟩ := own_form HN.out.own
    obtain ⟨Ls, hLs⟩ : ∃ Ls, Ls = Sc.lines (bs s) := ⟨_, rfl⟩
    have HK : Aside0 (PS w wc Ls (.slice A ks.length c) ks 0 none [] (.slice none 0 0) ∧ (∀ x ∈ Ls, x.1.length ≤ 1048576) ∧ Ls.length ≤ 1048576) := ⟨by
      have hn := HN.out
      have hb := HBC.out
      have hB := HB.out
      rw [← hLs] at hn
      have h1 := HS.out
      have h2 := HLEN.out
      refine ⟨⟨own_weaken hn.own (by omega), hn.len, fun j k x _ a b => ⟨(hn.at_ j k x a b).1, by have := (hn.at_ j k x a b).2; omega⟩, hn.nd, (hb.block _ (by omega)).trans hB.2.2.1, (hb.block _ (by omega)).trans hB.2.1, Kd.R_nil _ _ _ _ _, hB.1.trans (hb.mono (by omega)), Nat.le_refl _, fun _ e => by cases e⟩, fun x hx => ?_, ?_⟩
      · rw [hLs] at hx
        have := lines_le _ _ hx; omega
      · rw [hLs]; have := lines_len (bs s); omega⟩
    have HLs := Aside0.mk hLs
    have HKL : Aside0 (ks.length = Ls.length) := ⟨HK.out.1.len⟩
    have hkm : (ks.length : Int) ≤ 1048576 := by have := HK.out.2.2; have := HKL.out; omega
    clear hLs hmax HN HBC h1
    go_wp2_with fail
    go_loopw [8, 9, 21] (fun s8 s9 s21 wr => Aside0 (PR w Ls (.slice A ks.length c) ks s8 s9 s21 wr)) (fun _ _ s21 _ => Ls.length - (intOf s21).toNat)
    case atStart => exact ⟨0, none, [], rfl, rfl, Nat.zero_le _, HK.out.1, rfl⟩
    case round =>
      obtain ⟨i, cfg, out, rfl, rfl, hi, hP, hS⟩ := hrel.out
      have HX := Aside0.mk hP
      have HSP := Aside0.mk hS
      have HI := Aside0.mk hi
      clear hrel hP hS hi
      by_cases hlt : i < ks.length
      · have hil : i < Ls.length := by have := HKL.out; omega
        have hk : ks[i]? = some (ks[i]'hlt) := List.getElem?_eq_getElem hlt
        have hx : Ls[i]? = some (Ls[i]'hil) := List.getElem?_eq_getElem hil
        have hmem : (Ls[i]'hil) ∈ Ls := List.getElem_mem hil
        generalize ks[i]'hlt = g at hk
        obtain ⟨⟨t, wh⟩, hx1⟩ : ∃ x, Ls[i]'hil = x := ⟨_, rfl⟩
        rw [hx1] at hx hmem
        have HT : Aside0 (ks[i]? = some g ∧ Ls[i]? = some (t, wh) ∧ t.length ≤ 1048576) := ⟨⟨hk, hx, HK.out.2.1 _ hmem⟩⟩
        obtain ⟨ad, rfl, hat⟩ := own_get HX.out.row hlt
        have q0 : wr.cell? (ad.add i) = some (.pointer (some ⟨g, 0, none⟩)) := hat i _ (by rw [List.getElem?_map, hk]; rfl)
        obtain ⟨hln, hlw⟩ := HX.out.line hk hx
        have q1 : wr.cell? ⟨g, 0, none⟩ = some (.string (sb t)) := (blk_cell hln 0).trans rfl
        have HIL := Aside0.mk hil
        have hlt2 : (i : Int) < (ks.length : Int) := by omega
        have HPL : Aside0 (parseGo Ls 0 none [] = Sc.parse (bs s)) := ⟨by rw [HPA.out, HLs.out]⟩
        clear hat hk hx hmem hx1 hil hln hlw hlt
        by_cases hh : t.head? = some 35
        · have HH := Aside0.mk hh
          clear hh
          go_upto_region 11 with (go_at_call 36; refine (hash_yes HH.out _).mono ?_; rintro e w1 ⟨rfl, hb⟩; have n0_ := Aside0.mk (HX.out.below hb); clear HX hb q0 q1; have HX := n0_; clear n0_; have hln := (HX.out.line HT.out.1 HT.out.2.1).1; have p0 : w1.cell? ⟨g, 0, none⟩ = some (.string (sb t)) := (blk_cell hln 0).trans rfl; have p1 : w1.cell? ⟨g, 1, none⟩ = some (.int .i64 0) := (blk_cell hln 1).trans rfl; have p2 : w1.frozen? ⟨g, 1, none⟩ = false := blk_frozen hln 1; clear hln)
          have HL := Aside0.mk (HX.out.lsh HT.out.1 HT.out.2.1 HT.out.2.2)
          go_upto_region 16 with (go_at_call 37; refine (ends_calls HL.out).mono ?_; rintro e w2 ⟨rfl, atv, bdv, k1, k2, k3, k4⟩; have hc1 : w2.cell? ⟨g, 1, none⟩ = some (.int .i64 atv) := (blk_cell k1.1 1).trans rfl; have hc3 : w2.cell? ⟨g, 3, none⟩ = some (.bool bdv) := (blk_cell k1.1 3).trans rfl; have hpx := HX.out.next HT.out.1 HT.out.2.1 (((KeepBut.refl w1 g none).set_ 1 _).trans k3 (.inl rfl)) k2; have hsx := spec_hash HSP.out HT.out.2.1 HT.out.2.2 HH.out k4; clear k1 k2 k3 k4 p0 p1 p2 HX HL)
          have HPX := Aside0.mk hpx
          have HSX := Aside0.mk hsx
          clear hpx hsx
          cases bdv with
          | true =>
            obtain ⟨k, rfl, hk, hres⟩ : ∃ k : Nat, atv = (k : Int) ∧ k ≤ 1048576 ∧ parseGo Ls 0 none [] = .place (i + 1) (k + 1) := by have := HSX.out; unfold Spec at this; simpa using this
            have HR := Aside0.mk hres
            have hk2 : (k : Int) ≤ 1048576 := by omega
            have hrv := HPX.out.rv
            have z0 : w2.cell? ⟨w.heap.size, 0, none⟩ = some (.int .i64 0) := (blk_cell hrv 0).trans rfl
            have y0 : w2.frozen? ⟨w.heap.size, 0, none⟩ = false := blk_frozen hrv 0
            have x0 : w2.setCell ⟨w.heap.size, 0, none⟩ (.int .i64 0) = w2 := setCell_idem hrv rfl
            have z1 : w2.cell? ⟨w.heap.size, 1, none⟩ = some (.int .i64 0) := (blk_cell hrv 1).trans rfl
            have y1 : w2.frozen? ⟨w.heap.size, 1, none⟩ = false := blk_frozen hrv 1
            have x1 : w2.setCell ⟨w.heap.size, 1, none⟩ (.int .i64 0) = w2 := setCell_idem hrv rfl
            have z2 : w2.cell? ⟨w.heap.size, 2, none⟩ = some (.int .i64 0) := (blk_cell hrv 2).trans rfl
            have y2 : w2.frozen? ⟨w.heap.size, 2, none⟩ = false := blk_frozen hrv 2
            have x2 : w2.setCell ⟨w.heap.size, 2, none⟩ (.int .i64 0) = w2 := setCell_idem hrv rfl
            have z3 : w2.cell? ⟨w.heap.size, 3, none⟩ = some (.int .i64 0) := (blk_cell hrv 3).trans rfl
            have y3 : w2.frozen? ⟨w.heap.size, 3, none⟩ = false := blk_frozen hrv 3
            have x3 : w2.setCell ⟨w.heap.size, 3, none⟩ (.int .i64 0) = w2 := setCell_idem hrv rfl
            have z4 : w2.cell? ⟨w.heap.size, 4, none⟩ = some (.int .i64 0) := (blk_cell hrv 4).trans rfl
            have y4 : w2.frozen? ⟨w.heap.size, 4, none⟩ = false := blk_frozen hrv 4
            have x4 : w2.setCell ⟨w.heap.size, 4, none⟩ (.int .i64 0) = w2 := setCell_idem hrv rfl
            have z5 : w2.cell? ⟨w.heap.size, 5, none⟩ = some (.int .i64 0) := (blk_cell hrv 5).trans rfl
            have y5 : w2.frozen? ⟨w.heap.size, 5, none⟩ = false := blk_frozen hrv 5
            have x5 : w2.setCell ⟨w.heap.size, 5, none⟩ (.int .i64 0) = w2 := setCell_idem hrv rfl
            have z6 : w2.cell? ⟨w.heap.size, 6, none⟩ = some (.int .i64 0) := (blk_cell hrv 6).trans rfl
            have y6 : w2.frozen? ⟨w.heap.size, 6, none⟩ = false := blk_frozen hrv 6
            have x6 : w2.setCell ⟨w.heap.size, 6, none⟩ (.int .i64 0) = w2 := setCell_idem hrv rfl
            have z7 : w2.cell? ⟨w.heap.size, 7, none⟩ = some (.int .i64 0) := (blk_cell hrv 7).trans rfl
            have y7 : w2.frozen? ⟨w.heap.size, 7, none⟩ = false := blk_frozen hrv 7
            have x7 : w2.setCell ⟨w.heap.size, 7, none⟩ (.int .i64 0) = w2 := setCell_idem hrv rfl
            have z8 : w2.cell? ⟨w.heap.size, 8, none⟩ = some (.int .i64 0) := (blk_cell hrv 8).trans rfl
            have y8 : w2.frozen? ⟨w.heap.size, 8, none⟩ = false := blk_frozen hrv 8
            have x8 : w2.setCell ⟨w.heap.size, 8, none⟩ (.int .i64 0) = w2 := setCell_idem hrv rfl
            have z9 : w2.cell? ⟨w.heap.size, 9, none⟩ = some (.int .i64 0) := (blk_cell hrv 9).trans rfl
            have y9 : w2.frozen? ⟨w.heap.size, 9, none⟩ = false := blk_frozen hrv 9
            have x9 : w2.setCell ⟨w.heap.size, 9, none⟩ (.int .i64 0) = w2 := setCell_idem hrv rfl
            clear hres hk hrv
            go_upto_region 17 with fail
            go_region
            go_wp2_with fail
            refine bodyPost_ret (results_cell5 rfl _ _ w.heap.size 25 (cfc []) (0, 0) _ (by rfl) HPX.out.rv hu25 rfl (inf25c (by decide))) rfl ?_
            rw [← HPL.out, HR.out]
            exact ⟨by simp [ParseP], pw_below_drewN HPX.out.bl 1⟩
          | false =>
            have hres : parseGo Ls 0 none [] = parseGo (Ls.drop (i + 1)) (i + 1) cfg out := by have := HSX.out; unfold Spec at this; simpa using this
            have HR := Aside0.mk hres
            clear hres
            go_wp2_with fail
            go_roundw
            case rel => exact ⟨i + 1, cfg, out, by go_num, rfl, HIL.out, HPX.out, HR.out⟩
            case measure => simp [intOf]; have := HIL.out; omega
        have HH := Aside0.mk hh
        clear hh
        by_cases ht0 : t = []
        · subst ht0
          go_upto_region 13 with (go_at_call 36; refine (hash_no HH.out _).mono ?_; rintro e w1 ⟨rfl, hb⟩; have n0_ := Aside0.mk (HX.out.below hb); clear HX hb q0 q1; have HX := n0_; clear n0_; have hln := (HX.out.line HT.out.1 HT.out.2.1).1; have p0 : w1.cell? ⟨g, 0, none⟩ = some (.string ⟨#[]⟩) := (blk_cell hln 0).trans rfl; have p3 : w1.cell? ⟨g, 3, none⟩ = some (.bool false) := (blk_cell hln 3).trans rfl; clear hln)
          have HPX := Aside0.mk HX.out.skip
          have HSX := Aside0.mk (spec_none HSP.out HT.out.2.1)
          have hres : parseGo Ls 0 none [] = parseGo (Ls.drop (i + 1)) (i + 1) cfg out := by have := HSX.out; unfold Spec at this; simpa using this
          have HR := Aside0.mk hres
          clear hres
          go_wp2_with fail
          go_roundw
          case rel => exact ⟨i + 1, cfg, out, by go_num, rfl, HIL.out, HPX.out, HR.out⟩
          case measure => simp [intOf]; have := HIL.out; omega
        have h01 : (sb t).toList.isEmpty = false := by rw [toList_bs, bs_sb]; cases t <;> first | rfl | exact absurd rfl ht0
        have HT0 := Aside0.mk ht0
        clear ht0
        cases cfg with
        | some cf =>
          go_upto_region 15 with (go_at_call 36; refine (hash_no HH.out _).mono ?_; rintro e w1 ⟨rfl, hb⟩; have n0_ := Aside0.mk (HX.out.below hb); clear HX hb q0 q1; have HX := n0_; clear n0_; have hln := (HX.out.line HT.out.1 HT.out.2.1).1; have p0 : w1.cell? ⟨g, 0, none⟩ = some (.string (sb t)) := (blk_cell hln 0).trans rfl; clear hln)
          have HL := Aside0.mk (HX.out.lsr HT.out.1 HT.out.2.1 HT.out.2.2)
          have HKM : Aside0 ((ks.length : Int) ≤ 1048576) := ⟨hkm⟩
          have HVO : Aside0 (∀ k, u8.ownBlock = some k → k < w1.heap.size) := ⟨Kd.R_lt HX.out.out_⟩
          have HWL : Aside0 (w.heap.size ≤ w1.heap.size) := ⟨HX.out.bl.size⟩
          have HOI : Aside0 (out.length ≤ i) := ⟨HX.out.ol⟩
          have HOL : Aside0 ((out.map stS).length ≤ 1048576) := ⟨by have h1 := HX.out.ol; have h2 := HIL.out; have h3 := HK.out.2.2; rw [List.length_map]; omega⟩
          go_upto_region 16 with (first
            | (go_at_call 38; refine (step_calls HV.out HL.out).mono ?_; rintro e w2 ⟨x, A2, c2, atv, bdv, r', rfl, hR, k1, k2, k3, kP, kE, kL⟩; have HP0 := Aside0.mk (HX.out.next HT.out.1 HT.out.2.1 k3 k2); have HPU := Aside0.mk (HP0.out.push hR HWL.out HVO.out); have HK1 := Aside0.mk k1.1; have HSX := Aside0.mk (spec_step HSP.out HT.out.2.1 HT.out.2.2 HH.out HT0.out (line_end kL kP kE)); clear hR k1 k2 k3 kP kE kL p0 HX HL; unfold stc)
            | (at_builtin; rw [show (#[.int .i64 x.kind, .int .i64 x.rep, .int .i64 x.ses, .int .i64 x.id, .int .i64 x.ok, .string (sb x.name), .int .i64 x.a, .int .i64 x.b, .int .i64 x.i, .int .i64 x.j, .slice A2 x.data.length c2] : Array Value) = (stc x (.slice A2 x.data.length c2)).toList.toArray from rfl]; refine Kd.R_append k48 (w0 := w) (W := w2) w.heap.size rfl (.tmp 52) (.tmp 55) 26 48 (.agg #[.int .i64 0, .int .i64 0, .int .i64 0, .int .i64 0, .int .i64 0, .string ⟨#[]⟩, .int .i64 0, .int .i64 0, .int .i64 0, .int .i64 0, .slice none 0 0]) 112 rfl Tryd.underlying26 z48 rfl (by decide) (by decide) u8 (out.map stS) (stS x) (stc x (.slice A2 x.data.length c2)).toList (fun _ => True) (fun k => w1.heap.size ≤ k) rfl rfl HPU.out.1 HPU.out.2 (fun _ _ => trivial) HP0.out.out_ HP0.out.bl HP0.out.bl.size (by have := HOL.out; omega) ?_; intro v1 w3 k1 k2 k3 _; have hpx := HP0.out.app (by have := HOI.out; omega) k1 k2 k3; have hc1 : w3.cell? ⟨g, 1, none⟩ = some (.int .i64 atv) := (blk_cell (HP0.out.far k3 HK1.out) 1).trans rfl; have hc3 : w3.cell? ⟨g, 3, none⟩ = some (.bool bdv) := (blk_cell (HP0.out.far k3 HK1.out) 3).trans rfl; have hsx := HSX.out; clear HP0 k1 k2 k3 HPU HK1 HSX))
          have HPX := Aside0.mk hpx
          have HSX := Aside0.mk hsx
          clear hpx hsx
          cases bdv with
          | true =>
            obtain ⟨k, rfl, hk, hres⟩ : ∃ k : Nat, atv = (k : Int) ∧ k ≤ 1048576 ∧ parseGo Ls 0 none [] = .place (i + 1) (k + 1) := by have := HSX.out; unfold Spec at this; simpa using this
            have HR := Aside0.mk hres
            have hk2 : (k : Int) ≤ 1048576 := by omega
            have hrv := HPX.out.rv
            have z0 : w3.cell? ⟨w.heap.size, 0, none⟩ = some (.int .i64 0) := (blk_cell hrv 0).trans rfl
            have y0 : w3.frozen? ⟨w.heap.size, 0, none⟩ = false := blk_frozen hrv 0
            have x0 : w3.setCell ⟨w.heap.size, 0, none⟩ (.int .i64 0) = w3 := setCell_idem hrv rfl
            have z1 : w3.cell? ⟨w.heap.size, 1, none⟩ = some (.int .i64 0) := (blk_cell hrv 1).trans rfl
            have y1 : w3.frozen? ⟨w.heap.size, 1, none⟩ = false := blk_frozen hrv 1
            have x1 : w3.setCell ⟨w.heap.size, 1, none⟩ (.int .i64 0) = w3 := setCell_idem hrv rfl
            have z2 : w3.cell? ⟨w.heap.size, 2, none⟩ = some (.int .i64 0) := (blk_cell hrv 2).trans rfl
            have y2 : w3.frozen? ⟨w.heap.size, 2, none⟩ = false := blk_frozen hrv 2
            have x2 : w3.setCell ⟨w.heap.size, 2, none⟩ (.int .i64 0) = w3 := setCell_idem hrv rfl
            have z3 : w3.cell? ⟨w.heap.size, 3, none⟩ = some (.int .i64 0) := (blk_cell hrv 3).trans rfl
            have y3 : w3.frozen? ⟨w.heap.size, 3, none⟩ = false := blk_frozen hrv 3
            have x3 : w3.setCell ⟨w.heap.size, 3, none⟩ (.int .i64 0) = w3 := setCell_idem hrv rfl
            have z4 : w3.cell? ⟨w.heap.size, 4, none⟩ = some (.int .i64 0) := (blk_cell hrv 4).trans rfl
            have y4 : w3.frozen? ⟨w.heap.size, 4, none⟩ = false := blk_frozen hrv 4
            have x4 : w3.setCell ⟨w.heap.size, 4, none⟩ (.int .i64 0) = w3 := setCell_idem hrv rfl
            have z5 : w3.cell? ⟨w.heap.size, 5, none⟩ = some (.int .i64 0) := (blk_cell hrv 5).trans rfl
            have y5 : w3.frozen? ⟨w.heap.size, 5, none⟩ = false := blk_frozen hrv 5
            have x5 : w3.setCell ⟨w.heap.size, 5, none⟩ (.int .i64 0) = w3 := setCell_idem hrv rfl
            have z6 : w3.cell? ⟨w.heap.size, 6, none⟩ = some (.int .i64 0) := (blk_cell hrv 6).trans rfl
            have y6 : w3.frozen? ⟨w.heap.size, 6, none⟩ = false := blk_frozen hrv 6
            have x6 : w3.setCell ⟨w.heap.size, 6, none⟩ (.int .i64 0) = w3 := setCell_idem hrv rfl
            have z7 : w3.cell? ⟨w.heap.size, 7, none⟩ = some (.int .i64 0) := (blk_cell hrv 7).trans rfl
            have y7 : w3.frozen? ⟨w.heap.size, 7, none⟩ = false := blk_frozen hrv 7
            have x7 : w3.setCell ⟨w.heap.size, 7, none⟩ (.int .i64 0) = w3 := setCell_idem hrv rfl
            have z8 : w3.cell? ⟨w.heap.size, 8, none⟩ = some (.int .i64 0) := (blk_cell hrv 8).trans rfl
            have y8 : w3.frozen? ⟨w.heap.size, 8, none⟩ = false := blk_frozen hrv 8
            have x8 : w3.setCell ⟨w.heap.size, 8, none⟩ (.int .i64 0) = w3 := setCell_idem hrv rfl
            have z9 : w3.cell? ⟨w.heap.size, 9, none⟩ = some (.int .i64 0) := (blk_cell hrv 9).trans rfl
            have y9 : w3.frozen? ⟨w.heap.size, 9, none⟩ = false := blk_frozen hrv 9
            have x9 : w3.setCell ⟨w.heap.size, 9, none⟩ (.int .i64 0) = w3 := setCell_idem hrv rfl
            clear hres hk hrv
            go_upto_region 17 with fail
            go_region
            go_wp2_with fail
            refine bodyPost_ret (results_cell5 rfl _ _ w.heap.size 25 (cfc []) (0, 0) _ (by rfl) HPX.out.rv hu25 rfl (inf25c (by decide))) rfl ?_
            rw [← HPL.out, HR.out]
            exact ⟨by simp [ParseP], pw_below_drewN HPX.out.bl 1⟩
          | false =>
            have hres : parseGo Ls 0 none [] = parseGo (Ls.drop (i + 1)) (i + 1) (some cf) (out ++ [x]) := by have := HSX.out; unfold Spec at this; simpa using this
            have HR := Aside0.mk hres
            clear hres
            go_wp2_with fail
            go_roundw
            case rel => exact ⟨i + 1, (some cf), (out ++ [x]), by go_num, rfl, HIL.out, HPX.out, HR.out⟩
            case measure => simp [intOf]; have := HIL.out; omega
        | none =>
          go_upto_region 9 with (go_at_call 36; refine (hash_no HH.out _).mono ?_; rintro e w1 ⟨rfl, hb⟩; have n0_ := Aside0.mk (HX.out.below hb); clear HX hb q0 q1; have HX := n0_; clear n0_; have hln := (HX.out.line HT.out.1 HT.out.2.1).1; have p0 : w1.cell? ⟨g, 0, none⟩ = some (.string (sb t)) := (blk_cell hln 0).trans rfl; clear hln)
          have HL := Aside0.mk (HX.out.lsr HT.out.1 HT.out.2.1 HT.out.2.2)
          go_upto_region 16 with (first
            | (go_at_call 39; refine (config_calls HV.out HC.out HL.out).mono ?_; rintro e w2 ⟨x, atv, bdv, r', rfl, hx10, k1, k2, k3, kP, kE, kL⟩; have HP0 := Aside0.mk (HX.out.next HT.out.1 HT.out.2.1 k3 k2); have HX10 := Aside0.mk hx10; have HK1 := Aside0.mk k1.1; have HSX := Aside0.mk (spec_cfg HSP.out HT.out.2.1 HT.out.2.2 HH.out HT0.out (line_end kL kP kE)); clear hx10 k1 k2 k3 kP kE kL p0 HX HL)
            | (refine wpList_store_row rfl 25 (.tmp 7) (.tmp 27) rfl (w.heap.size + 1) (cfc x) (by rfl) (by rfl) 25 _ HP0.out.cf (inf25c (by rw [HX10.out]; decide)) (by rw [cfc_size (by decide), cfc_size (by rw [HX10.out]; decide)]) (cfc_one _) ?_; have hpx := HP0.out.cfg_ x HX10.out; have hgf : g ≠ w.heap.size + 1 := (fun e => by have h1 := HK1.out; have h2 := HP0.out.cf; rw [e, h2] at h1; simp at h1); have hc1 : (w2.setRow (w.heap.size + 1) (cfc x)).cell? ⟨g, 1, none⟩ = some (.int .i64 atv) := (blk_cell ((setRow_far hgf _).trans HK1.out) 1).trans rfl; have hc3 : (w2.setRow (w.heap.size + 1) (cfc x)).cell? ⟨g, 3, none⟩ = some (.bool bdv) := (blk_cell ((setRow_far hgf _).trans HK1.out) 3).trans rfl; have hsx := HSX.out; clear hgf HP0 HK1 HSX; generalize w2.setRow (w.heap.size + 1) (cfc x) = w3 at hpx hc1 hc3 ⊢))
          have HPX := Aside0.mk hpx
          have HSX := Aside0.mk hsx
          clear hpx hsx
          cases bdv with
          | true =>
            obtain ⟨k, rfl, hk, hres⟩ : ∃ k : Nat, atv = (k : Int) ∧ k ≤ 1048576 ∧ parseGo Ls 0 none [] = .place (i + 1) (k + 1) := by have := HSX.out; unfold Spec at this; simpa using this
            have HR := Aside0.mk hres
            have hk2 : (k : Int) ≤ 1048576 := by omega
            have hrv := HPX.out.rv
            have z0 : w3.cell? ⟨w.heap.size, 0, none⟩ = some (.int .i64 0) := (blk_cell hrv 0).trans rfl
            have y0 : w3.frozen? ⟨w.heap.size, 0, none⟩ = false := blk_frozen hrv 0
            have x0 : w3.setCell ⟨w.heap.size, 0, none⟩ (.int .i64 0) = w3 := setCell_idem hrv rfl
            have z1 : w3.cell? ⟨w.heap.size, 1, none⟩ = some (.int .i64 0) := (blk_cell hrv 1).trans rfl
            have y1 : w3.frozen? ⟨w.heap.size, 1, none⟩ = false := blk_frozen hrv 1
            have x1 : w3.setCell ⟨w.heap.size, 1, none⟩ (.int .i64 0) = w3 := setCell_idem hrv rfl
            have z2 : w3.cell? ⟨w.heap.size, 2, none⟩ = some (.int .i64 0) := (blk_cell hrv 2).trans rfl
            have y2 : w3.frozen? ⟨w.heap.size, 2, none⟩ = false := blk_frozen hrv 2
            have x2 : w3.setCell ⟨w.heap.size, 2, none⟩ (.int .i64 0) = w3 := setCell_idem hrv rfl
            have z3 : w3.cell? ⟨w.heap.size, 3, none⟩ = some (.int .i64 0) := (blk_cell hrv 3).trans rfl
            have y3 : w3.frozen? ⟨w.heap.size, 3, none⟩ = false := blk_frozen hrv 3
            have x3 : w3.setCell ⟨w.heap.size, 3, none⟩ (.int .i64 0) = w3 := setCell_idem hrv rfl
            have z4 : w3.cell? ⟨w.heap.size, 4, none⟩ = some (.int .i64 0) := (blk_cell hrv 4).trans rfl
            have y4 : w3.frozen? ⟨w.heap.size, 4, none⟩ = false := blk_frozen hrv 4
            have x4 : w3.setCell ⟨w.heap.size, 4, none⟩ (.int .i64 0) = w3 := setCell_idem hrv rfl
            have z5 : w3.cell? ⟨w.heap.size, 5, none⟩ = some (.int .i64 0) := (blk_cell hrv 5).trans rfl
            have y5 : w3.frozen? ⟨w.heap.size, 5, none⟩ = false := blk_frozen hrv 5
            have x5 : w3.setCell ⟨w.heap.size, 5, none⟩ (.int .i64 0) = w3 := setCell_idem hrv rfl
            have z6 : w3.cell? ⟨w.heap.size, 6, none⟩ = some (.int .i64 0) := (blk_cell hrv 6).trans rfl
            have y6 : w3.frozen? ⟨w.heap.size, 6, none⟩ = false := blk_frozen hrv 6
            have x6 : w3.setCell ⟨w.heap.size, 6, none⟩ (.int .i64 0) = w3 := setCell_idem hrv rfl
            have z7 : w3.cell? ⟨w.heap.size, 7, none⟩ = some (.int .i64 0) := (blk_cell hrv 7).trans rfl
            have y7 : w3.frozen? ⟨w.heap.size, 7, none⟩ = false := blk_frozen hrv 7
            have x7 : w3.setCell ⟨w.heap.size, 7, none⟩ (.int .i64 0) = w3 := setCell_idem hrv rfl
            have z8 : w3.cell? ⟨w.heap.size, 8, none⟩ = some (.int .i64 0) := (blk_cell hrv 8).trans rfl
            have y8 : w3.frozen? ⟨w.heap.size, 8, none⟩ = false := blk_frozen hrv 8
            have x8 : w3.setCell ⟨w.heap.size, 8, none⟩ (.int .i64 0) = w3 := setCell_idem hrv rfl
            have z9 : w3.cell? ⟨w.heap.size, 9, none⟩ = some (.int .i64 0) := (blk_cell hrv 9).trans rfl
            have y9 : w3.frozen? ⟨w.heap.size, 9, none⟩ = false := blk_frozen hrv 9
            have x9 : w3.setCell ⟨w.heap.size, 9, none⟩ (.int .i64 0) = w3 := setCell_idem hrv rfl
            clear hres hk hrv
            go_upto_region 17 with fail
            go_region
            go_wp2_with fail
            refine bodyPost_ret (results_cell5 rfl _ _ w.heap.size 25 (cfc []) (0, 0) _ (by rfl) HPX.out.rv hu25 rfl (inf25c (by decide))) rfl ?_
            rw [← HPL.out, HR.out]
            exact ⟨by simp [ParseP], pw_below_drewN HPX.out.bl 1⟩
          | false =>
            have hres : parseGo Ls 0 none [] = parseGo (Ls.drop (i + 1)) (i + 1) (some x) out := by have := HSX.out; unfold Spec at this; simpa using this
            have HR := Aside0.mk hres
            clear hres
            go_wp2_with fail
            go_roundw
            case rel => exact ⟨i + 1, (some x), out, by go_num, rfl, HIL.out, HPX.out, HR.out⟩
            case measure => simp [intOf]; have := HIL.out; omega
      · have HI2 : Aside0 (i = Ls.length ∧ i = ks.length) := ⟨by have h1 := HI.out; have h2 := HKL.out; omega⟩
        have HPL : Aside0 (Sc.parse (bs s) = parseGo [] i cfg out) := ⟨by rw [HPA.out, ← HLs.out, HSP.out, HI2.out.1, List.drop_eq_nil_of_le (Nat.le_refl _)]⟩
        have hge : ¬ (i : Int) < (ks.length : Int) := by omega
        clear hlt
        cases cfg with
        | none =>
          go_wp2_with (refine wpList_store_row rfl 25 (.tmp 2) (.tmp 73) rfl w.heap.size (cfc []) (by rfl) (by rfl) 25 _ HX.out.rv (inf25c (by decide)) rfl (cfc_one _) ?_)
          refine bodyPost_ret (results_cell5 rfl _ _ w.heap.size 25 (cfc []) (0, 0) _ (by rfl) (setRow_blk HX.out.rv _) hu25 rfl (inf25c (by decide))) rfl ?_
          rw [HPL.out, HI2.out.2]
          refine ⟨?_, below_setRow HX.out.bl (Nat.le_refl _) _⟩
          simp only [parseGo, ParseP]
          rfl
        | some cf =>
          have hlm : (out.map stS).length = out.length := List.length_map _
          obtain ⟨A2, c2, hu8⟩ := Kd.R_slice HX.out.out_
          rw [hlm] at hu8
          subst hu8
          have hol : (out.length : Int) ≤ 1048576 := by have h1 := HX.out.ol; have h2 := HK.out.2.2; have h3 := HI2.out.1; omega
          have HCL := Aside0.mk (HX.out.cl cf rfl)
          clear hlm
          by_cases h20 : 20000 < out.length
          · have h21 : (20000 : Int) < (out.length : Int) := by omega
            have HQ : Aside0 (Sc.parse (bs s) = .long) := ⟨by rw [HPL.out, parseGo, if_pos h20]⟩
            clear h20
            go_wp2_with (refine wpList_store_row rfl 25 (.tmp 2) (.tmp 81) rfl w.heap.size (cfc []) (by rfl) (by rfl) 25 _ HX.out.rv (inf25c (by decide)) rfl (cfc_one _) ?_)
            refine bodyPost_ret (results_cell5 rfl _ _ w.heap.size 25 (cfc []) (0, 0) _ (by rfl) (setRow_blk HX.out.rv _) hu25 rfl (inf25c (by decide))) rfl ?_
            rw [HQ.out]
            exact ⟨rfl, below_setRow HX.out.bl (Nat.le_refl _) _⟩
          · have h21 : ¬ (20000 : Int) < (out.length : Int) := by omega
            have HQ : Aside0 (Sc.parse (bs s) = .ok cf out) := ⟨by rw [HPL.out, parseGo, if_neg h20]⟩
            clear h20
            go_wp2_with (first
              | ((with_reducible refine gate_dst (N := 82) rfl ?_); refine wpList_load_row rfl 25 (.tmp 7) rfl (w.heap.size + 1) (by rfl) 25 (cfc cf) (0, 0) _ HX.out.cf hu25 rfl (inf25c (by rw [HCL.out]; decide)) ?_)
              | (refine wpList_store_row rfl 25 (.tmp 2) (.tmp 82) rfl w.heap.size (cfc cf) (by rfl) (by rfl) 25 _ HX.out.rv (inf25c (by rw [HCL.out]; decide)) (by rw [cfc_size (by decide), cfc_size (by rw [HCL.out]; decide)]) (cfc_one _) ?_))
            refine bodyPost_ret (results_cell5 rfl _ _ w.heap.size 25 (cfc cf) (0, 0) _ (by rfl) (setRow_blk HX.out.rv _) hu25 rfl (inf25c (by rw [HCL.out]; decide))) rfl ?_
            rw [HQ.out]
            exact ⟨⟨_, rfl, HCL.out, Kd.R_mono (Kd.R_step (Kd.R_types HX.out.out_ HX.out.rv (by decide)) (fun k hk _ => setRow_far hk.2 _)) (fun _ _ => trivial)⟩, below_setRow HX.out.bl (Nat.le_refl _) _⟩
end Go.Proofs.YtnbfebjcfhbhiaaDoor.Lw
end
section
namespace Go.Proofs.YtnbfebjcfhbhiaaDoor.Bw
open Go Go.RowKit Go.Proofs.YtnbfebjcfhbhiaaDoor.P Go.Proofs.YtnbfebjcfhbhiaaDoor.Sc Go.Proofs.YtnbfebjcfhbhiaaDoor.Lw Go.Proofs.YtnbfebjcfhbhiaaDoorW.PrintWords Go.Proofs.YtnbfebjcfhbhiaaDoorW.PrintLast Go.Proofs.YtnbfebjcfhbhiaaDoorW.PrintMore
set_option linter.unusedVariables false
set_option linter.unusedSimpArgs false
theorem alive_lit : (⟨(([114, 101, 112, 108, 105, 99, 97, 115, 32, 50, 32, 119, 105, 110, 100, 111, 119, 32, 50, 32, 114, 101, 115, 101, 110, 100, 32, 50, 32, 116, 105, 109, 101, 111, 117, 116, 32, 50, 48, 32, 113, 117, 101, 117, 101, 32, 52, 32, 99, 97, 99, 104, 101, 32, 50, 32, 99, 111, 117, 110] : List UInt8).append [116, 101, 114, 115, 32, 50, 32, 104, 111, 108, 100, 115, 32, 50, 32, 115, 101, 115, 115, 105, 111, 110, 115, 32, 52, 32, 98, 97, 103, 32, 53, 48, 10, 99, 97, 108, 108, 32, 48, 32, 50, 32, 49, 32, 99, 114, 101, 97, 116, 101, 32, 107, 37, 50, 48, 32, 49, 48, 32, 52, 10]).toArray⟩ : ByteArray) = sb aliveX := rfl
set_option maxHeartbeats 4000000 in
theorem num_calls (e : Int) (w : World) : Calls Tryd.prog 15 #[.int .i64 e] w fun r w' => r = .returned (.int .i64 e) ∧ w' = w := by
  go_enter Tryd.func15, Tryd.ntmps15
  go_wp2_with fail
  go_ret
  exact ⟨rfl, rfl⟩
theorem parse_alive (w : World) (hV : VS w) (hC : VC w) : Calls Tryd.prog 16 #[.string (sb aliveX)] w fun e w' => ∃ A c, e = .returned (.tuple #[.agg #[.int .i64 2, .int .i64 2, .int .i64 2, .int .i64 20, .int .i64 4, .int .i64 2, .int .i64 2, .int .i64 2, .int .i64 4, .int .i64 50], .slice A 1 c, .int .i64 0, .int .i64 0, .int .i64 0]) ∧ Kd.C k48 w' A [aliveS].length ([aliveS].map stS) ∧ Below w.heap.size w w' := by
  refine (parse_calls w (sb aliveX) hV hC (by decide)).mono ?_
  rintro e w' ⟨hP, hb⟩
  rw [bs_sb, alive_parse] at hP
  obtain ⟨v, rfl, _, hR⟩ := hP
  obtain ⟨A, c, rfl, _, hC⟩ := Kd.R_reads hR
  exact ⟨A, c, rfl, hC, hb⟩
theorem print_alive (w : World) (A : Option Addr) (cp : Nat) (hT : TB w) (hV : VS w) (hVC : VC w) (hC : Kd.C k48 w A [aliveS].length ([aliveS].map stS)) : Calls Tryd.prog 14 #[.agg #[.int .i64 2, .int .i64 2, .int .i64 2, .int .i64 20, .int .i64 4, .int .i64 2, .int .i64 2, .int .i64 2, .int .i64 4, .int .i64 50], .slice A 1 cp] w fun e w' => e = .returned (.tuple #[.string (sb aliveX), .int .i64 0]) ∧ Below w.heap.size w w' := by
  refine (print_calls w aliveC [aliveS] A cp hT hV hVC (by rfl) ?_ hC ?_ (by decide +kernel)).mono ?_
  · have : ∀ i : Fin 10, -9223372036854775808 ≤ aliveC.getD i.val 0 ∧ aliveC.getD i.val 0 ≤ 9223372036854775807 := by decide
    exact fun i hi => this ⟨i, hi⟩
  · intro x hx
    rw [List.mem_singleton.1 hx]
    simp [sfit, inI, aliveS]
  · rintro e w' ⟨he, hb⟩
    rw [alive_print] at he
    exact ⟨he, hb⟩
theorem pa_alive (w : World) (ka kr c : Nat) (hT : TB w) (ha : w.heap[ka]? = some (.cells #[.int .i64 0, .slice (some ⟨kr, 0, none⟩) 1 1, .int .i64 0, .slice none 0 0, .slice none 0 0, .slice none 0 0, .slice none 0 0, .slice none 0 0, .int .i64 0, .slice none 0 0, .slice none 0 0, .slice none 0 0, .bool false] 66 (0, 0))) (hr : w.heap[kr]? = some (.cells #[.int .i64 2, .int .i64 1, .int .i64 0, .int .i64 3] 54 (0, 0))) :
    Calls Tryd.prog 21 #[.slice (some ⟨ka, 0, none⟩) 1 c] w fun e w' => e = .returned (.string ⟨#[49, 32, 48, 10, 114, 101, 112, 108, 121, 32, 50, 32, 49, 32, 48, 32, 51, 10]⟩) ∧ Below w.heap.size w w' := pa_calls w ka kr c hT ha hr
set_option maxHeartbeats 16000000 in
set_option maxRecDepth 100000 in
theorem alive_calls (w : World) (hT : TB w) (hV : VS w) (hC : VC w) : Calls Tryd.prog 10 #[] w fun e w' => e = .returned (.bool true) ∧ Below w.heap.size w w' := by
  have HT := Aside0.mk hT
  have HV := Aside0.mk hV
  have HC := Aside0.mk hC
  clear hT hV hC
  go_enter Tryd.func10, Tryd.ntmps10
  go_upto_region 2 with fail
  rw [alive_lit]
  go_upto_region 3 with (go_at_call 16; refine (parse_alive _ HV.out HC.out).mono ?_; rintro e w1 ⟨A, c, rfl, hCs, hb⟩; have HCS := Aside0.mk hCs; have HB1 := Aside0.mk hb; clear hCs hb)
  obtain ⟨w2, hw2⟩ : ∃ w2, w2 = w1.alloc (.cells #[.int .i64 2, .int .i64 2, .int .i64 2, .int .i64 20, .int .i64 4, .int .i64 2, .int .i64 2, .int .i64 2, .int .i64 4, .int .i64 50] 25 (0, 0)) := ⟨_, rfl⟩
  have HW2 := Aside0.mk hw2
  have H2 : Aside0 (Below w.heap.size w w2 ∧ w2.heap[w1.heap.size]? = some (.cells #[.int .i64 2, .int .i64 2, .int .i64 2, .int .i64 20, .int .i64 4, .int .i64 2, .int .i64 2, .int .i64 2, .int .i64 4, .int .i64 50] 25 (0, 0)) ∧ Kd.C k48 w2 A [aliveS].length ([aliveS].map stS)) := ⟨by
    rw [hw2]; exact ⟨HB1.out.alloc HB1.out.size _, heap_alloc_new _ _, Kd.C_below HCS.out ((Below.refl _ _).alloc (Nat.le_refl _) _)⟩⟩
  rw [← HW2.out]
  clear hw2
  go_upto_region 3 with fail
  have c0 : w2.cell? ⟨w1.heap.size, 0, none⟩ = some (.int .i64 2) := (blk_cell H2.out.2.1 0).trans rfl
  have c1 : w2.cell? ⟨w1.heap.size, 1, none⟩ = some (.int .i64 2) := (blk_cell H2.out.2.1 1).trans rfl
  have c2 : w2.cell? ⟨w1.heap.size, 2, none⟩ = some (.int .i64 2) := (blk_cell H2.out.2.1 2).trans rfl
  have c3 : w2.cell? ⟨w1.heap.size, 3, none⟩ = some (.int .i64 20) := (blk_cell H2.out.2.1 3).trans rfl
  have c4 : w2.cell? ⟨w1.heap.size, 4, none⟩ = some (.int .i64 4) := (blk_cell H2.out.2.1 4).trans rfl
  have c5 : w2.cell? ⟨w1.heap.size, 5, none⟩ = some (.int .i64 2) := (blk_cell H2.out.2.1 5).trans rfl
  have c6 : w2.cell? ⟨w1.heap.size, 6, none⟩ = some (.int .i64 2) := (blk_cell H2.out.2.1 6).trans rfl
  have c7 : w2.cell? ⟨w1.heap.size, 7, none⟩ = some (.int .i64 2) := (blk_cell H2.out.2.1 7).trans rfl
  have c8 : w2.cell? ⟨w1.heap.size, 8, none⟩ = some (.int .i64 4) := (blk_cell H2.out.2.1 8).trans rfl
  have c9 : w2.cell? ⟨w1.heap.size, 9, none⟩ = some (.int .i64 50) := (blk_cell H2.out.2.1 9).trans rfl
  go_upto_region 4 with (go_at_call 14; refine (print_alive _ A c (HT.out.below H2.out.1) (HV.out.below H2.out.1) (HC.out.below H2.out.1) H2.out.2.2).mono ?_; rintro e w3 ⟨rfl, hb⟩; have HB3 := Aside0.mk hb; clear hb c0 c1 c2 c3 c4 c5 c6 c7 c8 c9)
  have HR3 : Aside0 (((w3.alloc (.cells #[.int .i64 2, .int .i64 1, .int .i64 0, .int .i64 3] 54 (0, 0))).alloc (.cells #[.int .i64 0, .slice (some ⟨w3.heap.size, 0, none⟩) 1 1, .int .i64 0, .slice none 0 0, .slice none 0 0, .slice none 0 0, .slice none 0 0, .slice none 0 0, .int .i64 0, .slice none 0 0, .slice none 0 0, .slice none 0 0, .bool false] 66 (0, 0))).heap[w3.heap.size]? = some (.cells #[.int .i64 2, .int .i64 1, .int .i64 0, .int .i64 3] 54 (0, 0))) := ⟨heap_alloc2_old _ _ _⟩
  have HBW : Aside0 (Below w.heap.size w w3) := ⟨H2.out.1.trans (HB3.out.mono H2.out.1.size)⟩
  go_upto_region 5 with (go_at_call 21; refine (pa_alive _ _ _ _ (HT.out.below (HBW.out.trans ((bel2 w3 _ _).mono HBW.out.size))) (new2 _ _ _) HR3.out).mono ?_; rintro e w4 ⟨rfl, hb⟩; have HB4 : Aside0 (Below w3.heap.size w3 w4) := ⟨(bel2 w3 _ _).trans (hb.mono (by simp; omega))⟩; clear hb)
  have HBF : Aside0 (Below w2.heap.size w2 w4) := ⟨HB3.out.trans (HB4.out.mono HB3.out.size)⟩
  have HBG : Aside0 (Below w.heap.size w w4) := ⟨H2.out.1.trans (HBF.out.mono H2.out.1.size)⟩
  have d9 : w4.cell? ⟨w1.heap.size, 9, none⟩ = some (.int .i64 50) := (blk_cell ((HBF.out.block _ (blk_lt H2.out.2.1)).trans H2.out.2.1) 9).trans rfl
  obtain ⟨ad, Ad, cd, rfl, _, _, _, _, _, d5, _⟩ := step_cells (i := 0) (x := aliveS) (Kd.C_below H2.out.2.2 HBF.out) rfl
  have e0 : ad.add (0 * 11) = ad := by simp [Addr.add]
  rw [e0] at d5
  clear e0
  have d5a : w4.cell? ⟨ad.block, ad.off + 5, none⟩ = some (.string ⟨#[107, 32]⟩) := d5
  have d5b : w4.cell? ⟨ad.block, ad.off + 4 + 1, none⟩ = some (.string ⟨#[107, 32]⟩) := d5
  clear d5
  go_wp2_with (go_at_call 15; refine (num_calls _ _).mono ?_; rintro e w' ⟨rfl, rfl⟩)
  go_ret
  exact ⟨rfl, HBG.out⟩
end Go.Proofs.YtnbfebjcfhbhiaaDoor.Bw
end
