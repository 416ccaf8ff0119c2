/- texts that the proof needs, laid together by a program of this session. -/
import Derived.Lib.ConvBytes
import Derived.Laws.Concat
import Derived.Deep.RegionHeld3
import Derived.BigRegion
import Derived.Laws.Rows
import Derived.Laws.CopyOwn
import Derived.Deep.WholeRow
import Derived.Laws.RangeAny
import Derived.Lib.RuneCount
import Derived.Deep.AppendLies
import Derived.Test.YtnbfebjcfhbhiaaDoorKScriptParse8
section
namespace Go.Proofs.YtnbfebjcfhbhiaaDoor.Bw
open Go Go.RowKit Go.Proofs.YtnbfebjcfhbhiaaDoor.P Go.Proofs.YtnbfebjcfhbhiaaDoor.Sc Go.Proofs.YtnbfebjcfhbhiaaDoorW.PrintWords Go.Proofs.YtnbfebjcfhbhiaaDoorW.PrintLast Go.Proofs.YtnbfebjcfhbhiaaDoorW.PrintMore
set_option linter.unusedVariables false
set_option linter.unusedSimpArgs false
theorem ta_0_0 (v : Value) (W : World) : (Instr.typeAssert (.iface 9 v) 20 9 true).run Tryd.prog W = .ok (.tuple #[v, .bool true]) W := by kernel_rfl
theorem ta_1_0 (v : Value) (W : World) : (Instr.typeAssert (.iface 3 v) 20 9 true).run Tryd.prog W = .ok (.tuple #[.string ⟨#[]⟩, .bool false]) W := by kernel_rfl
theorem ta_1_1 (v : Value) (W : World) : (Instr.typeAssert (.iface 3 v) 20 3 true).run Tryd.prog W = .ok (.tuple #[v, .bool true]) W := by kernel_rfl
theorem ta_2_0 (v : Value) (W : World) : (Instr.typeAssert (.iface 30 v) 20 9 true).run Tryd.prog W = .ok (.tuple #[.string ⟨#[]⟩, .bool false]) W := by kernel_rfl
theorem ta_2_1 (v : Value) (W : World) : (Instr.typeAssert (.iface 30 v) 20 3 true).run Tryd.prog W = .ok (.tuple #[.int .i64 0, .bool false]) W := by kernel_rfl
theorem ta_2_2 (v : Value) (W : World) : (Instr.typeAssert (.iface 30 v) 20 30 true).run Tryd.prog W = .ok (.tuple #[v, .bool true]) W := by kernel_rfl
theorem ta_3_0 (v : Value) (W : World) : (Instr.typeAssert (.iface 46 v) 20 9 true).run Tryd.prog W = .ok (.tuple #[.string ⟨#[]⟩, .bool false]) W := by kernel_rfl
theorem ta_3_1 (v : Value) (W : World) : (Instr.typeAssert (.iface 46 v) 20 3 true).run Tryd.prog W = .ok (.tuple #[.int .i64 0, .bool false]) W := by kernel_rfl
theorem ta_3_2 (v : Value) (W : World) : (Instr.typeAssert (.iface 46 v) 20 30 true).run Tryd.prog W = .ok (.tuple #[.int .i64 0, .bool false]) W := by kernel_rfl
theorem ta_3_3 (v : Value) (W : World) : (Instr.typeAssert (.iface 46 v) 20 46 true).run Tryd.prog W = .ok (.tuple #[v, .bool true]) W := by kernel_rfl
theorem ta_4_0 (v : Value) (W : World) : (Instr.typeAssert (.iface 131 v) 20 9 true).run Tryd.prog W = .ok (.tuple #[.string ⟨#[]⟩, .bool false]) W := by kernel_rfl
theorem ta_4_1 (v : Value) (W : World) : (Instr.typeAssert (.iface 131 v) 20 3 true).run Tryd.prog W = .ok (.tuple #[.int .i64 0, .bool false]) W := by kernel_rfl
theorem ta_4_2 (v : Value) (W : World) : (Instr.typeAssert (.iface 131 v) 20 30 true).run Tryd.prog W = .ok (.tuple #[.int .i64 0, .bool false]) W := by kernel_rfl
theorem ta_4_3 (v : Value) (W : World) : (Instr.typeAssert (.iface 131 v) 20 46 true).run Tryd.prog W = .ok (.tuple #[.slice none 0 0, .bool false]) W := by kernel_rfl
theorem ta_4_4 (v : Value) (W : World) : (Instr.typeAssert (.iface 131 v) 20 131 true).run Tryd.prog W = .ok (.tuple #[v, .bool true]) W := by kernel_rfl
theorem ta_5_0 (v : Value) (W : World) : (Instr.typeAssert (.iface 134 v) 20 9 true).run Tryd.prog W = .ok (.tuple #[.string ⟨#[]⟩, .bool false]) W := by kernel_rfl
theorem ta_5_1 (v : Value) (W : World) : (Instr.typeAssert (.iface 134 v) 20 3 true).run Tryd.prog W = .ok (.tuple #[.int .i64 0, .bool false]) W := by kernel_rfl
theorem ta_5_2 (v : Value) (W : World) : (Instr.typeAssert (.iface 134 v) 20 30 true).run Tryd.prog W = .ok (.tuple #[.int .i64 0, .bool false]) W := by kernel_rfl
theorem ta_5_3 (v : Value) (W : World) : (Instr.typeAssert (.iface 134 v) 20 46 true).run Tryd.prog W = .ok (.tuple #[.slice none 0 0, .bool false]) W := by kernel_rfl
theorem ta_5_4 (v : Value) (W : World) : (Instr.typeAssert (.iface 134 v) 20 131 true).run Tryd.prog W = .ok (.tuple #[.agg #[.int .i64 0, .int .i64 0], .bool false]) W := by kernel_rfl
theorem ta_5_5 (v : Value) (W : World) : (Instr.typeAssert (.iface 134 v) 20 134 true).run Tryd.prog W = .ok (.tuple #[v, .bool true]) W := by kernel_rfl
theorem ta_6_0 (v : Value) (W : World) : (Instr.typeAssert (.iface 43 v) 20 9 true).run Tryd.prog W = .ok (.tuple #[.string ⟨#[]⟩, .bool false]) W := by kernel_rfl
theorem ta_6_1 (v : Value) (W : World) : (Instr.typeAssert (.iface 43 v) 20 3 true).run Tryd.prog W = .ok (.tuple #[.int .i64 0, .bool false]) W := by kernel_rfl
theorem ta_6_2 (v : Value) (W : World) : (Instr.typeAssert (.iface 43 v) 20 30 true).run Tryd.prog W = .ok (.tuple #[.int .i64 0, .bool false]) W := by kernel_rfl
theorem ta_6_3 (v : Value) (W : World) : (Instr.typeAssert (.iface 43 v) 20 46 true).run Tryd.prog W = .ok (.tuple #[.slice none 0 0, .bool false]) W := by kernel_rfl
theorem ta_6_4 (v : Value) (W : World) : (Instr.typeAssert (.iface 43 v) 20 131 true).run Tryd.prog W = .ok (.tuple #[.agg #[.int .i64 0, .int .i64 0], .bool false]) W := by kernel_rfl
theorem ta_6_5 (v : Value) (W : World) : (Instr.typeAssert (.iface 43 v) 20 134 true).run Tryd.prog W = .ok (.tuple #[.agg #[.int .i64 0, .int .i64 0], .bool false]) W := by kernel_rfl
theorem ta_6_6 (v : Value) (W : World) : (Instr.typeAssert (.iface 43 v) 20 43 true).run Tryd.prog W = .ok (.tuple #[v, .bool true]) W := by kernel_rfl
theorem ta_7_0 (v : Value) (W : World) : (Instr.typeAssert (.iface 45 v) 20 9 true).run Tryd.prog W = .ok (.tuple #[.string ⟨#[]⟩, .bool false]) W := by kernel_rfl
theorem ta_7_1 (v : Value) (W : World) : (Instr.typeAssert (.iface 45 v) 20 3 true).run Tryd.prog W = .ok (.tuple #[.int .i64 0, .bool false]) W := by kernel_rfl
theorem ta_7_2 (v : Value) (W : World) : (Instr.typeAssert (.iface 45 v) 20 30 true).run Tryd.prog W = .ok (.tuple #[.int .i64 0, .bool false]) W := by kernel_rfl
theorem ta_7_3 (v : Value) (W : World) : (Instr.typeAssert (.iface 45 v) 20 46 true).run Tryd.prog W = .ok (.tuple #[.slice none 0 0, .bool false]) W := by kernel_rfl
theorem ta_7_4 (v : Value) (W : World) : (Instr.typeAssert (.iface 45 v) 20 131 true).run Tryd.prog W = .ok (.tuple #[.agg #[.int .i64 0, .int .i64 0], .bool false]) W := by kernel_rfl
theorem ta_7_5 (v : Value) (W : World) : (Instr.typeAssert (.iface 45 v) 20 134 true).run Tryd.prog W = .ok (.tuple #[.agg #[.int .i64 0, .int .i64 0], .bool false]) W := by kernel_rfl
theorem ta_7_6 (v : Value) (W : World) : (Instr.typeAssert (.iface 45 v) 20 43 true).run Tryd.prog W = .ok (.tuple #[.agg #[.int .i64 0, .int .i64 0], .bool false]) W := by kernel_rfl
theorem ta_7_7 (v : Value) (W : World) : (Instr.typeAssert (.iface 45 v) 20 45 true).run Tryd.prog W = .ok (.tuple #[v, .bool true]) W := by kernel_rfl
def wflat : Wd → Prop
  | .str _ | .int _ | .bytes _ | .epoch _ _ => True
  | _ => False
/-- What a call of put promises. -/
def PutC (l : List Wd) : Prop := ∀ {w0 wx : World} {b : Nat} {row : Option Nat} {s : TS} {A : Option Addr} {c : Nat}, TB w0 → PrS w0 wx wx b row row s → WVs wx b row A l → (∀ x ∈ l, x.fit 1099511627776) → s.1.length + lenW (wdsT l) ≤ 140737488355328 →
  Calls Tryd.prog 30 #[.pointer (some ⟨b, 0, none⟩), .slice A l.length c] wx fun e w' => e = .returned (.tuple #[]) ∧ ∃ r1, PrS w0 wx w' b row r1 (addWs s (wdsT l))
/-- put of a row that has just been built. -/
theorem nest {w0 W wx w1 : World} {b k T : Nat} {r0 row : Option Nat} {S : TS} {l : List Wd} {cs : Array Value} {c : Nat} (hP : PutC l) (hT : TB w0) (hX : PrS w0 W wx b r0 row S) (hb1 : Below wx.heap.size wx w1) (hk : wx.heap.size ≤ k) (hc : w1.heap[k]? = some (.cells cs T (0, 0))) (hl : l.length ≤ 9223372036854775807)
    (hv : ∀ (i : Nat) x, l[i]? = some x → ∃ v, cs[i]? = some v ∧ WV w1 b row x v) (hf : ∀ x ∈ l, x.fit 1099511627776) (hbd : S.1.length + lenW (wdsT l) ≤ 140737488355328) :
    Calls Tryd.prog 30 #[.pointer (some ⟨b, 0, none⟩), .slice (some ⟨k, 0, none⟩) l.length c] w1 fun e w' => e = .returned (.tuple #[]) ∧ ∃ r1, PrS w0 wx w' b row r1 (addWs S (wdsT l)) := by
  have h1 := hX.below hb1
  refine (hP hT h1.from_ (WVs.made hc (fun e => ?_) (fun e => ?_) hl hv) hf hbd).mono ?_
  · have := hX.bd.lt; omega
  · have := (hX.bd.row_base k e).2.1; omega
  rintro e w' ⟨he, r1, h2⟩
  exact ⟨he, r1, (hX.from_.below hb1).then_ h2⟩
theorem vs1 {w1 : World} {b : Nat} {row : Option Nat} {x : Wd} {v : Value} (h : WV w1 b row x v) : ∀ (i : Nat) y, [x][i]? = some y → ∃ u, (#[v] : Array Value)[i]? = some u ∧ WV w1 b row y u := by
  intro i y hy
  match i, hy with
  | 0, hy => obtain rfl := Option.some.inj hy; exact ⟨_, rfl, h⟩
  | i + 1, hy => simp at hy
theorem vs2 {w1 : World} {b : Nat} {row : Option Nat} {x x2 : Wd} {v v2 : Value} (h : WV w1 b row x v) (h2 : WV w1 b row x2 v2) : ∀ (i : Nat) y, [x, x2][i]? = some y → ∃ u, (#[v, v2] : Array Value)[i]? = some u ∧ WV w1 b row y u := by
  intro i y hy
  match i, hy with
  | 0, hy => obtain rfl := Option.some.inj hy; exact ⟨_, rfl, h⟩
  | 1, hy => obtain rfl := Option.some.inj hy; exact ⟨_, rfl, h2⟩
  | i + 2, hy => simp at hy
theorem vs4 {w1 : World} {b : Nat} {row : Option Nat} {x x2 x3 x4 : Wd} {v v2 v3 v4 : Value} (h : WV w1 b row x v) (h2 : WV w1 b row x2 v2) (h3 : WV w1 b row x3 v3) (h4 : WV w1 b row x4 v4) : ∀ (i : Nat) y, [x, x2, x3, x4][i]? = some y → ∃ u, (#[v, v2, v3, v4] : Array Value)[i]? = some u ∧ WV w1 b row y u := by
  intro i y hy
  match i, hy with
  | 0, hy => obtain rfl := Option.some.inj hy; exact ⟨_, rfl, h⟩
  | 1, hy => obtain rfl := Option.some.inj hy; exact ⟨_, rfl, h2⟩
  | 2, hy => obtain rfl := Option.some.inj hy; exact ⟨_, rfl, h3⟩
  | 3, hy => obtain rfl := Option.some.inj hy; exact ⟨_, rfl, h4⟩
  | i + 4, hy => simp at hy
theorem cell_kb {W w1 : World} {b : Nat} {row : Option Nat} {a : Addr} {v : Value} (h : W.cell? a = some v) (k : KeepBut W w1 b row) (hb : a.block ≠ b) (hr : some a.block ≠ row) : w1.cell? a = some v := by
  have hlt := World.block_lt_of_cell? W a h
  have e2 := k.2 a.block hlt hb hr
  unfold World.cell? at h ⊢
  rw [e2]; exact h
theorem new2 (w : World) (o1 o2 : Obj) : ((w.alloc o1).alloc o2).heap[w.heap.size + 1]? = some o2 := by
  have := heap_alloc_new (w.alloc o1) o2
  simpa using this
theorem bel2 (w : World) (o1 o2 : Obj) : Below w.heap.size w ((w.alloc o1).alloc o2) := ((Below.refl _ _).alloc (Nat.le_refl _) _).alloc (by simp) _
theorem nest_op {w0 W wx wa : World} {b T : Nat} {r0 row : Option Nat} {S : TS} {k p q : Int} {n : By} {c cc ka : Nat} (hka : ka = wa.heap.size) (hP : PutC [.int k, .bytes n, .int p, .int q]) (hT : TB w0) (hX : PrS w0 W wx b r0 row S) (hwa : Below wx.heap.size wx wa) (hf : (Wd.op k n p q).fit 1099511627776) (hbd : S.1.length + lenW (Wd.op k n p q).ws ≤ 140737488355328) :
    Calls Tryd.prog 30 #[.pointer (some ⟨b, 0, none⟩), .slice (some ⟨(Lib.bytesWorld wa 5 (sb n)).heap.size, 0, none⟩) 4 c] ((Lib.bytesWorld wa 5 (sb n)).alloc (.cells #[.iface 3 (.int .i64 k), .iface 46 (.slice (some ⟨ka, 0, none⟩) (sb n).size cc), .iface 3 (.int .i64 p), .iface 3 (.int .i64 q)] T (0, 0))) fun e w' => e = .returned (.tuple #[]) ∧ ∃ r1, PrS w0 wx w' b row r1 (addWs S (Wd.op k n p q).ws) := by
  subst hka
  have h1 : Below wx.heap.size wx (Lib.bytesWorld wa 5 (sb n)) := bytes_below hwa hwa.size _ _
  have h2 := h1.alloc h1.size (.cells #[.iface 3 (.int .i64 k), .iface 46 (.slice (some ⟨wa.heap.size, 0, none⟩) (sb n).size cc), .iface 3 (.int .i64 p), .iface 3 (.int .i64 q)] T (0, 0))
  have hn : n.length ≤ 1099511627776 := hf.2.1
  have hC : Kd.C (Kd.int .u8) (Lib.bytesWorld wa 5 (sb n)) (some ⟨wa.heap.size, 0, none⟩) n.length (Sc.nums n) := by
    have := bytes_reads wa 5 (sb n) (by rw [← bs_len, bs_sb]; omega)
    rw [nums_bytesOf, bs_sb, ← bs_len, bs_sb] at this
    exact Kd.C_of_reads (h1 := fun _ => rfl) this
  refine nest (l := [.int k, .bytes n, .int p, .int q]) hP hT hX h2 h1.size (heap_alloc_new _ _) (by simp) (vs4 rfl ⟨_, _, rfl, BR.made hwa.size hX.bd.lt (fun i hi => (hX.bd.row_base i hi).2.1) (Kd.C_below hC ((Below.refl _ _).alloc (Nat.le_refl _) _))⟩ rfl rfl) ?_ hbd
  intro x hx
  simp only [List.mem_cons, List.not_mem_nil, or_false] at hx
  rcases hx with rfl | rfl | rfl | rfl
  · exact hf.1
  · exact hf.2.1
  · exact hf.2.2.1
  · exact hf.2.2.2
theorem put_done {w0 wx wr w2 : World} {b i : Nat} {row r1 r2 : Option Nat} {s : TS} {A : Option Addr} {l : List Wd} {x : Wd} (hx : l[i]? = some x) (hX : PrS w0 wx wr b row r1 (addWs s (wdsT (l.take i)))) (hV : WVs wr b r1 A l) (h2 : PrS w0 wr w2 b r1 r2 (addWs (addWs s (wdsT (l.take i))) x.ws)) :
    i + 1 ≤ l.length ∧ ∃ r, PrS w0 wx w2 b row r (addWs s (wdsT (l.take (i + 1)))) ∧ WVs w2 b r A l := by
  obtain ⟨hi, e⟩ := List.getElem?_eq_some_iff.1 hx
  refine ⟨hi, r2, ?_, hV.keep h2.kb h2.rn⟩
  rw [List.take_succ_eq_append_getElem hi, e, show wdsT (l.take i ++ [x]) = wdsT (l.take i) ++ x.ws by simp [wdsT], addWs_append]
  exact hX.then_ h2
theorem put_bound {s : TS} {l : List Wd} {x : Wd} {i : Nat} (hx : l[i]? = some x) (h : s.1.length + lenW (wdsT l) ≤ 140737488355328) : (addWs s (wdsT (l.take i))).1.length + lenW x.ws ≤ 140737488355328 := by
  obtain ⟨hi, e⟩ := List.getElem?_eq_some_iff.1 hx
  have h1 := addWs_len (wdsT (l.take i)) s
  have h2 : wdsT l = wdsT (l.take i) ++ (x.ws ++ wdsT (l.drop (i + 1))) := by
    conv => lhs; rw [← List.take_append_drop i l, List.drop_eq_getElem_cons hi, e]
    simp [wdsT]
  rw [h2, lenW_append, lenW_append] at h
  omega
set_option maxHeartbeats 16000000 in
set_option maxRecDepth 100000 in
theorem put_gen (l : List Wd) (hrec : ∀ x ∈ l, ¬ wflat x → ∀ l' : List Wd, (∀ y ∈ l', wflat y) → PutC l') : PutC l := by
  intro w0 wx b row s A c hT hX hV hF hB
  have HT := Aside0.mk hT
  have HX0 := Aside0.mk hX
  have HV0 := Aside0.mk hV
  have HF := Aside0.mk hF
  have HB := Aside0.mk hB
  have HR := Aside0.mk hrec
  have hln : (l.length : Int) ≤ 9223372036854775807 := by have := hV.len; omega
  clear hT hX hV hF hB hrec
  go_enter Tryd.func30, Tryd.ntmps30
  go_wp2_with fail
  go_loopw [5, 6, 7, 8, 9, 10, 11, 12, 13, 16] (fun _ _ _ _ _ _ _ _ _ s16 wr => ∃ i : Nat, s16 = .int .i64 i ∧ Aside0 (i ≤ l.length ∧ ∃ r1, PrS w0 wx wr b row r1 (addWs s (wdsT (l.take i))) ∧ WVs wr b r1 A l)) (fun _ _ _ _ _ _ _ _ _ s16 _ => l.length - (intOf s16).toNat)
  case atStart => exact ⟨0, rfl, ⟨Nat.zero_le _, row, HX0.out, HV0.out⟩⟩
  case round =>
    obtain ⟨i, rfl, hP⟩ := hrel
    obtain ⟨hi, r1, hX, hV⟩ := hP.out
    have HX := Aside0.mk hX
    have HV := Aside0.mk hV
    have HI := Aside0.mk hi
    clear hP hX hV hi HX0 HV0
    by_cases hlt : i < l.length
    · obtain ⟨x, hx⟩ : ∃ x, l[i]? = some x := ⟨_, List.getElem?_eq_getElem hlt⟩
      obtain ⟨ad, v, rfl, hv, hc⟩ := HV.out.drop hx
      have HXX := Aside0.mk hx
      have HFX : Aside0 (x.fit 1099511627776) := ⟨HF.out x (List.mem_of_getElem? hx)⟩
      have HBD := Aside0.mk (put_bound (s := s) hx HB.out)
      have HRX : Aside0 (¬ wflat x → ∀ l' : List Wd, (∀ y ∈ l', wflat y) → PutC l') := ⟨HR.out x (List.mem_of_getElem? hx)⟩
      have hltI : (i : Int) < (l.length : Int) := by omega
      have HLT := Aside0.mk hlt
      clear hx hlt
      cases x with
      | str t =>
        subst hv
        have f0 := ta_0_0 (.string (sb t))
        clear HRX
        have HY := Aside0.mk HX.out.from_
        have HBX : Aside0 ((addWs s (wdsT (l.take i))).1.length + (sb t).size + 1 ≤ 140737488355328) := ⟨by have := HBD.out; simp only [Wd.ws, lenW] at this; rw [← bs_len, bs_sb]; omega⟩
        go_wp2_with (go_at_call 53; refine (word_calls HY.out (sb t) HBX.out).mono ?_; rintro e w9 ⟨rfl, r9, h9⟩; have H2 : Aside0 (PrS w0 wr w9 b r1 r9 (addWs (addWs s (wdsT (l.take i))) (Wd.str t).ws)) := ⟨by simpa [bs_sb, Wd.ws, addWs] using h9⟩; clear h9 HY)
        go_roundw
        case rel => exact ⟨i + 1, by go_num, ⟨put_done HXX.out HX.out HV.out H2.out⟩⟩
        case measure => simp [intOf]; have := HLT.out; omega
      | int n =>
        subst hv
        have f0 := ta_1_0 (.int .i64 n)
        have f1 := ta_1_1 (.int .i64 n)
        clear HRX
        have HY := Aside0.mk HX.out.from_
        have HBX : Aside0 ((addWs s (wdsT (l.take i))).1.length + (sb (numW n)).size + 1 ≤ 140737488355328) := ⟨by have := HBD.out; simp only [Wd.ws, lenW] at this; rw [← bs_len, bs_sb]; omega⟩
        go_wp2_with (first
          | (go_at_call 54; refine (itoa_calls HT.out HY.out.bl n HFX.out).mono ?_; rintro e w7 ⟨rfl, hb⟩; have n0_ := Aside0.mk (HY.out.below hb); clear HY hb; have HY := n0_; clear n0_)
          | (go_at_call 53; refine (word_calls HY.out (sb (numW n)) HBX.out).mono ?_; rintro e w9 ⟨rfl, r9, h9⟩; have H2 : Aside0 (PrS w0 wr w9 b r1 r9 (addWs (addWs s (wdsT (l.take i))) (Wd.int n).ws)) := ⟨by simpa [bs_sb, Wd.ws, addWs] using h9⟩; clear h9 HY))
        go_roundw
        case rel => exact ⟨i + 1, by go_num, ⟨put_done HXX.out HX.out HV.out H2.out⟩⟩
        case measure => simp [intOf]; have := HLT.out; omega
      | err n =>
        subst hv
        have f0 := ta_2_0 (.int .i64 n)
        have f1 := ta_2_1 (.int .i64 n)
        have f2 := ta_2_2 (.int .i64 n)
        have HY := Aside0.mk HX.out.from_
        go_wp2_with (go_at_call 30; refine (nest (l := [.int n]) (HRX.out (fun h => h) _ (by simp [wflat])) HT.out HY.out ((Below.refl _ _).alloc (Nat.le_refl _) _) (Nat.le_refl _) (heap_alloc_new _ _) (by simp) (vs1 rfl) (by intro x hx; rw [List.mem_singleton.1 hx]; exact HFX.out) HBD.out).mono ?_; rintro e w9 ⟨rfl, r9, h9⟩; have H2 : Aside0 (PrS w0 wr w9 b r1 r9 (addWs (addWs s (wdsT (l.take i))) (Wd.err n).ws)) := ⟨h9⟩; clear h9 HY)
        go_roundw
        case rel => exact ⟨i + 1, by go_num, ⟨put_done HXX.out HX.out HV.out H2.out⟩⟩
        case measure => simp [intOf]; have := HLT.out; omega
      | bytes d =>
        obtain ⟨A2, c2, rfl, hbr⟩ := hv
        have f0 := ta_3_0 (.slice A2 d.length c2)
        have f1 := ta_3_1 (.slice A2 d.length c2)
        have f2 := ta_3_2 (.slice A2 d.length c2)
        have f3 := ta_3_3 (.slice A2 d.length c2)
        clear HRX
        have HBR := Aside0.mk hbr.now
        have HY := Aside0.mk HX.out.from_
        have HBX : Aside0 ((addWs s (wdsT (l.take i))).1.length + (sb (textW d)).size + 1 ≤ 140737488355328) := ⟨by have := HBD.out; simp only [Wd.ws, lenW] at this; rw [← bs_len, bs_sb]; omega⟩
        clear hbr
        go_wp2_with (first
          | (go_at_call 55; refine (textWord_calls d A2 c2 _ HBR.out HFX.out).mono ?_; rintro e w7 ⟨rfl, hb⟩; have n0_ := Aside0.mk (HY.out.below hb); clear HY hb; have HY := n0_; clear n0_)
          | (go_at_call 53; refine (word_calls HY.out (sb (textW d)) HBX.out).mono ?_; rintro e w9 ⟨rfl, r9, h9⟩; have H2 : Aside0 (PrS w0 wr w9 b r1 r9 (addWs (addWs s (wdsT (l.take i))) (Wd.bytes d).ws)) := ⟨by simpa [bs_sb, Wd.ws, addWs] using h9⟩; clear h9 HY))
        go_roundw
        case rel => exact ⟨i + 1, by go_num, ⟨put_done HXX.out HX.out HV.out H2.out⟩⟩
        case measure => simp [intOf]; have := HLT.out; omega
      | epoch q p =>
        subst hv
        have f0 := ta_4_0 (.agg #[.int .i64 q, .int .i64 p])
        have f1 := ta_4_1 (.agg #[.int .i64 q, .int .i64 p])
        have f2 := ta_4_2 (.agg #[.int .i64 q, .int .i64 p])
        have f3 := ta_4_3 (.agg #[.int .i64 q, .int .i64 p])
        have f4 := ta_4_4 (.agg #[.int .i64 q, .int .i64 p])
        clear HRX
        obtain ⟨wa, hwa⟩ : ∃ wa, wa = wr.alloc (.cells #[.int .i64 q, .int .i64 p] 131 (0, 0)) := ⟨_, rfl⟩
        have hba : Below wr.heap.size wr wa := by rw [hwa]; exact (Below.refl _ _).alloc (Nat.le_refl _) _
        have hbk : wa.heap[wr.heap.size]? = some (.cells #[.int .i64 q, .int .i64 p] 131 (0, 0)) := by rw [hwa]; exact heap_alloc_new _ _
        have HY := Aside0.mk (HX.out.from_.below hba)
        have HBK := Aside0.mk hbk
        have HWA := Aside0.mk hwa
        have HBX : Aside0 ((addWs s (wdsT (l.take i))).1.length + (sb (epochW q p)).size + 1 ≤ 140737488355328) := ⟨by have := HBD.out; simp only [Wd.ws, lenW] at this; rw [← bs_len, bs_sb]; omega⟩
        clear hba hbk hwa
        go_upto_region 18 with fail
        rw [← HWA.out]
        have q0 : wa.drew.cell? ⟨wr.heap.size, 0, none⟩ = some (.int .i64 q) := (blk_cell HBK.out 0).trans rfl
        have q1 : wa.drew.cell? ⟨wr.heap.size, 1, none⟩ = some (.int .i64 p) := (blk_cell HBK.out 1).trans rfl
        have n0_ := Aside0.mk (HY.out.below (below_drew (Below.refl wa.heap.size wa)))
        clear HY
        have HY := n0_
        clear n0_
        have HNB : Aside0 (wr.heap.size ≠ b ∧ some wr.heap.size ≠ r1) := ⟨⟨fun e => by have := HX.out.bd.lt; omega, fun e => by have := (HX.out.bd.row_base _ e.symm).2.1; omega⟩⟩
        have HFQ : Aside0 (inI q ∧ inI p) := ⟨HFX.out⟩
        have HE : Aside0 (sb (numW q) ++ ⟨#[58]⟩ ++ sb (numW p) = sb (epochW q p)) := ⟨by apply bs_inj; rw [bs_append, bs_append, bs_sb, bs_sb, bs_sb]; simp [epochW, bs]⟩
        have HBX2 : Aside0 ((addWs s (wdsT (l.take i))).1.length + (sb (numW q) ++ ⟨#[58]⟩ ++ sb (numW p)).size + 1 ≤ 140737488355328) := ⟨by rw [HE.out]; exact HBX.out⟩
        have a1 : ∀ W, (Op.stringOp .add (sb (numW q)) ⟨#[58]⟩).run Tryd.prog W = .ok (.string (sb (numW q) ++ ⟨#[58]⟩)) W := fun W => run_string_add_sum W _ _ (by have := HBX2.out; simp only [ByteArray.size_append] at this ⊢; omega)
        have a2 : ∀ W, (Op.stringOp .add (sb (numW q) ++ ⟨#[58]⟩) (sb (numW p))).run Tryd.prog W = .ok (.string (sb (numW q) ++ ⟨#[58]⟩ ++ sb (numW p))) W := fun W => run_string_add_sum W _ _ (by have := HBX2.out; simp only [ByteArray.size_append] at this ⊢; omega)
        go_region_held3 (fun w' => w'.cell? ⟨wr.heap.size, 0, none⟩ = some (.int .i64 q) ∧ w'.cell? ⟨wr.heap.size, 1, none⟩ = some (.int .i64 p)) (first | exact ⟨q0, q1⟩) (first
          | (go_at_call 54; (with_reducible refine (itoa_calls HT.out HY.out.bl _ (by first | exact HFQ.out.1 | exact HFQ.out.2)).mono ?_); rintro e w7 ⟨rfl, hb⟩; have n0_ := Aside0.mk (HY.out.below hb); have n1_ := pw_cell_below hb q0; have n2_ := pw_cell_below hb q1; clear HY hb q0 q1; have HY := n0_; have q0 := n1_; have q1 := n2_; clear n0_ n1_ n2_)
          | (go_at_call 53; (with_reducible refine (word_calls HY.out.from_ (sb (numW q) ++ ⟨#[58]⟩ ++ sb (numW p)) HBX2.out).mono ?_); rintro e w9 ⟨rfl, r9, h9⟩; have n1_ := cell_kb q0 h9.kb HNB.out.1 HNB.out.2; have n2_ := cell_kb q1 h9.kb HNB.out.1 HNB.out.2; clear q0 q1; have q0 := n1_; have q1 := n2_; clear n1_ n2_; have H2 : Aside0 (PrS w0 wr w9 b r1 r9 (addWs (addWs s (wdsT (l.take i))) (Wd.epoch q p).ws)) := ⟨by have h8 := HY.out.then_ h9; rw [HE.out] at h8; simpa [bs_sb, Wd.ws, addWs] using h8⟩; clear h9 HY))
        all_goals (clear a1 a2; go_wp2_with fail)
        all_goals
          go_roundw
          case rel => exact ⟨i + 1, by go_num, ⟨put_done HXX.out HX.out HV.out H2.out⟩⟩
          case measure => simp [intOf]; have := HLT.out; omega
      | rights p q =>
        subst hv
        have f0 := ta_5_0 (.agg #[.int .i64 p, .int .i64 q])
        have f1 := ta_5_1 (.agg #[.int .i64 p, .int .i64 q])
        have f2 := ta_5_2 (.agg #[.int .i64 p, .int .i64 q])
        have f3 := ta_5_3 (.agg #[.int .i64 p, .int .i64 q])
        have f4 := ta_5_4 (.agg #[.int .i64 p, .int .i64 q])
        have f5 := ta_5_5 (.agg #[.int .i64 p, .int .i64 q])
        have HY := Aside0.mk HX.out.from_
        go_wp2_with (go_at_call 30; refine (nest (l := [.int p, .int q]) (HRX.out (fun h => h) _ (by simp [wflat])) HT.out HY.out (bel2 _ _ _) (Nat.le_succ _) (new2 _ _ _) (by simp) (vs2 rfl rfl) (by intro x hx; simp only [List.mem_cons, List.not_mem_nil, or_false] at hx; rcases hx with rfl | rfl; exact HFX.out.1; exact HFX.out.2) HBD.out).mono ?_; rintro e w9 ⟨rfl, r9, h9⟩; have H2 : Aside0 (PrS w0 wr w9 b r1 r9 (addWs (addWs s (wdsT (l.take i))) (Wd.rights p q).ws)) := ⟨h9⟩; clear h9 HY)
        go_roundw
        case rel => exact ⟨i + 1, by go_num, ⟨put_done HXX.out HX.out HV.out H2.out⟩⟩
        case measure => simp [intOf]; have := HLT.out; omega
      | call p q =>
        subst hv
        have f0 := ta_6_0 (.agg #[.int .i64 p, .int .i64 q])
        have f1 := ta_6_1 (.agg #[.int .i64 p, .int .i64 q])
        have f2 := ta_6_2 (.agg #[.int .i64 p, .int .i64 q])
        have f3 := ta_6_3 (.agg #[.int .i64 p, .int .i64 q])
        have f4 := ta_6_4 (.agg #[.int .i64 p, .int .i64 q])
        have f5 := ta_6_5 (.agg #[.int .i64 p, .int .i64 q])
        have f6 := ta_6_6 (.agg #[.int .i64 p, .int .i64 q])
        have HY := Aside0.mk HX.out.from_
        go_wp2_with (go_at_call 30; refine (nest (l := [.int p, .int q]) (HRX.out (fun h => h) _ (by simp [wflat])) HT.out HY.out (bel2 _ _ _) (Nat.le_succ _) (new2 _ _ _) (by simp) (vs2 rfl rfl) (by intro x hx; simp only [List.mem_cons, List.not_mem_nil, or_false] at hx; rcases hx with rfl | rfl; exact HFX.out.1; exact HFX.out.2) HBD.out).mono ?_; rintro e w9 ⟨rfl, r9, h9⟩; have H2 : Aside0 (PrS w0 wr w9 b r1 r9 (addWs (addWs s (wdsT (l.take i))) (Wd.call p q).ws)) := ⟨h9⟩; clear h9 HY)
        go_roundw
        case rel => exact ⟨i + 1, by go_num, ⟨put_done HXX.out HX.out HV.out H2.out⟩⟩
        case measure => simp [intOf]; have := HLT.out; omega
      | op k n p q =>
        subst hv
        have f0 := ta_7_0 (.agg #[.int .i64 k, .string (sb n), .int .i64 p, .int .i64 q])
        have f1 := ta_7_1 (.agg #[.int .i64 k, .string (sb n), .int .i64 p, .int .i64 q])
        have f2 := ta_7_2 (.agg #[.int .i64 k, .string (sb n), .int .i64 p, .int .i64 q])
        have f3 := ta_7_3 (.agg #[.int .i64 k, .string (sb n), .int .i64 p, .int .i64 q])
        have f4 := ta_7_4 (.agg #[.int .i64 k, .string (sb n), .int .i64 p, .int .i64 q])
        have f5 := ta_7_5 (.agg #[.int .i64 k, .string (sb n), .int .i64 p, .int .i64 q])
        have f6 := ta_7_6 (.agg #[.int .i64 k, .string (sb n), .int .i64 p, .int .i64 q])
        have f7 := ta_7_7 (.agg #[.int .i64 k, .string (sb n), .int .i64 p, .int .i64 q])
        have HY := Aside0.mk HX.out.from_
        have kb := fun W => print_bytes (P := Tryd.prog) 9 46 5 Tryd.underlying9 Tryd.underlying46 Tryd.underlying5 (sb n) W
        obtain ⟨wa, hwa⟩ : ∃ wa, wa = wr.alloc (.cells #[.int .i64 k, .string (sb n), .int .i64 p, .int .i64 q] 45 (0, 0)) := ⟨_, rfl⟩
        have hba : Below wr.heap.size wr wa := by rw [hwa]; exact (Below.refl _ _).alloc (Nat.le_refl _) _
        have hbk : (Lib.bytesWorld wa 5 (sb n)).heap[wr.heap.size]? = some (.cells #[.int .i64 k, .string (sb n), .int .i64 p, .int .i64 q] 45 (0, 0)) := by
          have h1 : wa.heap[wr.heap.size]? = some (.cells #[.int .i64 k, .string (sb n), .int .i64 p, .int .i64 q] 45 (0, 0)) := by rw [hwa]; exact heap_alloc_new _ _
          exact (Lib.bytesWorld_at_old wa _ _ _ (blk_lt h1)).trans h1
        have c2 : (Lib.bytesWorld wa 5 (sb n)).cell? ⟨wr.heap.size, 2, none⟩ = some (.int .i64 p) := (blk_cell hbk 2).trans rfl
        have c3 : (Lib.bytesWorld wa 5 (sb n)).cell? ⟨wr.heap.size, 3, none⟩ = some (.int .i64 q) := (blk_cell hbk 3).trans rfl
        have HBA := Aside0.mk hba
        have HWA := Aside0.mk hwa
        clear hba hbk
        rw [hwa] at c2 c3
        clear hwa
        go_wp2_with (go_at_call 30; refine (nest_op (ka := wr.heap.size + 1) (by simp) (HRX.out (fun h => h) _ (by simp [wflat])) HT.out HY.out ((Below.refl _ _).alloc (Nat.le_refl _) _) HFX.out HBD.out).mono ?_; rintro e w9 ⟨rfl, r9, h9⟩; have H2 : Aside0 (PrS w0 wr w9 b r1 r9 (addWs (addWs s (wdsT (l.take i))) (Wd.op k n p q).ws)) := ⟨h9⟩; clear h9 HY)
        go_roundw
        case rel => exact ⟨i + 1, by go_num, ⟨put_done HXX.out HX.out HV.out H2.out⟩⟩
        case measure => simp [intOf]; have := HLT.out; omega
    · have HE : Aside0 (wdsT (l.take i) = wdsT l) := ⟨by rw [List.take_of_length_le (by omega)]⟩
      have hge : ¬ (i : Int) < (l.length : Int) := by omega
      clear hlt
      go_wp2_with fail
      first | go_end0 | ((try simp only [Exit.inBlock, Exit.then]); refine bodyPost_ret (results_none rfl _ _ _) rfl ?_)
      exact ⟨rfl, r1, by rw [← HE.out]; exact HX.out⟩
theorem put_flat (l : List Wd) (h : ∀ x ∈ l, wflat x) : PutC l := put_gen l (fun x hx hn => absurd (h x hx) hn)
theorem put_any (l : List Wd) : PutC l := put_gen l (fun _ _ _ l' h => put_flat l' h)
end Go.Proofs.YtnbfebjcfhbhiaaDoor.Bw
end
section
namespace Go.Proofs.YtnbfebjcfhbhiaaDoor.Bw
open Go Go.RowKit Go.Proofs.YtnbfebjcfhbhiaaDoor.P Go.Proofs.YtnbfebjcfhbhiaaDoor.Sc Go.Proofs.YtnbfebjcfhbhiaaDoor.Lw Go.Proofs.YtnbfebjcfhbhiaaDoorW.PrintWords Go.Proofs.YtnbfebjcfhbhiaaDoorW.PrintLast Go.Proofs.YtnbfebjcfhbhiaaDoorW.PrintMore
set_option linter.unusedVariables false
set_option linter.unusedSimpArgs false
/-- The words of parts; rec: those of an op. -/
def tellG (rec : St → Bool × List By × St) : List Part → St → Bool × List By × St
  | [], x => (true, [], x)
  | .o :: ps, x => if (rec x).1 then ((tellG rec ps { (rec x).2.2 with ok := 0 }).1, (rec x).2.1 ++ (tellG rec ps { (rec x).2.2 with ok := 0 }).2.1, (tellG rec ps { (rec x).2.2 with ok := 0 }).2.2) else (false, (rec x).2.1, (rec x).2.2)
  | p :: ps, x => ((tellG rec ps (x.zero p)).1, partW x p :: (tellG rec ps (x.zero p)).2.1, (tellG rec ps (x.zero p)).2.2)
def tellF (rec : St → Bool × List By × St) : List S153 → Int → St → Bool × List By × St
  | [], _, x => (false, [], x)
  | f :: fs, k, x => if f.f2 = k then ((tellG rec ((bs f.f1).map partOf) x).1, bs f.f0 :: (tellG rec ((bs f.f1).map partOf) x).2.1, (tellG rec ((bs f.f1).map partOf) x).2.2) else tellF rec fs k x
def tell0 (x : St) : Bool × List By × St := (false, [], x)
def tellOps (x : St) : Bool × List By × St := tellF tell0 opFs x.ok x
def tellStep (k : Int) (x : St) : Bool × List By × St := tellF tellOps stepFs k x
theorem tellG_cons (rec : St → Bool × List By × St) (p : Part) (hp : p ≠ .o) (ps : List Part) (x : St) : tellG rec (p :: ps) x = ((tellG rec ps (x.zero p)).1, partW x p :: (tellG rec ps (x.zero p)).2.1, (tellG rec ps (x.zero p)).2.2) := by
  cases p <;> first | rfl | exact absurd rfl hp
/-- A step's numbers and texts fit. -/
def sfit (x : St) : Prop := inI x.kind ∧ inI x.rep ∧ inI x.ses ∧ inI x.id ∧ inI x.ok ∧ inI x.a ∧ inI x.b ∧ inI x.i ∧ inI x.j ∧ x.name.length ≤ 1099511627776 ∧ x.data.length ≤ 1099511627776
theorem inI0 : inI 0 := ⟨by decide, by decide⟩
theorem sfit.zero {x : St} (h : sfit x) (p : Part) : sfit (x.zero p) := by
  obtain ⟨h1, h2, h3, h4, h5, h6, h7, h8, h9, h10, h11⟩ := h
  cases p <;> simp only [St.zero, St.set] <;> first | exact ⟨h1, h2, h3, h4, h5, h6, h7, h8, h9, h10, h11⟩ | exact ⟨h1, inI0, h3, h4, h5, h6, h7, h8, h9, h10, h11⟩ | exact ⟨h1, h2, inI0, h4, h5, h6, h7, h8, h9, h10, h11⟩ | exact ⟨h1, h2, h3, inI0, h5, h6, h7, h8, h9, h10, h11⟩ | exact ⟨h1, h2, h3, h4, h5, inI0, h7, h8, h9, h10, h11⟩ | exact ⟨h1, h2, h3, h4, h5, h6, inI0, h8, h9, h10, h11⟩ | exact ⟨h1, h2, h3, h4, h5, h6, h7, inI0, h9, h10, h11⟩ | exact ⟨h1, h2, h3, h4, h5, h6, h7, h8, inI0, h10, h11⟩ | exact ⟨h1, h2, h3, h4, h5, h6, h7, h8, h9, Nat.zero_le _, h11⟩ | exact ⟨h1, h2, h3, h4, h5, h6, h7, h8, h9, h10, Nat.zero_le _⟩
theorem sfit.ok {x : St} (h : sfit x) : sfit { x with ok := 0 } := by
  obtain ⟨h1, h2, h3, h4, h5, h6, h7, h8, h9, h10, h11⟩ := h
  exact ⟨h1, h2, h3, h4, inI0, h6, h7, h8, h9, h10, h11⟩
theorem sfit.get {x : St} (h : sfit x) (p : Part) : inI (x.get p) := by
  obtain ⟨h1, h2, h3, h4, h5, h6, h7, h8, h9, h10, h11⟩ := h
  cases p <;> simp only [St.get] <;> first | assumption | exact inI0
theorem tellG_fit {rec : St → Bool × List By × St} (hr : ∀ x, sfit x → sfit (rec x).2.2) : ∀ (ps : List Part) (x : St), sfit x → sfit (tellG rec ps x).2.2
  | [], x, h => h
  | p :: ps, x, h => by
    by_cases hp : p = .o
    · subst hp
      simp only [tellG]
      split
      · exact tellG_fit hr ps _ ((hr x h).ok)
      · exact hr x h
    · rw [tellG_cons rec p hp]
      exact tellG_fit hr ps _ (h.zero p)
theorem tellF_fit {rec : St → Bool × List By × St} (hr : ∀ x, sfit x → sfit (rec x).2.2) : ∀ (fs : List S153) (k : Int) (x : St), sfit x → sfit (tellF rec fs k x).2.2
  | [], k, x, h => h
  | f :: fs, k, x, h => by
    simp only [tellF]
    split
    · exact tellG_fit hr _ _ h
    · exact tellF_fit hr fs k x h
theorem tellOps_fit (x : St) (h : sfit x) : sfit (tellOps x).2.2 := tellF_fit (fun _ h => h) _ _ _ h
/-- The printer at b (text s), the step x at X; its data have come from ahead of w0. -/
structure PX (w0 W wx : World) (b X : Nat) (r0 row : Option Nat) (s : TS) (x : St) : Prop where
  pr : PrS w0 wx wx b row row s
  st : ∃ A c, wx.heap[X]? = some (.cells (stc x (.slice A x.data.length c)) 48 (0, 0)) ∧ Kd.C (Kd.int .u8) w0 A x.data.length (Sc.nums x.data)
  pl : X ≠ b ∧ w0.heap.size ≤ X
  kp : Kept W wx (fun k => k = b ∨ some k = r0 ∨ k = X)
  rn : RN W r0 row
section
variable {w0 W wx w1 : World} {b X : Nat} {r0 r1 row : Option Nat} {s s' : TS} {x x' : St}
theorem PX.lt (h : PX w0 W wx b X r0 row s x) : X < wx.heap.size := by
  obtain ⟨A, c, h1, _⟩ := h.st
  exact blk_lt h1
theorem PX.row_ne (h : PX w0 W wx b X r0 row s x) : row ≠ some X := by
  intro e
  obtain ⟨A, c, h1, _⟩ := h.st
  obtain ⟨_, _, _, cells, h2⟩ := h.pr.bd.row_base X e
  rw [h1] at h2
  have h3 := (Obj.cells.inj (Option.some.inj h2)).2.1
  revert h3; decide
theorem PX.from_ (h : PX w0 W wx b X r0 row s x) : PX w0 wx wx b X row row s x := ⟨h.pr, h.st, h.pl, Kept.refl _ _, RN.refl _ _⟩
theorem PX.then_ (h : PX w0 W wx b X r0 row s x) (k : PX w0 wx w1 b X row r1 s' x') : PX w0 W w1 b X r0 r1 s' x' :=
  ⟨k.pr, k.st, h.pl, h.kp.then_ k.kp (fun i hi => by
    rcases hi with hi | hi | hi
    · exact .inl (.inl hi)
    · rcases h.rn i hi.symm with e | e
      · exact .inl (.inr (.inl e))
      · exact .inr e
    · exact .inl (.inr (.inr hi))), h.rn.trans k.rn h.kp.1⟩
/-- A call of the printer. -/
theorem PX.call (h : PX w0 W wx b X r0 row s x) (k : PrS w0 wx w1 b row r1 s') : PX w0 W w1 b X r0 r1 s' x := by
  obtain ⟨A, c, h1, h2⟩ := h.st
  have e : w1.heap[X]? = wx.heap[X]? := k.kb.2 X (blk_lt h1) h.pl.1 (Ne.symm h.row_ne)
  exact h.then_ ⟨k.from_, ⟨A, c, e.trans h1, h2⟩, h.pl, ⟨k.kb.1, fun i hi hn => k.kb.2 i hi (fun e => hn (.inl e)) (fun e => hn (.inr (.inl e)))⟩, k.rn⟩
theorem PX.below (h : PX w0 W wx b X r0 row s x) (hb : Below wx.heap.size wx w1) : PX w0 W w1 b X r0 row s x := by
  have h2 := h.call (h.pr.below hb)
  exact h2
/-- The step turns. -/
theorem PX.put (h : PX w0 W wx b X r0 row s x) (h0 : w1.heap.size = wx.heap.size) (hb : Below w0.heap.size w0 w1) (ho : ∀ i, i ≠ X → w1.heap[i]? = wx.heap[i]?) (hx : ∃ A c, w1.heap[X]? = some (.cells (stc x' (.slice A x'.data.length c)) 48 (0, 0)) ∧ Kd.C (Kd.int .u8) w0 A x'.data.length (Sc.nums x'.data)) : PX w0 W w1 b X r0 row s x' := by
  have hbd := h.pr.bd.kept (w' := w1) (ho b (Ne.symm h.pl.1)) (fun k hk => ho k (fun e => h.row_ne (by rw [hk, e])))
  exact h.then_ ⟨⟨hbd, hb, KeepBut.refl _ _ _, RN.refl _ _⟩, hx, h.pl, ⟨by omega, fun i hi hn => ho i (fun e => hn (.inr (.inr e)))⟩, RN.refl _ _⟩
theorem PX.set (h : PX w0 W wx b X r0 row s x) (j : Nat) (v : Value) (hd : x'.data = x.data) (hc : ∀ dv, (stc x dv).setIfInBounds j v = stc x' dv) : PX w0 W (wx.setCell ⟨X, j, none⟩ v) b X r0 row s x' := by
  obtain ⟨A, c, h1, h2⟩ := h.st
  refine h.put (by simp [World.setCell]) (h.pr.bl.setCell (p := ⟨X, j, none⟩) h.pl.2 v) (fun i hi => Below.heap_setCell wx ⟨X, j, none⟩ v i hi) ⟨A, c, ?_, by rw [hd]; exact h2⟩
  rw [heap_setCell_same wx X j _ _ v h1, hc, hd]
theorem PX.nodata (h : PX w0 W wx b X r0 row s x) : PX w0 W (wx.setCell ⟨X, 10, none⟩ (.slice none 0 0)) b X r0 row s { x with data := [] } := by
  obtain ⟨A, c, h1, h2⟩ := h.st
  refine h.put (by simp [World.setCell]) (h.pr.bl.setCell (p := ⟨X, 10, none⟩) h.pl.2 _) (fun i hi => Below.heap_setCell wx ⟨X, 10, none⟩ _ i hi) ⟨none, 0, ?_, ?_⟩
  · rw [heap_setCell_same wx X 10 _ _ _ h1]; rfl
  · exact ⟨rfl, Nat.zero_le _, fun h => absurd h (Nat.lt_irrefl 0)⟩
end
/-- In the loop over the parts: the iterator in block k at pos. -/
structure PKX (w0 W wr : World) (b X k : Nat) (t : ByteArray) (pos : Nat) (r0 row : Option Nat) (s : TS) (x : St) : Prop where
  le : pos ≤ t.size
  it : wr.heap[k]? = some (.stringIter t pos)
  kk : k ≠ b ∧ k ≠ X ∧ w0.heap.size ≤ k ∧ W.heap.size ≤ k
  px : PX w0 W wr b X r0 row s x
section
variable {w0 W wr w1 : World} {b X k pos : Nat} {t : ByteArray} {r0 r1 row : Option Nat} {s s' : TS} {x x' : St}
theorem PKX.row_ne (h : PKX w0 W wr b X k t pos r0 row s x) : row ≠ some k := by
  intro e
  obtain ⟨_, _, _, cells, h2⟩ := h.px.pr.bd.row_base k e
  rw [h.it] at h2; cases h2
theorem PKX.call (h : PKX w0 W wr b X k t pos r0 row s x) (c : PrS w0 wr w1 b row r1 s') : PKX w0 W w1 b X k t pos r0 r1 s' x :=
  ⟨h.le, (c.kb.2 k (blk_lt h.it) h.kk.1 (Ne.symm h.row_ne)).trans h.it, h.kk, h.px.call c⟩
theorem PKX.below (h : PKX w0 W wr b X k t pos r0 row s x) (hb : Below wr.heap.size wr w1) : PKX w0 W w1 b X k t pos r0 row s x :=
  ⟨h.le, (hb.block k (blk_lt h.it)).trans h.it, h.kk, h.px.below hb⟩
theorem PKX.inner (h : PKX w0 W wr b X k t pos r0 row s x) (c : PX w0 wr w1 b X row r1 s' x') : PKX w0 W w1 b X k t pos r0 r1 s' x' :=
  ⟨h.le, (c.kp.2 k (blk_lt h.it) (fun e => by
    rcases e with e | e | e
    · exact h.kk.1 e
    · exact h.row_ne e.symm
    · exact h.kk.2.1 e)).trans h.it, h.kk, h.px.then_ c⟩
theorem PKX.set (h : PKX w0 W wr b X k t pos r0 row s x) (j : Nat) (v : Value) (hd : x'.data = x.data) (hc : ∀ dv, (stc x dv).setIfInBounds j v = stc x' dv) : PKX w0 W (wr.setCell ⟨X, j, none⟩ v) b X k t pos r0 row s x' :=
  ⟨h.le, (Below.heap_setCell wr ⟨X, j, none⟩ v k h.kk.2.1).trans h.it, h.kk, h.px.set j v hd hc⟩
theorem PKX.nodata (h : PKX w0 W wr b X k t pos r0 row s x) : PKX w0 W (wr.setCell ⟨X, 10, none⟩ (.slice none 0 0)) b X k t pos r0 row s { x with data := [] } :=
  ⟨h.le, (Below.heap_setCell wr ⟨X, 10, none⟩ _ k h.kk.2.1).trans h.it, h.kk, h.px.nodata⟩
theorem PKX.iter (h : PKX w0 W wr b X k t pos r0 row s x) (hp : pos < t.size) : PKX w0 W (wr.iterAt k t (pos + 1)) b X k t (pos + 1) r0 row s x := by
  have hh : ∀ i, i ≠ k → (wr.iterAt k t (pos + 1)).heap[i]? = wr.heap[i]? := fun i hi => Lib.iterAt_other wr k i t (pos + 1) hi
  have hsz : (wr.iterAt k t (pos + 1)).heap.size = wr.heap.size := Lib.iterAt_size wr k t (pos + 1)
  obtain ⟨A, c, h1, h2⟩ := h.px.st
  have hbl := Lib.below_iterAt h.px.pr.bl h.kk.2.2.1 t (pos + 1)
  refine ⟨by omega, Lib.iterAt_heap wr k t pos (pos + 1) h.it, h.kk, ⟨⟨h.px.pr.bd.kept (hh b (Ne.symm h.kk.1)) (fun i hi => hh i (fun e => h.row_ne (by rw [hi, e]))), hbl, KeepBut.refl _ _ _, RN.refl _ _⟩, ⟨A, c, (hh X (Ne.symm h.kk.2.1)).trans h1, h2⟩, h.px.pl, ⟨by rw [hsz]; exact h.px.kp.1, fun i hi hn => (hh i (by have := h.kk.2.2.2; omega)).trans (h.px.kp.2 i hi hn)⟩, h.px.rn⟩⟩
end
end Go.Proofs.YtnbfebjcfhbhiaaDoor.Bw
end
section
namespace Go.Proofs.YtnbfebjcfhbhiaaDoor.Bw
open Go Go.RowKit Go.Proofs.YtnbfebjcfhbhiaaDoor.P Go.Proofs.YtnbfebjcfhbhiaaDoor.Sc Go.Proofs.YtnbfebjcfhbhiaaDoor.Lw Go.Proofs.YtnbfebjcfhbhiaaDoorW.PrintWords Go.Proofs.YtnbfebjcfhbhiaaDoorW.PrintLast Go.Proofs.YtnbfebjcfhbhiaaDoorW.PrintMore
set_option linter.unusedVariables false
set_option linter.unusedSimpArgs false
/-- In the loop over the parts. -/
def IL (w0 wx : World) (b X k : Nat) (row : Option Nat) (sA : TS) (t : ByteArray) (rec : St → Bool × List By × St) (x : St) (wr : World) (pos : Nat) (r1 : Option Nat) (s1 : TS) (x1 : St) : Prop :=
  PKX w0 wx wr b X k t pos row r1 s1 x1 ∧ sfit x1 ∧ ∃ done, s1 = addWs sA done ∧ tellG rec ((bs t).map partOf) x = ((tellG rec (((bs t).map partOf).drop pos) x1).1, done ++ (tellG rec (((bs t).map partOf).drop pos) x1).2.1, (tellG rec (((bs t).map partOf).drop pos) x1).2.2)
section
variable {w0 wx wr w1 : World} {b X k pos : Nat} {row r1 r2 : Option Nat} {sA s1 s2 : TS} {t : ByteArray} {rec : St → Bool × List By × St} {x x1 x2 : St} {p : Part}
theorem IL.word (h : IL w0 wx b X k row sA t rec x wr pos r1 s1 x1) (hd : ((bs t).map partOf).drop pos = p :: ((bs t).map partOf).drop (pos + 1)) (hp : p ≠ .o) (hk : PKX w0 wx w1 b X k t (pos + 1) row r2 s2 x2) (hs : s2 = addWs s1 [partW x1 p]) (hx : x2 = x1.zero p) : IL w0 wx b X k row sA t rec x w1 (pos + 1) r2 s2 x2 := by
  obtain ⟨_, hf, done, h1, h2⟩ := h
  subst hx
  refine ⟨hk, hf.zero p, done ++ [partW x1 p], by rw [hs, h1, addWs_append], ?_⟩
  rw [h2, hd, tellG_cons rec p hp]
  simp
theorem IL.op (h : IL w0 wx b X k row sA t rec x wr pos r1 s1 x1) (hr : ∀ x, sfit x → sfit (rec x).2.2) (hd : ((bs t).map partOf).drop pos = .o :: ((bs t).map partOf).drop (pos + 1)) (hk : PKX w0 wx w1 b X k t (pos + 1) row r2 s2 x2) (ht : (rec x1).1 = true) (hs : s2 = addWs s1 (rec x1).2.1) (hx : x2 = { (rec x1).2.2 with ok := 0 }) : IL w0 wx b X k row sA t rec x w1 (pos + 1) r2 s2 x2 := by
  obtain ⟨_, hf, done, h1, h2⟩ := h
  subst hx
  refine ⟨hk, (hr x1 hf).ok, done ++ (rec x1).2.1, by rw [hs, h1, addWs_append], ?_⟩
  rw [h2, hd]
  simp only [tellG, ht, if_true, List.append_assoc]
theorem IL.fail (h : IL w0 wx b X k row sA t rec x wr pos r1 s1 x1) (hd : ((bs t).map partOf).drop pos = .o :: ((bs t).map partOf).drop (pos + 1)) (ht : (rec x1).1 = false) (hs : s2 = addWs s1 (rec x1).2.1) : (tellG rec ((bs t).map partOf) x).1 = false ∧ s2 = addWs sA (tellG rec ((bs t).map partOf) x).2.1 ∧ (rec x1).2.2 = (tellG rec ((bs t).map partOf) x).2.2 := by
  obtain ⟨_, hf, done, h1, h2⟩ := h
  rw [h2, hd]
  simp only [tellG, ht, Bool.false_eq_true, if_false]
  exact ⟨trivial, by rw [hs, h1, addWs_append], trivial⟩
theorem IL.done (h : IL w0 wx b X k row sA t rec x wr pos r1 s1 x1) (hd : ((bs t).map partOf).drop pos = []) : (tellG rec ((bs t).map partOf) x).1 = true ∧ s1 = addWs sA (tellG rec ((bs t).map partOf) x).2.1 ∧ x1 = (tellG rec ((bs t).map partOf) x).2.2 := by
  obtain ⟨_, hf, done, h1, h2⟩ := h
  rw [h2, hd]
  simp only [tellG]
  exact ⟨trivial, by rw [h1, List.append_nil], trivial⟩
theorem IL.bound (h : IL w0 wx b X k row sA t rec x wr pos r1 s1 x1) {l r : List By} (hd : (tellG rec (((bs t).map partOf).drop pos) x1).2.1 = l ++ r) (hB : sA.1.length + lenW (tellG rec ((bs t).map partOf) x).2.1 ≤ 140737488355328) : s1.1.length + lenW l ≤ 140737488355328 := by
  obtain ⟨_, hf, done, h1, h2⟩ := h
  rw [h2] at hB
  simp only [hd, lenW_append] at hB
  have := addWs_len done sA
  rw [h1]; omega
end
theorem get_cell {p : Part} (h0 : p ≠ .d ∧ p ≠ .k ∧ p ≠ .o) (x : St) : (∀ dv, (stc x dv)[cellOf p]? = some (.int .i64 (x.get p))) ∧ (∀ dv, (stc x dv).setIfInBounds (cellOf p) (.int .i64 0) = stc (x.zero p) dv) ∧ (x.zero p).data = x.data ∧ partW x p = numW (x.get p) := by
  cases p <;> first | exact ⟨fun _ => rfl, fun _ => rfl, rfl, rfl⟩ | exact absurd rfl h0.1 | exact absurd rfl h0.2.1 | exact absurd rfl h0.2.2
/-- put of a text that is made bytes. -/
theorem nest_name {w0 W wx : World} {b T : Nat} {r0 row : Option Nat} {S : TS} {n : By} {c cc : Nat} (hT : TB w0) (hX : PrS w0 W wx b r0 row S) (hf : n.length ≤ 1099511627776) (hbd : S.1.length + lenW [textW n] ≤ 140737488355328) :
    Calls Tryd.prog 30 #[.pointer (some ⟨b, 0, none⟩), .slice (some ⟨(Lib.bytesWorld wx 5 (sb n)).heap.size, 0, none⟩) 1 c] ((Lib.bytesWorld wx 5 (sb n)).alloc (.cells #[.iface 46 (.slice (some ⟨wx.heap.size, 0, none⟩) (sb n).size cc)] T (0, 0))) fun e w' => e = .returned (.tuple #[]) ∧ ∃ r1, PrS w0 wx w' b row r1 (addWs S [textW n]) := by
  have h1 : Below wx.heap.size wx (Lib.bytesWorld wx 5 (sb n)) := bytes_below (Below.refl _ _) (Nat.le_refl _) _ _
  have h2 := h1.alloc h1.size (.cells #[.iface 46 (.slice (some ⟨wx.heap.size, 0, none⟩) (sb n).size cc)] T (0, 0))
  have hC : Kd.C (Kd.int .u8) (Lib.bytesWorld wx 5 (sb n)) (some ⟨wx.heap.size, 0, none⟩) n.length (Sc.nums n) := by
    have := bytes_reads wx 5 (sb n) (by rw [← bs_len, bs_sb]; omega)
    rw [nums_bytesOf, bs_sb, ← bs_len, bs_sb] at this
    exact Kd.C_of_reads (h1 := fun _ => rfl) this
  exact nest (l := [.bytes n]) (put_any _) hT hX h2 h1.size (heap_alloc_new _ _) (by simp) (vs1 ⟨_, _, rfl, BR.made (Nat.le_refl _) hX.bd.lt (fun i hi => (hX.bd.row_base i hi).2.1) (Kd.C_below hC ((Below.refl _ _).alloc (Nat.le_refl _) _))⟩) (by intro x hx; rw [List.mem_singleton.1 hx]; exact hf) hbd
theorem nest_data {w0 W wx : World} {b T : Nat} {r0 row : Option Nat} {S : TS} {d : By} {A : Option Addr} {c cc : Nat} (hT : TB w0) (hX : PrS w0 W wx b r0 row S) (hC : Kd.C (Kd.int .u8) w0 A d.length (Sc.nums d)) (hf : d.length ≤ 1099511627776) (hbd : S.1.length + lenW [textW d] ≤ 140737488355328) :
    Calls Tryd.prog 30 #[.pointer (some ⟨b, 0, none⟩), .slice (some ⟨wx.heap.size, 0, none⟩) 1 c] (wx.alloc (.cells #[.iface 46 (.slice A d.length cc)] T (0, 0))) fun e w' => e = .returned (.tuple #[]) ∧ ∃ r1, PrS w0 wx w' b row r1 (addWs S [textW d]) := by
  have h2 : Below wx.heap.size wx (wx.alloc (.cells #[.iface 46 (.slice A d.length cc)] T (0, 0))) := (Below.refl _ _).alloc (Nat.le_refl _) _
  exact nest (l := [.bytes d]) (put_any _) hT hX h2 (Nat.le_refl _) (heap_alloc_new _ _) (by simp) (vs1 ⟨_, _, rfl, BR.came (hX.below h2) hC⟩) (by intro x hx; rw [List.mem_singleton.1 hx]; exact hf) hbd
theorem nest_num {w0 W wx : World} {b T : Nat} {r0 row : Option Nat} {S : TS} {n : Int} {c : Nat} (hT : TB w0) (hX : PrS w0 W wx b r0 row S) (hf : inI n) (hbd : S.1.length + lenW [numW n] ≤ 140737488355328) :
    Calls Tryd.prog 30 #[.pointer (some ⟨b, 0, none⟩), .slice (some ⟨wx.heap.size, 0, none⟩) 1 c] (wx.alloc (.cells #[.iface 3 (.int .i64 n)] T (0, 0))) fun e w' => e = .returned (.tuple #[]) ∧ ∃ r1, PrS w0 wx w' b row r1 (addWs S [numW n]) := by
  exact nest (l := [.int n]) (put_any _) hT hX ((Below.refl _ _).alloc (Nat.le_refl _) _) (Nat.le_refl _) (heap_alloc_new _ _) (by simp) (vs1 rfl) (by intro x hx; rw [List.mem_singleton.1 hx]; exact hf) hbd
theorem nest_str {w0 W wx : World} {b T k : Nat} {r0 row : Option Nat} {S : TS} {n : ByteArray} {c : Nat} (hk : k = wx.heap.size) (hT : TB w0) (hX : PrS w0 W wx b r0 row S) (hf : (bs n).length ≤ 1099511627776) (hbd : S.1.length + lenW [bs n] ≤ 140737488355328) :
    Calls Tryd.prog 30 #[.pointer (some ⟨b, 0, none⟩), .slice (some ⟨k, 0, none⟩) 1 c] (wx.alloc (.cells #[.iface 9 (.string n)] T (0, 0))) fun e w' => e = .returned (.tuple #[]) ∧ ∃ r1, PrS w0 wx w' b row r1 (addWs S [bs n]) := by
  subst hk
  exact nest (l := [.str (bs n)]) (put_any _) hT hX ((Below.refl _ _).alloc (Nat.le_refl _) _) (Nat.le_refl _) (heap_alloc_new _ _) (by simp) (vs1 (by show _ = _; rw [sb_bs])) (by intro x hx; rw [List.mem_singleton.1 hx]; exact hf) hbd
theorem zero_ok (x : St) (p : Part) : (x.zero p).ok = x.ok := by cases p <;> rfl
theorem tellG0_ok : ∀ (ps : List Part) (x : St), (tellG tell0 ps x).2.2.ok = x.ok
  | [], x => rfl
  | p :: ps, x => by
    by_cases hp : p = .o
    · subst hp; rfl
    · rw [tellG_cons _ p hp]
      exact (tellG0_ok ps _).trans (zero_ok x p)
theorem tellF0_ok : ∀ (fs : List S153) (k : Int) (x : St), (tellF tell0 fs k x).2.2.ok = x.ok
  | [], k, x => rfl
  | f :: fs, k, x => by
    simp only [tellF]
    split
    · exact tellG0_ok _ _
    · exact tellF0_ok fs k x
/-- What a call of parts promises. -/
def PpC (rec : St → Bool × List By × St) (fs : List S153) : Prop := ∀ {w0 wx : World} {b X : Nat} {row : Option Nat} {s : TS} {x : St} {ad : Addr} {c : Nat} {kind : Int}, TB w0 → VS w0 → PX w0 wx wx b X row row s x → Kd.C k153 w0 (some ad) fs.length fs → sfit x → s.1.length + lenW (tellF rec fs kind x).2.1 ≤ 140737488355328 →
  Calls Tryd.prog 32 #[.pointer (some ⟨b, 0, none⟩), .pointer (some ⟨X, 0, none⟩), .int .i64 kind, .slice (some ad) fs.length c] wx fun e w' => e = .returned (.bool (tellF rec fs kind x).1) ∧ ∃ r1, PX w0 wx w' b X row r1 (addWs s (tellF rec fs kind x).2.1) (tellF rec fs kind x).2.2
theorem tellF_hit {rec : St → Bool × List By × St} {fs : List S153} {k : Int} {x : St} {i : Nat} {f : S153} (hx : fs[i]? = some f) (hk : f.f2 = k) : tellF rec (fs.drop i) k x = ((tellG rec ((bs f.f1).map partOf) x).1, bs f.f0 :: (tellG rec ((bs f.f1).map partOf) x).2.1, (tellG rec ((bs f.f1).map partOf) x).2.2) := by
  obtain ⟨hi, e⟩ := List.getElem?_eq_some_iff.1 hx
  rw [List.drop_eq_getElem_cons hi, e, tellF, if_pos hk]
theorem tellF_miss {rec : St → Bool × List By × St} {fs : List S153} {k : Int} {x : St} {i : Nat} {f : S153} (hx : fs[i]? = some f) (hk : ¬ f.f2 = k) : tellF rec (fs.drop i) k x = tellF rec (fs.drop (i + 1)) k x := by
  obtain ⟨hi, e⟩ := List.getElem?_eq_some_iff.1 hx
  rw [List.drop_eq_getElem_cons hi, e, tellF, if_neg hk]
set_option maxHeartbeats 32000000 in
set_option maxRecDepth 100000 in
theorem pp_gen (rec : St → Bool × List By × St) (fs : List S153) (hfl : fs.length ≤ 1000) (hasc : ∀ f ∈ fs, (∀ c ∈ bs f.f1, c.toNat < 128) ∧ (bs f.f0).length ≤ 1000) (hrf : ∀ x, sfit x → sfit (rec x).2.2) (hrec : ∀ f ∈ fs, .o ∈ (bs f.f1).map partOf → rec = tellOps ∧ PpC tell0 opFs) : PpC rec fs := by
  intro w0 wx b X row s x ad c kind hT hV hX hC hF hB
  have HT := Aside0.mk hT
  have HV := Aside0.mk hV
  have HX0 := Aside0.mk hX
  have HC := Aside0.mk hC
  have HF := Aside0.mk hF
  have HB := Aside0.mk hB
  have HA := Aside0.mk hasc
  have HRF := Aside0.mk hrf
  have HRC := Aside0.mk hrec
  have hln : (fs.length : Int) ≤ 1000 := by omega
  clear hT hV hX hC hF hB hasc hrf hrec hfl
  go_enter Tryd.func32, Tryd.ntmps32
  go_wp2_with fail
  go_loopw [10, 12, 13, 16] (fun _ _ _ s16 wr => ∃ i : Nat, s16 = .int .i64 i ∧ Aside0 (i ≤ fs.length ∧ (∃ r1, PX w0 wx wr b X row r1 s x) ∧ tellF rec fs kind x = tellF rec (fs.drop i) kind x)) (fun _ _ _ s16 _ => fs.length - (intOf s16).toNat)
  case atStart => exact ⟨0, rfl, ⟨Nat.zero_le _, ⟨row, HX0.out⟩, rfl⟩⟩
  case round =>
    obtain ⟨wo, rfl⟩ : ∃ wo : World, wo = wr := ⟨_, rfl⟩
    obtain ⟨i, rfl, hP⟩ := hrel
    obtain ⟨hi, ⟨r1, hX⟩, hE⟩ := hP.out
    have HX := Aside0.mk hX
    have HI := Aside0.mk hi
    have HE := Aside0.mk hE
    clear hP hX hi hE HX0
    by_cases hlt : i < fs.length
    · obtain ⟨f, hf⟩ : ∃ f, fs[i]? = some f := ⟨_, List.getElem?_eq_getElem hlt⟩
      have HFI := Aside0.mk hf
      have HMEM : Aside0 (f ∈ fs) := ⟨List.mem_of_getElem? hf⟩
      obtain ⟨ad', e, c0, c1, c2⟩ := at_T153 (Kd.C_below HC.out HX.out.pr.bl) (i : Int) (by omega) (by omega)
      obtain rfl := Option.some.inj e
      have hrd : rd_T153 fs (i : Int) = f := by unfold rd_T153; rw [Int.toNat_natCast, List.getD_eq_getElem?_getD, hf]; rfl
      rw [hrd, Int.toNat_natCast] at c0 c1 c2
      have hltI : (i : Int) < (fs.length : Int) := by omega
      have HLT := Aside0.mk hlt
      clear hf hrd e hlt
      obtain ⟨wa, hwa⟩ : ∃ wa, wa = wo.alloc (.cells #[.string f.f0, .string f.f1, .int .i64 f.f2] 153 (0, 0)) := ⟨_, rfl⟩
      have HWA := Aside0.mk hwa
      have HBA : Aside0 (Below wo.heap.size wo wa ∧ wa.heap[wo.heap.size]? = some (.cells #[.string f.f0, .string f.f1, .int .i64 f.f2] 153 (0, 0)) ∧ wa.heap.size = wo.heap.size + 1) := ⟨by rw [hwa]; exact ⟨(Below.refl _ _).alloc (Nat.le_refl _) _, heap_alloc_new _ _, by simp⟩⟩
      clear hwa
      by_cases hk : f.f2 = kind
      · have HK := Aside0.mk (tellF_hit (rec := rec) (x := x) HFI.out hk)
        subst hk
        go_upto_region 5 with fail
        rw [← HWA.out]
        have q0 : wa.cell? ⟨wo.heap.size, 0, none⟩ = some (.string f.f0) := (blk_cell HBA.out.2.1 0).trans rfl
        have HXA := Aside0.mk (HX.out.below HBA.out.1).from_
        have HBD0 : Aside0 (s.1.length + lenW (bs f.f0 :: (tellG rec ((bs f.f1).map partOf) x).2.1) ≤ 140737488355328) := ⟨by have := HB.out; rw [HE.out, HK.out] at this; exact this⟩
        have HS1 : Aside0 ((bs f.f0).length ≤ 1099511627776) := ⟨by have := (HA.out f HMEM.out).2; omega⟩
        have HS2 : Aside0 (s.1.length + lenW [bs f.f0] ≤ 140737488355328) := ⟨by have := HBD0.out; simp only [lenW] at this ⊢; omega⟩
        go_upto_region 6 with (go_at_call 30; (with_reducible refine (nest_str rfl HT.out HXA.out.pr HS1.out HS2.out).mono ?_); rintro e w2 ⟨rfl, r2, h2⟩; have H2 := Aside0.mk h2; clear h2 q0)
        have hb2 : w2.heap[wo.heap.size]? = some (.cells #[.string f.f0, .string f.f1, .int .i64 f.f2] 153 (0, 0)) := (H2.out.kb.2 _ (blk_lt HBA.out.2.1) (fun e => by have := HX.out.pr.bd.lt; omega) (fun e => by have := (HX.out.pr.bd.row_base _ e.symm).2.1; omega)).trans HBA.out.2.1
        have q1 : w2.cell? ⟨wo.heap.size, 1, none⟩ = some (.string f.f1) := (blk_cell hb2 1).trans rfl
        have HX2 := Aside0.mk ((HX.out.below HBA.out.1).call H2.out)
        have HIL : Aside0 (IL w0 wx b X w2.heap.size row (addWs s [bs f.f0]) f.f1 rec x (w2.iter f.f1 0) 0 r2 (addWs s [bs f.f0]) x) := ⟨by
          refine ⟨⟨Nat.zero_le _, World.iter_heap w2 f.f1 0, ⟨fun e => by have := HX2.out.pr.bd.lt; omega, fun e => by have := HX2.out.lt; omega, HX2.out.pr.bl.size, HX2.out.kp.1⟩, HX2.out.below ((Below.refl _ _).alloc (Nat.le_refl _) _)⟩, HF.out, [], rfl, rfl⟩⟩
        have HBD : Aside0 ((addWs s [bs f.f0]).1.length + lenW (tellG rec ((bs f.f1).map partOf) x).2.1 ≤ 140737488355328) := ⟨by have h1 := HBD0.out; have h2 := addWs_len [bs f.f0] s; simp only [lenW] at h1 h2; omega⟩
        have HFIN : Aside0 ((tellF rec fs f.f2 x).1 = (tellG rec ((bs f.f1).map partOf) x).1 ∧ addWs s (tellF rec fs f.f2 x).2.1 = addWs (addWs s [bs f.f0]) (tellG rec ((bs f.f1).map partOf) x).2.1 ∧ (tellF rec fs f.f2 x).2.2 = (tellG rec ((bs f.f1).map partOf) x).2.2) := ⟨by rw [HE.out, HK.out]; exact ⟨rfl, rfl, rfl⟩⟩
        have HRO : Aside0 (.o ∈ (bs f.f1).map partOf → rec = tellOps ∧ PpC tell0 opFs) := ⟨HRC.out f HMEM.out⟩
        have HAF : Aside0 (∀ c ∈ bs f.f1, c.toNat < 128) := ⟨(HA.out f HMEM.out).1⟩
        clear hb2 HX2 HXA H2 HX c0 c1 c2
        obtain ⟨t, ht⟩ : ∃ t, f.f1 = t := ⟨_, rfl⟩
        rw [ht] at q1 HIL HBD HFIN HRO HAF
        clear ht
        go_wp2_with fail
        go_loopw [12, 13] (fun _ _ wr => Aside0 (∃ pos r3 s3 x3, IL w0 wx b X w2.heap.size row (addWs s [bs f.f0]) t rec x wr pos r3 s3 x3)) (fun _ _ wr => t.size - wr.iterPos w2.heap.size)
        case atStart => exact ⟨0, r2, _, x, HIL.out⟩
        case round =>
          obtain ⟨pos, r3, s3, x3, hL⟩ := hrel.out
          have HL := Aside0.mk hL
          have hmu : wr.iterPos w2.heap.size = pos := by simp [World.iterPos, hL.1.it]
          have HMU := Aside0.mk hmu
          clear hrel HIL hmu
          by_cases hp : pos < t.size
          · have h128 : (t[pos]'hp).toNat < 128 := HAF.out (t[pos]'hp) (by unfold bs; exact Array.mem_toList_iff.2 (Array.getElem_mem _))
            have hnext : ∀ ty, (Instr.next (.pointer (some ⟨w2.heap.size, 0, none⟩)) true ty).run Tryd.prog wr = _ := fun ty => Lib.run_next_ascii_at wr w2.heap.size t pos ty hL.1.it hp h128
            have HX := Aside0.mk (hL.1.iter hp)
            obtain ⟨c1, hc⟩ : ∃ c, t[pos]'hp = c := ⟨_, rfl⟩
            have HDR : Aside0 (((bs t).map partOf).drop pos = partOf c1 :: ((bs t).map partOf).drop (pos + 1)) := ⟨by
              have hl : pos < ((bs t).map partOf).length := by rw [List.length_map, bs_len]; exact hp
              rw [List.drop_eq_getElem_cons hl]
              congr 1
              rw [List.getElem_map, ← hc]; rfl⟩
            have HMC : Aside0 (c1 ∈ bs t) := ⟨by rw [← hc]; unfold bs; exact Array.mem_toList_iff.2 (Array.getElem_mem _)⟩
            rw [hc] at hnext
            have HP := Aside0.mk hp
            clear hL hc h128 hp
            generalize wr.iterAt w2.heap.size t (pos + 1) = W1 at hnext HX
            obtain ⟨n, hn⟩ : ∃ n, c1.toNat = n := ⟨_, rfl⟩
            have HN := Aside0.mk hn
            rw [hn] at hnext
            obtain ⟨A3, c3, hb3, hC3⟩ := HX.out.px.st
            have HC3 := Aside0.mk hC3
            have HB3 := Aside0.mk hb3
            clear hb3 hC3
            by_cases h111 : n = 111
            · subst h111
              have hd : partOf c1 = .o := by unfold partOf; rw [hn]; rfl
              have HD : Aside0 (((bs t).map partOf).drop pos = .o :: ((bs t).map partOf).drop (pos + 1)) := ⟨by rw [HDR.out, hd]⟩
              have HR2 := Aside0.mk (HRO.out (by rw [← hd]; exact List.mem_map.2 ⟨c1, HMC.out, rfl⟩))
              have HRQ : Aside0 (rec x3 = tellF tell0 opFs x3.ok x3) := ⟨by rw [HR2.out.1]; rfl⟩
              obtain ⟨ao, co, ko, hoc, hoC⟩ := HV.out.ops
              have HOC := Aside0.mk hoC
              have HKO := Aside0.mk ko
              have q2 : W1.drew.cell? ⟨2, 0, none⟩ = some (.slice (some ao) opFs.length co) := (blk_cell ((HX.out.px.pr.bl.block _ (blk_lt ko)).trans ko) 0).trans rfl
              have q3 : W1.drew.cell? ⟨X, 4, none⟩ = some (.int .i64 x3.ok) := (blk_cell HB3.out 4).trans rfl
              have HXD := Aside0.mk (HX.out.below (below_drew (Below.refl W1.heap.size W1)))
              have HF3 : Aside0 (sfit x3) := ⟨HL.out.2.1⟩
              obtain ⟨ok, hok⟩ : ∃ ok, (tellF tell0 opFs x3.ok x3).1 = ok := ⟨_, rfl⟩
              have HOK := Aside0.mk hok
              have HBO : Aside0 (s3.1.length + lenW (tellF tell0 opFs x3.ok x3).2.1 ≤ 140737488355328) := ⟨by
                rw [← HRQ.out]
                cases ok with
                | true => exact HL.out.bound (r := (tellG rec (((bs t).map partOf).drop (pos + 1)) { (rec x3).2.2 with ok := 0 }).2.1) (by rw [HD.out]; simp only [tellG]; rw [HRQ.out, hok]; rfl) HBD.out
                | false => exact HL.out.bound (r := []) (by rw [HD.out]; simp only [tellG]; rw [HRQ.out, hok]; simp) HBD.out⟩
              clear hn hd ko hoc hoC hok
              have HCL := Aside0.mk (HR2.out.2 (kind := x3.ok) (c := co) HT.out HV.out HXD.out.px.from_ HOC.out HF3.out HBO.out)
              go_upto_region 14 with fail
              go_region_held3 (fun w' => w'.cell? ⟨X, 4, none⟩ = some (.int .i64 x3.ok) ∧ w'.cell? ⟨2, 0, none⟩ = some (.slice (some ao) opFs.length co)) (first | exact ⟨q3, q2⟩) (first
                | (go_at_call 32; (with_reducible refine HCL.out.mono ?_); rintro e w5 ⟨rfl, r5, h5⟩; have HY := Aside0.mk (HXD.out.inner h5); clear h5 q2 q3; have q2 : w5.cell? ⟨2, 0, none⟩ = some (.slice (some ao) opFs.length co) := (blk_cell ((HY.out.px.pr.bl.block _ (blk_lt HKO.out)).trans HKO.out) 0).trans rfl; obtain ⟨A5, c5, hb5, _⟩ := HY.out.px.st; have q3 : w5.cell? ⟨X, 4, none⟩ = some (.int .i64 x3.ok) := (blk_cell hb5 4).trans (congrArg (fun n => some (Value.int .i64 n)) (tellF0_ok opFs x3.ok x3)); clear hb5))
              clear q2 q3
              rw [HOK.out]
              cases ok with
              | true =>
                obtain ⟨A5, c5, hb5, _⟩ := HY.out.px.st
                have p1 := (blk_cell hb5 4).trans rfl
                have p2 := blk_frozen hb5 4
                clear hb5
                go_wp2_with fail
                go_roundw
                case rel => exact ⟨pos + 1, r5, _, _, HL.out.op HRF.out HD.out (HY.out.set (x' := ({ (tellF tell0 opFs x3.ok x3).2.2 with ok := 0 } : St)) 4 (.int .i64 0) rfl (fun _ => rfl)) (by rw [HRQ.out]; exact HOK.out) (by rw [HRQ.out]) (by rw [HRQ.out])⟩
                case measure =>
                  have hh : (w5.setCell ⟨X, 4, none⟩ (.int .i64 0)).iterPos w2.heap.size = pos + 1 := by simp [World.iterPos, (HY.out.set (x' := ({ (tellF tell0 opFs x3.ok x3).2.2 with ok := 0 } : St)) 4 (.int .i64 0) rfl (fun _ => rfl)).it]
                  rw [hh, HMU.out]; have := HP.out; omega
              | false =>
                go_wp2_with fail
                go_ret
                obtain ⟨g1, g2, g3⟩ := HL.out.fail HD.out (by rw [HRQ.out]; exact HOK.out) rfl
                rw [HRQ.out] at g2 g3
                refine ⟨?_, r5, ?_⟩
                · rw [HFIN.out.1, g1]; rfl
                · rw [HFIN.out.2.1, HFIN.out.2.2, ← g2, ← g3]; exact HY.out.px
            by_cases h107 : n = 107
            · subst h107
              have hd : partOf c1 = .k := by unfold partOf; rw [hn]; rfl
              have HD : Aside0 (((bs t).map partOf).drop pos = .k :: ((bs t).map partOf).drop (pos + 1)) := ⟨by rw [HDR.out, hd]⟩
              have q5 : W1.cell? ⟨X, 5, none⟩ = some (.string (sb x3.name)) := (blk_cell HB3.out 5).trans rfl
              have HBW : Aside0 (s3.1.length + lenW [textW x3.name] ≤ 140737488355328) := ⟨HL.out.bound (l := [textW x3.name]) (r := (tellG rec (((bs t).map partOf).drop (pos + 1)) (x3.zero .k)).2.1) (by rw [HD.out]; rfl) HBD.out⟩
              have HFN : Aside0 (x3.name.length ≤ 1099511627776) := ⟨by obtain ⟨_, _, _, _, _, _, _, _, _, h, _⟩ := HL.out.2.1; exact h⟩
              have kb := fun W => print_bytes (P := Tryd.prog) 9 46 5 Tryd.underlying9 Tryd.underlying46 Tryd.underlying5 (sb x3.name) W
              clear h111 hd hn
              go_wp2_with (go_at_call 30; (with_reducible refine (nest_name HT.out HX.out.px.pr HFN.out HBW.out).mono ?_); rintro e w3 ⟨rfl, r5, h5⟩; have HY := Aside0.mk (HX.out.call h5); clear h5 q5; obtain ⟨A5, c5, hb5, _⟩ := HY.out.px.st; have p1 := (blk_cell hb5 5).trans rfl; have p2 := blk_frozen hb5 5; clear hb5)
              go_roundw
              case rel => exact ⟨pos + 1, r5, _, _, HL.out.word HD.out (by decide) (HY.out.set (x' := x3.zero .k) 5 (.string ⟨#[]⟩) rfl (fun _ => rfl)) rfl rfl⟩
              case measure =>
                have hh : (w3.setCell ⟨X, 5, none⟩ (.string ⟨#[]⟩)).iterPos w2.heap.size = pos + 1 := by simp [World.iterPos, (HY.out.set (x' := x3.zero .k) 5 (.string ⟨#[]⟩) rfl (fun _ => rfl)).it]
                rw [hh, HMU.out]; have := HP.out; omega
            by_cases h100 : n = 100
            · subst h100
              have hd : partOf c1 = .d := by unfold partOf; rw [hn]; rfl
              have HD : Aside0 (((bs t).map partOf).drop pos = .d :: ((bs t).map partOf).drop (pos + 1)) := ⟨by rw [HDR.out, hd]⟩
              have q5 : W1.cell? ⟨X, 10, none⟩ = some (.slice A3 x3.data.length c3) := (blk_cell HB3.out 10).trans rfl
              have HBW : Aside0 (s3.1.length + lenW [textW x3.data] ≤ 140737488355328) := ⟨HL.out.bound (l := [textW x3.data]) (r := (tellG rec (((bs t).map partOf).drop (pos + 1)) (x3.zero .d)).2.1) (by rw [HD.out]; rfl) HBD.out⟩
              have HFN : Aside0 (x3.data.length ≤ 1099511627776) := ⟨by obtain ⟨_, _, _, _, _, _, _, _, _, _, h⟩ := HL.out.2.1; exact h⟩
              clear h111 h107 hd hn
              go_wp2_with (go_at_call 30; (with_reducible refine (nest_data HT.out HX.out.px.pr HC3.out HFN.out HBW.out).mono ?_); rintro e w3 ⟨rfl, r5, h5⟩; have HY := Aside0.mk (HX.out.call h5); clear h5 q5; obtain ⟨A5, c5, hb5, _⟩ := HY.out.px.st; have p1 := (blk_cell hb5 10).trans rfl; have p2 := blk_frozen hb5 10; clear hb5)
              go_roundw
              case rel => exact ⟨pos + 1, r5, _, _, HL.out.word HD.out (by decide) HY.out.nodata rfl rfl⟩
              case measure =>
                have hh : (w3.setCell ⟨X, 10, none⟩ (.slice none 0 0)).iterPos w2.heap.size = pos + 1 := by simp [World.iterPos, HY.out.nodata.it]
                rw [hh, HMU.out]; have := HP.out; omega
            · have hp0 : partOf c1 ≠ .d ∧ partOf c1 ≠ .k ∧ partOf c1 ≠ .o := by
                unfold partOf; rw [hn]
                refine ⟨?_, ?_, ?_⟩ <;> (repeat' split) <;> simp_all
              have e1 : ((n : Int) == 111) = false := by simp; omega
              have e2 : ((n : Int) == 107) = false := by simp; omega
              have e3 : ((n : Int) == 100) = false := by simp; omega
              obtain ⟨q, hq⟩ : ∃ q, partOf c1 = q := ⟨_, rfl⟩
              have HQ := Aside0.mk hq
              rw [hq] at hp0
              have HQ0 := Aside0.mk hp0
              have HG := Aside0.mk (get_cell hp0 x3)
              have HD : Aside0 (((bs t).map partOf).drop pos = q :: ((bs t).map partOf).drop (pos + 1)) := ⟨by rw [HDR.out, hq]⟩
              have HBW : Aside0 (s3.1.length + lenW [numW (x3.get q)] ≤ 140737488355328) := ⟨HL.out.bound (l := [numW (x3.get q)]) (r := (tellG rec (((bs t).map partOf).drop (pos + 1)) (x3.zero q)).2.1) (by rw [HD.out, tellG_cons rec q hp0.2.2, HG.out.2.2.2]; rfl) HBD.out⟩
              have HFN : Aside0 (inI (x3.get q)) := ⟨HL.out.2.1.get q⟩
              clear h111 h107 h100 hq hn hp0
              go_wp2_with (first
                | (go_at_call 57; rw [← HN.out]; refine (field_calls _ X c1).mono ?_; rintro e w3 ⟨rfl, hb⟩; rw [HQ.out]; have n0_ := Aside0.mk (HX.out.below hb); have q6 : w3.cell? ⟨X, cellOf q, none⟩ = some (.int .i64 (x3.get q)) := (blk_cell ((hb.block X (blk_lt HB3.out)).trans HB3.out) (cellOf q)).trans (HG.out.1 _); clear HX hb; have HX := n0_; clear n0_)
                | (go_at_call 30; (with_reducible refine (nest_num HT.out HX.out.px.pr HFN.out HBW.out).mono ?_); rintro e w4 ⟨rfl, r5, h5⟩; have HY := Aside0.mk (HX.out.call h5); clear h5 q6; obtain ⟨A5, c5, hb5, _⟩ := HY.out.px.st; have p1 := (blk_cell hb5 (cellOf q)).trans (HG.out.1 _); have p2 := blk_frozen hb5 (cellOf q); clear hb5))
              go_roundw
              case rel => exact ⟨pos + 1, r5, _, _, HL.out.word HD.out HQ0.out.2.2 (HY.out.set (x' := x3.zero q) (cellOf q) (.int .i64 0) HG.out.2.2.1 HG.out.2.1) (by rw [HG.out.2.2.2]) rfl⟩
              case measure =>
                have hh : (w4.setCell ⟨X, cellOf q, none⟩ (.int .i64 0)).iterPos w2.heap.size = pos + 1 := by simp [World.iterPos, (HY.out.set (x' := x3.zero q) (cellOf q) (.int .i64 0) HG.out.2.2.1 HG.out.2.1).it]
                rw [hh, HMU.out]; have := HP.out; omega
          · have hnext : ∀ ty, (Instr.next (.pointer (some ⟨w2.heap.size, 0, none⟩)) true ty).run Tryd.prog wr = _ := fun ty => Lib.run_next_end_at wr w2.heap.size t pos ty hL.1.it hp
            have HEN : Aside0 (((bs t).map partOf).drop pos = []) := ⟨List.drop_eq_nil_of_le (by rw [List.length_map, bs_len]; omega)⟩
            clear hL
            go_wp2_with fail
            go_ret
            obtain ⟨g1, g2, g3⟩ := HL.out.done HEN.out
            refine ⟨?_, r3, ?_⟩
            · rw [HFIN.out.1, g1]; rfl
            · rw [HFIN.out.2.1, HFIN.out.2.2, ← g2, ← g3]; exact HL.out.1.px
      · have HM := Aside0.mk (tellF_miss (rec := rec) (x := x) HFI.out hk)
        have hkI : (f.f2 != kind) = true := by simp; exact hk
        clear hk
        go_upto_region 4 with fail
        rw [← HWA.out]
        have q2 : wa.cell? ⟨wo.heap.size, 2, none⟩ = some (.int .i64 f.f2) := (blk_cell HBA.out.2.1 2).trans rfl
        go_wp2_with fail
        go_roundw
        case rel => exact ⟨i + 1, by go_num, ⟨HLT.out, ⟨r1, HX.out.below HBA.out.1⟩, by rw [HE.out, HM.out]⟩⟩
        case measure => simp [intOf]; have := HLT.out; omega
    · have hge : ¬ (i : Int) < (fs.length : Int) := by omega
      have HZ : Aside0 (tellF rec fs kind x = (false, [], x)) := ⟨by rw [HE.out, List.drop_eq_nil_of_le (by omega)]; rfl⟩
      clear hlt
      go_wp2_with fail
      go_ret
      refine ⟨?_, r1, ?_⟩
      · rw [HZ.out]; rfl
      · rw [HZ.out]; exact HX.out
theorem opFs_ok : ∀ f ∈ opFs, (∀ c ∈ bs f.f1, c.toNat < 128) ∧ (bs f.f0).length ≤ 1000 := by
  intro f hf
  obtain ⟨i, hi, e⟩ := List.getElem_of_mem hf
  refine ⟨(opFs_parts i f (by rw [List.getElem?_eq_getElem hi, e])).2.2.1, ?_⟩
  have h1 : bs f.f0 ∈ wordsOf opFs := List.mem_map.2 ⟨f, hf, rfl⟩
  rw [opFs_ws] at h1
  exact (by decide : ∀ w ∈ opWs, w.length ≤ 1000) _ h1
theorem stepFs_ok : ∀ f ∈ stepFs, (∀ c ∈ bs f.f1, c.toNat < 128) ∧ (bs f.f0).length ≤ 1000 := by
  intro f hf
  obtain ⟨i, hi, e⟩ := List.getElem_of_mem hf
  refine ⟨(stepFs_parts i f (by rw [List.getElem?_eq_getElem hi, e])).2.2, ?_⟩
  have h1 : bs f.f0 ∈ wordsOf stepFs := List.mem_map.2 ⟨f, hf, rfl⟩
  rw [stepFs_ws] at h1
  exact (by decide : ∀ w ∈ stepWs, w.length ≤ 1000) _ h1
theorem parts_ops : PpC tell0 opFs := pp_gen tell0 opFs (by decide) opFs_ok (fun _ h => h) (fun f hf ho => by
  obtain ⟨i, hi, e⟩ := List.getElem_of_mem hf
  have h := opFs_parts i f (by rw [List.getElem?_eq_getElem hi, e])
  rw [h.1] at ho
  exact absurd ho h.2.2.2)
theorem parts_steps : PpC tellOps stepFs := pp_gen tellOps stepFs (by decide) stepFs_ok tellOps_fit (fun _ _ _ => ⟨rfl, parts_ops⟩)
end Go.Proofs.YtnbfebjcfhbhiaaDoor.Bw
end
section
namespace Go.Proofs.YtnbfebjcfhbhiaaDoor.Lw
open Go Go.RowKit Go.Proofs.YtnbfebjcfhbhiaaDoor.P Go.Proofs.YtnbfebjcfhbhiaaDoor.Sc Go.Proofs.YtnbfebjcfhbhiaaDoorW.PrintWords Go.Proofs.YtnbfebjcfhbhiaaDoorW.PrintLast Go.Proofs.YtnbfebjcfhbhiaaDoorW.PrintMore
set_option linter.unusedVariables false
set_option linter.unusedSimpArgs false
def nump (b : Nat) (i : Nat) : Value := .pointer (some ⟨b, i, none⟩)
def numps (b : Nat) : Array Value := #[nump b 0, nump b 1, nump b 2, nump b 3, nump b 4, nump b 5, nump b 6, nump b 7, nump b 8, nump b 9]
set_option maxHeartbeats 4000000 in
set_option maxRecDepth 100000 in
theorem cfgnums_calls (w : World) (b : Nat) : Calls Tryd.prog 29 #[.pointer (some ⟨b, 0, none⟩)] w fun e w' => ∃ G T, e = .returned (.slice (some ⟨G, 0, none⟩) 10 10) ∧ w.heap.size ≤ G ∧ w'.heap[G]? = some (.cells (numps b) T (0, 0)) ∧ Below w.heap.size w w' := by
  have hu25 := Tryd.underlying25
  go_enter Tryd.func29, Tryd.ntmps29
  go_upto_region 1 with fail
  go_region
  go_wp2_with fail
  go_ret
  exact ⟨w.heap.size, _, rfl, Nat.le_refl _, heap_alloc_new w (.cells (numps b) _ (0, 0)), pw_below_drewN ((Below.refl _ w).alloc (Nat.le_refl _) _) 1⟩
end Go.Proofs.YtnbfebjcfhbhiaaDoor.Lw
end
section
namespace Go.Proofs.YtnbfebjcfhbhiaaDoor.Lw
open Go Go.RowKit Go.Proofs.YtnbfebjcfhbhiaaDoor.P Go.Proofs.YtnbfebjcfhbhiaaDoor.Sc Go.Proofs.YtnbfebjcfhbhiaaDoorW.PrintWords Go.Proofs.YtnbfebjcfhbhiaaDoorW.PrintLast Go.Proofs.YtnbfebjcfhbhiaaDoorW.PrintMore
set_option linter.unusedVariables false
set_option linter.unusedSimpArgs false
def cfl (c : List Int) : List Int := c ++ List.replicate (10 - c.length) 0
def cfc (c : List Int) : Array Value := ((cfl c).map (Value.int .i64)).toArray
theorem cfl_len {c : List Int} (h : c.length ≤ 10) : (cfl c).length = 10 := by simp [cfl]; omega
theorem cfc_size {c : List Int} (h : c.length ≤ 10) : (cfc c).size = 10 := by simp [cfc, cfl_len h]
theorem cfl_set (c : List Int) (v : Int) (h : c.length < 10) : (cfl c).set c.length v = cfl (c ++ [v]) := by
  unfold cfl
  rw [List.set_append_right _ _ (Nat.le_refl _), Nat.sub_self, List.append_assoc]
  congr 1
  rw [List.length_append, List.length_singleton, show 10 - c.length = (10 - (c.length + 1)) + 1 by omega, List.replicate_succ]
  rfl
theorem cfc_set (c : List Int) (v : Int) (h : c.length < 10) : (cfc c).setIfInBounds c.length (.int .i64 v) = cfc (c ++ [v]) := by
  unfold cfc
  rw [← cfl_set c v h, List.map_set]
  simp
theorem cfc_at {c : List Int} {i : Nat} (hc : c.length ≤ 10) (h : i < 10) : ∃ u, (cfc c)[i]? = some (.int .i64 u) := by
  have : i < (cfl c).length := by rw [cfl_len hc]; exact h
  exact ⟨(cfl c)[i], by simp [cfc, this]⟩
/-- The i-th word. -/
def cfgW (i : Nat) : By := (cfgW0 :: cfgWs).getD i []
def cfgFrom : Nat → Rd (List Int)
  | 0 => cfgP
  | i + 1 => cfgGo (cfgWs.drop i)
theorem cfgFrom_s (i : Nat) (h : i < 9) (l : By) : cfgFrom (i + 1) l = (byteP 32 l).bnd fun _ l => (namedP (cfgW (i + 1)) l).bnd fun n l => (cfgFrom (i + 2) l).bnd fun x l => .good (n :: x) l := by
  have hl : i < cfgWs.length := h
  show cfgGo (cfgWs.drop i) l = _
  rw [List.drop_eq_getElem_cons hl]
  have : cfgW (i + 1) = cfgWs[i] := by
    unfold cfgW
    rw [List.getD_cons_succ, List.getD_eq_getElem?_getD, List.getElem?_eq_getElem hl]; rfl
  rw [this]
  rfl
theorem pst_cfg_0 {r r1 r' : R Unit} {v : Int} {x : List Int} (h : Pst (namedP (cfgW 0)) r v r1) (h2 : Pst (cfgFrom 1) r1 x r') : Pst (cfgFrom 0) r (v :: x) r' := by
  have h1 := h.bnd (q := fun n l => (cfgFrom 1 l).bnd fun x l => .good (n :: x) l) (h2.bnd (q := fun x l => R.good (v :: x) l) (Pst.ret _ _))
  exact h1
theorem pst_cfg_s {i : Nat} {r r1 r2 r' : R Unit} {v : Int} {x : List Int} (hi : i < 9) (h0 : Pst (byteP 32) r () r1) (h : Pst (namedP (cfgW (i + 1))) r1 v r2) (h2 : Pst (cfgFrom (i + 2)) r2 x r') : Pst (cfgFrom (i + 1)) r (v :: x) r' := by
  have h1 := h0.bnd (q := fun _ l => (namedP (cfgW (i + 1)) l).bnd fun n l => (cfgFrom (i + 2) l).bnd fun x l => .good (n :: x) l) (h.bnd (q := fun n l => (cfgFrom (i + 2) l).bnd fun x l => .good (n :: x) l) (h2.bnd (q := fun x l => R.good (v :: x) l) (Pst.ret _ _)))
  have e : (fun l => (byteP 32 l).bnd fun _ l => (namedP (cfgW (i + 1)) l).bnd fun n l => (cfgFrom (i + 2) l).bnd fun x l => .good (n :: x) l) = cfgFrom (i + 1) := by funext l; rw [cfgFrom_s i hi]
  rw [← e]; exact h1
theorem pst_one {s a : ByteArray} {n : Int} {r r' : R Unit} {x : S153} (h : OnePost [⟨s, a, n⟩] 0 0 r x r') : ∃ j, Pst (oneP [bs s]) r j r' := by
  unfold OnePost at h
  cases r with
  | bad l => exact ⟨0, h.1⟩
  | good u l =>
    simp only [List.drop_zero, wordsOf, List.map_cons, List.map_nil] at h
    cases hw : oneFrom [bs s] 0 0 l with
    | bad l' => rw [hw] at h; exact ⟨0, by unfold Pst; simp only [oneP, hw]; exact h.1⟩
    | good j l' => rw [hw] at h; exact ⟨j, by unfold Pst; simp only [oneP, hw]; exact ⟨trivial, h.2⟩⟩
theorem pst_named {w : By} {r r1 r2 r3 : R Unit} {j : Nat} {v : Int} (h1 : Pst (oneP [w]) r j r1) (h2 : Pst (byteP 32) r1 () r2) (h3 : Pst numP r2 v r3) : Pst (namedP w) r v r3 :=
  h1.bnd (q := fun _ l => (byteP 32 l).bnd fun _ l => numP l) (h2.bnd (q := fun _ l => numP l) h3)
/-- What the words' variable holds. -/
def VC (w : World) : Prop := ∃ T, w.heap[0]? = some (.cells (((cfgW0 :: cfgWs).map (fun x => Value.string (sb x))).toArray) T (0, 0))
theorem VC.below {w0 w : World} (h : VC w0) (hb : Below w0.heap.size w0 w) : VC w := by
  obtain ⟨T, h⟩ := h
  exact ⟨T, (hb.block _ (blk_lt h)).trans h⟩
theorem VC.cell {w : World} (h : VC w) {i : Nat} (hi : i < 10) : w.cell? ⟨0, i, none⟩ = some (.string (sb (cfgW i))) := by
  obtain ⟨T, h⟩ := h
  refine (blk_cell h i).trans ?_
  have hl : i < (cfgW0 :: cfgWs).length := hi
  unfold cfgW
  rw [List.getD_eq_getElem?_getD, List.getElem?_eq_getElem hl]
  simp only [List.getElem?_toArray, List.getElem?_map, List.getElem?_eq_getElem hl, Option.map_some, Option.getD_some]
theorem form_one {w : World} {k T : Nat} {s a : ByteArray} {n : Int} (h : w.heap[k]? = some (.cells #[.string s, .string a, .int .i64 n] T (0, 0))) : Kd.C k153 w (some ⟨k, 0, none⟩) [(⟨s, a, n⟩ : S153)].length [(⟨s, a, n⟩ : S153)] := by
  refine ⟨rfl, by simp, fun _ => ⟨_, rfl, fun j p hj => ?_⟩⟩
  have hj0 : j = 0 := by
    rcases j with _ | j
    · rfl
    · simp at hj
  subst hj0
  obtain rfl : _ = p := by simpa using hj
  refine ⟨_, rfl, k153_mk w _, fun i u hu => ?_⟩
  have e : (⟨k, 0, none⟩ : Addr).add i = ⟨k, i, none⟩ := by unfold Addr.add; split <;> simp_all
  rw [Nat.zero_mul, Nat.zero_add, e]
  refine (blk_cell h _).trans ?_
  simpa using hu
structure CK (w0 wx wr : World) (g b G q : Nat) (t : ByteArray) (wh : Bool) (r : R Unit) (c : List Int) : Prop where
  ls : LS w0 wr wr g t wh r
  cf : wr.heap[b]? = some (.cells (cfc c) 25 (0, 0))
  gp : ∃ T, wr.heap[G]? = some (.cells (numps b) T (0, 0))
  rv : wr.heap[q]? = some (.cells (cfc []) 25 (0, 0))
  pl : g < wx.heap.size ∧ wx.heap.size ≤ q ∧ q < b ∧ b < G
  kb : KeepBut wx wr g none
section
variable {w0 wx wr w1 : World} {g b G q : Nat} {t : ByteArray} {wh : Bool} {r r' : R Unit} {c : List Int}
theorem CK.call (h : CK w0 wx wr g b G q t wh r c) (k : LS w0 wr w1 g t wh r') : CK w0 wx w1 g b G q t wh r' c := by
  obtain ⟨T, h3⟩ := h.gp
  have hp := h.pl
  have hk := k.keep.2
  refine ⟨k.from_, (hk b (blk_lt h.cf) (by omega) (by simp)).trans h.cf, ⟨T, (hk G (blk_lt h3) (by omega) (by simp)).trans h3⟩, (hk q (blk_lt h.rv) (by omega) (by simp)).trans h.rv, hp, h.kb.trans k.keep (.inl rfl)⟩
theorem CK.below (h : CK w0 wx wr g b G q t wh r c) (hb : Below wr.heap.size wr w1) : CK w0 wx w1 g b G q t wh r c := h.call (h.ls.below hb)
theorem CK.gcell (h : CK w0 wx wr g b G q t wh r c) {i : Nat} (hi : i < 10) : wr.cell? ⟨G, i, none⟩ = some (.pointer (some ⟨b, i, none⟩)) := by
  obtain ⟨T, h3⟩ := h.gp
  refine (blk_cell h3 i).trans ?_
  match i, hi with
  | 0, _ => rfl | 1, _ => rfl | 2, _ => rfl | 3, _ => rfl | 4, _ => rfl | 5, _ => rfl | 6, _ => rfl | 7, _ => rfl | 8, _ => rfl | 9, _ => rfl
theorem CK.set (h : CK w0 wx wr g b G q t wh r c) (hc : c.length < 10) (v : Int) : CK w0 wx (wr.setCell ⟨b, c.length, none⟩ (.int .i64 v)) g b G q t wh r (c ++ [v]) := by
  obtain ⟨T, h3⟩ := h.gp
  have hp := h.pl
  have hsz := h.ls.bel.size
  have hk := fun i (hi : i ≠ b) => Below.heap_setCell wr ⟨b, c.length, none⟩ (.int .i64 v) i hi
  obtain ⟨a, bd, k1, k2, k3, k4, k5⟩ := h.ls
  have hw0 : w0.heap.size ≤ b := by have := k1.2; omega
  refine ⟨⟨a, bd, ⟨(hk g (by omega)).trans k1.1, k1.2⟩, k2, k3.setCell (p := ⟨b, c.length, none⟩) hw0 _, KeepBut.refl _ _ _, k5⟩, ?_, ⟨T, (hk G (by omega)).trans h3⟩, (hk q (by omega)).trans h.rv, hp, ?_⟩
  · rw [heap_setCell_same wr b c.length _ _ _ h.cf, cfc_set c v hc]
  · exact ⟨by simpa [World.setCell] using h.kb.1, fun i hi hg hn => (hk i (by omega)).trans (h.kb.2 i hi hg hn)⟩
end
end Go.Proofs.YtnbfebjcfhbhiaaDoor.Lw
end
section
namespace Go.Proofs.YtnbfebjcfhbhiaaDoor.Lw
open Go Go.RowKit Go.Proofs.YtnbfebjcfhbhiaaDoor.P Go.Proofs.YtnbfebjcfhbhiaaDoor.Sc Go.Proofs.YtnbfebjcfhbhiaaDoorW.PrintWords Go.Proofs.YtnbfebjcfhbhiaaDoorW.PrintLast Go.Proofs.YtnbfebjcfhbhiaaDoorW.PrintMore
set_option linter.unusedVariables false
set_option linter.unusedSimpArgs false
theorem inf25 : (Tryd.prog.info? 25).map (·.size) = some 10 := by kernel_rfl
theorem inf25c {c : List Int} (h : c.length ≤ 10) : (Tryd.prog.info? 25).map (·.size) = some (cfc c).size := by rw [cfc_size h]; exact inf25
theorem cfc_one (c : List Int) : (cfc c).all (·.oneCell') = true := by simp [cfc, Value.oneCell', Array.all_eq_true]
theorem one_cfg {w0 wx wr : World} {g b G q T i : Nat} {t : ByteArray} {wh : Bool} {r : R Unit} {c : List Int} (h : CK w0 wx wr g b G q t wh r c) :
    Calls Tryd.prog 60 #[.pointer (some ⟨g, 0, none⟩), .slice (some ⟨wr.heap.size, 0, none⟩) 1 1] (wr.alloc (.cells #[.string (sb (cfgW i)), .string ⟨#[]⟩, .int .i64 0] T (0, 0))) fun e w' => ∃ (x : S153) (r' : R Unit) (j : Nat), e = .returned (.agg #[.string x.f0, .string x.f1, .int .i64 x.f2]) ∧ CK w0 wx w' g b G q t wh r' c ∧ Pst (oneP [cfgW i]) r j r' := by
  have h2 := h.below ((Below.refl _ wr).alloc (Nat.le_refl _) (.cells #[.string (sb (cfgW i)), .string ⟨#[]⟩, .int .i64 0] T (0, 0)))
  have hg : g < wr.heap.size := by have := h.pl; have := h.kb.1; omega
  refine (one_calls (fs := [(⟨sb (cfgW i), ⟨#[]⟩, 0⟩ : S153)]) h2.ls (some ⟨wr.heap.size, 0, none⟩) 1 (by simp) (Kd.C_foot_ne (fun h => h) (form_one (heap_alloc_new wr _)) (fun ad e _ => by cases e; show wr.heap.size ≠ g; omega)) (by simp)).mono ?_
  rintro e w' ⟨x, r', he, hl, hP⟩
  obtain ⟨j, hj⟩ := pst_one hP
  rw [bs_sb] at hj
  exact ⟨x, r', j, he, h2.call hl, hj⟩
/-- Ahead of a word stands a blank, but for the first. -/
def Pre (i : Nat) (r r' : R Unit) : Prop := if i = 0 then r' = r else Pst (byteP 32) r () r'
theorem pst_pre {i : Nat} {r r1 r2 r' : R Unit} {v : Int} {x : List Int} (hi : i < 10) (h0 : Pre i r r1) (h : Pst (namedP (cfgW i)) r1 v r2) (h2 : Pst (cfgFrom (i + 1)) r2 x r') : Pst (cfgFrom i) r (v :: x) r' := by
  cases i with
  | zero => obtain rfl : r1 = r := h0; exact pst_cfg_0 h h2
  | succ i => exact pst_cfg_s (by omega) h0 h h2
def CP (w0 wx : World) (g b G q : Nat) (t : ByteArray) (wh : Bool) (r0 : R Unit) (i : Nat) (wr : World) : Prop := i ≤ 10 ∧ ∃ r c, c.length = i ∧ CK w0 wx wr g b G q t wh r c ∧ ∀ r' x', Pst (cfgFrom i) r x' r' → Pst cfgP r0 (c ++ x') r'
set_option maxHeartbeats 8000000 in
set_option maxRecDepth 100000 in
theorem config_calls {w0 W wx : World} {g : Nat} {t : ByteArray} {wh : Bool} {r : R Unit} (hV : VS w0) (hC : VC w0) (h : LS w0 W wx g t wh r) :
    Calls Tryd.prog 39 #[.pointer (some ⟨g, 0, none⟩)] wx fun e w' => ∃ x at' bad' r', e = .returned (.agg (cfc x)) ∧ x.length = 10 ∧ IsS109 w0 w' g t at' wh bad' ∧ Below w0.heap.size w0 w' ∧ KeepBut wx w' g none ∧ Pst cfgP r x r' ∧ EndP t wh r' at' bad' ∧ (left r').length ≤ t.size := by
  have HV := Aside0.mk hV
  have HC := Aside0.mk hC
  have hu25 := Tryd.underlying25
  have HX := Aside0.mk h.from_
  have HG : Aside0 (g < wx.heap.size ∧ w0.heap.size ≤ g) := ⟨by obtain ⟨_, _, hk, _, hg⟩ := h.blk; exact ⟨blk_lt hk, hg⟩⟩
  obtain ⟨wa, hwa⟩ : ∃ wa, wa = (wx.alloc (.cells (cfc []) 25 (0, 0))).alloc (.cells (cfc []) 25 (0, 0)) := ⟨_, rfl⟩
  have HWA := Aside0.mk hwa
  have HA : Aside0 (Below wx.heap.size wx wa ∧ wa.heap[wx.heap.size]? = some (.cells (cfc []) 25 (0, 0)) ∧ wa.heap[wx.heap.size + 1]? = some (.cells (cfc []) 25 (0, 0)) ∧ wa.heap.size = wx.heap.size + 2) := ⟨by
    rw [hwa]
    refine ⟨((Below.refl _ _).alloc (Nat.le_refl _) _).alloc (by simp) _, ?_, ?_, by simp⟩
    · rw [heap_alloc_old _ _ (by simp)]; exact heap_alloc_new wx _
    · have := heap_alloc_new (wx.alloc (.cells (cfc []) 25 (0, 0))) (.cells (cfc []) 25 (0, 0))
      simpa using this⟩
  clear hV h hwa hC
  go_enter Tryd.func39, Tryd.ntmps39
  go_upto_region 2 with fail
  rw [show ((#[.int .i64 0, .int .i64 0, .int .i64 0, .int .i64 0, .int .i64 0, .int .i64 0, .int .i64 0, .int .i64 0, .int .i64 0, .int .i64 0] : Array Value)) = cfc [] from rfl, ← HWA.out]
  go_wp2_with (go_at_call 29; refine (cfgnums_calls _ _).mono ?_; rintro e w1 ⟨G, T, rfl, hG, hGc, hb⟩; have HK : Aside0 (CP w0 wx g (wx.heap.size + 1) G wx.heap.size t wh r 0 w1) := ⟨⟨by omega, r, [], rfl, ⟨(HX.out.below (HA.out.1.trans (hb.mono (by have := HA.out.2.2.2; omega)))).from_, (hb.block _ (by have := HA.out.2.2.2; omega)).trans HA.out.2.2.1, ⟨T, hGc⟩, (hb.block _ (by have := HA.out.2.2.2; omega)).trans HA.out.2.1, ⟨HG.out.1, Nat.le_refl _, Nat.lt_succ_self _, by have := HA.out.2.2.2; omega⟩, KeepBut.of_below (HA.out.1.trans (hb.mono (by have := HA.out.2.2.2; omega))) g none⟩, fun r' x' hh => hh⟩⟩)
  go_loopw [4, 5, 8] (fun _ _ s wr => ∃ i : Nat, s = .int .i64 i ∧ Aside0 (CP w0 wx g (wx.heap.size + 1) G wx.heap.size t wh r i wr)) (fun _ _ s _ => 10 - (intOf s).toNat)
  case atStart => exact ⟨0, rfl, HK⟩
  case round =>
    obtain ⟨i, rfl, hP⟩ := hrel
    obtain ⟨hi10, r1, c1, hcl, hK, hCo⟩ := hP.out
    have HX1 := Aside0.mk hK
    have HCO := Aside0.mk hCo
    have HCL := Aside0.mk hcl
    clear hP hK hCo hcl HK
    by_cases hi : i < 10
    · have HI := Aside0.mk hi
      have q0 := HX1.out.gcell hi
      have q1 := (HC.out.below HX1.out.ls.bel).cell hi
      rcases Nat.eq_zero_or_pos i with h0 | h0
      · have HPre : Aside0 (Pre i r1 r1) := ⟨by unfold Pre; rw [if_pos h0]⟩
        have HX := HX1
        clear HX1
        subst h0
        go_upto_region 7 with fail
        go_wp2_with (first
          | (go_at_call 60; refine (one_cfg HX.out).mono ?_; rintro e w3 ⟨fx, r3, j, rfl, h3, hP⟩; have HJ := Aside0.mk hP; have n0_ := Aside0.mk h3; clear HX h3 hP q1; have HX := n0_; clear n0_)
          | (go_at_call 62; refine (blank_calls HX.out.ls).mono ?_; rintro e w4 ⟨rfl, r4, h4, hP⟩; have HB := Aside0.mk hP; have n0_ := Aside0.mk (HX.out.call h4); clear HX h4 hP; have HX := n0_; clear n0_)
          | (go_at_call 63; refine (number_calls HX.out.ls HV.out.err).mono ?_; rintro e w5 ⟨v, r5, rfl, h5, hP⟩; have HN := Aside0.mk hP; have n0_ := Aside0.mk (HX.out.call h5); clear HX h5 hP; have HX := n0_; clear n0_; obtain ⟨u, hu⟩ := cfc_at (c := c1) (i := 0) (by have := HCL.out; omega) HI.out; have p1 := (blk_cell HX.out.cf 0).trans hu; have p2 := blk_frozen HX.out.cf 0; clear hu))
        go_roundw
        case rel => exact ⟨0 + 1, by go_num, ⟨by have := HI.out; omega, r5, c1 ++ [v], by rw [List.length_append, HCL.out]; rfl, by have h := HX.out.set (by rw [HCL.out]; exact HI.out) v; rw [HCL.out] at h; exact h, fun r' x' h => by rw [List.append_assoc]; exact HCO.out r' (v :: x') (pst_pre HI.out HPre.out (pst_named HJ.out HB.out HN.out) h)⟩⟩
        case measure => simp [intOf]
      · go_upto_region 7 with (go_at_call 62; refine (blank_calls HX1.out.ls).mono ?_; rintro e w2 ⟨rfl, r2, h2, hP⟩; have HPre : Aside0 (Pre i r1 r2) := ⟨by unfold Pre; rw [if_neg (by omega)]; exact hP⟩; have HX := Aside0.mk (HX1.out.call h2); have q2 := (HC.out.below HX.out.ls.bel).cell hi; clear HX1 h2 hP q0 q1)
        go_wp2_with (first
          | (go_at_call 60; refine (one_cfg HX.out).mono ?_; rintro e w3 ⟨fx, r3, j, rfl, h3, hP⟩; have HJ := Aside0.mk hP; have n0_ := Aside0.mk h3; clear HX h3 hP q2; have HX := n0_; clear n0_)
          | (go_at_call 62; refine (blank_calls HX.out.ls).mono ?_; rintro e w4 ⟨rfl, r4, h4, hP⟩; have HB := Aside0.mk hP; have n0_ := Aside0.mk (HX.out.call h4); clear HX h4 hP; have HX := n0_; clear n0_)
          | (go_at_call 63; refine (number_calls HX.out.ls HV.out.err).mono ?_; rintro e w5 ⟨v, r5, rfl, h5, hP⟩; have HN := Aside0.mk hP; have n0_ := Aside0.mk (HX.out.call h5); clear HX h5 hP; have HX := n0_; clear n0_; obtain ⟨u, hu⟩ := cfc_at (c := c1) (i := i) (by have := HCL.out; omega) HI.out; have p1 := (blk_cell HX.out.cf i).trans hu; have p2 := blk_frozen HX.out.cf i; clear hu))
        go_roundw
        case rel => exact ⟨i + 1, by go_num, ⟨by have := HI.out; omega, r5, c1 ++ [v], by rw [List.length_append, HCL.out]; rfl, by have h := HX.out.set (by rw [HCL.out]; exact HI.out) v; rw [HCL.out] at h; exact h, fun r' x' h => by rw [List.append_assoc]; exact HCO.out r' (v :: x') (pst_pre HI.out HPre.out (pst_named HJ.out HB.out HN.out) h)⟩⟩
        case measure => simp [intOf]; have := HI.out; omega
    · obtain rfl : i = 10 := by omega
      have HP1 := Aside0.mk (HCO.out r1 [] (Pst.ret [] r1))
      go_upto_region 12 with (go_at_call 37; refine (ends_calls HX1.out.ls).mono ?_; rintro e w5 ⟨rfl, at', bad', h5, h6, h7, h8⟩; have HE := Aside0.mk (And.intro h5 (And.intro h6 (And.intro h7 h8))); clear h5 h6 h7 h8)
      have HB5 : Aside0 (w5.heap[wx.heap.size + 1]? = some (.cells (cfc c1) 25 (0, 0)) ∧ w5.heap[wx.heap.size]? = some (.cells (cfc []) 25 (0, 0))) := ⟨by
        have k := HE.out.2.2.1
        have hp := HX1.out.pl
        exact ⟨(k.2 _ (blk_lt HX1.out.cf) (by omega) (by simp)).trans HX1.out.cf, (k.2 _ (blk_lt HX1.out.rv) (by omega) (by simp)).trans HX1.out.rv⟩⟩
      go_wp2_with (first
        | ((with_reducible refine gate_dst (N := 33) rfl ?_); refine wpList_load_row rfl 25 (.tmp 3) rfl (wx.heap.size + 1) (by rfl) 25 (cfc c1) (0, 0) _ HB5.out.1 hu25 rfl (inf25c (by rw [HCL.out]; decide)) ?_)
        | (refine wpList_store_row rfl 25 (.tmp 2) (.tmp 33) rfl wx.heap.size (cfc c1) (by rfl) (by rfl) 25 _ HB5.out.2 (inf25c (by rw [HCL.out]; decide)) (by rw [cfc_size (by decide), cfc_size (by rw [HCL.out]; decide)]) (cfc_one _) ?_))
      refine bodyPost_ret (results_cell_row rfl _ _ wx.heap.size 25 (cfc c1) (0, 0) _ (by rfl) (setRow_blk HB5.out.2 _) hu25 rfl (inf25c (by rw [HCL.out]; decide))) rfl ?_
      have kE := HE.out
      have hp := HX1.out.pl
      have hg := HG.out
      have hw0 : w0.heap.size ≤ wx.heap.size := by have := hg.1; have := hg.2; omega
      refine ⟨c1, at', bad', r1, rfl, HCL.out, ⟨(setRow_far (by omega) _).trans kE.1.1, kE.1.2⟩, below_setRow kE.2.1 hw0 _, ?_, by simpa using HP1.out, kE.2.2.2, HX1.out.ls.size.2⟩
      refine ⟨?_, fun i hi hg hn => ?_⟩
      · have h1 := kE.2.2.1.1
        have h2 := HX1.out.kb.1
        simp only [World.setRow, Array.size_modify]
        omega
      · rw [setRow_far (by omega), kE.2.2.1.2 i (by have := HX1.out.kb.1; omega) hg (by simp)]
        exact HX1.out.kb.2 i hi hg (by simp)
end Go.Proofs.YtnbfebjcfhbhiaaDoor.Lw
end
section
namespace Go.Proofs.YtnbfebjcfhbhiaaDoor.Sc
open Go
set_option linter.unusedVariables false
theorem lines_nl : ∀ (a b : By), (∀ c ∈ a, c ≠ 10) → lines (a ++ 10 :: b) = (a, true) :: lines b
  | [], b, _ => by simp [lines]
  | c :: a, b, h => by
    have ih := lines_nl a b (fun x hx => h x (by simp [hx]))
    show lines (c :: (a ++ 10 :: b)) = _
    rw [lines, if_neg (h c (by simp)), ih]
theorem lines_end : ∀ (a : By), (∀ c ∈ a, c ≠ 10) → lines a = if a = [] then [] else [(a, false)]
  | [], _ => by simp [lines]
  | c :: a, h => by
    have ih := lines_end a (fun x hx => h x (by simp [hx]))
    rw [lines, if_neg (h c (by simp)), ih]
    cases a <;> simp
theorem get_bs (s : ByteArray) (j : Nat) (h : j < s.size) : s.get! j = (bs s)[j]'(by rw [bs_len]; exact h) := by
  have := get_at s j h
  simp only [Nat.add_zero] at this
  rw [this]; rfl
/-- A rune: it is the line's end, or none of its bytes is one. -/
theorem decode_nl (s : ByteArray) (pos : Nat) (h : pos < s.size) : ((s[pos]'h).toNat = 10 → Utf8.decode s pos = (10, 1)) ∧ ((s[pos]'h).toNat ≠ 10 → (Utf8.decode s pos).1 ≠ 10 ∧ pos + (Utf8.decode s pos).2 ≤ s.size ∧ ∀ j, pos ≤ j → j < pos + (Utf8.decode s pos).2 → (s.get! j).toNat ≠ 10) := by
  have hg := get_at s pos h
  simp only [Nat.add_zero] at hg
  refine ⟨fun e => by rw [decode_ascii s pos h (by omega), e], fun e => ?_⟩
  by_cases ha : (s[pos]'h).toNat < 128
  · rw [decode_ascii s pos h ha]
    refine ⟨e, by omega, fun j h1 h2 => ?_⟩
    obtain rfl : j = pos := by simp only at h2; omega
    rw [hg]; exact e
  · have h1 := decode_high s pos h (by omega)
    refine ⟨by omega, ?_⟩
    have hn : ¬ (s.get! (pos + 0)).toNat < 128 := by rw [Nat.add_zero, hg]; exact ha
    have key : ∀ n, n ≤ 4 → pos + n ≤ s.size → (∀ k, 1 ≤ k → k < n → (s.get! (pos + k)).toNat / 64 = 2) → (pos + n ≤ s.size ∧ ∀ j, pos ≤ j → j < pos + n → (s.get! j).toNat ≠ 10) := by
      intro n hn4 hsz hk
      refine ⟨hsz, fun j h1 h2 => ?_⟩
      by_cases hj : j = pos
      · subst hj; rw [hg]; exact e
      · have := hk (j - pos) (by omega) (by omega)
        rw [show pos + (j - pos) = j by omega] at this
        omega
    have k1 := key 1 (by omega) (by omega) (fun k a b => by omega)
    unfold Utf8.decode
    simp only [if_neg hn]
    repeat' split
    all_goals first
      | exact k1
      | (rename_i hc _; simp only [Bool.and_eq_true, decide_eq_true_eq, beq_iff_eq] at hc
         refine key _ (by simp) (by simp only; omega) (fun k a b => ?_)
         simp only at b
         obtain rfl | rfl | rfl : k = 1 ∨ k = 2 ∨ k = 3 := by omega
         all_goals first | omega | exact hc.2.2 | exact hc.1.2.2 | exact hc.1.1.2.2)
/-- What has been read: the lines that are whole, and where the next begins. -/
def Pos (s : ByteArray) (ls : List (By × Bool)) (f pos : Nat) : Prop := f ≤ pos ∧ pos ≤ s.size ∧ (∀ j, f ≤ j → j < pos → (s.get! j).toNat ≠ 10) ∧ lines (bs s) = ls ++ lines ((bs s).drop f)
theorem Pos.zero (s : ByteArray) : Pos s [] 0 0 := ⟨Nat.le_refl _, Nat.zero_le _, fun j h1 h2 => by omega, rfl⟩
theorem Pos.no (s : ByteArray) {ls : List (By × Bool)} {f pos : Nat} (h : Pos s ls f pos) : ∀ c ∈ ((bs s).take pos).drop f, c ≠ 10 := by
  obtain ⟨h1, h2, h3, h4⟩ := h
  intro c hc hc10
  obtain ⟨j, hj, e⟩ := List.getElem_of_mem hc
  have hl := bs_len s
  simp only [List.length_drop, List.length_take] at hj
  simp only [List.getElem_drop, List.getElem_take] at e
  have := h3 (f + j) (by omega) (by omega)
  rw [get_bs s (f + j) (by omega), e, hc10] at this
  exact this rfl
theorem Pos.cut (s : ByteArray) {ls : List (By × Bool)} {f pos : Nat} (h : Pos s ls f pos) : (bs s).drop f = ((bs s).take pos).drop f ++ (bs s).drop pos := by
  have h1 := h.1
  have := List.take_append_drop pos (bs s)
  conv => lhs; rw [← this]
  rw [List.drop_append, List.length_take]
  have hl := bs_len s
  have h2 := h.2.1
  rw [show f - min pos (bs s).length = 0 by omega, List.drop_zero]
theorem Pos.skip {s : ByteArray} {ls : List (By × Bool)} {f pos : Nat} (h : Pos s ls f pos) (hp : pos < s.size) (hn : (s[pos]'hp).toNat ≠ 10) : Pos s ls f (pos + (Utf8.decode s pos).2) := by
  obtain ⟨k1, k2, k3⟩ := (decode_nl s pos hp).2 hn
  obtain ⟨h1, h2, h3, h4⟩ := h
  exact ⟨by omega, k2, fun j a b => if hj : j < pos then h3 j a hj else k3 j (by omega) b, h4⟩
theorem Pos.line {s : ByteArray} {ls : List (By × Bool)} {f pos : Nat} (h : Pos s ls f pos) (hp : pos < s.size) (hn : (s[pos]'hp).toNat = 10) : Pos s (ls ++ [(bs (s.extract f pos), true)]) (pos + 1) (pos + 1) := by
  have hno := h.no
  have hcut := h.cut
  obtain ⟨h1, h2, h3, h4⟩ := h
  refine ⟨Nat.le_refl _, by omega, fun j a b => by omega, ?_⟩
  have hl : pos < (bs s).length := by rw [bs_len]; exact hp
  have hd : (bs s).drop pos = 10 :: (bs s).drop (pos + 1) := by
    rw [List.drop_eq_getElem_cons hl]
    congr 1
    have : (bs s)[pos] = s[pos]'hp := rfl
    rw [this]
    exact UInt8.toNat_inj.1 hn
  rw [h4, hcut, hd, lines_nl _ _ hno, bs_extract, List.append_assoc]
  rfl
theorem Pos.done {s : ByteArray} {ls : List (By × Bool)} {f pos : Nat} (h : Pos s ls f pos) (hp : ¬ pos < s.size) : lines (bs s) = ls ++ (if f < s.size then [(bs (s.extract f s.size), false)] else []) := by
  have hno := h.no
  have hcut := h.cut
  obtain ⟨h1, h2, h3, h4⟩ := h
  obtain rfl : pos = s.size := by omega
  have hl := bs_len s
  rw [List.drop_eq_nil_of_le (by omega : (bs s).length ≤ s.size), List.append_nil] at hcut
  rw [h4, hcut, lines_end _ hno, bs_extract]
  congr 1
  by_cases hf : f < s.size
  · rw [if_pos hf, if_neg]
    intro e
    have := congrArg List.length e
    simp at this
    omega
  · rw [if_neg hf, if_pos]
    exact List.drop_eq_nil_of_le (by rw [List.length_take]; omega)
end Go.Proofs.YtnbfebjcfhbhiaaDoor.Sc
end
section
namespace Go.Proofs.YtnbfebjcfhbhiaaDoor.Lw
open Go Go.RowKit Go.Proofs.YtnbfebjcfhbhiaaDoor.P Go.Proofs.YtnbfebjcfhbhiaaDoor.Sc Go.Proofs.YtnbfebjcfhbhiaaDoorW.PrintWords Go.Proofs.YtnbfebjcfhbhiaaDoorW.PrintLast Go.Proofs.YtnbfebjcfhbhiaaDoorW.PrintMore
set_option linter.unusedVariables false
set_option linter.unusedSimpArgs false
/-- append of one element that has just been laid. -/
theorem wpList_app1 {P : Program} {w : World} {ops : Array Oper} {rest : List Oper} {o : Oper} {a : Act} {Q : Exit → Act → World → Prop} (hgd : o.guard = none) (s x : Operand) (t : TypeId)
    (ho : o.op = .call { callee := .builtin .append, args := #[s, x], argTypes := #[t, t] })
    (base : Nat) (e : TypeId) (z : Value) (size bytes : Nat) (ht : P.underlying t = some (.slice e)) (hinfo : (P.info? e).map (fun i => (i.zero, i.size, i.bytes)) = some (some z, size, bytes))
    (hzs : z.cells.size = size) (hsz : 0 < size) (hb0 : 0 < bytes) (v : Value) (n : Nat) (xs : List Value) (hs : a.eval s = v) (hown : w.ownsRow base e size v n xs)
    (B c : Nat) (news : Array Value) (hx : a.eval x = .slice (some ⟨B, 0, none⟩) 1 c) (hB : w.heap[B]? = some (.cells news e (0, 0))) (hl : news.size = 1 * size) (h1 : ∀ u ∈ news.toList, u.oneCell' = true)
    (hbytes : (n + 1) * bytes ≤ 140737488355328) (hbase : base ≤ w.heap.size)
    (h : ∀ v' w', w'.ownsRow base e size v' (n + 1) (xs ++ news.toList) → w.grownBy w' v.ownBlock → wpList P ops Q rest (a.put o.dst v') w') : wpList P ops Q (o :: rest) a w := by
  obtain ⟨i, hi, hzz⟩ := Option.map_eq_some_iff.1 hinfo
  simp only [Prod.mk.injEq] at hzz
  obtain ⟨hz0, hz1, hz2⟩ := hzz
  have hle : n + 1 ≤ 140737488355328 := Nat.le_trans (Nat.le_mul_of_pos_right _ hb0) hbytes
  exact wpList_append_own w hgd s x t ho base e i z size bytes ht hi hz0 hz1 hz2 hzs hsz v n xs hs hown ⟨B, 0, none⟩ 1 c news.toList hx (by simpa using hl) (World.news_of_block hB) h1 (by simp only [maxLen]; omega) hbytes hbase (fun v' w' k1 k2 _ => h v' w' k1 k2)
def lc (x : By × Bool) : Array Value := #[.string (sb x.1), .int .i64 0, .bool x.2, .bool false]
def pt (k : Nat) : Value := .pointer (some ⟨k, 0, none⟩)
structure LN (w : World) (base : Nat) (v : Value) (ks : List Nat) (ls : List (By × Bool)) : Prop where
  own : w.ownsRow base 107 1 v ks.length (ks.map pt)
  len : ks.length = ls.length
  at_ : ∀ (j k : Nat) (x : By × Bool), ks[j]? = some k → ls[j]? = some x → w.heap[k]? = some (.cells (lc x) 109 (0, 0)) ∧ base ≤ k
  nd : ks.Nodup
section
variable {w w1 w' : World} {base : Nat} {v v' : Value} {ks : List Nat} {ls : List (By × Bool)} {x : By × Bool}
theorem LN.nil (w : World) (base : Nat) : LN w base (.slice none 0 0) [] [] := ⟨World.ownsRow_nil _ _ _ _, rfl, fun j k x h _ => by simp at h, List.nodup_nil⟩
theorem LN.move (h : LN w base v ks ls) (hm : ∀ k, base ≤ k → k < w.heap.size → w1.heap[k]? = w.heap[k]?) : LN w1 base v ks ls := by
  refine ⟨own_move h.own (fun k hk => ?_), h.len, fun j k x h1 h2 => ?_, h.nd⟩
  · obtain ⟨cells, hc⟩ := own_typed h.own k hk
    refine hm k ?_ (blk_lt hc)
    rcases h.own.2 with ⟨rfl, _⟩ | ⟨g, cap, cur, rfl, hg, _⟩
    · simp [Value.ownBlock] at hk
    · simp [Value.ownBlock] at hk; omega
  · obtain ⟨k1, k2⟩ := h.at_ j k x h1 h2
    exact ⟨(hm k k2 (blk_lt k1)).trans k1, k2⟩
theorem LN.below (h : LN w base v ks ls) (hb : Below w.heap.size w w1) : LN w1 base v ks ls := h.move (fun k _ hk => hb.block k hk)
theorem LN.lt (h : LN w base v ks ls) : ∀ k ∈ ks, k < w.heap.size := by
  intro k hk
  obtain ⟨j, hj, e⟩ := List.getElem_of_mem hk
  have hl := h.len
  exact blk_lt (h.at_ j k (ls[j]'(by omega)) (by rw [List.getElem?_eq_getElem hj, e]) (List.getElem?_eq_getElem _)).1
theorem LN.app (h : LN w base v ks ls) {k0 : Nat} (hk : w.heap[k0]? = some (.cells (lc x) 109 (0, 0))) (hb : base ≤ k0) (hn : k0 ∉ ks)
    (ho : w'.ownsRow base 107 1 v' (ks.length + 1) (ks.map pt ++ [pt k0])) (hg : w.grownBy w' v.ownBlock) : LN w' base v' (ks ++ [k0]) (ls ++ [x]) := by
  have hne : ∀ (k : Nat) (cells : Array Value), w.heap[k]? = some (Obj.cells cells 109 (0, 0)) → w'.heap[k]? = w.heap[k]? := fun k cells hc => hg.block k (blk_lt hc) (fun e => by
    obtain ⟨c2, hc2⟩ := own_typed h.own k e.symm
    rw [hc] at hc2
    simp at hc2)
  refine ⟨by simpa using ho, by simp [h.len], fun j k y h1 h2 => ?_, ?_⟩
  · by_cases hj : j < ks.length
    · rw [List.getElem?_append_left hj] at h1
      rw [List.getElem?_append_left (by have := h.len; omega)] at h2
      obtain ⟨q1, q2⟩ := h.at_ j k y h1 h2
      exact ⟨(hne k _ q1).trans q1, q2⟩
    · have hj2 : j = ks.length := by
        have := (List.getElem?_eq_some_iff.1 h1).1
        simp at this; omega
      subst hj2
      rw [List.getElem?_append_right (Nat.le_refl _)] at h1
      rw [h.len, List.getElem?_append_right (Nat.le_refl _)] at h2
      simp only [Nat.sub_self, List.getElem?_cons_zero, Option.some.injEq] at h1 h2
      subst h1; subst h2
      exact ⟨(hne _ _ hk).trans hk, hb⟩
  · rw [List.nodup_append]
    exact ⟨h.nd, by simp, fun a ha b hb2 => by simp at hb2; subst hb2; exact fun e => hn (e ▸ ha)⟩
theorem LN.grown (h : LN w base v ks ls) {B : Nat} (hB : B ≤ base) (hbs : base ≤ w.heap.size) (hg : w.grownBy w' v.ownBlock) {a : World} (hb : Below B a w) : Below B a w' :=
  hb.grown hg (by omega) (fun k hk => by
    rcases h.own.2 with ⟨rfl, _⟩ | ⟨g, cap, cur, rfl, hg, _⟩
    · simp [Value.ownBlock] at hk
    · simp [Value.ownBlock] at hk; omega)
end
def lv (t : ByteArray) (b : Bool) : Array Value := #[.string t, .int .i64 0, .bool b, .bool false]
theorem lv_lc (t : ByteArray) (b : Bool) : lv t b = lc (bs t, b) := by unfold lv lc; rw [sb_bs]
/-- What stands ahead of the append of a line. -/
theorem app_line {W1 : World} {base : Nat} {v : Value} {ks : List Nat} {ls : List (By × Bool)} (h : LN W1 base v ks ls) (hb : base ≤ W1.heap.size) (t : ByteArray) (b : Bool) (W3 : World) (hW : W3 = (W1.alloc (.cells (lv t b) 109 (0, 0))).alloc (.cells #[pt W1.heap.size] 107 (0, 0))) :
    W3.ownsRow base 107 1 v ks.length (ks.map pt) ∧ W3.heap[W1.heap.size + 1]? = some (.cells #[pt W1.heap.size] 107 (0, 0)) ∧ base ≤ W3.heap.size ∧ Below W1.heap.size W1 W3 ∧
    ∀ v' w', w'.ownsRow base 107 1 v' (ks.length + 1) (ks.map pt ++ [pt W1.heap.size]) → W3.grownBy w' v.ownBlock → LN w' base v' (ks ++ [W1.heap.size]) (ls ++ [(bs t, b)]) ∧ ∀ B a, B ≤ base → Below B a W1 → Below B a w' := by
  have hbl : Below W1.heap.size W1 W3 := by rw [hW]; exact ((Below.refl _ _).alloc (Nat.le_refl _) _).alloc (by simp) _
  have h3 := h.below hbl
  have hsz : W3.heap.size = W1.heap.size + 2 := by rw [hW]; simp
  have h0 : W3.heap[W1.heap.size]? = some (.cells (lv t b) 109 (0, 0)) := by
    rw [hW, heap_alloc_old _ _ (by simp)]; exact heap_alloc_new W1 _
  refine ⟨h3.own, ?_, by omega, hbl, fun v' w' k1 k2 => ⟨?_, fun B a hB ha => ?_⟩⟩
  · rw [hW]
    have := heap_alloc_new (W1.alloc (.cells (lv t b) 109 (0, 0))) (.cells #[pt W1.heap.size] 107 (0, 0))
    simpa using this
  · exact h3.app (x := (bs t, b)) (by rw [← lv_lc]; exact h0) hb (fun hh => Nat.lt_irrefl _ (h.lt _ hh)) k1 k2
  · exact h3.grown hB (by omega) k2 (ha.trans (hbl.mono (by omega)))
/-- In the loop: the iterator in block k. -/
structure LK (w0 wr : World) (s : ByteArray) (v : Value) (pos f : Nat) (ks : List Nat) (ls : List (By × Bool)) : Prop where
  ps : Pos s ls f pos
  it : wr.heap[w0.heap.size]? = some (.stringIter s pos)
  ln : LN wr (w0.heap.size + 1) v ks ls
  bl : Below w0.heap.size w0 wr
  nl : ls.length ≤ f
section
variable {w0 wr w1 : World} {s : ByteArray} {v : Value} {pos f : Nat} {ks : List Nat} {ls : List (By × Bool)}
theorem iterAt_other (w : World) (k : Nat) (s : ByteArray) (p i : Nat) (hi : i ≠ k) : (w.iterAt k s p).heap[i]? = w.heap[i]? := by
  simp only [World.iterAt, Array.getElem?_setIfInBounds]
  rw [if_neg (fun e => hi e.symm)]
/-- The iterator has gone on; what has been read is told anew. -/
theorem LK.iter (h : LK w0 wr s v pos f ks ls) (p2 : Nat) : (wr.iterAt w0.heap.size s p2).heap[w0.heap.size]? = some (.stringIter s p2) ∧ LN (wr.iterAt w0.heap.size s p2) (w0.heap.size + 1) v ks ls ∧ Below w0.heap.size w0 (wr.iterAt w0.heap.size s p2) := by
  refine ⟨Lib.iterAt_heap wr _ s pos p2 h.it, h.ln.move (fun k hk _ => iterAt_other wr _ s p2 k (by omega)), ?_⟩
  have hsz : (wr.iterAt w0.heap.size s p2).heap.size = wr.heap.size := by simp [World.iterAt]
  exact ⟨h.bl.os, h.bl.tape, h.bl.output, by rw [hsz]; exact h.bl.size, fun i hi => (iterAt_other wr _ s p2 i (by omega)).trans (h.bl.block i hi)⟩
end
end Go.Proofs.YtnbfebjcfhbhiaaDoor.Lw
end
