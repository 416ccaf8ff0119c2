/- append of one element onto a row of the call's own: where the new value lies, and that the old row still reads. -/
import Derived.Test.YtnkkkbmkbmjghaaWKept
import Derived.Test.YtnkkkbmkbmjghaaWMore
import Derived.Deep.AppendLies
namespace Go.Proofs.Ytnkkkbmkbmjghaa.Gw
open Go Go.RowKit Go.Proofs.YtnkkkbmkbmjghaaW.PrintWords
set_option linter.unusedVariables false
/-- What an append of one element leaves. -/
structure Grew (W w' : World) (e : TypeId) (sz : Nat) (v : Value) (n : Nat) (xs ys : List Value) (v' : Value) : Prop where
  own : w'.ownsRow 0 e sz v' (n + 1) (xs ++ ys)
  grow : W.grownBy w' v.ownBlock
  lies : (∃ g cap, v = .slice (some ⟨g, 0, none⟩) n cap ∧ v' = .slice (some ⟨g, 0, none⟩) (n + 1) cap) ∨ (∃ cap, v' = .slice (some ⟨W.heap.size, 0, none⟩) (n + 1) cap ∧ W.grownBy w' none)
section
variable {P : Program}
theorem run_grew (w : World) (t ty e : TypeId) (i : TypeInfo) (z : Value) (size bytes : Nat) (ht : P.underlying t = some (.slice e)) (hi : P.info? e = some i) (hz : i.zero = some z)
    (hsize : i.size = size) (hby : i.bytes = bytes) (hzs : z.cells.size = size) (hsz : 0 < size) (v : Value) (n : Nat) (xs : List Value) (hown : w.ownsRow 0 e size v n xs)
    (a : Addr) (c : Nat) (news : List Value) (hl : news.length = 1 * size) (hnews : ∀ j u, news[j]? = some u → w.cell? (a.add j) = some u) (h1 : ∀ u ∈ news, u.oneCell' = true)
    (hb0 : 0 < bytes) (hbytes : (n + 1) * bytes ≤ 140737488355328) :
    ∃ v' w', (Builtin.append_ #[t, t] ty #[v, .slice (some a) 1 c]).run P w = .ok v' w' ∧ Grew w w' e size v n xs news v' := by
  have hle : n + 1 ≤ 140737488355328 := Nat.le_trans (Nat.le_mul_of_pos_right _ hb0) hbytes
  have hmax : n + 1 ≤ maxLen := by simp only [maxLen]; omega
  obtain ⟨v', w', hr, h2, h3, _, h5⟩ := run_append_own_at (P := P) w 0 t ty e i z size bytes ht hi hz hsize hby hzs hsz v n xs hown a 1 c news hl hnews h1 hmax hbytes (Nat.zero_le _)
  refine ⟨v', w', hr, h2, h3, ?_⟩
  rcases hown.2 with ⟨rfl, rfl⟩ | ⟨g, cap, cur, rfl, hbg, hg, hnc, hcm, hcs, htake⟩
  · right
    obtain ⟨g, cap, rfl, _, _⟩ := h2.form (by omega)
    rcases h5 with h5 | h5
    · simp [Value.ownBlock] at h5
    · have : g = w.heap.size := by simpa [Value.ownBlock] using h5
      subst this
      exact ⟨cap, rfl, h3⟩
  · by_cases hroom : n + 1 ≤ cap
    · left
      have hfit : n * i.size + news.length ≤ cur.size := by rw [hsize, hl, hcs, ← Nat.add_mul]; exact Nat.mul_le_mul_right _ hroom
      have hr2 := run_append_room (P := P) w t ty e i ht hi g n cap cur hg a 1 c news (by rw [hsize]; exact hl) hnews h1 hroom hfit
      rw [hr] at hr2
      injection hr2 with ha hb
      exact ⟨g, cap, rfl, ha⟩
    · right
      have holds : ∀ j u, xs[j]? = some u → w.cell? ((⟨g, 0, none⟩ : Addr).add j) = some u := hown.cells (g := g) rfl
      have hr2 := run_append_grow (P := P) w t ty e i z ht hi hz ⟨g, 0, none⟩ n cap xs (by rw [hsize]; exact hown.1) holds a 1 c news (by rw [hsize]; exact hl) hnews (by omega) (by omega) (growslice_fits (by omega) (by rw [hby]; exact hbytes))
      rw [hr] at hr2
      injection hr2 with ha hb
      subst hb
      exact ⟨_, ha, ⟨rfl, rfl, rfl, by simp, fun k hk _ => heap_alloc_old w.drew _ hk⟩⟩
theorem wpList_grew (w : World) {ops : Array Oper} {rest : List Oper} {o : Oper} {a : Act} {Q : Exit → Act → World → Prop} (hgd : o.guard = none) (s x : Operand) (t : TypeId)
    (ho : o.op = .call { callee := .builtin .append, args := #[s, x], argTypes := #[t, t] })
    (e : TypeId) (z : Value) (size bytes : Nat) (ht : P.underlying t = some (.slice e)) (hinfo : (P.info? e).map (fun i => (i.zero, i.size, i.bytes)) = some (some z, size, bytes))
    (hzs : z.cells.size = size) (hsz : 0 < size) (hb0 : 0 < bytes) (v : Value) (n : Nat) (xs : List Value) (hs : a.eval s = v) (hown : w.ownsRow 0 e size v n xs)
    (B c : Nat) (news : Array Value) (hx : a.eval x = .slice (some ⟨B, 0, none⟩) 1 c) (hB : w.heap[B]? = some (.cells news e (0, 0))) (hl : news.size = 1 * size) (h1 : ∀ u ∈ news.toList, u.oneCell' = true)
    (hbytes : (n + 1) * bytes ≤ 140737488355328)
    (h : ∀ v' w', Grew w w' e size v n xs news.toList v' → wpList P ops Q rest (a.put o.dst v') w') : wpList P ops Q (o :: rest) a w := by
  obtain ⟨i, hi, hzz⟩ := Option.map_eq_some_iff.1 hinfo
  simp only [Prod.mk.injEq] at hzz
  obtain ⟨hz0, hz1, hz2⟩ := hzz
  refine wpList_plain hgd fun K hK => ?_
  obtain ⟨v', w', hr, hgr⟩ := run_grew (P := P) w t o.type e i z size bytes ht hi hz0 hz1 hz2 hzs hsz v n xs hown ⟨B, 0, none⟩ c news.toList (by simpa using hl) (World.news_of_block hB) h1 hb0 hbytes
  unfold Oper.wp execOp
  simp only [ho, resolve, invoke, builtin, Sem.run_bind, Sem.run_pure, Result.andThen_ok, List.map_toArray, List.map_cons, List.map_nil, hs, hx, hr]
  exact hK _ _ (h v' w' hgr)
end
end Go.Proofs.Ytnkkkbmkbmjghaa.Gw
