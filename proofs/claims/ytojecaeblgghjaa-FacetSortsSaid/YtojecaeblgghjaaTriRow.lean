/-
  A ROW OF TRIPLES UNDER STORES.
-/
import Derived.Test.YtojecaeblgghjaaTriMem
import Derived.Test.YtojecaeblgghjaaKeep
import Derived.Laws.IdiomCopy
set_option linter.unusedVariables false
set_option linter.unusedSimpArgs false
namespace Go.Proofs.Ytojecaeblgghjaa
open Go.RowKit Go.Sort LsP

/-- Block g holds the triples cs at its beginning; all else is as in w0. -/
structure Row3 (w0 : World) (g cap : Nat) (cs : Array T3) (w : World) : Prop where
  row : ∃ cur : Array Value, w.heap[g]? = some (.cells cur 50 (0, 0)) ∧ cur.size = cap * 3 ∧ ∀ j, j < cs.size → cur[j * 3]? = some (.int .i64 cs[j]!.a) ∧ cur[j * 3 + 1]? = some (.int .i64 cs[j]!.b) ∧ cur[j * 3 + 2]? = some (.int .i64 cs[j]!.c)
  oth : Upd (fun b => b = g) w0 w

theorem Row3.cell {w0 w : World} {g cap : Nat} {cs : Array T3} (h : Row3 w0 g cap cs w) {j : Nat} (hj : j < cs.size) :
    w.cell? ⟨g, j * 3, none⟩ = some (.int .i64 cs[j]!.a) ∧ w.cell? ⟨g, j * 3 + 1, none⟩ = some (.int .i64 cs[j]!.b) ∧ w.cell? ⟨g, j * 3 + 2, none⟩ = some (.int .i64 cs[j]!.c) := by
  obtain ⟨cur, hg, _, hc⟩ := h.row
  obtain ⟨h1, h2, h3⟩ := hc j hj
  exact ⟨(cell_of_row _ _ _ _ _ _ hg).trans h1, (cell_of_row _ _ _ _ _ _ hg).trans h2, (cell_of_row _ _ _ _ _ _ hg).trans h3⟩

theorem Row3.free {w0 w : World} {g cap : Nat} {cs : Array T3} (h : Row3 w0 g cap cs w) (o : Nat) : w.frozen? ⟨g, o, none⟩ = false := by
  obtain ⟨cur, hg, _⟩ := h.row
  simp [World.frozen?, hg]

theorem Upd.drewN {F : Nat → Prop} {w w' : World} (h : Upd F w w') (n : Nat) : Upd F w (w'.drewN n) := ⟨h.os, h.tape, h.output, h.size, h.block⟩

theorem Row3.drewN {w0 w : World} {g cap : Nat} {cs : Array T3} (h : Row3 w0 g cap cs w) (n : Nat) : Row3 w0 g cap cs (w.drewN n) := ⟨h.row, h.oth.drewN n⟩

theorem Row3.store {w0 w : World} {g cap : Nat} {cs : Array T3} (h : Row3 w0 g cap cs w) {i : Nat} (hi : i < cs.size) (t : T3) :
    Row3 w0 g cap (cs.setIfInBounds i t) (((w.setCell ⟨g, i * 3, none⟩ (.int .i64 t.a)).setCell ⟨g, i * 3 + 1, none⟩ (.int .i64 t.b)).setCell ⟨g, i * 3 + 2, none⟩ (.int .i64 t.c)) := by
  obtain ⟨cur, hg, hs, hc⟩ := h.row
  refine ⟨⟨_, heap_setCell_same _ _ _ _ _ _ (heap_setCell_same _ _ _ _ _ _ (heap_setCell_same _ _ _ _ _ _ hg)), by simpa using hs, fun j hj => ?_⟩, ?_⟩
  · rw [Array.size_setIfInBounds] at hj
    obtain ⟨h1, h2, h3⟩ := hc j hj
    have l1 : j * 3 < cur.size := (Array.getElem?_eq_some_iff.1 h1).1
    have l2 : j * 3 + 1 < cur.size := (Array.getElem?_eq_some_iff.1 h2).1
    have l3 : j * 3 + 2 < cur.size := (Array.getElem?_eq_some_iff.1 h3).1
    by_cases e : j = i
    · subst e
      have he : (cs.setIfInBounds j t)[j]! = t := by simp [hj]
      rw [he]
      refine ⟨?_, ?_, ?_⟩ <;> simp [Array.getElem?_setIfInBounds, l1, l2, l3]
    · have he : (cs.setIfInBounds i t)[j]! = cs[j]! := by
        rw [getElem!_pos _ j (by simpa using hj), getElem!_pos cs j hj, Array.getElem_setIfInBounds_ne (by simpa using hj) (fun x => e x.symm)]
      rw [he]
      refine ⟨?_, ?_, ?_⟩
      · rw [Array.getElem?_setIfInBounds_ne (by omega), Array.getElem?_setIfInBounds_ne (by omega), Array.getElem?_setIfInBounds_ne (by omega)]; exact h1
      · rw [Array.getElem?_setIfInBounds_ne (by omega), Array.getElem?_setIfInBounds_ne (by omega), Array.getElem?_setIfInBounds_ne (by omega)]; exact h2
      · rw [Array.getElem?_setIfInBounds_ne (by omega), Array.getElem?_setIfInBounds_ne (by omega), Array.getElem?_setIfInBounds_ne (by omega)]; exact h3
  · have one : ∀ (W : World) (o : Nat) (v : Value), Upd (fun b => b = g) w0 W → Upd (fun b => b = g) w0 (W.setCell ⟨g, o, none⟩ v) := fun W o v k =>
      ⟨k.os, k.tape, k.output, by simpa using k.size, fun b hb hf => (heap_setCell_other W ⟨g, o, none⟩ b v hf).trans (k.block b hb hf)⟩
    exact one _ _ _ (one _ _ _ (one _ _ _ h.oth))

theorem Row3.own {w0 w : World} {g cap n base : Nat} {cs : Array T3} (h : Row3 w0 g cap cs w) (hn : n ≤ cs.size) (hc : cs.size ≤ cap) (hm : cap ≤ maxLen) (hb : base ≤ g) :
    w.ownsRow base 50 3 (.slice (some ⟨g, 0, none⟩) n cap) n ((flat (cs.toList.take n)).map encI) := by
  obtain ⟨cur, hg, hs, hcc⟩ := h.row
  refine ⟨by rw [List.length_map, flat_len, List.length_take, Array.length_toList, Nat.min_eq_left hn, Nat.mul_comm], .inr ⟨g, cap, cur, rfl, hb, hg, by omega, hm, hs, ?_⟩⟩
  have hl : (flat (cs.toList.take n)).length = n * 3 := by rw [flat_len, List.length_take, Array.length_toList, Nat.min_eq_left hn, Nat.mul_comm]
  refine List.ext_getElem? fun i => ?_
  by_cases hi : i < n * 3
  · rw [List.getElem?_take, if_pos hi, Array.getElem?_toList, List.getElem?_map, List.getElem?_eq_getElem (by omega)]
    obtain ⟨f1, f2, f3⟩ := flat_get (cs.toList.take n) (i / 3) (by rw [List.length_take, Array.length_toList]; omega)
    obtain ⟨h1, h2, h3⟩ := hcc (i / 3) (by omega)
    have hx : (cs.toList.take n)[i / 3]! = cs[i / 3]! := by
      rw [getElem!_pos _ _ (by rw [List.length_take, Array.length_toList]; omega), getElem!_pos cs _ (by omega), List.getElem_take, Array.getElem_toList]
    rw [hx] at f1 f2 f3
    have hd := Nat.div_add_mod i 3
    have hmod : i % 3 < 3 := Nat.mod_lt _ (by omega)
    have hg' : ∀ k, i = k → (flat (cs.toList.take n))[k]! = (flat (cs.toList.take n))[i]'(by omega) := fun k e => by subst e; rw [getElem!_pos]
    rcases (by omega : i % 3 = 0 ∨ i % 3 = 1 ∨ i % 3 = 2) with h0 | h0 | h0
    · rw [← hg' (3 * (i / 3)) (by omega), f1, show i = i / 3 * 3 by omega, show i / 3 * 3 / 3 = i / 3 by omega] <;> exact h1
    · rw [← hg' (3 * (i / 3) + 1) (by omega), f2, show cur[i]? = cur[i / 3 * 3 + 1]? from by congr 1; omega]; exact h2
    · rw [← hg' (3 * (i / 3) + 2) (by omega), f3, show cur[i]? = cur[i / 3 * 3 + 2]? from by congr 1; omega]; exact h3
  · rw [List.getElem?_eq_none (by rw [List.length_take]; omega), List.getElem?_eq_none (by rw [List.length_map]; omega)]
end Go.Proofs.Ytojecaeblgghjaa
