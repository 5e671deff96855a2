/-
  Merged: TriOrd, TriMem, TriEnc, TriRow, TriRow2.
-/
import Derived.Test.YtojecaeblgghjaaTriG
import Derived.Test.YtojecaeblgghjaaOrdPlain
import Derived.Sort.Statements
import Derived.Test.YtojecaeblgghjaaSetG
import Derived.Shelf.GgSortFunc.InsertionK
import Derived.Test.YtojecaeblgghjaaKeep
import Derived.Laws.IdiomCopy

/-
  PLAIN: the order of triples.
-/
set_option linter.unusedVariables false
set_option linter.unusedSimpArgs false
namespace Go.Proofs.Ytojecaeblgghjaa
open Go.RowKit Go.Sort LsP

theorem T3.l_inj {s t : T3} : s.l = t.l ↔ s = t := by
  obtain ⟨a, b, c⟩ := s
  obtain ⟨x, y, z⟩ := t
  simp [T3.l]

instance : LE T3 := ⟨fun s t => s.l ≤ t.l⟩
instance : LT T3 := ⟨fun s t => s.l < t.l⟩
instance : DecidableLE T3 := fun s t => inferInstanceAs (Decidable (s.l ≤ t.l))
instance : DecidableLT T3 := fun s t => inferInstanceAs (Decidable (s.l < t.l))
theorem T3.le_def {s t : T3} : s ≤ t ↔ s.l ≤ t.l := Iff.rfl
theorem T3.lt_def {s t : T3} : s < t ↔ s.l < t.l := Iff.rfl
instance : Std.IsLinearOrder T3 where
  le_refl s := Std.le_refl s.l
  le_trans a b c h k := Std.le_trans (a := a.l) (b := b.l) (c := c.l) h k
  le_antisymm a b h k := T3.l_inj.1 (Std.le_antisymm (a := a.l) (b := b.l) h k)
  le_total a b := Std.le_total (a := a.l) (b := b.l)
instance : Std.LawfulOrderLT T3 where
  lt_iff a b := Std.LawfulOrderLT.lt_iff (α := List Int) a.l b.l

theorem cmpL_lt {α : Type} [LE α] [LT α] [Std.IsLinearOrder α] [Std.LawfulOrderLT α] [DecidableEq α] [DecidableLE α] [DecidableLT α] : ∀ {a b : List α}, cmpL a b < 0 ↔ a < b
  | [], [] => by simp [cmpL]
  | [], y :: b => by simp [cmpL]
  | x :: a, [] => by simp [cmpL]
  | x :: a, y :: b => by
    have ih := cmpL_lt (a := a) (b := b)
    simp only [cmpL, List.cons_lt_cons_iff]
    by_cases h : x < y
    · simp [h]
    · by_cases h2 : y < x
      · have : x ≠ y := fun e => by rw [e] at h2; exact lt_ir h2
        simp [h, h2, this]
      · have e : x = y := by
          rcases tri x y with h3 | h3 | h3
          · exact absurd h3 h
          · exact h3
          · exact absurd h3 h2
        subst e
        rw [if_neg h, if_neg h2, ih]
        simp [h]

theorem ltT_iff (s t : T3) : ltT s t = true ↔ s < t := by
  rw [← ltT_cmp, decide_eq_true_eq, cmpL_lt]; exact Iff.rfl
end Go.Proofs.Ytojecaeblgghjaa

/-
  WORDS FOR A ROW OF TRIPLES: three cells an item.
-/
set_option linter.unusedVariables false
set_option linter.unusedSimpArgs false
namespace Go.Proofs.Ytojecaeblgghjaa
open Go.RowKit Go.Sort LsP

/-- The numbers of triples, one after another. -/
def flat (xs : List T3) : List Int := xs.flatMap T3.l

theorem flat_len (xs : List T3) : (flat xs).length = 3 * xs.length := by
  induction xs with
  | nil => rfl
  | cons t xs ih => simp only [flat, List.flatMap_cons, List.length_append, T3.l, List.length_cons, List.length_nil] at *; omega

theorem flat_nil : flat [] = [] := rfl
theorem flat_cons (t : T3) (xs : List T3) : flat (t :: xs) = t.a :: t.b :: t.c :: flat xs := rfl
theorem flat_append (xs ys : List T3) : flat (xs ++ ys) = flat xs ++ flat ys := List.flatMap_append
theorem flat_one (t : T3) : flat [t] = [t.a, t.b, t.c] := rfl

theorem flat_get : ∀ (xs : List T3) (k : Nat), k < xs.length → (flat xs)[3 * k]! = xs[k]!.a ∧ (flat xs)[3 * k + 1]! = xs[k]!.b ∧ (flat xs)[3 * k + 2]! = xs[k]!.c
  | [], k, h => absurd h (by simp)
  | t :: xs, 0, _ => ⟨rfl, rfl, rfl⟩
  | t :: xs, k + 1, h => by
    have ih := flat_get xs k (by simpa using h)
    rw [flat_cons, show 3 * (k + 1) = 3 * k + 1 + 1 + 1 by omega, show 3 * k + 1 + 1 + 1 + 1 = (3 * k + 1) + 1 + 1 + 1 by omega, show 3 * k + 1 + 1 + 1 + 2 = (3 * k + 2) + 1 + 1 + 1 by omega]
    simpa using ih

/-- A slice of triples. -/
abbrev RdT (lo : Nat) (w : World) (A : Option Addr) (xs : List T3) : Prop := Rd encI lo w A (flat xs)

theorem RdT.at_ {lo : Nat} {w : World} {A : Option Addr} {xs : List T3} (h : RdT lo w A xs) {k : Nat} (hk : k < xs.length) :
    ∃ b off, A = some ⟨b, off, none⟩ ∧ b < w.heap.size ∧ w.cell? ⟨b, off + 3 * k, none⟩ = some (.int .i64 xs[k]!.a) ∧ w.cell? ⟨b, off + 3 * k + 1, none⟩ = some (.int .i64 xs[k]!.b) ∧ w.cell? ⟨b, off + 3 * k + 2, none⟩ = some (.int .i64 xs[k]!.c) := by
  obtain ⟨b, off, e, _, h2, h3⟩ := h (by rw [flat_len]; omega)
  obtain ⟨g0, g1, g2⟩ := flat_get xs k hk
  have l := flat_len xs
  exact ⟨b, off, e, h2, by rw [h3 _ (by omega), g0], by rw [Nat.add_assoc, h3 _ (by omega), g1], by rw [Nat.add_assoc, h3 _ (by omega), g2]⟩

theorem info_tri : (Try.prog.info? 50).map (fun i => (i.zero, i.size, i.bytes)) = some (some (.agg #[.int .i64 0, .int .i64 0, .int .i64 0]), 3, 24) := by kernel_rfl

/-- 'append(v, t)' of one triple, onto a row of the call's own. -/
theorem appT3_run (w : World) (base ty : Nat) (v : Value) (n : Nat) (xs : List T3) (hown : w.ownsRow base 50 3 v n ((flat xs).map encI)) (g c : Nat) (t : T3)
    (hc : w.heap[g]? = some (.cells #[.int .i64 t.a, .int .i64 t.b, .int .i64 t.c] 50 (0, 0))) (h63 : n ≤ 10000000) (hbase : base ≤ w.heap.size) :
    ∃ A' c' w', (Builtin.append_ #[57, 57] ty #[v, .slice (some ⟨g, 0, none⟩) 1 c]).run Try.prog w = .ok (.slice A' (n + 1) c') w' ∧ w'.ownsRow base 50 3 (.slice A' (n + 1) c') (n + 1) ((flat (xs ++ [t])).map encI) ∧
      w.grownBy w' v.ownBlock ∧ (∀ b o, A' = some ⟨b, o, none⟩ → v.ownBlock = some b ∨ b = w.heap.size) := by
  obtain ⟨i0, hi0, hz0, hz1, hz2⟩ := info_parts info_tri
  obtain ⟨v', w', hrun, h2, h3, _, h5⟩ := run_append_own_at (P := Try.prog) w base 57 ty 50 i0 _ 3 24 Try.underlying57 hi0 hz0 hz1 hz2 rfl (by omega) v n _ hown ⟨g, 0, none⟩ 1 c [.int .i64 t.a, .int .i64 t.b, .int .i64 t.c] rfl
    (fun j u hu => by
      have : (⟨g, 0, none⟩ : Addr).add j = ⟨g, j, none⟩ := by unfold Addr.add; split <;> simp_all
      rw [this, cell_of_row _ _ _ _ _ _ hc]
      simpa using hu)
    (fun u hu => by simp at hu; rcases hu with rfl | rfl | rfl <;> rfl) (by unfold maxLen; omega) (by omega) hbase
  obtain ⟨A', c', rfl, _⟩ := own_value h2
  refine ⟨A', c', w', hrun, by rw [flat_append, flat_one, List.map_append]; exact h2, h3, fun b o e => ?_⟩
  subst e
  rcases h5 with h | h
  · exact .inl (by rw [← h]; rfl)
  · exact .inr (by simpa [Value.ownBlock] using h)
end Go.Proofs.Ytojecaeblgghjaa

/-
  TRIPLES AS THREE CELLS: the order of facet.compare.
-/
set_option linter.unusedVariables false
set_option linter.unusedSimpArgs false
namespace Go.Proofs.Ytojecaeblgghjaa
open Go.RowKit Go.Sort LsP

def encL (t : T3) : List Value := [.int .i64 t.a, .int .i64 t.b, .int .i64 t.c]
def cmpT (s t : T3) : Int := cmpL s.l t.l

end Go.Proofs.Ytojecaeblgghjaa

/-
  A ROW OF TRIPLES UNDER STORES.
-/
set_option linter.unusedVariables false
set_option linter.unusedSimpArgs false
namespace Go.Proofs.Ytojecaeblgghjaa
open Go.RowKit Go.Sort LsP

/-- Block g holds the triples cs at its beginning; all else is as in w0. -/
structure Row3 (w0 : World) (g cap : Nat) (cs : Array T3) (w : World) : Prop where
  row : ∃ cur : Array Value, w.heap[g]? = some (.cells cur 50 (0, 0)) ∧ cur.size = cap * 3 ∧ ∀ j, j < cs.size → cur[j * 3]? = some (.int .i64 cs[j]!.a) ∧ cur[j * 3 + 1]? = some (.int .i64 cs[j]!.b) ∧ cur[j * 3 + 2]? = some (.int .i64 cs[j]!.c)
  oth : Upd (fun b => b = g) w0 w

theorem Row3.cell {w0 w : World} {g cap : Nat} {cs : Array T3} (h : Row3 w0 g cap cs w) {j : Nat} (hj : j < cs.size) :
    w.cell? ⟨g, j * 3, none⟩ = some (.int .i64 cs[j]!.a) ∧ w.cell? ⟨g, j * 3 + 1, none⟩ = some (.int .i64 cs[j]!.b) ∧ w.cell? ⟨g, j * 3 + 2, none⟩ = some (.int .i64 cs[j]!.c) := by
  obtain ⟨cur, hg, _, hc⟩ := h.row
  obtain ⟨h1, h2, h3⟩ := hc j hj
  exact ⟨(cell_of_row _ _ _ _ _ _ hg).trans h1, (cell_of_row _ _ _ _ _ _ hg).trans h2, (cell_of_row _ _ _ _ _ _ hg).trans h3⟩

theorem Row3.free {w0 w : World} {g cap : Nat} {cs : Array T3} (h : Row3 w0 g cap cs w) (o : Nat) : w.frozen? ⟨g, o, none⟩ = false := by
  obtain ⟨cur, hg, _⟩ := h.row
  simp [World.frozen?, hg]

theorem Upd.drewN {F : Nat → Prop} {w w' : World} (h : Upd F w w') (n : Nat) : Upd F w (w'.drewN n) := ⟨h.os, h.tape, h.output, h.size, h.block⟩

theorem Row3.drewN {w0 w : World} {g cap : Nat} {cs : Array T3} (h : Row3 w0 g cap cs w) (n : Nat) : Row3 w0 g cap cs (w.drewN n) := ⟨h.row, h.oth.drewN n⟩

theorem Row3.store {w0 w : World} {g cap : Nat} {cs : Array T3} (h : Row3 w0 g cap cs w) {i : Nat} (hi : i < cs.size) (t : T3) :
    Row3 w0 g cap (cs.setIfInBounds i t) (((w.setCell ⟨g, i * 3, none⟩ (.int .i64 t.a)).setCell ⟨g, i * 3 + 1, none⟩ (.int .i64 t.b)).setCell ⟨g, i * 3 + 2, none⟩ (.int .i64 t.c)) := by
  obtain ⟨cur, hg, hs, hc⟩ := h.row
  refine ⟨⟨_, heap_setCell_same _ _ _ _ _ _ (heap_setCell_same _ _ _ _ _ _ (heap_setCell_same _ _ _ _ _ _ hg)), by simpa using hs, fun j hj => ?_⟩, ?_⟩
  · rw [Array.size_setIfInBounds] at hj
    obtain ⟨h1, h2, h3⟩ := hc j hj
    have l1 : j * 3 < cur.size := (Array.getElem?_eq_some_iff.1 h1).1
    have l2 : j * 3 + 1 < cur.size := (Array.getElem?_eq_some_iff.1 h2).1
    have l3 : j * 3 + 2 < cur.size := (Array.getElem?_eq_some_iff.1 h3).1
    by_cases e : j = i
    · subst e
      have he : (cs.setIfInBounds j t)[j]! = t := by simp [hj]
      rw [he]
      refine ⟨?_, ?_, ?_⟩ <;> simp [Array.getElem?_setIfInBounds, l1, l2, l3]
    · have he : (cs.setIfInBounds i t)[j]! = cs[j]! := by
        rw [getElem!_pos _ j (by simpa using hj), getElem!_pos cs j hj, Array.getElem_setIfInBounds_ne (by simpa using hj) (fun x => e x.symm)]
      rw [he]
      refine ⟨?_, ?_, ?_⟩
      · rw [Array.getElem?_setIfInBounds_ne (by omega), Array.getElem?_setIfInBounds_ne (by omega), Array.getElem?_setIfInBounds_ne (by omega)]; exact h1
      · rw [Array.getElem?_setIfInBounds_ne (by omega), Array.getElem?_setIfInBounds_ne (by omega), Array.getElem?_setIfInBounds_ne (by omega)]; exact h2
      · rw [Array.getElem?_setIfInBounds_ne (by omega), Array.getElem?_setIfInBounds_ne (by omega), Array.getElem?_setIfInBounds_ne (by omega)]; exact h3
  · have one : ∀ (W : World) (o : Nat) (v : Value), Upd (fun b => b = g) w0 W → Upd (fun b => b = g) w0 (W.setCell ⟨g, o, none⟩ v) := fun W o v k =>
      ⟨k.os, k.tape, k.output, by simpa using k.size, fun b hb hf => (heap_setCell_other W ⟨g, o, none⟩ b v hf).trans (k.block b hb hf)⟩
    exact one _ _ _ (one _ _ _ (one _ _ _ h.oth))

theorem Row3.own {w0 w : World} {g cap n base : Nat} {cs : Array T3} (h : Row3 w0 g cap cs w) (hn : n ≤ cs.size) (hc : cs.size ≤ cap) (hm : cap ≤ maxLen) (hb : base ≤ g) :
    w.ownsRow base 50 3 (.slice (some ⟨g, 0, none⟩) n cap) n ((flat (cs.toList.take n)).map encI) := by
  obtain ⟨cur, hg, hs, hcc⟩ := h.row
  refine ⟨by rw [List.length_map, flat_len, List.length_take, Array.length_toList, Nat.min_eq_left hn, Nat.mul_comm], .inr ⟨g, cap, cur, rfl, hb, hg, by omega, hm, hs, ?_⟩⟩
  have hl : (flat (cs.toList.take n)).length = n * 3 := by rw [flat_len, List.length_take, Array.length_toList, Nat.min_eq_left hn, Nat.mul_comm]
  refine List.ext_getElem? fun i => ?_
  by_cases hi : i < n * 3
  · rw [List.getElem?_take, if_pos hi, Array.getElem?_toList, List.getElem?_map, List.getElem?_eq_getElem (by omega)]
    obtain ⟨f1, f2, f3⟩ := flat_get (cs.toList.take n) (i / 3) (by rw [List.length_take, Array.length_toList]; omega)
    obtain ⟨h1, h2, h3⟩ := hcc (i / 3) (by omega)
    have hx : (cs.toList.take n)[i / 3]! = cs[i / 3]! := by
      rw [getElem!_pos _ _ (by rw [List.length_take, Array.length_toList]; omega), getElem!_pos cs _ (by omega), List.getElem_take, Array.getElem_toList]
    rw [hx] at f1 f2 f3
    have hd := Nat.div_add_mod i 3
    have hmod : i % 3 < 3 := Nat.mod_lt _ (by omega)
    have hg' : ∀ k, i = k → (flat (cs.toList.take n))[k]! = (flat (cs.toList.take n))[i]'(by omega) := fun k e => by subst e; rw [getElem!_pos]
    rcases (by omega : i % 3 = 0 ∨ i % 3 = 1 ∨ i % 3 = 2) with h0 | h0 | h0
    · rw [← hg' (3 * (i / 3)) (by omega), f1, show i = i / 3 * 3 by omega, show i / 3 * 3 / 3 = i / 3 by omega] <;> exact h1
    · rw [← hg' (3 * (i / 3) + 1) (by omega), f2, show cur[i]? = cur[i / 3 * 3 + 1]? from by congr 1; omega]; exact h2
    · rw [← hg' (3 * (i / 3) + 2) (by omega), f3, show cur[i]? = cur[i / 3 * 3 + 2]? from by congr 1; omega]; exact h3
  · rw [List.getElem?_eq_none (by rw [List.length_take]; omega), List.getElem?_eq_none (by rw [List.length_map]; omega)]
end Go.Proofs.Ytojecaeblgghjaa

/-
  A ROW OF TRIPLES: out of memory of one's own, behind a sort, behind a clear.
-/
set_option linter.unusedVariables false
set_option linter.unusedSimpArgs false
namespace Go.Proofs.Ytojecaeblgghjaa
open Go.RowKit Go.Sort LsP

theorem Row3.of_own {w : World} {base n : Nat} {v : Value} {xs : List T3} (h : w.ownsRow base 50 3 v n ((flat xs).map encI)) (hl : xs.length = n) (hn : 0 < n) :
    ∃ g cap, v = .slice (some ⟨g, 0, none⟩) n cap ∧ base ≤ g ∧ g < w.heap.size ∧ n ≤ cap ∧ cap ≤ maxLen ∧ Row3 w g cap xs.toArray w := by
  rcases h.2 with ⟨_, e0, _⟩ | ⟨g, cap, cur, rfl, hb, hg, hn', hm, hs, hx⟩
  · omega
  · refine ⟨g, cap, rfl, hb, (Array.getElem?_eq_some_iff.1 hg).1, hn', hm, ⟨cur, hg, hs, fun j hj => ?_⟩, Upd.refl _ _⟩
    have hj' : j < xs.length := by simpa using hj
    obtain ⟨f0, f1, f2⟩ := flat_get xs j hj'
    have hl3 := flat_len xs
    have at_ : ∀ i, i < n * 3 → cur[i]? = some (encI (flat xs)[i]!) := fun i hi => by
      have h1 : (cur.toList.take (n * 3))[i]? = cur[i]? := by rw [List.getElem?_take, if_pos hi, Array.getElem?_toList]
      rw [← h1, hx, List.getElem?_map, List.getElem?_eq_getElem (by omega), getElem!_pos _ i (by omega)]
      rfl
    have e : xs.toArray[j]! = xs[j]! := by simp
    rw [e]
    refine ⟨?_, ?_, ?_⟩
    · rw [at_ _ (by omega), Nat.mul_comm j 3, f0]
    · rw [at_ _ (by omega), Nat.mul_comm j 3, f1]
    · rw [at_ _ (by omega), Nat.mul_comm j 3, f2]

theorem flatK_at (d : Array T3) (t : Nat) (h : t < d.size * 3) : (flatK encL 3 d)[t]! = if t % 3 = 0 then .int .i64 d[t / 3]!.a else if t % 3 = 1 then .int .i64 d[t / 3]!.b else .int .i64 d[t / 3]!.c := by
  rw [get_flatK encL 3 d t h]
  have hm : t % 3 < 3 := Nat.mod_lt _ (by omega)
  rcases (by omega : t % 3 = 0 ∨ t % 3 = 1 ∨ t % 3 = 2) with h0 | h0 | h0 <;> rw [h0] <;> rfl

theorem Row3.at3 {w0 w : World} {g cap : Nat} {cs : Array T3} (h : Row3 w0 g cap cs w) {cur : Array Value} {e : TypeId} {fr : Nat × Nat} (hg : w.heap[g]? = some (.cells cur e fr)) (t : Nat) (ht : t < cs.size * 3) :
    cur[t]? = some (flatK encL 3 cs)[t]! := by
  obtain ⟨cur', hg', _, hc⟩ := h.row
  rw [hg] at hg'
  injection hg' with hg'
  injection hg' with hg' _ _
  subst hg'
  obtain ⟨h1, h2, h3⟩ := hc (t / 3) (by omega)
  rw [flatK_at cs t ht]
  have hm : t % 3 < 3 := Nat.mod_lt _ (by omega)
  rcases (by omega : t % 3 = 0 ∨ t % 3 = 1 ∨ t % 3 = 2) with h0 | h0 | h0
  · rw [if_pos h0, show cur[t]? = cur[t / 3 * 3]? from by congr 1; omega]; exact h1
  · rw [if_neg (by omega), if_pos h0, show cur[t]? = cur[t / 3 * 3 + 1]? from by congr 1; omega]; exact h2
  · rw [if_neg (by omega), if_neg (by omega), show cur[t]? = cur[t / 3 * 3 + 2]? from by congr 1; omega]; exact h3

theorem Row3.holds {w0 w : World} {g cap : Nat} {cs : Array T3} (h : Row3 w0 g cap cs w) : HoldsK encL 3 w g 0 cs := by
  intro t ht
  rw [size_flatK] at ht
  obtain ⟨cur, hg, _⟩ := h.row
  rw [Nat.zero_add]
  exact ⟨(cell_of_row _ _ _ _ _ _ hg).trans (h.at3 hg t ht), h.free t⟩

theorem Row3.sorted {w0 w : World} {g cap : Nat} {cs ds : Array T3} (h : Row3 w0 g cap cs w) (hs : ds.size = cs.size) (hgw : g < w.heap.size) (hc : cs.size ≤ cap) (n : Nat) (os : Array Obj) :
    Row3 w0 g cap ds (sortWorldK encL 3 w g 0 n ds os) := by
  obtain ⟨cur, hg, hcs, _⟩ := h.row
  have hp : (putRowK encL 3 (Sort.ahead w n) g 0 ds).heap[g]? = some (.cells (putCells id 0 (flatK encL 3 ds) cur) 50 (0, 0)) := by
    simp only [putRowK, putRow, mapBlock, Array.getElem?_modify, if_true]
    rw [show (Sort.ahead w n).heap[g]? = w.heap[g]? from rfl, hg]
    rfl
  have hsz : (putRowK encL 3 (Sort.ahead w n) g 0 ds).heap.size = w.heap.size := by simp [putRowK, putRow, mapBlock] <;> rfl
  refine ⟨⟨putCells id 0 (flatK encL 3 ds) cur, ?_, by simpa [putCells] using hcs, fun j hj => ?_⟩, ?_⟩
  · rw [sortWorldK, heap_grow_old _ _ (by omega)]
    exact hp
  · have at_ : ∀ i, i < ds.size * 3 → (putCells id 0 (flatK encL 3 ds) cur)[i]? = some (flatK encL 3 ds)[i]! := fun i hi => by
      simp only [putCells, Array.getElem?_mapIdx, size_flatK]
      rw [Array.getElem?_eq_getElem (by omega), Option.map_some, if_pos (by omega)]
      rfl
    refine ⟨?_, ?_, ?_⟩
    · rw [at_ _ (by omega), flatK_at _ _ (by omega), if_pos (by omega), show j * 3 / 3 = j by omega]
    · rw [at_ _ (by omega), flatK_at _ _ (by omega), if_neg (by omega), if_pos (by omega), show (j * 3 + 1) / 3 = j by omega]
    · rw [at_ _ (by omega), flatK_at _ _ (by omega), if_neg (by omega), if_neg (by omega), show (j * 3 + 2) / 3 = j by omega]
  · have k := h.oth
    refine ⟨k.os, k.tape, k.output, ?_, fun b hb hf => ?_⟩
    · rw [sortWorldK, size_grow, hsz]
      have := k.size
      omega
    · rw [sortWorldK, heap_grow_old _ _ (by have := k.size; omega)]
      refine Eq.trans ?_ (k.block b hb hf)
      simp only [putRowK, putRow, mapBlock, Array.getElem?_modify]
      rw [if_neg (fun e => hf e.symm)]
      rfl

theorem Row3.cut {w0 w : World} {g cap : Nat} {cs ds : Array T3} (h : Row3 w0 g cap cs w) (hs : ds.size ≤ cs.size) (he : ∀ j, j < ds.size → ds[j]! = cs[j]!) : Row3 w0 g cap ds w := by
  obtain ⟨cur, hg, hcs, hc⟩ := h.row
  exact ⟨⟨cur, hg, hcs, fun j hj => by rw [he j hj]; exact hc j (by omega)⟩, h.oth⟩

theorem row_setCells {g : Nat} {e : TypeId} : ∀ (vs : List Value) (o : Nat) (w : World) (cur : Array Value), w.heap[g]? = some (.cells cur e (0, 0)) →
    ∃ cur', (w.setCells g o vs).heap[g]? = some (.cells cur' e (0, 0)) ∧ cur'.size = cur.size ∧ (∀ i, i < o → cur'[i]? = cur[i]?) ∧ (w.setCells g o vs).heap.size = w.heap.size ∧ (∀ b, b ≠ g → (w.setCells g o vs).heap[b]? = w.heap[b]?) ∧
      (w.setCells g o vs).os = w.os ∧ (w.setCells g o vs).tape = w.tape ∧ (w.setCells g o vs).output = w.output
  | [], o, w, cur, h => ⟨cur, h, rfl, fun _ _ => rfl, rfl, fun _ _ => rfl, rfl, rfl, rfl⟩
  | v :: r, o, w, cur, h => by
    obtain ⟨cur', h1, h2, h3, h4, h5, h6, h7, h8⟩ := row_setCells r (o + 1) (w.setCell ⟨g, o, none⟩ v) _ (heap_setCell_same _ _ _ _ _ _ h)
    refine ⟨cur', h1, by rw [h2]; simp, fun i hi => ?_, by rw [World.setCells, h4]; simp, fun b hb => ?_, by rw [World.setCells, h6]; rfl, by rw [World.setCells, h7]; rfl, by rw [World.setCells, h8]; rfl⟩
    · rw [h3 i (by omega), Array.getElem?_setIfInBounds_ne (by omega)]
    · rw [World.setCells, h5 b hb]
      exact heap_setCell_other w ⟨g, o, none⟩ b v hb

theorem Row3.clear {w0 w : World} {g cap : Nat} {cs : Array T3} (h : Row3 w0 g cap cs w) (k : Nat) (hk : k ≤ cs.size) (vs : List Value) (ds : Array T3) (hd : ds.size = k) (he : ∀ j, j < k → ds[j]! = cs[j]!) :
    Row3 w0 g cap ds (w.setCells g (k * 3) vs) := by
  obtain ⟨cur, hg, hcs, hc⟩ := h.row
  obtain ⟨cur', h1, h2, h3, h4, h5, h6, h7, h8⟩ := row_setCells vs (k * 3) w cur hg
  refine ⟨⟨cur', h1, by omega, fun j hj => ?_⟩, ⟨h6.trans h.oth.os, h7.trans h.oth.tape, h8.trans h.oth.output, by rw [h4]; exact h.oth.size, fun b hb hf => (h5 b hf).trans (h.oth.block b hb hf)⟩⟩
  rw [he j (by omega), h3 _ (by omega), h3 _ (by omega), h3 _ (by omega)]
  exact hc j (by omega)

/-- 'clear' of a slice of triples. -/
theorem clearT_run {w0 w : World} {g cap : Nat} {cs : Array T3} (h : Row3 w0 g cap cs w) (hc : cs.size ≤ cap) (k n c : Nat) (hn : 0 < n) (hk : k + n ≤ cs.size) :
    ∃ vs : List Value, ∀ ty : TypeId, (Builtin.clear_ #[57] ty #[.slice (some ⟨g, k * 3, none⟩) n c]).run Try.prog w = .ok (.tuple #[]) (w.setCells g (k * 3) vs) := by
  obtain ⟨cur, hg, hcs, _⟩ := h.row
  have hz : ∀ W : World, (zeroValue 50).run Try.prog W = .ok (.agg #[.int .i64 0, .int .i64 0, .int .i64 0]) W := fun W => by kernel_rfl
  have hzz : ∀ v ∈ (Builtin.zeroCells (Value.agg #[.int .i64 0, .int .i64 0, .int .i64 0]).cells n).toList, v = .int .i64 0 := by
    intro v hv
    have hcl : (Value.agg #[Value.int IntKind.i64 0, Value.int IntKind.i64 0, Value.int IntKind.i64 0]).cells = #[.int .i64 0, .int .i64 0, .int .i64 0] := rfl
    rw [hcl] at hv
    simp only [Builtin.zeroCells, Array.toList_map, List.mem_map] at hv
    obtain ⟨i, _, rfl⟩ := hv
    have key : ∀ j, j < 3 → (#[Value.int IntKind.i64 0, Value.int IntKind.i64 0, Value.int IntKind.i64 0] : Array Value)[j]! = .int .i64 0 := by
      intro j hj
      rcases (by omega : j = 0 ∨ j = 1 ∨ j = 2) with rfl | rfl | rfl <;> rfl
    exact key _ (Nat.mod_lt _ (by decide))
  have hlen : (Builtin.zeroCells (Value.agg #[.int .i64 0, .int .i64 0, .int .i64 0]).cells n).toList.length = n * 3 := by
    have hcl : (Value.agg #[Value.int IntKind.i64 0, Value.int IntKind.i64 0, Value.int IntKind.i64 0]).cells = #[.int .i64 0, .int .i64 0, .int .i64 0] := rfl
    rw [hcl]
    simp [Builtin.zeroCells]
  generalize hvs : (Builtin.zeroCells (Value.agg #[.int .i64 0, .int .i64 0, .int .i64 0]).cells n).toList = vs at hzz hlen
  have hst := run_storeCells_cells (P := Try.prog) g (k * 3) vs 0 w
    (fun j hj => by
      rw [cell_of_row _ _ _ _ _ _ hg, Array.getElem?_eq_getElem (by omega)]
      rfl)
    (fun j hj => h.free _) (fun v hv => by rw [hzz v hv]; rfl)
  simp only [Nat.add_zero] at hst
  obtain ⟨m, rfl⟩ : ∃ m, n = m + 1 := ⟨n - 1, by omega⟩
  exact ⟨vs, fun ty => by simp [Builtin.clear_, run_underlying Try.underlying57, hz, hvs, hst]⟩
end Go.Proofs.Ytojecaeblgghjaa
