/-
  CONTRACTS AT TRIPLES: Edges, of the program and of the document's answer.
-/
import Derived.Test.YtojecaeblgghjaaTri2
import Derived.Deep.RegionHeld3
set_option linter.unusedVariables false
set_option linter.unusedSimpArgs false
namespace Go.Proofs.Ytojecaeblgghjaa
open Go.RowKit Go.Sort LsP

/-- The lesser, the greater. -/
def lo2 (a b : Int) : Int := if b < a then b else a
def hi2 (a b : Int) : Int := if b < a then a else b

theorem row6 {w : World} {b : Nat} {v0 v1 v2 v3 v4 v5 : Value} {t : TypeId} (h : w.heap[b]? = some (.cells #[v0, v1, v2, v3, v4, v5] t (0, 0))) :
    w.cell? ⟨b, 0, none⟩ = some v0 ∧ w.cell? ⟨b, 1, none⟩ = some v1 ∧ w.cell? ⟨b, 2, none⟩ = some v2 ∧ w.cell? ⟨b, 3, none⟩ = some v3 ∧ w.cell? ⟨b, 4, none⟩ = some v4 ∧ w.cell? ⟨b, 5, none⟩ = some v5 ∧
    w.frozen? ⟨b, 0, none⟩ = false ∧ w.frozen? ⟨b, 1, none⟩ = false ∧ w.frozen? ⟨b, 2, none⟩ = false ∧ w.frozen? ⟨b, 3, none⟩ = false ∧ w.frozen? ⟨b, 4, none⟩ = false ∧ w.frozen? ⟨b, 5, none⟩ = false := by
  simp [World.cell?, World.frozen?, h]

/-- Of a block behind a call. -/
def Here (B : Nat) (W0 W : World) : Prop := Below B W0 W

theorem edgeS (a b : Int) (W : World) :
    Calls Try.prog 105 #[.int .i64 a, .int .i64 b] W fun e w' => ∃ x y, e = .returned (.agg #[.int .i64 x, .int .i64 y]) ∧ Hid (x = lo2 a b ∧ y = hi2 a b) ∧ Below W.heap.size W w' :=
  (edge_any a b W).mono fun e w' ⟨h1, h2⟩ => ⟨_, _, h1, ⟨rfl, rfl⟩, h2⟩

set_option maxHeartbeats 40000000 in
set_option maxRecDepth 100000 in
theorem edges_any (a b c : Int) (w : World) :
    Calls Try.prog 60 #[.agg #[.int .i64 a, .int .i64 b, .int .i64 c]] w fun e w' =>
      e = .returned (.agg #[.int .i64 (lo2 a b), .int .i64 (hi2 a b), .int .i64 (lo2 b c), .int .i64 (hi2 b c), .int .i64 (lo2 c a), .int .i64 (hi2 c a)]) ∧ Below w.heap.size w w' := by
  have r1 := new1 w (.cells #[.int .i64 a, .int .i64 b, .int .i64 c] 50) (.cells #[.int .i64 0, .int .i64 0, .int .i64 0, .int .i64 0, .int .i64 0, .int .i64 0] 72)
  have r0 : ((w.alloc (.cells #[.int .i64 a, .int .i64 b, .int .i64 c] 50)).alloc (.cells #[.int .i64 0, .int .i64 0, .int .i64 0, .int .i64 0, .int .i64 0, .int .i64 0] 72)).heap[w.heap.size]? = some (.cells #[.int .i64 a, .int .i64 b, .int .i64 c] 50 (0, 0)) :=
    (Below.heap_alloc _ _ _ (by simp)).trans (heap_alloc_new w _)
  have hb : Below w.heap.size w ((w.alloc (.cells #[.int .i64 a, .int .i64 b, .int .i64 c] 50)).alloc (.cells #[.int .i64 0, .int .i64 0, .int .i64 0, .int .i64 0, .int .i64 0, .int .i64 0] 72)) :=
    ((Below.refl w.heap.size w).alloc (Nat.le_refl _) _).alloc (by simp) _
  have hs : ((w.alloc (.cells #[.int .i64 a, .int .i64 b, .int .i64 c] 50)).alloc (.cells #[.int .i64 0, .int .i64 0, .int .i64 0, .int .i64 0, .int .i64 0, .int .i64 0] 72)).heap.size = w.heap.size + 2 := by simp
  go_enter Try.func60, Try.ntmps60
  go_wp2_with fail
  generalize (w.alloc (.cells #[.int .i64 a, .int .i64 b, .int .i64 c] 50)).alloc (.cells #[.int .i64 0, .int .i64 0, .int .i64 0, .int .i64 0, .int .i64 0, .int .i64 0] 72) = W0 at *
  have r0' : W0.drew.heap[w.heap.size]? = some (.cells #[.int .i64 a, .int .i64 b, .int .i64 c] 50 (0, 0)) := r0
  have k3 : W0.drew.heap[w.heap.size + 1]? = some (.cells #[.int .i64 0, .int .i64 0, .int .i64 0, .int .i64 0, .int .i64 0, .int .i64 0] 72 (0, 0)) := r1
  obtain ⟨k0, k1, k2, _⟩ := row3 r0'
  have sz : w.heap.size + 2 ≤ W0.drew.heap.size := by show _ ≤ W0.heap.size; omega
  have bb := Below.drew hb
  clear r0 r1 r0' hs hb
  have acc : Hid True := trivial
  go_region_held3 (fun w' => w'.cell? ⟨w.heap.size, 0, none⟩ = some (.int .i64 a) ∧ w'.cell? ⟨w.heap.size, 1, none⟩ = some (.int .i64 b) ∧ w'.cell? ⟨w.heap.size, 2, none⟩ = some (.int .i64 c) ∧ Below w.heap.size w w')
    (first
      | with_reducible exact ⟨k0, k1, k2, bb⟩
      | (refine ⟨?_, ?_, ?_, ?_⟩
         · simpa [World.cell?_setCell_far] using k0
         · simpa [World.cell?_setCell_far] using k1
         · simpa [World.cell?_setCell_far] using k2
         · repeat (first | with_reducible exact bb | refine Below.setCell ?_ (Nat.le_succ _) _)))
    (first
      | (go_at_call 105
         refine (edgeS _ _ _).mono ?_
         rintro e w1 ⟨x, y, rfl, hxy, hb1⟩
         have acc := Lib.hid (And.intro acc.out hxy.out)
         have k0 := (hb1.cell (p := ⟨w.heap.size, 0, none⟩) (Nat.lt_of_lt_of_le (by show w.heap.size < w.heap.size + 2; omega) sz)).trans k0
         have k1 := (hb1.cell (p := ⟨w.heap.size, 1, none⟩) (Nat.lt_of_lt_of_le (by show w.heap.size < w.heap.size + 2; omega) sz)).trans k1
         have k2 := (hb1.cell (p := ⟨w.heap.size, 2, none⟩) (Nat.lt_of_lt_of_le (by show w.heap.size < w.heap.size + 2; omega) sz)).trans k2
         have k3 := (hb1.block (w.heap.size + 1) (Nat.lt_of_lt_of_le (by omega) sz)).trans k3
         have bb := below_up bb hb1
         have sz := Nat.le_trans sz hb1.size
         obtain ⟨l0, l1, l2, l3, l4, l5, f0, f1, f2, f3, f4, f5⟩ := row6 k3))
  obtain ⟨⟨⟨_, rfl, rfl⟩, rfl, rfl⟩, rfl, rfl⟩ := acc.out
  go_wp2
  exact bodyPost_ret (v := .agg #[.int .i64 (lo2 a b), .int .i64 (hi2 a b), .int .i64 (lo2 b c), .int .i64 (hi2 b c), .int .i64 (lo2 c a), .int .i64 (hi2 c a)]) (by simp [results, Try.results60, go_sem, l0, l1, l2, l3, l4, l5]) rfl
    ⟨rfl, by repeat (first | with_reducible exact bb | refine Below.setCell ?_ (Nat.le_succ _) _)⟩
theorem refEdgeS (a b : Int) (W : World) :
    Calls Try.prog 106 #[.int .i64 a, .int .i64 b] W fun e w' => ∃ x y, e = .returned (.agg #[.int .i64 x, .int .i64 y]) ∧ Hid (x = lo2 a b ∧ y = hi2 a b) ∧ Below W.heap.size W w' :=
  (refEdge_any a b W).mono fun e w' ⟨h1, h2⟩ => ⟨_, _, h1, ⟨rfl, rfl⟩, h2⟩

set_option maxHeartbeats 40000000 in
set_option maxRecDepth 100000 in
theorem refEdges_any (a b c : Int) (w : World) :
    Calls Try.prog 61 #[.agg #[.int .i64 a, .int .i64 b, .int .i64 c]] w fun e w' => ∃ g,
      e = .returned (.slice (some ⟨g, 0, none⟩) 3 3) ∧ w'.heap[g]? = some (.cells #[.int .i64 (lo2 a b), .int .i64 (hi2 a b), .int .i64 (lo2 b c), .int .i64 (hi2 b c), .int .i64 (lo2 c a), .int .i64 (hi2 c a)] 71 (0, 0)) ∧ w.heap.size ≤ g ∧ Below w.heap.size w w' := by
  have r0 := heap_alloc_new w (.cells #[.int .i64 a, .int .i64 b, .int .i64 c] 50)
  have hb : Below w.heap.size w (w.alloc (.cells #[.int .i64 a, .int .i64 b, .int .i64 c] 50)) := (Below.refl w.heap.size w).alloc (Nat.le_refl _) _
  have hs : (w.alloc (.cells #[.int .i64 a, .int .i64 b, .int .i64 c] 50)).heap.size = w.heap.size + 1 := by simp
  go_enter Try.func61, Try.ntmps61
  go_wp2_with fail
  generalize w.alloc (.cells #[.int .i64 a, .int .i64 b, .int .i64 c] 50) = W0 at *
  have r0' : W0.drew.heap[w.heap.size]? = some (.cells #[.int .i64 a, .int .i64 b, .int .i64 c] 50 (0, 0)) := r0
  obtain ⟨k0, k1, k2, _⟩ := row3 r0'
  have sz : w.heap.size + 1 ≤ W0.drew.heap.size := by show _ ≤ W0.heap.size; omega
  have bb := Below.drew hb
  clear r0 r0' hs hb
  have acc : Hid True := trivial
  go_region_held3 (fun w' => w'.cell? ⟨w.heap.size, 0, none⟩ = some (.int .i64 a) ∧ w'.cell? ⟨w.heap.size, 1, none⟩ = some (.int .i64 b) ∧ w'.cell? ⟨w.heap.size, 2, none⟩ = some (.int .i64 c) ∧ Below w.heap.size w w')
    (first
      | with_reducible exact ⟨k0, k1, k2, bb⟩
      | with_reducible exact ⟨(((Below.refl _ _).alloc (Nat.le_refl _) _).cell (Nat.lt_of_lt_of_le (Nat.lt_succ_self w.heap.size) sz)).trans k0, (((Below.refl _ _).alloc (Nat.le_refl _) _).cell (Nat.lt_of_lt_of_le (Nat.lt_succ_self w.heap.size) sz)).trans k1, (((Below.refl _ _).alloc (Nat.le_refl _) _).cell (Nat.lt_of_lt_of_le (Nat.lt_succ_self w.heap.size) sz)).trans k2, bb.alloc bb.size _⟩)
    (first
      | (go_at_call 106
         refine (refEdgeS _ _ _).mono ?_
         rintro e w1 ⟨x, y, rfl, hxy, hb1⟩
         have acc := Lib.hid (And.intro acc.out hxy.out)
         have k0 := (hb1.cell (p := ⟨w.heap.size, 0, none⟩) (Nat.lt_of_lt_of_le (by show w.heap.size < w.heap.size + 1; omega) sz)).trans k0
         have k1 := (hb1.cell (p := ⟨w.heap.size, 1, none⟩) (Nat.lt_of_lt_of_le (by show w.heap.size < w.heap.size + 1; omega) sz)).trans k1
         have k2 := (hb1.cell (p := ⟨w.heap.size, 2, none⟩) (Nat.lt_of_lt_of_le (by show w.heap.size < w.heap.size + 1; omega) sz)).trans k2
         have bb := below_up bb hb1
         have sz := Nat.le_trans sz hb1.size))
  obtain ⟨⟨⟨_, rfl, rfl⟩, rfl, rfl⟩, rfl, rfl⟩ := acc.out
  go_wp2
  go_ret
  exact ⟨_, rfl, heap_alloc_new w1 _, bb.size, bb.alloc bb.size _⟩
end Go.Proofs.Ytojecaeblgghjaa
