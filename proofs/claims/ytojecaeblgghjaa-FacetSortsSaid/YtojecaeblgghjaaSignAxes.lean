/-
  orient.Sign OF THE CORNER OF THE AXES at the four calls of facet.Seed. (Printed by mksign.py.)
-/
import Derived.Test.YtojecaeblgghjaaSignUnit
set_option linter.unusedVariables false
set_option linter.unusedSimpArgs false
namespace Go.Proofs.Ytojecaeblgghjaa
open Go.RowKit Go.Sort LsP

/-- The world under a letter, with what is known of it. -/
theorem with_world {P : Program} {c : Code} {Q : Exit → Act → World → Prop} {a : Act} {w : World} (S : World → Prop) (h : S w) (k : ∀ w', S w' → c.wp P Q a w') : c.wp P Q a w := k w h


/-- Four cells of one's own. -/
structure Four (w0 : World) (n : Nat) (a b c d : Int) (w : World) : Prop where
  c0 : w.cell? ⟨n, 0, none⟩ = some (.int .i64 a)
  c1 : w.cell? ⟨n, 1, none⟩ = some (.int .i64 b)
  c2 : w.cell? ⟨n, 2, none⟩ = some (.int .i64 c)
  c3 : w.cell? ⟨n, 3, none⟩ = some (.int .i64 d)
  f0 : w.frozen? ⟨n, 0, none⟩ = false
  f1 : w.frozen? ⟨n, 1, none⟩ = false
  f2 : w.frozen? ⟨n, 2, none⟩ = false
  f3 : w.frozen? ⟨n, 3, none⟩ = false
  bl : Below n w0 w
  lt : n < w.heap.size

/-- The four points' block under way. -/
structure P4 (w0 : World) (g : Nat) (cs : Array Value) (w : World) : Prop where
  row : w.heap[g]? = some (.cells cs 134 (0, 0))
  bl : Below w0.heap.size w0 w

theorem row12 {w : World} {b : Nat} {v0 v1 v2 v3 v4 v5 v6 v7 v8 v9 v10 v11 : Value} {t : TypeId} (h : w.heap[b]? = some (.cells #[v0, v1, v2, v3, v4, v5, v6, v7, v8, v9, v10, v11] t (0, 0))) :
    (w.cell? ⟨b, 0, none⟩ = some v0 ∧ w.cell? ⟨b, 1, none⟩ = some v1 ∧ w.cell? ⟨b, 2, none⟩ = some v2 ∧ w.cell? ⟨b, 3, none⟩ = some v3 ∧ w.cell? ⟨b, 4, none⟩ = some v4 ∧ w.cell? ⟨b, 5, none⟩ = some v5 ∧
    w.cell? ⟨b, 6, none⟩ = some v6 ∧ w.cell? ⟨b, 7, none⟩ = some v7 ∧ w.cell? ⟨b, 8, none⟩ = some v8 ∧ w.cell? ⟨b, 9, none⟩ = some v9 ∧ w.cell? ⟨b, 10, none⟩ = some v10 ∧ w.cell? ⟨b, 11, none⟩ = some v11) ∧
    ∀ j, w.frozen? ⟨b, j, none⟩ = false := by
  simp [World.cell?, World.frozen?, h]

theorem mayU0 (W : World) : Calls Try.prog 125 #[.agg #[.int .i64 0, .int .i64 0, .int .i64 0]] W fun e w' => e = .returned (.bool true) ∧ Below W.heap.size W w' := may_any 0 0 0 W
theorem mayU1 (W : World) : Calls Try.prog 125 #[.agg #[.int .i64 1, .int .i64 0, .int .i64 0]] W fun e w' => e = .returned (.bool true) ∧ Below W.heap.size W w' := may_any 1 0 0 W
theorem mayU2 (W : World) : Calls Try.prog 125 #[.agg #[.int .i64 0, .int .i64 1, .int .i64 0]] W fun e w' => e = .returned (.bool true) ∧ Below W.heap.size W w' := may_any 0 1 0 W
theorem mayU3 (W : World) : Calls Try.prog 125 #[.agg #[.int .i64 0, .int .i64 0, .int .i64 1]] W fun e w' => e = .returned (.bool true) ∧ Below W.heap.size W w' := may_any 0 0 1 W

set_option maxHeartbeats 40000000 in
set_option maxRecDepth 100000 in
theorem signAxes0 (b c : Nat) (w : World) (h : w.heap[b]? = some (.cells axes 109 (0, 0))) :
    Calls Try.prog 97 #[.slice (some ⟨b, 0, none⟩) 4 c, .int .i64 1, .int .i64 2, .int .i64 3, .int .i64 0] w fun e w' => e = .returned (.tuple #[.int .i64 (1), .int .i64 0]) ∧ Below w.heap.size w w' := by
  obtain ⟨k0, k1, k2, k3, k4, k5, k6, k7, k8, k9, k10, k11⟩ := axesRow h
  have hlt : b < w.heap.size := by
    rcases Nat.lt_or_ge b w.heap.size with h' | h'
    · exact h'
    · rw [Array.getElem?_eq_none h'] at h; cases h
  have H := Lib.hid h
  clear h
  have x0 : ∀ W : World, (Instr.index 133 (.agg #[.int .i64 1, .int .i64 2, .int .i64 3, .int .i64 0]) (.int .i64 0)).run Try.prog W = .ok (.int .i64 1) W := fun _ => by kernel_rfl
  have x1 : ∀ W : World, (Instr.index 133 (.agg #[.int .i64 1, .int .i64 2, .int .i64 3, .int .i64 0]) (.int .i64 1)).run Try.prog W = .ok (.int .i64 2) W := fun _ => by kernel_rfl
  have x2 : ∀ W : World, (Instr.index 133 (.agg #[.int .i64 1, .int .i64 2, .int .i64 3, .int .i64 0]) (.int .i64 2)).run Try.prog W = .ok (.int .i64 3) W := fun _ => by kernel_rfl
  have x3 : ∀ W : World, (Instr.index 133 (.agg #[.int .i64 1, .int .i64 2, .int .i64 3, .int .i64 0]) (.int .i64 3)).run Try.prog W = .ok (.int .i64 0) W := fun _ => by kernel_rfl
  have y0 : ∀ W : World, (Instr.index 133 (.agg #[.int .i64 0, .int .i64 1, .int .i64 2, .int .i64 3]) (.int .i64 0)).run Try.prog W = .ok (.int .i64 0) W := fun _ => by kernel_rfl
  have y1 : ∀ W : World, (Instr.index 133 (.agg #[.int .i64 0, .int .i64 1, .int .i64 2, .int .i64 3]) (.int .i64 1)).run Try.prog W = .ok (.int .i64 1) W := fun _ => by kernel_rfl
  have y2 : ∀ W : World, (Instr.index 133 (.agg #[.int .i64 0, .int .i64 1, .int .i64 2, .int .i64 3]) (.int .i64 2)).run Try.prog W = .ok (.int .i64 2) W := fun _ => by kernel_rfl
  have y3 : ∀ W : World, (Instr.index 133 (.agg #[.int .i64 0, .int .i64 1, .int .i64 2, .int .i64 3]) (.int .i64 3)).run Try.prog W = .ok (.int .i64 3) W := fun _ => by kernel_rfl
  go_enter Try.func97, Try.ntmps97
  go_wp2
  refine wp_loop_rounds 5 ?_
  rw [rounds_succ]
  go_wp2
  refine wp_loop_rounds 1 ?_
  rw [rounds_succ]
  go_wp2
  rw [rounds_succ]
  go_wp2
  refine wp_loop_rounds 2 ?_
  rw [rounds_succ]
  go_wp2
  rw [rounds_succ]
  go_wp2
  rw [rounds_succ]
  go_wp2
  refine wp_loop_rounds 3 ?_
  rw [rounds_succ]
  go_wp2
  rw [rounds_succ]
  go_wp2
  rw [rounds_succ]
  go_wp2
  rw [rounds_succ]
  go_wp2
  refine wp_loop_rounds 4 ?_
  rw [rounds_succ]
  go_wp2
  rw [rounds_succ]
  go_wp2
  rw [rounds_succ]
  go_wp2
  rw [rounds_succ]
  go_wp2
  rw [rounds_succ]
  go_wp2
  refine wp_loop_rounds 4 ?_
  rw [rounds_succ]
  go_wp2
  refine wp_loop_rounds 4 ?_
  rw [rounds_succ]
  go_wp2
  go_quiet (fail)
  go_wp2
  rw [rounds_succ]
  go_wp2
  go_quiet (fail)
  go_wp2
  rw [rounds_succ]
  go_wp2
  go_quiet (fail)
  go_wp2
  go_region
  go_wp2
  rw [rounds_succ]
  refine with_world (Four w w.heap.size 1 2 0 3) ⟨by simp [go_sem, *], by simp [go_sem, *], by simp [go_sem, *], by simp [go_sem, *], by simp [go_sem, *], by simp [go_sem, *], by simp [go_sem, *], by simp [go_sem, *], by (repeat (first | with_reducible assumption | exact Below.refl _ _ | refine below_drewN ?_ _ | refine Below.drew ?_ | refine Below.alloc ?_ (by first | omega | (simp; done) | (simp; omega)) _ | refine Below.setCell ?_ (by first | omega | (simp; done) | (simp; omega)) _)), by first | (simp [go_sem, *]; done) | (simp; omega)⟩ ?_
  rintro W ⟨c0, c1, c2, c3, f0, f1, f2, f3, bl, lt⟩
  go_wp2
  rw [rounds_succ]
  go_wp2
  refine wp_loop_rounds 4 ?_
  rw [rounds_succ]
  go_wp2
  go_quiet (fail)
  go_wp2
  rw [rounds_succ]
  go_wp2
  go_quiet (fail)
  go_wp2
  go_region
  go_wp2
  rw [rounds_succ]
  refine with_world (Four w w.heap.size 1 0 2 3) ⟨by simp [go_sem, *], by simp [go_sem, *], by simp [go_sem, *], by simp [go_sem, *], by simp [go_sem, *], by simp [go_sem, *], by simp [go_sem, *], by simp [go_sem, *], by (repeat (first | with_reducible assumption | exact Below.refl _ _ | refine below_drewN ?_ _ | refine Below.drew ?_ | refine Below.alloc ?_ (by first | omega | (simp; done) | (simp; omega)) _ | refine Below.setCell ?_ (by first | omega | (simp; done) | (simp; omega)) _)), by first | (simp [go_sem, *]; done) | (simp; omega)⟩ ?_
  rintro W ⟨c0, c1, c2, c3, f0, f1, f2, f3, bl, lt⟩
  go_wp2
  go_quiet (fail)
  go_wp2
  rw [rounds_succ]
  go_wp2
  rw [rounds_succ]
  go_wp2
  refine wp_loop_rounds 4 ?_
  rw [rounds_succ]
  go_wp2
  go_quiet (fail)
  go_wp2
  go_region
  go_wp2
  rw [rounds_succ]
  refine with_world (Four w w.heap.size 0 1 2 3) ⟨by simp [go_sem, *], by simp [go_sem, *], by simp [go_sem, *], by simp [go_sem, *], by simp [go_sem, *], by simp [go_sem, *], by simp [go_sem, *], by simp [go_sem, *], by (repeat (first | with_reducible assumption | exact Below.refl _ _ | refine below_drewN ?_ _ | refine Below.drew ?_ | refine Below.alloc ?_ (by first | omega | (simp; done) | (simp; omega)) _ | refine Below.setCell ?_ (by first | omega | (simp; done) | (simp; omega)) _)), by first | (simp [go_sem, *]; done) | (simp; omega)⟩ ?_
  rintro W ⟨c0, c1, c2, c3, f0, f1, f2, f3, bl, lt⟩
  go_wp2
  go_quiet (fail)
  go_wp2
  rw [rounds_succ]
  go_wp2
  go_quiet (fail)
  go_wp2
  rw [rounds_succ]
  go_wp2
  rw [rounds_succ]
  refine with_world (Four w w.heap.size 0 1 2 3) ⟨by simp [go_sem, *], by simp [go_sem, *], by simp [go_sem, *], by simp [go_sem, *], by simp [go_sem, *], by simp [go_sem, *], by simp [go_sem, *], by simp [go_sem, *], by (repeat (first | with_reducible assumption | exact Below.refl _ _ | refine below_drewN ?_ _ | refine Below.drew ?_ | refine Below.alloc ?_ (by first | omega | (simp; done) | (simp; omega)) _ | refine Below.setCell ?_ (by first | omega | (simp; done) | (simp; omega)) _)), by first | (simp [go_sem, *]; done) | (simp; omega)⟩ ?_
  clear k0 k1 k2 k3 k4 k5 k6 k7 k8 k9 k10 k11
  rintro W ⟨c0, c1, c2, c3, f0, f1, f2, f3, bl, lt⟩
  obtain ⟨k0, k1, k2, k3, k4, k5, k6, k7, k8, k9, k10, k11⟩ := axesRow ((bl.block b hlt).trans H.out)
  have hbW : b < W.heap.size := by omega
  go_wp2
  refine wp_loop_rounds 5 ?_
  rw [rounds_succ]
  refine with_world (P4 w W.heap.size #[.int .i64 0, .int .i64 0, .int .i64 0, .int .i64 0, .int .i64 0, .int .i64 0, .int .i64 0, .int .i64 0, .int .i64 0, .int .i64 0, .int .i64 0, .int .i64 0]) ⟨heap_alloc_new _ _, by (repeat (first | with_reducible assumption | exact Below.refl _ _ | refine below_drewN ?_ _ | refine Below.drew ?_ | refine Below.alloc ?_ (by first | omega | (simp; done) | (simp; omega)) _ | refine Below.setCell ?_ (by first | omega | (simp; done) | (simp; omega)) _))⟩ ?_
  clear k0 k1 k2 k3 k4 k5 k6 k7 k8 k9 k10 k11 c0 c1 c2 c3 f0 f1 f2 f3 bl
  rintro V ⟨r, bv⟩
  obtain ⟨k0, k1, k2, k3, k4, k5, k6, k7, k8, k9, k10, k11⟩ := axesRow ((bv.block b hlt).trans H.out)
  obtain ⟨⟨d0, d1, d2, d3, d4, d5, d6, d7, d8, d9, d10, d11⟩, ff⟩ := row12 r
  have lg := lt_of_block r
  go_wp2_with fail
  refine (mayU0 _).mono ?_
  rintro e V1 ⟨rfl, hb⟩
  have r1 := (hb.block W.heap.size lg).trans r
  have bv1 := below_up bv hb
  have lg1 := Nat.lt_of_lt_of_le lg hb.size
  clear k0 k1 k2 k3 k4 k5 k6 k7 k8 k9 k10 k11 d0 d1 d2 d3 d4 d5 d6 d7 d8 d9 d10 d11 ff r bv lg hb
  have r := r1
  have bv := bv1
  have lg := lg1
  clear r1 bv1 lg1
  obtain ⟨k0, k1, k2, k3, k4, k5, k6, k7, k8, k9, k10, k11⟩ := axesRow ((bv.block b hlt).trans H.out)
  obtain ⟨⟨d0, d1, d2, d3, d4, d5, d6, d7, d8, d9, d10, d11⟩, ff⟩ := row12 r
  go_wp2
  rw [rounds_succ]
  refine with_world (P4 w W.heap.size #[.int .i64 0, .int .i64 0, .int .i64 0, .int .i64 0, .int .i64 0, .int .i64 0, .int .i64 0, .int .i64 0, .int .i64 0, .int .i64 0, .int .i64 0, .int .i64 0]) ⟨by have := heap_setCell_same _ _ 2 _ _ (.int .i64 0) (heap_setCell_same _ _ 1 _ _ (.int .i64 0) (heap_setCell_same _ _ 0 _ _ (.int .i64 0) r)); simpa using this, by (repeat (first | with_reducible assumption | exact Below.refl _ _ | refine below_drewN ?_ _ | refine Below.drew ?_ | refine Below.alloc ?_ (by first | omega | (simp; done) | (simp; omega)) _ | refine Below.setCell ?_ (by first | omega | (simp; done) | (simp; omega)) _))⟩ ?_
  clear k0 k1 k2 k3 k4 k5 k6 k7 k8 k9 k10 k11 d0 d1 d2 d3 d4 d5 d6 d7 d8 d9 d10 d11 ff r bv lg
  rintro V ⟨r, bv⟩
  obtain ⟨k0, k1, k2, k3, k4, k5, k6, k7, k8, k9, k10, k11⟩ := axesRow ((bv.block b hlt).trans H.out)
  obtain ⟨⟨d0, d1, d2, d3, d4, d5, d6, d7, d8, d9, d10, d11⟩, ff⟩ := row12 r
  have lg := lt_of_block r
  go_wp2_with fail
  refine (mayU1 _).mono ?_
  rintro e V1 ⟨rfl, hb⟩
  have r1 := (hb.block W.heap.size lg).trans r
  have bv1 := below_up bv hb
  have lg1 := Nat.lt_of_lt_of_le lg hb.size
  clear k0 k1 k2 k3 k4 k5 k6 k7 k8 k9 k10 k11 d0 d1 d2 d3 d4 d5 d6 d7 d8 d9 d10 d11 ff r bv lg hb
  have r := r1
  have bv := bv1
  have lg := lg1
  clear r1 bv1 lg1
  obtain ⟨k0, k1, k2, k3, k4, k5, k6, k7, k8, k9, k10, k11⟩ := axesRow ((bv.block b hlt).trans H.out)
  obtain ⟨⟨d0, d1, d2, d3, d4, d5, d6, d7, d8, d9, d10, d11⟩, ff⟩ := row12 r
  go_wp2
  rw [rounds_succ]
  refine with_world (P4 w W.heap.size #[.int .i64 0, .int .i64 0, .int .i64 0, .int .i64 1, .int .i64 0, .int .i64 0, .int .i64 0, .int .i64 0, .int .i64 0, .int .i64 0, .int .i64 0, .int .i64 0]) ⟨by have := heap_setCell_same _ _ 5 _ _ (.int .i64 0) (heap_setCell_same _ _ 4 _ _ (.int .i64 0) (heap_setCell_same _ _ 3 _ _ (.int .i64 1) r)); simpa using this, by (repeat (first | with_reducible assumption | exact Below.refl _ _ | refine below_drewN ?_ _ | refine Below.drew ?_ | refine Below.alloc ?_ (by first | omega | (simp; done) | (simp; omega)) _ | refine Below.setCell ?_ (by first | omega | (simp; done) | (simp; omega)) _))⟩ ?_
  clear k0 k1 k2 k3 k4 k5 k6 k7 k8 k9 k10 k11 d0 d1 d2 d3 d4 d5 d6 d7 d8 d9 d10 d11 ff r bv lg
  rintro V ⟨r, bv⟩
  obtain ⟨k0, k1, k2, k3, k4, k5, k6, k7, k8, k9, k10, k11⟩ := axesRow ((bv.block b hlt).trans H.out)
  obtain ⟨⟨d0, d1, d2, d3, d4, d5, d6, d7, d8, d9, d10, d11⟩, ff⟩ := row12 r
  have lg := lt_of_block r
  go_wp2_with fail
  refine (mayU2 _).mono ?_
  rintro e V1 ⟨rfl, hb⟩
  have r1 := (hb.block W.heap.size lg).trans r
  have bv1 := below_up bv hb
  have lg1 := Nat.lt_of_lt_of_le lg hb.size
  clear k0 k1 k2 k3 k4 k5 k6 k7 k8 k9 k10 k11 d0 d1 d2 d3 d4 d5 d6 d7 d8 d9 d10 d11 ff r bv lg hb
  have r := r1
  have bv := bv1
  have lg := lg1
  clear r1 bv1 lg1
  obtain ⟨k0, k1, k2, k3, k4, k5, k6, k7, k8, k9, k10, k11⟩ := axesRow ((bv.block b hlt).trans H.out)
  obtain ⟨⟨d0, d1, d2, d3, d4, d5, d6, d7, d8, d9, d10, d11⟩, ff⟩ := row12 r
  go_wp2
  rw [rounds_succ]
  refine with_world (P4 w W.heap.size #[.int .i64 0, .int .i64 0, .int .i64 0, .int .i64 1, .int .i64 0, .int .i64 0, .int .i64 0, .int .i64 1, .int .i64 0, .int .i64 0, .int .i64 0, .int .i64 0]) ⟨by have := heap_setCell_same _ _ 8 _ _ (.int .i64 0) (heap_setCell_same _ _ 7 _ _ (.int .i64 1) (heap_setCell_same _ _ 6 _ _ (.int .i64 0) r)); simpa using this, by (repeat (first | with_reducible assumption | exact Below.refl _ _ | refine below_drewN ?_ _ | refine Below.drew ?_ | refine Below.alloc ?_ (by first | omega | (simp; done) | (simp; omega)) _ | refine Below.setCell ?_ (by first | omega | (simp; done) | (simp; omega)) _))⟩ ?_
  clear k0 k1 k2 k3 k4 k5 k6 k7 k8 k9 k10 k11 d0 d1 d2 d3 d4 d5 d6 d7 d8 d9 d10 d11 ff r bv lg
  rintro V ⟨r, bv⟩
  obtain ⟨k0, k1, k2, k3, k4, k5, k6, k7, k8, k9, k10, k11⟩ := axesRow ((bv.block b hlt).trans H.out)
  obtain ⟨⟨d0, d1, d2, d3, d4, d5, d6, d7, d8, d9, d10, d11⟩, ff⟩ := row12 r
  have lg := lt_of_block r
  go_wp2_with fail
  refine (mayU3 _).mono ?_
  rintro e V1 ⟨rfl, hb⟩
  have r1 := (hb.block W.heap.size lg).trans r
  have bv1 := below_up bv hb
  have lg1 := Nat.lt_of_lt_of_le lg hb.size
  clear k0 k1 k2 k3 k4 k5 k6 k7 k8 k9 k10 k11 d0 d1 d2 d3 d4 d5 d6 d7 d8 d9 d10 d11 ff r bv lg hb
  have r := r1
  have bv := bv1
  have lg := lg1
  clear r1 bv1 lg1
  obtain ⟨k0, k1, k2, k3, k4, k5, k6, k7, k8, k9, k10, k11⟩ := axesRow ((bv.block b hlt).trans H.out)
  obtain ⟨⟨d0, d1, d2, d3, d4, d5, d6, d7, d8, d9, d10, d11⟩, ff⟩ := row12 r
  go_wp2
  rw [rounds_succ]
  refine with_world (P4 w W.heap.size #[.int .i64 0, .int .i64 0, .int .i64 0, .int .i64 1, .int .i64 0, .int .i64 0, .int .i64 0, .int .i64 1, .int .i64 0, .int .i64 0, .int .i64 0, .int .i64 1]) ⟨by have := heap_setCell_same _ _ 11 _ _ (.int .i64 1) (heap_setCell_same _ _ 10 _ _ (.int .i64 0) (heap_setCell_same _ _ 9 _ _ (.int .i64 0) r)); simpa using this, by (repeat (first | with_reducible assumption | exact Below.refl _ _ | refine below_drewN ?_ _ | refine Below.drew ?_ | refine Below.alloc ?_ (by first | omega | (simp; done) | (simp; omega)) _ | refine Below.setCell ?_ (by first | omega | (simp; done) | (simp; omega)) _))⟩ ?_
  clear k0 k1 k2 k3 k4 k5 k6 k7 k8 k9 k10 k11 d0 d1 d2 d3 d4 d5 d6 d7 d8 d9 d10 d11 ff r bv lg
  rintro V ⟨r, bv⟩
  obtain ⟨k0, k1, k2, k3, k4, k5, k6, k7, k8, k9, k10, k11⟩ := axesRow ((bv.block b hlt).trans H.out)
  obtain ⟨⟨d0, d1, d2, d3, d4, d5, d6, d7, d8, d9, d10, d11⟩, ff⟩ := row12 r
  have lg := lt_of_block r
  go_wp2_with fail
  refine (signUnit_any _).mono ?_
  rintro e V1 ⟨rfl, hb⟩
  have bv1 := below_up bv hb
  clear k0 k1 k2 k3 k4 k5 k6 k7 k8 k9 k10 k11 d0 d1 d2 d3 d4 d5 d6 d7 d8 d9 d10 d11 ff r bv lg hb
  go_wp2
  go_ret2
  exact ⟨rfl, bv1⟩

set_option maxHeartbeats 40000000 in
set_option maxRecDepth 100000 in
theorem signAxes1 (b c : Nat) (w : World) (h : w.heap[b]? = some (.cells axes 109 (0, 0))) :
    Calls Try.prog 97 #[.slice (some ⟨b, 0, none⟩) 4 c, .int .i64 0, .int .i64 2, .int .i64 3, .int .i64 1] w fun e w' => e = .returned (.tuple #[.int .i64 (-1), .int .i64 0]) ∧ Below w.heap.size w w' := by
  obtain ⟨k0, k1, k2, k3, k4, k5, k6, k7, k8, k9, k10, k11⟩ := axesRow h
  have hlt : b < w.heap.size := by
    rcases Nat.lt_or_ge b w.heap.size with h' | h'
    · exact h'
    · rw [Array.getElem?_eq_none h'] at h; cases h
  have H := Lib.hid h
  clear h
  have x0 : ∀ W : World, (Instr.index 133 (.agg #[.int .i64 0, .int .i64 2, .int .i64 3, .int .i64 1]) (.int .i64 0)).run Try.prog W = .ok (.int .i64 0) W := fun _ => by kernel_rfl
  have x1 : ∀ W : World, (Instr.index 133 (.agg #[.int .i64 0, .int .i64 2, .int .i64 3, .int .i64 1]) (.int .i64 1)).run Try.prog W = .ok (.int .i64 2) W := fun _ => by kernel_rfl
  have x2 : ∀ W : World, (Instr.index 133 (.agg #[.int .i64 0, .int .i64 2, .int .i64 3, .int .i64 1]) (.int .i64 2)).run Try.prog W = .ok (.int .i64 3) W := fun _ => by kernel_rfl
  have x3 : ∀ W : World, (Instr.index 133 (.agg #[.int .i64 0, .int .i64 2, .int .i64 3, .int .i64 1]) (.int .i64 3)).run Try.prog W = .ok (.int .i64 1) W := fun _ => by kernel_rfl
  have y0 : ∀ W : World, (Instr.index 133 (.agg #[.int .i64 0, .int .i64 1, .int .i64 2, .int .i64 3]) (.int .i64 0)).run Try.prog W = .ok (.int .i64 0) W := fun _ => by kernel_rfl
  have y1 : ∀ W : World, (Instr.index 133 (.agg #[.int .i64 0, .int .i64 1, .int .i64 2, .int .i64 3]) (.int .i64 1)).run Try.prog W = .ok (.int .i64 1) W := fun _ => by kernel_rfl
  have y2 : ∀ W : World, (Instr.index 133 (.agg #[.int .i64 0, .int .i64 1, .int .i64 2, .int .i64 3]) (.int .i64 2)).run Try.prog W = .ok (.int .i64 2) W := fun _ => by kernel_rfl
  have y3 : ∀ W : World, (Instr.index 133 (.agg #[.int .i64 0, .int .i64 1, .int .i64 2, .int .i64 3]) (.int .i64 3)).run Try.prog W = .ok (.int .i64 3) W := fun _ => by kernel_rfl
  go_enter Try.func97, Try.ntmps97
  go_wp2
  refine wp_loop_rounds 5 ?_
  rw [rounds_succ]
  go_wp2
  refine wp_loop_rounds 1 ?_
  rw [rounds_succ]
  go_wp2
  rw [rounds_succ]
  go_wp2
  refine wp_loop_rounds 2 ?_
  rw [rounds_succ]
  go_wp2
  rw [rounds_succ]
  go_wp2
  rw [rounds_succ]
  go_wp2
  refine wp_loop_rounds 3 ?_
  rw [rounds_succ]
  go_wp2
  rw [rounds_succ]
  go_wp2
  rw [rounds_succ]
  go_wp2
  rw [rounds_succ]
  go_wp2
  refine wp_loop_rounds 4 ?_
  rw [rounds_succ]
  go_wp2
  rw [rounds_succ]
  go_wp2
  rw [rounds_succ]
  go_wp2
  rw [rounds_succ]
  go_wp2
  rw [rounds_succ]
  go_wp2
  refine wp_loop_rounds 4 ?_
  rw [rounds_succ]
  go_wp2
  refine wp_loop_rounds 4 ?_
  rw [rounds_succ]
  go_wp2
  go_quiet (fail)
  go_wp2
  rw [rounds_succ]
  go_wp2
  go_quiet (fail)
  go_wp2
  rw [rounds_succ]
  go_wp2
  go_quiet (fail)
  go_wp2
  go_region
  go_wp2
  rw [rounds_succ]
  refine with_world (Four w w.heap.size 0 2 1 3) ⟨by simp [go_sem, *], by simp [go_sem, *], by simp [go_sem, *], by simp [go_sem, *], by simp [go_sem, *], by simp [go_sem, *], by simp [go_sem, *], by simp [go_sem, *], by (repeat (first | with_reducible assumption | exact Below.refl _ _ | refine below_drewN ?_ _ | refine Below.drew ?_ | refine Below.alloc ?_ (by first | omega | (simp; done) | (simp; omega)) _ | refine Below.setCell ?_ (by first | omega | (simp; done) | (simp; omega)) _)), by first | (simp [go_sem, *]; done) | (simp; omega)⟩ ?_
  rintro W ⟨c0, c1, c2, c3, f0, f1, f2, f3, bl, lt⟩
  go_wp2
  rw [rounds_succ]
  go_wp2
  refine wp_loop_rounds 4 ?_
  rw [rounds_succ]
  go_wp2
  go_quiet (fail)
  go_wp2
  rw [rounds_succ]
  go_wp2
  go_quiet (fail)
  go_wp2
  go_region
  go_wp2
  rw [rounds_succ]
  refine with_world (Four w w.heap.size 0 1 2 3) ⟨by simp [go_sem, *], by simp [go_sem, *], by simp [go_sem, *], by simp [go_sem, *], by simp [go_sem, *], by simp [go_sem, *], by simp [go_sem, *], by simp [go_sem, *], by (repeat (first | with_reducible assumption | exact Below.refl _ _ | refine below_drewN ?_ _ | refine Below.drew ?_ | refine Below.alloc ?_ (by first | omega | (simp; done) | (simp; omega)) _ | refine Below.setCell ?_ (by first | omega | (simp; done) | (simp; omega)) _)), by first | (simp [go_sem, *]; done) | (simp; omega)⟩ ?_
  rintro W ⟨c0, c1, c2, c3, f0, f1, f2, f3, bl, lt⟩
  go_wp2
  go_quiet (fail)
  go_wp2
  rw [rounds_succ]
  go_wp2
  rw [rounds_succ]
  go_wp2
  refine wp_loop_rounds 4 ?_
  rw [rounds_succ]
  go_wp2
  go_quiet (fail)
  go_wp2
  rw [rounds_succ]
  go_wp2
  go_quiet (fail)
  go_wp2
  rw [rounds_succ]
  go_wp2
  go_quiet (fail)
  go_wp2
  rw [rounds_succ]
  go_wp2
  rw [rounds_succ]
  refine with_world (Four w w.heap.size 0 1 2 3) ⟨by simp [go_sem, *], by simp [go_sem, *], by simp [go_sem, *], by simp [go_sem, *], by simp [go_sem, *], by simp [go_sem, *], by simp [go_sem, *], by simp [go_sem, *], by (repeat (first | with_reducible assumption | exact Below.refl _ _ | refine below_drewN ?_ _ | refine Below.drew ?_ | refine Below.alloc ?_ (by first | omega | (simp; done) | (simp; omega)) _ | refine Below.setCell ?_ (by first | omega | (simp; done) | (simp; omega)) _)), by first | (simp [go_sem, *]; done) | (simp; omega)⟩ ?_
  clear k0 k1 k2 k3 k4 k5 k6 k7 k8 k9 k10 k11
  rintro W ⟨c0, c1, c2, c3, f0, f1, f2, f3, bl, lt⟩
  obtain ⟨k0, k1, k2, k3, k4, k5, k6, k7, k8, k9, k10, k11⟩ := axesRow ((bl.block b hlt).trans H.out)
  have hbW : b < W.heap.size := by omega
  go_wp2
  refine wp_loop_rounds 5 ?_
  rw [rounds_succ]
  refine with_world (P4 w W.heap.size #[.int .i64 0, .int .i64 0, .int .i64 0, .int .i64 0, .int .i64 0, .int .i64 0, .int .i64 0, .int .i64 0, .int .i64 0, .int .i64 0, .int .i64 0, .int .i64 0]) ⟨heap_alloc_new _ _, by (repeat (first | with_reducible assumption | exact Below.refl _ _ | refine below_drewN ?_ _ | refine Below.drew ?_ | refine Below.alloc ?_ (by first | omega | (simp; done) | (simp; omega)) _ | refine Below.setCell ?_ (by first | omega | (simp; done) | (simp; omega)) _))⟩ ?_
  clear k0 k1 k2 k3 k4 k5 k6 k7 k8 k9 k10 k11 c0 c1 c2 c3 f0 f1 f2 f3 bl
  rintro V ⟨r, bv⟩
  obtain ⟨k0, k1, k2, k3, k4, k5, k6, k7, k8, k9, k10, k11⟩ := axesRow ((bv.block b hlt).trans H.out)
  obtain ⟨⟨d0, d1, d2, d3, d4, d5, d6, d7, d8, d9, d10, d11⟩, ff⟩ := row12 r
  have lg := lt_of_block r
  go_wp2_with fail
  refine (mayU0 _).mono ?_
  rintro e V1 ⟨rfl, hb⟩
  have r1 := (hb.block W.heap.size lg).trans r
  have bv1 := below_up bv hb
  have lg1 := Nat.lt_of_lt_of_le lg hb.size
  clear k0 k1 k2 k3 k4 k5 k6 k7 k8 k9 k10 k11 d0 d1 d2 d3 d4 d5 d6 d7 d8 d9 d10 d11 ff r bv lg hb
  have r := r1
  have bv := bv1
  have lg := lg1
  clear r1 bv1 lg1
  obtain ⟨k0, k1, k2, k3, k4, k5, k6, k7, k8, k9, k10, k11⟩ := axesRow ((bv.block b hlt).trans H.out)
  obtain ⟨⟨d0, d1, d2, d3, d4, d5, d6, d7, d8, d9, d10, d11⟩, ff⟩ := row12 r
  go_wp2
  rw [rounds_succ]
  refine with_world (P4 w W.heap.size #[.int .i64 0, .int .i64 0, .int .i64 0, .int .i64 0, .int .i64 0, .int .i64 0, .int .i64 0, .int .i64 0, .int .i64 0, .int .i64 0, .int .i64 0, .int .i64 0]) ⟨by have := heap_setCell_same _ _ 2 _ _ (.int .i64 0) (heap_setCell_same _ _ 1 _ _ (.int .i64 0) (heap_setCell_same _ _ 0 _ _ (.int .i64 0) r)); simpa using this, by (repeat (first | with_reducible assumption | exact Below.refl _ _ | refine below_drewN ?_ _ | refine Below.drew ?_ | refine Below.alloc ?_ (by first | omega | (simp; done) | (simp; omega)) _ | refine Below.setCell ?_ (by first | omega | (simp; done) | (simp; omega)) _))⟩ ?_
  clear k0 k1 k2 k3 k4 k5 k6 k7 k8 k9 k10 k11 d0 d1 d2 d3 d4 d5 d6 d7 d8 d9 d10 d11 ff r bv lg
  rintro V ⟨r, bv⟩
  obtain ⟨k0, k1, k2, k3, k4, k5, k6, k7, k8, k9, k10, k11⟩ := axesRow ((bv.block b hlt).trans H.out)
  obtain ⟨⟨d0, d1, d2, d3, d4, d5, d6, d7, d8, d9, d10, d11⟩, ff⟩ := row12 r
  have lg := lt_of_block r
  go_wp2_with fail
  refine (mayU1 _).mono ?_
  rintro e V1 ⟨rfl, hb⟩
  have r1 := (hb.block W.heap.size lg).trans r
  have bv1 := below_up bv hb
  have lg1 := Nat.lt_of_lt_of_le lg hb.size
  clear k0 k1 k2 k3 k4 k5 k6 k7 k8 k9 k10 k11 d0 d1 d2 d3 d4 d5 d6 d7 d8 d9 d10 d11 ff r bv lg hb
  have r := r1
  have bv := bv1
  have lg := lg1
  clear r1 bv1 lg1
  obtain ⟨k0, k1, k2, k3, k4, k5, k6, k7, k8, k9, k10, k11⟩ := axesRow ((bv.block b hlt).trans H.out)
  obtain ⟨⟨d0, d1, d2, d3, d4, d5, d6, d7, d8, d9, d10, d11⟩, ff⟩ := row12 r
  go_wp2
  rw [rounds_succ]
  refine with_world (P4 w W.heap.size #[.int .i64 0, .int .i64 0, .int .i64 0, .int .i64 1, .int .i64 0, .int .i64 0, .int .i64 0, .int .i64 0, .int .i64 0, .int .i64 0, .int .i64 0, .int .i64 0]) ⟨by have := heap_setCell_same _ _ 5 _ _ (.int .i64 0) (heap_setCell_same _ _ 4 _ _ (.int .i64 0) (heap_setCell_same _ _ 3 _ _ (.int .i64 1) r)); simpa using this, by (repeat (first | with_reducible assumption | exact Below.refl _ _ | refine below_drewN ?_ _ | refine Below.drew ?_ | refine Below.alloc ?_ (by first | omega | (simp; done) | (simp; omega)) _ | refine Below.setCell ?_ (by first | omega | (simp; done) | (simp; omega)) _))⟩ ?_
  clear k0 k1 k2 k3 k4 k5 k6 k7 k8 k9 k10 k11 d0 d1 d2 d3 d4 d5 d6 d7 d8 d9 d10 d11 ff r bv lg
  rintro V ⟨r, bv⟩
  obtain ⟨k0, k1, k2, k3, k4, k5, k6, k7, k8, k9, k10, k11⟩ := axesRow ((bv.block b hlt).trans H.out)
  obtain ⟨⟨d0, d1, d2, d3, d4, d5, d6, d7, d8, d9, d10, d11⟩, ff⟩ := row12 r
  have lg := lt_of_block r
  go_wp2_with fail
  refine (mayU2 _).mono ?_
  rintro e V1 ⟨rfl, hb⟩
  have r1 := (hb.block W.heap.size lg).trans r
  have bv1 := below_up bv hb
  have lg1 := Nat.lt_of_lt_of_le lg hb.size
  clear k0 k1 k2 k3 k4 k5 k6 k7 k8 k9 k10 k11 d0 d1 d2 d3 d4 d5 d6 d7 d8 d9 d10 d11 ff r bv lg hb
  have r := r1
  have bv := bv1
  have lg := lg1
  clear r1 bv1 lg1
  obtain ⟨k0, k1, k2, k3, k4, k5, k6, k7, k8, k9, k10, k11⟩ := axesRow ((bv.block b hlt).trans H.out)
  obtain ⟨⟨d0, d1, d2, d3, d4, d5, d6, d7, d8, d9, d10, d11⟩, ff⟩ := row12 r
  go_wp2
  rw [rounds_succ]
  refine with_world (P4 w W.heap.size #[.int .i64 0, .int .i64 0, .int .i64 0, .int .i64 1, .int .i64 0, .int .i64 0, .int .i64 0, .int .i64 1, .int .i64 0, .int .i64 0, .int .i64 0, .int .i64 0]) ⟨by have := heap_setCell_same _ _ 8 _ _ (.int .i64 0) (heap_setCell_same _ _ 7 _ _ (.int .i64 1) (heap_setCell_same _ _ 6 _ _ (.int .i64 0) r)); simpa using this, by (repeat (first | with_reducible assumption | exact Below.refl _ _ | refine below_drewN ?_ _ | refine Below.drew ?_ | refine Below.alloc ?_ (by first | omega | (simp; done) | (simp; omega)) _ | refine Below.setCell ?_ (by first | omega | (simp; done) | (simp; omega)) _))⟩ ?_
  clear k0 k1 k2 k3 k4 k5 k6 k7 k8 k9 k10 k11 d0 d1 d2 d3 d4 d5 d6 d7 d8 d9 d10 d11 ff r bv lg
  rintro V ⟨r, bv⟩
  obtain ⟨k0, k1, k2, k3, k4, k5, k6, k7, k8, k9, k10, k11⟩ := axesRow ((bv.block b hlt).trans H.out)
  obtain ⟨⟨d0, d1, d2, d3, d4, d5, d6, d7, d8, d9, d10, d11⟩, ff⟩ := row12 r
  have lg := lt_of_block r
  go_wp2_with fail
  refine (mayU3 _).mono ?_
  rintro e V1 ⟨rfl, hb⟩
  have r1 := (hb.block W.heap.size lg).trans r
  have bv1 := below_up bv hb
  have lg1 := Nat.lt_of_lt_of_le lg hb.size
  clear k0 k1 k2 k3 k4 k5 k6 k7 k8 k9 k10 k11 d0 d1 d2 d3 d4 d5 d6 d7 d8 d9 d10 d11 ff r bv lg hb
  have r := r1
  have bv := bv1
  have lg := lg1
  clear r1 bv1 lg1
  obtain ⟨k0, k1, k2, k3, k4, k5, k6, k7, k8, k9, k10, k11⟩ := axesRow ((bv.block b hlt).trans H.out)
  obtain ⟨⟨d0, d1, d2, d3, d4, d5, d6, d7, d8, d9, d10, d11⟩, ff⟩ := row12 r
  go_wp2
  rw [rounds_succ]
  refine with_world (P4 w W.heap.size #[.int .i64 0, .int .i64 0, .int .i64 0, .int .i64 1, .int .i64 0, .int .i64 0, .int .i64 0, .int .i64 1, .int .i64 0, .int .i64 0, .int .i64 0, .int .i64 1]) ⟨by have := heap_setCell_same _ _ 11 _ _ (.int .i64 1) (heap_setCell_same _ _ 10 _ _ (.int .i64 0) (heap_setCell_same _ _ 9 _ _ (.int .i64 0) r)); simpa using this, by (repeat (first | with_reducible assumption | exact Below.refl _ _ | refine below_drewN ?_ _ | refine Below.drew ?_ | refine Below.alloc ?_ (by first | omega | (simp; done) | (simp; omega)) _ | refine Below.setCell ?_ (by first | omega | (simp; done) | (simp; omega)) _))⟩ ?_
  clear k0 k1 k2 k3 k4 k5 k6 k7 k8 k9 k10 k11 d0 d1 d2 d3 d4 d5 d6 d7 d8 d9 d10 d11 ff r bv lg
  rintro V ⟨r, bv⟩
  obtain ⟨k0, k1, k2, k3, k4, k5, k6, k7, k8, k9, k10, k11⟩ := axesRow ((bv.block b hlt).trans H.out)
  obtain ⟨⟨d0, d1, d2, d3, d4, d5, d6, d7, d8, d9, d10, d11⟩, ff⟩ := row12 r
  have lg := lt_of_block r
  go_wp2_with fail
  refine (signUnit_any _).mono ?_
  rintro e V1 ⟨rfl, hb⟩
  have bv1 := below_up bv hb
  clear k0 k1 k2 k3 k4 k5 k6 k7 k8 k9 k10 k11 d0 d1 d2 d3 d4 d5 d6 d7 d8 d9 d10 d11 ff r bv lg hb
  go_wp2
  go_ret2
  exact ⟨rfl, bv1⟩

set_option maxHeartbeats 40000000 in
set_option maxRecDepth 100000 in
theorem signAxes2 (b c : Nat) (w : World) (h : w.heap[b]? = some (.cells axes 109 (0, 0))) :
    Calls Try.prog 97 #[.slice (some ⟨b, 0, none⟩) 4 c, .int .i64 0, .int .i64 1, .int .i64 3, .int .i64 2] w fun e w' => e = .returned (.tuple #[.int .i64 (1), .int .i64 0]) ∧ Below w.heap.size w w' := by
  obtain ⟨k0, k1, k2, k3, k4, k5, k6, k7, k8, k9, k10, k11⟩ := axesRow h
  have hlt : b < w.heap.size := by
    rcases Nat.lt_or_ge b w.heap.size with h' | h'
    · exact h'
    · rw [Array.getElem?_eq_none h'] at h; cases h
  have H := Lib.hid h
  clear h
  have x0 : ∀ W : World, (Instr.index 133 (.agg #[.int .i64 0, .int .i64 1, .int .i64 3, .int .i64 2]) (.int .i64 0)).run Try.prog W = .ok (.int .i64 0) W := fun _ => by kernel_rfl
  have x1 : ∀ W : World, (Instr.index 133 (.agg #[.int .i64 0, .int .i64 1, .int .i64 3, .int .i64 2]) (.int .i64 1)).run Try.prog W = .ok (.int .i64 1) W := fun _ => by kernel_rfl
  have x2 : ∀ W : World, (Instr.index 133 (.agg #[.int .i64 0, .int .i64 1, .int .i64 3, .int .i64 2]) (.int .i64 2)).run Try.prog W = .ok (.int .i64 3) W := fun _ => by kernel_rfl
  have x3 : ∀ W : World, (Instr.index 133 (.agg #[.int .i64 0, .int .i64 1, .int .i64 3, .int .i64 2]) (.int .i64 3)).run Try.prog W = .ok (.int .i64 2) W := fun _ => by kernel_rfl
  have y0 : ∀ W : World, (Instr.index 133 (.agg #[.int .i64 0, .int .i64 1, .int .i64 2, .int .i64 3]) (.int .i64 0)).run Try.prog W = .ok (.int .i64 0) W := fun _ => by kernel_rfl
  have y1 : ∀ W : World, (Instr.index 133 (.agg #[.int .i64 0, .int .i64 1, .int .i64 2, .int .i64 3]) (.int .i64 1)).run Try.prog W = .ok (.int .i64 1) W := fun _ => by kernel_rfl
  have y2 : ∀ W : World, (Instr.index 133 (.agg #[.int .i64 0, .int .i64 1, .int .i64 2, .int .i64 3]) (.int .i64 2)).run Try.prog W = .ok (.int .i64 2) W := fun _ => by kernel_rfl
  have y3 : ∀ W : World, (Instr.index 133 (.agg #[.int .i64 0, .int .i64 1, .int .i64 2, .int .i64 3]) (.int .i64 3)).run Try.prog W = .ok (.int .i64 3) W := fun _ => by kernel_rfl
  go_enter Try.func97, Try.ntmps97
  go_wp2
  refine wp_loop_rounds 5 ?_
  rw [rounds_succ]
  go_wp2
  refine wp_loop_rounds 1 ?_
  rw [rounds_succ]
  go_wp2
  rw [rounds_succ]
  go_wp2
  refine wp_loop_rounds 2 ?_
  rw [rounds_succ]
  go_wp2
  rw [rounds_succ]
  go_wp2
  rw [rounds_succ]
  go_wp2
  refine wp_loop_rounds 3 ?_
  rw [rounds_succ]
  go_wp2
  rw [rounds_succ]
  go_wp2
  rw [rounds_succ]
  go_wp2
  rw [rounds_succ]
  go_wp2
  refine wp_loop_rounds 4 ?_
  rw [rounds_succ]
  go_wp2
  rw [rounds_succ]
  go_wp2
  rw [rounds_succ]
  go_wp2
  rw [rounds_succ]
  go_wp2
  rw [rounds_succ]
  go_wp2
  refine wp_loop_rounds 4 ?_
  rw [rounds_succ]
  go_wp2
  refine wp_loop_rounds 4 ?_
  rw [rounds_succ]
  go_wp2
  go_quiet (fail)
  go_wp2
  rw [rounds_succ]
  go_wp2
  go_quiet (fail)
  go_wp2
  rw [rounds_succ]
  go_wp2
  go_quiet (fail)
  go_wp2
  go_region
  go_wp2
  rw [rounds_succ]
  refine with_world (Four w w.heap.size 0 1 2 3) ⟨by simp [go_sem, *], by simp [go_sem, *], by simp [go_sem, *], by simp [go_sem, *], by simp [go_sem, *], by simp [go_sem, *], by simp [go_sem, *], by simp [go_sem, *], by (repeat (first | with_reducible assumption | exact Below.refl _ _ | refine below_drewN ?_ _ | refine Below.drew ?_ | refine Below.alloc ?_ (by first | omega | (simp; done) | (simp; omega)) _ | refine Below.setCell ?_ (by first | omega | (simp; done) | (simp; omega)) _)), by first | (simp [go_sem, *]; done) | (simp; omega)⟩ ?_
  rintro W ⟨c0, c1, c2, c3, f0, f1, f2, f3, bl, lt⟩
  go_wp2
  rw [rounds_succ]
  go_wp2
  refine wp_loop_rounds 4 ?_
  rw [rounds_succ]
  go_wp2
  go_quiet (fail)
  go_wp2
  rw [rounds_succ]
  go_wp2
  go_quiet (fail)
  go_wp2
  rw [rounds_succ]
  go_wp2
  go_quiet (fail)
  go_wp2
  rw [rounds_succ]
  go_wp2
  rw [rounds_succ]
  go_wp2
  refine wp_loop_rounds 4 ?_
  rw [rounds_succ]
  go_wp2
  go_quiet (fail)
  go_wp2
  rw [rounds_succ]
  go_wp2
  go_quiet (fail)
  go_wp2
  rw [rounds_succ]
  go_wp2
  go_quiet (fail)
  go_wp2
  rw [rounds_succ]
  go_wp2
  rw [rounds_succ]
  refine with_world (Four w w.heap.size 0 1 2 3) ⟨by simp [go_sem, *], by simp [go_sem, *], by simp [go_sem, *], by simp [go_sem, *], by simp [go_sem, *], by simp [go_sem, *], by simp [go_sem, *], by simp [go_sem, *], by (repeat (first | with_reducible assumption | exact Below.refl _ _ | refine below_drewN ?_ _ | refine Below.drew ?_ | refine Below.alloc ?_ (by first | omega | (simp; done) | (simp; omega)) _ | refine Below.setCell ?_ (by first | omega | (simp; done) | (simp; omega)) _)), by first | (simp [go_sem, *]; done) | (simp; omega)⟩ ?_
  clear k0 k1 k2 k3 k4 k5 k6 k7 k8 k9 k10 k11
  rintro W ⟨c0, c1, c2, c3, f0, f1, f2, f3, bl, lt⟩
  obtain ⟨k0, k1, k2, k3, k4, k5, k6, k7, k8, k9, k10, k11⟩ := axesRow ((bl.block b hlt).trans H.out)
  have hbW : b < W.heap.size := by omega
  go_wp2
  refine wp_loop_rounds 5 ?_
  rw [rounds_succ]
  refine with_world (P4 w W.heap.size #[.int .i64 0, .int .i64 0, .int .i64 0, .int .i64 0, .int .i64 0, .int .i64 0, .int .i64 0, .int .i64 0, .int .i64 0, .int .i64 0, .int .i64 0, .int .i64 0]) ⟨heap_alloc_new _ _, by (repeat (first | with_reducible assumption | exact Below.refl _ _ | refine below_drewN ?_ _ | refine Below.drew ?_ | refine Below.alloc ?_ (by first | omega | (simp; done) | (simp; omega)) _ | refine Below.setCell ?_ (by first | omega | (simp; done) | (simp; omega)) _))⟩ ?_
  clear k0 k1 k2 k3 k4 k5 k6 k7 k8 k9 k10 k11 c0 c1 c2 c3 f0 f1 f2 f3 bl
  rintro V ⟨r, bv⟩
  obtain ⟨k0, k1, k2, k3, k4, k5, k6, k7, k8, k9, k10, k11⟩ := axesRow ((bv.block b hlt).trans H.out)
  obtain ⟨⟨d0, d1, d2, d3, d4, d5, d6, d7, d8, d9, d10, d11⟩, ff⟩ := row12 r
  have lg := lt_of_block r
  go_wp2_with fail
  refine (mayU0 _).mono ?_
  rintro e V1 ⟨rfl, hb⟩
  have r1 := (hb.block W.heap.size lg).trans r
  have bv1 := below_up bv hb
  have lg1 := Nat.lt_of_lt_of_le lg hb.size
  clear k0 k1 k2 k3 k4 k5 k6 k7 k8 k9 k10 k11 d0 d1 d2 d3 d4 d5 d6 d7 d8 d9 d10 d11 ff r bv lg hb
  have r := r1
  have bv := bv1
  have lg := lg1
  clear r1 bv1 lg1
  obtain ⟨k0, k1, k2, k3, k4, k5, k6, k7, k8, k9, k10, k11⟩ := axesRow ((bv.block b hlt).trans H.out)
  obtain ⟨⟨d0, d1, d2, d3, d4, d5, d6, d7, d8, d9, d10, d11⟩, ff⟩ := row12 r
  go_wp2
  rw [rounds_succ]
  refine with_world (P4 w W.heap.size #[.int .i64 0, .int .i64 0, .int .i64 0, .int .i64 0, .int .i64 0, .int .i64 0, .int .i64 0, .int .i64 0, .int .i64 0, .int .i64 0, .int .i64 0, .int .i64 0]) ⟨by have := heap_setCell_same _ _ 2 _ _ (.int .i64 0) (heap_setCell_same _ _ 1 _ _ (.int .i64 0) (heap_setCell_same _ _ 0 _ _ (.int .i64 0) r)); simpa using this, by (repeat (first | with_reducible assumption | exact Below.refl _ _ | refine below_drewN ?_ _ | refine Below.drew ?_ | refine Below.alloc ?_ (by first | omega | (simp; done) | (simp; omega)) _ | refine Below.setCell ?_ (by first | omega | (simp; done) | (simp; omega)) _))⟩ ?_
  clear k0 k1 k2 k3 k4 k5 k6 k7 k8 k9 k10 k11 d0 d1 d2 d3 d4 d5 d6 d7 d8 d9 d10 d11 ff r bv lg
  rintro V ⟨r, bv⟩
  obtain ⟨k0, k1, k2, k3, k4, k5, k6, k7, k8, k9, k10, k11⟩ := axesRow ((bv.block b hlt).trans H.out)
  obtain ⟨⟨d0, d1, d2, d3, d4, d5, d6, d7, d8, d9, d10, d11⟩, ff⟩ := row12 r
  have lg := lt_of_block r
  go_wp2_with fail
  refine (mayU1 _).mono ?_
  rintro e V1 ⟨rfl, hb⟩
  have r1 := (hb.block W.heap.size lg).trans r
  have bv1 := below_up bv hb
  have lg1 := Nat.lt_of_lt_of_le lg hb.size
  clear k0 k1 k2 k3 k4 k5 k6 k7 k8 k9 k10 k11 d0 d1 d2 d3 d4 d5 d6 d7 d8 d9 d10 d11 ff r bv lg hb
  have r := r1
  have bv := bv1
  have lg := lg1
  clear r1 bv1 lg1
  obtain ⟨k0, k1, k2, k3, k4, k5, k6, k7, k8, k9, k10, k11⟩ := axesRow ((bv.block b hlt).trans H.out)
  obtain ⟨⟨d0, d1, d2, d3, d4, d5, d6, d7, d8, d9, d10, d11⟩, ff⟩ := row12 r
  go_wp2
  rw [rounds_succ]
  refine with_world (P4 w W.heap.size #[.int .i64 0, .int .i64 0, .int .i64 0, .int .i64 1, .int .i64 0, .int .i64 0, .int .i64 0, .int .i64 0, .int .i64 0, .int .i64 0, .int .i64 0, .int .i64 0]) ⟨by have := heap_setCell_same _ _ 5 _ _ (.int .i64 0) (heap_setCell_same _ _ 4 _ _ (.int .i64 0) (heap_setCell_same _ _ 3 _ _ (.int .i64 1) r)); simpa using this, by (repeat (first | with_reducible assumption | exact Below.refl _ _ | refine below_drewN ?_ _ | refine Below.drew ?_ | refine Below.alloc ?_ (by first | omega | (simp; done) | (simp; omega)) _ | refine Below.setCell ?_ (by first | omega | (simp; done) | (simp; omega)) _))⟩ ?_
  clear k0 k1 k2 k3 k4 k5 k6 k7 k8 k9 k10 k11 d0 d1 d2 d3 d4 d5 d6 d7 d8 d9 d10 d11 ff r bv lg
  rintro V ⟨r, bv⟩
  obtain ⟨k0, k1, k2, k3, k4, k5, k6, k7, k8, k9, k10, k11⟩ := axesRow ((bv.block b hlt).trans H.out)
  obtain ⟨⟨d0, d1, d2, d3, d4, d5, d6, d7, d8, d9, d10, d11⟩, ff⟩ := row12 r
  have lg := lt_of_block r
  go_wp2_with fail
  refine (mayU2 _).mono ?_
  rintro e V1 ⟨rfl, hb⟩
  have r1 := (hb.block W.heap.size lg).trans r
  have bv1 := below_up bv hb
  have lg1 := Nat.lt_of_lt_of_le lg hb.size
  clear k0 k1 k2 k3 k4 k5 k6 k7 k8 k9 k10 k11 d0 d1 d2 d3 d4 d5 d6 d7 d8 d9 d10 d11 ff r bv lg hb
  have r := r1
  have bv := bv1
  have lg := lg1
  clear r1 bv1 lg1
  obtain ⟨k0, k1, k2, k3, k4, k5, k6, k7, k8, k9, k10, k11⟩ := axesRow ((bv.block b hlt).trans H.out)
  obtain ⟨⟨d0, d1, d2, d3, d4, d5, d6, d7, d8, d9, d10, d11⟩, ff⟩ := row12 r
  go_wp2
  rw [rounds_succ]
  refine with_world (P4 w W.heap.size #[.int .i64 0, .int .i64 0, .int .i64 0, .int .i64 1, .int .i64 0, .int .i64 0, .int .i64 0, .int .i64 1, .int .i64 0, .int .i64 0, .int .i64 0, .int .i64 0]) ⟨by have := heap_setCell_same _ _ 8 _ _ (.int .i64 0) (heap_setCell_same _ _ 7 _ _ (.int .i64 1) (heap_setCell_same _ _ 6 _ _ (.int .i64 0) r)); simpa using this, by (repeat (first | with_reducible assumption | exact Below.refl _ _ | refine below_drewN ?_ _ | refine Below.drew ?_ | refine Below.alloc ?_ (by first | omega | (simp; done) | (simp; omega)) _ | refine Below.setCell ?_ (by first | omega | (simp; done) | (simp; omega)) _))⟩ ?_
  clear k0 k1 k2 k3 k4 k5 k6 k7 k8 k9 k10 k11 d0 d1 d2 d3 d4 d5 d6 d7 d8 d9 d10 d11 ff r bv lg
  rintro V ⟨r, bv⟩
  obtain ⟨k0, k1, k2, k3, k4, k5, k6, k7, k8, k9, k10, k11⟩ := axesRow ((bv.block b hlt).trans H.out)
  obtain ⟨⟨d0, d1, d2, d3, d4, d5, d6, d7, d8, d9, d10, d11⟩, ff⟩ := row12 r
  have lg := lt_of_block r
  go_wp2_with fail
  refine (mayU3 _).mono ?_
  rintro e V1 ⟨rfl, hb⟩
  have r1 := (hb.block W.heap.size lg).trans r
  have bv1 := below_up bv hb
  have lg1 := Nat.lt_of_lt_of_le lg hb.size
  clear k0 k1 k2 k3 k4 k5 k6 k7 k8 k9 k10 k11 d0 d1 d2 d3 d4 d5 d6 d7 d8 d9 d10 d11 ff r bv lg hb
  have r := r1
  have bv := bv1
  have lg := lg1
  clear r1 bv1 lg1
  obtain ⟨k0, k1, k2, k3, k4, k5, k6, k7, k8, k9, k10, k11⟩ := axesRow ((bv.block b hlt).trans H.out)
  obtain ⟨⟨d0, d1, d2, d3, d4, d5, d6, d7, d8, d9, d10, d11⟩, ff⟩ := row12 r
  go_wp2
  rw [rounds_succ]
  refine with_world (P4 w W.heap.size #[.int .i64 0, .int .i64 0, .int .i64 0, .int .i64 1, .int .i64 0, .int .i64 0, .int .i64 0, .int .i64 1, .int .i64 0, .int .i64 0, .int .i64 0, .int .i64 1]) ⟨by have := heap_setCell_same _ _ 11 _ _ (.int .i64 1) (heap_setCell_same _ _ 10 _ _ (.int .i64 0) (heap_setCell_same _ _ 9 _ _ (.int .i64 0) r)); simpa using this, by (repeat (first | with_reducible assumption | exact Below.refl _ _ | refine below_drewN ?_ _ | refine Below.drew ?_ | refine Below.alloc ?_ (by first | omega | (simp; done) | (simp; omega)) _ | refine Below.setCell ?_ (by first | omega | (simp; done) | (simp; omega)) _))⟩ ?_
  clear k0 k1 k2 k3 k4 k5 k6 k7 k8 k9 k10 k11 d0 d1 d2 d3 d4 d5 d6 d7 d8 d9 d10 d11 ff r bv lg
  rintro V ⟨r, bv⟩
  obtain ⟨k0, k1, k2, k3, k4, k5, k6, k7, k8, k9, k10, k11⟩ := axesRow ((bv.block b hlt).trans H.out)
  obtain ⟨⟨d0, d1, d2, d3, d4, d5, d6, d7, d8, d9, d10, d11⟩, ff⟩ := row12 r
  have lg := lt_of_block r
  go_wp2_with fail
  refine (signUnit_any _).mono ?_
  rintro e V1 ⟨rfl, hb⟩
  have bv1 := below_up bv hb
  clear k0 k1 k2 k3 k4 k5 k6 k7 k8 k9 k10 k11 d0 d1 d2 d3 d4 d5 d6 d7 d8 d9 d10 d11 ff r bv lg hb
  go_wp2
  go_ret2
  exact ⟨rfl, bv1⟩

set_option maxHeartbeats 40000000 in
set_option maxRecDepth 100000 in
theorem signAxes3 (b c : Nat) (w : World) (h : w.heap[b]? = some (.cells axes 109 (0, 0))) :
    Calls Try.prog 97 #[.slice (some ⟨b, 0, none⟩) 4 c, .int .i64 0, .int .i64 1, .int .i64 2, .int .i64 3] w fun e w' => e = .returned (.tuple #[.int .i64 (-1), .int .i64 0]) ∧ Below w.heap.size w w' := by
  obtain ⟨k0, k1, k2, k3, k4, k5, k6, k7, k8, k9, k10, k11⟩ := axesRow h
  have hlt : b < w.heap.size := by
    rcases Nat.lt_or_ge b w.heap.size with h' | h'
    · exact h'
    · rw [Array.getElem?_eq_none h'] at h; cases h
  have H := Lib.hid h
  clear h
  have x0 : ∀ W : World, (Instr.index 133 (.agg #[.int .i64 0, .int .i64 1, .int .i64 2, .int .i64 3]) (.int .i64 0)).run Try.prog W = .ok (.int .i64 0) W := fun _ => by kernel_rfl
  have x1 : ∀ W : World, (Instr.index 133 (.agg #[.int .i64 0, .int .i64 1, .int .i64 2, .int .i64 3]) (.int .i64 1)).run Try.prog W = .ok (.int .i64 1) W := fun _ => by kernel_rfl
  have x2 : ∀ W : World, (Instr.index 133 (.agg #[.int .i64 0, .int .i64 1, .int .i64 2, .int .i64 3]) (.int .i64 2)).run Try.prog W = .ok (.int .i64 2) W := fun _ => by kernel_rfl
  have x3 : ∀ W : World, (Instr.index 133 (.agg #[.int .i64 0, .int .i64 1, .int .i64 2, .int .i64 3]) (.int .i64 3)).run Try.prog W = .ok (.int .i64 3) W := fun _ => by kernel_rfl
  go_enter Try.func97, Try.ntmps97
  go_wp2
  refine wp_loop_rounds 5 ?_
  rw [rounds_succ]
  go_wp2
  refine wp_loop_rounds 1 ?_
  rw [rounds_succ]
  go_wp2
  rw [rounds_succ]
  go_wp2
  refine wp_loop_rounds 2 ?_
  rw [rounds_succ]
  go_wp2
  rw [rounds_succ]
  go_wp2
  rw [rounds_succ]
  go_wp2
  refine wp_loop_rounds 3 ?_
  rw [rounds_succ]
  go_wp2
  rw [rounds_succ]
  go_wp2
  rw [rounds_succ]
  go_wp2
  rw [rounds_succ]
  go_wp2
  refine wp_loop_rounds 4 ?_
  rw [rounds_succ]
  go_wp2
  rw [rounds_succ]
  go_wp2
  rw [rounds_succ]
  go_wp2
  rw [rounds_succ]
  go_wp2
  rw [rounds_succ]
  go_wp2
  refine wp_loop_rounds 4 ?_
  rw [rounds_succ]
  go_wp2
  refine wp_loop_rounds 4 ?_
  rw [rounds_succ]
  go_wp2
  go_quiet (fail)
  go_wp2
  rw [rounds_succ]
  go_wp2
  go_quiet (fail)
  go_wp2
  rw [rounds_succ]
  go_wp2
  go_quiet (fail)
  go_wp2
  rw [rounds_succ]
  go_wp2
  rw [rounds_succ]
  go_wp2
  refine wp_loop_rounds 4 ?_
  rw [rounds_succ]
  go_wp2
  go_quiet (fail)
  go_wp2
  rw [rounds_succ]
  go_wp2
  go_quiet (fail)
  go_wp2
  rw [rounds_succ]
  go_wp2
  go_quiet (fail)
  go_wp2
  rw [rounds_succ]
  go_wp2
  rw [rounds_succ]
  go_wp2
  refine wp_loop_rounds 4 ?_
  rw [rounds_succ]
  go_wp2
  go_quiet (fail)
  go_wp2
  rw [rounds_succ]
  go_wp2
  go_quiet (fail)
  go_wp2
  rw [rounds_succ]
  go_wp2
  go_quiet (fail)
  go_wp2
  rw [rounds_succ]
  go_wp2
  rw [rounds_succ]
  refine with_world (Four w w.heap.size 0 1 2 3) ⟨by simp [go_sem, *], by simp [go_sem, *], by simp [go_sem, *], by simp [go_sem, *], by simp [go_sem, *], by simp [go_sem, *], by simp [go_sem, *], by simp [go_sem, *], by (repeat (first | with_reducible assumption | exact Below.refl _ _ | refine below_drewN ?_ _ | refine Below.drew ?_ | refine Below.alloc ?_ (by first | omega | (simp; done) | (simp; omega)) _ | refine Below.setCell ?_ (by first | omega | (simp; done) | (simp; omega)) _)), by first | (simp [go_sem, *]; done) | (simp; omega)⟩ ?_
  clear k0 k1 k2 k3 k4 k5 k6 k7 k8 k9 k10 k11
  rintro W ⟨c0, c1, c2, c3, f0, f1, f2, f3, bl, lt⟩
  obtain ⟨k0, k1, k2, k3, k4, k5, k6, k7, k8, k9, k10, k11⟩ := axesRow ((bl.block b hlt).trans H.out)
  have hbW : b < W.heap.size := by omega
  go_wp2
  refine wp_loop_rounds 5 ?_
  rw [rounds_succ]
  refine with_world (P4 w W.heap.size #[.int .i64 0, .int .i64 0, .int .i64 0, .int .i64 0, .int .i64 0, .int .i64 0, .int .i64 0, .int .i64 0, .int .i64 0, .int .i64 0, .int .i64 0, .int .i64 0]) ⟨heap_alloc_new _ _, by (repeat (first | with_reducible assumption | exact Below.refl _ _ | refine below_drewN ?_ _ | refine Below.drew ?_ | refine Below.alloc ?_ (by first | omega | (simp; done) | (simp; omega)) _ | refine Below.setCell ?_ (by first | omega | (simp; done) | (simp; omega)) _))⟩ ?_
  clear k0 k1 k2 k3 k4 k5 k6 k7 k8 k9 k10 k11 c0 c1 c2 c3 f0 f1 f2 f3 bl
  rintro V ⟨r, bv⟩
  obtain ⟨k0, k1, k2, k3, k4, k5, k6, k7, k8, k9, k10, k11⟩ := axesRow ((bv.block b hlt).trans H.out)
  obtain ⟨⟨d0, d1, d2, d3, d4, d5, d6, d7, d8, d9, d10, d11⟩, ff⟩ := row12 r
  have lg := lt_of_block r
  go_wp2_with fail
  refine (mayU0 _).mono ?_
  rintro e V1 ⟨rfl, hb⟩
  have r1 := (hb.block W.heap.size lg).trans r
  have bv1 := below_up bv hb
  have lg1 := Nat.lt_of_lt_of_le lg hb.size
  clear k0 k1 k2 k3 k4 k5 k6 k7 k8 k9 k10 k11 d0 d1 d2 d3 d4 d5 d6 d7 d8 d9 d10 d11 ff r bv lg hb
  have r := r1
  have bv := bv1
  have lg := lg1
  clear r1 bv1 lg1
  obtain ⟨k0, k1, k2, k3, k4, k5, k6, k7, k8, k9, k10, k11⟩ := axesRow ((bv.block b hlt).trans H.out)
  obtain ⟨⟨d0, d1, d2, d3, d4, d5, d6, d7, d8, d9, d10, d11⟩, ff⟩ := row12 r
  go_wp2
  rw [rounds_succ]
  refine with_world (P4 w W.heap.size #[.int .i64 0, .int .i64 0, .int .i64 0, .int .i64 0, .int .i64 0, .int .i64 0, .int .i64 0, .int .i64 0, .int .i64 0, .int .i64 0, .int .i64 0, .int .i64 0]) ⟨by have := heap_setCell_same _ _ 2 _ _ (.int .i64 0) (heap_setCell_same _ _ 1 _ _ (.int .i64 0) (heap_setCell_same _ _ 0 _ _ (.int .i64 0) r)); simpa using this, by (repeat (first | with_reducible assumption | exact Below.refl _ _ | refine below_drewN ?_ _ | refine Below.drew ?_ | refine Below.alloc ?_ (by first | omega | (simp; done) | (simp; omega)) _ | refine Below.setCell ?_ (by first | omega | (simp; done) | (simp; omega)) _))⟩ ?_
  clear k0 k1 k2 k3 k4 k5 k6 k7 k8 k9 k10 k11 d0 d1 d2 d3 d4 d5 d6 d7 d8 d9 d10 d11 ff r bv lg
  rintro V ⟨r, bv⟩
  obtain ⟨k0, k1, k2, k3, k4, k5, k6, k7, k8, k9, k10, k11⟩ := axesRow ((bv.block b hlt).trans H.out)
  obtain ⟨⟨d0, d1, d2, d3, d4, d5, d6, d7, d8, d9, d10, d11⟩, ff⟩ := row12 r
  have lg := lt_of_block r
  go_wp2_with fail
  refine (mayU1 _).mono ?_
  rintro e V1 ⟨rfl, hb⟩
  have r1 := (hb.block W.heap.size lg).trans r
  have bv1 := below_up bv hb
  have lg1 := Nat.lt_of_lt_of_le lg hb.size
  clear k0 k1 k2 k3 k4 k5 k6 k7 k8 k9 k10 k11 d0 d1 d2 d3 d4 d5 d6 d7 d8 d9 d10 d11 ff r bv lg hb
  have r := r1
  have bv := bv1
  have lg := lg1
  clear r1 bv1 lg1
  obtain ⟨k0, k1, k2, k3, k4, k5, k6, k7, k8, k9, k10, k11⟩ := axesRow ((bv.block b hlt).trans H.out)
  obtain ⟨⟨d0, d1, d2, d3, d4, d5, d6, d7, d8, d9, d10, d11⟩, ff⟩ := row12 r
  go_wp2
  rw [rounds_succ]
  refine with_world (P4 w W.heap.size #[.int .i64 0, .int .i64 0, .int .i64 0, .int .i64 1, .int .i64 0, .int .i64 0, .int .i64 0, .int .i64 0, .int .i64 0, .int .i64 0, .int .i64 0, .int .i64 0]) ⟨by have := heap_setCell_same _ _ 5 _ _ (.int .i64 0) (heap_setCell_same _ _ 4 _ _ (.int .i64 0) (heap_setCell_same _ _ 3 _ _ (.int .i64 1) r)); simpa using this, by (repeat (first | with_reducible assumption | exact Below.refl _ _ | refine below_drewN ?_ _ | refine Below.drew ?_ | refine Below.alloc ?_ (by first | omega | (simp; done) | (simp; omega)) _ | refine Below.setCell ?_ (by first | omega | (simp; done) | (simp; omega)) _))⟩ ?_
  clear k0 k1 k2 k3 k4 k5 k6 k7 k8 k9 k10 k11 d0 d1 d2 d3 d4 d5 d6 d7 d8 d9 d10 d11 ff r bv lg
  rintro V ⟨r, bv⟩
  obtain ⟨k0, k1, k2, k3, k4, k5, k6, k7, k8, k9, k10, k11⟩ := axesRow ((bv.block b hlt).trans H.out)
  obtain ⟨⟨d0, d1, d2, d3, d4, d5, d6, d7, d8, d9, d10, d11⟩, ff⟩ := row12 r
  have lg := lt_of_block r
  go_wp2_with fail
  refine (mayU2 _).mono ?_
  rintro e V1 ⟨rfl, hb⟩
  have r1 := (hb.block W.heap.size lg).trans r
  have bv1 := below_up bv hb
  have lg1 := Nat.lt_of_lt_of_le lg hb.size
  clear k0 k1 k2 k3 k4 k5 k6 k7 k8 k9 k10 k11 d0 d1 d2 d3 d4 d5 d6 d7 d8 d9 d10 d11 ff r bv lg hb
  have r := r1
  have bv := bv1
  have lg := lg1
  clear r1 bv1 lg1
  obtain ⟨k0, k1, k2, k3, k4, k5, k6, k7, k8, k9, k10, k11⟩ := axesRow ((bv.block b hlt).trans H.out)
  obtain ⟨⟨d0, d1, d2, d3, d4, d5, d6, d7, d8, d9, d10, d11⟩, ff⟩ := row12 r
  go_wp2
  rw [rounds_succ]
  refine with_world (P4 w W.heap.size #[.int .i64 0, .int .i64 0, .int .i64 0, .int .i64 1, .int .i64 0, .int .i64 0, .int .i64 0, .int .i64 1, .int .i64 0, .int .i64 0, .int .i64 0, .int .i64 0]) ⟨by have := heap_setCell_same _ _ 8 _ _ (.int .i64 0) (heap_setCell_same _ _ 7 _ _ (.int .i64 1) (heap_setCell_same _ _ 6 _ _ (.int .i64 0) r)); simpa using this, by (repeat (first | with_reducible assumption | exact Below.refl _ _ | refine below_drewN ?_ _ | refine Below.drew ?_ | refine Below.alloc ?_ (by first | omega | (simp; done) | (simp; omega)) _ | refine Below.setCell ?_ (by first | omega | (simp; done) | (simp; omega)) _))⟩ ?_
  clear k0 k1 k2 k3 k4 k5 k6 k7 k8 k9 k10 k11 d0 d1 d2 d3 d4 d5 d6 d7 d8 d9 d10 d11 ff r bv lg
  rintro V ⟨r, bv⟩
  obtain ⟨k0, k1, k2, k3, k4, k5, k6, k7, k8, k9, k10, k11⟩ := axesRow ((bv.block b hlt).trans H.out)
  obtain ⟨⟨d0, d1, d2, d3, d4, d5, d6, d7, d8, d9, d10, d11⟩, ff⟩ := row12 r
  have lg := lt_of_block r
  go_wp2_with fail
  refine (mayU3 _).mono ?_
  rintro e V1 ⟨rfl, hb⟩
  have r1 := (hb.block W.heap.size lg).trans r
  have bv1 := below_up bv hb
  have lg1 := Nat.lt_of_lt_of_le lg hb.size
  clear k0 k1 k2 k3 k4 k5 k6 k7 k8 k9 k10 k11 d0 d1 d2 d3 d4 d5 d6 d7 d8 d9 d10 d11 ff r bv lg hb
  have r := r1
  have bv := bv1
  have lg := lg1
  clear r1 bv1 lg1
  obtain ⟨k0, k1, k2, k3, k4, k5, k6, k7, k8, k9, k10, k11⟩ := axesRow ((bv.block b hlt).trans H.out)
  obtain ⟨⟨d0, d1, d2, d3, d4, d5, d6, d7, d8, d9, d10, d11⟩, ff⟩ := row12 r
  go_wp2
  rw [rounds_succ]
  refine with_world (P4 w W.heap.size #[.int .i64 0, .int .i64 0, .int .i64 0, .int .i64 1, .int .i64 0, .int .i64 0, .int .i64 0, .int .i64 1, .int .i64 0, .int .i64 0, .int .i64 0, .int .i64 1]) ⟨by have := heap_setCell_same _ _ 11 _ _ (.int .i64 1) (heap_setCell_same _ _ 10 _ _ (.int .i64 0) (heap_setCell_same _ _ 9 _ _ (.int .i64 0) r)); simpa using this, by (repeat (first | with_reducible assumption | exact Below.refl _ _ | refine below_drewN ?_ _ | refine Below.drew ?_ | refine Below.alloc ?_ (by first | omega | (simp; done) | (simp; omega)) _ | refine Below.setCell ?_ (by first | omega | (simp; done) | (simp; omega)) _))⟩ ?_
  clear k0 k1 k2 k3 k4 k5 k6 k7 k8 k9 k10 k11 d0 d1 d2 d3 d4 d5 d6 d7 d8 d9 d10 d11 ff r bv lg
  rintro V ⟨r, bv⟩
  obtain ⟨k0, k1, k2, k3, k4, k5, k6, k7, k8, k9, k10, k11⟩ := axesRow ((bv.block b hlt).trans H.out)
  obtain ⟨⟨d0, d1, d2, d3, d4, d5, d6, d7, d8, d9, d10, d11⟩, ff⟩ := row12 r
  have lg := lt_of_block r
  go_wp2_with fail
  refine (signUnit_any _).mono ?_
  rintro e V1 ⟨rfl, hb⟩
  have bv1 := below_up bv hb
  clear k0 k1 k2 k3 k4 k5 k6 k7 k8 k9 k10 k11 d0 d1 d2 d3 d4 d5 d6 d7 d8 d9 d10 d11 ff r bv lg hb
  go_wp2
  go_ret2
  exact ⟨rfl, bv1⟩

end Go.Proofs.Ytojecaeblgghjaa
