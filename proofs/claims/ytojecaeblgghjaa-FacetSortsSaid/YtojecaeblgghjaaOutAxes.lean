/-
  facet.Outward OF THE CORNER OF THE AXES at the four calls of facet.Seed. (Printed by mkout.py.)
-/
import Derived.Test.YtojecaeblgghjaaSignAxes
set_option linter.unusedVariables false
set_option linter.unusedSimpArgs false
namespace Go.Proofs.Ytojecaeblgghjaa
open Go.RowKit Go.Sort LsP

theorem outU0 (W : World) : Calls Try.prog 53 #[.agg #[.int .i64 1, .int .i64 2, .int .i64 3]] W fun e w' => e = .returned (.agg #[.int .i64 1, .int .i64 2, .int .i64 3]) ∧ Below W.heap.size W w' := by
  have := canon_any 1 2 3 W
  rwa [show canon ⟨1, 2, 3⟩ = ⟨1, 2, 3⟩ by decide] at this

set_option maxHeartbeats 4000000 in
set_option maxRecDepth 100000 in
theorem outAxes0 (b c : Nat) (w : World) (h : w.heap[b]? = some (.cells axes 109 (0, 0))) :
    Calls Try.prog 48 #[.slice (some ⟨b, 0, none⟩) 4 c, .int .i64 1, .int .i64 2, .int .i64 3] w fun e w' => e = .returned (.tuple #[.agg #[.int .i64 1, .int .i64 2, .int .i64 3], .int .i64 0]) ∧ Below w.heap.size w w' := by
  have h0 : (w.alloc (.cells #[.int .i64 0, .int .i64 0, .int .i64 0] 50)).heap[b]? = some (.cells axes 109 (0, 0)) := (Below.heap_alloc w _ b (lt_of_block h)).trans h
  have r0 := heap_alloc_new w (.cells #[.int .i64 0, .int .i64 0, .int .i64 0] 50)
  have bb : Below w.heap.size w (w.alloc (.cells #[.int .i64 0, .int .i64 0, .int .i64 0] 50)) := by (repeat (first | exact Below.refl _ _ | refine Below.alloc ?_ (by first | omega | (simp; done) | (simp; omega)) _ | refine Below.setCell ?_ (by first | omega | (simp; done) | (simp; omega)) _ | refine Below.drew ?_))
  clear h
  go_enter Try.func48, Try.ntmps48
  go_wp2
  refine wp_loop_rounds 1 ?_
  rw [rounds_succ]
  go_wp2_with fail
  refine (signAxes0 b c _ h0).mono ?_
  rintro e w1 ⟨rfl, hb1⟩
  have h1 := (hb1.block w.heap.size (by simp)).trans r0
  have bb1 := below_up bb hb1
  have lt1 := lt_of_block h1
  clear hb1 h0 r0 bb
  go_wp2_with fail
  refine (outU0 _).mono ?_
  rintro e w2 ⟨rfl, hb2⟩
  have h2 := (hb2.block w.heap.size lt1).trans h1
  have bb2 := below_up bb1 hb2
  obtain ⟨d0, d1, d2, e0, e1, e2⟩ := row3 h2
  clear hb2 h1 h2 bb1 lt1
  go_wp2
  exact bodyPost_ret (v := .tuple #[.agg #[.int .i64 1, .int .i64 2, .int .i64 3], .int .i64 0]) (by simp [results, Try.results48, go_sem, d0, d1, d2]) rfl ⟨rfl, by (repeat (first | with_reducible assumption | exact Below.refl _ _ | refine below_drewN ?_ _ | refine Below.drew ?_ | refine Below.alloc ?_ (by first | omega | (simp; done) | (simp; omega)) _ | refine Below.setCell ?_ (by first | omega | (simp; done) | (simp; omega)) _))⟩

theorem outU1 (W : World) : Calls Try.prog 54 #[.agg #[.int .i64 0, .int .i64 2, .int .i64 3]] W fun e w' => e = .returned (.agg #[.int .i64 0, .int .i64 3, .int .i64 2]) ∧ Below W.heap.size W w' := by
  have := turn_any 0 2 3 W
  rwa [show canon ⟨0, 3, 2⟩ = ⟨0, 3, 2⟩ by decide] at this

set_option maxHeartbeats 4000000 in
set_option maxRecDepth 100000 in
theorem outAxes1 (b c : Nat) (w : World) (h : w.heap[b]? = some (.cells axes 109 (0, 0))) :
    Calls Try.prog 48 #[.slice (some ⟨b, 0, none⟩) 4 c, .int .i64 0, .int .i64 2, .int .i64 3] w fun e w' => e = .returned (.tuple #[.agg #[.int .i64 0, .int .i64 3, .int .i64 2], .int .i64 0]) ∧ Below w.heap.size w w' := by
  have h0 : (w.alloc (.cells #[.int .i64 0, .int .i64 0, .int .i64 0] 50)).heap[b]? = some (.cells axes 109 (0, 0)) := (Below.heap_alloc w _ b (lt_of_block h)).trans h
  have r0 := heap_alloc_new w (.cells #[.int .i64 0, .int .i64 0, .int .i64 0] 50)
  have bb : Below w.heap.size w (w.alloc (.cells #[.int .i64 0, .int .i64 0, .int .i64 0] 50)) := by (repeat (first | exact Below.refl _ _ | refine Below.alloc ?_ (by first | omega | (simp; done) | (simp; omega)) _ | refine Below.setCell ?_ (by first | omega | (simp; done) | (simp; omega)) _ | refine Below.drew ?_))
  clear h
  go_enter Try.func48, Try.ntmps48
  go_wp2
  refine wp_loop_rounds 2 ?_
  rw [rounds_succ]
  go_wp2_with fail
  rw [rounds_succ]
  go_wp2_with fail
  refine (signAxes1 b c _ h0).mono ?_
  rintro e w1 ⟨rfl, hb1⟩
  have h1 := (hb1.block w.heap.size (by simp)).trans r0
  have bb1 := below_up bb hb1
  have lt1 := lt_of_block h1
  clear hb1 h0 r0 bb
  go_wp2_with fail
  refine (outU1 _).mono ?_
  rintro e w2 ⟨rfl, hb2⟩
  have h2 := (hb2.block w.heap.size lt1).trans h1
  have bb2 := below_up bb1 hb2
  obtain ⟨d0, d1, d2, e0, e1, e2⟩ := row3 h2
  clear hb2 h1 h2 bb1 lt1
  go_wp2
  exact bodyPost_ret (v := .tuple #[.agg #[.int .i64 0, .int .i64 3, .int .i64 2], .int .i64 0]) (by simp [results, Try.results48, go_sem, d0, d1, d2]) rfl ⟨rfl, by (repeat (first | with_reducible assumption | exact Below.refl _ _ | refine below_drewN ?_ _ | refine Below.drew ?_ | refine Below.alloc ?_ (by first | omega | (simp; done) | (simp; omega)) _ | refine Below.setCell ?_ (by first | omega | (simp; done) | (simp; omega)) _))⟩

theorem outU2 (W : World) : Calls Try.prog 53 #[.agg #[.int .i64 0, .int .i64 1, .int .i64 3]] W fun e w' => e = .returned (.agg #[.int .i64 0, .int .i64 1, .int .i64 3]) ∧ Below W.heap.size W w' := by
  have := canon_any 0 1 3 W
  rwa [show canon ⟨0, 1, 3⟩ = ⟨0, 1, 3⟩ by decide] at this

set_option maxHeartbeats 4000000 in
set_option maxRecDepth 100000 in
theorem outAxes2 (b c : Nat) (w : World) (h : w.heap[b]? = some (.cells axes 109 (0, 0))) :
    Calls Try.prog 48 #[.slice (some ⟨b, 0, none⟩) 4 c, .int .i64 0, .int .i64 1, .int .i64 3] w fun e w' => e = .returned (.tuple #[.agg #[.int .i64 0, .int .i64 1, .int .i64 3], .int .i64 0]) ∧ Below w.heap.size w w' := by
  have h0 : (w.alloc (.cells #[.int .i64 0, .int .i64 0, .int .i64 0] 50)).heap[b]? = some (.cells axes 109 (0, 0)) := (Below.heap_alloc w _ b (lt_of_block h)).trans h
  have r0 := heap_alloc_new w (.cells #[.int .i64 0, .int .i64 0, .int .i64 0] 50)
  have bb : Below w.heap.size w (w.alloc (.cells #[.int .i64 0, .int .i64 0, .int .i64 0] 50)) := by (repeat (first | exact Below.refl _ _ | refine Below.alloc ?_ (by first | omega | (simp; done) | (simp; omega)) _ | refine Below.setCell ?_ (by first | omega | (simp; done) | (simp; omega)) _ | refine Below.drew ?_))
  clear h
  go_enter Try.func48, Try.ntmps48
  go_wp2
  refine wp_loop_rounds 3 ?_
  rw [rounds_succ]
  go_wp2_with fail
  rw [rounds_succ]
  go_wp2_with fail
  rw [rounds_succ]
  go_wp2_with fail
  refine (signAxes2 b c _ h0).mono ?_
  rintro e w1 ⟨rfl, hb1⟩
  have h1 := (hb1.block w.heap.size (by simp)).trans r0
  have bb1 := below_up bb hb1
  have lt1 := lt_of_block h1
  clear hb1 h0 r0 bb
  go_wp2_with fail
  refine (outU2 _).mono ?_
  rintro e w2 ⟨rfl, hb2⟩
  have h2 := (hb2.block w.heap.size lt1).trans h1
  have bb2 := below_up bb1 hb2
  obtain ⟨d0, d1, d2, e0, e1, e2⟩ := row3 h2
  clear hb2 h1 h2 bb1 lt1
  go_wp2
  exact bodyPost_ret (v := .tuple #[.agg #[.int .i64 0, .int .i64 1, .int .i64 3], .int .i64 0]) (by simp [results, Try.results48, go_sem, d0, d1, d2]) rfl ⟨rfl, by (repeat (first | with_reducible assumption | exact Below.refl _ _ | refine below_drewN ?_ _ | refine Below.drew ?_ | refine Below.alloc ?_ (by first | omega | (simp; done) | (simp; omega)) _ | refine Below.setCell ?_ (by first | omega | (simp; done) | (simp; omega)) _))⟩

theorem outU3 (W : World) : Calls Try.prog 54 #[.agg #[.int .i64 0, .int .i64 1, .int .i64 2]] W fun e w' => e = .returned (.agg #[.int .i64 0, .int .i64 2, .int .i64 1]) ∧ Below W.heap.size W w' := by
  have := turn_any 0 1 2 W
  rwa [show canon ⟨0, 2, 1⟩ = ⟨0, 2, 1⟩ by decide] at this

set_option maxHeartbeats 4000000 in
set_option maxRecDepth 100000 in
theorem outAxes3 (b c : Nat) (w : World) (h : w.heap[b]? = some (.cells axes 109 (0, 0))) :
    Calls Try.prog 48 #[.slice (some ⟨b, 0, none⟩) 4 c, .int .i64 0, .int .i64 1, .int .i64 2] w fun e w' => e = .returned (.tuple #[.agg #[.int .i64 0, .int .i64 2, .int .i64 1], .int .i64 0]) ∧ Below w.heap.size w w' := by
  have h0 : (w.alloc (.cells #[.int .i64 0, .int .i64 0, .int .i64 0] 50)).heap[b]? = some (.cells axes 109 (0, 0)) := (Below.heap_alloc w _ b (lt_of_block h)).trans h
  have r0 := heap_alloc_new w (.cells #[.int .i64 0, .int .i64 0, .int .i64 0] 50)
  have bb : Below w.heap.size w (w.alloc (.cells #[.int .i64 0, .int .i64 0, .int .i64 0] 50)) := by (repeat (first | exact Below.refl _ _ | refine Below.alloc ?_ (by first | omega | (simp; done) | (simp; omega)) _ | refine Below.setCell ?_ (by first | omega | (simp; done) | (simp; omega)) _ | refine Below.drew ?_))
  clear h
  go_enter Try.func48, Try.ntmps48
  go_wp2
  refine wp_loop_rounds 4 ?_
  rw [rounds_succ]
  go_wp2_with fail
  rw [rounds_succ]
  go_wp2_with fail
  rw [rounds_succ]
  go_wp2_with fail
  rw [rounds_succ]
  go_wp2_with fail
  refine (signAxes3 b c _ h0).mono ?_
  rintro e w1 ⟨rfl, hb1⟩
  have h1 := (hb1.block w.heap.size (by simp)).trans r0
  have bb1 := below_up bb hb1
  have lt1 := lt_of_block h1
  clear hb1 h0 r0 bb
  go_wp2_with fail
  refine (outU3 _).mono ?_
  rintro e w2 ⟨rfl, hb2⟩
  have h2 := (hb2.block w.heap.size lt1).trans h1
  have bb2 := below_up bb1 hb2
  obtain ⟨d0, d1, d2, e0, e1, e2⟩ := row3 h2
  clear hb2 h1 h2 bb1 lt1
  go_wp2
  exact bodyPost_ret (v := .tuple #[.agg #[.int .i64 0, .int .i64 2, .int .i64 1], .int .i64 0]) (by simp [results, Try.results48, go_sem, d0, d1, d2]) rfl ⟨rfl, by (repeat (first | with_reducible assumption | exact Below.refl _ _ | refine below_drewN ?_ _ | refine Below.drew ?_ | refine Below.alloc ?_ (by first | omega | (simp; done) | (simp; omega)) _ | refine Below.setCell ?_ (by first | omega | (simp; done) | (simp; omega)) _))⟩

end Go.Proofs.Ytojecaeblgghjaa
