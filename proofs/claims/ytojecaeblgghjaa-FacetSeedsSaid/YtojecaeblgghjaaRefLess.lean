/-
  CONTRACTS AT TRIPLES of the document's answer: Less. (Printed by mkless.py.)
-/
import Derived.Test.YtojecaeblgghjaaTriSort
set_option linter.unusedVariables false
set_option linter.unusedSimpArgs false
namespace Go.Proofs.Ytojecaeblgghjaa
open Go.RowKit Go.Sort LsP

set_option maxHeartbeats 4000000 in
set_option maxRecDepth 100000 in
theorem refTriLess_any (a b c x y z : Int) (w : World) :
    Calls Try.prog 57 #[.agg #[.int .i64 a, .int .i64 b, .int .i64 c], .agg #[.int .i64 x, .int .i64 y, .int .i64 z]] w fun e w' => e = .returned (.bool (ltT ⟨a, b, c⟩ ⟨x, y, z⟩)) ∧ Below w.heap.size w w' := by
  have n2 : ((w.alloc (.cells #[.int .i64 a, .int .i64 b, .int .i64 c] 50)).alloc (.cells #[.int .i64 x, .int .i64 y, .int .i64 z] 50)).heap[w.heap.size]? = some (.cells #[.int .i64 a, .int .i64 b, .int .i64 c] 50 (0, 0)) := (Below.heap_alloc _ _ _ (by simp)).trans (heap_alloc_new _ _)
  have n3 := new1 w (.cells #[.int .i64 a, .int .i64 b, .int .i64 c] 50) (.cells #[.int .i64 x, .int .i64 y, .int .i64 z] 50)
  have b0 := ((Below.refl w.heap.size w).alloc (Nat.le_refl _) (.cells #[.int .i64 a, .int .i64 b, .int .i64 c] 50)).alloc (by simp) (.cells #[.int .i64 x, .int .i64 y, .int .i64 z] 50)
  obtain ⟨k0, k1, k2, _, _, _⟩ := row3 n2
  obtain ⟨l0, l1, l2, _, _, _⟩ := row3 n3
  have B := Lib.hid b0
  clear n2 n3 b0
  by_cases h0 : a = x
  · by_cases h1 : b = y
    · by_cases h2 : c = z
      · have e0 : (a != x) = false := by simpa using h0
        have e1 : (b != y) = false := by simpa using h1
        have e2 : (c != z) = false := by simpa using h2
        have hl : ltT ⟨a, b, c⟩ ⟨x, y, z⟩ = false := by simp [ltT, h0, h1, h2]
        rw [hl]
        clear hl h0 h1 h2
        go_enter Try.func57, Try.ntmps57
        go_wp2_with fail
        generalize (w.alloc (.cells #[.int .i64 a, .int .i64 b, .int .i64 c] 50)).alloc (.cells #[.int .i64 x, .int .i64 y, .int .i64 z] 50) = W at *
        refine wp_loop_rounds 4 ?_
        rw [rounds_succ]
        go_wp2_with fail
        go_quiet (fail)
        replace k0 : (W.drewN nq).cell? _ = _ := k0
        replace k1 : (W.drewN nq).cell? _ = _ := k1
        replace k2 : (W.drewN nq).cell? _ = _ := k2
        replace l0 : (W.drewN nq).cell? _ = _ := l0
        replace l1 : (W.drewN nq).cell? _ = _ := l1
        replace l2 : (W.drewN nq).cell? _ = _ := l2
        replace B := Lib.hid (below_drewN B.out nq)
        generalize W.drewN nq = W at *
        go_wp2_with fail
        rw [rounds_succ]
        go_wp2_with fail
        go_quiet (fail)
        replace k0 : (W.drewN nq).cell? _ = _ := k0
        replace k1 : (W.drewN nq).cell? _ = _ := k1
        replace k2 : (W.drewN nq).cell? _ = _ := k2
        replace l0 : (W.drewN nq).cell? _ = _ := l0
        replace l1 : (W.drewN nq).cell? _ = _ := l1
        replace l2 : (W.drewN nq).cell? _ = _ := l2
        replace B := Lib.hid (below_drewN B.out nq)
        generalize W.drewN nq = W at *
        go_wp2_with fail
        rw [rounds_succ]
        go_wp2_with fail
        go_quiet (fail)
        replace k0 : (W.drewN nq).cell? _ = _ := k0
        replace k1 : (W.drewN nq).cell? _ = _ := k1
        replace k2 : (W.drewN nq).cell? _ = _ := k2
        replace l0 : (W.drewN nq).cell? _ = _ := l0
        replace l1 : (W.drewN nq).cell? _ = _ := l1
        replace l2 : (W.drewN nq).cell? _ = _ := l2
        replace B := Lib.hid (below_drewN B.out nq)
        generalize W.drewN nq = W at *
        go_wp2_with fail
        rw [rounds_succ]
        go_wp2
        go_ret
        exact ⟨rfl, B.out⟩
      · have e0 : (a != x) = false := by simpa using h0
        have e1 : (b != y) = false := by simpa using h1
        have e2 : (c != z) = true := by simpa using h2
        have hl : ltT ⟨a, b, c⟩ ⟨x, y, z⟩ = decide (c < z) := by simp [ltT, h0, h1, h2]
        rw [hl]
        clear hl h0 h1 h2
        go_enter Try.func57, Try.ntmps57
        go_wp2_with fail
        generalize (w.alloc (.cells #[.int .i64 a, .int .i64 b, .int .i64 c] 50)).alloc (.cells #[.int .i64 x, .int .i64 y, .int .i64 z] 50) = W at *
        refine wp_loop_rounds 4 ?_
        rw [rounds_succ]
        go_wp2_with fail
        go_quiet (fail)
        replace k0 : (W.drewN nq).cell? _ = _ := k0
        replace k1 : (W.drewN nq).cell? _ = _ := k1
        replace k2 : (W.drewN nq).cell? _ = _ := k2
        replace l0 : (W.drewN nq).cell? _ = _ := l0
        replace l1 : (W.drewN nq).cell? _ = _ := l1
        replace l2 : (W.drewN nq).cell? _ = _ := l2
        replace B := Lib.hid (below_drewN B.out nq)
        generalize W.drewN nq = W at *
        go_wp2_with fail
        rw [rounds_succ]
        go_wp2_with fail
        go_quiet (fail)
        replace k0 : (W.drewN nq).cell? _ = _ := k0
        replace k1 : (W.drewN nq).cell? _ = _ := k1
        replace k2 : (W.drewN nq).cell? _ = _ := k2
        replace l0 : (W.drewN nq).cell? _ = _ := l0
        replace l1 : (W.drewN nq).cell? _ = _ := l1
        replace l2 : (W.drewN nq).cell? _ = _ := l2
        replace B := Lib.hid (below_drewN B.out nq)
        generalize W.drewN nq = W at *
        go_wp2_with fail
        rw [rounds_succ]
        go_wp2_with fail
        go_quiet (fail)
        replace k0 : (W.drewN nq).cell? _ = _ := k0
        replace k1 : (W.drewN nq).cell? _ = _ := k1
        replace k2 : (W.drewN nq).cell? _ = _ := k2
        replace l0 : (W.drewN nq).cell? _ = _ := l0
        replace l1 : (W.drewN nq).cell? _ = _ := l1
        replace l2 : (W.drewN nq).cell? _ = _ := l2
        replace B := Lib.hid (below_drewN B.out nq)
        generalize W.drewN nq = W at *
        go_wp2_with fail
        go_quiet (fail)
        replace k0 : (W.drewN nq).cell? _ = _ := k0
        replace k1 : (W.drewN nq).cell? _ = _ := k1
        replace k2 : (W.drewN nq).cell? _ = _ := k2
        replace l0 : (W.drewN nq).cell? _ = _ := l0
        replace l1 : (W.drewN nq).cell? _ = _ := l1
        replace l2 : (W.drewN nq).cell? _ = _ := l2
        replace B := Lib.hid (below_drewN B.out nq)
        generalize W.drewN nq = W at *
        go_wp2
        go_ret
        exact ⟨rfl, B.out⟩
    · have e0 : (a != x) = false := by simpa using h0
      have e1 : (b != y) = true := by simpa using h1
      have hl : ltT ⟨a, b, c⟩ ⟨x, y, z⟩ = decide (b < y) := by simp [ltT, h0, h1]
      rw [hl]
      clear hl h0 h1
      go_enter Try.func57, Try.ntmps57
      go_wp2_with fail
      generalize (w.alloc (.cells #[.int .i64 a, .int .i64 b, .int .i64 c] 50)).alloc (.cells #[.int .i64 x, .int .i64 y, .int .i64 z] 50) = W at *
      refine wp_loop_rounds 4 ?_
      rw [rounds_succ]
      go_wp2_with fail
      go_quiet (fail)
      replace k0 : (W.drewN nq).cell? _ = _ := k0
      replace k1 : (W.drewN nq).cell? _ = _ := k1
      replace k2 : (W.drewN nq).cell? _ = _ := k2
      replace l0 : (W.drewN nq).cell? _ = _ := l0
      replace l1 : (W.drewN nq).cell? _ = _ := l1
      replace l2 : (W.drewN nq).cell? _ = _ := l2
      replace B := Lib.hid (below_drewN B.out nq)
      generalize W.drewN nq = W at *
      go_wp2_with fail
      rw [rounds_succ]
      go_wp2_with fail
      go_quiet (fail)
      replace k0 : (W.drewN nq).cell? _ = _ := k0
      replace k1 : (W.drewN nq).cell? _ = _ := k1
      replace k2 : (W.drewN nq).cell? _ = _ := k2
      replace l0 : (W.drewN nq).cell? _ = _ := l0
      replace l1 : (W.drewN nq).cell? _ = _ := l1
      replace l2 : (W.drewN nq).cell? _ = _ := l2
      replace B := Lib.hid (below_drewN B.out nq)
      generalize W.drewN nq = W at *
      go_wp2_with fail
      go_quiet (fail)
      replace k0 : (W.drewN nq).cell? _ = _ := k0
      replace k1 : (W.drewN nq).cell? _ = _ := k1
      replace k2 : (W.drewN nq).cell? _ = _ := k2
      replace l0 : (W.drewN nq).cell? _ = _ := l0
      replace l1 : (W.drewN nq).cell? _ = _ := l1
      replace l2 : (W.drewN nq).cell? _ = _ := l2
      replace B := Lib.hid (below_drewN B.out nq)
      generalize W.drewN nq = W at *
      go_wp2
      go_ret
      exact ⟨rfl, B.out⟩
  · have e0 : (a != x) = true := by simpa using h0
    have hl : ltT ⟨a, b, c⟩ ⟨x, y, z⟩ = decide (a < x) := by simp [ltT, h0]
    rw [hl]
    clear hl h0
    go_enter Try.func57, Try.ntmps57
    go_wp2_with fail
    generalize (w.alloc (.cells #[.int .i64 a, .int .i64 b, .int .i64 c] 50)).alloc (.cells #[.int .i64 x, .int .i64 y, .int .i64 z] 50) = W at *
    refine wp_loop_rounds 4 ?_
    rw [rounds_succ]
    go_wp2_with fail
    go_quiet (fail)
    replace k0 : (W.drewN nq).cell? _ = _ := k0
    replace k1 : (W.drewN nq).cell? _ = _ := k1
    replace k2 : (W.drewN nq).cell? _ = _ := k2
    replace l0 : (W.drewN nq).cell? _ = _ := l0
    replace l1 : (W.drewN nq).cell? _ = _ := l1
    replace l2 : (W.drewN nq).cell? _ = _ := l2
    replace B := Lib.hid (below_drewN B.out nq)
    generalize W.drewN nq = W at *
    go_wp2_with fail
    go_quiet (fail)
    replace k0 : (W.drewN nq).cell? _ = _ := k0
    replace k1 : (W.drewN nq).cell? _ = _ := k1
    replace k2 : (W.drewN nq).cell? _ = _ := k2
    replace l0 : (W.drewN nq).cell? _ = _ := l0
    replace l1 : (W.drewN nq).cell? _ = _ := l1
    replace l2 : (W.drewN nq).cell? _ = _ := l2
    replace B := Lib.hid (below_drewN B.out nq)
    generalize W.drewN nq = W at *
    go_wp2
    go_ret
    exact ⟨rfl, B.out⟩
end Go.Proofs.Ytojecaeblgghjaa
