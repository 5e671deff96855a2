/-
  CONTRACTS AT TRIPLES: compare, Less, of the program and of the document's answer.
-/
import Derived.Test.YtojecaeblgghjaaTri2
import Derived.Deep.QuietTactic
import Derived.Sort.Grow
import Derived.BigQuiet
set_option linter.unusedVariables false
set_option linter.unusedSimpArgs false
namespace Go.Proofs.Ytojecaeblgghjaa
open Go.RowKit Go.Sort LsP

def T3.l (t : T3) : List Int := [t.a, t.b, t.c]

set_option maxHeartbeats 4000000 in
set_option maxRecDepth 100000 in
theorem compare_any (s t : T3) (w : World) :
    Calls Try.prog 101 #[encT s, encT t] w fun e w' => e = .returned (.int .i64 (cmpL s.l t.l)) ∧ Below w.heap.size w w' := by
  obtain ⟨a, b, c⟩ := s
  obtain ⟨x, y, z⟩ := t
  have q1 := Rd.lit (enc := encI) (w := w) (t := 50) [a, b, c]
  have q2 := Rd.lit (enc := encI) (w := w.alloc (.cells #[.int .i64 a, .int .i64 b, .int .i64 c] 50)) (t := 50) [x, y, z]
  have hb : Below w.heap.size w ((w.alloc (.cells #[.int .i64 a, .int .i64 b, .int .i64 c] 50)).alloc (.cells #[.int .i64 x, .int .i64 y, .int .i64 z] 50)) := by (repeat (first | exact Below.refl _ _ | refine Below.alloc ?_ (by first | omega | (simp; done) | (simp; omega)) _ | refine Below.setCell ?_ (by first | omega | (simp; done) | (simp; omega)) _ | refine Below.drew ?_))
  have q1' : Rd encI w.heap.size ((w.alloc (.cells #[.int .i64 a, .int .i64 b, .int .i64 c] 50)).alloc (.cells #[.int .i64 x, .int .i64 y, .int .i64 z] 50)) (some ⟨w.heap.size, 0, none⟩) [a, b, c] := q1.below ((Below.refl _ _).alloc (Nat.le_refl _) _) (Nat.le_refl _)
  have q2' : Rd encI (w.heap.size + 1) ((w.alloc (.cells #[.int .i64 a, .int .i64 b, .int .i64 c] 50)).alloc (.cells #[.int .i64 x, .int .i64 y, .int .i64 z] 50)) (some ⟨w.heap.size + 1, 0, none⟩) [x, y, z] := by simpa using q2
  have Q1 : Hid (∀ n, Calls Try.prog 77 #[.slice (some ⟨w.heap.size, 0, none⟩) 3 3, .slice (some ⟨w.heap.size + 1, 0, none⟩) 3 3] (((w.alloc (.cells #[.int .i64 a, .int .i64 b, .int .i64 c] 50)).alloc (.cells #[.int .i64 x, .int .i64 y, .int .i64 z] 50)).drewN n) fun e w' => e = .returned (.int .i64 (cmpL [a, b, c] [x, y, z])) ∧ ∃ m, w' = ((w.alloc (.cells #[.int .i64 a, .int .i64 b, .int .i64 c] 50)).alloc (.cells #[.int .i64 x, .int .i64 y, .int .i64 z] 50)).drewN m) := fun n =>
    Calls.quiet_of_same (slicesCompare_any (some ⟨w.heap.size, 0, none⟩) (some ⟨w.heap.size + 1, 0, none⟩) 3 3 [a, b, c] [x, y, z] _ _ _ q1' q2' (by simp) (by simp))
  have HB := Lib.hid hb
  clear q1 q2 q1' q2' hb
  show Calls Try.prog 101 #[.agg #[.int .i64 a, .int .i64 b, .int .i64 c], .agg #[.int .i64 x, .int .i64 y, .int .i64 z]] w fun e w' => e = .returned (.int .i64 (cmpL [a, b, c] [x, y, z])) ∧ Below w.heap.size w w'
  generalize cmpL [a, b, c] [x, y, z] = r at *
  go_enter Try.func101, Try.ntmps101
  go_wp2
  go_quiet ((go_at_call 77; exact Q1.out _))
  go_wp2
  go_ret
  exact ⟨rfl, below_drewN HB.out _⟩

/-- Two blocks more, and draws, in the sort's words. -/
theorem grow_two (w : World) (o o' : Obj) (n : Nat) : ((w.alloc o).alloc o').drewN n = grow (w.drewN n) #[o, o'] := by
  show ((({ w with heap := (w.heap.push o) } : World).heap.push o' |> fun h => ({ w with heap := h } : World)).drewN n) = _
  simp [grow, World.drewN]
  apply Array.ext'
  simp

set_option maxHeartbeats 4000000 in
set_option maxRecDepth 100000 in
theorem compare_grow (s t : T3) (w : World) :
    Calls Try.prog 101 #[encT s, encT t] w fun e w' => e = .returned (.int .i64 (cmpL s.l t.l)) ∧ ∃ q os', w' = grow (w.drewN q) os' := by
  obtain ⟨a, b, c⟩ := s
  obtain ⟨x, y, z⟩ := t
  have q1 := Rd.lit (enc := encI) (w := w) (t := 50) [a, b, c]
  have q2 := Rd.lit (enc := encI) (w := w.alloc (.cells #[.int .i64 a, .int .i64 b, .int .i64 c] 50)) (t := 50) [x, y, z]
  have hb : Below w.heap.size w ((w.alloc (.cells #[.int .i64 a, .int .i64 b, .int .i64 c] 50)).alloc (.cells #[.int .i64 x, .int .i64 y, .int .i64 z] 50)) := by (repeat (first | exact Below.refl _ _ | refine Below.alloc ?_ (by first | omega | (simp; done) | (simp; omega)) _ | refine Below.setCell ?_ (by first | omega | (simp; done) | (simp; omega)) _ | refine Below.drew ?_))
  have q1' : Rd encI w.heap.size ((w.alloc (.cells #[.int .i64 a, .int .i64 b, .int .i64 c] 50)).alloc (.cells #[.int .i64 x, .int .i64 y, .int .i64 z] 50)) (some ⟨w.heap.size, 0, none⟩) [a, b, c] := q1.below ((Below.refl _ _).alloc (Nat.le_refl _) _) (Nat.le_refl _)
  have q2' : Rd encI (w.heap.size + 1) ((w.alloc (.cells #[.int .i64 a, .int .i64 b, .int .i64 c] 50)).alloc (.cells #[.int .i64 x, .int .i64 y, .int .i64 z] 50)) (some ⟨w.heap.size + 1, 0, none⟩) [x, y, z] := by simpa using q2
  have Q1 : Hid (∀ n, Calls Try.prog 77 #[.slice (some ⟨w.heap.size, 0, none⟩) 3 3, .slice (some ⟨w.heap.size + 1, 0, none⟩) 3 3] (((w.alloc (.cells #[.int .i64 a, .int .i64 b, .int .i64 c] 50)).alloc (.cells #[.int .i64 x, .int .i64 y, .int .i64 z] 50)).drewN n) fun e w' => e = .returned (.int .i64 (cmpL [a, b, c] [x, y, z])) ∧ ∃ m, w' = ((w.alloc (.cells #[.int .i64 a, .int .i64 b, .int .i64 c] 50)).alloc (.cells #[.int .i64 x, .int .i64 y, .int .i64 z] 50)).drewN m) := fun n =>
    Calls.quiet_of_same (slicesCompare_any (some ⟨w.heap.size, 0, none⟩) (some ⟨w.heap.size + 1, 0, none⟩) 3 3 [a, b, c] [x, y, z] _ _ _ q1' q2' (by simp) (by simp))
  have HB := Lib.hid hb
  clear q1 q2 q1' q2' hb
  show Calls Try.prog 101 #[.agg #[.int .i64 a, .int .i64 b, .int .i64 c], .agg #[.int .i64 x, .int .i64 y, .int .i64 z]] w fun e w' => e = .returned (.int .i64 (cmpL [a, b, c] [x, y, z])) ∧ ∃ q os', w' = grow (w.drewN q) os'
  generalize cmpL [a, b, c] [x, y, z] = r at *
  go_enter Try.func101, Try.ntmps101
  go_wp2
  go_quiet ((go_at_call 77; exact Q1.out _))
  go_wp2
  go_ret
  exact ⟨rfl, _, _, grow_two _ _ _ _⟩

set_option maxHeartbeats 4000000 in
set_option maxRecDepth 100000 in
theorem triLess_any (s t : T3) (w : World) :
    Calls Try.prog 56 #[encT s, encT t] w fun e w' => e = .returned (.bool (decide (cmpL s.l t.l < 0))) ∧ Below w.heap.size w w' := by
  have k := fun W => compare_any s t W
  have K := Lib.hid k
  clear k
  obtain ⟨a, b, c⟩ := s
  obtain ⟨x, y, z⟩ := t
  generalize cmpL (T3.l ⟨a, b, c⟩) (T3.l ⟨x, y, z⟩) = r at *
  simp only [encT] at *
  go_enter Try.func56, Try.ntmps56
  go_wp2_with fail
  refine (K.out _).mono ?_
  rintro e w1 ⟨rfl, hb⟩
  have hb' : Below w.heap.size w w1 := below_up (w1 := (w.alloc (.cells #[.int .i64 a, .int .i64 b, .int .i64 c] 50)).alloc (.cells #[.int .i64 x, .int .i64 y, .int .i64 z] 50)) (by (repeat (first | exact Below.refl _ _ | refine Below.alloc ?_ (by first | omega | (simp; done) | (simp; omega)) _ | refine Below.setCell ?_ (by first | omega | (simp; done) | (simp; omega)) _ | refine Below.drew ?_))) hb
  clear hb
  go_wp2
  go_ret
  exact ⟨rfl, hb'⟩

/-- The document's order of triples. -/
def ltT (s t : T3) : Bool := if s.a ≠ t.a then decide (s.a < t.a) else if s.b ≠ t.b then decide (s.b < t.b) else decide (s.c < t.c)

theorem ltT_cmp (s t : T3) : decide (cmpL s.l t.l < 0) = ltT s t := by
  obtain ⟨a, b, c⟩ := s
  obtain ⟨x, y, z⟩ := t
  simp only [T3.l, cmpL, ltT]
  repeat' split
  all_goals (first | rfl | (simp; omega) | omega | (exfalso; omega))

end Go.Proofs.Ytojecaeblgghjaa
