/-
  Merged: Tri, Tri2, TriLess.
-/
import Derived.Test.YtojecaeblgghjaaCmp
import Derived.LoopN
import Derived.Laws.Cover1
import Derived.OneCell
import Derived.Deep.QuietTactic
import Derived.Sort.Grow
import Derived.BigQuiet

/-
  CONTRACTS AT TRIPLES: Canon, Turn, edge, Edges, of the program and of the document's answer.
-/
set_option linter.unusedVariables false
set_option linter.unusedSimpArgs false
namespace Go.Proofs.Ytojecaeblgghjaa
open Go.RowKit Go.Sort LsP

/-- A triple. -/
structure T3 where
  a : Int
  b : Int
  c : Int
  deriving DecidableEq, Inhabited, Repr

abbrev encT (t : T3) : Value := .agg #[.int .i64 t.a, .int .i64 t.b, .int .i64 t.c]

/-- The turning with the least number first. -/
def canon (t : T3) : T3 :=
  if t.b < t.a then (if t.c < t.b then ⟨t.c, t.a, t.b⟩ else ⟨t.b, t.c, t.a⟩) else (if t.c < t.a then ⟨t.c, t.a, t.b⟩ else t)

theorem idx0 (a b c d e f : Int) : ∀ W : World, (Instr.index 112 (.agg #[.int .i64 a, .int .i64 b, .int .i64 c, .int .i64 d, .int .i64 e, .int .i64 f]) (.int .i64 0)).run Try.prog W = .ok (.agg #[.int .i64 a, .int .i64 b, .int .i64 c]) W := fun _ => by kernel_rfl
theorem idx1 (a b c d e f : Int) : ∀ W : World, (Instr.index 112 (.agg #[.int .i64 a, .int .i64 b, .int .i64 c, .int .i64 d, .int .i64 e, .int .i64 f]) (.int .i64 1)).run Try.prog W = .ok (.agg #[.int .i64 d, .int .i64 e, .int .i64 f]) W := fun _ => by kernel_rfl


set_option maxHeartbeats 2000000 in
set_option maxRecDepth 100000 in
theorem canon_any (a b c : Int) (w : World) :
    Calls Try.prog 53 #[.agg #[.int .i64 a, .int .i64 b, .int .i64 c]] w fun e w' => e = .returned (encT (canon ⟨a, b, c⟩)) ∧ Below w.heap.size w w' := by
  have x0 := idx0 b c a c a b
  have x1 := idx1 b c a c a b
  by_cases h1 : b < a
  · by_cases h2 : c < b
    · have hc : canon ⟨a, b, c⟩ = ⟨c, a, b⟩ := by first | (simp only [canon]; repeat (first | rfl | rw [if_pos (by omega)] | rw [if_neg (by omega)])) | skip
      rw [hc]
      clear hc
      go_enter Try.func53, Try.ntmps53
      go_wp2
      refine wp_loop_rounds 3 ?_
      rw [rounds_succ]
      go_wp2
      rw [rounds_succ]
      go_wp2
      rw [rounds_succ]
      go_wp2
      exact bodyPost_ret (v := .agg #[.int .i64 c, .int .i64 a, .int .i64 b]) (by simp [results, Try.results53, go_sem]) rfl ⟨rfl, by (repeat (first | exact Below.refl _ _ | refine Below.alloc ?_ (by first | omega | (simp; done) | (simp; omega)) _ | refine Below.setCell ?_ (by first | omega | (simp; done) | (simp; omega)) _ | refine Below.drew ?_))⟩
    · have hc : canon ⟨a, b, c⟩ = ⟨b, c, a⟩ := by first | (simp only [canon]; repeat (first | rfl | rw [if_pos (by omega)] | rw [if_neg (by omega)])) | skip
      rw [hc]
      clear hc
      go_enter Try.func53, Try.ntmps53
      go_wp2
      refine wp_loop_rounds 3 ?_
      rw [rounds_succ]
      go_wp2
      rw [rounds_succ]
      go_wp2
      rw [rounds_succ]
      go_wp2
      exact bodyPost_ret (v := .agg #[.int .i64 b, .int .i64 c, .int .i64 a]) (by simp [results, Try.results53, go_sem]) rfl ⟨rfl, by (repeat (first | exact Below.refl _ _ | refine Below.alloc ?_ (by first | omega | (simp; done) | (simp; omega)) _ | refine Below.setCell ?_ (by first | omega | (simp; done) | (simp; omega)) _ | refine Below.drew ?_))⟩
  · by_cases h2 : c < a
    · have hc : canon ⟨a, b, c⟩ = ⟨c, a, b⟩ := by first | (simp only [canon]; repeat (first | rfl | rw [if_pos (by omega)] | rw [if_neg (by omega)])) | skip
      rw [hc]
      clear hc
      go_enter Try.func53, Try.ntmps53
      go_wp2
      refine wp_loop_rounds 3 ?_
      rw [rounds_succ]
      go_wp2
      rw [rounds_succ]
      go_wp2
      rw [rounds_succ]
      go_wp2
      exact bodyPost_ret (v := .agg #[.int .i64 c, .int .i64 a, .int .i64 b]) (by simp [results, Try.results53, go_sem]) rfl ⟨rfl, by (repeat (first | exact Below.refl _ _ | refine Below.alloc ?_ (by first | omega | (simp; done) | (simp; omega)) _ | refine Below.setCell ?_ (by first | omega | (simp; done) | (simp; omega)) _ | refine Below.drew ?_))⟩
    · have hc : canon ⟨a, b, c⟩ = ⟨a, b, c⟩ := by first | (simp only [canon]; repeat (first | rfl | rw [if_pos (by omega)] | rw [if_neg (by omega)])) | skip
      rw [hc]
      clear hc
      go_enter Try.func53, Try.ntmps53
      go_wp2
      refine wp_loop_rounds 3 ?_
      rw [rounds_succ]
      go_wp2
      rw [rounds_succ]
      go_wp2
      rw [rounds_succ]
      go_wp2
      exact bodyPost_ret (v := .agg #[.int .i64 a, .int .i64 b, .int .i64 c]) (by simp [results, Try.results53, go_sem]) rfl ⟨rfl, by (repeat (first | exact Below.refl _ _ | refine Below.alloc ?_ (by first | omega | (simp; done) | (simp; omega)) _ | refine Below.setCell ?_ (by first | omega | (simp; done) | (simp; omega)) _ | refine Below.drew ?_))⟩

set_option maxHeartbeats 2000000 in
set_option maxRecDepth 100000 in
theorem refCanon_any (a b c : Int) (w : World) :
    Calls Try.prog 64 #[.agg #[.int .i64 a, .int .i64 b, .int .i64 c]] w fun e w' => e = .returned (encT (canon ⟨a, b, c⟩)) ∧ Below w.heap.size w w' := by
  obtain ⟨m, hm⟩ : ∃ m, (if c < (if b < a then b else a) then c else (if b < a then b else a)) = m := ⟨_, rfl⟩
  have hmin : ∀ W : World, (Builtin.min_ #[3, 3, 3] 3 #[.int .i64 a, .int .i64 b, .int .i64 c]).run Try.prog W = .ok (.int .i64 m) W := fun W => by rw [run_min_int3, hm]
  by_cases h1 : b < a
  · rw [if_pos h1] at hm
    by_cases h2 : c < b
    · rw [if_pos h2] at hm; subst hm
      have e1 : (a == c) = false := by simp; omega
      have e2 : (b == c) = false := by simp; omega
      have hc : canon ⟨a, b, c⟩ = ⟨c, a, b⟩ := by (simp only [canon]; repeat (first | rfl | rw [if_pos (by omega)] | rw [if_neg (by omega)]))
      rw [hc]
      clear hc
      go_enter Try.func64, Try.ntmps64
      go_wp2
      exact bodyPost_ret (v := .agg #[.int .i64 c, .int .i64 a, .int .i64 b]) (by simp [results, Try.results64, go_sem]) rfl ⟨rfl, by (repeat (first | exact Below.refl _ _ | refine Below.alloc ?_ (by first | omega | (simp; done) | (simp; omega)) _ | refine Below.setCell ?_ (by first | omega | (simp; done) | (simp; omega)) _ | refine Below.drew ?_))⟩
    · rw [if_neg h2] at hm; subst hm
      have e1 : (a == b) = false := by simp; omega
      have e2 : (b == b) = true := by simp
      have hc : canon ⟨a, b, c⟩ = ⟨b, c, a⟩ := by (simp only [canon]; repeat (first | rfl | rw [if_pos (by omega)] | rw [if_neg (by omega)]))
      rw [hc]
      clear hc
      go_enter Try.func64, Try.ntmps64
      go_wp2
      exact bodyPost_ret (v := .agg #[.int .i64 b, .int .i64 c, .int .i64 a]) (by simp [results, Try.results64, go_sem]) rfl ⟨rfl, by (repeat (first | exact Below.refl _ _ | refine Below.alloc ?_ (by first | omega | (simp; done) | (simp; omega)) _ | refine Below.setCell ?_ (by first | omega | (simp; done) | (simp; omega)) _ | refine Below.drew ?_))⟩
  · rw [if_neg h1] at hm
    by_cases h2 : c < a
    · rw [if_pos h2] at hm; subst hm
      have e1 : (a == c) = false := by simp; omega
      have e2 : (b == c) = false := by simp; omega
      have hc : canon ⟨a, b, c⟩ = ⟨c, a, b⟩ := by (simp only [canon]; repeat (first | rfl | rw [if_pos (by omega)] | rw [if_neg (by omega)]))
      rw [hc]
      clear hc
      go_enter Try.func64, Try.ntmps64
      go_wp2
      exact bodyPost_ret (v := .agg #[.int .i64 c, .int .i64 a, .int .i64 b]) (by simp [results, Try.results64, go_sem]) rfl ⟨rfl, by (repeat (first | exact Below.refl _ _ | refine Below.alloc ?_ (by first | omega | (simp; done) | (simp; omega)) _ | refine Below.setCell ?_ (by first | omega | (simp; done) | (simp; omega)) _ | refine Below.drew ?_))⟩
    · rw [if_neg h2] at hm; subst hm
      have e1 : (a == a) = true := by simp
      have hc : canon ⟨a, b, c⟩ = ⟨a, b, c⟩ := by (simp only [canon]; repeat (first | rfl | rw [if_pos (by omega)] | rw [if_neg (by omega)]))
      rw [hc]
      clear hc
      go_enter Try.func64, Try.ntmps64
      go_wp2
      exact bodyPost_ret (v := .agg #[.int .i64 a, .int .i64 b, .int .i64 c]) (by simp [results, Try.results64, go_sem]) rfl ⟨rfl, by (repeat (first | exact Below.refl _ _ | refine Below.alloc ?_ (by first | omega | (simp; done) | (simp; omega)) _ | refine Below.setCell ?_ (by first | omega | (simp; done) | (simp; omega)) _ | refine Below.drew ?_))⟩
end Go.Proofs.Ytojecaeblgghjaa

/-
  CONTRACTS AT TRIPLES: Turn, edge, of the program and of the document's answer.
-/
set_option linter.unusedVariables false
set_option linter.unusedSimpArgs false
namespace Go.Proofs.Ytojecaeblgghjaa
open Go.RowKit Go.Sort LsP

theorem row3 {w : World} {b : Nat} {v0 v1 v2 : Value} {t : TypeId} (h : w.heap[b]? = some (.cells #[v0, v1, v2] t (0, 0))) :
    w.cell? ⟨b, 0, none⟩ = some v0 ∧ w.cell? ⟨b, 1, none⟩ = some v1 ∧ w.cell? ⟨b, 2, none⟩ = some v2 ∧ w.frozen? ⟨b, 0, none⟩ = false ∧ w.frozen? ⟨b, 1, none⟩ = false ∧ w.frozen? ⟨b, 2, none⟩ = false := by
  simp [World.cell?, World.frozen?, h]

theorem new1 (w : World) (o o' : Obj) : ((w.alloc o).alloc o').heap[w.heap.size + 1]? = some o' := by
  have := heap_alloc_new (w.alloc o) o'
  simpa using this

set_option maxHeartbeats 2000000 in
set_option maxRecDepth 100000 in
theorem turn_any (a b c : Int) (w : World) :
    Calls Try.prog 54 #[.agg #[.int .i64 a, .int .i64 b, .int .i64 c]] w fun e w' => e = .returned (encT (canon ⟨a, c, b⟩)) ∧ Below w.heap.size w w' := by
  go_enter Try.func54, Try.ntmps54
  go_wp2_with fail
  refine (canon_any a c b _).mono ?_
  rintro e w1 ⟨rfl, hb⟩
  have hx : w1.heap[w.heap.size + 1]? = some (.cells #[.int .i64 0, .int .i64 0, .int .i64 0] 50 (0, 0)) := (hb.block _ (by simp)).trans (new1 _ _ _)
  obtain ⟨c0, c1, c2, f0, f1, f2⟩ := row3 hx
  have sz := hb.size
  simp only [World.size_alloc] at sz
  have HB := Lib.hid hb
  clear hb
  rcases hr : canon ⟨a, c, b⟩ with ⟨x, y, z⟩
  simp only [encT]
  clear hx
  go_wp2
  exact bodyPost_ret (v := .agg #[.int .i64 x, .int .i64 y, .int .i64 z]) (by simp [results, Try.results54, go_sem, c0, c1, c2]) rfl ⟨by rw [hr], (((below_up (((Below.refl w.heap.size w).alloc (Nat.le_refl _) _).alloc (by simp) _) HB.out).setCell (by simp) _).setCell (by simp) _).setCell (by simp) _⟩

set_option maxHeartbeats 2000000 in
set_option maxRecDepth 100000 in
theorem refTurn_any (a b c : Int) (w : World) :
    Calls Try.prog 65 #[.agg #[.int .i64 a, .int .i64 b, .int .i64 c]] w fun e w' => e = .returned (encT (canon ⟨a, c, b⟩)) ∧ Below w.heap.size w w' := by
  go_enter Try.func65, Try.ntmps65
  go_wp2_with fail
  refine (refCanon_any a c b _).mono ?_
  rintro e w1 ⟨rfl, hb⟩
  have hx : w1.heap[w.heap.size + 1]? = some (.cells #[.int .i64 0, .int .i64 0, .int .i64 0] 50 (0, 0)) := (hb.block _ (by simp)).trans (new1 _ _ _)
  obtain ⟨c0, c1, c2, f0, f1, f2⟩ := row3 hx
  have sz := hb.size
  simp only [World.size_alloc] at sz
  have HB := Lib.hid hb
  clear hb
  rcases hr : canon ⟨a, c, b⟩ with ⟨x, y, z⟩
  simp only [encT]
  clear hx
  go_wp2
  exact bodyPost_ret (v := .agg #[.int .i64 x, .int .i64 y, .int .i64 z]) (by simp [results, Try.results65, go_sem, c0, c1, c2]) rfl ⟨by rw [hr], (((below_up (((Below.refl w.heap.size w).alloc (Nat.le_refl _) _).alloc (by simp) _) HB.out).setCell (by simp) _).setCell (by simp) _).setCell (by simp) _⟩

set_option maxHeartbeats 2000000 in
set_option maxRecDepth 100000 in
theorem edge_any (a b : Int) (w : World) :
    Calls Try.prog 105 #[.int .i64 a, .int .i64 b] w fun e w' => e = .returned (.agg #[.int .i64 (if b < a then b else a), .int .i64 (if b < a then a else b)]) ∧ Below w.heap.size w w' := by
  by_cases h : b < a
  · rw [if_pos h, if_pos h]
    go_enter Try.func105, Try.ntmps105
    go_wp2
    exact bodyPost_ret (v := .agg #[.int .i64 b, .int .i64 a]) (by simp [results, Try.results105, go_sem]) rfl ⟨rfl, by (repeat (first | exact Below.refl _ _ | refine Below.alloc ?_ (by first | omega | (simp; done) | (simp; omega)) _ | refine Below.setCell ?_ (by first | omega | (simp; done) | (simp; omega)) _ | refine Below.drew ?_))⟩
  · rw [if_neg h, if_neg h]
    by_cases h2 : a < b
    · go_enter Try.func105, Try.ntmps105
      go_wp2
      exact bodyPost_ret (v := .agg #[.int .i64 a, .int .i64 b]) (by simp [results, Try.results105, go_sem]) rfl ⟨rfl, by (repeat (first | exact Below.refl _ _ | refine Below.alloc ?_ (by first | omega | (simp; done) | (simp; omega)) _ | refine Below.setCell ?_ (by first | omega | (simp; done) | (simp; omega)) _ | refine Below.drew ?_))⟩
    · obtain rfl : a = b := by omega
      go_enter Try.func105, Try.ntmps105
      go_wp2
      exact bodyPost_ret (v := .agg #[.int .i64 a, .int .i64 a]) (by simp [results, Try.results105, go_sem]) rfl ⟨rfl, by (repeat (first | exact Below.refl _ _ | refine Below.alloc ?_ (by first | omega | (simp; done) | (simp; omega)) _ | refine Below.setCell ?_ (by first | omega | (simp; done) | (simp; omega)) _ | refine Below.drew ?_))⟩

set_option maxHeartbeats 2000000 in
set_option maxRecDepth 100000 in
theorem refEdge_any (a b : Int) (w : World) :
    Calls Try.prog 106 #[.int .i64 a, .int .i64 b] w fun e w' => e = .returned (.agg #[.int .i64 (if b < a then b else a), .int .i64 (if b < a then a else b)]) ∧ Below w.heap.size w w' := by
  by_cases h : b < a
  · rw [if_pos h, if_pos h]
    go_enter Try.func106, Try.ntmps106
    go_wp2
    exact bodyPost_ret (v := .agg #[.int .i64 b, .int .i64 a]) (by simp [results, Try.results106, go_sem]) rfl ⟨rfl, by (repeat (first | exact Below.refl _ _ | refine Below.alloc ?_ (by first | omega | (simp; done) | (simp; omega)) _ | refine Below.setCell ?_ (by first | omega | (simp; done) | (simp; omega)) _ | refine Below.drew ?_))⟩
  · rw [if_neg h, if_neg h]
    by_cases h2 : a < b
    · go_enter Try.func106, Try.ntmps106
      go_wp2
      exact bodyPost_ret (v := .agg #[.int .i64 a, .int .i64 b]) (by simp [results, Try.results106, go_sem]) rfl ⟨rfl, by (repeat (first | exact Below.refl _ _ | refine Below.alloc ?_ (by first | omega | (simp; done) | (simp; omega)) _ | refine Below.setCell ?_ (by first | omega | (simp; done) | (simp; omega)) _ | refine Below.drew ?_))⟩
    · obtain rfl : a = b := by omega
      go_enter Try.func106, Try.ntmps106
      go_wp2
      exact bodyPost_ret (v := .agg #[.int .i64 a, .int .i64 a]) (by simp [results, Try.results106, go_sem]) rfl ⟨rfl, by (repeat (first | exact Below.refl _ _ | refine Below.alloc ?_ (by first | omega | (simp; done) | (simp; omega)) _ | refine Below.setCell ?_ (by first | omega | (simp; done) | (simp; omega)) _ | refine Below.drew ?_))⟩
end Go.Proofs.Ytojecaeblgghjaa

/-
  CONTRACTS AT TRIPLES: compare, Less, of the program and of the document's answer.
-/
set_option linter.unusedVariables false
set_option linter.unusedSimpArgs false
namespace Go.Proofs.Ytojecaeblgghjaa
open Go.RowKit Go.Sort LsP

def T3.l (t : T3) : List Int := [t.a, t.b, t.c]

set_option maxHeartbeats 4000000 in
set_option maxRecDepth 100000 in
theorem compare_any (s t : T3) (w : World) :
    Calls Try.prog 101 #[encT s, encT t] w fun e w' => e = .returned (.int .i64 (cmpL s.l t.l)) ∧ Below w.heap.size w w' := by
  obtain ⟨a, b, c⟩ := s
  obtain ⟨x, y, z⟩ := t
  have q1 := Rd.lit (enc := encI) (w := w) (t := 50) [a, b, c]
  have q2 := Rd.lit (enc := encI) (w := w.alloc (.cells #[.int .i64 a, .int .i64 b, .int .i64 c] 50)) (t := 50) [x, y, z]
  have hb : Below w.heap.size w ((w.alloc (.cells #[.int .i64 a, .int .i64 b, .int .i64 c] 50)).alloc (.cells #[.int .i64 x, .int .i64 y, .int .i64 z] 50)) := by (repeat (first | exact Below.refl _ _ | refine Below.alloc ?_ (by first | omega | (simp; done) | (simp; omega)) _ | refine Below.setCell ?_ (by first | omega | (simp; done) | (simp; omega)) _ | refine Below.drew ?_))
  have q1' : Rd encI w.heap.size ((w.alloc (.cells #[.int .i64 a, .int .i64 b, .int .i64 c] 50)).alloc (.cells #[.int .i64 x, .int .i64 y, .int .i64 z] 50)) (some ⟨w.heap.size, 0, none⟩) [a, b, c] := q1.below ((Below.refl _ _).alloc (Nat.le_refl _) _) (Nat.le_refl _)
  have q2' : Rd encI (w.heap.size + 1) ((w.alloc (.cells #[.int .i64 a, .int .i64 b, .int .i64 c] 50)).alloc (.cells #[.int .i64 x, .int .i64 y, .int .i64 z] 50)) (some ⟨w.heap.size + 1, 0, none⟩) [x, y, z] := by simpa using q2
  have Q1 : Hid (∀ n, Calls Try.prog 77 #[.slice (some ⟨w.heap.size, 0, none⟩) 3 3, .slice (some ⟨w.heap.size + 1, 0, none⟩) 3 3] (((w.alloc (.cells #[.int .i64 a, .int .i64 b, .int .i64 c] 50)).alloc (.cells #[.int .i64 x, .int .i64 y, .int .i64 z] 50)).drewN n) fun e w' => e = .returned (.int .i64 (cmpL [a, b, c] [x, y, z])) ∧ ∃ m, w' = ((w.alloc (.cells #[.int .i64 a, .int .i64 b, .int .i64 c] 50)).alloc (.cells #[.int .i64 x, .int .i64 y, .int .i64 z] 50)).drewN m) := fun n =>
    Calls.quiet_of_same (slicesCompare_any (some ⟨w.heap.size, 0, none⟩) (some ⟨w.heap.size + 1, 0, none⟩) 3 3 [a, b, c] [x, y, z] _ _ _ q1' q2' (by simp) (by simp))
  have HB := Lib.hid hb
  clear q1 q2 q1' q2' hb
  show Calls Try.prog 101 #[.agg #[.int .i64 a, .int .i64 b, .int .i64 c], .agg #[.int .i64 x, .int .i64 y, .int .i64 z]] w fun e w' => e = .returned (.int .i64 (cmpL [a, b, c] [x, y, z])) ∧ Below w.heap.size w w'
  generalize cmpL [a, b, c] [x, y, z] = r at *
  go_enter Try.func101, Try.ntmps101
  go_wp2
  go_quiet ((go_at_call 77; exact Q1.out _))
  go_wp2
  go_ret
  exact ⟨rfl, below_drewN HB.out _⟩

/-- Two blocks more, and draws, in the sort's words. -/
theorem grow_two (w : World) (o o' : Obj) (n : Nat) : ((w.alloc o).alloc o').drewN n = grow (w.drewN n) #[o, o'] := by
  show ((({ w with heap := (w.heap.push o) } : World).heap.push o' |> fun h => ({ w with heap := h } : World)).drewN n) = _
  simp [grow, World.drewN]
  apply Array.ext'
  simp

set_option maxHeartbeats 4000000 in
set_option maxRecDepth 100000 in
theorem compare_grow (s t : T3) (w : World) :
    Calls Try.prog 101 #[encT s, encT t] w fun e w' => e = .returned (.int .i64 (cmpL s.l t.l)) ∧ ∃ q os', w' = grow (w.drewN q) os' := by
  obtain ⟨a, b, c⟩ := s
  obtain ⟨x, y, z⟩ := t
  have q1 := Rd.lit (enc := encI) (w := w) (t := 50) [a, b, c]
  have q2 := Rd.lit (enc := encI) (w := w.alloc (.cells #[.int .i64 a, .int .i64 b, .int .i64 c] 50)) (t := 50) [x, y, z]
  have hb : Below w.heap.size w ((w.alloc (.cells #[.int .i64 a, .int .i64 b, .int .i64 c] 50)).alloc (.cells #[.int .i64 x, .int .i64 y, .int .i64 z] 50)) := by (repeat (first | exact Below.refl _ _ | refine Below.alloc ?_ (by first | omega | (simp; done) | (simp; omega)) _ | refine Below.setCell ?_ (by first | omega | (simp; done) | (simp; omega)) _ | refine Below.drew ?_))
  have q1' : Rd encI w.heap.size ((w.alloc (.cells #[.int .i64 a, .int .i64 b, .int .i64 c] 50)).alloc (.cells #[.int .i64 x, .int .i64 y, .int .i64 z] 50)) (some ⟨w.heap.size, 0, none⟩) [a, b, c] := q1.below ((Below.refl _ _).alloc (Nat.le_refl _) _) (Nat.le_refl _)
  have q2' : Rd encI (w.heap.size + 1) ((w.alloc (.cells #[.int .i64 a, .int .i64 b, .int .i64 c] 50)).alloc (.cells #[.int .i64 x, .int .i64 y, .int .i64 z] 50)) (some ⟨w.heap.size + 1, 0, none⟩) [x, y, z] := by simpa using q2
  have Q1 : Hid (∀ n, Calls Try.prog 77 #[.slice (some ⟨w.heap.size, 0, none⟩) 3 3, .slice (some ⟨w.heap.size + 1, 0, none⟩) 3 3] (((w.alloc (.cells #[.int .i64 a, .int .i64 b, .int .i64 c] 50)).alloc (.cells #[.int .i64 x, .int .i64 y, .int .i64 z] 50)).drewN n) fun e w' => e = .returned (.int .i64 (cmpL [a, b, c] [x, y, z])) ∧ ∃ m, w' = ((w.alloc (.cells #[.int .i64 a, .int .i64 b, .int .i64 c] 50)).alloc (.cells #[.int .i64 x, .int .i64 y, .int .i64 z] 50)).drewN m) := fun n =>
    Calls.quiet_of_same (slicesCompare_any (some ⟨w.heap.size, 0, none⟩) (some ⟨w.heap.size + 1, 0, none⟩) 3 3 [a, b, c] [x, y, z] _ _ _ q1' q2' (by simp) (by simp))
  have HB := Lib.hid hb
  clear q1 q2 q1' q2' hb
  show Calls Try.prog 101 #[.agg #[.int .i64 a, .int .i64 b, .int .i64 c], .agg #[.int .i64 x, .int .i64 y, .int .i64 z]] w fun e w' => e = .returned (.int .i64 (cmpL [a, b, c] [x, y, z])) ∧ ∃ q os', w' = grow (w.drewN q) os'
  generalize cmpL [a, b, c] [x, y, z] = r at *
  go_enter Try.func101, Try.ntmps101
  go_wp2
  go_quiet ((go_at_call 77; exact Q1.out _))
  go_wp2
  go_ret
  exact ⟨rfl, _, _, grow_two _ _ _ _⟩

set_option maxHeartbeats 4000000 in
set_option maxRecDepth 100000 in
theorem triLess_any (s t : T3) (w : World) :
    Calls Try.prog 56 #[encT s, encT t] w fun e w' => e = .returned (.bool (decide (cmpL s.l t.l < 0))) ∧ Below w.heap.size w w' := by
  have k := fun W => compare_any s t W
  have K := Lib.hid k
  clear k
  obtain ⟨a, b, c⟩ := s
  obtain ⟨x, y, z⟩ := t
  generalize cmpL (T3.l ⟨a, b, c⟩) (T3.l ⟨x, y, z⟩) = r at *
  simp only [encT] at *
  go_enter Try.func56, Try.ntmps56
  go_wp2_with fail
  refine (K.out _).mono ?_
  rintro e w1 ⟨rfl, hb⟩
  have hb' : Below w.heap.size w w1 := below_up (w1 := (w.alloc (.cells #[.int .i64 a, .int .i64 b, .int .i64 c] 50)).alloc (.cells #[.int .i64 x, .int .i64 y, .int .i64 z] 50)) (by (repeat (first | exact Below.refl _ _ | refine Below.alloc ?_ (by first | omega | (simp; done) | (simp; omega)) _ | refine Below.setCell ?_ (by first | omega | (simp; done) | (simp; omega)) _ | refine Below.drew ?_))) hb
  clear hb
  go_wp2
  go_ret
  exact ⟨rfl, hb'⟩

/-- The document's order of triples. -/
def ltT (s t : T3) : Bool := if s.a ≠ t.a then decide (s.a < t.a) else if s.b ≠ t.b then decide (s.b < t.b) else decide (s.c < t.c)

theorem ltT_cmp (s t : T3) : decide (cmpL s.l t.l < 0) = ltT s t := by
  obtain ⟨a, b, c⟩ := s
  obtain ⟨x, y, z⟩ := t
  simp only [T3.l, cmpL, ltT]
  repeat' split
  all_goals (first | rfl | (simp; omega) | omega | (exfalso; omega))

end Go.Proofs.Ytojecaeblgghjaa
