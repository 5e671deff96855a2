/-
  CONTRACTS AT TRIPLES: Canon, Turn, edge, Edges, of the program and of the document's answer.
-/
import Derived.Test.YtojecaeblgghjaaCmp
import Derived.LoopN
import Derived.Laws.Cover1
import Derived.OneCell
set_option linter.unusedVariables false
set_option linter.unusedSimpArgs false
namespace Go.Proofs.Ytojecaeblgghjaa
open Go.RowKit Go.Sort LsP

/-- A triple. -/
structure T3 where
  a : Int
  b : Int
  c : Int
  deriving DecidableEq, Inhabited, Repr

abbrev encT (t : T3) : Value := .agg #[.int .i64 t.a, .int .i64 t.b, .int .i64 t.c]

/-- The turning with the least number first. -/
def canon (t : T3) : T3 :=
  if t.b < t.a then (if t.c < t.b then ⟨t.c, t.a, t.b⟩ else ⟨t.b, t.c, t.a⟩) else (if t.c < t.a then ⟨t.c, t.a, t.b⟩ else t)

theorem idx0 (a b c d e f : Int) : ∀ W : World, (Instr.index 112 (.agg #[.int .i64 a, .int .i64 b, .int .i64 c, .int .i64 d, .int .i64 e, .int .i64 f]) (.int .i64 0)).run Try.prog W = .ok (.agg #[.int .i64 a, .int .i64 b, .int .i64 c]) W := fun _ => by kernel_rfl
theorem idx1 (a b c d e f : Int) : ∀ W : World, (Instr.index 112 (.agg #[.int .i64 a, .int .i64 b, .int .i64 c, .int .i64 d, .int .i64 e, .int .i64 f]) (.int .i64 1)).run Try.prog W = .ok (.agg #[.int .i64 d, .int .i64 e, .int .i64 f]) W := fun _ => by kernel_rfl


set_option maxHeartbeats 2000000 in
set_option maxRecDepth 100000 in
theorem canon_any (a b c : Int) (w : World) :
    Calls Try.prog 53 #[.agg #[.int .i64 a, .int .i64 b, .int .i64 c]] w fun e w' => e = .returned (encT (canon ⟨a, b, c⟩)) ∧ Below w.heap.size w w' := by
  have x0 := idx0 b c a c a b
  have x1 := idx1 b c a c a b
  by_cases h1 : b < a
  · by_cases h2 : c < b
    · have hc : canon ⟨a, b, c⟩ = ⟨c, a, b⟩ := by first | (simp only [canon]; repeat (first | rfl | rw [if_pos (by omega)] | rw [if_neg (by omega)])) | skip
      rw [hc]
      clear hc
      go_enter Try.func53, Try.ntmps53
      go_wp2
      refine wp_loop_rounds 3 ?_
      rw [rounds_succ]
      go_wp2
      rw [rounds_succ]
      go_wp2
      rw [rounds_succ]
      go_wp2
      exact bodyPost_ret (v := .agg #[.int .i64 c, .int .i64 a, .int .i64 b]) (by simp [results, Try.results53, go_sem]) rfl ⟨rfl, by (repeat (first | exact Below.refl _ _ | refine Below.alloc ?_ (by first | omega | (simp; done) | (simp; omega)) _ | refine Below.setCell ?_ (by first | omega | (simp; done) | (simp; omega)) _ | refine Below.drew ?_))⟩
    · have hc : canon ⟨a, b, c⟩ = ⟨b, c, a⟩ := by first | (simp only [canon]; repeat (first | rfl | rw [if_pos (by omega)] | rw [if_neg (by omega)])) | skip
      rw [hc]
      clear hc
      go_enter Try.func53, Try.ntmps53
      go_wp2
      refine wp_loop_rounds 3 ?_
      rw [rounds_succ]
      go_wp2
      rw [rounds_succ]
      go_wp2
      rw [rounds_succ]
      go_wp2
      exact bodyPost_ret (v := .agg #[.int .i64 b, .int .i64 c, .int .i64 a]) (by simp [results, Try.results53, go_sem]) rfl ⟨rfl, by (repeat (first | exact Below.refl _ _ | refine Below.alloc ?_ (by first | omega | (simp; done) | (simp; omega)) _ | refine Below.setCell ?_ (by first | omega | (simp; done) | (simp; omega)) _ | refine Below.drew ?_))⟩
  · by_cases h2 : c < a
    · have hc : canon ⟨a, b, c⟩ = ⟨c, a, b⟩ := by first | (simp only [canon]; repeat (first | rfl | rw [if_pos (by omega)] | rw [if_neg (by omega)])) | skip
      rw [hc]
      clear hc
      go_enter Try.func53, Try.ntmps53
      go_wp2
      refine wp_loop_rounds 3 ?_
      rw [rounds_succ]
      go_wp2
      rw [rounds_succ]
      go_wp2
      rw [rounds_succ]
      go_wp2
      exact bodyPost_ret (v := .agg #[.int .i64 c, .int .i64 a, .int .i64 b]) (by simp [results, Try.results53, go_sem]) rfl ⟨rfl, by (repeat (first | exact Below.refl _ _ | refine Below.alloc ?_ (by first | omega | (simp; done) | (simp; omega)) _ | refine Below.setCell ?_ (by first | omega | (simp; done) | (simp; omega)) _ | refine Below.drew ?_))⟩
    · have hc : canon ⟨a, b, c⟩ = ⟨a, b, c⟩ := by first | (simp only [canon]; repeat (first | rfl | rw [if_pos (by omega)] | rw [if_neg (by omega)])) | skip
      rw [hc]
      clear hc
      go_enter Try.func53, Try.ntmps53
      go_wp2
      refine wp_loop_rounds 3 ?_
      rw [rounds_succ]
      go_wp2
      rw [rounds_succ]
      go_wp2
      rw [rounds_succ]
      go_wp2
      exact bodyPost_ret (v := .agg #[.int .i64 a, .int .i64 b, .int .i64 c]) (by simp [results, Try.results53, go_sem]) rfl ⟨rfl, by (repeat (first | exact Below.refl _ _ | refine Below.alloc ?_ (by first | omega | (simp; done) | (simp; omega)) _ | refine Below.setCell ?_ (by first | omega | (simp; done) | (simp; omega)) _ | refine Below.drew ?_))⟩

set_option maxHeartbeats 2000000 in
set_option maxRecDepth 100000 in
theorem refCanon_any (a b c : Int) (w : World) :
    Calls Try.prog 64 #[.agg #[.int .i64 a, .int .i64 b, .int .i64 c]] w fun e w' => e = .returned (encT (canon ⟨a, b, c⟩)) ∧ Below w.heap.size w w' := by
  obtain ⟨m, hm⟩ : ∃ m, (if c < (if b < a then b else a) then c else (if b < a then b else a)) = m := ⟨_, rfl⟩
  have hmin : ∀ W : World, (Builtin.min_ #[3, 3, 3] 3 #[.int .i64 a, .int .i64 b, .int .i64 c]).run Try.prog W = .ok (.int .i64 m) W := fun W => by rw [run_min_int3, hm]
  by_cases h1 : b < a
  · rw [if_pos h1] at hm
    by_cases h2 : c < b
    · rw [if_pos h2] at hm; subst hm
      have e1 : (a == c) = false := by simp; omega
      have e2 : (b == c) = false := by simp; omega
      have hc : canon ⟨a, b, c⟩ = ⟨c, a, b⟩ := by (simp only [canon]; repeat (first | rfl | rw [if_pos (by omega)] | rw [if_neg (by omega)]))
      rw [hc]
      clear hc
      go_enter Try.func64, Try.ntmps64
      go_wp2
      exact bodyPost_ret (v := .agg #[.int .i64 c, .int .i64 a, .int .i64 b]) (by simp [results, Try.results64, go_sem]) rfl ⟨rfl, by (repeat (first | exact Below.refl _ _ | refine Below.alloc ?_ (by first | omega | (simp; done) | (simp; omega)) _ | refine Below.setCell ?_ (by first | omega | (simp; done) | (simp; omega)) _ | refine Below.drew ?_))⟩
    · rw [if_neg h2] at hm; subst hm
      have e1 : (a == b) = false := by simp; omega
      have e2 : (b == b) = true := by simp
      have hc : canon ⟨a, b, c⟩ = ⟨b, c, a⟩ := by (simp only [canon]; repeat (first | rfl | rw [if_pos (by omega)] | rw [if_neg (by omega)]))
      rw [hc]
      clear hc
      go_enter Try.func64, Try.ntmps64
      go_wp2
      exact bodyPost_ret (v := .agg #[.int .i64 b, .int .i64 c, .int .i64 a]) (by simp [results, Try.results64, go_sem]) rfl ⟨rfl, by (repeat (first | exact Below.refl _ _ | refine Below.alloc ?_ (by first | omega | (simp; done) | (simp; omega)) _ | refine Below.setCell ?_ (by first | omega | (simp; done) | (simp; omega)) _ | refine Below.drew ?_))⟩
  · rw [if_neg h1] at hm
    by_cases h2 : c < a
    · rw [if_pos h2] at hm; subst hm
      have e1 : (a == c) = false := by simp; omega
      have e2 : (b == c) = false := by simp; omega
      have hc : canon ⟨a, b, c⟩ = ⟨c, a, b⟩ := by (simp only [canon]; repeat (first | rfl | rw [if_pos (by omega)] | rw [if_neg (by omega)]))
      rw [hc]
      clear hc
      go_enter Try.func64, Try.ntmps64
      go_wp2
      exact bodyPost_ret (v := .agg #[.int .i64 c, .int .i64 a, .int .i64 b]) (by simp [results, Try.results64, go_sem]) rfl ⟨rfl, by (repeat (first | exact Below.refl _ _ | refine Below.alloc ?_ (by first | omega | (simp; done) | (simp; omega)) _ | refine Below.setCell ?_ (by first | omega | (simp; done) | (simp; omega)) _ | refine Below.drew ?_))⟩
    · rw [if_neg h2] at hm; subst hm
      have e1 : (a == a) = true := by simp
      have hc : canon ⟨a, b, c⟩ = ⟨a, b, c⟩ := by (simp only [canon]; repeat (first | rfl | rw [if_pos (by omega)] | rw [if_neg (by omega)]))
      rw [hc]
      clear hc
      go_enter Try.func64, Try.ntmps64
      go_wp2
      exact bodyPost_ret (v := .agg #[.int .i64 a, .int .i64 b, .int .i64 c]) (by simp [results, Try.results64, go_sem]) rfl ⟨rfl, by (repeat (first | exact Below.refl _ _ | refine Below.alloc ?_ (by first | omega | (simp; done) | (simp; omega)) _ | refine Below.setCell ?_ (by first | omega | (simp; done) | (simp; omega)) _ | refine Below.drew ?_))⟩
end Go.Proofs.Ytojecaeblgghjaa
