/-
  slices.Compact AT TRIPLES.
-/
import Derived.Test.YtojecaeblgghjaaGreatTriM
import Derived.Lib.SliceRun
import Derived.Deep.LoopGhost
import Derived.Deep.QuietTactic
import Derived.BigQuiet
set_option linter.unusedVariables false
set_option linter.unusedSimpArgs false
namespace Go.Proofs.YtojecaeblgghjaaGreat
open Go.RowKit Go.Sort LsP
open Go.Lib (compact compactUpTo keeps compactUpTo_succ CompInv compactUpTo_all keeps_lt_one keeps_neg keeps_pos range_map_get)

theorem eqTri_in (s t : T3) (w : World) : (Op.equalIn 10000 24 (encT s) (encT t)).run Tryz.prog w = .ok (decide (s = t)) w := by
  obtain ⟨a, b, c⟩ := s
  obtain ⟨x, y, z⟩ := t
  have u3 := Tryz.underlying3
  have a3 := Tryz.isAgg3
  have z3 := Tryz.sizeOf3
  rw [show (10000 : Nat) = 9999 + 1 from rfl, Op.equalIn]
  simp only [Sem.run_bind, run_underlying Tryz.underlying24, Result.andThen_ok]
  simp only [Std.Legacy.Range.forIn_eq_forIn_range', Std.Legacy.Range.size, Nat.sub_zero, Nat.add_sub_cancel, Nat.div_one, List.range'_succ, List.range'_zero, List.forIn_cons, List.forIn_nil, encT]
  go_simp
  by_cases h1 : a = x <;> by_cases h2 : b = y <;> by_cases h3 : c = z <;> simp [h1, h2, h3]

theorem eqT_run (s t : T3) : ∀ W : World, (binOp .eql 24 (encT s) (encT t)).run Tryz.prog W = .ok (.bool (decide (s = t))) W := fun W => by
  rw [show encT s = .agg #[.int .i64 s.a, .int .i64 s.b, .int .i64 s.c] from rfl, show encT t = .agg #[.int .i64 t.a, .int .i64 t.b, .int .i64 t.c] from rfl, run_eql_struct]
  have := eqTri_in s t W
  rw [show encT s = .agg #[.int .i64 s.a, .int .i64 s.b, .int .i64 s.c] from rfl, show encT t = .agg #[.int .i64 t.a, .int .i64 t.b, .int .i64 t.c] from rfl] at this
  rw [this]
  rfl

theorem neT_run (s t : T3) : ∀ W : World, (binOp .neq 24 (encT s) (encT t)).run Tryz.prog W = .ok (.bool (!decide (s = t))) W := fun W => by
  rw [show encT s = .agg #[.int .i64 s.a, .int .i64 s.b, .int .i64 s.c] from rfl, show encT t = .agg #[.int .i64 t.a, .int .i64 t.b, .int .i64 t.c] from rfl, run_neq_struct]
  have := eqTri_in s t W
  rw [show encT s = .agg #[.int .i64 s.a, .int .i64 s.b, .int .i64 s.c] from rfl, show encT t = .agg #[.int .i64 t.a, .int .i64 t.b, .int .i64 t.c] from rfl] at this
  rw [this]
  rfl

end Go.Proofs.YtojecaeblgghjaaGreat
