/-
  orient.filter AT THE CORNER OF THE AXES: -1. (Printed by mkfilter.py: the float operations that it meets there, each by the kernel.)
-/
import Derived.Test.YtojecaeblgghjaaPts
set_option linter.unusedVariables false
set_option linter.unusedSimpArgs false
namespace Go.Proofs.Ytojecaeblgghjaa
open Go.RowKit Go.Sort LsP

theorem bits_run (x : Nat) : ∀ W : World, (callFunc 200 #[.float .f64 x]).run Try.prog W = .ok (.value (.int .u64 x)) W := fun _ => by kernel_rfl
theorem frombits_run (x : Nat) : ∀ W : World, (callFunc 199 #[.int .u64 x]).run Try.prog W = .ok (.value (.float .f64 x)) W := fun _ => by kernel_rfl

set_option maxHeartbeats 4000000 in
set_option maxRecDepth 100000 in
/-- math.Abs, of a word of which the sign's striking is known. -/
theorem abs_any (x y : Nat) (h : bits BinOp.andNot IntKind.u64 (x : Int) 9223372036854775808 = (y : Int)) (w : World) :
    Calls Try.prog 185 #[.float .f64 x] w fun e w' => e = .returned (.float .f64 y) ∧ w' = w := by
  have h1 := bits_run x
  have h2 := frombits_run y
  go_enter Try.func185, Try.ntmps185
  go_wp2
  go_ret
  exact ⟨rfl, rfl⟩

set_option maxHeartbeats 4000000 in
set_option maxRecDepth 100000 in
/-- A point as three floats. -/
theorem conv_any (a b c : Int) (fa fb fc : Nat) (ha : ∀ W : World, (convert 3 190 (.int .i64 a)).run Try.prog W = .ok (.float .f64 fa) W) (hb : ∀ W : World, (convert 3 190 (.int .i64 b)).run Try.prog W = .ok (.float .f64 fb) W)
    (hc : ∀ W : World, (convert 3 190 (.int .i64 c)).run Try.prog W = .ok (.float .f64 fc) W) (w : World) :
    Calls Try.prog 184 #[.agg #[.int .i64 a, .int .i64 b, .int .i64 c]] w fun e w' => e = .returned (.tuple #[.float .f64 fa, .float .f64 fb, .float .f64 fc]) ∧ Below w.heap.size w w' := by
  go_enter Try.func184, Try.ntmps184
  go_wp2
  go_quiet (fail)
  go_wp2
  go_ret3
  exact ⟨rfl, below_drewN (by (repeat (first | exact Below.refl _ _ | refine Below.alloc ?_ (by first | omega | (simp; done) | (simp; omega)) _ | refine Below.setCell ?_ (by first | omega | (simp; done) | (simp; omega)) _ | refine Below.drew ?_))) _⟩

set_option maxHeartbeats 40000000 in
set_option maxRecDepth 100000 in
theorem filterUnit_any (w : World) :
    Calls Try.prog 159 #[.agg #[.int .i64 (0), .int .i64 (0), .int .i64 (-1)], .agg #[.int .i64 (1), .int .i64 (0), .int .i64 (-1)], .agg #[.int .i64 (0), .int .i64 (1), .int .i64 (-1)]] w fun e w' => e = .returned (.int .i64 (-1)) ∧ Below w.heap.size w w' := by
  have m0 : ∀ W : World, (binOp .add 190 (.float .f64 0) (.float .f64 0)).run Try.prog W = .ok (.float .f64 0) W := fun _ => by kernel_rfl
  have m1 : ∀ W : World, (binOp .add 190 (.float .f64 0) (.float .f64 13830554455654793216)).run Try.prog W = .ok (.float .f64 13830554455654793216) W := fun _ => by kernel_rfl
  have m2 : ∀ W : World, (binOp .add 190 (.float .f64 0) (.float .f64 4607182418800017408)).run Try.prog W = .ok (.float .f64 4607182418800017408) W := fun _ => by kernel_rfl
  have m3 : ∀ W : World, (binOp .add 190 (.float .f64 4607182418800017408) (.float .f64 0)).run Try.prog W = .ok (.float .f64 4607182418800017408) W := fun _ => by kernel_rfl
  have m4 : ∀ W : World, (binOp .gtr 190 (.float .f64 13830554455654793216) (.float .f64 4391009636686233600)).run Try.prog W = .ok (.bool false) W := fun _ => by kernel_rfl
  have m5 : ∀ W : World, (binOp .lss 190 (.float .f64 13830554455654793216) (.float .f64 13614381673541009408)).run Try.prog W = .ok (.bool true) W := fun _ => by kernel_rfl
  have m6 : ∀ W : World, (binOp .mul 190 (.float .f64 0) (.float .f64 0)).run Try.prog W = .ok (.float .f64 0) W := fun _ => by kernel_rfl
  have m7 : ∀ W : World, (binOp .mul 190 (.float .f64 0) (.float .f64 13830554455654793216)).run Try.prog W = .ok (.float .f64 9223372036854775808) W := fun _ => by kernel_rfl
  have m8 : ∀ W : World, (binOp .mul 190 (.float .f64 0) (.float .f64 4607182418800017408)).run Try.prog W = .ok (.float .f64 0) W := fun _ => by kernel_rfl
  have m9 : ∀ W : World, (binOp .mul 190 (.float .f64 13830554455654793216) (.float .f64 0)).run Try.prog W = .ok (.float .f64 9223372036854775808) W := fun _ => by kernel_rfl
  have m10 : ∀ W : World, (binOp .mul 190 (.float .f64 13830554455654793216) (.float .f64 4607182418800017408)).run Try.prog W = .ok (.float .f64 13830554455654793216) W := fun _ => by kernel_rfl
  have m11 : ∀ W : World, (binOp .mul 190 (.float .f64 4607182418800017408) (.float .f64 13830554455654793216)).run Try.prog W = .ok (.float .f64 13830554455654793216) W := fun _ => by kernel_rfl
  have m12 : ∀ W : World, (binOp .mul 190 (.float .f64 4607182418800017408) (.float .f64 4391009636686233600)).run Try.prog W = .ok (.float .f64 4391009636686233600) W := fun _ => by kernel_rfl
  have m13 : ∀ W : World, (binOp .mul 190 (.float .f64 4607182418800017408) (.float .f64 4607182418800017408)).run Try.prog W = .ok (.float .f64 4607182418800017408) W := fun _ => by kernel_rfl
  have m14 : ∀ W : World, (Op.unary .neg (.float .f64 4391009636686233600)).run Try.prog W = .ok (.float .f64 13614381673541009408) W := fun _ => by kernel_rfl
  have m15 : ∀ W : World, (binOp .sub 190 (.float .f64 4607182418800017408) (.float .f64 0)).run Try.prog W = .ok (.float .f64 4607182418800017408) W := fun _ => by kernel_rfl
  have m16 : ∀ W : World, (binOp .sub 190 (.float .f64 9223372036854775808) (.float .f64 13830554455654793216)).run Try.prog W = .ok (.float .f64 4607182418800017408) W := fun _ => by kernel_rfl
  have a0 := fun W => abs_any 0 0 (by decide +kernel) W
  have a4607182418800017408 := fun W => abs_any 4607182418800017408 4607182418800017408 (by decide +kernel) W
  have a9223372036854775808 := fun W => abs_any 9223372036854775808 0 (by decide +kernel) W
  have a13830554455654793216 := fun W => abs_any 13830554455654793216 4607182418800017408 (by decide +kernel) W
  have c0 := fun W => conv_any (0) (0) (-1) 0 0 13830554455654793216 (fun _ => by kernel_rfl) (fun _ => by kernel_rfl) (fun _ => by kernel_rfl) W
  have c1 := fun W => conv_any (1) (0) (-1) 4607182418800017408 0 13830554455654793216 (fun _ => by kernel_rfl) (fun _ => by kernel_rfl) (fun _ => by kernel_rfl) W
  have c2 := fun W => conv_any (0) (1) (-1) 0 4607182418800017408 13830554455654793216 (fun _ => by kernel_rfl) (fun _ => by kernel_rfl) (fun _ => by kernel_rfl) W
  have T := True.intro
  have C0 := Lib.hid c0
  have C1 := Lib.hid c1
  have C2 := Lib.hid c2
  have A0 := Lib.hid a0
  have A4607182418800017408 := Lib.hid a4607182418800017408
  have A9223372036854775808 := Lib.hid a9223372036854775808
  have A13830554455654793216 := Lib.hid a13830554455654793216
  clear c0 c1 c2 a0 a4607182418800017408 a9223372036854775808 a13830554455654793216
  go_enter Try.func159, Try.ntmps159
  go_wp2_with fail
  obtain ⟨W0, hW0⟩ : ∃ W0, W0 = ((w.alloc (.cells #[.int .i64 (0), .int .i64 (0), .int .i64 (-1)] 109)).alloc (.cells #[.int .i64 (1), .int .i64 (0), .int .i64 (-1)] 109)).alloc (.cells #[.int .i64 (0), .int .i64 (1), .int .i64 (-1)] 109) := ⟨_, rfl⟩
  have bb : Below w.heap.size w W0 := by rw [hW0]; (repeat (first | exact Below.refl _ _ | refine Below.alloc ?_ (by first | omega | (simp; done) | (simp; omega)) _ | refine Below.setCell ?_ (by first | omega | (simp; done) | (simp; omega)) _ | refine Below.drew ?_))
  have r1 : W0.heap[w.heap.size + 1]? = some (.cells #[.int .i64 (1), .int .i64 (0), .int .i64 (-1)] 109 (0, 0)) := by rw [hW0]; exact (Below.heap_alloc _ _ _ (by simp)).trans (new1 w _ _)
  have r2 : W0.heap[w.heap.size + 2]? = some (.cells #[.int .i64 (0), .int .i64 (1), .int .i64 (-1)] 109 (0, 0)) := by rw [hW0]; have := new1 (w.alloc (.cells #[.int .i64 (0), .int .i64 (0), .int .i64 (-1)] 109)) (.cells #[.int .i64 (1), .int .i64 (0), .int .i64 (-1)] 109) (.cells #[.int .i64 (0), .int .i64 (1), .int .i64 (-1)] 109); simpa using this
  have sz : W0.heap.size = w.heap.size + 3 := by rw [hW0]; simp
  rw [← hW0]
  clear hW0
  refine (C0.out _).mono ?_
  rintro e w1 ⟨rfl, hb1⟩
  have r1' := (hb1.block _ (by omega)).trans r1
  have r2' := (hb1.block _ (by omega)).trans r2
  have bb1 := below_up bb hb1
  have sz1 := hb1.size
  obtain ⟨d0, d1, d2, _⟩ := row3 r1'
  clear r1 r2 r1' hb1 bb
  go_wp2_with fail
  refine (C1.out _).mono ?_
  rintro e w2 ⟨rfl, hb2⟩
  have r2 := (hb2.block _ (by omega)).trans r2'
  have bb2 := below_up bb1 hb2
  obtain ⟨d0, d1, d2, _⟩ := row3 r2
  clear r2 r2' hb2 bb1
  go_wp2_with fail
  refine (C2.out _).mono ?_
  rintro e w3 ⟨rfl, hb3⟩
  have bb3 := below_up bb2 hb3
  clear hb3 bb2
  go_wp2_with fail
  refine (A0.out _).mono ?_
  rintro e w' ⟨rfl, rfl⟩
  go_wp2_with fail
  refine (A9223372036854775808.out _).mono ?_
  rintro e w' ⟨rfl, rfl⟩
  go_wp2_with fail
  refine (A13830554455654793216.out _).mono ?_
  rintro e w' ⟨rfl, rfl⟩
  go_wp2_with fail
  refine (A0.out _).mono ?_
  rintro e w' ⟨rfl, rfl⟩
  go_wp2_with fail
  refine (A9223372036854775808.out _).mono ?_
  rintro e w' ⟨rfl, rfl⟩
  go_wp2_with fail
  refine (A13830554455654793216.out _).mono ?_
  rintro e w' ⟨rfl, rfl⟩
  go_wp2_with fail
  refine (A13830554455654793216.out _).mono ?_
  rintro e w' ⟨rfl, rfl⟩
  go_wp2_with fail
  refine (A4607182418800017408.out _).mono ?_
  rintro e w' ⟨rfl, rfl⟩
  go_wp2_with fail
  refine (A0.out _).mono ?_
  rintro e w' ⟨rfl, rfl⟩
  go_wp2
  go_ret
  exact ⟨rfl, bb3⟩
end Go.Proofs.Ytojecaeblgghjaa
