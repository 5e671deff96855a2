/-
  Merged: FilterUnit, SignUnit, SignAxes, OutAxes.
-/
import Derived.Test.YtojecaeblgghjaaPts
import Derived.Deep.RegionHeld3

/-
  orient.filter AT THE CORNER OF THE AXES: -1. (Printed by mkfilter.py: the float operations that it meets there, each by the kernel.)
-/
set_option linter.unusedVariables false
set_option linter.unusedSimpArgs false
namespace Go.Proofs.Ytojecaeblgghjaa
open Go.RowKit Go.Sort LsP

theorem bits_run (x : Nat) : ∀ W : World, (callFunc 200 #[.float .f64 x]).run Try.prog W = .ok (.value (.int .u64 x)) W := fun _ => by kernel_rfl
theorem frombits_run (x : Nat) : ∀ W : World, (callFunc 199 #[.int .u64 x]).run Try.prog W = .ok (.value (.float .f64 x)) W := fun _ => by kernel_rfl

set_option maxHeartbeats 4000000 in
set_option maxRecDepth 100000 in
/-- math.Abs, of a word of which the sign's striking is known. -/
theorem abs_any (x y : Nat) (h : bits BinOp.andNot IntKind.u64 (x : Int) 9223372036854775808 = (y : Int)) (w : World) :
    Calls Try.prog 185 #[.float .f64 x] w fun e w' => e = .returned (.float .f64 y) ∧ w' = w := by
  have h1 := bits_run x
  have h2 := frombits_run y
  go_enter Try.func185, Try.ntmps185
  go_wp2
  go_ret
  exact ⟨rfl, rfl⟩

set_option maxHeartbeats 4000000 in
set_option maxRecDepth 100000 in
/-- A point as three floats. -/
theorem conv_any (a b c : Int) (fa fb fc : Nat) (ha : ∀ W : World, (convert 3 190 (.int .i64 a)).run Try.prog W = .ok (.float .f64 fa) W) (hb : ∀ W : World, (convert 3 190 (.int .i64 b)).run Try.prog W = .ok (.float .f64 fb) W)
    (hc : ∀ W : World, (convert 3 190 (.int .i64 c)).run Try.prog W = .ok (.float .f64 fc) W) (w : World) :
    Calls Try.prog 184 #[.agg #[.int .i64 a, .int .i64 b, .int .i64 c]] w fun e w' => e = .returned (.tuple #[.float .f64 fa, .float .f64 fb, .float .f64 fc]) ∧ Below w.heap.size w w' := by
  go_enter Try.func184, Try.ntmps184
  go_wp2
  go_quiet (fail)
  go_wp2
  go_ret3
  exact ⟨rfl, below_drewN (by (repeat (first | exact Below.refl _ _ | refine Below.alloc ?_ (by first | omega | (simp; done) | (simp; omega)) _ | refine Below.setCell ?_ (by first | omega | (simp; done) | (simp; omega)) _ | refine Below.drew ?_))) _⟩

set_option maxHeartbeats 40000000 in
set_option maxRecDepth 100000 in
theorem filterUnit_any (w : World) :
    Calls Try.prog 159 #[.agg #[.int .i64 (0), .int .i64 (0), .int .i64 (-1)], .agg #[.int .i64 (1), .int .i64 (0), .int .i64 (-1)], .agg #[.int .i64 (0), .int .i64 (1), .int .i64 (-1)]] w fun e w' => e = .returned (.int .i64 (-1)) ∧ Below w.heap.size w w' := by
  have m0 : ∀ W : World, (binOp .add 190 (.float .f64 0) (.float .f64 0)).run Try.prog W = .ok (.float .f64 0) W := fun _ => by kernel_rfl
  have m1 : ∀ W : World, (binOp .add 190 (.float .f64 0) (.float .f64 13830554455654793216)).run Try.prog W = .ok (.float .f64 13830554455654793216) W := fun _ => by kernel_rfl
  have m2 : ∀ W : World, (binOp .add 190 (.float .f64 0) (.float .f64 4607182418800017408)).run Try.prog W = .ok (.float .f64 4607182418800017408) W := fun _ => by kernel_rfl
  have m3 : ∀ W : World, (binOp .add 190 (.float .f64 4607182418800017408) (.float .f64 0)).run Try.prog W = .ok (.float .f64 4607182418800017408) W := fun _ => by kernel_rfl
  have m4 : ∀ W : World, (binOp .gtr 190 (.float .f64 13830554455654793216) (.float .f64 4391009636686233600)).run Try.prog W = .ok (.bool false) W := fun _ => by kernel_rfl
  have m5 : ∀ W : World, (binOp .lss 190 (.float .f64 13830554455654793216) (.float .f64 13614381673541009408)).run Try.prog W = .ok (.bool true) W := fun _ => by kernel_rfl
  have m6 : ∀ W : World, (binOp .mul 190 (.float .f64 0) (.float .f64 0)).run Try.prog W = .ok (.float .f64 0) W := fun _ => by kernel_rfl
  have m7 : ∀ W : World, (binOp .mul 190 (.float .f64 0) (.float .f64 13830554455654793216)).run Try.prog W = .ok (.float .f64 9223372036854775808) W := fun _ => by kernel_rfl
  have m8 : ∀ W : World, (binOp .mul 190 (.float .f64 0) (.float .f64 4607182418800017408)).run Try.prog W = .ok (.float .f64 0) W := fun _ => by kernel_rfl
  have m9 : ∀ W : World, (binOp .mul 190 (.float .f64 13830554455654793216) (.float .f64 0)).run Try.prog W = .ok (.float .f64 9223372036854775808) W := fun _ => by kernel_rfl
  have m10 : ∀ W : World, (binOp .mul 190 (.float .f64 13830554455654793216) (.float .f64 4607182418800017408)).run Try.prog W = .ok (.float .f64 13830554455654793216) W := fun _ => by kernel_rfl
  have m11 : ∀ W : World, (binOp .mul 190 (.float .f64 4607182418800017408) (.float .f64 13830554455654793216)).run Try.prog W = .ok (.float .f64 13830554455654793216) W := fun _ => by kernel_rfl
  have m12 : ∀ W : World, (binOp .mul 190 (.float .f64 4607182418800017408) (.float .f64 4391009636686233600)).run Try.prog W = .ok (.float .f64 4391009636686233600) W := fun _ => by kernel_rfl
  have m13 : ∀ W : World, (binOp .mul 190 (.float .f64 4607182418800017408) (.float .f64 4607182418800017408)).run Try.prog W = .ok (.float .f64 4607182418800017408) W := fun _ => by kernel_rfl
  have m14 : ∀ W : World, (Op.unary .neg (.float .f64 4391009636686233600)).run Try.prog W = .ok (.float .f64 13614381673541009408) W := fun _ => by kernel_rfl
  have m15 : ∀ W : World, (binOp .sub 190 (.float .f64 4607182418800017408) (.float .f64 0)).run Try.prog W = .ok (.float .f64 4607182418800017408) W := fun _ => by kernel_rfl
  have m16 : ∀ W : World, (binOp .sub 190 (.float .f64 9223372036854775808) (.float .f64 13830554455654793216)).run Try.prog W = .ok (.float .f64 4607182418800017408) W := fun _ => by kernel_rfl
  have a0 := fun W => abs_any 0 0 (by decide +kernel) W
  have a4607182418800017408 := fun W => abs_any 4607182418800017408 4607182418800017408 (by decide +kernel) W
  have a9223372036854775808 := fun W => abs_any 9223372036854775808 0 (by decide +kernel) W
  have a13830554455654793216 := fun W => abs_any 13830554455654793216 4607182418800017408 (by decide +kernel) W
  have c0 := fun W => conv_any (0) (0) (-1) 0 0 13830554455654793216 (fun _ => by kernel_rfl) (fun _ => by kernel_rfl) (fun _ => by kernel_rfl) W
  have c1 := fun W => conv_any (1) (0) (-1) 4607182418800017408 0 13830554455654793216 (fun _ => by kernel_rfl) (fun _ => by kernel_rfl) (fun _ => by kernel_rfl) W
  have c2 := fun W => conv_any (0) (1) (-1) 0 4607182418800017408 13830554455654793216 (fun _ => by kernel_rfl) (fun _ => by kernel_rfl) (fun _ => by kernel_rfl) W
  have T := True.intro
  have C0 := Lib.hid c0
  have C1 := Lib.hid c1
  have C2 := Lib.hid c2
  have A0 := Lib.hid a0
  have A4607182418800017408 := Lib.hid a4607182418800017408
  have A9223372036854775808 := Lib.hid a9223372036854775808
  have A13830554455654793216 := Lib.hid a13830554455654793216
  clear c0 c1 c2 a0 a4607182418800017408 a9223372036854775808 a13830554455654793216
  go_enter Try.func159, Try.ntmps159
  go_wp2_with fail
  obtain ⟨W0, hW0⟩ : ∃ W0, W0 = ((w.alloc (.cells #[.int .i64 (0), .int .i64 (0), .int .i64 (-1)] 109)).alloc (.cells #[.int .i64 (1), .int .i64 (0), .int .i64 (-1)] 109)).alloc (.cells #[.int .i64 (0), .int .i64 (1), .int .i64 (-1)] 109) := ⟨_, rfl⟩
  have bb : Below w.heap.size w W0 := by rw [hW0]; (repeat (first | exact Below.refl _ _ | refine Below.alloc ?_ (by first | omega | (simp; done) | (simp; omega)) _ | refine Below.setCell ?_ (by first | omega | (simp; done) | (simp; omega)) _ | refine Below.drew ?_))
  have r1 : W0.heap[w.heap.size + 1]? = some (.cells #[.int .i64 (1), .int .i64 (0), .int .i64 (-1)] 109 (0, 0)) := by rw [hW0]; exact (Below.heap_alloc _ _ _ (by simp)).trans (new1 w _ _)
  have r2 : W0.heap[w.heap.size + 2]? = some (.cells #[.int .i64 (0), .int .i64 (1), .int .i64 (-1)] 109 (0, 0)) := by rw [hW0]; have := new1 (w.alloc (.cells #[.int .i64 (0), .int .i64 (0), .int .i64 (-1)] 109)) (.cells #[.int .i64 (1), .int .i64 (0), .int .i64 (-1)] 109) (.cells #[.int .i64 (0), .int .i64 (1), .int .i64 (-1)] 109); simpa using this
  have sz : W0.heap.size = w.heap.size + 3 := by rw [hW0]; simp
  rw [← hW0]
  clear hW0
  refine (C0.out _).mono ?_
  rintro e w1 ⟨rfl, hb1⟩
  have r1' := (hb1.block _ (by omega)).trans r1
  have r2' := (hb1.block _ (by omega)).trans r2
  have bb1 := below_up bb hb1
  have sz1 := hb1.size
  obtain ⟨d0, d1, d2, _⟩ := row3 r1'
  clear r1 r2 r1' hb1 bb
  go_wp2_with fail
  refine (C1.out _).mono ?_
  rintro e w2 ⟨rfl, hb2⟩
  have r2 := (hb2.block _ (by omega)).trans r2'
  have bb2 := below_up bb1 hb2
  obtain ⟨d0, d1, d2, _⟩ := row3 r2
  clear r2 r2' hb2 bb1
  go_wp2_with fail
  refine (C2.out _).mono ?_
  rintro e w3 ⟨rfl, hb3⟩
  have bb3 := below_up bb2 hb3
  clear hb3 bb2
  go_wp2_with fail
  refine (A0.out _).mono ?_
  rintro e w' ⟨rfl, rfl⟩
  go_wp2_with fail
  refine (A9223372036854775808.out _).mono ?_
  rintro e w' ⟨rfl, rfl⟩
  go_wp2_with fail
  refine (A13830554455654793216.out _).mono ?_
  rintro e w' ⟨rfl, rfl⟩
  go_wp2_with fail
  refine (A0.out _).mono ?_
  rintro e w' ⟨rfl, rfl⟩
  go_wp2_with fail
  refine (A9223372036854775808.out _).mono ?_
  rintro e w' ⟨rfl, rfl⟩
  go_wp2_with fail
  refine (A13830554455654793216.out _).mono ?_
  rintro e w' ⟨rfl, rfl⟩
  go_wp2_with fail
  refine (A13830554455654793216.out _).mono ?_
  rintro e w' ⟨rfl, rfl⟩
  go_wp2_with fail
  refine (A4607182418800017408.out _).mono ?_
  rintro e w' ⟨rfl, rfl⟩
  go_wp2_with fail
  refine (A0.out _).mono ?_
  rintro e w' ⟨rfl, rfl⟩
  go_wp2
  go_ret
  exact ⟨rfl, bb3⟩
end Go.Proofs.Ytojecaeblgghjaa

/-
  orient.sign AT THE CORNER OF THE AXES: -1.
-/
set_option linter.unusedVariables false
set_option linter.unusedSimpArgs false
namespace Go.Proofs.Ytojecaeblgghjaa
open Go.RowKit Go.Sort LsP

theorem less0 (W : World) : Calls Try.prog 160 #[.agg #[.int .i64 0, .int .i64 0, .int .i64 0], .agg #[.int .i64 0, .int .i64 0, .int .i64 1]] W fun e w' => e = .returned (.agg #[.int .i64 0, .int .i64 0, .int .i64 (-1)]) ∧ Below W.heap.size W w' :=
  ptLess_any 0 0 0 0 0 1 W (by decide) (by decide) (by decide) (by decide) (by decide) (by decide)
theorem less1' (W : World) : Calls Try.prog 160 #[.agg #[.int .i64 1, .int .i64 0, .int .i64 0], .agg #[.int .i64 0, .int .i64 0, .int .i64 1]] W fun e w' => e = .returned (.agg #[.int .i64 1, .int .i64 0, .int .i64 (-1)]) ∧ Below W.heap.size W w' :=
  ptLess_any 1 0 0 0 0 1 W (by decide) (by decide) (by decide) (by decide) (by decide) (by decide)
theorem less2 (W : World) : Calls Try.prog 160 #[.agg #[.int .i64 0, .int .i64 1, .int .i64 0], .agg #[.int .i64 0, .int .i64 0, .int .i64 1]] W fun e w' => e = .returned (.agg #[.int .i64 0, .int .i64 1, .int .i64 (-1)]) ∧ Below W.heap.size W w' :=
  ptLess_any 0 1 0 0 0 1 W (by decide) (by decide) (by decide) (by decide) (by decide) (by decide)

abbrev axes : Array Value := #[.int .i64 0, .int .i64 0, .int .i64 0, .int .i64 1, .int .i64 0, .int .i64 0, .int .i64 0, .int .i64 1, .int .i64 0, .int .i64 0, .int .i64 0, .int .i64 1]

theorem axesRow {w : World} {b : Nat} {t : TypeId} (h : w.heap[b]? = some (.cells axes t (0, 0))) :
    w.cell? ⟨b, 0, none⟩ = some (.int .i64 0) ∧ w.cell? ⟨b, 1, none⟩ = some (.int .i64 0) ∧ w.cell? ⟨b, 2, none⟩ = some (.int .i64 0) ∧
    w.cell? ⟨b, 3, none⟩ = some (.int .i64 1) ∧ w.cell? ⟨b, 4, none⟩ = some (.int .i64 0) ∧ w.cell? ⟨b, 5, none⟩ = some (.int .i64 0) ∧
    w.cell? ⟨b, 6, none⟩ = some (.int .i64 0) ∧ w.cell? ⟨b, 7, none⟩ = some (.int .i64 1) ∧ w.cell? ⟨b, 8, none⟩ = some (.int .i64 0) ∧
    w.cell? ⟨b, 9, none⟩ = some (.int .i64 0) ∧ w.cell? ⟨b, 10, none⟩ = some (.int .i64 0) ∧ w.cell? ⟨b, 11, none⟩ = some (.int .i64 1) := by
  simp [World.cell?, h]

set_option maxHeartbeats 40000000 in
set_option maxRecDepth 100000 in
theorem signUnit_any (w : World) :
    Calls Try.prog 126 #[.agg axes] w fun e w' => e = .returned (.int .i64 (-1)) ∧ Below w.heap.size w w' := by
  have r0 := heap_alloc_new w (.cells axes 134)
  have hb : Below w.heap.size w (w.alloc (.cells axes 134)) := (Below.refl w.heap.size w).alloc (Nat.le_refl _) _
  have hs : (w.alloc (.cells axes 134)).heap.size = w.heap.size + 1 := by simp
  simp only [axes] at *
  go_enter Try.func126, Try.ntmps126
  go_wp2_with fail
  generalize w.alloc (.cells #[.int .i64 0, .int .i64 0, .int .i64 0, .int .i64 1, .int .i64 0, .int .i64 0, .int .i64 0, .int .i64 1, .int .i64 0, .int .i64 0, .int .i64 0, .int .i64 1] 134) = W0 at *
  have r0' : W0.drew.heap[w.heap.size]? = some (.cells axes 134 (0, 0)) := r0
  obtain ⟨k0, k1, k2, k3, k4, k5, k6, k7, k8, k9, k10, k11⟩ := axesRow r0'
  have sz : w.heap.size + 1 ≤ W0.drew.heap.size := by show _ ≤ W0.heap.size; omega
  have bb := Below.drew hb
  have rr := Lib.hid r0'
  clear r0 r0' hs hb
  go_region_held3 (fun w' => w'.cell? ⟨w.heap.size, 0, none⟩ = some (.int .i64 0) ∧ w'.cell? ⟨w.heap.size, 1, none⟩ = some (.int .i64 0) ∧ w'.cell? ⟨w.heap.size, 2, none⟩ = some (.int .i64 0) ∧
      w'.cell? ⟨w.heap.size, 3, none⟩ = some (.int .i64 1) ∧ w'.cell? ⟨w.heap.size, 4, none⟩ = some (.int .i64 0) ∧ w'.cell? ⟨w.heap.size, 5, none⟩ = some (.int .i64 0) ∧
      w'.cell? ⟨w.heap.size, 6, none⟩ = some (.int .i64 0) ∧ w'.cell? ⟨w.heap.size, 7, none⟩ = some (.int .i64 1) ∧ w'.cell? ⟨w.heap.size, 8, none⟩ = some (.int .i64 0) ∧
      w'.cell? ⟨w.heap.size, 9, none⟩ = some (.int .i64 0) ∧ w'.cell? ⟨w.heap.size, 10, none⟩ = some (.int .i64 0) ∧ w'.cell? ⟨w.heap.size, 11, none⟩ = some (.int .i64 1))
    (first
      | with_reducible exact ⟨k0, k1, k2, k3, k4, k5, k6, k7, k8, k9, k10, k11⟩)
    (first
      | (go_at_call 160
         first | with_reducible refine (less0 _).mono ?_ | with_reducible refine (less1' _).mono ?_ | with_reducible refine (less2 _).mono ?_
         rintro e w1 ⟨rfl, hb1⟩
         have rr := Lib.hid ((hb1.block w.heap.size (Nat.lt_of_lt_of_le (Nat.lt_succ_self _) sz)).trans rr.out)
         obtain ⟨k0, k1, k2, k3, k4, k5, k6, k7, k8, k9, k10, k11⟩ := axesRow rr.out
         have bb := below_up bb hb1
         have sz := Nat.le_trans sz hb1.size)
      | (go_at_call 159
         refine (filterUnit_any _).mono ?_
         rintro e w1 ⟨rfl, hb1⟩
         have rr := Lib.hid ((hb1.block w.heap.size (Nat.lt_of_lt_of_le (Nat.lt_succ_self _) sz)).trans rr.out)
         obtain ⟨k0, k1, k2, k3, k4, k5, k6, k7, k8, k9, k10, k11⟩ := axesRow rr.out
         have bb := below_up bb hb1
         have sz := Nat.le_trans sz hb1.size))
  go_wp2
  go_ret
  exact ⟨rfl, bb⟩
end Go.Proofs.Ytojecaeblgghjaa

/-
  orient.Sign OF THE CORNER OF THE AXES at the four calls of facet.Seed. (Printed by mksign.py.)
-/
set_option linter.unusedVariables false
set_option linter.unusedSimpArgs false
namespace Go.Proofs.Ytojecaeblgghjaa
open Go.RowKit Go.Sort LsP

/-- The world under a letter, with what is known of it. -/
theorem with_world {P : Program} {c : Code} {Q : Exit → Act → World → Prop} {a : Act} {w : World} (S : World → Prop) (h : S w) (k : ∀ w', S w' → c.wp P Q a w') : c.wp P Q a w := k w h


/-- Four cells of one's own. -/
structure Four (w0 : World) (n : Nat) (a b c d : Int) (w : World) : Prop where
  c0 : w.cell? ⟨n, 0, none⟩ = some (.int .i64 a)
  c1 : w.cell? ⟨n, 1, none⟩ = some (.int .i64 b)
  c2 : w.cell? ⟨n, 2, none⟩ = some (.int .i64 c)
  c3 : w.cell? ⟨n, 3, none⟩ = some (.int .i64 d)
  f0 : w.frozen? ⟨n, 0, none⟩ = false
  f1 : w.frozen? ⟨n, 1, none⟩ = false
  f2 : w.frozen? ⟨n, 2, none⟩ = false
  f3 : w.frozen? ⟨n, 3, none⟩ = false
  bl : Below n w0 w
  lt : n < w.heap.size

/-- The four points' block under way. -/
structure P4 (w0 : World) (g : Nat) (cs : Array Value) (w : World) : Prop where
  row : w.heap[g]? = some (.cells cs 134 (0, 0))
  bl : Below w0.heap.size w0 w

theorem row12 {w : World} {b : Nat} {v0 v1 v2 v3 v4 v5 v6 v7 v8 v9 v10 v11 : Value} {t : TypeId} (h : w.heap[b]? = some (.cells #[v0, v1, v2, v3, v4, v5, v6, v7, v8, v9, v10, v11] t (0, 0))) :
    (w.cell? ⟨b, 0, none⟩ = some v0 ∧ w.cell? ⟨b, 1, none⟩ = some v1 ∧ w.cell? ⟨b, 2, none⟩ = some v2 ∧ w.cell? ⟨b, 3, none⟩ = some v3 ∧ w.cell? ⟨b, 4, none⟩ = some v4 ∧ w.cell? ⟨b, 5, none⟩ = some v5 ∧
    w.cell? ⟨b, 6, none⟩ = some v6 ∧ w.cell? ⟨b, 7, none⟩ = some v7 ∧ w.cell? ⟨b, 8, none⟩ = some v8 ∧ w.cell? ⟨b, 9, none⟩ = some v9 ∧ w.cell? ⟨b, 10, none⟩ = some v10 ∧ w.cell? ⟨b, 11, none⟩ = some v11) ∧
    ∀ j, w.frozen? ⟨b, j, none⟩ = false := by
  simp [World.cell?, World.frozen?, h]

theorem mayU0 (W : World) : Calls Try.prog 125 #[.agg #[.int .i64 0, .int .i64 0, .int .i64 0]] W fun e w' => e = .returned (.bool true) ∧ Below W.heap.size W w' := may_any 0 0 0 W
theorem mayU1 (W : World) : Calls Try.prog 125 #[.agg #[.int .i64 1, .int .i64 0, .int .i64 0]] W fun e w' => e = .returned (.bool true) ∧ Below W.heap.size W w' := may_any 1 0 0 W
theorem mayU2 (W : World) : Calls Try.prog 125 #[.agg #[.int .i64 0, .int .i64 1, .int .i64 0]] W fun e w' => e = .returned (.bool true) ∧ Below W.heap.size W w' := may_any 0 1 0 W
theorem mayU3 (W : World) : Calls Try.prog 125 #[.agg #[.int .i64 0, .int .i64 0, .int .i64 1]] W fun e w' => e = .returned (.bool true) ∧ Below W.heap.size W w' := may_any 0 0 1 W

set_option maxHeartbeats 40000000 in
set_option maxRecDepth 100000 in
theorem signAxes0 (b c : Nat) (w : World) (h : w.heap[b]? = some (.cells axes 109 (0, 0))) :
    Calls Try.prog 97 #[.slice (some ⟨b, 0, none⟩) 4 c, .int .i64 1, .int .i64 2, .int .i64 3, .int .i64 0] w fun e w' => e = .returned (.tuple #[.int .i64 (1), .int .i64 0]) ∧ Below w.heap.size w w' := by
  obtain ⟨k0, k1, k2, k3, k4, k5, k6, k7, k8, k9, k10, k11⟩ := axesRow h
  have hlt : b < w.heap.size := by
    rcases Nat.lt_or_ge b w.heap.size with h' | h'
    · exact h'
    · rw [Array.getElem?_eq_none h'] at h; cases h
  have H := Lib.hid h
  clear h
  have x0 : ∀ W : World, (Instr.index 133 (.agg #[.int .i64 1, .int .i64 2, .int .i64 3, .int .i64 0]) (.int .i64 0)).run Try.prog W = .ok (.int .i64 1) W := fun _ => by kernel_rfl
  have x1 : ∀ W : World, (Instr.index 133 (.agg #[.int .i64 1, .int .i64 2, .int .i64 3, .int .i64 0]) (.int .i64 1)).run Try.prog W = .ok (.int .i64 2) W := fun _ => by kernel_rfl
  have x2 : ∀ W : World, (Instr.index 133 (.agg #[.int .i64 1, .int .i64 2, .int .i64 3, .int .i64 0]) (.int .i64 2)).run Try.prog W = .ok (.int .i64 3) W := fun _ => by kernel_rfl
  have x3 : ∀ W : World, (Instr.index 133 (.agg #[.int .i64 1, .int .i64 2, .int .i64 3, .int .i64 0]) (.int .i64 3)).run Try.prog W = .ok (.int .i64 0) W := fun _ => by kernel_rfl
  have y0 : ∀ W : World, (Instr.index 133 (.agg #[.int .i64 0, .int .i64 1, .int .i64 2, .int .i64 3]) (.int .i64 0)).run Try.prog W = .ok (.int .i64 0) W := fun _ => by kernel_rfl
  have y1 : ∀ W : World, (Instr.index 133 (.agg #[.int .i64 0, .int .i64 1, .int .i64 2, .int .i64 3]) (.int .i64 1)).run Try.prog W = .ok (.int .i64 1) W := fun _ => by kernel_rfl
  have y2 : ∀ W : World, (Instr.index 133 (.agg #[.int .i64 0, .int .i64 1, .int .i64 2, .int .i64 3]) (.int .i64 2)).run Try.prog W = .ok (.int .i64 2) W := fun _ => by kernel_rfl
  have y3 : ∀ W : World, (Instr.index 133 (.agg #[.int .i64 0, .int .i64 1, .int .i64 2, .int .i64 3]) (.int .i64 3)).run Try.prog W = .ok (.int .i64 3) W := fun _ => by kernel_rfl
  go_enter Try.func97, Try.ntmps97
  go_wp2
  refine wp_loop_rounds 5 ?_
  rw [rounds_succ]
  go_wp2
  refine wp_loop_rounds 1 ?_
  rw [rounds_succ]
  go_wp2
  rw [rounds_succ]
  go_wp2
  refine wp_loop_rounds 2 ?_
  rw [rounds_succ]
  go_wp2
  rw [rounds_succ]
  go_wp2
  rw [rounds_succ]
  go_wp2
  refine wp_loop_rounds 3 ?_
  rw [rounds_succ]
  go_wp2
  rw [rounds_succ]
  go_wp2
  rw [rounds_succ]
  go_wp2
  rw [rounds_succ]
  go_wp2
  refine wp_loop_rounds 4 ?_
  rw [rounds_succ]
  go_wp2
  rw [rounds_succ]
  go_wp2
  rw [rounds_succ]
  go_wp2
  rw [rounds_succ]
  go_wp2
  rw [rounds_succ]
  go_wp2
  refine wp_loop_rounds 4 ?_
  rw [rounds_succ]
  go_wp2
  refine wp_loop_rounds 4 ?_
  rw [rounds_succ]
  go_wp2
  go_quiet (fail)
  go_wp2
  rw [rounds_succ]
  go_wp2
  go_quiet (fail)
  go_wp2
  rw [rounds_succ]
  go_wp2
  go_quiet (fail)
  go_wp2
  go_region
  go_wp2
  rw [rounds_succ]
  refine with_world (Four w w.heap.size 1 2 0 3) ⟨by simp [go_sem, *], by simp [go_sem, *], by simp [go_sem, *], by simp [go_sem, *], by simp [go_sem, *], by simp [go_sem, *], by simp [go_sem, *], by simp [go_sem, *], by (repeat (first | with_reducible assumption | exact Below.refl _ _ | refine below_drewN ?_ _ | refine Below.drew ?_ | refine Below.alloc ?_ (by first | omega | (simp; done) | (simp; omega)) _ | refine Below.setCell ?_ (by first | omega | (simp; done) | (simp; omega)) _)), by first | (simp [go_sem, *]; done) | (simp; omega)⟩ ?_
  rintro W ⟨c0, c1, c2, c3, f0, f1, f2, f3, bl, lt⟩
  go_wp2
  rw [rounds_succ]
  go_wp2
  refine wp_loop_rounds 4 ?_
  rw [rounds_succ]
  go_wp2
  go_quiet (fail)
  go_wp2
  rw [rounds_succ]
  go_wp2
  go_quiet (fail)
  go_wp2
  go_region
  go_wp2
  rw [rounds_succ]
  refine with_world (Four w w.heap.size 1 0 2 3) ⟨by simp [go_sem, *], by simp [go_sem, *], by simp [go_sem, *], by simp [go_sem, *], by simp [go_sem, *], by simp [go_sem, *], by simp [go_sem, *], by simp [go_sem, *], by (repeat (first | with_reducible assumption | exact Below.refl _ _ | refine below_drewN ?_ _ | refine Below.drew ?_ | refine Below.alloc ?_ (by first | omega | (simp; done) | (simp; omega)) _ | refine Below.setCell ?_ (by first | omega | (simp; done) | (simp; omega)) _)), by first | (simp [go_sem, *]; done) | (simp; omega)⟩ ?_
  rintro W ⟨c0, c1, c2, c3, f0, f1, f2, f3, bl, lt⟩
  go_wp2
  go_quiet (fail)
  go_wp2
  rw [rounds_succ]
  go_wp2
  rw [rounds_succ]
  go_wp2
  refine wp_loop_rounds 4 ?_
  rw [rounds_succ]
  go_wp2
  go_quiet (fail)
  go_wp2
  go_region
  go_wp2
  rw [rounds_succ]
  refine with_world (Four w w.heap.size 0 1 2 3) ⟨by simp [go_sem, *], by simp [go_sem, *], by simp [go_sem, *], by simp [go_sem, *], by simp [go_sem, *], by simp [go_sem, *], by simp [go_sem, *], by simp [go_sem, *], by (repeat (first | with_reducible assumption | exact Below.refl _ _ | refine below_drewN ?_ _ | refine Below.drew ?_ | refine Below.alloc ?_ (by first | omega | (simp; done) | (simp; omega)) _ | refine Below.setCell ?_ (by first | omega | (simp; done) | (simp; omega)) _)), by first | (simp [go_sem, *]; done) | (simp; omega)⟩ ?_
  rintro W ⟨c0, c1, c2, c3, f0, f1, f2, f3, bl, lt⟩
  go_wp2
  go_quiet (fail)
  go_wp2
  rw [rounds_succ]
  go_wp2
  go_quiet (fail)
  go_wp2
  rw [rounds_succ]
  go_wp2
  rw [rounds_succ]
  refine with_world (Four w w.heap.size 0 1 2 3) ⟨by simp [go_sem, *], by simp [go_sem, *], by simp [go_sem, *], by simp [go_sem, *], by simp [go_sem, *], by simp [go_sem, *], by simp [go_sem, *], by simp [go_sem, *], by (repeat (first | with_reducible assumption | exact Below.refl _ _ | refine below_drewN ?_ _ | refine Below.drew ?_ | refine Below.alloc ?_ (by first | omega | (simp; done) | (simp; omega)) _ | refine Below.setCell ?_ (by first | omega | (simp; done) | (simp; omega)) _)), by first | (simp [go_sem, *]; done) | (simp; omega)⟩ ?_
  clear k0 k1 k2 k3 k4 k5 k6 k7 k8 k9 k10 k11
  rintro W ⟨c0, c1, c2, c3, f0, f1, f2, f3, bl, lt⟩
  obtain ⟨k0, k1, k2, k3, k4, k5, k6, k7, k8, k9, k10, k11⟩ := axesRow ((bl.block b hlt).trans H.out)
  have hbW : b < W.heap.size := by omega
  go_wp2
  refine wp_loop_rounds 5 ?_
  rw [rounds_succ]
  refine with_world (P4 w W.heap.size #[.int .i64 0, .int .i64 0, .int .i64 0, .int .i64 0, .int .i64 0, .int .i64 0, .int .i64 0, .int .i64 0, .int .i64 0, .int .i64 0, .int .i64 0, .int .i64 0]) ⟨heap_alloc_new _ _, by (repeat (first | with_reducible assumption | exact Below.refl _ _ | refine below_drewN ?_ _ | refine Below.drew ?_ | refine Below.alloc ?_ (by first | omega | (simp; done) | (simp; omega)) _ | refine Below.setCell ?_ (by first | omega | (simp; done) | (simp; omega)) _))⟩ ?_
  clear k0 k1 k2 k3 k4 k5 k6 k7 k8 k9 k10 k11 c0 c1 c2 c3 f0 f1 f2 f3 bl
  rintro V ⟨r, bv⟩
  obtain ⟨k0, k1, k2, k3, k4, k5, k6, k7, k8, k9, k10, k11⟩ := axesRow ((bv.block b hlt).trans H.out)
  obtain ⟨⟨d0, d1, d2, d3, d4, d5, d6, d7, d8, d9, d10, d11⟩, ff⟩ := row12 r
  have lg := lt_of_block r
  go_wp2_with fail
  refine (mayU0 _).mono ?_
  rintro e V1 ⟨rfl, hb⟩
  have r1 := (hb.block W.heap.size lg).trans r
  have bv1 := below_up bv hb
  have lg1 := Nat.lt_of_lt_of_le lg hb.size
  clear k0 k1 k2 k3 k4 k5 k6 k7 k8 k9 k10 k11 d0 d1 d2 d3 d4 d5 d6 d7 d8 d9 d10 d11 ff r bv lg hb
  have r := r1
  have bv := bv1
  have lg := lg1
  clear r1 bv1 lg1
  obtain ⟨k0, k1, k2, k3, k4, k5, k6, k7, k8, k9, k10, k11⟩ := axesRow ((bv.block b hlt).trans H.out)
  obtain ⟨⟨d0, d1, d2, d3, d4, d5, d6, d7, d8, d9, d10, d11⟩, ff⟩ := row12 r
  go_wp2
  rw [rounds_succ]
  refine with_world (P4 w W.heap.size #[.int .i64 0, .int .i64 0, .int .i64 0, .int .i64 0, .int .i64 0, .int .i64 0, .int .i64 0, .int .i64 0, .int .i64 0, .int .i64 0, .int .i64 0, .int .i64 0]) ⟨by have := heap_setCell_same _ _ 2 _ _ (.int .i64 0) (heap_setCell_same _ _ 1 _ _ (.int .i64 0) (heap_setCell_same _ _ 0 _ _ (.int .i64 0) r)); simpa using this, by (repeat (first | with_reducible assumption | exact Below.refl _ _ | refine below_drewN ?_ _ | refine Below.drew ?_ | refine Below.alloc ?_ (by first | omega | (simp; done) | (simp; omega)) _ | refine Below.setCell ?_ (by first | omega | (simp; done) | (simp; omega)) _))⟩ ?_
  clear k0 k1 k2 k3 k4 k5 k6 k7 k8 k9 k10 k11 d0 d1 d2 d3 d4 d5 d6 d7 d8 d9 d10 d11 ff r bv lg
  rintro V ⟨r, bv⟩
  obtain ⟨k0, k1, k2, k3, k4, k5, k6, k7, k8, k9, k10, k11⟩ := axesRow ((bv.block b hlt).trans H.out)
  obtain ⟨⟨d0, d1, d2, d3, d4, d5, d6, d7, d8, d9, d10, d11⟩, ff⟩ := row12 r
  have lg := lt_of_block r
  go_wp2_with fail
  refine (mayU1 _).mono ?_
  rintro e V1 ⟨rfl, hb⟩
  have r1 := (hb.block W.heap.size lg).trans r
  have bv1 := below_up bv hb
  have lg1 := Nat.lt_of_lt_of_le lg hb.size
  clear k0 k1 k2 k3 k4 k5 k6 k7 k8 k9 k10 k11 d0 d1 d2 d3 d4 d5 d6 d7 d8 d9 d10 d11 ff r bv lg hb
  have r := r1
  have bv := bv1
  have lg := lg1
  clear r1 bv1 lg1
  obtain ⟨k0, k1, k2, k3, k4, k5, k6, k7, k8, k9, k10, k11⟩ := axesRow ((bv.block b hlt).trans H.out)
  obtain ⟨⟨d0, d1, d2, d3, d4, d5, d6, d7, d8, d9, d10, d11⟩, ff⟩ := row12 r
  go_wp2
  rw [rounds_succ]
  refine with_world (P4 w W.heap.size #[.int .i64 0, .int .i64 0, .int .i64 0, .int .i64 1, .int .i64 0, .int .i64 0, .int .i64 0, .int .i64 0, .int .i64 0, .int .i64 0, .int .i64 0, .int .i64 0]) ⟨by have := heap_setCell_same _ _ 5 _ _ (.int .i64 0) (heap_setCell_same _ _ 4 _ _ (.int .i64 0) (heap_setCell_same _ _ 3 _ _ (.int .i64 1) r)); simpa using this, by (repeat (first | with_reducible assumption | exact Below.refl _ _ | refine below_drewN ?_ _ | refine Below.drew ?_ | refine Below.alloc ?_ (by first | omega | (simp; done) | (simp; omega)) _ | refine Below.setCell ?_ (by first | omega | (simp; done) | (simp; omega)) _))⟩ ?_
  clear k0 k1 k2 k3 k4 k5 k6 k7 k8 k9 k10 k11 d0 d1 d2 d3 d4 d5 d6 d7 d8 d9 d10 d11 ff r bv lg
  rintro V ⟨r, bv⟩
  obtain ⟨k0, k1, k2, k3, k4, k5, k6, k7, k8, k9, k10, k11⟩ := axesRow ((bv.block b hlt).trans H.out)
  obtain ⟨⟨d0, d1, d2, d3, d4, d5, d6, d7, d8, d9, d10, d11⟩, ff⟩ := row12 r
  have lg := lt_of_block r
  go_wp2_with fail
  refine (mayU2 _).mono ?_
  rintro e V1 ⟨rfl, hb⟩
  have r1 := (hb.block W.heap.size lg).trans r
  have bv1 := below_up bv hb
  have lg1 := Nat.lt_of_lt_of_le lg hb.size
  clear k0 k1 k2 k3 k4 k5 k6 k7 k8 k9 k10 k11 d0 d1 d2 d3 d4 d5 d6 d7 d8 d9 d10 d11 ff r bv lg hb
  have r := r1
  have bv := bv1
  have lg := lg1
  clear r1 bv1 lg1
  obtain ⟨k0, k1, k2, k3, k4, k5, k6, k7, k8, k9, k10, k11⟩ := axesRow ((bv.block b hlt).trans H.out)
  obtain ⟨⟨d0, d1, d2, d3, d4, d5, d6, d7, d8, d9, d10, d11⟩, ff⟩ := row12 r
  go_wp2
  rw [rounds_succ]
  refine with_world (P4 w W.heap.size #[.int .i64 0, .int .i64 0, .int .i64 0, .int .i64 1, .int .i64 0, .int .i64 0, .int .i64 0, .int .i64 1, .int .i64 0, .int .i64 0, .int .i64 0, .int .i64 0]) ⟨by have := heap_setCell_same _ _ 8 _ _ (.int .i64 0) (heap_setCell_same _ _ 7 _ _ (.int .i64 1) (heap_setCell_same _ _ 6 _ _ (.int .i64 0) r)); simpa using this, by (repeat (first | with_reducible assumption | exact Below.refl _ _ | refine below_drewN ?_ _ | refine Below.drew ?_ | refine Below.alloc ?_ (by first | omega | (simp; done) | (simp; omega)) _ | refine Below.setCell ?_ (by first | omega | (simp; done) | (simp; omega)) _))⟩ ?_
  clear k0 k1 k2 k3 k4 k5 k6 k7 k8 k9 k10 k11 d0 d1 d2 d3 d4 d5 d6 d7 d8 d9 d10 d11 ff r bv lg
  rintro V ⟨r, bv⟩
  obtain ⟨k0, k1, k2, k3, k4, k5, k6, k7, k8, k9, k10, k11⟩ := axesRow ((bv.block b hlt).trans H.out)
  obtain ⟨⟨d0, d1, d2, d3, d4, d5, d6, d7, d8, d9, d10, d11⟩, ff⟩ := row12 r
  have lg := lt_of_block r
  go_wp2_with fail
  refine (mayU3 _).mono ?_
  rintro e V1 ⟨rfl, hb⟩
  have r1 := (hb.block W.heap.size lg).trans r
  have bv1 := below_up bv hb
  have lg1 := Nat.lt_of_lt_of_le lg hb.size
  clear k0 k1 k2 k3 k4 k5 k6 k7 k8 k9 k10 k11 d0 d1 d2 d3 d4 d5 d6 d7 d8 d9 d10 d11 ff r bv lg hb
  have r := r1
  have bv := bv1
  have lg := lg1
  clear r1 bv1 lg1
  obtain ⟨k0, k1, k2, k3, k4, k5, k6, k7, k8, k9, k10, k11⟩ := axesRow ((bv.block b hlt).trans H.out)
  obtain ⟨⟨d0, d1, d2, d3, d4, d5, d6, d7, d8, d9, d10, d11⟩, ff⟩ := row12 r
  go_wp2
  rw [rounds_succ]
  refine with_world (P4 w W.heap.size #[.int .i64 0, .int .i64 0, .int .i64 0, .int .i64 1, .int .i64 0, .int .i64 0, .int .i64 0, .int .i64 1, .int .i64 0, .int .i64 0, .int .i64 0, .int .i64 1]) ⟨by have := heap_setCell_same _ _ 11 _ _ (.int .i64 1) (heap_setCell_same _ _ 10 _ _ (.int .i64 0) (heap_setCell_same _ _ 9 _ _ (.int .i64 0) r)); simpa using this, by (repeat (first | with_reducible assumption | exact Below.refl _ _ | refine below_drewN ?_ _ | refine Below.drew ?_ | refine Below.alloc ?_ (by first | omega | (simp; done) | (simp; omega)) _ | refine Below.setCell ?_ (by first | omega | (simp; done) | (simp; omega)) _))⟩ ?_
  clear k0 k1 k2 k3 k4 k5 k6 k7 k8 k9 k10 k11 d0 d1 d2 d3 d4 d5 d6 d7 d8 d9 d10 d11 ff r bv lg
  rintro V ⟨r, bv⟩
  obtain ⟨k0, k1, k2, k3, k4, k5, k6, k7, k8, k9, k10, k11⟩ := axesRow ((bv.block b hlt).trans H.out)
  obtain ⟨⟨d0, d1, d2, d3, d4, d5, d6, d7, d8, d9, d10, d11⟩, ff⟩ := row12 r
  have lg := lt_of_block r
  go_wp2_with fail
  refine (signUnit_any _).mono ?_
  rintro e V1 ⟨rfl, hb⟩
  have bv1 := below_up bv hb
  clear k0 k1 k2 k3 k4 k5 k6 k7 k8 k9 k10 k11 d0 d1 d2 d3 d4 d5 d6 d7 d8 d9 d10 d11 ff r bv lg hb
  go_wp2
  go_ret2
  exact ⟨rfl, bv1⟩

set_option maxHeartbeats 40000000 in
set_option maxRecDepth 100000 in
theorem signAxes1 (b c : Nat) (w : World) (h : w.heap[b]? = some (.cells axes 109 (0, 0))) :
    Calls Try.prog 97 #[.slice (some ⟨b, 0, none⟩) 4 c, .int .i64 0, .int .i64 2, .int .i64 3, .int .i64 1] w fun e w' => e = .returned (.tuple #[.int .i64 (-1), .int .i64 0]) ∧ Below w.heap.size w w' := by
  obtain ⟨k0, k1, k2, k3, k4, k5, k6, k7, k8, k9, k10, k11⟩ := axesRow h
  have hlt : b < w.heap.size := by
    rcases Nat.lt_or_ge b w.heap.size with h' | h'
    · exact h'
    · rw [Array.getElem?_eq_none h'] at h; cases h
  have H := Lib.hid h
  clear h
  have x0 : ∀ W : World, (Instr.index 133 (.agg #[.int .i64 0, .int .i64 2, .int .i64 3, .int .i64 1]) (.int .i64 0)).run Try.prog W = .ok (.int .i64 0) W := fun _ => by kernel_rfl
  have x1 : ∀ W : World, (Instr.index 133 (.agg #[.int .i64 0, .int .i64 2, .int .i64 3, .int .i64 1]) (.int .i64 1)).run Try.prog W = .ok (.int .i64 2) W := fun _ => by kernel_rfl
  have x2 : ∀ W : World, (Instr.index 133 (.agg #[.int .i64 0, .int .i64 2, .int .i64 3, .int .i64 1]) (.int .i64 2)).run Try.prog W = .ok (.int .i64 3) W := fun _ => by kernel_rfl
  have x3 : ∀ W : World, (Instr.index 133 (.agg #[.int .i64 0, .int .i64 2, .int .i64 3, .int .i64 1]) (.int .i64 3)).run Try.prog W = .ok (.int .i64 1) W := fun _ => by kernel_rfl
  have y0 : ∀ W : World, (Instr.index 133 (.agg #[.int .i64 0, .int .i64 1, .int .i64 2, .int .i64 3]) (.int .i64 0)).run Try.prog W = .ok (.int .i64 0) W := fun _ => by kernel_rfl
  have y1 : ∀ W : World, (Instr.index 133 (.agg #[.int .i64 0, .int .i64 1, .int .i64 2, .int .i64 3]) (.int .i64 1)).run Try.prog W = .ok (.int .i64 1) W := fun _ => by kernel_rfl
  have y2 : ∀ W : World, (Instr.index 133 (.agg #[.int .i64 0, .int .i64 1, .int .i64 2, .int .i64 3]) (.int .i64 2)).run Try.prog W = .ok (.int .i64 2) W := fun _ => by kernel_rfl
  have y3 : ∀ W : World, (Instr.index 133 (.agg #[.int .i64 0, .int .i64 1, .int .i64 2, .int .i64 3]) (.int .i64 3)).run Try.prog W = .ok (.int .i64 3) W := fun _ => by kernel_rfl
  go_enter Try.func97, Try.ntmps97
  go_wp2
  refine wp_loop_rounds 5 ?_
  rw [rounds_succ]
  go_wp2
  refine wp_loop_rounds 1 ?_
  rw [rounds_succ]
  go_wp2
  rw [rounds_succ]
  go_wp2
  refine wp_loop_rounds 2 ?_
  rw [rounds_succ]
  go_wp2
  rw [rounds_succ]
  go_wp2
  rw [rounds_succ]
  go_wp2
  refine wp_loop_rounds 3 ?_
  rw [rounds_succ]
  go_wp2
  rw [rounds_succ]
  go_wp2
  rw [rounds_succ]
  go_wp2
  rw [rounds_succ]
  go_wp2
  refine wp_loop_rounds 4 ?_
  rw [rounds_succ]
  go_wp2
  rw [rounds_succ]
  go_wp2
  rw [rounds_succ]
  go_wp2
  rw [rounds_succ]
  go_wp2
  rw [rounds_succ]
  go_wp2
  refine wp_loop_rounds 4 ?_
  rw [rounds_succ]
  go_wp2
  refine wp_loop_rounds 4 ?_
  rw [rounds_succ]
  go_wp2
  go_quiet (fail)
  go_wp2
  rw [rounds_succ]
  go_wp2
  go_quiet (fail)
  go_wp2
  rw [rounds_succ]
  go_wp2
  go_quiet (fail)
  go_wp2
  go_region
  go_wp2
  rw [rounds_succ]
  refine with_world (Four w w.heap.size 0 2 1 3) ⟨by simp [go_sem, *], by simp [go_sem, *], by simp [go_sem, *], by simp [go_sem, *], by simp [go_sem, *], by simp [go_sem, *], by simp [go_sem, *], by simp [go_sem, *], by (repeat (first | with_reducible assumption | exact Below.refl _ _ | refine below_drewN ?_ _ | refine Below.drew ?_ | refine Below.alloc ?_ (by first | omega | (simp; done) | (simp; omega)) _ | refine Below.setCell ?_ (by first | omega | (simp; done) | (simp; omega)) _)), by first | (simp [go_sem, *]; done) | (simp; omega)⟩ ?_
  rintro W ⟨c0, c1, c2, c3, f0, f1, f2, f3, bl, lt⟩
  go_wp2
  rw [rounds_succ]
  go_wp2
  refine wp_loop_rounds 4 ?_
  rw [rounds_succ]
  go_wp2
  go_quiet (fail)
  go_wp2
  rw [rounds_succ]
  go_wp2
  go_quiet (fail)
  go_wp2
  go_region
  go_wp2
  rw [rounds_succ]
  refine with_world (Four w w.heap.size 0 1 2 3) ⟨by simp [go_sem, *], by simp [go_sem, *], by simp [go_sem, *], by simp [go_sem, *], by simp [go_sem, *], by simp [go_sem, *], by simp [go_sem, *], by simp [go_sem, *], by (repeat (first | with_reducible assumption | exact Below.refl _ _ | refine below_drewN ?_ _ | refine Below.drew ?_ | refine Below.alloc ?_ (by first | omega | (simp; done) | (simp; omega)) _ | refine Below.setCell ?_ (by first | omega | (simp; done) | (simp; omega)) _)), by first | (simp [go_sem, *]; done) | (simp; omega)⟩ ?_
  rintro W ⟨c0, c1, c2, c3, f0, f1, f2, f3, bl, lt⟩
  go_wp2
  go_quiet (fail)
  go_wp2
  rw [rounds_succ]
  go_wp2
  rw [rounds_succ]
  go_wp2
  refine wp_loop_rounds 4 ?_
  rw [rounds_succ]
  go_wp2
  go_quiet (fail)
  go_wp2
  rw [rounds_succ]
  go_wp2
  go_quiet (fail)
  go_wp2
  rw [rounds_succ]
  go_wp2
  go_quiet (fail)
  go_wp2
  rw [rounds_succ]
  go_wp2
  rw [rounds_succ]
  refine with_world (Four w w.heap.size 0 1 2 3) ⟨by simp [go_sem, *], by simp [go_sem, *], by simp [go_sem, *], by simp [go_sem, *], by simp [go_sem, *], by simp [go_sem, *], by simp [go_sem, *], by simp [go_sem, *], by (repeat (first | with_reducible assumption | exact Below.refl _ _ | refine below_drewN ?_ _ | refine Below.drew ?_ | refine Below.alloc ?_ (by first | omega | (simp; done) | (simp; omega)) _ | refine Below.setCell ?_ (by first | omega | (simp; done) | (simp; omega)) _)), by first | (simp [go_sem, *]; done) | (simp; omega)⟩ ?_
  clear k0 k1 k2 k3 k4 k5 k6 k7 k8 k9 k10 k11
  rintro W ⟨c0, c1, c2, c3, f0, f1, f2, f3, bl, lt⟩
  obtain ⟨k0, k1, k2, k3, k4, k5, k6, k7, k8, k9, k10, k11⟩ := axesRow ((bl.block b hlt).trans H.out)
  have hbW : b < W.heap.size := by omega
  go_wp2
  refine wp_loop_rounds 5 ?_
  rw [rounds_succ]
  refine with_world (P4 w W.heap.size #[.int .i64 0, .int .i64 0, .int .i64 0, .int .i64 0, .int .i64 0, .int .i64 0, .int .i64 0, .int .i64 0, .int .i64 0, .int .i64 0, .int .i64 0, .int .i64 0]) ⟨heap_alloc_new _ _, by (repeat (first | with_reducible assumption | exact Below.refl _ _ | refine below_drewN ?_ _ | refine Below.drew ?_ | refine Below.alloc ?_ (by first | omega | (simp; done) | (simp; omega)) _ | refine Below.setCell ?_ (by first | omega | (simp; done) | (simp; omega)) _))⟩ ?_
  clear k0 k1 k2 k3 k4 k5 k6 k7 k8 k9 k10 k11 c0 c1 c2 c3 f0 f1 f2 f3 bl
  rintro V ⟨r, bv⟩
  obtain ⟨k0, k1, k2, k3, k4, k5, k6, k7, k8, k9, k10, k11⟩ := axesRow ((bv.block b hlt).trans H.out)
  obtain ⟨⟨d0, d1, d2, d3, d4, d5, d6, d7, d8, d9, d10, d11⟩, ff⟩ := row12 r
  have lg := lt_of_block r
  go_wp2_with fail
  refine (mayU0 _).mono ?_
  rintro e V1 ⟨rfl, hb⟩
  have r1 := (hb.block W.heap.size lg).trans r
  have bv1 := below_up bv hb
  have lg1 := Nat.lt_of_lt_of_le lg hb.size
  clear k0 k1 k2 k3 k4 k5 k6 k7 k8 k9 k10 k11 d0 d1 d2 d3 d4 d5 d6 d7 d8 d9 d10 d11 ff r bv lg hb
  have r := r1
  have bv := bv1
  have lg := lg1
  clear r1 bv1 lg1
  obtain ⟨k0, k1, k2, k3, k4, k5, k6, k7, k8, k9, k10, k11⟩ := axesRow ((bv.block b hlt).trans H.out)
  obtain ⟨⟨d0, d1, d2, d3, d4, d5, d6, d7, d8, d9, d10, d11⟩, ff⟩ := row12 r
  go_wp2
  rw [rounds_succ]
  refine with_world (P4 w W.heap.size #[.int .i64 0, .int .i64 0, .int .i64 0, .int .i64 0, .int .i64 0, .int .i64 0, .int .i64 0, .int .i64 0, .int .i64 0, .int .i64 0, .int .i64 0, .int .i64 0]) ⟨by have := heap_setCell_same _ _ 2 _ _ (.int .i64 0) (heap_setCell_same _ _ 1 _ _ (.int .i64 0) (heap_setCell_same _ _ 0 _ _ (.int .i64 0) r)); simpa using this, by (repeat (first | with_reducible assumption | exact Below.refl _ _ | refine below_drewN ?_ _ | refine Below.drew ?_ | refine Below.alloc ?_ (by first | omega | (simp; done) | (simp; omega)) _ | refine Below.setCell ?_ (by first | omega | (simp; done) | (simp; omega)) _))⟩ ?_
  clear k0 k1 k2 k3 k4 k5 k6 k7 k8 k9 k10 k11 d0 d1 d2 d3 d4 d5 d6 d7 d8 d9 d10 d11 ff r bv lg
  rintro V ⟨r, bv⟩
  obtain ⟨k0, k1, k2, k3, k4, k5, k6, k7, k8, k9, k10, k11⟩ := axesRow ((bv.block b hlt).trans H.out)
  obtain ⟨⟨d0, d1, d2, d3, d4, d5, d6, d7, d8, d9, d10, d11⟩, ff⟩ := row12 r
  have lg := lt_of_block r
  go_wp2_with fail
  refine (mayU1 _).mono ?_
  rintro e V1 ⟨rfl, hb⟩
  have r1 := (hb.block W.heap.size lg).trans r
  have bv1 := below_up bv hb
  have lg1 := Nat.lt_of_lt_of_le lg hb.size
  clear k0 k1 k2 k3 k4 k5 k6 k7 k8 k9 k10 k11 d0 d1 d2 d3 d4 d5 d6 d7 d8 d9 d10 d11 ff r bv lg hb
  have r := r1
  have bv := bv1
  have lg := lg1
  clear r1 bv1 lg1
  obtain ⟨k0, k1, k2, k3, k4, k5, k6, k7, k8, k9, k10, k11⟩ := axesRow ((bv.block b hlt).trans H.out)
  obtain ⟨⟨d0, d1, d2, d3, d4, d5, d6, d7, d8, d9, d10, d11⟩, ff⟩ := row12 r
  go_wp2
  rw [rounds_succ]
  refine with_world (P4 w W.heap.size #[.int .i64 0, .int .i64 0, .int .i64 0, .int .i64 1, .int .i64 0, .int .i64 0, .int .i64 0, .int .i64 0, .int .i64 0, .int .i64 0, .int .i64 0, .int .i64 0]) ⟨by have := heap_setCell_same _ _ 5 _ _ (.int .i64 0) (heap_setCell_same _ _ 4 _ _ (.int .i64 0) (heap_setCell_same _ _ 3 _ _ (.int .i64 1) r)); simpa using this, by (repeat (first | with_reducible assumption | exact Below.refl _ _ | refine below_drewN ?_ _ | refine Below.drew ?_ | refine Below.alloc ?_ (by first | omega | (simp; done) | (simp; omega)) _ | refine Below.setCell ?_ (by first | omega | (simp; done) | (simp; omega)) _))⟩ ?_
  clear k0 k1 k2 k3 k4 k5 k6 k7 k8 k9 k10 k11 d0 d1 d2 d3 d4 d5 d6 d7 d8 d9 d10 d11 ff r bv lg
  rintro V ⟨r, bv⟩
  obtain ⟨k0, k1, k2, k3, k4, k5, k6, k7, k8, k9, k10, k11⟩ := axesRow ((bv.block b hlt).trans H.out)
  obtain ⟨⟨d0, d1, d2, d3, d4, d5, d6, d7, d8, d9, d10, d11⟩, ff⟩ := row12 r
  have lg := lt_of_block r
  go_wp2_with fail
  refine (mayU2 _).mono ?_
  rintro e V1 ⟨rfl, hb⟩
  have r1 := (hb.block W.heap.size lg).trans r
  have bv1 := below_up bv hb
  have lg1 := Nat.lt_of_lt_of_le lg hb.size
  clear k0 k1 k2 k3 k4 k5 k6 k7 k8 k9 k10 k11 d0 d1 d2 d3 d4 d5 d6 d7 d8 d9 d10 d11 ff r bv lg hb
  have r := r1
  have bv := bv1
  have lg := lg1
  clear r1 bv1 lg1
  obtain ⟨k0, k1, k2, k3, k4, k5, k6, k7, k8, k9, k10, k11⟩ := axesRow ((bv.block b hlt).trans H.out)
  obtain ⟨⟨d0, d1, d2, d3, d4, d5, d6, d7, d8, d9, d10, d11⟩, ff⟩ := row12 r
  go_wp2
  rw [rounds_succ]
  refine with_world (P4 w W.heap.size #[.int .i64 0, .int .i64 0, .int .i64 0, .int .i64 1, .int .i64 0, .int .i64 0, .int .i64 0, .int .i64 1, .int .i64 0, .int .i64 0, .int .i64 0, .int .i64 0]) ⟨by have := heap_setCell_same _ _ 8 _ _ (.int .i64 0) (heap_setCell_same _ _ 7 _ _ (.int .i64 1) (heap_setCell_same _ _ 6 _ _ (.int .i64 0) r)); simpa using this, by (repeat (first | with_reducible assumption | exact Below.refl _ _ | refine below_drewN ?_ _ | refine Below.drew ?_ | refine Below.alloc ?_ (by first | omega | (simp; done) | (simp; omega)) _ | refine Below.setCell ?_ (by first | omega | (simp; done) | (simp; omega)) _))⟩ ?_
  clear k0 k1 k2 k3 k4 k5 k6 k7 k8 k9 k10 k11 d0 d1 d2 d3 d4 d5 d6 d7 d8 d9 d10 d11 ff r bv lg
  rintro V ⟨r, bv⟩
  obtain ⟨k0, k1, k2, k3, k4, k5, k6, k7, k8, k9, k10, k11⟩ := axesRow ((bv.block b hlt).trans H.out)
  obtain ⟨⟨d0, d1, d2, d3, d4, d5, d6, d7, d8, d9, d10, d11⟩, ff⟩ := row12 r
  have lg := lt_of_block r
  go_wp2_with fail
  refine (mayU3 _).mono ?_
  rintro e V1 ⟨rfl, hb⟩
  have r1 := (hb.block W.heap.size lg).trans r
  have bv1 := below_up bv hb
  have lg1 := Nat.lt_of_lt_of_le lg hb.size
  clear k0 k1 k2 k3 k4 k5 k6 k7 k8 k9 k10 k11 d0 d1 d2 d3 d4 d5 d6 d7 d8 d9 d10 d11 ff r bv lg hb
  have r := r1
  have bv := bv1
  have lg := lg1
  clear r1 bv1 lg1
  obtain ⟨k0, k1, k2, k3, k4, k5, k6, k7, k8, k9, k10, k11⟩ := axesRow ((bv.block b hlt).trans H.out)
  obtain ⟨⟨d0, d1, d2, d3, d4, d5, d6, d7, d8, d9, d10, d11⟩, ff⟩ := row12 r
  go_wp2
  rw [rounds_succ]
  refine with_world (P4 w W.heap.size #[.int .i64 0, .int .i64 0, .int .i64 0, .int .i64 1, .int .i64 0, .int .i64 0, .int .i64 0, .int .i64 1, .int .i64 0, .int .i64 0, .int .i64 0, .int .i64 1]) ⟨by have := heap_setCell_same _ _ 11 _ _ (.int .i64 1) (heap_setCell_same _ _ 10 _ _ (.int .i64 0) (heap_setCell_same _ _ 9 _ _ (.int .i64 0) r)); simpa using this, by (repeat (first | with_reducible assumption | exact Below.refl _ _ | refine below_drewN ?_ _ | refine Below.drew ?_ | refine Below.alloc ?_ (by first | omega | (simp; done) | (simp; omega)) _ | refine Below.setCell ?_ (by first | omega | (simp; done) | (simp; omega)) _))⟩ ?_
  clear k0 k1 k2 k3 k4 k5 k6 k7 k8 k9 k10 k11 d0 d1 d2 d3 d4 d5 d6 d7 d8 d9 d10 d11 ff r bv lg
  rintro V ⟨r, bv⟩
  obtain ⟨k0, k1, k2, k3, k4, k5, k6, k7, k8, k9, k10, k11⟩ := axesRow ((bv.block b hlt).trans H.out)
  obtain ⟨⟨d0, d1, d2, d3, d4, d5, d6, d7, d8, d9, d10, d11⟩, ff⟩ := row12 r
  have lg := lt_of_block r
  go_wp2_with fail
  refine (signUnit_any _).mono ?_
  rintro e V1 ⟨rfl, hb⟩
  have bv1 := below_up bv hb
  clear k0 k1 k2 k3 k4 k5 k6 k7 k8 k9 k10 k11 d0 d1 d2 d3 d4 d5 d6 d7 d8 d9 d10 d11 ff r bv lg hb
  go_wp2
  go_ret2
  exact ⟨rfl, bv1⟩

set_option maxHeartbeats 40000000 in
set_option maxRecDepth 100000 in
theorem signAxes2 (b c : Nat) (w : World) (h : w.heap[b]? = some (.cells axes 109 (0, 0))) :
    Calls Try.prog 97 #[.slice (some ⟨b, 0, none⟩) 4 c, .int .i64 0, .int .i64 1, .int .i64 3, .int .i64 2] w fun e w' => e = .returned (.tuple #[.int .i64 (1), .int .i64 0]) ∧ Below w.heap.size w w' := by
  obtain ⟨k0, k1, k2, k3, k4, k5, k6, k7, k8, k9, k10, k11⟩ := axesRow h
  have hlt : b < w.heap.size := by
    rcases Nat.lt_or_ge b w.heap.size with h' | h'
    · exact h'
    · rw [Array.getElem?_eq_none h'] at h; cases h
  have H := Lib.hid h
  clear h
  have x0 : ∀ W : World, (Instr.index 133 (.agg #[.int .i64 0, .int .i64 1, .int .i64 3, .int .i64 2]) (.int .i64 0)).run Try.prog W = .ok (.int .i64 0) W := fun _ => by kernel_rfl
  have x1 : ∀ W : World, (Instr.index 133 (.agg #[.int .i64 0, .int .i64 1, .int .i64 3, .int .i64 2]) (.int .i64 1)).run Try.prog W = .ok (.int .i64 1) W := fun _ => by kernel_rfl
  have x2 : ∀ W : World, (Instr.index 133 (.agg #[.int .i64 0, .int .i64 1, .int .i64 3, .int .i64 2]) (.int .i64 2)).run Try.prog W = .ok (.int .i64 3) W := fun _ => by kernel_rfl
  have x3 : ∀ W : World, (Instr.index 133 (.agg #[.int .i64 0, .int .i64 1, .int .i64 3, .int .i64 2]) (.int .i64 3)).run Try.prog W = .ok (.int .i64 2) W := fun _ => by kernel_rfl
  have y0 : ∀ W : World, (Instr.index 133 (.agg #[.int .i64 0, .int .i64 1, .int .i64 2, .int .i64 3]) (.int .i64 0)).run Try.prog W = .ok (.int .i64 0) W := fun _ => by kernel_rfl
  have y1 : ∀ W : World, (Instr.index 133 (.agg #[.int .i64 0, .int .i64 1, .int .i64 2, .int .i64 3]) (.int .i64 1)).run Try.prog W = .ok (.int .i64 1) W := fun _ => by kernel_rfl
  have y2 : ∀ W : World, (Instr.index 133 (.agg #[.int .i64 0, .int .i64 1, .int .i64 2, .int .i64 3]) (.int .i64 2)).run Try.prog W = .ok (.int .i64 2) W := fun _ => by kernel_rfl
  have y3 : ∀ W : World, (Instr.index 133 (.agg #[.int .i64 0, .int .i64 1, .int .i64 2, .int .i64 3]) (.int .i64 3)).run Try.prog W = .ok (.int .i64 3) W := fun _ => by kernel_rfl
  go_enter Try.func97, Try.ntmps97
  go_wp2
  refine wp_loop_rounds 5 ?_
  rw [rounds_succ]
  go_wp2
  refine wp_loop_rounds 1 ?_
  rw [rounds_succ]
  go_wp2
  rw [rounds_succ]
  go_wp2
  refine wp_loop_rounds 2 ?_
  rw [rounds_succ]
  go_wp2
  rw [rounds_succ]
  go_wp2
  rw [rounds_succ]
  go_wp2
  refine wp_loop_rounds 3 ?_
  rw [rounds_succ]
  go_wp2
  rw [rounds_succ]
  go_wp2
  rw [rounds_succ]
  go_wp2
  rw [rounds_succ]
  go_wp2
  refine wp_loop_rounds 4 ?_
  rw [rounds_succ]
  go_wp2
  rw [rounds_succ]
  go_wp2
  rw [rounds_succ]
  go_wp2
  rw [rounds_succ]
  go_wp2
  rw [rounds_succ]
  go_wp2
  refine wp_loop_rounds 4 ?_
  rw [rounds_succ]
  go_wp2
  refine wp_loop_rounds 4 ?_
  rw [rounds_succ]
  go_wp2
  go_quiet (fail)
  go_wp2
  rw [rounds_succ]
  go_wp2
  go_quiet (fail)
  go_wp2
  rw [rounds_succ]
  go_wp2
  go_quiet (fail)
  go_wp2
  go_region
  go_wp2
  rw [rounds_succ]
  refine with_world (Four w w.heap.size 0 1 2 3) ⟨by simp [go_sem, *], by simp [go_sem, *], by simp [go_sem, *], by simp [go_sem, *], by simp [go_sem, *], by simp [go_sem, *], by simp [go_sem, *], by simp [go_sem, *], by (repeat (first | with_reducible assumption | exact Below.refl _ _ | refine below_drewN ?_ _ | refine Below.drew ?_ | refine Below.alloc ?_ (by first | omega | (simp; done) | (simp; omega)) _ | refine Below.setCell ?_ (by first | omega | (simp; done) | (simp; omega)) _)), by first | (simp [go_sem, *]; done) | (simp; omega)⟩ ?_
  rintro W ⟨c0, c1, c2, c3, f0, f1, f2, f3, bl, lt⟩
  go_wp2
  rw [rounds_succ]
  go_wp2
  refine wp_loop_rounds 4 ?_
  rw [rounds_succ]
  go_wp2
  go_quiet (fail)
  go_wp2
  rw [rounds_succ]
  go_wp2
  go_quiet (fail)
  go_wp2
  rw [rounds_succ]
  go_wp2
  go_quiet (fail)
  go_wp2
  rw [rounds_succ]
  go_wp2
  rw [rounds_succ]
  go_wp2
  refine wp_loop_rounds 4 ?_
  rw [rounds_succ]
  go_wp2
  go_quiet (fail)
  go_wp2
  rw [rounds_succ]
  go_wp2
  go_quiet (fail)
  go_wp2
  rw [rounds_succ]
  go_wp2
  go_quiet (fail)
  go_wp2
  rw [rounds_succ]
  go_wp2
  rw [rounds_succ]
  refine with_world (Four w w.heap.size 0 1 2 3) ⟨by simp [go_sem, *], by simp [go_sem, *], by simp [go_sem, *], by simp [go_sem, *], by simp [go_sem, *], by simp [go_sem, *], by simp [go_sem, *], by simp [go_sem, *], by (repeat (first | with_reducible assumption | exact Below.refl _ _ | refine below_drewN ?_ _ | refine Below.drew ?_ | refine Below.alloc ?_ (by first | omega | (simp; done) | (simp; omega)) _ | refine Below.setCell ?_ (by first | omega | (simp; done) | (simp; omega)) _)), by first | (simp [go_sem, *]; done) | (simp; omega)⟩ ?_
  clear k0 k1 k2 k3 k4 k5 k6 k7 k8 k9 k10 k11
  rintro W ⟨c0, c1, c2, c3, f0, f1, f2, f3, bl, lt⟩
  obtain ⟨k0, k1, k2, k3, k4, k5, k6, k7, k8, k9, k10, k11⟩ := axesRow ((bl.block b hlt).trans H.out)
  have hbW : b < W.heap.size := by omega
  go_wp2
  refine wp_loop_rounds 5 ?_
  rw [rounds_succ]
  refine with_world (P4 w W.heap.size #[.int .i64 0, .int .i64 0, .int .i64 0, .int .i64 0, .int .i64 0, .int .i64 0, .int .i64 0, .int .i64 0, .int .i64 0, .int .i64 0, .int .i64 0, .int .i64 0]) ⟨heap_alloc_new _ _, by (repeat (first | with_reducible assumption | exact Below.refl _ _ | refine below_drewN ?_ _ | refine Below.drew ?_ | refine Below.alloc ?_ (by first | omega | (simp; done) | (simp; omega)) _ | refine Below.setCell ?_ (by first | omega | (simp; done) | (simp; omega)) _))⟩ ?_
  clear k0 k1 k2 k3 k4 k5 k6 k7 k8 k9 k10 k11 c0 c1 c2 c3 f0 f1 f2 f3 bl
  rintro V ⟨r, bv⟩
  obtain ⟨k0, k1, k2, k3, k4, k5, k6, k7, k8, k9, k10, k11⟩ := axesRow ((bv.block b hlt).trans H.out)
  obtain ⟨⟨d0, d1, d2, d3, d4, d5, d6, d7, d8, d9, d10, d11⟩, ff⟩ := row12 r
  have lg := lt_of_block r
  go_wp2_with fail
  refine (mayU0 _).mono ?_
  rintro e V1 ⟨rfl, hb⟩
  have r1 := (hb.block W.heap.size lg).trans r
  have bv1 := below_up bv hb
  have lg1 := Nat.lt_of_lt_of_le lg hb.size
  clear k0 k1 k2 k3 k4 k5 k6 k7 k8 k9 k10 k11 d0 d1 d2 d3 d4 d5 d6 d7 d8 d9 d10 d11 ff r bv lg hb
  have r := r1
  have bv := bv1
  have lg := lg1
  clear r1 bv1 lg1
  obtain ⟨k0, k1, k2, k3, k4, k5, k6, k7, k8, k9, k10, k11⟩ := axesRow ((bv.block b hlt).trans H.out)
  obtain ⟨⟨d0, d1, d2, d3, d4, d5, d6, d7, d8, d9, d10, d11⟩, ff⟩ := row12 r
  go_wp2
  rw [rounds_succ]
  refine with_world (P4 w W.heap.size #[.int .i64 0, .int .i64 0, .int .i64 0, .int .i64 0, .int .i64 0, .int .i64 0, .int .i64 0, .int .i64 0, .int .i64 0, .int .i64 0, .int .i64 0, .int .i64 0]) ⟨by have := heap_setCell_same _ _ 2 _ _ (.int .i64 0) (heap_setCell_same _ _ 1 _ _ (.int .i64 0) (heap_setCell_same _ _ 0 _ _ (.int .i64 0) r)); simpa using this, by (repeat (first | with_reducible assumption | exact Below.refl _ _ | refine below_drewN ?_ _ | refine Below.drew ?_ | refine Below.alloc ?_ (by first | omega | (simp; done) | (simp; omega)) _ | refine Below.setCell ?_ (by first | omega | (simp; done) | (simp; omega)) _))⟩ ?_
  clear k0 k1 k2 k3 k4 k5 k6 k7 k8 k9 k10 k11 d0 d1 d2 d3 d4 d5 d6 d7 d8 d9 d10 d11 ff r bv lg
  rintro V ⟨r, bv⟩
  obtain ⟨k0, k1, k2, k3, k4, k5, k6, k7, k8, k9, k10, k11⟩ := axesRow ((bv.block b hlt).trans H.out)
  obtain ⟨⟨d0, d1, d2, d3, d4, d5, d6, d7, d8, d9, d10, d11⟩, ff⟩ := row12 r
  have lg := lt_of_block r
  go_wp2_with fail
  refine (mayU1 _).mono ?_
  rintro e V1 ⟨rfl, hb⟩
  have r1 := (hb.block W.heap.size lg).trans r
  have bv1 := below_up bv hb
  have lg1 := Nat.lt_of_lt_of_le lg hb.size
  clear k0 k1 k2 k3 k4 k5 k6 k7 k8 k9 k10 k11 d0 d1 d2 d3 d4 d5 d6 d7 d8 d9 d10 d11 ff r bv lg hb
  have r := r1
  have bv := bv1
  have lg := lg1
  clear r1 bv1 lg1
  obtain ⟨k0, k1, k2, k3, k4, k5, k6, k7, k8, k9, k10, k11⟩ := axesRow ((bv.block b hlt).trans H.out)
  obtain ⟨⟨d0, d1, d2, d3, d4, d5, d6, d7, d8, d9, d10, d11⟩, ff⟩ := row12 r
  go_wp2
  rw [rounds_succ]
  refine with_world (P4 w W.heap.size #[.int .i64 0, .int .i64 0, .int .i64 0, .int .i64 1, .int .i64 0, .int .i64 0, .int .i64 0, .int .i64 0, .int .i64 0, .int .i64 0, .int .i64 0, .int .i64 0]) ⟨by have := heap_setCell_same _ _ 5 _ _ (.int .i64 0) (heap_setCell_same _ _ 4 _ _ (.int .i64 0) (heap_setCell_same _ _ 3 _ _ (.int .i64 1) r)); simpa using this, by (repeat (first | with_reducible assumption | exact Below.refl _ _ | refine below_drewN ?_ _ | refine Below.drew ?_ | refine Below.alloc ?_ (by first | omega | (simp; done) | (simp; omega)) _ | refine Below.setCell ?_ (by first | omega | (simp; done) | (simp; omega)) _))⟩ ?_
  clear k0 k1 k2 k3 k4 k5 k6 k7 k8 k9 k10 k11 d0 d1 d2 d3 d4 d5 d6 d7 d8 d9 d10 d11 ff r bv lg
  rintro V ⟨r, bv⟩
  obtain ⟨k0, k1, k2, k3, k4, k5, k6, k7, k8, k9, k10, k11⟩ := axesRow ((bv.block b hlt).trans H.out)
  obtain ⟨⟨d0, d1, d2, d3, d4, d5, d6, d7, d8, d9, d10, d11⟩, ff⟩ := row12 r
  have lg := lt_of_block r
  go_wp2_with fail
  refine (mayU2 _).mono ?_
  rintro e V1 ⟨rfl, hb⟩
  have r1 := (hb.block W.heap.size lg).trans r
  have bv1 := below_up bv hb
  have lg1 := Nat.lt_of_lt_of_le lg hb.size
  clear k0 k1 k2 k3 k4 k5 k6 k7 k8 k9 k10 k11 d0 d1 d2 d3 d4 d5 d6 d7 d8 d9 d10 d11 ff r bv lg hb
  have r := r1
  have bv := bv1
  have lg := lg1
  clear r1 bv1 lg1
  obtain ⟨k0, k1, k2, k3, k4, k5, k6, k7, k8, k9, k10, k11⟩ := axesRow ((bv.block b hlt).trans H.out)
  obtain ⟨⟨d0, d1, d2, d3, d4, d5, d6, d7, d8, d9, d10, d11⟩, ff⟩ := row12 r
  go_wp2
  rw [rounds_succ]
  refine with_world (P4 w W.heap.size #[.int .i64 0, .int .i64 0, .int .i64 0, .int .i64 1, .int .i64 0, .int .i64 0, .int .i64 0, .int .i64 1, .int .i64 0, .int .i64 0, .int .i64 0, .int .i64 0]) ⟨by have := heap_setCell_same _ _ 8 _ _ (.int .i64 0) (heap_setCell_same _ _ 7 _ _ (.int .i64 1) (heap_setCell_same _ _ 6 _ _ (.int .i64 0) r)); simpa using this, by (repeat (first | with_reducible assumption | exact Below.refl _ _ | refine below_drewN ?_ _ | refine Below.drew ?_ | refine Below.alloc ?_ (by first | omega | (simp; done) | (simp; omega)) _ | refine Below.setCell ?_ (by first | omega | (simp; done) | (simp; omega)) _))⟩ ?_
  clear k0 k1 k2 k3 k4 k5 k6 k7 k8 k9 k10 k11 d0 d1 d2 d3 d4 d5 d6 d7 d8 d9 d10 d11 ff r bv lg
  rintro V ⟨r, bv⟩
  obtain ⟨k0, k1, k2, k3, k4, k5, k6, k7, k8, k9, k10, k11⟩ := axesRow ((bv.block b hlt).trans H.out)
  obtain ⟨⟨d0, d1, d2, d3, d4, d5, d6, d7, d8, d9, d10, d11⟩, ff⟩ := row12 r
  have lg := lt_of_block r
  go_wp2_with fail
  refine (mayU3 _).mono ?_
  rintro e V1 ⟨rfl, hb⟩
  have r1 := (hb.block W.heap.size lg).trans r
  have bv1 := below_up bv hb
  have lg1 := Nat.lt_of_lt_of_le lg hb.size
  clear k0 k1 k2 k3 k4 k5 k6 k7 k8 k9 k10 k11 d0 d1 d2 d3 d4 d5 d6 d7 d8 d9 d10 d11 ff r bv lg hb
  have r := r1
  have bv := bv1
  have lg := lg1
  clear r1 bv1 lg1
  obtain ⟨k0, k1, k2, k3, k4, k5, k6, k7, k8, k9, k10, k11⟩ := axesRow ((bv.block b hlt).trans H.out)
  obtain ⟨⟨d0, d1, d2, d3, d4, d5, d6, d7, d8, d9, d10, d11⟩, ff⟩ := row12 r
  go_wp2
  rw [rounds_succ]
  refine with_world (P4 w W.heap.size #[.int .i64 0, .int .i64 0, .int .i64 0, .int .i64 1, .int .i64 0, .int .i64 0, .int .i64 0, .int .i64 1, .int .i64 0, .int .i64 0, .int .i64 0, .int .i64 1]) ⟨by have := heap_setCell_same _ _ 11 _ _ (.int .i64 1) (heap_setCell_same _ _ 10 _ _ (.int .i64 0) (heap_setCell_same _ _ 9 _ _ (.int .i64 0) r)); simpa using this, by (repeat (first | with_reducible assumption | exact Below.refl _ _ | refine below_drewN ?_ _ | refine Below.drew ?_ | refine Below.alloc ?_ (by first | omega | (simp; done) | (simp; omega)) _ | refine Below.setCell ?_ (by first | omega | (simp; done) | (simp; omega)) _))⟩ ?_
  clear k0 k1 k2 k3 k4 k5 k6 k7 k8 k9 k10 k11 d0 d1 d2 d3 d4 d5 d6 d7 d8 d9 d10 d11 ff r bv lg
  rintro V ⟨r, bv⟩
  obtain ⟨k0, k1, k2, k3, k4, k5, k6, k7, k8, k9, k10, k11⟩ := axesRow ((bv.block b hlt).trans H.out)
  obtain ⟨⟨d0, d1, d2, d3, d4, d5, d6, d7, d8, d9, d10, d11⟩, ff⟩ := row12 r
  have lg := lt_of_block r
  go_wp2_with fail
  refine (signUnit_any _).mono ?_
  rintro e V1 ⟨rfl, hb⟩
  have bv1 := below_up bv hb
  clear k0 k1 k2 k3 k4 k5 k6 k7 k8 k9 k10 k11 d0 d1 d2 d3 d4 d5 d6 d7 d8 d9 d10 d11 ff r bv lg hb
  go_wp2
  go_ret2
  exact ⟨rfl, bv1⟩

set_option maxHeartbeats 40000000 in
set_option maxRecDepth 100000 in
theorem signAxes3 (b c : Nat) (w : World) (h : w.heap[b]? = some (.cells axes 109 (0, 0))) :
    Calls Try.prog 97 #[.slice (some ⟨b, 0, none⟩) 4 c, .int .i64 0, .int .i64 1, .int .i64 2, .int .i64 3] w fun e w' => e = .returned (.tuple #[.int .i64 (-1), .int .i64 0]) ∧ Below w.heap.size w w' := by
  obtain ⟨k0, k1, k2, k3, k4, k5, k6, k7, k8, k9, k10, k11⟩ := axesRow h
  have hlt : b < w.heap.size := by
    rcases Nat.lt_or_ge b w.heap.size with h' | h'
    · exact h'
    · rw [Array.getElem?_eq_none h'] at h; cases h
  have H := Lib.hid h
  clear h
  have x0 : ∀ W : World, (Instr.index 133 (.agg #[.int .i64 0, .int .i64 1, .int .i64 2, .int .i64 3]) (.int .i64 0)).run Try.prog W = .ok (.int .i64 0) W := fun _ => by kernel_rfl
  have x1 : ∀ W : World, (Instr.index 133 (.agg #[.int .i64 0, .int .i64 1, .int .i64 2, .int .i64 3]) (.int .i64 1)).run Try.prog W = .ok (.int .i64 1) W := fun _ => by kernel_rfl
  have x2 : ∀ W : World, (Instr.index 133 (.agg #[.int .i64 0, .int .i64 1, .int .i64 2, .int .i64 3]) (.int .i64 2)).run Try.prog W = .ok (.int .i64 2) W := fun _ => by kernel_rfl
  have x3 : ∀ W : World, (Instr.index 133 (.agg #[.int .i64 0, .int .i64 1, .int .i64 2, .int .i64 3]) (.int .i64 3)).run Try.prog W = .ok (.int .i64 3) W := fun _ => by kernel_rfl
  go_enter Try.func97, Try.ntmps97
  go_wp2
  refine wp_loop_rounds 5 ?_
  rw [rounds_succ]
  go_wp2
  refine wp_loop_rounds 1 ?_
  rw [rounds_succ]
  go_wp2
  rw [rounds_succ]
  go_wp2
  refine wp_loop_rounds 2 ?_
  rw [rounds_succ]
  go_wp2
  rw [rounds_succ]
  go_wp2
  rw [rounds_succ]
  go_wp2
  refine wp_loop_rounds 3 ?_
  rw [rounds_succ]
  go_wp2
  rw [rounds_succ]
  go_wp2
  rw [rounds_succ]
  go_wp2
  rw [rounds_succ]
  go_wp2
  refine wp_loop_rounds 4 ?_
  rw [rounds_succ]
  go_wp2
  rw [rounds_succ]
  go_wp2
  rw [rounds_succ]
  go_wp2
  rw [rounds_succ]
  go_wp2
  rw [rounds_succ]
  go_wp2
  refine wp_loop_rounds 4 ?_
  rw [rounds_succ]
  go_wp2
  refine wp_loop_rounds 4 ?_
  rw [rounds_succ]
  go_wp2
  go_quiet (fail)
  go_wp2
  rw [rounds_succ]
  go_wp2
  go_quiet (fail)
  go_wp2
  rw [rounds_succ]
  go_wp2
  go_quiet (fail)
  go_wp2
  rw [rounds_succ]
  go_wp2
  rw [rounds_succ]
  go_wp2
  refine wp_loop_rounds 4 ?_
  rw [rounds_succ]
  go_wp2
  go_quiet (fail)
  go_wp2
  rw [rounds_succ]
  go_wp2
  go_quiet (fail)
  go_wp2
  rw [rounds_succ]
  go_wp2
  go_quiet (fail)
  go_wp2
  rw [rounds_succ]
  go_wp2
  rw [rounds_succ]
  go_wp2
  refine wp_loop_rounds 4 ?_
  rw [rounds_succ]
  go_wp2
  go_quiet (fail)
  go_wp2
  rw [rounds_succ]
  go_wp2
  go_quiet (fail)
  go_wp2
  rw [rounds_succ]
  go_wp2
  go_quiet (fail)
  go_wp2
  rw [rounds_succ]
  go_wp2
  rw [rounds_succ]
  refine with_world (Four w w.heap.size 0 1 2 3) ⟨by simp [go_sem, *], by simp [go_sem, *], by simp [go_sem, *], by simp [go_sem, *], by simp [go_sem, *], by simp [go_sem, *], by simp [go_sem, *], by simp [go_sem, *], by (repeat (first | with_reducible assumption | exact Below.refl _ _ | refine below_drewN ?_ _ | refine Below.drew ?_ | refine Below.alloc ?_ (by first | omega | (simp; done) | (simp; omega)) _ | refine Below.setCell ?_ (by first | omega | (simp; done) | (simp; omega)) _)), by first | (simp [go_sem, *]; done) | (simp; omega)⟩ ?_
  clear k0 k1 k2 k3 k4 k5 k6 k7 k8 k9 k10 k11
  rintro W ⟨c0, c1, c2, c3, f0, f1, f2, f3, bl, lt⟩
  obtain ⟨k0, k1, k2, k3, k4, k5, k6, k7, k8, k9, k10, k11⟩ := axesRow ((bl.block b hlt).trans H.out)
  have hbW : b < W.heap.size := by omega
  go_wp2
  refine wp_loop_rounds 5 ?_
  rw [rounds_succ]
  refine with_world (P4 w W.heap.size #[.int .i64 0, .int .i64 0, .int .i64 0, .int .i64 0, .int .i64 0, .int .i64 0, .int .i64 0, .int .i64 0, .int .i64 0, .int .i64 0, .int .i64 0, .int .i64 0]) ⟨heap_alloc_new _ _, by (repeat (first | with_reducible assumption | exact Below.refl _ _ | refine below_drewN ?_ _ | refine Below.drew ?_ | refine Below.alloc ?_ (by first | omega | (simp; done) | (simp; omega)) _ | refine Below.setCell ?_ (by first | omega | (simp; done) | (simp; omega)) _))⟩ ?_
  clear k0 k1 k2 k3 k4 k5 k6 k7 k8 k9 k10 k11 c0 c1 c2 c3 f0 f1 f2 f3 bl
  rintro V ⟨r, bv⟩
  obtain ⟨k0, k1, k2, k3, k4, k5, k6, k7, k8, k9, k10, k11⟩ := axesRow ((bv.block b hlt).trans H.out)
  obtain ⟨⟨d0, d1, d2, d3, d4, d5, d6, d7, d8, d9, d10, d11⟩, ff⟩ := row12 r
  have lg := lt_of_block r
  go_wp2_with fail
  refine (mayU0 _).mono ?_
  rintro e V1 ⟨rfl, hb⟩
  have r1 := (hb.block W.heap.size lg).trans r
  have bv1 := below_up bv hb
  have lg1 := Nat.lt_of_lt_of_le lg hb.size
  clear k0 k1 k2 k3 k4 k5 k6 k7 k8 k9 k10 k11 d0 d1 d2 d3 d4 d5 d6 d7 d8 d9 d10 d11 ff r bv lg hb
  have r := r1
  have bv := bv1
  have lg := lg1
  clear r1 bv1 lg1
  obtain ⟨k0, k1, k2, k3, k4, k5, k6, k7, k8, k9, k10, k11⟩ := axesRow ((bv.block b hlt).trans H.out)
  obtain ⟨⟨d0, d1, d2, d3, d4, d5, d6, d7, d8, d9, d10, d11⟩, ff⟩ := row12 r
  go_wp2
  rw [rounds_succ]
  refine with_world (P4 w W.heap.size #[.int .i64 0, .int .i64 0, .int .i64 0, .int .i64 0, .int .i64 0, .int .i64 0, .int .i64 0, .int .i64 0, .int .i64 0, .int .i64 0, .int .i64 0, .int .i64 0]) ⟨by have := heap_setCell_same _ _ 2 _ _ (.int .i64 0) (heap_setCell_same _ _ 1 _ _ (.int .i64 0) (heap_setCell_same _ _ 0 _ _ (.int .i64 0) r)); simpa using this, by (repeat (first | with_reducible assumption | exact Below.refl _ _ | refine below_drewN ?_ _ | refine Below.drew ?_ | refine Below.alloc ?_ (by first | omega | (simp; done) | (simp; omega)) _ | refine Below.setCell ?_ (by first | omega | (simp; done) | (simp; omega)) _))⟩ ?_
  clear k0 k1 k2 k3 k4 k5 k6 k7 k8 k9 k10 k11 d0 d1 d2 d3 d4 d5 d6 d7 d8 d9 d10 d11 ff r bv lg
  rintro V ⟨r, bv⟩
  obtain ⟨k0, k1, k2, k3, k4, k5, k6, k7, k8, k9, k10, k11⟩ := axesRow ((bv.block b hlt).trans H.out)
  obtain ⟨⟨d0, d1, d2, d3, d4, d5, d6, d7, d8, d9, d10, d11⟩, ff⟩ := row12 r
  have lg := lt_of_block r
  go_wp2_with fail
  refine (mayU1 _).mono ?_
  rintro e V1 ⟨rfl, hb⟩
  have r1 := (hb.block W.heap.size lg).trans r
  have bv1 := below_up bv hb
  have lg1 := Nat.lt_of_lt_of_le lg hb.size
  clear k0 k1 k2 k3 k4 k5 k6 k7 k8 k9 k10 k11 d0 d1 d2 d3 d4 d5 d6 d7 d8 d9 d10 d11 ff r bv lg hb
  have r := r1
  have bv := bv1
  have lg := lg1
  clear r1 bv1 lg1
  obtain ⟨k0, k1, k2, k3, k4, k5, k6, k7, k8, k9, k10, k11⟩ := axesRow ((bv.block b hlt).trans H.out)
  obtain ⟨⟨d0, d1, d2, d3, d4, d5, d6, d7, d8, d9, d10, d11⟩, ff⟩ := row12 r
  go_wp2
  rw [rounds_succ]
  refine with_world (P4 w W.heap.size #[.int .i64 0, .int .i64 0, .int .i64 0, .int .i64 1, .int .i64 0, .int .i64 0, .int .i64 0, .int .i64 0, .int .i64 0, .int .i64 0, .int .i64 0, .int .i64 0]) ⟨by have := heap_setCell_same _ _ 5 _ _ (.int .i64 0) (heap_setCell_same _ _ 4 _ _ (.int .i64 0) (heap_setCell_same _ _ 3 _ _ (.int .i64 1) r)); simpa using this, by (repeat (first | with_reducible assumption | exact Below.refl _ _ | refine below_drewN ?_ _ | refine Below.drew ?_ | refine Below.alloc ?_ (by first | omega | (simp; done) | (simp; omega)) _ | refine Below.setCell ?_ (by first | omega | (simp; done) | (simp; omega)) _))⟩ ?_
  clear k0 k1 k2 k3 k4 k5 k6 k7 k8 k9 k10 k11 d0 d1 d2 d3 d4 d5 d6 d7 d8 d9 d10 d11 ff r bv lg
  rintro V ⟨r, bv⟩
  obtain ⟨k0, k1, k2, k3, k4, k5, k6, k7, k8, k9, k10, k11⟩ := axesRow ((bv.block b hlt).trans H.out)
  obtain ⟨⟨d0, d1, d2, d3, d4, d5, d6, d7, d8, d9, d10, d11⟩, ff⟩ := row12 r
  have lg := lt_of_block r
  go_wp2_with fail
  refine (mayU2 _).mono ?_
  rintro e V1 ⟨rfl, hb⟩
  have r1 := (hb.block W.heap.size lg).trans r
  have bv1 := below_up bv hb
  have lg1 := Nat.lt_of_lt_of_le lg hb.size
  clear k0 k1 k2 k3 k4 k5 k6 k7 k8 k9 k10 k11 d0 d1 d2 d3 d4 d5 d6 d7 d8 d9 d10 d11 ff r bv lg hb
  have r := r1
  have bv := bv1
  have lg := lg1
  clear r1 bv1 lg1
  obtain ⟨k0, k1, k2, k3, k4, k5, k6, k7, k8, k9, k10, k11⟩ := axesRow ((bv.block b hlt).trans H.out)
  obtain ⟨⟨d0, d1, d2, d3, d4, d5, d6, d7, d8, d9, d10, d11⟩, ff⟩ := row12 r
  go_wp2
  rw [rounds_succ]
  refine with_world (P4 w W.heap.size #[.int .i64 0, .int .i64 0, .int .i64 0, .int .i64 1, .int .i64 0, .int .i64 0, .int .i64 0, .int .i64 1, .int .i64 0, .int .i64 0, .int .i64 0, .int .i64 0]) ⟨by have := heap_setCell_same _ _ 8 _ _ (.int .i64 0) (heap_setCell_same _ _ 7 _ _ (.int .i64 1) (heap_setCell_same _ _ 6 _ _ (.int .i64 0) r)); simpa using this, by (repeat (first | with_reducible assumption | exact Below.refl _ _ | refine below_drewN ?_ _ | refine Below.drew ?_ | refine Below.alloc ?_ (by first | omega | (simp; done) | (simp; omega)) _ | refine Below.setCell ?_ (by first | omega | (simp; done) | (simp; omega)) _))⟩ ?_
  clear k0 k1 k2 k3 k4 k5 k6 k7 k8 k9 k10 k11 d0 d1 d2 d3 d4 d5 d6 d7 d8 d9 d10 d11 ff r bv lg
  rintro V ⟨r, bv⟩
  obtain ⟨k0, k1, k2, k3, k4, k5, k6, k7, k8, k9, k10, k11⟩ := axesRow ((bv.block b hlt).trans H.out)
  obtain ⟨⟨d0, d1, d2, d3, d4, d5, d6, d7, d8, d9, d10, d11⟩, ff⟩ := row12 r
  have lg := lt_of_block r
  go_wp2_with fail
  refine (mayU3 _).mono ?_
  rintro e V1 ⟨rfl, hb⟩
  have r1 := (hb.block W.heap.size lg).trans r
  have bv1 := below_up bv hb
  have lg1 := Nat.lt_of_lt_of_le lg hb.size
  clear k0 k1 k2 k3 k4 k5 k6 k7 k8 k9 k10 k11 d0 d1 d2 d3 d4 d5 d6 d7 d8 d9 d10 d11 ff r bv lg hb
  have r := r1
  have bv := bv1
  have lg := lg1
  clear r1 bv1 lg1
  obtain ⟨k0, k1, k2, k3, k4, k5, k6, k7, k8, k9, k10, k11⟩ := axesRow ((bv.block b hlt).trans H.out)
  obtain ⟨⟨d0, d1, d2, d3, d4, d5, d6, d7, d8, d9, d10, d11⟩, ff⟩ := row12 r
  go_wp2
  rw [rounds_succ]
  refine with_world (P4 w W.heap.size #[.int .i64 0, .int .i64 0, .int .i64 0, .int .i64 1, .int .i64 0, .int .i64 0, .int .i64 0, .int .i64 1, .int .i64 0, .int .i64 0, .int .i64 0, .int .i64 1]) ⟨by have := heap_setCell_same _ _ 11 _ _ (.int .i64 1) (heap_setCell_same _ _ 10 _ _ (.int .i64 0) (heap_setCell_same _ _ 9 _ _ (.int .i64 0) r)); simpa using this, by (repeat (first | with_reducible assumption | exact Below.refl _ _ | refine below_drewN ?_ _ | refine Below.drew ?_ | refine Below.alloc ?_ (by first | omega | (simp; done) | (simp; omega)) _ | refine Below.setCell ?_ (by first | omega | (simp; done) | (simp; omega)) _))⟩ ?_
  clear k0 k1 k2 k3 k4 k5 k6 k7 k8 k9 k10 k11 d0 d1 d2 d3 d4 d5 d6 d7 d8 d9 d10 d11 ff r bv lg
  rintro V ⟨r, bv⟩
  obtain ⟨k0, k1, k2, k3, k4, k5, k6, k7, k8, k9, k10, k11⟩ := axesRow ((bv.block b hlt).trans H.out)
  obtain ⟨⟨d0, d1, d2, d3, d4, d5, d6, d7, d8, d9, d10, d11⟩, ff⟩ := row12 r
  have lg := lt_of_block r
  go_wp2_with fail
  refine (signUnit_any _).mono ?_
  rintro e V1 ⟨rfl, hb⟩
  have bv1 := below_up bv hb
  clear k0 k1 k2 k3 k4 k5 k6 k7 k8 k9 k10 k11 d0 d1 d2 d3 d4 d5 d6 d7 d8 d9 d10 d11 ff r bv lg hb
  go_wp2
  go_ret2
  exact ⟨rfl, bv1⟩

end Go.Proofs.Ytojecaeblgghjaa

/-
  facet.Outward OF THE CORNER OF THE AXES at the four calls of facet.Seed. (Printed by mkout.py.)
-/
set_option linter.unusedVariables false
set_option linter.unusedSimpArgs false
namespace Go.Proofs.Ytojecaeblgghjaa
open Go.RowKit Go.Sort LsP

theorem outU0 (W : World) : Calls Try.prog 53 #[.agg #[.int .i64 1, .int .i64 2, .int .i64 3]] W fun e w' => e = .returned (.agg #[.int .i64 1, .int .i64 2, .int .i64 3]) ∧ Below W.heap.size W w' := by
  have := canon_any 1 2 3 W
  rwa [show canon ⟨1, 2, 3⟩ = ⟨1, 2, 3⟩ by decide] at this

set_option maxHeartbeats 4000000 in
set_option maxRecDepth 100000 in
theorem outAxes0 (b c : Nat) (w : World) (h : w.heap[b]? = some (.cells axes 109 (0, 0))) :
    Calls Try.prog 48 #[.slice (some ⟨b, 0, none⟩) 4 c, .int .i64 1, .int .i64 2, .int .i64 3] w fun e w' => e = .returned (.tuple #[.agg #[.int .i64 1, .int .i64 2, .int .i64 3], .int .i64 0]) ∧ Below w.heap.size w w' := by
  have h0 : (w.alloc (.cells #[.int .i64 0, .int .i64 0, .int .i64 0] 50)).heap[b]? = some (.cells axes 109 (0, 0)) := (Below.heap_alloc w _ b (lt_of_block h)).trans h
  have r0 := heap_alloc_new w (.cells #[.int .i64 0, .int .i64 0, .int .i64 0] 50)
  have bb : Below w.heap.size w (w.alloc (.cells #[.int .i64 0, .int .i64 0, .int .i64 0] 50)) := by (repeat (first | exact Below.refl _ _ | refine Below.alloc ?_ (by first | omega | (simp; done) | (simp; omega)) _ | refine Below.setCell ?_ (by first | omega | (simp; done) | (simp; omega)) _ | refine Below.drew ?_))
  clear h
  go_enter Try.func48, Try.ntmps48
  go_wp2
  refine wp_loop_rounds 1 ?_
  rw [rounds_succ]
  go_wp2_with fail
  refine (signAxes0 b c _ h0).mono ?_
  rintro e w1 ⟨rfl, hb1⟩
  have h1 := (hb1.block w.heap.size (by simp)).trans r0
  have bb1 := below_up bb hb1
  have lt1 := lt_of_block h1
  clear hb1 h0 r0 bb
  go_wp2_with fail
  refine (outU0 _).mono ?_
  rintro e w2 ⟨rfl, hb2⟩
  have h2 := (hb2.block w.heap.size lt1).trans h1
  have bb2 := below_up bb1 hb2
  obtain ⟨d0, d1, d2, e0, e1, e2⟩ := row3 h2
  clear hb2 h1 h2 bb1 lt1
  go_wp2
  exact bodyPost_ret (v := .tuple #[.agg #[.int .i64 1, .int .i64 2, .int .i64 3], .int .i64 0]) (by simp [results, Try.results48, go_sem, d0, d1, d2]) rfl ⟨rfl, by (repeat (first | with_reducible assumption | exact Below.refl _ _ | refine below_drewN ?_ _ | refine Below.drew ?_ | refine Below.alloc ?_ (by first | omega | (simp; done) | (simp; omega)) _ | refine Below.setCell ?_ (by first | omega | (simp; done) | (simp; omega)) _))⟩

theorem outU1 (W : World) : Calls Try.prog 54 #[.agg #[.int .i64 0, .int .i64 2, .int .i64 3]] W fun e w' => e = .returned (.agg #[.int .i64 0, .int .i64 3, .int .i64 2]) ∧ Below W.heap.size W w' := by
  have := turn_any 0 2 3 W
  rwa [show canon ⟨0, 3, 2⟩ = ⟨0, 3, 2⟩ by decide] at this

set_option maxHeartbeats 4000000 in
set_option maxRecDepth 100000 in
theorem outAxes1 (b c : Nat) (w : World) (h : w.heap[b]? = some (.cells axes 109 (0, 0))) :
    Calls Try.prog 48 #[.slice (some ⟨b, 0, none⟩) 4 c, .int .i64 0, .int .i64 2, .int .i64 3] w fun e w' => e = .returned (.tuple #[.agg #[.int .i64 0, .int .i64 3, .int .i64 2], .int .i64 0]) ∧ Below w.heap.size w w' := by
  have h0 : (w.alloc (.cells #[.int .i64 0, .int .i64 0, .int .i64 0] 50)).heap[b]? = some (.cells axes 109 (0, 0)) := (Below.heap_alloc w _ b (lt_of_block h)).trans h
  have r0 := heap_alloc_new w (.cells #[.int .i64 0, .int .i64 0, .int .i64 0] 50)
  have bb : Below w.heap.size w (w.alloc (.cells #[.int .i64 0, .int .i64 0, .int .i64 0] 50)) := by (repeat (first | exact Below.refl _ _ | refine Below.alloc ?_ (by first | omega | (simp; done) | (simp; omega)) _ | refine Below.setCell ?_ (by first | omega | (simp; done) | (simp; omega)) _ | refine Below.drew ?_))
  clear h
  go_enter Try.func48, Try.ntmps48
  go_wp2
  refine wp_loop_rounds 2 ?_
  rw [rounds_succ]
  go_wp2_with fail
  rw [rounds_succ]
  go_wp2_with fail
  refine (signAxes1 b c _ h0).mono ?_
  rintro e w1 ⟨rfl, hb1⟩
  have h1 := (hb1.block w.heap.size (by simp)).trans r0
  have bb1 := below_up bb hb1
  have lt1 := lt_of_block h1
  clear hb1 h0 r0 bb
  go_wp2_with fail
  refine (outU1 _).mono ?_
  rintro e w2 ⟨rfl, hb2⟩
  have h2 := (hb2.block w.heap.size lt1).trans h1
  have bb2 := below_up bb1 hb2
  obtain ⟨d0, d1, d2, e0, e1, e2⟩ := row3 h2
  clear hb2 h1 h2 bb1 lt1
  go_wp2
  exact bodyPost_ret (v := .tuple #[.agg #[.int .i64 0, .int .i64 3, .int .i64 2], .int .i64 0]) (by simp [results, Try.results48, go_sem, d0, d1, d2]) rfl ⟨rfl, by (repeat (first | with_reducible assumption | exact Below.refl _ _ | refine below_drewN ?_ _ | refine Below.drew ?_ | refine Below.alloc ?_ (by first | omega | (simp; done) | (simp; omega)) _ | refine Below.setCell ?_ (by first | omega | (simp; done) | (simp; omega)) _))⟩

theorem outU2 (W : World) : Calls Try.prog 53 #[.agg #[.int .i64 0, .int .i64 1, .int .i64 3]] W fun e w' => e = .returned (.agg #[.int .i64 0, .int .i64 1, .int .i64 3]) ∧ Below W.heap.size W w' := by
  have := canon_any 0 1 3 W
  rwa [show canon ⟨0, 1, 3⟩ = ⟨0, 1, 3⟩ by decide] at this

set_option maxHeartbeats 4000000 in
set_option maxRecDepth 100000 in
theorem outAxes2 (b c : Nat) (w : World) (h : w.heap[b]? = some (.cells axes 109 (0, 0))) :
    Calls Try.prog 48 #[.slice (some ⟨b, 0, none⟩) 4 c, .int .i64 0, .int .i64 1, .int .i64 3] w fun e w' => e = .returned (.tuple #[.agg #[.int .i64 0, .int .i64 1, .int .i64 3], .int .i64 0]) ∧ Below w.heap.size w w' := by
  have h0 : (w.alloc (.cells #[.int .i64 0, .int .i64 0, .int .i64 0] 50)).heap[b]? = some (.cells axes 109 (0, 0)) := (Below.heap_alloc w _ b (lt_of_block h)).trans h
  have r0 := heap_alloc_new w (.cells #[.int .i64 0, .int .i64 0, .int .i64 0] 50)
  have bb : Below w.heap.size w (w.alloc (.cells #[.int .i64 0, .int .i64 0, .int .i64 0] 50)) := by (repeat (first | exact Below.refl _ _ | refine Below.alloc ?_ (by first | omega | (simp; done) | (simp; omega)) _ | refine Below.setCell ?_ (by first | omega | (simp; done) | (simp; omega)) _ | refine Below.drew ?_))
  clear h
  go_enter Try.func48, Try.ntmps48
  go_wp2
  refine wp_loop_rounds 3 ?_
  rw [rounds_succ]
  go_wp2_with fail
  rw [rounds_succ]
  go_wp2_with fail
  rw [rounds_succ]
  go_wp2_with fail
  refine (signAxes2 b c _ h0).mono ?_
  rintro e w1 ⟨rfl, hb1⟩
  have h1 := (hb1.block w.heap.size (by simp)).trans r0
  have bb1 := below_up bb hb1
  have lt1 := lt_of_block h1
  clear hb1 h0 r0 bb
  go_wp2_with fail
  refine (outU2 _).mono ?_
  rintro e w2 ⟨rfl, hb2⟩
  have h2 := (hb2.block w.heap.size lt1).trans h1
  have bb2 := below_up bb1 hb2
  obtain ⟨d0, d1, d2, e0, e1, e2⟩ := row3 h2
  clear hb2 h1 h2 bb1 lt1
  go_wp2
  exact bodyPost_ret (v := .tuple #[.agg #[.int .i64 0, .int .i64 1, .int .i64 3], .int .i64 0]) (by simp [results, Try.results48, go_sem, d0, d1, d2]) rfl ⟨rfl, by (repeat (first | with_reducible assumption | exact Below.refl _ _ | refine below_drewN ?_ _ | refine Below.drew ?_ | refine Below.alloc ?_ (by first | omega | (simp; done) | (simp; omega)) _ | refine Below.setCell ?_ (by first | omega | (simp; done) | (simp; omega)) _))⟩

theorem outU3 (W : World) : Calls Try.prog 54 #[.agg #[.int .i64 0, .int .i64 1, .int .i64 2]] W fun e w' => e = .returned (.agg #[.int .i64 0, .int .i64 2, .int .i64 1]) ∧ Below W.heap.size W w' := by
  have := turn_any 0 1 2 W
  rwa [show canon ⟨0, 2, 1⟩ = ⟨0, 2, 1⟩ by decide] at this

set_option maxHeartbeats 4000000 in
set_option maxRecDepth 100000 in
theorem outAxes3 (b c : Nat) (w : World) (h : w.heap[b]? = some (.cells axes 109 (0, 0))) :
    Calls Try.prog 48 #[.slice (some ⟨b, 0, none⟩) 4 c, .int .i64 0, .int .i64 1, .int .i64 2] w fun e w' => e = .returned (.tuple #[.agg #[.int .i64 0, .int .i64 2, .int .i64 1], .int .i64 0]) ∧ Below w.heap.size w w' := by
  have h0 : (w.alloc (.cells #[.int .i64 0, .int .i64 0, .int .i64 0] 50)).heap[b]? = some (.cells axes 109 (0, 0)) := (Below.heap_alloc w _ b (lt_of_block h)).trans h
  have r0 := heap_alloc_new w (.cells #[.int .i64 0, .int .i64 0, .int .i64 0] 50)
  have bb : Below w.heap.size w (w.alloc (.cells #[.int .i64 0, .int .i64 0, .int .i64 0] 50)) := by (repeat (first | exact Below.refl _ _ | refine Below.alloc ?_ (by first | omega | (simp; done) | (simp; omega)) _ | refine Below.setCell ?_ (by first | omega | (simp; done) | (simp; omega)) _ | refine Below.drew ?_))
  clear h
  go_enter Try.func48, Try.ntmps48
  go_wp2
  refine wp_loop_rounds 4 ?_
  rw [rounds_succ]
  go_wp2_with fail
  rw [rounds_succ]
  go_wp2_with fail
  rw [rounds_succ]
  go_wp2_with fail
  rw [rounds_succ]
  go_wp2_with fail
  refine (signAxes3 b c _ h0).mono ?_
  rintro e w1 ⟨rfl, hb1⟩
  have h1 := (hb1.block w.heap.size (by simp)).trans r0
  have bb1 := below_up bb hb1
  have lt1 := lt_of_block h1
  clear hb1 h0 r0 bb
  go_wp2_with fail
  refine (outU3 _).mono ?_
  rintro e w2 ⟨rfl, hb2⟩
  have h2 := (hb2.block w.heap.size lt1).trans h1
  have bb2 := below_up bb1 hb2
  obtain ⟨d0, d1, d2, e0, e1, e2⟩ := row3 h2
  clear hb2 h1 h2 bb1 lt1
  go_wp2
  exact bodyPost_ret (v := .tuple #[.agg #[.int .i64 0, .int .i64 2, .int .i64 1], .int .i64 0]) (by simp [results, Try.results48, go_sem, d0, d1, d2]) rfl ⟨rfl, by (repeat (first | with_reducible assumption | exact Below.refl _ _ | refine below_drewN ?_ _ | refine Below.drew ?_ | refine Below.alloc ?_ (by first | omega | (simp; done) | (simp; omega)) _ | refine Below.setCell ?_ (by first | omega | (simp; done) | (simp; omega)) _))⟩

end Go.Proofs.Ytojecaeblgghjaa
