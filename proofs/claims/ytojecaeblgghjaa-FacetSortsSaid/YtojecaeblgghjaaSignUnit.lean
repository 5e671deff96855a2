/-
  orient.sign AT THE CORNER OF THE AXES: -1.
-/
import Derived.Test.YtojecaeblgghjaaFilterUnit
import Derived.Deep.RegionHeld3
set_option linter.unusedVariables false
set_option linter.unusedSimpArgs false
namespace Go.Proofs.Ytojecaeblgghjaa
open Go.RowKit Go.Sort LsP

theorem less0 (W : World) : Calls Try.prog 160 #[.agg #[.int .i64 0, .int .i64 0, .int .i64 0], .agg #[.int .i64 0, .int .i64 0, .int .i64 1]] W fun e w' => e = .returned (.agg #[.int .i64 0, .int .i64 0, .int .i64 (-1)]) ∧ Below W.heap.size W w' :=
  ptLess_any 0 0 0 0 0 1 W (by decide) (by decide) (by decide) (by decide) (by decide) (by decide)
theorem less1' (W : World) : Calls Try.prog 160 #[.agg #[.int .i64 1, .int .i64 0, .int .i64 0], .agg #[.int .i64 0, .int .i64 0, .int .i64 1]] W fun e w' => e = .returned (.agg #[.int .i64 1, .int .i64 0, .int .i64 (-1)]) ∧ Below W.heap.size W w' :=
  ptLess_any 1 0 0 0 0 1 W (by decide) (by decide) (by decide) (by decide) (by decide) (by decide)
theorem less2 (W : World) : Calls Try.prog 160 #[.agg #[.int .i64 0, .int .i64 1, .int .i64 0], .agg #[.int .i64 0, .int .i64 0, .int .i64 1]] W fun e w' => e = .returned (.agg #[.int .i64 0, .int .i64 1, .int .i64 (-1)]) ∧ Below W.heap.size W w' :=
  ptLess_any 0 1 0 0 0 1 W (by decide) (by decide) (by decide) (by decide) (by decide) (by decide)

abbrev axes : Array Value := #[.int .i64 0, .int .i64 0, .int .i64 0, .int .i64 1, .int .i64 0, .int .i64 0, .int .i64 0, .int .i64 1, .int .i64 0, .int .i64 0, .int .i64 0, .int .i64 1]

theorem axesRow {w : World} {b : Nat} {t : TypeId} (h : w.heap[b]? = some (.cells axes t (0, 0))) :
    w.cell? ⟨b, 0, none⟩ = some (.int .i64 0) ∧ w.cell? ⟨b, 1, none⟩ = some (.int .i64 0) ∧ w.cell? ⟨b, 2, none⟩ = some (.int .i64 0) ∧
    w.cell? ⟨b, 3, none⟩ = some (.int .i64 1) ∧ w.cell? ⟨b, 4, none⟩ = some (.int .i64 0) ∧ w.cell? ⟨b, 5, none⟩ = some (.int .i64 0) ∧
    w.cell? ⟨b, 6, none⟩ = some (.int .i64 0) ∧ w.cell? ⟨b, 7, none⟩ = some (.int .i64 1) ∧ w.cell? ⟨b, 8, none⟩ = some (.int .i64 0) ∧
    w.cell? ⟨b, 9, none⟩ = some (.int .i64 0) ∧ w.cell? ⟨b, 10, none⟩ = some (.int .i64 0) ∧ w.cell? ⟨b, 11, none⟩ = some (.int .i64 1) := by
  simp [World.cell?, h]

set_option maxHeartbeats 40000000 in
set_option maxRecDepth 100000 in
theorem signUnit_any (w : World) :
    Calls Try.prog 126 #[.agg axes] w fun e w' => e = .returned (.int .i64 (-1)) ∧ Below w.heap.size w w' := by
  have r0 := heap_alloc_new w (.cells axes 134)
  have hb : Below w.heap.size w (w.alloc (.cells axes 134)) := (Below.refl w.heap.size w).alloc (Nat.le_refl _) _
  have hs : (w.alloc (.cells axes 134)).heap.size = w.heap.size + 1 := by simp
  simp only [axes] at *
  go_enter Try.func126, Try.ntmps126
  go_wp2_with fail
  generalize w.alloc (.cells #[.int .i64 0, .int .i64 0, .int .i64 0, .int .i64 1, .int .i64 0, .int .i64 0, .int .i64 0, .int .i64 1, .int .i64 0, .int .i64 0, .int .i64 0, .int .i64 1] 134) = W0 at *
  have r0' : W0.drew.heap[w.heap.size]? = some (.cells axes 134 (0, 0)) := r0
  obtain ⟨k0, k1, k2, k3, k4, k5, k6, k7, k8, k9, k10, k11⟩ := axesRow r0'
  have sz : w.heap.size + 1 ≤ W0.drew.heap.size := by show _ ≤ W0.heap.size; omega
  have bb := Below.drew hb
  have rr := Lib.hid r0'
  clear r0 r0' hs hb
  go_region_held3 (fun w' => w'.cell? ⟨w.heap.size, 0, none⟩ = some (.int .i64 0) ∧ w'.cell? ⟨w.heap.size, 1, none⟩ = some (.int .i64 0) ∧ w'.cell? ⟨w.heap.size, 2, none⟩ = some (.int .i64 0) ∧
      w'.cell? ⟨w.heap.size, 3, none⟩ = some (.int .i64 1) ∧ w'.cell? ⟨w.heap.size, 4, none⟩ = some (.int .i64 0) ∧ w'.cell? ⟨w.heap.size, 5, none⟩ = some (.int .i64 0) ∧
      w'.cell? ⟨w.heap.size, 6, none⟩ = some (.int .i64 0) ∧ w'.cell? ⟨w.heap.size, 7, none⟩ = some (.int .i64 1) ∧ w'.cell? ⟨w.heap.size, 8, none⟩ = some (.int .i64 0) ∧
      w'.cell? ⟨w.heap.size, 9, none⟩ = some (.int .i64 0) ∧ w'.cell? ⟨w.heap.size, 10, none⟩ = some (.int .i64 0) ∧ w'.cell? ⟨w.heap.size, 11, none⟩ = some (.int .i64 1))
    (first
      | with_reducible exact ⟨k0, k1, k2, k3, k4, k5, k6, k7, k8, k9, k10, k11⟩)
    (first
      | (go_at_call 160
         first | with_reducible refine (less0 _).mono ?_ | with_reducible refine (less1' _).mono ?_ | with_reducible refine (less2 _).mono ?_
         rintro e w1 ⟨rfl, hb1⟩
         have rr := Lib.hid ((hb1.block w.heap.size (Nat.lt_of_lt_of_le (Nat.lt_succ_self _) sz)).trans rr.out)
         obtain ⟨k0, k1, k2, k3, k4, k5, k6, k7, k8, k9, k10, k11⟩ := axesRow rr.out
         have bb := below_up bb hb1
         have sz := Nat.le_trans sz hb1.size)
      | (go_at_call 159
         refine (filterUnit_any _).mono ?_
         rintro e w1 ⟨rfl, hb1⟩
         have rr := Lib.hid ((hb1.block w.heap.size (Nat.lt_of_lt_of_le (Nat.lt_succ_self _) sz)).trans rr.out)
         obtain ⟨k0, k1, k2, k3, k4, k5, k6, k7, k8, k9, k10, k11⟩ := axesRow rr.out
         have bb := below_up bb hb1
         have sz := Nat.le_trans sz hb1.size))
  go_wp2
  go_ret
  exact ⟨rfl, bb⟩
end Go.Proofs.Ytojecaeblgghjaa
