/-
  carapacelaw5.awake: true.
-/
import Derived.Test.YtojecaeblgghjaaSeed
import Derived.Test.YtojecaeblgghjaaAxesG
import Derived.Test.YtojecaeblgghjaaAcross
set_option linter.unusedVariables false
set_option linter.unusedSimpArgs false
namespace Go.Proofs.Ytojecaeblgghjaa
open Go.RowKit Go.Sort LsP

set_option maxHeartbeats 1000000 in
theorem unit_any (w : World) :
    Calls Try.prog 96 #[] w fun e w' => e = .returned (.slice (some ⟨w.heap.size, 0, none⟩) 4 4) ∧ w' = w.alloc (.cells axes 109) := by
  go_enter Try.func96, Try.ntmps96
  go_wp2
  go_ret
  exact ⟨rfl, rfl⟩

def unitO (k : Nat) : T3 := if k = 0 then ⟨1, 2, 3⟩ else if k = 1 then ⟨0, 3, 2⟩ else if k = 2 then ⟨0, 1, 3⟩ else ⟨0, 2, 1⟩

theorem unit_set : sset ((four unitO).map canon) = [⟨0, 1, 3⟩, ⟨0, 2, 1⟩, ⟨0, 3, 2⟩, ⟨1, 2, 3⟩] := by
  refine sset_eq ⟨by decide, fun x => ?_⟩
  have : (four unitO).map canon = [⟨1, 2, 3⟩, ⟨0, 3, 2⟩, ⟨0, 1, 3⟩, ⟨0, 2, 1⟩] := by decide
  rw [this]
  simp only [List.mem_cons, List.not_mem_nil, or_false]
  constructor <;> (rintro (h | h | h | h) <;> simp [h])

theorem seed_unit (c : Nat) (b : Nat) (w : World) (h : w.heap[b]? = some (.cells axes 109 (0, 0))) :
    Calls Try.prog 50 #[.slice (some ⟨b, 0, none⟩) 4 c] w fun e w' => ∃ A', e = .returned (.tuple #[.slice A' 4 4, .int .i64 0]) ∧ RdT w.heap.size w' A' [⟨0, 1, 3⟩, ⟨0, 2, 1⟩, ⟨0, 3, 2⟩, ⟨1, 2, 3⟩] ∧ Below w.heap.size w w' := by
  have := seed_ok (some ⟨b, 0, none⟩) 4 c unitO w (fun k hk W hW => by
    have hb : W.heap[b]? = some (.cells axes 109 (0, 0)) := (hW.block _ (Array.getElem?_eq_some_iff.1 h).1).trans h
    rcases (by omega : k = 0 ∨ k = 1 ∨ k = 2 ∨ k = 3) with rfl | rfl | rfl | rfl
    · exact outAxes0 b c W hb
    · exact outAxes1 b c W hb
    · exact outAxes2 b c W hb
    · exact outAxes3 b c W hb)
  rw [unit_set] at this
  exact this

set_option maxHeartbeats 4000000 in
set_option maxRecDepth 100000 in
theorem awake5_any (w : World) : Calls Try.prog 47 #[] w fun e w' => e = .returned (.bool true) ∧ Below w.heap.size w w' := by
  have k1 := fun W => canon_any 5 2 9 W
  rw [show canon ⟨5, 2, 9⟩ = ⟨2, 9, 5⟩ by decide] at k1
  have k2 := fun W => turn_any 5 2 9 W
  rw [show canon ⟨5, 9, 2⟩ = ⟨2, 5, 9⟩ by decide] at k2
  have K1 := Lib.hid k1; have K2 := Lib.hid k2
  have S := Lib.hid (fun c b W => seed_unit c b W)
  have e1 := eqT_run ⟨2, 9, 5⟩ ⟨2, 9, 5⟩
  have e2 := eqT_run ⟨2, 5, 9⟩ ⟨2, 5, 9⟩
  have e3 := eqT_run ⟨0, 2, 1⟩ ⟨0, 2, 1⟩
  simp only [decide_true, encT] at e1 e2 e3
  have x := fun W => across_any 5 2 9 2 9 W
  rw [show across 5 2 9 2 9 = (5, true) by decide] at x
  have X := Lib.hid x
  clear k1 k2 x
  go_enter Try.func47, Try.ntmps47
  go_wp2_with fail
  refine (unit_any _).mono ?_
  rintro e w1 ⟨rfl, rfl⟩
  go_wp2_with fail
  refine (S.out 4 _ _ (heap_alloc_new _ _)).mono ?_
  rintro e w2 ⟨A, rfl, rd, hb⟩
  have b2 := below_up ((Below.refl w.heap.size w).alloc (Nat.le_refl _) _) hb
  have H2 := Lib.hid (And.intro rd b2)
  clear rd b2 hb
  go_wp2_with fail
  refine (X.out _).mono ?_
  rintro e w3 ⟨rfl, hb⟩
  have rd3 := H2.out.1.below hb (Nat.le_refl _)
  have b3 := below_up H2.out.2 hb
  have H3 := Lib.hid (And.intro rd3 b3)
  clear hb rd3 b3
  go_wp2_with fail
  refine (K1.out _).mono ?_
  rintro e w4 ⟨rfl, hb⟩
  have rd4 := H3.out.1.below hb (Nat.le_refl _)
  have b4 := below_up H3.out.2 hb
  have H4 := Lib.hid (And.intro rd4 b4)
  clear hb rd4 b4
  go_wp2_with fail
  refine (K2.out _).mono ?_
  rintro e w5 ⟨rfl, hb⟩
  have rd5 := H4.out.1.below hb (Nat.le_refl _)
  have b5 := below_up H4.out.2 hb
  obtain ⟨b, off, rfl, hbw, q0, q1, q2⟩ := RdT.at3 rd5 (k := 1) (by decide)
  have B5 := Lib.hid b5
  clear hb rd5 b5
  simp only [Nat.one_mul] at q0 q1 q2
  have q0' : w5.cell? ⟨b, off + 3, none⟩ = some (.int .i64 0) := q0
  have q1' : w5.cell? ⟨b, off + 3 + 1, none⟩ = some (.int .i64 2) := q1
  have q2' : w5.cell? ⟨b, off + 3 + 2, none⟩ = some (.int .i64 1) := q2
  clear q0 q1 q2
  go_wp2
  go_ret
  exact ⟨rfl, B5.out⟩
end Go.Proofs.Ytojecaeblgghjaa
