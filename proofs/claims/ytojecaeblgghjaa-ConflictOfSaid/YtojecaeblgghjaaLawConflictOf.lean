/- ConflictOf returns true for every slice of points and every triple, in whatever memory and on every schedule, and leaves its arguments as they were; no condition. -/
import Derived.Test.YtojecaeblgghjaaRows
import Derived.WalkKit
import Derived.Test.YtojecaeblgghjaaOfWalk
import Derived.Test.YtojecaeblgghjaaArgG
import Derived.ProofKit
import Derived.OpenShut
import Derived.ShutString
import Derived.SliceStrings
import Derived.ChangeOld
import Derived.Below
namespace Go.Proofs.Ytojecaeblgghjaa.conflictOf
open Go.ChangeShapes Go.WideShapes Go.ChangeAt Go.RowKit
open Go.ChangeMaps (open_string shut_string)
set_option linter.unusedVariables false

theorem own : ownKnob Try.prog.godebug = none := by kernel_rfl
theorem laidOut : laidOutB Try.prog = true := by kernel_rfl

/-- THE WALK -/
theorem walk (a0 : Option Addr) (len0 cap0 : Nat) (z0 : List T3) (a1 b1 c1 : Int) (w : World) (w0 : z0.length = len0 ∧ len0 ≤ cap0 ∧ cap0 ≤ maxLen ∧ RdT 0 w a0 z0) (w1 : (Lit.int .i64 a1).wf = true ∧ (Lit.int .i64 b1).wf = true ∧ (Lit.int .i64 c1).wf = true) :
    Calls Try.prog 16 #[.slice a0 len0 cap0, .agg #[.int .i64 a1, .int .i64 b1, .int .i64 c1]] w fun e w' => e = .returned (.bool true) ∧ Below w.heap.size w w' := by
  obtain ⟨hl, hc, hm, hr⟩ := w0
  unfold maxLen at hm
  exact of_walk a0 len0 cap0 z0 a1 b1 c1 w hr hl (by omega)

set_option maxRecDepth 100000 in
theorem lifted (os : Os) (started : os.Started) (H : Type) (enc : TypeId × Value → H) :
    ReturnsInHanded {} Try.checked os 16 .any (Rows.conflictOfSpec.pre6 enc Try.prog Try.f16 Rows.conflictOfRow.domain false) (Rows.conflictOfSpec.post enc Try.prog Try.f16 false true false false) := by
  refine returnsInHanded_of_change (C := Try.checked) own started (by kernel_rfl) Try.func16
    (ChangeSpec.witness6 (enc := enc) (C := Try.checked) false ⟨#[], #[.slice none 0 0, .agg #[.int .i64 0, .int .i64 0, .int .i64 0]], []⟩ 8 (by kernel_rfl) (by kernel_rfl) (by kernel_rfl) (by kernel_rfl)) ?_
  intro W base args ds gs before hval0 hW hcnd _
  have hval : ∀ (j : Nat) t v, Try.f16.params[j]? = some t → args[j]? = some v → Value.okWide Try.prog W .any base t v := hval0
  have hW' := hW
  obtain ⟨p, q, hA0, hV, rfl, hfz, hnd⟩ := hW
  have hA : DataW.TrodAll enc Try.prog W 0 (fun _ => true) true Try.f16.params.toList args.toList ds p := hA0
  rw [Try.params16] at hA hval
  obtain ⟨v0, vs0, d0, ds0, p0, q0, hargs, rfl, rfl, h0, r0⟩ := trodAll_cons hA
  obtain ⟨v1, vs1, d1, ds1, p1, q1, rfl, rfl, rfl, h1, r1⟩ := trodAll_cons r0
  obtain ⟨rfl, rfl, rfl⟩ := trodAll_nil r1
  obtain rfl : args = #[v0, v1] := by cases args; simp_all
  obtain ⟨rfl, rfl⟩ := trodVars_none hV
  obtain ⟨a0, len0, cap0, rfl⟩ := okWide_slice Try.underlying48 (hval 0 48 v0 rfl rfl)
  have k0 := h0
  have lt0 : ∀ x ∈ p0, x.block < W.heap.size := by obtain ⟨m, hm⟩ := k0; exact DataW.trod_lt m _ _ _ hm
  obtain ⟨z0, w0⟩ : ∃ zs : List T3, zs.length = len0 ∧ len0 ≤ cap0 ∧ cap0 ≤ maxLen ∧ RdT 0 W a0 zs := by
    obtain ⟨fuel, hf⟩ := h0
    rcases open_pts hf with hcs | ⟨x, l, c, zs, hcs, hl, hm, hz, hr⟩
    · simp [Value.cells] at hcs
      obtain ⟨rfl, rfl, rfl⟩ := hcs
      exact ⟨[], rfl, Nat.le_refl _, by decide, Rd.nil⟩
    · simp [Value.cells] at hcs
      obtain ⟨rfl, rfl, rfl⟩ := hcs
      exact ⟨zs, hz, hl, hm, hr⟩
  obtain ⟨a1, b1, c1, rfl, rfl, rfl, w1⟩ := open_tri (hval 1 50 v1 rfl rfl) h1
  clear hA0 hval0
  refine (walk a0 len0 cap0 z0 a1 b1 c1 W w0 w1).mono fun e W' ⟨he, bel⟩ => ?_
  subst he
  exact ⟨_, rfl, _, _, _, [], _, [], hW', trodAll_mk1 (shut_bool Try.underlying4 _), (trodAll_cons_mk (Below.trod laidOut (by kernel_rfl) (of_decide_eq_true (by kernel_rfl)) k0 bel lt0) (trodAll_cons_mk (shut_tri w1.1 w1.2.1 w1.2.2) trodAll_mk0)), rfl, bel.frame _, fun h => by cases h⟩

theorem over : Rows.conflictOfRow.holds Try.pinned (OpenSpec.ofChange Rows.conflictOfSpec) :=
  OpenClaim.holds_of_wide 16 Try.f16 rfl rfl rfl rfl rfl rfl rfl ⟨rfl, rfl, rfl, rfl, rfl⟩ rfl rfl rfl rfl rfl (by kernel_rfl) Try.func16 (by kernel_rfl)
    (of_decide_eq_true (by kernel_rfl)) (by unfold Func.isWrapper; first | (rw [if_pos (by decide +kernel)]; kernel_rfl) | (rw [if_neg (by decide +kernel)]; exact ⟨rfl, rfl⟩))
    (fun os started H enc _ => lifted os started H enc)

theorem proved : Rows.ConflictOfSaid := over
#print axioms proved
end Go.Proofs.Ytojecaeblgghjaa.conflictOf
