/- ConflictLent returns true for every slice of points, every two facets, every triple and every int, in whatever memory and on every schedule, and leaves its arguments as they were; no condition. -/
import Derived.Test.YtojecaeblgghjaaRows
import Derived.WalkKit
import Derived.Test.YtojecaeblgghjaaLent6
import Derived.Test.YtojecaeblgghjaaArgG
import Derived.Test.YtojecaeblgghjaaArgFacet
import Derived.ProofKit
import Derived.OpenShut
import Derived.ShutString
import Derived.SliceStrings
import Derived.ChangeOld
import Derived.Below
namespace Go.Proofs.Ytojecaeblgghjaa.conflictLent
open Go.ChangeShapes Go.WideShapes Go.ChangeAt Go.RowKit
open Go.ChangeMaps (open_string shut_string)
set_option linter.unusedVariables false

theorem own : ownKnob Try.prog.godebug = none := by kernel_rfl
theorem laidOut : laidOutB Try.prog = true := by kernel_rfl

/-- THE WALK -/
theorem walk (a0 : Option Addr) (len0 cap0 : Nat) (z0 : List T3) (x1 y1 z1 : Int) (a1 : Option Addr) (len1 cap1 : Nat) (l1 : List Int) (x2 y2 z2 : Int) (a2 : Option Addr) (len2 cap2 : Nat) (l2 : List Int) (a3 b3 c3 : Int) (a4 : Int) (w : World) (w0 : z0.length = len0 ∧ len0 ≤ cap0 ∧ cap0 ≤ maxLen ∧ RdT 0 w a0 z0) (w1 : l1.length = len1 ∧ len1 ≤ cap1 ∧ cap1 ≤ maxLen ∧ Rd encI 0 w a1 l1) (w2 : l2.length = len2 ∧ len2 ≤ cap2 ∧ cap2 ≤ maxLen ∧ Rd encI 0 w a2 l2) (w3 : (Lit.int .i64 a3).wf = true ∧ (Lit.int .i64 b3).wf = true ∧ (Lit.int .i64 c3).wf = true) (w4 : (Lit.int .i64 a4).wf = true) :
    Calls Try.prog 17 #[.slice a0 len0 cap0, .agg #[.int .i64 x1, .int .i64 y1, .int .i64 z1, .slice a1 len1 cap1], .agg #[.int .i64 x2, .int .i64 y2, .int .i64 z2, .slice a2 len2 cap2], .agg #[.int .i64 a3, .int .i64 b3, .int .i64 c3], .int .i64 a4] w fun e w' => e = .returned (.bool true) ∧ Below w.heap.size w w' := by
  obtain ⟨hl, hc, hm, hr⟩ := w0
  unfold maxLen at hm
  obtain ⟨hl1, _, _, hr1⟩ := w1
  obtain ⟨hl2, _, _, hr2⟩ := w2
  exact lent6_walk a0 a1 a2 len0 cap0 len1 len2 cap1 cap2 z0 ⟨x1, y1, z1⟩ ⟨x2, y2, z2⟩ l1 l2 a3 b3 c3 a4 w (wf_in w4) hr hl (by omega) hr1 hr2 hl1 hl2

set_option maxRecDepth 100000 in
theorem lifted (os : Os) (started : os.Started) (H : Type) (enc : TypeId × Value → H) :
    ReturnsInHanded {} Try.checked os 17 .any (Rows.conflictLentSpec.pre6 enc Try.prog Try.f17 Rows.conflictLentRow.domain false) (Rows.conflictLentSpec.post enc Try.prog Try.f17 false true false false) := by
  refine returnsInHanded_of_change (C := Try.checked) own started (by kernel_rfl) Try.func17
    (ChangeSpec.witness6 (enc := enc) (C := Try.checked) false ⟨#[], #[.slice none 0 0, .agg #[.int .i64 0, .int .i64 0, .int .i64 0, .slice none 0 0], .agg #[.int .i64 0, .int .i64 0, .int .i64 0, .slice none 0 0], .agg #[.int .i64 0, .int .i64 0, .int .i64 0], .int .i64 0], []⟩ 8 (by kernel_rfl) (by kernel_rfl) (by kernel_rfl) (by kernel_rfl)) ?_
  intro W base args ds gs before hval0 hW hcnd _
  have hval : ∀ (j : Nat) t v, Try.f17.params[j]? = some t → args[j]? = some v → Value.okWide Try.prog W .any base t v := hval0
  have hW' := hW
  obtain ⟨p, q, hA0, hV, rfl, hfz, hnd⟩ := hW
  have hA : DataW.TrodAll enc Try.prog W 0 (fun _ => true) true Try.f17.params.toList args.toList ds p := hA0
  rw [Try.params17] at hA hval
  obtain ⟨v0, vs0, d0, ds0, p0, q0, hargs, rfl, rfl, h0, r0⟩ := trodAll_cons hA
  obtain ⟨v1, vs1, d1, ds1, p1, q1, rfl, rfl, rfl, h1, r1⟩ := trodAll_cons r0
  obtain ⟨v2, vs2, d2, ds2, p2, q2, rfl, rfl, rfl, h2, r2⟩ := trodAll_cons r1
  obtain ⟨v3, vs3, d3, ds3, p3, q3, rfl, rfl, rfl, h3, r3⟩ := trodAll_cons r2
  obtain ⟨v4, vs4, d4, ds4, p4, q4, rfl, rfl, rfl, h4, r4⟩ := trodAll_cons r3
  obtain ⟨rfl, rfl, rfl⟩ := trodAll_nil r4
  obtain rfl : args = #[v0, v1, v2, v3, v4] := by cases args; simp_all
  obtain ⟨rfl, rfl⟩ := trodVars_none hV
  obtain ⟨a0, len0, cap0, rfl⟩ := okWide_slice Try.underlying48 (hval 0 48 v0 rfl rfl)
  have k0 := h0
  have lt0 : ∀ x ∈ p0, x.block < W.heap.size := by obtain ⟨m, hm⟩ := k0; exact DataW.trod_lt m _ _ _ hm
  obtain ⟨z0, w0⟩ : ∃ zs : List T3, zs.length = len0 ∧ len0 ≤ cap0 ∧ cap0 ≤ maxLen ∧ RdT 0 W a0 zs := by
    obtain ⟨fuel, hf⟩ := h0
    rcases open_pts hf with hcs | ⟨x, l, c, zs, hcs, hl, hm, hz, hr⟩
    · simp [Value.cells] at hcs
      obtain ⟨rfl, rfl, rfl⟩ := hcs
      exact ⟨[], rfl, Nat.le_refl _, by decide, Rd.nil⟩
    · simp [Value.cells] at hcs
      obtain ⟨rfl, rfl, rfl⟩ := hcs
      exact ⟨zs, hz, hl, hm, hr⟩
  have k1 := h1
  have lt1 : ∀ x ∈ p1, x.block < W.heap.size := by obtain ⟨m, hm⟩ := k1; exact DataW.trod_lt m _ _ _ hm
  obtain ⟨x1, y1, z1, a1, len1, cap1, l1, rfl, w1⟩ := open_facet (hval 1 86 v1 rfl rfl) h1
  have k2 := h2
  have lt2 : ∀ x ∈ p2, x.block < W.heap.size := by obtain ⟨m, hm⟩ := k2; exact DataW.trod_lt m _ _ _ hm
  obtain ⟨x2, y2, z2, a2, len2, cap2, l2, rfl, w2⟩ := open_facet (hval 2 86 v2 rfl rfl) h2
  obtain ⟨a3, b3, c3, rfl, rfl, rfl, w3⟩ := open_tri (hval 3 50 v3 rfl rfl) h3
  obtain ⟨a4, rfl, rfl, rfl, w4⟩ := open_int Try.underlying3 (hval 4 3 v4 rfl rfl) h4
  clear hA0 hval0
  refine (walk a0 len0 cap0 z0 x1 y1 z1 a1 len1 cap1 l1 x2 y2 z2 a2 len2 cap2 l2 a3 b3 c3 a4 W w0 w1 w2 w3 w4).mono fun e W' ⟨he, bel⟩ => ?_
  subst he
  exact ⟨_, rfl, _, _, _, [], _, [], hW', trodAll_mk1 (shut_bool Try.underlying4 _), (trodAll_cons_mk (Below.trod laidOut (by kernel_rfl) (of_decide_eq_true (by kernel_rfl)) k0 bel lt0) (trodAll_cons_mk (Below.trod laidOut (by kernel_rfl) (of_decide_eq_true (by kernel_rfl)) k1 bel lt1) (trodAll_cons_mk (Below.trod laidOut (by kernel_rfl) (of_decide_eq_true (by kernel_rfl)) k2 bel lt2) (trodAll_cons_mk (shut_tri w3.1 w3.2.1 w3.2.2) (trodAll_cons_mk (shut_int Try.underlying3 w4) trodAll_mk0))))), rfl, bel.frame _, fun h => by cases h⟩

theorem hfnL : Try.pinned.checked.prog.funcNamed Rows.conflictLentRow.func = some 17 := by kernel_rfl
theorem closedL : joinedFacts Try.pinned.checked.prog 17 Try.f17 Rows.conflictLentSpec Rows.conflictLentRow = true := by kernel_rfl
theorem instL : Try.f17.isInstance Try.pinned.checked.prog Rows.conflictLentRow.origin Rows.conflictLentRow.targs := of_decide_eq_true (by kernel_rfl)
theorem wrapL : Try.f17.isWrapper Try.pinned.checked.prog Rows.conflictLentRow.wrapper Rows.conflictLentRow.mainSum := by unfold Func.isWrapper; first | (rw [if_pos (by decide +kernel)]; kernel_rfl) | (rw [if_neg (by decide +kernel)]; exact ⟨rfl, rfl⟩)
theorem over : Rows.conflictLentRow.holds Try.pinned (OpenSpec.ofChange Rows.conflictLentSpec) :=
  OpenClaim.holds_of_wide 17 Try.f17 rfl rfl rfl rfl rfl rfl rfl ⟨rfl, rfl, rfl, rfl, rfl⟩ rfl rfl rfl rfl rfl hfnL Try.func17 closedL instL wrapL
    (fun os started H enc _ => lifted os started H enc)

theorem proved : Rows.ConflictLentSaid := over
#print axioms proved
end Go.Proofs.Ytojecaeblgghjaa.conflictLent
