/-
  A TRIPLE, AN EDGE AS ARGUMENTS BY VALUE: opened and shut.
-/
import Derived.Test.YtojecaeblgghjaaTri
import Derived.ProofKit
import Derived.OpenShut
import Derived.WalkKit
import Derived.ChangeOld
set_option linter.unusedVariables false
set_option linter.unusedSimpArgs false
namespace Go.Proofs.Ytojecaeblgghjaa
open Go.ChangeShapes Go.WideShapes Go.ChangeAt Go.RowKit

theorem cellsTri : Try.prog.cellsOf 50 = 3 := by kernel_rfl
theorem cellsEdge : Try.prog.cellsOf 71 = 2 := by kernel_rfl
theorem cellsInt : Try.prog.cellsOf 3 = 1 := by kernel_rfl

section
variable {H : Type} {enc : TypeId × Value → H} {w : World} {base : Nat} {spare : Nat → Bool} {held : Bool}

theorem trod_array2 {P : Program} {t e : TypeId} {fuel : Nat} {c0 c1 : Value} {x : DataW H × List MemPlace} (ht : P.underlying t = some (.array 2 e)) (hce : P.cellsOf e = 1)
    (h : DataW.trod enc P w base spare held fuel t [c0, c1] = some x) :
    ∃ y0 y1 n, x = (.agg [y0.1, y1.1], y0.2 ++ y1.2) ∧ DataW.trod enc P w base spare held n e [c0] = some y0 ∧ DataW.trod enc P w base spare held n e [c1] = some y1 := by
  cases fuel with
  | zero => simp [DataW.trod] at h
  | succ n =>
    unfold DataW.trod at h
    rw [ht] at h
    have r2 : List.range 2 = [0, 1] := rfl
    simp [r2, hce] at h
    obtain ⟨_, h⟩ := h
    cases h0 : DataW.trod enc P w base spare held n e [c0] with
    | none => simp [h0] at h
    | some y0 =>
      cases h1 : DataW.trod enc P w base spare held n e [c1] with
      | none => simp [h0, h1] at h
      | some y1 =>
        simp [h0, h1] at h
        exact ⟨y0, y1, n, h.symm, h0, h1⟩

set_option maxRecDepth 100000 in
theorem open_tri {r : Reach} {b0 : Nat} {v : Value} {d : DataW H} {ps : List MemPlace} (hval : Value.okWide Try.prog w r b0 50 v) (hd : DataW.Trod enc Try.prog w base spare held 50 v d ps) :
    ∃ a b c : Int, v = .agg #[.int .i64 a, .int .i64 b, .int .i64 c] ∧ d = .agg [.lit (.int .i64 a), .lit (.int .i64 b), .lit (.int .i64 c)] ∧ ps = [] ∧ (Lit.int .i64 a).wf = true ∧ (Lit.int .i64 b).wf = true ∧ (Lit.int .i64 c).wf = true := by
  obtain ⟨cs, rfl, hsz, _⟩ : ∃ cs, v = .agg cs ∧ cs.size = Try.prog.cellsOf 50 ∧ Row.okWide Try.prog w r b0 50 cs := by
    simp only [Value.okWide, Try.underlying50] at hval
    exact hval
  rw [cellsTri] at hsz
  obtain ⟨fuel, hf⟩ := hd
  obtain ⟨l⟩ := cs
  match l, hsz with
  | [c0, c1, c2], _ =>
    obtain ⟨y0, y1, y2, m, hx, hy0, hy1, hy2⟩ := trod_array3 Try.underlying50 cellsInt hf
    obtain ⟨x0, e0, rfl, w0⟩ := DataW.trod_int Try.underlying3 hy0
    obtain ⟨x1, e1, rfl, w1⟩ := DataW.trod_int Try.underlying3 hy1
    obtain ⟨x2, e2, rfl, w2⟩ := DataW.trod_int Try.underlying3 hy2
    simp at e0 e1 e2
    subst e0 e1 e2
    simp only [Prod.mk.injEq] at hx
    obtain ⟨rfl, rfl⟩ := hx
    exact ⟨x0, x1, x2, rfl, rfl, rfl, w0, w1, w2⟩

set_option maxRecDepth 100000 in
theorem shut_tri {a b c : Int} (wa : (Lit.int .i64 a).wf = true) (wb : (Lit.int .i64 b).wf = true) (wc : (Lit.int .i64 c).wf = true) :
    DataW.Trod enc Try.prog w base spare held 50 (.agg #[.int .i64 a, .int .i64 b, .int .i64 c]) (DataW.agg [.lit (.int .i64 a), .lit (.int .i64 b), .lit (.int .i64 c)]) [] :=
  ⟨2, by simp [DataW.trod, Value.cells, Try.underlying50, Try.underlying3, cellsTri, cellsInt, wa, wb, wc, show List.range 3 = [0, 1, 2] from rfl]⟩

set_option maxRecDepth 100000 in
theorem open_edge {r : Reach} {b0 : Nat} {v : Value} {d : DataW H} {ps : List MemPlace} (hval : Value.okWide Try.prog w r b0 71 v) (hd : DataW.Trod enc Try.prog w base spare held 71 v d ps) :
    ∃ a b : Int, v = .agg #[.int .i64 a, .int .i64 b] ∧ d = .agg [.lit (.int .i64 a), .lit (.int .i64 b)] ∧ ps = [] ∧ (Lit.int .i64 a).wf = true ∧ (Lit.int .i64 b).wf = true := by
  obtain ⟨cs, rfl, hsz, _⟩ : ∃ cs, v = .agg cs ∧ cs.size = Try.prog.cellsOf 71 ∧ Row.okWide Try.prog w r b0 71 cs := by
    simp only [Value.okWide, Try.underlying71] at hval
    exact hval
  rw [cellsEdge] at hsz
  obtain ⟨fuel, hf⟩ := hd
  obtain ⟨l⟩ := cs
  match l, hsz with
  | [c0, c1], _ =>
    obtain ⟨y0, y1, m, hx, hy0, hy1⟩ := trod_array2 Try.underlying71 cellsInt hf
    obtain ⟨x0, e0, rfl, w0⟩ := DataW.trod_int Try.underlying3 hy0
    obtain ⟨x1, e1, rfl, w1⟩ := DataW.trod_int Try.underlying3 hy1
    simp at e0 e1
    subst e0 e1
    simp only [Prod.mk.injEq] at hx
    obtain ⟨rfl, rfl⟩ := hx
    exact ⟨x0, x1, rfl, rfl, rfl, w0, w1⟩

set_option maxRecDepth 100000 in
theorem shut_edge {a b : Int} (wa : (Lit.int .i64 a).wf = true) (wb : (Lit.int .i64 b).wf = true) :
    DataW.Trod enc Try.prog w base spare held 71 (.agg #[.int .i64 a, .int .i64 b]) (DataW.agg [.lit (.int .i64 a), .lit (.int .i64 b)]) [] :=
  ⟨2, by simp [DataW.trod, Value.cells, Try.underlying71, Try.underlying3, cellsEdge, cellsInt, wa, wb, show List.range 2 = [0, 1] from rfl]⟩
end
end Go.Proofs.Ytojecaeblgghjaa
