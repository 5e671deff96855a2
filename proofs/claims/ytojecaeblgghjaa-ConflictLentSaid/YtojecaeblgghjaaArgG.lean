/-
  Merged: ArgTri, ArgPts.
-/
import Derived.Test.YtojecaeblgghjaaTriG
import Derived.ProofKit
import Derived.OpenShut
import Derived.WalkKit
import Derived.ChangeOld
import Derived.Test.YtojecaeblgghjaaTriM
import Derived.Deep.Strs

/-
  A TRIPLE, AN EDGE AS ARGUMENTS BY VALUE: opened and shut.
-/
set_option linter.unusedVariables false
set_option linter.unusedSimpArgs false
namespace Go.Proofs.Ytojecaeblgghjaa
open Go.ChangeShapes Go.WideShapes Go.ChangeAt Go.RowKit

theorem cellsTri : Try.prog.cellsOf 50 = 3 := by kernel_rfl
theorem cellsEdge : Try.prog.cellsOf 71 = 2 := by kernel_rfl
theorem cellsInt : Try.prog.cellsOf 3 = 1 := by kernel_rfl

section
variable {H : Type} {enc : TypeId × Value → H} {w : World} {base : Nat} {spare : Nat → Bool} {held : Bool}

theorem trod_array2 {P : Program} {t e : TypeId} {fuel : Nat} {c0 c1 : Value} {x : DataW H × List MemPlace} (ht : P.underlying t = some (.array 2 e)) (hce : P.cellsOf e = 1)
    (h : DataW.trod enc P w base spare held fuel t [c0, c1] = some x) :
    ∃ y0 y1 n, x = (.agg [y0.1, y1.1], y0.2 ++ y1.2) ∧ DataW.trod enc P w base spare held n e [c0] = some y0 ∧ DataW.trod enc P w base spare held n e [c1] = some y1 := by
  cases fuel with
  | zero => simp [DataW.trod] at h
  | succ n =>
    unfold DataW.trod at h
    rw [ht] at h
    have r2 : List.range 2 = [0, 1] := rfl
    simp [r2, hce] at h
    obtain ⟨_, h⟩ := h
    cases h0 : DataW.trod enc P w base spare held n e [c0] with
    | none => simp [h0] at h
    | some y0 =>
      cases h1 : DataW.trod enc P w base spare held n e [c1] with
      | none => simp [h0, h1] at h
      | some y1 =>
        simp [h0, h1] at h
        exact ⟨y0, y1, n, h.symm, h0, h1⟩

set_option maxRecDepth 100000 in
theorem open_tri {r : Reach} {b0 : Nat} {v : Value} {d : DataW H} {ps : List MemPlace} (hval : Value.okWide Try.prog w r b0 50 v) (hd : DataW.Trod enc Try.prog w base spare held 50 v d ps) :
    ∃ a b c : Int, v = .agg #[.int .i64 a, .int .i64 b, .int .i64 c] ∧ d = .agg [.lit (.int .i64 a), .lit (.int .i64 b), .lit (.int .i64 c)] ∧ ps = [] ∧ (Lit.int .i64 a).wf = true ∧ (Lit.int .i64 b).wf = true ∧ (Lit.int .i64 c).wf = true := by
  obtain ⟨cs, rfl, hsz, _⟩ : ∃ cs, v = .agg cs ∧ cs.size = Try.prog.cellsOf 50 ∧ Row.okWide Try.prog w r b0 50 cs := by
    simp only [Value.okWide, Try.underlying50] at hval
    exact hval
  rw [cellsTri] at hsz
  obtain ⟨fuel, hf⟩ := hd
  obtain ⟨l⟩ := cs
  match l, hsz with
  | [c0, c1, c2], _ =>
    obtain ⟨y0, y1, y2, m, hx, hy0, hy1, hy2⟩ := trod_array3 Try.underlying50 cellsInt hf
    obtain ⟨x0, e0, rfl, w0⟩ := DataW.trod_int Try.underlying3 hy0
    obtain ⟨x1, e1, rfl, w1⟩ := DataW.trod_int Try.underlying3 hy1
    obtain ⟨x2, e2, rfl, w2⟩ := DataW.trod_int Try.underlying3 hy2
    simp at e0 e1 e2
    subst e0 e1 e2
    simp only [Prod.mk.injEq] at hx
    obtain ⟨rfl, rfl⟩ := hx
    exact ⟨x0, x1, x2, rfl, rfl, rfl, w0, w1, w2⟩

set_option maxRecDepth 100000 in
theorem shut_tri {a b c : Int} (wa : (Lit.int .i64 a).wf = true) (wb : (Lit.int .i64 b).wf = true) (wc : (Lit.int .i64 c).wf = true) :
    DataW.Trod enc Try.prog w base spare held 50 (.agg #[.int .i64 a, .int .i64 b, .int .i64 c]) (DataW.agg [.lit (.int .i64 a), .lit (.int .i64 b), .lit (.int .i64 c)]) [] :=
  ⟨2, by simp [DataW.trod, Value.cells, Try.underlying50, Try.underlying3, cellsTri, cellsInt, wa, wb, wc, show List.range 3 = [0, 1, 2] from rfl]⟩

set_option maxRecDepth 100000 in
theorem open_edge {r : Reach} {b0 : Nat} {v : Value} {d : DataW H} {ps : List MemPlace} (hval : Value.okWide Try.prog w r b0 71 v) (hd : DataW.Trod enc Try.prog w base spare held 71 v d ps) :
    ∃ a b : Int, v = .agg #[.int .i64 a, .int .i64 b] ∧ d = .agg [.lit (.int .i64 a), .lit (.int .i64 b)] ∧ ps = [] ∧ (Lit.int .i64 a).wf = true ∧ (Lit.int .i64 b).wf = true := by
  obtain ⟨cs, rfl, hsz, _⟩ : ∃ cs, v = .agg cs ∧ cs.size = Try.prog.cellsOf 71 ∧ Row.okWide Try.prog w r b0 71 cs := by
    simp only [Value.okWide, Try.underlying71] at hval
    exact hval
  rw [cellsEdge] at hsz
  obtain ⟨fuel, hf⟩ := hd
  obtain ⟨l⟩ := cs
  match l, hsz with
  | [c0, c1], _ =>
    obtain ⟨y0, y1, m, hx, hy0, hy1⟩ := trod_array2 Try.underlying71 cellsInt hf
    obtain ⟨x0, e0, rfl, w0⟩ := DataW.trod_int Try.underlying3 hy0
    obtain ⟨x1, e1, rfl, w1⟩ := DataW.trod_int Try.underlying3 hy1
    simp at e0 e1
    subst e0 e1
    simp only [Prod.mk.injEq] at hx
    obtain ⟨rfl, rfl⟩ := hx
    exact ⟨x0, x1, rfl, rfl, rfl, w0, w1⟩

set_option maxRecDepth 100000 in
theorem shut_edge {a b : Int} (wa : (Lit.int .i64 a).wf = true) (wb : (Lit.int .i64 b).wf = true) :
    DataW.Trod enc Try.prog w base spare held 71 (.agg #[.int .i64 a, .int .i64 b]) (DataW.agg [.lit (.int .i64 a), .lit (.int .i64 b)]) [] :=
  ⟨2, by simp [DataW.trod, Value.cells, Try.underlying71, Try.underlying3, cellsEdge, cellsInt, wa, wb, show List.range 2 = [0, 1] from rfl]⟩
end
end Go.Proofs.Ytojecaeblgghjaa

/-
  A SLICE OF POINTS AS AN ARGUMENT: opened.
-/
set_option linter.unusedVariables false
set_option linter.unusedSimpArgs false
namespace Go.Proofs.Ytojecaeblgghjaa
open Go.ChangeShapes Go.WideShapes Go.ChangeAt Go.RowKit

section
variable {H : Type} {enc : TypeId × Value → H} {w : World} {base : Nat} {spare : Nat → Bool} {held : Bool}

theorem wf_in {a : Int} (h : (Lit.int .i64 a).wf = true) : -9223372036854775808 ≤ a ∧ a < 9223372036854775808 := by
  simp only [Lit.wf, Bool.and_eq_true, decide_eq_true_eq] at h
  have h1 : (-9223372036854775808 : Int) ≤ a := h.1
  have h2 : a ≤ (9223372036854775807 : Int) := h.2
  omega
theorem cellsPt : Try.prog.cellsOf 109 = 3 := by kernel_rfl

set_option maxRecDepth 100000 in
theorem pt_cells {n : Nat} {cs : List Value} {y : DataW H × List MemPlace} (h : DataW.trod enc Try.prog w base spare held n 109 cs = some y) : ∃ p q r : Int, cs = [.int .i64 p, .int .i64 q, .int .i64 r] := by
  obtain ⟨y0, y1, y2, m, _, hl, h0, h1, h2⟩ := Go.Deep.trod_struct3 Try.underlying109 h
  rw [cellsPt] at hl
  match cs, hl with
  | [c0, c1, c2], _ =>
    have k0 : DataW.trod enc Try.prog w base spare held m 3 [c0] = some y0 := h0
    have k1 : DataW.trod enc Try.prog w base spare held m 3 [c1] = some y1 := h1
    have k2 : DataW.trod enc Try.prog w base spare held m 3 [c2] = some y2 := h2
    obtain ⟨x0, e0, _, _⟩ := DataW.trod_int Try.underlying3 k0
    obtain ⟨x1, e1, _, _⟩ := DataW.trod_int Try.underlying3 k1
    obtain ⟨x2, e2, _, _⟩ := DataW.trod_int Try.underlying3 k2
    simp at e0 e1 e2
    subst e0 e1 e2
    exact ⟨x0, x1, x2, rfl⟩

set_option maxRecDepth 100000 in
theorem open_pts {fuel : Nat} {cs : List Value} {x : DataW H × List MemPlace} (h : DataW.trod enc Try.prog w base spare held fuel 48 cs = some x) :
    cs = [.slice none 0 0] ∨ ∃ (a : Addr) (len cap : Nat) (xs : List T3), cs = [.slice (some a) len cap] ∧ len ≤ cap ∧ cap ≤ maxLen ∧ xs.length = len ∧ RdT 0 w (some a) xs := by
  rcases DataW.trod_slice Try.underlying48 h with ⟨h0, _⟩ | ⟨a, len, cap, elems, rest, n, _, rfl, _, hb, hl, hm, hlen, hel, _, _⟩
  · exact .inl h0
  · right
    have each : ∀ i, ∃ t : T3, i < len → w.cell? ((a.add (i * 3)).add 0) = some (.int .i64 t.a) ∧ w.cell? ((a.add (i * 3)).add 1) = some (.int .i64 t.b) ∧ w.cell? ((a.add (i * 3)).add 2) = some (.int .i64 t.c) := by
      intro i
      by_cases hi : i < len
      · have h1 := hel i hi
        rw [List.getElem?_eq_getElem (by omega), cellsPt] at h1
        obtain ⟨cs', hc, ht⟩ := Option.bind_eq_some_iff.1 h1
        obtain ⟨p, q, r, rfl⟩ := pt_cells ht
        obtain ⟨_, _, hat⟩ := World.cells?_some hc
        exact ⟨⟨p, q, r⟩, fun _ => ⟨hat 0 (by omega), hat 1 (by omega), hat 2 (by omega)⟩⟩
      · exact ⟨default, fun h => absurd h hi⟩
    obtain ⟨f, hf⟩ := Classical.axiomOfChoice each
    have hget : ∀ i, i < len → ((List.range len).map f)[i]! = f i := fun i hi => by rw [getElem!_pos _ i (by simpa using hi)]; simp
    refine ⟨a, len, cap, (List.range len).map f, rfl, hl, hm, by simp, fun hp => ?_⟩
    have hfl := flat_len ((List.range len).map f)
    simp only [List.length_map, List.length_range] at hfl
    obtain ⟨b, off, spot⟩ := a
    have h00 := (hf 0 (by omega)).1
    have hspot : spot = none := by simpa [Addr.add] using World.cell?_spot h00
    subst hspot
    have hadd : ∀ i j, ((⟨b, off, none⟩ : Addr).add i).add j = ⟨b, off + i + j, none⟩ := fun i j => by
      have e : ∀ o k, (⟨b, o, none⟩ : Addr).add k = ⟨b, o + k, none⟩ := fun o k => by unfold Addr.add; split <;> simp_all
      rw [e, e]
    refine ⟨b, off, rfl, Nat.zero_le _, ?_, fun j hj => ?_⟩
    · rw [hadd] at h00
      exact World.block_lt_of_cell? w _ h00
    · have hj3 : j < 3 * len := by omega
      obtain ⟨g0, g1, g2⟩ := flat_get ((List.range len).map f) (j / 3) (by simp; omega)
      obtain ⟨c0, c1, c2⟩ := hf (j / 3) (by omega)
      rw [hadd] at c0 c1 c2
      rw [hget _ (by omega)] at g0 g1 g2
      rcases (by omega : j % 3 = 0 ∨ j % 3 = 1 ∨ j % 3 = 2) with h0 | h0 | h0
      · rw [show off + j = off + j / 3 * 3 + 0 by omega, c0, show (flat ((List.range len).map f))[j]! = (flat ((List.range len).map f))[3 * (j / 3)]! from by congr 1; omega, g0]
      · rw [show off + j = off + j / 3 * 3 + 1 by omega, c1, show (flat ((List.range len).map f))[j]! = (flat ((List.range len).map f))[3 * (j / 3) + 1]! from by congr 1; omega, g1]
      · rw [show off + j = off + j / 3 * 3 + 2 by omega, c2, show (flat ((List.range len).map f))[j]! = (flat ((List.range len).map f))[3 * (j / 3) + 2]! from by congr 1; omega, g2]
end
end Go.Proofs.Ytojecaeblgghjaa
