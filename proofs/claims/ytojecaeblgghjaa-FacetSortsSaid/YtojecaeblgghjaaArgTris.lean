/-
  A SLICE OF TRIPLES AS AN ARGUMENT: opened.
-/
import Derived.Test.YtojecaeblgghjaaArgTri
import Derived.Test.YtojecaeblgghjaaTriMem
set_option linter.unusedVariables false
set_option linter.unusedSimpArgs false
namespace Go.Proofs.Ytojecaeblgghjaa
open Go.ChangeShapes Go.WideShapes Go.ChangeAt Go.RowKit

section
variable {H : Type} {enc : TypeId × Value → H} {w : World} {base : Nat} {spare : Nat → Bool} {held : Bool}

set_option maxRecDepth 100000 in
theorem tri_cells {n : Nat} {cs : List Value} {y : DataW H × List MemPlace} (h : DataW.trod enc Try.prog w base spare held n 50 cs = some y) : ∃ p q r : Int, cs = [.int .i64 p, .int .i64 q, .int .i64 r] := by
  obtain ⟨_, _, _, _, hl, _, _⟩ := DataW.trod_array Try.underlying50 h
  rw [cellsTri] at hl
  match cs, hl with
  | [c0, c1, c2], _ =>
    obtain ⟨y0, y1, y2, m, hx, hy0, hy1, hy2⟩ := trod_array3 Try.underlying50 cellsInt h
    obtain ⟨x0, e0, _, _⟩ := DataW.trod_int Try.underlying3 hy0
    obtain ⟨x1, e1, _, _⟩ := DataW.trod_int Try.underlying3 hy1
    obtain ⟨x2, e2, _, _⟩ := DataW.trod_int Try.underlying3 hy2
    simp at e0 e1 e2
    subst e0 e1 e2
    exact ⟨x0, x1, x2, rfl⟩

set_option maxRecDepth 100000 in
theorem open_tris {fuel : Nat} {cs : List Value} {x : DataW H × List MemPlace} (h : DataW.trod enc Try.prog w base spare held fuel 57 cs = some x) :
    cs = [.slice none 0 0] ∨ ∃ (a : Addr) (len cap : Nat) (xs : List T3), cs = [.slice (some a) len cap] ∧ len ≤ cap ∧ cap ≤ maxLen ∧ xs.length = len ∧ RdT 0 w (some a) xs := by
  rcases DataW.trod_slice Try.underlying57 h with ⟨h0, _⟩ | ⟨a, len, cap, elems, rest, n, _, rfl, _, hb, hl, hm, hlen, hel, _, _⟩
  · exact .inl h0
  · right
    have each : ∀ i, ∃ t : T3, i < len → w.cell? ((a.add (i * 3)).add 0) = some (.int .i64 t.a) ∧ w.cell? ((a.add (i * 3)).add 1) = some (.int .i64 t.b) ∧ w.cell? ((a.add (i * 3)).add 2) = some (.int .i64 t.c) := by
      intro i
      by_cases hi : i < len
      · have h1 := hel i hi
        rw [List.getElem?_eq_getElem (by omega), cellsTri] at h1
        obtain ⟨cs', hc, ht⟩ := Option.bind_eq_some_iff.1 h1
        obtain ⟨p, q, r, rfl⟩ := tri_cells ht
        obtain ⟨_, _, hat⟩ := World.cells?_some hc
        exact ⟨⟨p, q, r⟩, fun _ => ⟨hat 0 (by omega), hat 1 (by omega), hat 2 (by omega)⟩⟩
      · exact ⟨default, fun h => absurd h hi⟩
    obtain ⟨f, hf⟩ := Classical.axiomOfChoice each
    have hget : ∀ i, i < len → ((List.range len).map f)[i]! = f i := fun i hi => by rw [getElem!_pos _ i (by simpa using hi)]; simp
    refine ⟨a, len, cap, (List.range len).map f, rfl, hl, hm, by simp, fun hp => ?_⟩
    have hfl := flat_len ((List.range len).map f)
    simp only [List.length_map, List.length_range] at hfl
    obtain ⟨b, off, spot⟩ := a
    have h00 := (hf 0 (by omega)).1
    have hspot : spot = none := by simpa [Addr.add] using World.cell?_spot h00
    subst hspot
    have hadd : ∀ i j, ((⟨b, off, none⟩ : Addr).add i).add j = ⟨b, off + i + j, none⟩ := fun i j => by
      have e : ∀ o k, (⟨b, o, none⟩ : Addr).add k = ⟨b, o + k, none⟩ := fun o k => by unfold Addr.add; split <;> simp_all
      rw [e, e]
    refine ⟨b, off, rfl, Nat.zero_le _, ?_, fun j hj => ?_⟩
    · rw [hadd] at h00
      exact World.block_lt_of_cell? w _ h00
    · have hj3 : j < 3 * len := by omega
      obtain ⟨g0, g1, g2⟩ := flat_get ((List.range len).map f) (j / 3) (by simp; omega)
      obtain ⟨c0, c1, c2⟩ := hf (j / 3) (by omega)
      rw [hadd] at c0 c1 c2
      rw [hget _ (by omega)] at g0 g1 g2
      rcases (by omega : j % 3 = 0 ∨ j % 3 = 1 ∨ j % 3 = 2) with h0 | h0 | h0
      · rw [show off + j = off + j / 3 * 3 + 0 by omega, c0, show (flat ((List.range len).map f))[j]! = (flat ((List.range len).map f))[3 * (j / 3)]! from by congr 1; omega, g0]
      · rw [show off + j = off + j / 3 * 3 + 1 by omega, c1, show (flat ((List.range len).map f))[j]! = (flat ((List.range len).map f))[3 * (j / 3) + 1]! from by congr 1; omega, g1]
      · rw [show off + j = off + j / 3 * 3 + 2 by omega, c2, show (flat ((List.range len).map f))[j]! = (flat ((List.range len).map f))[3 * (j / 3) + 2]! from by congr 1; omega, g2]
end
end Go.Proofs.Ytojecaeblgghjaa
