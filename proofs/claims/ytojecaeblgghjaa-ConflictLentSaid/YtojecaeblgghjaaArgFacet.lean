/-
  A FACET AS AN ARGUMENT BY VALUE: opened.
-/
import Derived.Test.YtojecaeblgghjaaArgG
import Derived.Test.YtojecaeblgghjaaWords
import Derived.SliceStrings
import Derived.ChangeSame
set_option linter.unusedVariables false
set_option linter.unusedSimpArgs false
namespace Go.Proofs.Ytojecaeblgghjaa
open Go.ChangeShapes Go.WideShapes Go.ChangeAt Go.RowKit

theorem cellsFacet : Try.prog.cellsOf 86 = 4 := by kernel_rfl

section
variable {H : Type} {enc : TypeId × Value → H} {w : World} {base : Nat} {spare : Nat → Bool} {held : Bool}

/-- What a slice of ints reads as. -/
theorem ints_rd {fuel : Nat} {cs : List Value} {x : DataW H × List MemPlace} (h : DataW.trod enc Try.prog w base spare held fuel 22 cs = some x) :
    ∃ (A : Option Addr) (n c : Nat) (xs : List Int), cs = [.slice A n c] ∧ xs.length = n ∧ n ≤ c ∧ c ≤ maxLen ∧ Rd encI 0 w A xs := by
  rcases open_ints Try.underlying22 Try.underlying3 (by kernel_rfl) h with ⟨hcs, _⟩ | ⟨a, l, c, zs, hcs, _, hl, hm, hz, _, hcell, hwz⟩
  · exact ⟨none, 0, 0, [], hcs, rfl, Nat.le_refl _, by decide, Rd.nil⟩
  · refine ⟨some a, l, c, zs.take l, hcs, by rw [List.length_take]; have : l ≤ zs.length := (by rw [hz]; split <;> omega); omega, hl, hm, fun hp => ?_⟩
    have hz' : l ≤ zs.length := by rw [hz]; split <;> omega
    rw [List.length_take] at hp
    obtain ⟨b, off, spot⟩ := a
    have h0 := hcell 0 (by omega)
    have hspot : spot = none := by simpa [Addr.add] using World.cell?_spot h0
    subst hspot
    have hadd : ∀ i, (⟨b, off, none⟩ : Addr).add i = ⟨b, off + i, none⟩ := fun i => by unfold Addr.add; split <;> simp_all
    refine ⟨b, off, rfl, Nat.zero_le _, ?_, fun j hj => ?_⟩
    · rw [hadd] at h0
      exact World.block_lt_of_cell? w _ h0
    · rw [List.length_take] at hj
      have h1 := hcell j (by omega)
      rw [hadd] at h1
      rw [h1]
      have hj2 : j < (zs.take l).length := by rw [List.length_take]; omega
      rw [getElem!_pos _ j hj2, List.getElem_take]
      simp only [encI]
      rw [List.getD_eq_getElem?_getD, List.getElem?_eq_getElem (by omega)]
      rfl

set_option maxRecDepth 100000 in
theorem open_facet {r : Reach} {b0 : Nat} {v : Value} {d : DataW H} {ps : List MemPlace} (hval : Value.okWide Try.prog w r b0 86 v) (hd : DataW.Trod enc Try.prog w base spare held 86 v d ps) :
    ∃ (x y z : Int) (A : Option Addr) (n c : Nat) (xs : List Int), v = .agg #[.int .i64 x, .int .i64 y, .int .i64 z, .slice A n c] ∧ xs.length = n ∧ n ≤ c ∧ c ≤ maxLen ∧ Rd encI 0 w A xs := by
  obtain ⟨cs, rfl, hsz⟩ := okWide_struct Try.underlying86 hval
  rw [cellsFacet] at hsz
  obtain ⟨fuel, hf⟩ := hd
  obtain ⟨l⟩ := cs
  match l, hsz with
  | [c0, c1, c2, c3], _ =>
    obtain ⟨y0, y1, m, _, _, h0, h1⟩ := trod_struct2 Try.underlying86 hf
    have k0 : DataW.trod enc Try.prog w base spare held m 50 [c0, c1, c2] = some y0 := h0
    have k1 : DataW.trod enc Try.prog w base spare held m 22 [c3] = some y1 := h1
    obtain ⟨q0, q1, q2, m', _, hy0, hy1, hy2⟩ := trod_array3 Try.underlying50 cellsInt k0
    obtain ⟨x0, e0, _, _⟩ := DataW.trod_int Try.underlying3 hy0
    obtain ⟨x1, e1, _, _⟩ := DataW.trod_int Try.underlying3 hy1
    obtain ⟨x2, e2, _, _⟩ := DataW.trod_int Try.underlying3 hy2
    obtain ⟨A, n, c, xs, e3, g1, g2, g3, g4⟩ := ints_rd k1
    simp at e0 e1 e2 e3
    subst e0 e1 e2 e3
    exact ⟨x0, x1, x2, A, n, c, xs, rfl, g1, g2, g3, g4⟩
end
end Go.Proofs.Ytojecaeblgghjaa
