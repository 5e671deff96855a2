/-
  FROM THE ROW's WORD FOR A SLICE OF TEXTS THAT CAME IN TO MINE.
-/
import Derived.Test.YtojecaeblgghjaaTWords
set_option linter.unusedVariables false
set_option linter.unusedSimpArgs false
namespace Go.Proofs.Ytojecaeblgghjaa
open Go.RowKit Go.Sort LsP

theorem bys_data (s : ByteArray) : bys s.data.toList = s := by cases s; simp [bys]

theorem rd_of_rowS {w : World} {a : Option Addr} {len cap : Nat} {zs : List ByteArray}
    (h : (a = none ∧ len = 0 ∧ cap = 0 ∧ zs = []) ∨
      ∃ x, a = some x ∧ len ≤ cap ∧ cap ≤ maxLen ∧ zs.length = cap ∧ (∀ i, i < zs.length → w.cell? (x.add i) = some (.string (zs.getD i ByteArray.empty))) ∧ ∀ s ∈ zs, s.size ≤ maxLen) :
    ∃ xs : List (List UInt8), xs.length = len ∧ len ≤ cap ∧ cap ≤ maxLen ∧ Rd encStr 0 w a xs := by
  rcases h with ⟨rfl, rfl, rfl, rfl⟩ | ⟨x, rfl, hl, hm, hz, hc, hw⟩
  · exact ⟨[], rfl, Nat.le_refl _, by decide, Rd.nil⟩
  · refine ⟨(zs.take len).map (·.data.toList), by simp; omega, hl, hm, fun hp => ?_⟩
    rw [List.length_map, List.length_take] at hp
    obtain ⟨b, off, spot⟩ := x
    have h0 := hc 0 (by omega)
    have hspot : spot = none := by simpa [Addr.add] using World.cell?_spot h0
    subst hspot
    have hadd : ∀ j, (⟨b, off, none⟩ : Addr).add j = ⟨b, off + j, none⟩ := fun j => by unfold Addr.add; split <;> simp_all
    refine ⟨b, off, rfl, Nat.zero_le _, ?_, fun j hj => ?_⟩
    · rw [hadd] at h0
      exact World.block_lt_of_cell? w _ h0
    · rw [List.length_map, List.length_take] at hj
      have := hc j (by omega)
      rw [hadd] at this
      rw [this, encStr_bys, getElem!_pos ((zs.take len).map _) j (by rw [List.length_map, List.length_take]; omega), List.getElem_map, bys_data, List.getElem_take, List.getD, List.getElem?_eq_getElem (by omega)]
      rfl
end Go.Proofs.Ytojecaeblgghjaa
