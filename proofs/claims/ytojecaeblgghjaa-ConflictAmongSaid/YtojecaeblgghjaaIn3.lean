/-
  FROM THE ROW's WORD FOR A SLICE THAT CAME IN TO MINE.
-/
import Derived.Test.YtojecaeblgghjaaAwake3
set_option linter.unusedVariables false
set_option linter.unusedSimpArgs false
namespace Go.Proofs.Ytojecaeblgghjaa
open Go.RowKit Go.Sort LsP

theorem rd_of_row {w : World} {a : Option Addr} {len cap : Nat} {zs : List Int}
    (h : (a = none ∧ len = 0 ∧ cap = 0 ∧ zs = []) ∨
      ∃ x, a = some x ∧ len ≤ cap ∧ cap ≤ maxLen ∧ zs.length = cap ∧ (∀ i, i < zs.length → w.cell? (x.add i) = some (.int .i64 (zs.getD i 0))) ∧ ∀ n ∈ zs, (Lit.int .i64 n).wf = true) :
    ∃ xs : List Int, xs.length = len ∧ len ≤ cap ∧ cap ≤ maxLen ∧ Rd encI 0 w a xs ∧ ∀ n ∈ xs, (Lit.int .i64 n).wf = true := by
  rcases h with ⟨rfl, rfl, rfl, rfl⟩ | ⟨x, rfl, hl, hm, hz, hc, hw⟩
  · exact ⟨[], rfl, Nat.le_refl _, by decide, Rd.nil, by simp⟩
  · refine ⟨zs.take len, by simp; omega, hl, hm, fun hp => ?_, fun n hn => hw n (List.mem_of_mem_take hn)⟩
    rw [List.length_take] at hp
    obtain ⟨b, off, spot⟩ := x
    have h0 := hc 0 (by omega)
    have hspot : spot = none := by simpa [Addr.add] using World.cell?_spot h0
    subst hspot
    have hadd : ∀ j, (⟨b, off, none⟩ : Addr).add j = ⟨b, off + j, none⟩ := fun j => by unfold Addr.add; split <;> simp_all
    refine ⟨b, off, rfl, Nat.zero_le _, ?_, fun j hj => ?_⟩
    · rw [hadd] at h0
      exact World.block_lt_of_cell? w _ h0
    · rw [List.length_take] at hj
      have := hc j (by omega)
      rw [hadd] at this
      rw [this, getD_int, getElem!_pos zs j (by omega), getElem!_pos (zs.take len) j (by rw [List.length_take]; omega), List.getElem_take]

end Go.Proofs.Ytojecaeblgghjaa
