/-
  WORDS FOR TEXTS: a text of bytes, its order, its type's facts.
-/
import Derived.Test.YtojecaeblgghjaaAwake3
import Derived.Sort.Walk0
import Derived.Laws.Cover1
set_option linter.unusedVariables false
set_option linter.unusedSimpArgs false
namespace Go.Proofs.Ytojecaeblgghjaa
open Go.RowKit Go.Sort LsP

theorem toList_bys (x : List UInt8) : (bys x).toList = x := ByteArray.toList_mk x
theorem less_bys (x y : List UInt8) : Op.bytesLess (bys x).toList (bys y).toList = decide (x < y) := by
  rw [toList_bys, toList_bys, bytesLess_eq]
theorem bys_inj {x y : List UInt8} : bys x = bys y ↔ x = y := ⟨fun h => by rw [← toList_bys x, h, toList_bys], fun h => by rw [h]⟩
theorem info_str : (Try.prog.info? 9).map (fun i => (i.zero, i.size, i.bytes)) = some (some (.string ByteArray.empty), 1, 16) := by kernel_rfl
theorem take_filterT {α : Type} [Inhabited α] (xs : List α) (p : α → Bool) (k : Nat) (hk : k < xs.length) : (xs.take (k + 1)).filter p = (xs.take k).filter p ++ if p xs[k]! then [xs[k]!] else [] := by
  rw [List.take_succ_eq_append_getElem hk, List.filter_append, getElem!_pos xs k hk]
  by_cases h : p xs[k] <;> simp [h]
end Go.Proofs.Ytojecaeblgghjaa
