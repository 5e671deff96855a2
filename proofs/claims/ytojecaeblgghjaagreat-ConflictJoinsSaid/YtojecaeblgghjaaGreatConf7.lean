/-
  conflict.Among and the document's.
-/
import Derived.Test.YtojecaeblgghjaaGreatConf6
import Derived.Test.YtojecaeblgghjaaGreatRefSet
import Derived.Deep.QuietTactic
import Derived.Deep.RegionHeld3
import Derived.BigQuiet
set_option linter.unusedVariables false
set_option linter.unusedSimpArgs false
namespace Go.Proofs.YtojecaeblgghjaaGreat
open Go.RowKit Go.Sort LsP

/-- May a place be asked? -/
def askB (n : Nat) (a b c y : Int) : Bool := decide (0 ≤ y) && decide (y < (n : Int)) && !inT a b c y
/-- What Among tells. -/
noncomputable def amR (xs : List T3) (n : Nat) (a b c : Int) (ys : List Int) : List Int × Int :=
  if checkR xs n a b c ≠ 0 then ([], checkR xs n a b c) else if ys.all (askB n a b c) = true then ((sset ys).filter (seesB xs n a b c), 0) else ([], 21)
theorem amR_err {xs : List T3} {n : Nat} {a b c : Int} (ys : List Int) (h : checkR xs n a b c ≠ 0) : amR xs n a b c ys = ([], checkR xs n a b c) := by unfold amR; rw [if_pos h]
theorem amR_bad {xs : List T3} {n : Nat} {a b c : Int} {ys : List Int} (h : checkR xs n a b c = 0) {y : Int} (hy : y ∈ ys) (hb : askB n a b c y = false) : amR xs n a b c ys = ([], 21) := by
  unfold amR
  rw [if_neg (by simpa using h), if_neg]
  intro h'
  have := List.all_eq_true.1 h' y hy
  rw [hb] at this
  cases this
theorem amR_ok {xs : List T3} {n : Nat} {a b c : Int} {ys : List Int} (h : checkR xs n a b c = 0) (hb : ∀ y ∈ ys, askB n a b c y = true) : amR xs n a b c ys = ((sset ys).filter (seesB xs n a b c), 0) := by
  unfold amR
  rw [if_neg (by simpa using h), if_pos (List.all_eq_true.2 hb)]
theorem ask_in {n : Nat} {a b c y : Int} (hn : n ≤ 512) (h : askB n a b c y = true) : InI y ∧ 0 ≤ y ∧ y < n ∧ y ≠ a ∧ y ≠ b ∧ y ≠ c := by
  simp only [askB, inT, Bool.and_eq_true, decide_eq_true_eq, Bool.not_eq_true', decide_eq_false_iff_not] at h
  obtain ⟨⟨h1, h2⟩, h3⟩ := h
  exact ⟨⟨by omega, by omega⟩, h1, h2, by omega, by omega, by omega⟩

end Go.Proofs.YtojecaeblgghjaaGreat
