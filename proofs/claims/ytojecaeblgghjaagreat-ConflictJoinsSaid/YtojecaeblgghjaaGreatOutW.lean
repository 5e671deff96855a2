/-
  facet.Outward OF ANY LIST.
-/
import Derived.Test.YtojecaeblgghjaaGreatBigG
import Derived.Test.YtojecaeblgghjaaGreatTriG
set_option linter.unusedVariables false
set_option linter.unusedSimpArgs false
namespace Go.Proofs.YtojecaeblgghjaaGreat
open Go.RowKit Go.Sort LsP

/-- The first number from 0 on that is none of three. -/
def free3 (a b c : Int) : Nat := if ¬ (0 = a ∨ 0 = b ∨ 0 = c) then 0 else if ¬ (1 = a ∨ 1 = b ∨ 1 = c) then 1 else if ¬ (2 = a ∨ 2 = b ∨ 2 = c) then 2 else 3
theorem free3_le (a b c : Int) : free3 a b c ≤ 3 := by
  unfold free3
  split
  · omega
  · split
    · omega
    · split <;> omega
theorem free3_no (a b c : Int) : ((free3 a b c : Nat) : Int) ≠ a ∧ ((free3 a b c : Nat) : Int) ≠ b ∧ ((free3 a b c : Nat) : Int) ≠ c := by
  unfold free3
  split
  · omega
  · split
    · omega
    · split <;> omega
theorem free3_lt {a b c : Int} {k : Nat} (h : k < free3 a b c) : (k : Int) = a ∨ (k : Int) = b ∨ (k : Int) = c := by
  unfold free3 at h
  split at h
  · omega
  · split at h
    · obtain rfl : k = 0 := by omega
      omega
    · split at h
      · rcases (by omega : k = 0 ∨ k = 1) with rfl | rfl <;> omega
      · rcases (by omega : k = 0 ∨ k = 1 ∨ k = 2) with rfl | rfl | rfl <;> omega

/-- What facet.Outward says. -/
noncomputable def outR (xs : List T3) (n : Nat) (a b c : Int) : T3 × Int :=
  if n < 4 then (⟨0, 0, 0⟩, 21) else
  if (signR xs n [a, b, c, (free3 a b c : Nat)]).2 ≠ 0 then (⟨0, 0, 0⟩, (signR xs n [a, b, c, (free3 a b c : Nat)]).2) else
  if (signR xs n [a, b, c, (free3 a b c : Nat)]).1 < 0 then (canon ⟨a, c, b⟩, 0) else (canon ⟨a, b, c⟩, 0)

end Go.Proofs.YtojecaeblgghjaaGreat
