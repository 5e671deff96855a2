/-
  PLAIN: the order of triples.
-/
import Derived.Test.YtojecaeblgghjaaTriLess
import Derived.Test.YtojecaeblgghjaaOrdPlain
import Derived.Sort.Statements
set_option linter.unusedVariables false
set_option linter.unusedSimpArgs false
namespace Go.Proofs.Ytojecaeblgghjaa
open Go.RowKit Go.Sort LsP

theorem T3.l_inj {s t : T3} : s.l = t.l ↔ s = t := by
  obtain ⟨a, b, c⟩ := s
  obtain ⟨x, y, z⟩ := t
  simp [T3.l]

instance : LE T3 := ⟨fun s t => s.l ≤ t.l⟩
instance : LT T3 := ⟨fun s t => s.l < t.l⟩
instance : DecidableLE T3 := fun s t => inferInstanceAs (Decidable (s.l ≤ t.l))
instance : DecidableLT T3 := fun s t => inferInstanceAs (Decidable (s.l < t.l))
theorem T3.le_def {s t : T3} : s ≤ t ↔ s.l ≤ t.l := Iff.rfl
theorem T3.lt_def {s t : T3} : s < t ↔ s.l < t.l := Iff.rfl
instance : Std.IsLinearOrder T3 where
  le_refl s := Std.le_refl s.l
  le_trans a b c h k := Std.le_trans (a := a.l) (b := b.l) (c := c.l) h k
  le_antisymm a b h k := T3.l_inj.1 (Std.le_antisymm (a := a.l) (b := b.l) h k)
  le_total a b := Std.le_total (a := a.l) (b := b.l)
instance : Std.LawfulOrderLT T3 where
  lt_iff a b := Std.LawfulOrderLT.lt_iff (α := List Int) a.l b.l

theorem cmpL_lt {α : Type} [LE α] [LT α] [Std.IsLinearOrder α] [Std.LawfulOrderLT α] [DecidableEq α] [DecidableLE α] [DecidableLT α] : ∀ {a b : List α}, cmpL a b < 0 ↔ a < b
  | [], [] => by simp [cmpL]
  | [], y :: b => by simp [cmpL]
  | x :: a, [] => by simp [cmpL]
  | x :: a, y :: b => by
    have ih := cmpL_lt (a := a) (b := b)
    simp only [cmpL, List.cons_lt_cons_iff]
    by_cases h : x < y
    · simp [h]
    · by_cases h2 : y < x
      · have : x ≠ y := fun e => by rw [e] at h2; exact lt_ir h2
        simp [h, h2, this]
      · have e : x = y := by
          rcases tri x y with h3 | h3 | h3
          · exact absurd h3 h
          · exact h3
          · exact absurd h3 h2
        subst e
        rw [if_neg h, if_neg h2, ih]
        simp [h]

theorem ltT_iff (s t : T3) : ltT s t = true ↔ s < t := by
  rw [← ltT_cmp, decide_eq_true_eq, cmpL_lt]; exact Iff.rfl
end Go.Proofs.Ytojecaeblgghjaa
