/-
  PLAIN: turnings of a triple.
-/
import Derived.Test.YtojecaeblgghjaaTri
set_option linter.unusedVariables false
set_option linter.unusedSimpArgs false
namespace Go.Proofs.Ytojecaeblgghjaa

theorem canon_one (t : T3) : canon t = t ∨ canon t = ⟨t.b, t.c, t.a⟩ ∨ canon t = ⟨t.c, t.a, t.b⟩ := by
  obtain ⟨a, b, c⟩ := t
  simp only [canon]
  repeat' (split)
  all_goals simp

theorem canon_low (t : T3) : (canon t).a ≤ (canon t).b ∧ (canon t).a ≤ (canon t).c := by
  obtain ⟨a, b, c⟩ := t
  simp only [canon]
  repeat' (split)
  all_goals (dsimp only at *; omega)

theorem canon_self (t : T3) (h1 : t.a ≤ t.b) (h2 : t.a ≤ t.c) : canon t = t := by
  unfold canon
  rw [if_neg (by omega), if_neg (by omega)]

theorem canon_idem (t : T3) : canon (canon t) = canon t := canon_self _ (canon_low t).1 (canon_low t).2

theorem canon_round (a b c : Int) (h1 : a ≠ b) (h2 : b ≠ c) (h3 : a ≠ c) : canon ⟨b, c, a⟩ = canon ⟨a, b, c⟩ ∧ canon ⟨c, a, b⟩ = canon ⟨a, b, c⟩ := by
  simp only [canon]
  constructor <;> repeat' (split)
  all_goals first | rfl | omega | (simp only [T3.mk.injEq]; omega)

theorem turn_other (a b c : Int) (h1 : a ≠ b) (h2 : b ≠ c) (h3 : a ≠ c) : canon ⟨a, c, b⟩ ≠ canon ⟨a, b, c⟩ := by
  simp only [canon]
  repeat' (split)
  all_goals first | omega | (simp only [ne_eq, T3.mk.injEq]; omega)

theorem turn_back (a b c : Int) (h1 : a ≠ b) (h2 : b ≠ c) (h3 : a ≠ c) : canon ⟨(canon ⟨a, c, b⟩).a, (canon ⟨a, c, b⟩).c, (canon ⟨a, c, b⟩).b⟩ = canon ⟨a, b, c⟩ := by
  rcases canon_one ⟨a, c, b⟩ with h | h | h
  · rw [h]
  · rw [h]; exact (canon_round a b c h1 h2 h3).2
  · rw [h]; exact (canon_round a b c h1 h2 h3).1
end Go.Proofs.Ytojecaeblgghjaa
