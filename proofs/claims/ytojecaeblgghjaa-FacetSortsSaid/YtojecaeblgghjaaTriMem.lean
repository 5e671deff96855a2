/-
  WORDS FOR A ROW OF TRIPLES: three cells an item.
-/
import Derived.Test.YtojecaeblgghjaaTriOrd
import Derived.Test.YtojecaeblgghjaaApp
set_option linter.unusedVariables false
set_option linter.unusedSimpArgs false
namespace Go.Proofs.Ytojecaeblgghjaa
open Go.RowKit Go.Sort LsP

/-- The numbers of triples, one after another. -/
def flat (xs : List T3) : List Int := xs.flatMap T3.l

theorem flat_len (xs : List T3) : (flat xs).length = 3 * xs.length := by
  induction xs with
  | nil => rfl
  | cons t xs ih => simp only [flat, List.flatMap_cons, List.length_append, T3.l, List.length_cons, List.length_nil] at *; omega

theorem flat_nil : flat [] = [] := rfl
theorem flat_cons (t : T3) (xs : List T3) : flat (t :: xs) = t.a :: t.b :: t.c :: flat xs := rfl
theorem flat_append (xs ys : List T3) : flat (xs ++ ys) = flat xs ++ flat ys := List.flatMap_append
theorem flat_one (t : T3) : flat [t] = [t.a, t.b, t.c] := rfl

theorem flat_get : ∀ (xs : List T3) (k : Nat), k < xs.length → (flat xs)[3 * k]! = xs[k]!.a ∧ (flat xs)[3 * k + 1]! = xs[k]!.b ∧ (flat xs)[3 * k + 2]! = xs[k]!.c
  | [], k, h => absurd h (by simp)
  | t :: xs, 0, _ => ⟨rfl, rfl, rfl⟩
  | t :: xs, k + 1, h => by
    have ih := flat_get xs k (by simpa using h)
    rw [flat_cons, show 3 * (k + 1) = 3 * k + 1 + 1 + 1 by omega, show 3 * k + 1 + 1 + 1 + 1 = (3 * k + 1) + 1 + 1 + 1 by omega, show 3 * k + 1 + 1 + 1 + 2 = (3 * k + 2) + 1 + 1 + 1 by omega]
    simpa using ih

/-- A slice of triples. -/
abbrev RdT (lo : Nat) (w : World) (A : Option Addr) (xs : List T3) : Prop := Rd encI lo w A (flat xs)

theorem RdT.at_ {lo : Nat} {w : World} {A : Option Addr} {xs : List T3} (h : RdT lo w A xs) {k : Nat} (hk : k < xs.length) :
    ∃ b off, A = some ⟨b, off, none⟩ ∧ b < w.heap.size ∧ w.cell? ⟨b, off + 3 * k, none⟩ = some (.int .i64 xs[k]!.a) ∧ w.cell? ⟨b, off + 3 * k + 1, none⟩ = some (.int .i64 xs[k]!.b) ∧ w.cell? ⟨b, off + 3 * k + 2, none⟩ = some (.int .i64 xs[k]!.c) := by
  obtain ⟨b, off, e, _, h2, h3⟩ := h (by rw [flat_len]; omega)
  obtain ⟨g0, g1, g2⟩ := flat_get xs k hk
  have l := flat_len xs
  exact ⟨b, off, e, h2, by rw [h3 _ (by omega), g0], by rw [Nat.add_assoc, h3 _ (by omega), g1], by rw [Nat.add_assoc, h3 _ (by omega), g2]⟩

theorem info_tri : (Try.prog.info? 50).map (fun i => (i.zero, i.size, i.bytes)) = some (some (.agg #[.int .i64 0, .int .i64 0, .int .i64 0]), 3, 24) := by kernel_rfl

/-- 'append(v, t)' of one triple, onto a row of the call's own. -/
theorem appT3_run (w : World) (base ty : Nat) (v : Value) (n : Nat) (xs : List T3) (hown : w.ownsRow base 50 3 v n ((flat xs).map encI)) (g c : Nat) (t : T3)
    (hc : w.heap[g]? = some (.cells #[.int .i64 t.a, .int .i64 t.b, .int .i64 t.c] 50 (0, 0))) (h63 : n ≤ 10000000) (hbase : base ≤ w.heap.size) :
    ∃ A' c' w', (Builtin.append_ #[57, 57] ty #[v, .slice (some ⟨g, 0, none⟩) 1 c]).run Try.prog w = .ok (.slice A' (n + 1) c') w' ∧ w'.ownsRow base 50 3 (.slice A' (n + 1) c') (n + 1) ((flat (xs ++ [t])).map encI) ∧
      w.grownBy w' v.ownBlock ∧ (∀ b o, A' = some ⟨b, o, none⟩ → v.ownBlock = some b ∨ b = w.heap.size) := by
  obtain ⟨i0, hi0, hz0, hz1, hz2⟩ := info_parts info_tri
  obtain ⟨v', w', hrun, h2, h3, _, h5⟩ := run_append_own_at (P := Try.prog) w base 57 ty 50 i0 _ 3 24 Try.underlying57 hi0 hz0 hz1 hz2 rfl (by omega) v n _ hown ⟨g, 0, none⟩ 1 c [.int .i64 t.a, .int .i64 t.b, .int .i64 t.c] rfl
    (fun j u hu => by
      have : (⟨g, 0, none⟩ : Addr).add j = ⟨g, j, none⟩ := by unfold Addr.add; split <;> simp_all
      rw [this, cell_of_row _ _ _ _ _ _ hc]
      simpa using hu)
    (fun u hu => by simp at hu; rcases hu with rfl | rfl | rfl <;> rfl) (by unfold maxLen; omega) (by omega) hbase
  obtain ⟨A', c', rfl, _⟩ := own_value h2
  refine ⟨A', c', w', hrun, by rw [flat_append, flat_one, List.map_append]; exact h2, h3, fun b o e => ?_⟩
  subst e
  rcases h5 with h | h
  · exact .inl (by rw [← h]; rfl)
  · exact .inr (by simpa [Value.ownBlock] using h)
end Go.Proofs.Ytojecaeblgghjaa
