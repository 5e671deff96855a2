/-
  facet.Sort: the triples' set.
-/
import Derived.Test.YtojecaeblgghjaaGreatTriFunc
import Derived.Test.YtojecaeblgghjaaGreatTriCompact
import Derived.Deep.RegionHeld3
set_option linter.unusedVariables false
set_option linter.unusedSimpArgs false
namespace Go.Proofs.YtojecaeblgghjaaGreat
open Go.RowKit Go.Sort LsP

theorem flat_at (xs : List T3) (t : Nat) (h : t < 3 * xs.length) : (flat xs)[t]! = if t % 3 = 0 then xs[t / 3]!.a else if t % 3 = 1 then xs[t / 3]!.b else xs[t / 3]!.c := by
  obtain ⟨f0, f1, f2⟩ := flat_get xs (t / 3) (by omega)
  rcases (by omega : t % 3 = 0 ∨ t % 3 = 1 ∨ t % 3 = 2) with h0 | h0 | h0
  · rw [if_pos h0, ← f0]; congr 1; omega
  · rw [if_neg (by omega), if_pos h0, ← f1]; congr 1; omega
  · rw [if_neg (by omega), if_neg (by omega), ← f2]; congr 1; omega

theorem Row3.rd {w0 w : World} {g cap lo : Nat} {cs : Array T3} (h : Row3 w0 g cap cs w) (hb : lo ≤ g) : RdT lo w (some ⟨g, 0, none⟩) cs.toList := by
  intro hp
  obtain ⟨cur, hg, _, hc⟩ := h.row
  refine ⟨g, 0, rfl, hb, (Array.getElem?_eq_some_iff.1 hg).1, fun j hj => ?_⟩
  have hl : (flat cs.toList).length = 3 * cs.size := by rw [flat_len, Array.length_toList]
  have hj' : j < 3 * cs.size := by omega
  rw [Nat.zero_add, (cell_of_row _ _ _ _ _ _ hg), flat_at _ _ (by rw [Array.length_toList]; exact hj')]
  obtain ⟨h1, h2, h3⟩ := hc (j / 3) (by omega)
  have he : cs.toList[j / 3]! = cs[j / 3]! := by rw [getElem!_pos cs.toList _ (by rw [Array.length_toList]; omega), getElem!_pos cs _ (by omega), Array.getElem_toList]
  rw [he]
  rcases (by omega : j % 3 = 0 ∨ j % 3 = 1 ∨ j % 3 = 2) with h0 | h0 | h0
  · rw [if_pos h0, show cur[j]? = cur[j / 3 * 3]? from by congr 1; omega]; exact h1
  · rw [if_neg (by omega), if_pos h0, show cur[j]? = cur[j / 3 * 3 + 1]? from by congr 1; omega]; exact h2
  · rw [if_neg (by omega), if_neg (by omega), show cur[j]? = cur[j / 3 * 3 + 2]? from by congr 1; omega]; exact h3

theorem Upd.above {w w1 w2 : World} {g : Nat} (h : Below w.heap.size w w1) (k : Upd (fun b => b = g) w1 w2) (hg : w.heap.size ≤ g) : Below w.heap.size w w2 :=
  h.trans ⟨k.os, k.tape, k.output, k.size, fun b hb => k.block b (by have := h.size; omega) (by omega)⟩

theorem own_updK {F : Nat → Prop} {w w' : World} {base n size : Nat} {e : TypeId} {v : Value} {xs : List Value} (h : w.ownsRow base e size v n xs) (hU : Upd F w w') (hv : ∀ b, v.ownBlock = some b → ¬ F b) : w'.ownsRow base e size v n xs := by
  refine ⟨h.1, ?_⟩
  rcases h.2 with h0 | ⟨g, cap, cur, rfl, hb, hg, rest⟩
  · exact .inl h0
  · exact .inr ⟨g, cap, cur, rfl, hb, by rw [hU.block g (Array.getElem?_eq_some_iff.1 hg).1 (hv g rfl)]; exact hg, rest⟩

theorem RdT.at3 {lo : Nat} {w : World} {A : Option Addr} {xs : List T3} (h : RdT lo w A xs) {k : Nat} (hk : k < xs.length) :
    ∃ b off, A = some ⟨b, off, none⟩ ∧ b < w.heap.size ∧ w.cell? ⟨b, off + k * 3, none⟩ = some (.int .i64 xs[k]!.a) ∧ w.cell? ⟨b, off + k * 3 + 1, none⟩ = some (.int .i64 xs[k]!.b) ∧ w.cell? ⟨b, off + k * 3 + 2, none⟩ = some (.int .i64 xs[k]!.c) := by
  obtain ⟨b, off, e, h1, h2, h3, h4⟩ := h.at_ hk
  rw [Nat.mul_comm 3 k] at h2 h3 h4
  exact ⟨b, off, e, h1, h2, h3, h4⟩

end Go.Proofs.YtojecaeblgghjaaGreat
