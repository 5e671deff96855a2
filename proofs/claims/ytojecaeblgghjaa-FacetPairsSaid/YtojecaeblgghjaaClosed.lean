/-
  carapacelaw5.Closed of triples whose directed edges come once, and turned round once.
-/
import Derived.Test.YtojecaeblgghjaaSeed
import Derived.Test.YtojecaeblgghjaaMovG
import Derived.Deep.LoopGhost
import Derived.Deep.QuietTactic
import Derived.Deep.RegionHeld3
import Derived.BigQuiet
set_option linter.unusedVariables false
set_option linter.unusedSimpArgs false
namespace Go.Proofs.Ytojecaeblgghjaa
open Go.RowKit Go.Sort LsP

/-- The directed edges of triples. -/
def pairs (xs : List T3) : List (Int × Int) := xs.flatMap fun t => [(t.a, t.b), (t.b, t.c), (t.c, t.a)]
def flat2 (ps : List (Int × Int)) : List Int := ps.flatMap fun p => [p.1, p.2]

theorem pairs_len (xs : List T3) : (pairs xs).length = 3 * xs.length := by
  induction xs with
  | nil => rfl
  | cons t xs ih => simp only [pairs, List.flatMap_cons, List.length_append, List.length_cons, List.length_nil] at ih ⊢; omega
theorem pairs_get : ∀ (xs : List T3) (i : Nat), i < xs.length → (pairs xs)[3 * i]! = (xs[i]!.a, xs[i]!.b) ∧ (pairs xs)[3 * i + 1]! = (xs[i]!.b, xs[i]!.c) ∧ (pairs xs)[3 * i + 2]! = (xs[i]!.c, xs[i]!.a)
  | t :: xs, 0, _ => ⟨rfl, rfl, rfl⟩
  | t :: xs, i + 1, h => by
    have ih := pairs_get xs i (by simpa using h)
    have e : ∀ j, (pairs (t :: xs))[3 * (i + 1) + j]! = (pairs xs)[3 * i + j]! := fun j => by
      show ((t.a, t.b) :: (t.b, t.c) :: (t.c, t.a) :: pairs xs)[3 * (i + 1) + j]! = _
      rw [show 3 * (i + 1) + j = (3 * i + j) + 1 + 1 + 1 by omega]
      simp
    exact ⟨(e 0).trans ih.1, (e 1).trans ih.2.1, (e 2).trans ih.2.2⟩
theorem flat2_len (ps : List (Int × Int)) : (flat2 ps).length = 2 * ps.length := by
  induction ps with
  | nil => rfl
  | cons t xs ih => simp only [flat2, List.flatMap_cons, List.length_append, List.length_cons, List.length_nil] at ih ⊢; omega
theorem flat2_append (xs ys : List (Int × Int)) : flat2 (xs ++ ys) = flat2 xs ++ flat2 ys := List.flatMap_append
theorem flat2_get : ∀ (ps : List (Int × Int)) (i : Nat), i < ps.length → (flat2 ps)[2 * i]! = ps[i]!.1 ∧ (flat2 ps)[2 * i + 1]! = ps[i]!.2
  | t :: xs, 0, _ => ⟨rfl, rfl⟩
  | t :: xs, i + 1, h => by
    have ih := flat2_get xs i (by simpa using h)
    have e : ∀ j, (flat2 (t :: xs))[2 * (i + 1) + j]! = (flat2 xs)[2 * i + j]! := fun j => by
      show (t.1 :: t.2 :: flat2 xs)[2 * (i + 1) + j]! = _
      rw [show 2 * (i + 1) + j = (2 * i + j) + 1 + 1 by omega]
      simp
    exact ⟨(e 0).trans ih.1, (e 1).trans ih.2⟩

/-- How often an edge comes among the first k, and how often it comes turned round. -/
def cN (ps : List (Int × Int)) (i : Nat) : Nat → Nat
  | 0 => 0
  | k + 1 => cN ps i k + if ps[k]! = ps[i]! then 1 else 0
def cM (ps : List (Int × Int)) (i : Nat) : Nat → Nat
  | 0 => 0
  | k + 1 => cM ps i k + if ps[k]!.1 = ps[i]!.2 ∧ ps[k]!.2 = ps[i]!.1 then 1 else 0
theorem cN_le (ps : List (Int × Int)) (i : Nat) : ∀ k, cN ps i k ≤ k
  | 0 => Nat.le_refl _
  | k + 1 => by have := cN_le ps i k; rw [cN]; split <;> omega
theorem cM_le (ps : List (Int × Int)) (i : Nat) : ∀ k, cM ps i k ≤ k
  | 0 => Nat.le_refl _
  | k + 1 => by have := cM_le ps i k; rw [cM]; split <;> omega

theorem eqP_in (a b x y : Int) (w : World) : (Op.equalIn 10000 70 (.agg #[.int .i64 a, .int .i64 b]) (.agg #[.int .i64 x, .int .i64 y])).run Try.prog w = .ok (decide (a = x ∧ b = y)) w := by
  have u3 := Try.underlying3
  have a3 := Try.isAgg3
  have z3 := Try.sizeOf3
  rw [show (10000 : Nat) = 9999 + 1 from rfl, Op.equalIn]
  simp only [Sem.run_bind, run_underlying Try.underlying70, Result.andThen_ok]
  simp only [Std.Legacy.Range.forIn_eq_forIn_range', Std.Legacy.Range.size, Nat.sub_zero, Nat.add_sub_cancel, Nat.div_one, List.range'_succ, List.range'_zero, List.forIn_cons, List.forIn_nil]
  go_simp
  by_cases h1 : a = x <;> by_cases h2 : b = y <;> simp [h1, h2]
theorem eqP_run (a b x y : Int) : ∀ W : World, (binOp .eql 70 (.agg #[.int .i64 a, .int .i64 b]) (.agg #[.int .i64 x, .int .i64 y])).run Try.prog W = .ok (.bool (decide (a = x ∧ b = y))) W := fun W => by
  rw [run_eql_struct, eqP_in]
  rfl

theorem info_p2 : (Try.prog.info? 70).map (fun i => (i.zero, i.size, i.bytes)) = some (some (.agg #[.int .i64 0, .int .i64 0]), 2, 16) := by kernel_rfl

theorem appP1_run {a b : Int} {W : World} {B0 k : Nat} {v : Value} {ps : List (Int × Int)} (g : Nat) (hg : W.heap[g]? = some (.cells #[.int .i64 a, .int .i64 b] 70 (0, 0))) (own : W.ownsRow B0 70 2 v k ((flat2 ps).map encI))
    (hB : B0 ≤ W.heap.size) (hk : k ≤ 1000) :
    ∃ A' c' W', (Builtin.append_ #[113, 113] 113 #[v, .slice (some ⟨g, 0, none⟩) 1 1]).run Try.prog W = .ok (.slice A' (k + 1) c') W' ∧
      W'.ownsRow B0 70 2 (.slice A' (k + 1) c') (k + 1) ((flat2 (ps ++ [(a, b)])).map encI) ∧ W.grownBy W' v.ownBlock := by
  obtain ⟨i0, hi0, hz0, hz1, hz2⟩ := info_parts info_p2
  obtain ⟨v', w', hrun, h2, h3, _, h5⟩ := run_append_own_at (P := Try.prog) W B0 113 113 70 i0 _ 2 16 Try.underlying113 hi0 hz0 hz1 hz2 rfl (by omega) v k _ own ⟨g, 0, none⟩ 1 1 [.int .i64 a, .int .i64 b] rfl
    (fun j u hu => by
      have : (⟨g, 0, none⟩ : Addr).add j = ⟨g, j, none⟩ := by unfold Addr.add; split <;> simp_all
      rw [this, cell_of_row _ _ _ _ _ _ hg]
      simpa using hu)
    (fun u hu => by simp at hu; rcases hu with rfl | rfl <;> rfl) (by unfold maxLen; omega) (by omega) hB
  obtain ⟨A', c', rfl, _⟩ := own_value h2
  refine ⟨A', c', w', hrun, ?_, h3⟩
  rw [flat2_append]
  rw [List.map_append]
  exact h2

/-- What the walk knows of the list of edges. -/
theorem own_pairs {W : World} {B0 n : Nat} {v : Value} {ps : List (Int × Int)} (h : W.ownsRow B0 70 2 v n ((flat2 ps).map encI)) (hl : ps.length = n) (hn : 0 < n) :
    ∃ g cap, v = .slice (some ⟨g, 0, none⟩) n cap ∧ n ≤ cap ∧ cap ≤ maxLen ∧ ∀ j, j < n → W.cell? ⟨g, j * 2, none⟩ = some (.int .i64 ps[j]!.1) ∧ W.cell? ⟨g, j * 2 + 1, none⟩ = some (.int .i64 ps[j]!.2) := by
  rcases h.2 with ⟨_, e0, _⟩ | ⟨g, cap, cur, rfl, hb, hg, hn', hm, hs, hx⟩
  · omega
  · refine ⟨g, cap, rfl, hn', hm, fun j hj => ?_⟩
    obtain ⟨f1, f2⟩ := flat2_get ps j (by omega)
    have hfl := flat2_len ps
    have at_ : ∀ i, i < 2 * n → W.cell? ⟨g, i, none⟩ = some (.int .i64 (flat2 ps)[i]!) := fun i hi => by
      rw [cell_of_row _ _ _ _ _ _ hg]
      have : cur[i]? = ((flat2 ps).map encI)[i]? := by
        rw [← hx, List.getElem?_take, if_pos (by omega), Array.getElem?_toList]
      rw [this, List.getElem?_map, List.getElem?_eq_getElem (by omega), getElem!_pos _ i (by omega)]
      rfl
    rw [Nat.mul_comm j 2]
    exact ⟨by rw [at_ _ (by omega), f1], by rw [at_ _ (by omega), f2]⟩
end Go.Proofs.Ytojecaeblgghjaa
