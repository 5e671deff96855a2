/-
  PLAIN: the signs of four places are those of rows; the law of a ridge.
-/
import Derived.Test.YtojecaeblgghjaaGhost
set_option linter.unusedVariables false
set_option linter.unusedSimpArgs false
namespace Go.Proofs.Ytojecaeblgghjaa
open Go.RowKit Go.Sort LsP

theorem bub_D0 (M : Int → R4) (a b c d g : Int) : ∃ a' b' c' d' g', bub1 0 ([a, b, c, d], g) = ([a', b', c', d'], g') ∧ g' * D4 (M a') (M b') (M c') (M d') = g * D4 (M a) (M b) (M c) (M d) := by
  have e : bub1 0 ([a, b, c, d], g) = if a > b then ([b, a, c, d], -g) else ([a, b, c, d], g) := rfl
  rw [e]
  split
  · exact ⟨_, _, _, _, _, rfl, by rw [D4_01]; grind⟩
  · exact ⟨_, _, _, _, _, rfl, rfl⟩
theorem bub_D1 (M : Int → R4) (a b c d g : Int) : ∃ a' b' c' d' g', bub1 1 ([a, b, c, d], g) = ([a', b', c', d'], g') ∧ g' * D4 (M a') (M b') (M c') (M d') = g * D4 (M a) (M b) (M c) (M d) := by
  have e : bub1 1 ([a, b, c, d], g) = if b > c then ([a, c, b, d], -g) else ([a, b, c, d], g) := rfl
  rw [e]
  split
  · exact ⟨_, _, _, _, _, rfl, by rw [D4_12]; grind⟩
  · exact ⟨_, _, _, _, _, rfl, rfl⟩
theorem bub_D2 (M : Int → R4) (a b c d g : Int) : ∃ a' b' c' d' g', bub1 2 ([a, b, c, d], g) = ([a', b', c', d'], g') ∧ g' * D4 (M a') (M b') (M c') (M d') = g * D4 (M a) (M b) (M c) (M d) := by
  have e : bub1 2 ([a, b, c, d], g) = if c > d then ([a, b, d, c], -g) else ([a, b, c, d], g) := rfl
  rw [e]
  split
  · exact ⟨_, _, _, _, _, rfl, by rw [D4_23]; grind⟩
  · exact ⟨_, _, _, _, _, rfl, rfl⟩
theorem bub_DK (M : Int → R4) (a b c d g : Int) : ∃ a' b' c' d' g', bubK 3 ([a, b, c, d], g) = ([a', b', c', d'], g') ∧ g' * D4 (M a') (M b') (M c') (M d') = g * D4 (M a) (M b) (M c) (M d) := by
  obtain ⟨a1, b1, c1, d1, g1, e1, k1⟩ := bub_D0 M a b c d g
  obtain ⟨a2, b2, c2, d2, g2, e2, k2⟩ := bub_D1 M a1 b1 c1 d1 g1
  obtain ⟨a3, b3, c3, d3, g3, e3, k3⟩ := bub_D2 M a2 b2 c2 d2 g2
  refine ⟨a3, b3, c3, d3, g3, ?_, k3.trans (k2.trans k1)⟩
  show bub1 2 (bub1 1 (bub1 0 ([a, b, c, d], g))) = _
  rw [e1, e2, e3]

/-- Four places put in order: they rise, and the sign tells the determinant. -/
theorem bub_rise (M : Int → R4) (a b c d : Int) : ∃ a' b' c' d' g', bubR [a, b, c, d] 3 = ([a', b', c', d'], g') ∧ (g' = 1 ∨ g' = -1) ∧ (a' ≤ b' ∧ b' ≤ c' ∧ c' ≤ d') ∧ g' * D4 (M a') (M b') (M c') (M d') = D4 (M a) (M b) (M c) (M d) := by
  obtain ⟨a1, b1, c1, d1, g1, e1, m1, _, _⟩ := bub_pass a b c d 1
  obtain ⟨a2, b2, c2, d2, g2, e2, m2, n2, _⟩ := bub_pass a1 b1 c1 d1 g1
  obtain ⟨a3, b3, c3, d3, g3, e3, m3, n3, k3⟩ := bub_pass a2 b2 c2 d2 g2
  have h := n2 m1.1 m1.2.1 m1.2.2
  have h' := k3 h.1 h.2 m2.2.2
  have r3 : bubR [a, b, c, d] 3 = ([a3, b3, c3, d3], g3) := by
    show bubK 3 (bubK 3 (bubK 3 ([a, b, c, d], 1))) = _
    rw [e1, e2, e3]
  have hg := bubR_sgn [a, b, c, d] 3
  rw [r3] at hg
  obtain ⟨x1, y1, z1, w1, f1, i1, j1⟩ := bub_DK M a b c d 1
  obtain ⟨x2, y2, z2, w2, f2, i2, j2⟩ := bub_DK M a1 b1 c1 d1 g1
  obtain ⟨x3, y3, z3, w3, f3, i3, j3⟩ := bub_DK M a2 b2 c2 d2 g2
  rw [e1] at i1; injection i1 with i1 i1'; simp only [List.cons.injEq, and_true] at i1; obtain ⟨rfl, rfl, rfl, rfl⟩ := i1; subst i1'
  rw [e2] at i2; injection i2 with i2 i2'; simp only [List.cons.injEq, and_true] at i2; obtain ⟨rfl, rfl, rfl, rfl⟩ := i2; subst i2'
  rw [e3] at i3; injection i3 with i3 i3'; simp only [List.cons.injEq, and_true] at i3; obtain ⟨rfl, rfl, rfl, rfl⟩ := i3; subst i3'
  exact ⟨_, _, _, _, _, r3, hg, h', by rw [j3, j2, j1, Int.one_mul]⟩

/-- The row of a place. -/
def rowM (xs : List T3) (i : Int) : R4 := mv 158456325028528675187087900674 (4 * 8 ^ xs.length) (8 ^ i.toNat) xs[i.toNat]!

theorem sgn_mul {g z : Int} (hg : g = 1 ∨ g = -1) : sgn (g * z) = g * sgn z := by
  rcases hg with rfl | rfl
  · rw [Int.one_mul, Int.one_mul]
  · unfold sgn
    split <;> split <;> omega

def Unlike (a b c d : Int) : Prop := a ≠ b ∧ a ≠ c ∧ a ≠ d ∧ b ≠ c ∧ b ≠ d ∧ c ≠ d

theorem good_four {n : Nat} {a b c d : Int} (ha : 0 ≤ a ∧ a < n) (hb : 0 ≤ b ∧ b < n) (hc : 0 ≤ c ∧ c < n) (hd : 0 ≤ d ∧ d < n) (hu : Unlike a b c d) : ∀ i, i < 4 → goodP n [a, b, c, d] i := by
  obtain ⟨h1, h2, h3, h4, h5, h6⟩ := hu
  intro i hi
  rcases (by omega : i = 0 ∨ i = 1 ∨ i = 2 ∨ i = 3) with rfl | rfl | rfl | rfl
  · exact ⟨ha.1, ha.2, fun j hj => by omega⟩
  · exact ⟨hb.1, hb.2, fun j hj => by obtain rfl : j = 0 := by omega
                                      exact h1⟩
  · refine ⟨hc.1, hc.2, fun j hj => ?_⟩
    rcases (by omega : j = 0 ∨ j = 1) with rfl | rfl
    · exact h2
    · exact h4
  · refine ⟨hd.1, hd.2, fun j hj => ?_⟩
    rcases (by omega : j = 0 ∨ j = 1 ∨ j = 2) with rfl | rfl | rfl
    · exact h3
    · exact h5
    · exact h6

/-- The sign of four unlike places is that of their rows' determinant. -/
theorem sign_rows (xs : List T3) (a b c d : Int) (ha : 0 ≤ a ∧ a < xs.length) (hb : 0 ≤ b ∧ b < xs.length) (hc : 0 ≤ c ∧ c < xs.length) (hd : 0 ≤ d ∧ d < xs.length) (hu : Unlike a b c d)
    (hf : ∀ x ∈ xs, fitT x = true) : signR xs xs.length [a, b, c, d] = (sgn (D4 (rowM xs a) (rowM xs b) (rowM xs c) (rowM xs d)), 0) := by
  have hG := good_four ha hb hc hd hu
  obtain ⟨a', b', c', d', g, hS, hg, ho, hD⟩ := bub_rise (rowM xs) a b c d
  have hp := bubR_perm [a, b, c, d] rfl 3
  rw [hS] at hp
  simp only at hp
  have hm := fun y hy => signR_mem (n := xs.length) rfl hG hp y hy
  have hnd : ([a', b', c', d'] : List Int).Nodup := hp.symm.nodup (by obtain ⟨h1, h2, h3, h4, h5, h6⟩ := hu; simp; omega)
  simp at hnd
  have ma := hm a' (by simp)
  have mb := hm b' (by simp)
  have mc := hm c' (by simp)
  have md := hm d' (by simp)
  obtain ⟨m0, rfl⟩ := Int.eq_ofNat_of_zero_le ma.1
  obtain ⟨m1, rfl⟩ := Int.eq_ofNat_of_zero_le mb.1
  obtain ⟨m2, rfl⟩ := Int.eq_ofNat_of_zero_le mc.1
  obtain ⟨m3, rfl⟩ := Int.eq_ofNat_of_zero_le md.1
  have fit : ∀ m : Nat, m < xs.length → fitT xs[m]! = true := fun m h => by rw [getElem!_pos xs m h]; exact hf _ (List.getElem_mem h)
  rw [signR_fit rfl hG hS (fun y hy => by
    have := hm y hy
    obtain ⟨q, rfl⟩ := Int.eq_ofNat_of_zero_le this.1
    exact fit q (by omega)), ptsOf_four]
  obtain ⟨F0, F1, F2⟩ := fitT_coords (fit m0 (by omega))
  obtain ⟨F3, F4, F5⟩ := fitT_coords (fit m1 (by omega))
  obtain ⟨F6, F7, F8⟩ := fitT_coords (fit m2 (by omega))
  obtain ⟨F9, F10, F11⟩ := fitT_coords (fit m3 (by omega))
  rw [signV_mask _ _ _ _ _ _ _ _ _ _ _ _ F0 F1 F2 F3 F4 F5 F6 F7 F8 F9 F10 F11]
  have step : ∀ i j : Nat, i < j → 8 * 8 ^ i ≤ 8 ^ j := fun i j h => by
    have := Nat.pow_le_pow_right (show 0 < 8 by omega) (show i + 1 ≤ j by omega)
    rw [Nat.pow_succ] at this
    omega
  rw [mask_mv 158456325028528675187087900674 (by decide) (4 * 8 ^ xs.length) _ _ _ _ _ _ _ _ _ _ _ _ F0 F1 F2 F3 F4 F5 F6 F7 F8 F9 F10 F11 (8 ^ m0) (8 ^ m1) (8 ^ m2) (8 ^ m3) (Nat.one_le_pow _ _ (by omega)) (step _ _ (by omega)) (step _ _ (by omega)) (step _ _ (by omega)) (by
    have := Nat.pow_le_pow_right (show 0 < 8 by omega) (show m3 ≤ xs.length by omega)
    omega), ← hD, sgn_mul hg]
  rfl

theorem sgn_pos {z : Int} : sgn z = 1 ↔ 0 < z := by
  unfold sgn
  split
  · omega
  · split <;> omega
theorem sgn_neg {z : Int} : sgn z = -1 ↔ z < 0 := by
  unfold sgn
  split
  · omega
  · split <;> omega

theorem pos_of_mul {x y : Int} (h : 0 < x * y) (hy : 0 < y) : 0 < x := by
  rcases Int.lt_trichotomy x 0 with h0 | h0 | h0
  · have := Int.mul_neg_of_neg_of_pos h0 hy
    omega
  · rw [h0, Int.zero_mul] at h
    omega
  · exact h0

/-- Between two sides of a wedge that p sees from outside: what lies in the wedge lies on one side of the plane through the ridge and p. -/
theorem wedge {X Y Z1 Z2 P V : R4} (h12 : 0 < D4 X Y Z1 Z2) (hp1 : D4 X Y Z1 P < 0) (hp2 : D4 X Y Z2 P < 0) (hv1 : 0 < D4 X Y Z1 V) (hv2 : D4 X Y Z2 V < 0) : 0 < D4 X Y P V := by
  have gp := D4_gp X Y P V Z1 Z2
  have e1 := D4_23 X Y P Z1
  have e2 := D4_23 X Y V Z2
  have e3 := D4_23 X Y P Z2
  have e4 := D4_23 X Y V Z1
  have p1 : 0 < D4 X Y P Z1 := by omega
  have p2 : 0 < D4 X Y V Z2 := by omega
  have p3 : 0 < D4 X Y P Z2 := by omega
  have p4 : D4 X Y V Z1 < 0 := by omega
  have q1 := Int.mul_pos p1 p2
  have q2 := Int.mul_neg_of_pos_of_neg p3 p4
  exact pos_of_mul (by omega) h12
end Go.Proofs.Ytojecaeblgghjaa
