/-
  PLAIN: the sign of four points is that of the first mask that is not 0; swaps of neighbours put four in order. (Printed by mksignplain.py.)
-/
import Derived.Test.YtojecaeblgghjaaBigG
set_option linter.unusedVariables false
set_option linter.unusedSimpArgs false
namespace Go.Proofs.Ytojecaeblgghjaa
open Go.RowKit Go.Sort LsP

theorem det_sum (p0 p1 p2 p3 p4 p5 p6 p7 p8 p9 p10 p11 : Int) : sum4 [p0, p1, p2, 1, p3, p4, p5, 1, p6, p7, p8, 1, p9, p10, p11, 1] 4 = detV [p0, p1, p2, p3, p4, p5, p6, p7, p8, p9, p10, p11] := by
  show ((((0 : Int) + term4 [p0, p1, p2, 1, p3, p4, p5, 1, p6, p7, p8, 1, p9, p10, p11, 1] 0) + term4 [p0, p1, p2, 1, p3, p4, p5, 1, p6, p7, p8, 1, p9, p10, p11, 1] 1) + term4 [p0, p1, p2, 1, p3, p4, p5, 1, p6, p7, p8, 1, p9, p10, p11, 1] 2) + term4 [p0, p1, p2, 1, p3, p4, p5, 1, p6, p7, p8, 1, p9, p10, p11, 1] 3 = _
  rw [term4_0 (show ¬ (1 : Int) = 0 by decide), term4_1 (show ¬ (1 : Int) = 0 by decide), term4_2 (show ¬ (1 : Int) = 0 by decide), term4_3 (show ¬ (1 : Int) = 0 by decide)]
  simp only [d3, detV]
  show (0 + -(p3 * (p7 * p11 - p8 * p10) + p4 * (p8 * p9 - p6 * p11) + p5 * (p6 * p10 - p7 * p9)) + (p0 * (p7 * p11 - p8 * p10) + p1 * (p8 * p9 - p6 * p11) + p2 * (p6 * p10 - p7 * p9)) + -(p0 * (p4 * p11 - p5 * p10) + p1 * (p5 * p9 - p3 * p11) + p2 * (p3 * p10 - p4 * p9)) + (p0 * (p4 * p8 - p5 * p7) + p1 * (p5 * p6 - p3 * p8) + p2 * (p3 * p7 - p4 * p6)) : Int) =
    (p0 - p9) * ((p4 - p10) * (p8 - p11) - (p5 - p11) * (p7 - p10)) + (p1 - p10) * ((p5 - p11) * (p6 - p9) - (p3 - p9) * (p8 - p11)) + (p2 - p11) * ((p3 - p9) * (p7 - p10) - (p4 - p10) * (p6 - p9))
  grind

theorem moved_zero (p0 p1 p2 p3 p4 p5 p6 p7 p8 p9 p10 p11 : Int) : movedV [p0, p1, p2, p3, p4, p5, p6, p7, p8, p9, p10, p11] 0 = (sgZ (detV [p0, p1, p2, p3, p4, p5, p6, p7, p8, p9, p10, p11]), true) := by
  have h : stR [p0, p1, p2, p3, p4, p5, p6, p7, p8, p9, p10, p11] 0 4 = some ([p0, p1, p2, 1, p3, p4, p5, 1, p6, p7, p8, 1, p9, p10, p11, 1], [0, 0, 0]) := rfl
  unfold movedV
  rw [h]
  simp only
  rw [det_sum]

theorem moved_last (p0 p1 p2 p3 p4 p5 p6 p7 p8 p9 p10 p11 : Int) : movedV [p0, p1, p2, p3, p4, p5, p6, p7, p8, p9, p10, p11] 84 = (1, true) := by kernel_rfl

theorem mul_bd {x y : Int} {a b : Nat} (hx : x.natAbs ≤ a) (hy : y.natAbs ≤ b) : (x * y).natAbs ≤ a * b := by
  rw [Int.natAbs_mul]
  exact Nat.mul_le_mul hx hy
theorem minor_bd {a b c d : Int} (ha : a.natAbs ≤ 2147483648) (hb : b.natAbs ≤ 2147483648) (hc : c.natAbs ≤ 2147483648) (hd : d.natAbs ≤ 2147483648) : (a * b - c * d).natAbs ≤ 9223372036854775808 := by
  have h1 := mul_bd ha hb
  have h2 := mul_bd hc hd
  omega

theorem detV_bd (p0 p1 p2 p3 p4 p5 p6 p7 p8 p9 p10 p11 : Int) (F0 : FitI p0) (F1 : FitI p1) (F2 : FitI p2) (F3 : FitI p3) (F4 : FitI p4) (F5 : FitI p5) (F6 : FitI p6) (F7 : FitI p7) (F8 : FitI p8) (F9 : FitI p9) (F10 : FitI p10) (F11 : FitI p11) : -(2 ^ 127) ≤ detV [p0, p1, p2, p3, p4, p5, p6, p7, p8, p9, p10, p11] ∧ detV [p0, p1, p2, p3, p4, p5, p6, p7, p8, p9, p10, p11] < 2 ^ 127 := by
  show -(2 ^ 127) ≤ (p0 - p9) * ((p4 - p10) * (p8 - p11) - (p5 - p11) * (p7 - p10)) + (p1 - p10) * ((p5 - p11) * (p6 - p9) - (p3 - p9) * (p8 - p11)) + (p2 - p11) * ((p3 - p9) * (p7 - p10) - (p4 - p10) * (p6 - p9)) ∧ (p0 - p9) * ((p4 - p10) * (p8 - p11) - (p5 - p11) * (p7 - p10)) + (p1 - p10) * ((p5 - p11) * (p6 - p9) - (p3 - p9) * (p8 - p11)) + (p2 - p11) * ((p3 - p9) * (p7 - p10) - (p4 - p10) * (p6 - p9)) < 2 ^ 127
  have b0 : (p0 - p9).natAbs ≤ 2147483648 := by omega
  have b1 : (p1 - p10).natAbs ≤ 2147483648 := by omega
  have b2 : (p2 - p11).natAbs ≤ 2147483648 := by omega
  have b3 : (p3 - p9).natAbs ≤ 2147483648 := by omega
  have b4 : (p4 - p10).natAbs ≤ 2147483648 := by omega
  have b5 : (p5 - p11).natAbs ≤ 2147483648 := by omega
  have b6 : (p6 - p9).natAbs ≤ 2147483648 := by omega
  have b7 : (p7 - p10).natAbs ≤ 2147483648 := by omega
  have b8 : (p8 - p11).natAbs ≤ 2147483648 := by omega
  have m0 := mul_bd b0 (minor_bd b4 b8 b5 b7)
  have m1 := mul_bd b1 (minor_bd b5 b6 b3 b8)
  have m2 := mul_bd b2 (minor_bd b3 b7 b4 b6)
  generalize (p0 - p9) * ((p4 - p10) * (p8 - p11) - (p5 - p11) * (p7 - p10)) = x at *
  generalize (p1 - p10) * ((p5 - p11) * (p6 - p9) - (p3 - p9) * (p8 - p11)) = y at *
  generalize (p2 - p11) * ((p3 - p9) * (p7 - p10) - (p4 - p10) * (p6 - p9)) = z at *
  omega

/-- orient.sign tells the first mask's sign that is not 0. -/
theorem signV_mask (p0 p1 p2 p3 p4 p5 p6 p7 p8 p9 p10 p11 : Int) (F0 : FitI p0) (F1 : FitI p1) (F2 : FitI p2) (F3 : FitI p3) (F4 : FitI p4) (F5 : FitI p5) (F6 : FitI p6) (F7 : FitI p7) (F8 : FitI p8) (F9 : FitI p9) (F10 : FitI p10) (F11 : FitI p11) : signV [p0, p1, p2, p3, p4, p5, p6, p7, p8, p9, p10, p11] = maskV [p0, p1, p2, p3, p4, p5, p6, p7, p8, p9, p10, p11] 85 0 := by
  have hb := detV_bd p0 p1 p2 p3 p4 p5 p6 p7 p8 p9 p10 p11 F0 F1 F2 F3 F4 F5 F6 F7 F8 F9 F10 F11
  have hs := sgZ_eq (detV [p0, p1, p2, p3, p4, p5, p6, p7, p8, p9, p10, p11]) hb.1 hb.2
  have hf := Flt.filt_right (p0 - p9) (p1 - p10) (p2 - p11) (p3 - p9) (p4 - p10) (p5 - p11) (p6 - p9) (p7 - p10) (p8 - p11) (big_dif F0 F9) (big_dif F1 F10) (big_dif F2 F11) (big_dif F3 F9) (big_dif F4 F10) (big_dif F5 F11) (big_dif F6 F9) (big_dif F7 F10) (big_dif F8 F11)
  have h1 : filtP [p0, p1, p2, p3, p4, p5, p6, p7, p8, p9, p10, p11] = 1 → 0 < detV [p0, p1, p2, p3, p4, p5, p6, p7, p8, p9, p10, p11] := hf.2.1
  have h2 : filtP [p0, p1, p2, p3, p4, p5, p6, p7, p8, p9, p10, p11] = -1 → detV [p0, p1, p2, p3, p4, p5, p6, p7, p8, p9, p10, p11] < 0 := hf.2.2
  have h3 : filtP [p0, p1, p2, p3, p4, p5, p6, p7, p8, p9, p10, p11] = 1 ∨ filtP [p0, p1, p2, p3, p4, p5, p6, p7, p8, p9, p10, p11] = -1 ∨ filtP [p0, p1, p2, p3, p4, p5, p6, p7, p8, p9, p10, p11] = 0 := Flt.filt_three _ _ _ _ _ _ _ _ _
  have hM : maskV [p0, p1, p2, p3, p4, p5, p6, p7, p8, p9, p10, p11] 85 0 = if sgZ (detV [p0, p1, p2, p3, p4, p5, p6, p7, p8, p9, p10, p11]) ≠ 0 then sgZ (detV [p0, p1, p2, p3, p4, p5, p6, p7, p8, p9, p10, p11]) else maskV [p0, p1, p2, p3, p4, p5, p6, p7, p8, p9, p10, p11] 84 1 := by
    rw [maskV, moved_zero]
    simp
  unfold signV
  rw [hM]
  generalize detV [p0, p1, p2, p3, p4, p5, p6, p7, p8, p9, p10, p11] = D at *
  generalize filtP [p0, p1, p2, p3, p4, p5, p6, p7, p8, p9, p10, p11] = f at *
  clear hb hf
  rcases h3 with h | h | h
  · have := h1 h
    rw [if_neg (by omega), if_neg (by omega)] at hs
    rw [hs, h]
    simp
  · have := h2 h
    rw [if_pos (by omega)] at hs
    rw [hs, h]
    simp
  · rw [h]
    rw [if_neg (by decide)]
    by_cases h0 : sgZ D ≠ 0
    · rw [if_pos h0, if_pos h0]
    · rw [if_neg h0]

theorem bub_pass (a b c d g : Int) : ∃ a' b' c' d' g' : Int, bubK 3 ([a, b, c, d], g) = ([a', b', c', d'], g') ∧ (a' ≤ d' ∧ b' ≤ d' ∧ c' ≤ d') ∧ (a ≤ d → b ≤ d → c ≤ d → a' ≤ c' ∧ b' ≤ c') ∧ (a ≤ c → b ≤ c → c ≤ d → a' ≤ b' ∧ b' ≤ c' ∧ c' ≤ d') := by
  show ∃ a' b' c' d' g' : Int, bub1 2 (bub1 1 (bub1 0 ([a, b, c, d], g))) = ([a', b', c', d'], g') ∧ _
  have e0 : bub1 0 ([a, b, c, d], g) = if a > b then ([b, a, c, d], -g) else ([a, b, c, d], g) := rfl
  have e1 : ∀ x y g, bub1 1 ([x, y, c, d], g) = if y > c then ([x, c, y, d], -g) else ([x, y, c, d], g) := fun _ _ _ => rfl
  have e2 : ∀ x y z g, bub1 2 ([x, y, z, d], g) = if z > d then ([x, y, d, z], -g) else ([x, y, z, d], g) := fun _ _ _ _ => rfl
  rw [e0]
  by_cases h0 : a > b
  · rw [if_pos h0, e1]
    by_cases h1 : a > c
    · rw [if_pos h1, e2]
      by_cases h2 : a > d
      · rw [if_pos h2]; exact ⟨_, _, _, _, _, rfl, by omega, by omega, by omega⟩
      · rw [if_neg h2]; exact ⟨_, _, _, _, _, rfl, by omega, by omega, by omega⟩
    · rw [if_neg h1, e2]
      by_cases h2 : c > d
      · rw [if_pos h2]; exact ⟨_, _, _, _, _, rfl, by omega, by omega, by omega⟩
      · rw [if_neg h2]; exact ⟨_, _, _, _, _, rfl, by omega, by omega, by omega⟩
  · rw [if_neg h0, e1]
    by_cases h1 : b > c
    · rw [if_pos h1, e2]
      by_cases h2 : b > d
      · rw [if_pos h2]; exact ⟨_, _, _, _, _, rfl, by omega, by omega, by omega⟩
      · rw [if_neg h2]; exact ⟨_, _, _, _, _, rfl, by omega, by omega, by omega⟩
    · rw [if_neg h1, e2]
      by_cases h2 : c > d
      · rw [if_pos h2]; exact ⟨_, _, _, _, _, rfl, by omega, by omega, by omega⟩
      · rw [if_neg h2]; exact ⟨_, _, _, _, _, rfl, by omega, by omega, by omega⟩

theorem bub_still {a b c d g : Int} (h0 : a ≤ b) (h1 : b ≤ c) (h2 : c ≤ d) : bubK 3 ([a, b, c, d], g) = ([a, b, c, d], g) := by
  show bub1 2 (bub1 1 (bub1 0 ([a, b, c, d], g))) = _
  have e0 : bub1 0 ([a, b, c, d], g) = if a > b then ([b, a, c, d], -g) else ([a, b, c, d], g) := rfl
  have e1 : bub1 1 ([a, b, c, d], g) = if b > c then ([a, c, b, d], -g) else ([a, b, c, d], g) := rfl
  have e2 : bub1 2 ([a, b, c, d], g) = if c > d then ([a, b, d, c], -g) else ([a, b, c, d], g) := rfl
  rw [e0, if_neg (by omega), e1, if_neg (by omega), e2, if_neg (by omega)]

/-- A fourth round changes nothing. -/
theorem bub_four (a b c d : Int) : bubR [a, b, c, d] 4 = bubR [a, b, c, d] 3 := by
  obtain ⟨a1, b1, c1, d1, g1, e1, m1, _, _⟩ := bub_pass a b c d 1
  obtain ⟨a2, b2, c2, d2, g2, e2, m2, n2, _⟩ := bub_pass a1 b1 c1 d1 g1
  obtain ⟨a3, b3, c3, d3, g3, e3, m3, n3, k3⟩ := bub_pass a2 b2 c2 d2 g2
  have r3 : bubR [a, b, c, d] 3 = ([a3, b3, c3, d3], g3) := by
    show bubK 3 (bubK 3 (bubK 3 ([a, b, c, d], 1))) = _
    rw [e1, e2, e3]
  show bubK 3 (bubR [a, b, c, d] 3) = _
  rw [r3]
  have h := n2 m1.1 m1.2.1 m1.2.2
  have h' := k3 h.1 h.2 m2.2.2
  exact bub_still h'.1 h'.2.1 h'.2.2
end Go.Proofs.Ytojecaeblgghjaa
