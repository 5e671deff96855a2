/-
  Merged: Flt, Filt, Filt2, Filt3.
-/
import GoSem.Core.Float
import Derived.Laws.FloatArith

/-
  FLOATS THAT STAND FOR WHOLE NUMBERS: one rounding errs by one part in 2^53.
-/
set_option linter.unusedVariables false
set_option linter.unusedSimpArgs false
namespace Go.Proofs.Ytojecaeblgghjaa
namespace Flt
open Ieee

/-- a = m * 2^p. -/
def Sc (a m : Nat) (p : Int) : Prop := ∃ x y : Nat, (y : Int) - x = p ∧ a * 2 ^ x = m * 2 ^ y

theorem Sc.lies {a m : Nat} {p : Int} (h : Sc a m p) (x y : Nat) (e : (y : Int) - x = p) : a * 2 ^ x = m * 2 ^ y := by
  obtain ⟨x0, y0, e0, h0⟩ := h
  have hx : y0 + x = y + x0 := by omega
  refine Nat.eq_of_mul_eq_mul_right (Nat.two_pow_pos x0) ?_
  rw [Nat.mul_right_comm, h0, Nat.mul_assoc, Nat.mul_assoc, ← Nat.pow_add, ← Nat.pow_add, hx]

theorem Sc.some (p : Int) : ∃ x y : Nat, (y : Int) - x = p := ⟨(-p).toNat, p.toNat, by omega⟩

/-- Another spelling of the same number. -/
theorem Sc.turn {a k m : Nat} {l p : Int} (h : Sc a k l) (u v : Nat) (e : m * 2 ^ u = k * 2 ^ v) (he : (u : Int) - v = p - l) : Sc a m p := by
  obtain ⟨x, y, e0, h0⟩ := h
  refine ⟨x + v, u + y, by omega, ?_⟩
  rw [Nat.pow_add, ← Nat.mul_assoc, h0, Nat.mul_right_comm, ← e, Nat.mul_assoc, ← Nat.pow_add]

theorem Sc.mul {a b m n : Nat} {p q : Int} (h : Sc a m p) (k : Sc b n q) : Sc (a * b) (m * n) (p + q) := by
  obtain ⟨x, y, e, h⟩ := h
  obtain ⟨x', y', e', k⟩ := k
  refine ⟨x + x', y + y', by omega, ?_⟩
  rw [Nat.pow_add, Nat.pow_add, Nat.mul_mul_mul_comm, h, k, Nat.mul_mul_mul_comm]

theorem Sc.zero {m : Nat} {p : Int} : Sc 0 m p ↔ m = 0 := by
  constructor
  · rintro ⟨x, y, _, h⟩
    rw [Nat.zero_mul] at h
    rcases Nat.mul_eq_zero.1 h.symm with h | h
    · exact h
    · exact absurd h (Nat.ne_of_gt (Nat.two_pow_pos y))
  · rintro rfl
    obtain ⟨x, y, e⟩ := Sc.some p
    exact ⟨x, y, e, by simp⟩

def sg (s : Bool) (a : Nat) : Int := if s then -(a : Int) else a

theorem read_word (s : Bool) (r : Nat) (h : r < 2047 * 2 ^ 52) :
    double.read (double.word s r) = if r < 2 ^ 52 then .number s r (-1074) else .number s (2 ^ 52 + r % 2 ^ 52) (-1074 + (r / 2 ^ 52 - 1 : Nat)) := by
  have hw : double.signWeight = 2 ^ 63 := rfl
  have hb : double.binade = 2 ^ 52 := rfl
  have hi : double.infRung = 2047 * 2 ^ 52 := rfl
  have hl : double.leastPlace = -1074 := rfl
  unfold Format.read Format.word
  rw [hw, hb, hi, hl]
  cases s
  · have h1 : r / 2 ^ 63 % 2 = 0 := by omega
    have h2 : r % 2 ^ 63 = r := by omega
    simp only [Bool.false_eq_true, if_false, h1, h2]
    split
    · rfl
    · rfl
  · have h1 : (2 ^ 63 + r) / 2 ^ 63 % 2 = 1 := by omega
    have h2 : (2 ^ 63 + r) % 2 ^ 63 = r := by omega
    simp only [if_true, h1, h2]
    split
    · rfl
    · rfl

theorem read_rung (s : Bool) (t k : Nat) (hk : 2 ^ 52 ≤ k) (hk' : k ≤ 2 ^ 53) (ht : t < 2040) :
    ∃ m p, double.read (double.word s (min (t * 2 ^ 52 + k) (2047 * 2 ^ 52))) = .number s m p ∧ ∃ u : Nat, (u : Int) = p + 1074 ∧ m * 2 ^ u = k * 2 ^ t := by
  rw [Nat.min_eq_left (by omega), read_word s _ (by omega), if_neg (by omega)]
  by_cases h : k = 2 ^ 53
  · refine ⟨_, _, rfl, t + 1, ?_, ?_⟩
    · have : (t * 2 ^ 52 + k) / 2 ^ 52 = t + 2 := by omega
      rw [this]; omega
    · have : (t * 2 ^ 52 + k) % 2 ^ 52 = 0 := by omega
      rw [this, h, Nat.pow_succ]; omega
  · refine ⟨_, _, rfl, t, ?_, ?_⟩
    · have : (t * 2 ^ 52 + k) / 2 ^ 52 = t + 1 := by omega
      rw [this]; omega
    · have : 2 ^ 52 + (t * 2 ^ 52 + k) % 2 ^ 52 = k := by omega
      rw [this]

theorem cut_near (neg : Bool) (n drop : Nat) (h : drop ≤ n.log2 + 2) :
    2 * (Toward.even.cut neg n drop * 2 ^ drop) ≤ 2 * n + 2 ^ drop ∧ 2 * n ≤ 2 * (Toward.even.cut neg n drop * 2 ^ drop) + 2 ^ drop ∧ (n % 2 ^ drop = 0 → Toward.even.cut neg n drop * 2 ^ drop = n) ∧ n / 2 ^ drop ≤ Toward.even.cut neg n drop ∧ Toward.even.cut neg n drop ≤ n / 2 ^ drop + 1 := by
  unfold Toward.cut
  rw [Nat.min_eq_left h, Nat.one_shiftLeft]
  dsimp only
  have hg : 0 < 2 ^ drop := Nat.two_pow_pos _
  generalize 2 ^ drop = g at *
  have hd := Nat.div_add_mod n g
  have hm := Nat.mod_lt n hg
  generalize hq : n / g = q at *
  generalize hr : n % g = r at *
  rw [Nat.mul_comm g q] at hd
  by_cases hb : (decide (g < 2 * r) || (g == 2 * r && q % 2 == 1)) = true
  · have h2 : g ≤ 2 * r := by
      simp only [Bool.or_eq_true, decide_eq_true_eq, Bool.and_eq_true, beq_iff_eq] at hb
      omega
    rw [hb]
    simp only [Bool.toNat_true, Nat.add_mul, Nat.one_mul]
    refine ⟨by omega, by omega, fun e => by omega, by omega, by omega⟩
  · have h2 : 2 * r ≤ g := by
      simp only [Bool.or_eq_true, decide_eq_true_eq, Bool.and_eq_true, beq_iff_eq] at hb
      omega
    rw [Bool.not_eq_true] at hb
    rw [hb]
    simp only [Bool.toNat_false, Nat.add_zero]
    refine ⟨by omega, by omega, fun e => by omega, by omega, by omega⟩

theorem nearest_near (s : Bool) (m : Nat) (p c : Int) (a : Nat) (hs : Sc a m (p + c)) (ha : a ≠ 0) (hc0 : 0 ≤ c) (hc1 : c ≤ 100) (hb : a < 2 ^ 250) :
    ∃ m' p' a', double.read (double.nearest s m p) = .number s m' p' ∧ Sc a' m' (p' + c) ∧ 2 ^ 53 * a' ≤ 2 ^ 53 * a + a ∧ 2 ^ 53 * a ≤ 2 ^ 53 * a' + a := by
  have hm : m ≠ 0 := fun e => by
    subst e
    obtain ⟨x, y, _, h⟩ := hs
    rw [Nat.zero_mul] at h
    rcases Nat.mul_eq_zero.1 h with h | h
    · exact ha h
    · exact absurd h (Nat.ne_of_gt (Nat.two_pow_pos x))
  have hL1 : 2 ^ m.log2 ≤ m := Nat.log2_self_le hm
  have hL2 : m < 2 ^ (m.log2 + 1) := Nat.lt_log2_self
  obtain ⟨x, y, exy, hxy⟩ := hs
  generalize hL : m.log2 = L at *
  have r1 : x < L + 1 + y := by
    refine (Nat.pow_lt_pow_iff_right (a := 2) (by omega)).1 ?_
    calc 2 ^ x ≤ a * 2 ^ x := Nat.le_mul_of_pos_left _ (by omega)
      _ = m * 2 ^ y := hxy
      _ < 2 ^ (L + 1) * 2 ^ y := Nat.mul_lt_mul_of_pos_right hL2 (Nat.two_pow_pos y)
      _ = 2 ^ (L + 1 + y) := (Nat.pow_add ..).symm
  have r2 : L + y < 250 + x := by
    refine (Nat.pow_lt_pow_iff_right (a := 2) (by omega)).1 ?_
    calc 2 ^ (L + y) = 2 ^ L * 2 ^ y := Nat.pow_add ..
      _ ≤ m * 2 ^ y := Nat.mul_le_mul_right _ hL1
      _ = a * 2 ^ x := hxy.symm
      _ < 2 ^ 250 * 2 ^ x := Nat.mul_lt_mul_of_pos_right hb (Nat.two_pow_pos x)
      _ = 2 ^ (250 + x) := (Nat.pow_add ..).symm
  unfold Format.nearest
  rw [if_neg hm, hL, show double.leastPlace = -1074 from rfl, show ((double.fractionBits : Nat) : Int) = 52 from rfl, show double.binade = 2 ^ 52 from rfl, show double.infRung = 2047 * 2 ^ 52 from rfl,
    Int.max_eq_left (by omega)]
  dsimp only
  by_cases h52 : L ≤ 52
  · rw [show (p - (p + (L : Int) - 52)).toNat = 52 - L by omega, show ((p + (L : Int) - 52) - p).toNat = 0 by omega, Nat.shiftLeft_eq]
    have hk : Toward.even.cut s (m * 2 ^ (52 - L)) 0 = m * 2 ^ (52 - L) := by
      have := (cut_near s (m * 2 ^ (52 - L)) 0 (by omega)).2.2.1 (by simp [Nat.mod_one])
      simpa using this
    rw [hk]
    have k1 : 2 ^ 52 ≤ m * 2 ^ (52 - L) := by
      calc 2 ^ 52 = 2 ^ L * 2 ^ (52 - L) := by rw [← Nat.pow_add]; congr 1; omega
        _ ≤ _ := Nat.mul_le_mul_right _ hL1
    have k2 : m * 2 ^ (52 - L) ≤ 2 ^ 53 := by
      calc m * 2 ^ (52 - L) ≤ 2 ^ (L + 1) * 2 ^ (52 - L) := Nat.mul_le_mul_right _ (Nat.le_of_lt hL2)
        _ = 2 ^ 53 := by rw [← Nat.pow_add]; congr 1; omega
    obtain ⟨m', p', e1, u, eu, e2⟩ := read_rung s (p + (L : Int) - 52 - -1074).toNat _ k1 k2 (by omega)
    refine ⟨m', p', a, e1, ?_, by omega, by omega⟩
    have h1 : Sc a (m * 2 ^ (52 - L)) (p + (L : Int) - 52 + c) := Sc.turn ⟨x, y, exy, hxy⟩ 0 (52 - L) (by simp) (by omega)
    exact Sc.turn h1 u _ e2 (by omega)
  · rw [show (p - (p + (L : Int) - 52)).toNat = 0 by omega, show ((p + (L : Int) - 52) - p).toNat = L - 52 by omega, Nat.shiftLeft_zero]
    obtain ⟨c1, c2, c3, c4, c5⟩ := cut_near s m (L - 52) (by omega)
    generalize Toward.even.cut s m (L - 52) = kept at *
    have hG : 2 ^ L = 2 ^ 52 * 2 ^ (L - 52) := by rw [← Nat.pow_add]; congr 1; omega
    have hG0 : 0 < 2 ^ (L - 52) := Nat.two_pow_pos _
    have k1 : 2 ^ 52 ≤ kept := by
      refine Nat.le_trans ?_ c4
      rw [Nat.le_div_iff_mul_le hG0, ← hG]
      exact hL1
    have k2 : kept ≤ 2 ^ 53 := by
      have : m / 2 ^ (L - 52) < 2 ^ 53 := by
        rw [Nat.div_lt_iff_lt_mul hG0]
        calc m < 2 ^ (L + 1) := hL2
          _ = 2 ^ 53 * 2 ^ (L - 52) := by rw [← Nat.pow_add]; congr 1; omega
      omega
    obtain ⟨m', p', e1, u, eu, e2⟩ := read_rung s (p + (L : Int) - 52 - -1074).toNat kept k1 k2 (by omega)
    have hGm : 2 ^ (L - 52) * 2 ^ 52 ≤ m := by rw [Nat.mul_comm, ← hG]; exact hL1
    by_cases hl : 0 ≤ p + (L : Int) - 52 + c
    · refine ⟨m', p', kept * 2 ^ (p + (L : Int) - 52 + c).toNat, e1, ?_, ?_, ?_⟩
      · have h1 : Sc (kept * 2 ^ (p + (L : Int) - 52 + c).toNat) kept (p + (L : Int) - 52 + c) := ⟨0, (p + (L : Int) - 52 + c).toNat, by omega, by simp⟩
        exact Sc.turn h1 u _ e2 (by omega)
      all_goals
        have e3 : kept * 2 ^ (p + (L : Int) - 52 + c).toNat * 2 ^ x = kept * 2 ^ (L - 52) * 2 ^ y := by
          rw [Nat.mul_assoc, Nat.mul_assoc, ← Nat.pow_add, ← Nat.pow_add]; congr 2; omega
        have e4 : 2 ^ 53 * (kept * 2 ^ (L - 52)) ≤ 2 ^ 53 * m + m ∧ 2 ^ 53 * m ≤ 2 ^ 53 * (kept * 2 ^ (L - 52)) + m := by omega
        have e5 := Nat.mul_le_mul_right (2 ^ y) e4.1
        have e6 := Nat.mul_le_mul_right (2 ^ y) e4.2
        generalize kept * 2 ^ (p + (L : Int) - 52 + c).toNat = A at *
        generalize kept * 2 ^ (L - 52) = K at *
        refine Nat.le_of_mul_le_mul_right ?_ (Nat.two_pow_pos x)
        rw [Nat.add_mul, Nat.mul_assoc, Nat.mul_assoc, e3, hxy, ← Nat.mul_assoc, ← Nat.mul_assoc, ← Nat.add_mul]
        assumption
    · have hdv : a * 2 ^ (-(p + c)).toNat = m := by
        have := Sc.lies ⟨x, y, exy, hxy⟩ (-(p + c)).toNat 0 (by omega)
        simpa using this
      have hdd : m % 2 ^ (L - 52) = 0 := by
        rw [← hdv]
        refine Nat.mod_eq_zero_of_dvd (Nat.dvd_mul_left_of_dvd (Nat.pow_dvd_pow 2 (by omega)) a)
      refine ⟨m', p', a, e1, ?_, Nat.le_add_right _ _, Nat.le_add_right _ _⟩
      have h1 : Sc a kept (p + (L : Int) - 52 + c) := ⟨(-(p + c)).toNat, L - 52, by omega, by rw [c3 hdd, hdv]⟩
      exact Sc.turn h1 u _ e2 (by omega)

/-- The word x stands for k * 2^-c. -/
def Is (c : Int) (x : Nat) (k : Int) : Prop := ∃ s m p a, double.read x = .number s m p ∧ Sc a m (p + c) ∧ k = sg s a

/-- r is t but for one part in 2^53. -/
def Near (r t : Int) : Prop := 2 ^ 53 * (r - t).natAbs ≤ t.natAbs

theorem sg_natAbs (s : Bool) (a : Nat) : (sg s a).natAbs = a := by unfold sg; split <;> simp

theorem write_near (s : Bool) (m : Nat) (p c : Int) (a : Nat) (hs : Sc a m (p + c)) (hc0 : 0 ≤ c) (hc1 : c ≤ 100) (hb : a < 2 ^ 250) :
    ∃ k, Is c (double.write (.number s m p)) k ∧ Near k (sg s a) := by
  by_cases ha : a = 0
  · subst ha
    obtain rfl := Sc.zero.1 hs
    refine ⟨sg s 0, ⟨s, 0, -1074, 0, ?_, Sc.zero.2 rfl, rfl⟩, by simp [Near, sg]⟩
    simp only [Format.write, Format.nearest, if_true]
    rw [read_word s 0 (by omega), if_pos (by omega)]
  · obtain ⟨m', p', a', e1, e2, e3, e4⟩ := nearest_near s m p c a hs ha hc0 hc1 hb
    refine ⟨sg s a', ⟨s, m', p', a', e1, e2, rfl⟩, ?_⟩
    have e5 : (sg s a' - sg s a).natAbs = (a' - a) + (a - a') := by unfold sg; split <;> omega
    unfold Near
    rw [sg_natAbs, e5]
    omega

theorem mul_near {c d : Int} {x y : Nat} {k j : Int} (hx : Is c x k) (hy : Is d y j) (hc0 : 0 ≤ c + d) (hc1 : c + d ≤ 100) (hb : (k * j).natAbs < 2 ^ 250) :
    ∃ z r, double.mul x y = some z ∧ Is (c + d) z r ∧ Near r (k * j) := by
  obtain ⟨s, m, p, a, e1, h1, rfl⟩ := hx
  obtain ⟨t, n, q, b, e2, h2, rfl⟩ := hy
  have hk : sg s a * sg t b = sg (s ^^ t) (a * b) := by
    cases s <;> cases t <;> simp [sg, Int.natCast_mul, Int.neg_mul, Int.mul_neg]
  rw [hk] at hb ⊢
  rw [sg_natAbs] at hb
  have h3 := h1.mul h2
  obtain ⟨r, hr, hn⟩ := write_near (s ^^ t) (m * n) (p + q) (c + d) (a * b) (by rw [show p + q + (c + d) = p + c + (q + d) by omega]; exact h3) hc0 hc1 hb
  exact ⟨_, r, by simp [Format.mul, e1, e2, Datum.product], hr, hn⟩

theorem signed_sg (s : Bool) (m u : Nat) : signed s m u = sg s (m * 2 ^ u) := by
  unfold signed sg
  rw [Nat.shiftLeft_eq]

theorem sum_near {c : Int} {s t : Bool} {m n : Nat} {p q : Int} {a b : Nat} (h1 : Sc a m (p + c)) (h2 : Sc b n (q + c)) (hc0 : 0 ≤ c) (hc1 : c ≤ 100) (hb : (sg s a + sg t b).natAbs < 2 ^ 250) :
    ∃ r D, (Datum.number s m p).sum (.number t n q) = some D ∧ Is c (double.write D) r ∧ Near r (sg s a + sg t b) := by
  simp only [Datum.sum]
  generalize hbs : min p q = base
  have hM : Sc a (m * 2 ^ (p - base).toNat) (base + c) := Sc.turn h1 0 (p - base).toNat (by simp) (by omega)
  have hN : Sc b (n * 2 ^ (q - base).toNat) (base + c) := Sc.turn h2 0 (q - base).toNat (by simp) (by omega)
  rw [signed_sg, signed_sg]
  generalize m * 2 ^ (p - base).toNat = M at *
  generalize n * 2 ^ (q - base).toNat = N at *
  obtain ⟨x, y, exy⟩ := Sc.some (base + c)
  have eM := hM.lies x y exy
  have eN := hN.lies x y exy
  have hx0 : (0 : Int) < 2 ^ x := by have := Nat.two_pow_pos x; exact_mod_cast this
  have hy0 : (0 : Int) < 2 ^ y := by have := Nat.two_pow_pos y; exact_mod_cast this
  have es : ∀ (s : Bool) (a M : Nat), a * 2 ^ x = M * 2 ^ y → sg s a * 2 ^ x = sg s M * 2 ^ y := by
    intro s a M h
    have h' : (a : Int) * 2 ^ x = M * 2 ^ y := by exact_mod_cast h
    cases s <;> simp [sg, Int.neg_mul, h']
  have eT : (sg s a + sg t b) * 2 ^ x = (sg s M + sg t N) * 2 ^ y := by rw [Int.add_mul, Int.add_mul, es s a M eM, es t b N eN]
  generalize hT : sg s M + sg t N = T at *
  have hab : (sg s a + sg t b).natAbs * 2 ^ x = T.natAbs * 2 ^ y := by
    have := congrArg Int.natAbs eT
    rw [Int.natAbs_mul, Int.natAbs_mul] at this
    simpa [Int.natAbs_pow] using this
  have hzero : sg s a + sg t b = 0 ↔ T = 0 := by
    constructor
    · intro e
      rw [e, Int.zero_mul] at eT
      rcases Int.mul_eq_zero.1 eT.symm with h | h
      · exact h
      · omega
    · intro e
      rw [e, Int.zero_mul] at eT
      rcases Int.mul_eq_zero.1 eT with h | h
      · exact h
      · omega
  have hneg : sg s a + sg t b < 0 ↔ T < 0 := by
    have l1 := Int.mul_lt_mul_right hx0 (b := sg s a + sg t b) (c := 0)
    have l2 := Int.mul_lt_mul_right hy0 (b := T) (c := 0)
    rw [Int.zero_mul] at l1 l2
    rw [← l1, eT, l2]
  have hs2 : sg (if T = 0 then s && t else decide (T < 0)) (sg s a + sg t b).natAbs = sg s a + sg t b := by
    by_cases h0 : T = 0
    · have h00 := hzero.2 h0
      rw [h00]; simp [sg]
    · rw [if_neg h0]
      by_cases hn : T < 0
      · have := hneg.2 hn
        simp only [sg, hn, decide_true, if_true] at *
        omega
      · have : ¬ sg s a + sg t b < 0 := fun h => hn (hneg.1 h)
        simp only [sg, hn, decide_false, Bool.false_eq_true, if_false] at *
        omega
  obtain ⟨r, hr, hn⟩ := write_near (if T = 0 then s && t else decide (T < 0)) T.natAbs base c (sg s a + sg t b).natAbs ⟨x, y, exy, hab⟩ hc0 hc1 hb
  rw [hs2] at hn
  exact ⟨r, _, rfl, hr, hn⟩

theorem add_near {c : Int} {x y : Nat} {k j : Int} (hx : Is c x k) (hy : Is c y j) (hc0 : 0 ≤ c) (hc1 : c ≤ 100) (hb : (k + j).natAbs < 2 ^ 250) :
    ∃ z r, double.add x y = some z ∧ Is c z r ∧ Near r (k + j) := by
  obtain ⟨s, m, p, a, e1, h1, rfl⟩ := hx
  obtain ⟨t, n, q, b, e2, h2, rfl⟩ := hy
  obtain ⟨r, D, hD, hr, hn⟩ := sum_near (s := s) (t := t) h1 h2 hc0 hc1 hb
  exact ⟨_, r, by simp only [Format.add, e1, e2, hD, Option.map_some], hr, hn⟩

theorem sub_near {c : Int} {x y : Nat} {k j : Int} (hx : Is c x k) (hy : Is c y j) (hc0 : 0 ≤ c) (hc1 : c ≤ 100) (hb : (k - j).natAbs < 2 ^ 250) :
    ∃ z r, double.sub x y = some z ∧ Is c z r ∧ Near r (k - j) := by
  obtain ⟨s, m, p, a, e1, h1, rfl⟩ := hx
  obtain ⟨t, n, q, b, e2, h2, rfl⟩ := hy
  have e : sg s a - sg t b = sg s a + sg (!t) b := by cases t <;> simp [sg] <;> omega
  rw [e] at hb ⊢
  obtain ⟨r, D, hD, hr, hn⟩ := sum_near (s := s) (t := !t) h1 h2 hc0 hc1 hb
  exact ⟨_, r, by simp only [Format.sub, e1, e2, Datum.opposite, hD, Option.map_some], hr, hn⟩

theorem order_is {c : Int} {x y : Nat} {k j : Int} (hx : Is c x k) (hy : Is c y j) : double.order x y = some (compare k j) := by
  obtain ⟨s, m, p, a, e1, h1, rfl⟩ := hx
  obtain ⟨t, n, q, b, e2, h2, rfl⟩ := hy
  simp only [Format.order, e1, e2, Datum.order]
  generalize hbs : min p q = base
  have hM : Sc a (m * 2 ^ (p - base).toNat) (base + c) := Sc.turn h1 0 (p - base).toNat (by simp) (by omega)
  have hN : Sc b (n * 2 ^ (q - base).toNat) (base + c) := Sc.turn h2 0 (q - base).toNat (by simp) (by omega)
  rw [signed_sg, signed_sg]
  generalize m * 2 ^ (p - base).toNat = M at *
  generalize n * 2 ^ (q - base).toNat = N at *
  obtain ⟨x, y, exy⟩ := Sc.some (base + c)
  have eM := hM.lies x y exy
  have eN := hN.lies x y exy
  have hx0 : (0 : Int) < 2 ^ x := by have := Nat.two_pow_pos x; exact_mod_cast this
  have hy0 : (0 : Int) < 2 ^ y := by have := Nat.two_pow_pos y; exact_mod_cast this
  have es : ∀ (s : Bool) (a M : Nat), a * 2 ^ x = M * 2 ^ y → sg s a * 2 ^ x = sg s M * 2 ^ y := by
    intro s a M h
    have h' : (a : Int) * 2 ^ x = M * 2 ^ y := by exact_mod_cast h
    cases s <;> simp [sg, Int.neg_mul, h']
  have e1 := es s a M eM
  have e2 := es t b N eN
  congr 1
  simp only [compare, compareOfLessAndEq]
  have hlt : sg s M < sg t N ↔ sg s a < sg t b := by
    have l1 := Int.mul_lt_mul_right hx0 (b := sg s a) (c := sg t b)
    have l2 := Int.mul_lt_mul_right hy0 (b := sg s M) (c := sg t N)
    rw [← l2, ← e1, ← e2, l1]
  have heq : sg s M = sg t N ↔ sg s a = sg t b := by
    constructor
    · intro e
      rw [e, ← e2] at e1
      exact Int.eq_of_mul_eq_mul_right (by omega) e1
    · intro e
      rw [e, e2] at e1
      exact (Int.eq_of_mul_eq_mul_right (by omega) e1).symm
  simp only [hlt, heq]

theorem nearest_is (n : Int) (h : n.natAbs < 2 ^ 53) : Is 0 (FloatKind.nearest .f64 n) n := by
  obtain ⟨k, hk, hn⟩ := write_near (decide (n < 0)) n.natAbs 0 0 n.natAbs ⟨0, 0, by omega, rfl⟩ (by omega) (by omega) (Nat.lt_trans h (Nat.pow_lt_pow_right (by omega) (by omega)))
  have e : sg (decide (n < 0)) n.natAbs = n := by
    unfold sg
    split <;> rename_i h <;> simp at h <;> omega
  rw [e] at hn
  have : k = n := by unfold Near at hn; omega
  rw [this] at hk
  exact hk
end Flt
end Go.Proofs.Ytojecaeblgghjaa

/-
  PLAIN: orient.filter as a function of nine whole numbers; where it is not 0 it is the determinant's sign.
-/
set_option linter.unusedVariables false
set_option linter.unusedSimpArgs false
namespace Go.Proofs.Ytojecaeblgghjaa
namespace Flt
open Ieee

theorem Is.scale {x : Nat} {k : Int} (h : Is 0 x k) : Is 48 x (k * 281474976710656) := by
  obtain ⟨s, m, p, a, e1, ⟨x', y', e2, e3⟩, rfl⟩ := h
  refine ⟨s, m, p, a * 2 ^ 48, e1, ⟨x', y' + 48, by omega, ?_⟩, ?_⟩
  · rw [Nat.mul_right_comm, e3, Nat.mul_assoc, ← Nat.pow_add]
  · cases s <;> simp [sg, Int.natCast_mul, Int.neg_mul]

theorem read_mod (x : Nat) {s : Bool} {m : Nat} {p : Int} (h : double.read x = .number s m p) : double.read (x % 2 ^ 63) = .number false m p := by
  have hw : double.signWeight = 2 ^ 63 := rfl
  unfold Format.read at h ⊢
  rw [hw] at h ⊢
  have e1 : x % 2 ^ 63 / 2 ^ 63 % 2 = 0 := by omega
  have e2 : x % 2 ^ 63 % 2 ^ 63 = x % 2 ^ 63 := by omega
  rw [e1, e2]
  dsimp only at h ⊢
  split at h
  · rename_i h1
    rw [if_pos h1]
    injection h with a b c
    rw [b, c]
    rfl
  · rename_i h1
    rw [if_neg h1]
    split at h
    · rename_i h2
      rw [if_pos h2]
      injection h with a b c
      rw [b, c]
      rfl
    · split at h <;> cases h

theorem Is.abs {c : Int} {x : Nat} {k : Int} (h : Is c x k) : Is c (x % 2 ^ 63) (k.natAbs : Int) := by
  obtain ⟨s, m, p, a, e1, e2, rfl⟩ := h
  exact ⟨false, m, p, a, read_mod x e1, e2, by rw [sg_natAbs]; rfl⟩

theorem xor_top (x : Nat) (hx : x < 2 ^ 64) : x ^^^ 2 ^ 63 = if x < 2 ^ 63 then x + 2 ^ 63 else x - 2 ^ 63 := by
  have h1 := Nat.div_add_mod x (2 ^ 63)
  have key : ∀ y, y < 2 ^ 63 → y ^^^ 2 ^ 63 = y + 2 ^ 63 := fun y hy => by
    apply Nat.eq_of_testBit_eq
    intro i
    rw [Nat.testBit_xor, Nat.testBit_two_pow, Nat.add_comm y]
    rcases (by omega : i < 63 ∨ i = 63 ∨ 63 < i) with h | h | h
    · rw [Nat.testBit_two_pow_add_gt h]
      have : (63 = i) = False := by simp; omega
      simp [this]
    · subst h
      rw [Nat.testBit_two_pow_add_eq]
      simp
    · have hb : 2 ^ 64 ≤ 2 ^ i := Nat.pow_le_pow_right (by omega) (by omega)
      rw [Nat.testBit_lt_two_pow (x := 2 ^ 63 + y) (by omega), Nat.testBit_lt_two_pow (x := y) (by omega)]
      have : (63 = i) = False := by simp; omega
      simp [this]
  split
  · rename_i h; exact key x h
  · rename_i h
    have e : x = (x - 2 ^ 63) ^^^ 2 ^ 63 := by rw [key _ (by omega)]; omega
    have e2 : x ^^^ 2 ^ 63 = (x - 2 ^ 63) ^^^ 2 ^ 63 ^^^ 2 ^ 63 := congrArg (· ^^^ 2 ^ 63) e
    rw [e2, Nat.xor_assoc, Nat.xor_self, Nat.xor_zero]

theorem read_neg (x : Nat) (hx : x < 2 ^ 64) {s : Bool} {m : Nat} {p : Int} (h : double.read x = .number s m p) : double.read (x ^^^ 2 ^ 63) = .number (!s) m p := by
  have hw : double.signWeight = 2 ^ 63 := rfl
  rw [xor_top x hx]
  unfold Format.read at h ⊢
  rw [hw] at h ⊢
  dsimp only at h ⊢
  by_cases hl : x < 2 ^ 63
  · rw [if_pos hl]
    have e1 : (x + 2 ^ 63) / 2 ^ 63 % 2 = 1 := by omega
    have e2 : (x + 2 ^ 63) % 2 ^ 63 = x % 2 ^ 63 := by omega
    have e3 : x / 2 ^ 63 % 2 = 0 := by omega
    rw [e1, e2]
    rw [e3] at h
    split at h
    · rename_i h1
      rw [if_pos h1]
      simp only [Datum.number.injEq] at h ⊢
      exact ⟨by rw [← h.1]; rfl, h.2.1, h.2.2⟩
    · rename_i h1
      rw [if_neg h1]
      split at h
      · rename_i h2
        rw [if_pos h2]
        simp only [Datum.number.injEq] at h ⊢
        exact ⟨by rw [← h.1]; rfl, h.2.1, h.2.2⟩
      · split at h <;> cases h
  · rw [if_neg hl]
    have e1 : (x - 2 ^ 63) / 2 ^ 63 % 2 = 0 := by omega
    have e2 : (x - 2 ^ 63) % 2 ^ 63 = x % 2 ^ 63 := by omega
    have e3 : x / 2 ^ 63 % 2 = 1 := by omega
    rw [e1, e2]
    rw [e3] at h
    split at h
    · rename_i h1
      rw [if_pos h1]
      simp only [Datum.number.injEq] at h ⊢
      exact ⟨by rw [← h.1]; rfl, h.2.1, h.2.2⟩
    · rename_i h1
      rw [if_neg h1]
      split at h
      · rename_i h2
        rw [if_pos h2]
        simp only [Datum.number.injEq] at h ⊢
        exact ⟨by rw [← h.1]; rfl, h.2.1, h.2.2⟩
      · split at h <;> cases h

theorem Is.neg {c : Int} {x : Nat} {k : Int} (h : Is c x k) (hx : x < 2 ^ 64) : Is c (x ^^^ 2 ^ 63) (-k) := by
  obtain ⟨s, m, p, a, e1, e2, rfl⟩ := h
  exact ⟨!s, m, p, a, read_neg x hx e1, e2, by cases s <;> simp [sg]⟩

def fm (x y : Nat) : Nat := (double.mul x y).getD 0
def fa (x y : Nat) : Nat := (double.add x y).getD 0
def fs (x y : Nat) : Nat := (double.sub x y).getD 0

/-- x stands for k, a whole number within 2^b. -/
structure Wh (x : Nat) (k : Int) (B : Nat) : Prop where
  is : Is 0 x k
  le : k.natAbs ≤ B
  lt : x < 2 ^ 64

theorem near_le {r t : Int} (h : Near r t) : r.natAbs ≤ 2 * t.natAbs := by unfold Near at h; omega

theorem fm_wh {x y : Nat} {k j : Int} {A B : Nat} (hx : Wh x k A) (hy : Wh y j B) (hb : A * B < 2 ^ 200) :
    double.mul x y = some (fm x y) ∧ ∃ r, Wh (fm x y) r (2 * (A * B)) ∧ Near r (k * j) := by
  have hab : (k * j).natAbs ≤ A * B := by rw [Int.natAbs_mul]; exact Nat.mul_le_mul hx.le hy.le
  obtain ⟨z, r, h1, h2, h3⟩ := mul_near hx.is hy.is (by omega) (by omega) (Nat.lt_of_le_of_lt hab (by omega))
  have e : fm x y = z := by unfold fm; rw [h1]; rfl
  rw [e]
  have := near_le h3
  exact ⟨h1, r, ⟨h2, by omega, Format.mul_lt double h1⟩, h3⟩

theorem fa_wh {x y : Nat} {k j : Int} {A B : Nat} (hx : Wh x k A) (hy : Wh y j B) (hb : A + B < 2 ^ 200) :
    double.add x y = some (fa x y) ∧ ∃ r, Wh (fa x y) r (2 * (A + B)) ∧ Near r (k + j) := by
  have h1 := hx.le
  have h2 := hy.le
  have hab : (k + j).natAbs ≤ A + B := by omega
  obtain ⟨z, r, h1, h2, h3⟩ := add_near hx.is hy.is (by omega) (by omega) (Nat.lt_of_le_of_lt hab (by omega))
  have e : fa x y = z := by unfold fa; rw [h1]; rfl
  rw [e]
  have := near_le h3
  exact ⟨h1, r, ⟨h2, by omega, Format.add_lt double h1⟩, h3⟩

theorem fs_wh {x y : Nat} {k j : Int} {A B : Nat} (hx : Wh x k A) (hy : Wh y j B) (hb : A + B < 2 ^ 200) :
    double.sub x y = some (fs x y) ∧ ∃ r, Wh (fs x y) r (2 * (A + B)) ∧ Near r (k - j) := by
  have h1 := hx.le
  have h2 := hy.le
  have hab : (k - j).natAbs ≤ A + B := by omega
  obtain ⟨z, r, h1, h2, h3⟩ := sub_near hx.is hy.is (by omega) (by omega) (Nat.lt_of_le_of_lt hab (by omega))
  have e : fs x y = z := by unfold fs; rw [h1]; rfl
  rw [e]
  have := near_le h3
  exact ⟨h1, r, ⟨h2, by omega, Format.sub_lt double h1⟩, h3⟩

theorem abs_wh {x : Nat} {k : Int} {A : Nat} (hx : Wh x k A) : Wh (x % 2 ^ 63) (k.natAbs : Int) A := ⟨hx.is.abs, by have := hx.le; omega, by omega⟩

theorem of_wh (n : Int) {A : Nat} (h : n.natAbs ≤ A) (hA : A < 2 ^ 53) : Wh (FloatKind.nearest .f64 n) n A :=
  ⟨nearest_is n (by omega), h, (Format.write_lt double (.number (decide (n < 0)) n.natAbs 0) : _)⟩
end Flt
end Go.Proofs.Ytojecaeblgghjaa

/-
  PLAIN: orient.filter is right where it is not 0.
-/
set_option linter.unusedVariables false
set_option linter.unusedSimpArgs false
namespace Go.Proofs.Ytojecaeblgghjaa
namespace Flt
open Ieee

theorem ar1 (u v d K1 K2 : Int) (h1 : 2 ^ 53 * (u - K1).natAbs ≤ K1.natAbs) (h2 : 2 ^ 53 * (v - K2).natAbs ≤ K2.natAbs) (h3 : 2 ^ 53 * (d - (u - v)).natAbs ≤ (u - v).natAbs) :
    2 ^ 53 * (d - (K1 - K2)).natAbs ≤ 3 * (K1.natAbs + K2.natAbs) ∧ d.natAbs ≤ 2 * (K1.natAbs + K2.natAbs) ∧ (K1 - K2).natAbs ≤ K1.natAbs + K2.natAbs := by
  have a1 : -(K1.natAbs : Int) ≤ K1 ∧ K1 ≤ K1.natAbs := by omega
  have a2 : -(K2.natAbs : Int) ≤ K2 ∧ K2 ≤ K2.natAbs := by omega
  generalize K1.natAbs = A1 at *
  generalize K2.natAbs = A2 at *
  have b1 : -(A1 : Int) ≤ 2 ^ 53 * (u - K1) ∧ 2 ^ 53 * (u - K1) ≤ A1 := by clear h2 h3 a1 a2; omega
  have b2 : -(A2 : Int) ≤ 2 ^ 53 * (v - K2) ∧ 2 ^ 53 * (v - K2) ≤ A2 := by clear h1 h3 a1 a2 b1; omega
  clear h1 h2
  have c1 : 2 ^ 53 * ((u - v).natAbs : Int) ≤ (2 ^ 53 + 1) * (A1 + A2) := by clear h3; omega
  generalize (u - v).natAbs = Bn at *
  have b3 : -(Bn : Int) ≤ 2 ^ 53 * (d - (u - v)) ∧ 2 ^ 53 * (d - (u - v)) ≤ Bn := by clear a1 a2 b1 b2 c1; omega
  clear h3
  exact ⟨by omega, by omega, by clear b1 b2 c1 b3; omega⟩

theorem ar2 (u v g K1 K2 : Int) (h1 : 2 ^ 53 * (u - K1).natAbs ≤ K1.natAbs) (h2 : 2 ^ 53 * (v - K2).natAbs ≤ K2.natAbs) (h3 : 2 ^ 53 * (g - ((u.natAbs : Int) + v.natAbs)).natAbs ≤ ((u.natAbs : Int) + v.natAbs).natAbs) :
    2 ^ 53 * (K1.natAbs + K2.natAbs) ≤ 2 ^ 53 * g.natAbs + 2 * (K1.natAbs + K2.natAbs) ∧ g.natAbs ≤ 2 * (K1.natAbs + K2.natAbs) ∧ 0 ≤ g := by
  have c1 : 2 ^ 53 * K1.natAbs ≤ 2 ^ 53 * u.natAbs + K1.natAbs ∧ 2 ^ 53 * u.natAbs ≤ 2 ^ 53 * K1.natAbs + K1.natAbs := by clear h2 h3; omega
  have c2 : 2 ^ 53 * K2.natAbs ≤ 2 ^ 53 * v.natAbs + K2.natAbs ∧ 2 ^ 53 * v.natAbs ≤ 2 ^ 53 * K2.natAbs + K2.natAbs := by clear h1 h3 c1; omega
  clear h1 h2
  generalize K1.natAbs = A1 at *
  generalize K2.natAbs = A2 at *
  generalize u.natAbs = U at *
  generalize v.natAbs = V at *
  have h4 : ((U : Int) + V).natAbs = U + V := by omega
  rw [h4] at h3
  have b3 : -((U : Int) + V) ≤ 2 ^ 53 * (g - ((U : Int) + V)) ∧ 2 ^ 53 * (g - ((U : Int) + V)) ≤ (U : Int) + V := by clear c1 c2; omega
  clear h3 h4
  have h0 : 0 ≤ g := by omega
  exact ⟨by omega, by omega, h0⟩

theorem ar3 (t pd T : Int) (E x1 x2 x3 : Nat) (nT : 2 ^ 53 * (t - pd).natAbs ≤ pd.natAbs) (e1 : pd.natAbs = x2) (e2 : (pd - T).natAbs = x1) (e3 : T.natAbs = x3) (g1 : 2 ^ 53 * x1 ≤ 3 * E) (g2 : x2 ≤ 2 * E) (g3 : x3 ≤ E) :
    2 ^ 53 * (t - T).natAbs ≤ 5 * E ∧ t.natAbs ≤ 2 * E := by
  rw [e1] at nT
  have b1 : -(x2 : Int) ≤ 2 ^ 53 * (t - pd) ∧ 2 ^ 53 * (t - pd) ≤ x2 := by clear e1 e2 e3 g1 g2 g3; omega
  have b2 : -(x1 : Int) ≤ pd - T ∧ pd - T ≤ x1 := by clear nT b1 e1 e3 g1 g2 g3; omega
  have b3 : -(x3 : Int) ≤ T ∧ T ≤ x3 := by clear nT b1 b2 e1 e2 g1 g2 g3; omega
  clear nT e1 e2 e3
  exact ⟨by omega, by omega⟩

theorem ar4 (f G : Int) (E x4 : Nat) (nF : 2 ^ 53 * (f - G).natAbs ≤ G.natAbs) (e4 : G.natAbs = x4) (e5 : 0 ≤ G) (g5 : 2 ^ 53 * E ≤ 2 ^ 53 * x4 + 2 * E) (g6 : x4 ≤ 2 * E) :
    0 ≤ f ∧ 2 ^ 53 * E ≤ 2 ^ 53 * f.natAbs + 4 * E := by
  rw [e4] at nF
  have b1 : -(x4 : Int) ≤ 2 ^ 53 * (f - G) ∧ 2 ^ 53 * (f - G) ≤ x4 := by clear e4 e5 g5 g6; omega
  have b2 : G = x4 := by omega
  clear nF e4
  have h0 : 0 ≤ f := by omega
  exact ⟨h0, by omega⟩

set_option maxHeartbeats 1000000 in
theorem term_wh {P Q1 R1 Q2 R2 : Nat} {p q1 r1 q2 r2 : Int} (hP : Wh P p 4294967296) (hQ1 : Wh Q1 q1 4294967296) (hR1 : Wh R1 r1 4294967296) (hQ2 : Wh Q2 q2 4294967296) (hR2 : Wh R2 r2 4294967296) (W : Nat)
    (hW : W = (q1 * r1).natAbs + (q2 * r2).natAbs) :
    (double.mul Q1 R1 = some (fm Q1 R1) ∧ double.mul Q2 R2 = some (fm Q2 R2) ∧ double.sub (fm Q1 R1) (fm Q2 R2) = some (fs (fm Q1 R1) (fm Q2 R2)) ∧ double.mul P (fs (fm Q1 R1) (fm Q2 R2)) = some (fm P (fs (fm Q1 R1) (fm Q2 R2))) ∧
      double.add (fm Q1 R1 % 2 ^ 63) (fm Q2 R2 % 2 ^ 63) = some (fa (fm Q1 R1 % 2 ^ 63) (fm Q2 R2 % 2 ^ 63)) ∧ double.mul (P % 2 ^ 63) (fa (fm Q1 R1 % 2 ^ 63) (fm Q2 R2 % 2 ^ 63)) = some (fm (P % 2 ^ 63) (fa (fm Q1 R1 % 2 ^ 63) (fm Q2 R2 % 2 ^ 63))) ∧
      fm Q1 R1 < 2 ^ 64 ∧ fm Q2 R2 < 2 ^ 64) ∧
    ∃ t f : Int, Wh (fm P (fs (fm Q1 R1) (fm Q2 R2))) t (2 ^ 110) ∧ Wh (fm (P % 2 ^ 63) (fa (fm Q1 R1 % 2 ^ 63) (fm Q2 R2 % 2 ^ 63))) f (2 ^ 110) ∧
      2 ^ 53 * (t - p * (q1 * r1 - q2 * r2)).natAbs ≤ 5 * (p.natAbs * W) ∧ t.natAbs ≤ 2 * (p.natAbs * W) ∧ 0 ≤ f ∧ 2 ^ 53 * (p.natAbs * W) ≤ 2 ^ 53 * f.natAbs + 4 * (p.natAbs * W) := by
  obtain ⟨m1, u, hU, nU⟩ := fm_wh hQ1 hR1 (by omega)
  obtain ⟨m2, v, hV, nV⟩ := fm_wh hQ2 hR2 (by omega)
  obtain ⟨m3, d, hD, nD⟩ := fs_wh hU hV (by omega)
  obtain ⟨m4, t, hT, nT⟩ := fm_wh hP hD (by omega)
  obtain ⟨m5, g, hG, nG⟩ := fa_wh (abs_wh hU) (abs_wh hV) (by omega)
  obtain ⟨m6, f, hF, nF⟩ := fm_wh (abs_wh hP) hG (by omega)
  refine ⟨⟨m1, m2, m3, m4, m5, m6, hU.lt, hV.lt⟩, t, f, ⟨hT.is, Nat.le_trans hT.le (by omega), hT.lt⟩, ⟨hF.is, Nat.le_trans hF.le (by omega), hF.lt⟩, ?_⟩
  generalize q1 * r1 = K1 at *
  generalize q2 * r2 = K2 at *
  unfold Near at nU nV nD nG nT nF
  clear m1 m2 m3 m4 m5 m6 hU hV hD hT hG hF hP hQ1 hR1 hQ2 hR2
  obtain ⟨h1, h2, h3⟩ := ar1 u v d K1 K2 nU nV nD
  obtain ⟨h5, h6, h7⟩ := ar2 u v g K1 K2 nU nV nG
  rw [← hW] at h1 h2 h3 h5 h6
  clear nU nV nD nG hW
  have e1 : (p * d).natAbs = p.natAbs * d.natAbs := Int.natAbs_mul ..
  have e2 : (p * d - p * (K1 - K2)).natAbs = p.natAbs * (d - (K1 - K2)).natAbs := by rw [← Int.mul_sub, Int.natAbs_mul]
  have e3 : (p * (K1 - K2)).natAbs = p.natAbs * (K1 - K2).natAbs := Int.natAbs_mul ..
  have e4 : ((p.natAbs : Int) * g).natAbs = p.natAbs * g.natAbs := by rw [Int.natAbs_mul, Int.natAbs_natCast]
  have e5 : 0 ≤ (p.natAbs : Int) * g := Int.mul_nonneg (by omega) h7
  have g1 : 2 ^ 53 * (p.natAbs * (d - (K1 - K2)).natAbs) ≤ 3 * (p.natAbs * W) := by
    have := Nat.mul_le_mul_left p.natAbs h1
    rwa [Nat.mul_left_comm, Nat.mul_left_comm p.natAbs 3 W] at this
  have g2 : p.natAbs * d.natAbs ≤ 2 * (p.natAbs * W) := by
    have := Nat.mul_le_mul_left p.natAbs h2
    rwa [Nat.mul_left_comm p.natAbs 2 W] at this
  have g3 : p.natAbs * (K1 - K2).natAbs ≤ p.natAbs * W := Nat.mul_le_mul_left p.natAbs h3
  have g5 : 2 ^ 53 * (p.natAbs * W) ≤ 2 ^ 53 * (p.natAbs * g.natAbs) + 2 * (p.natAbs * W) := by
    have := Nat.mul_le_mul_left p.natAbs h5
    rwa [Nat.mul_add, Nat.mul_left_comm, Nat.mul_left_comm p.natAbs (2 ^ 53), Nat.mul_left_comm p.natAbs 2] at this
  have g6 : p.natAbs * g.natAbs ≤ 2 * (p.natAbs * W) := by
    have := Nat.mul_le_mul_left p.natAbs h6
    rwa [Nat.mul_left_comm p.natAbs 2 W] at this
  obtain ⟨r1, r2⟩ := ar3 t (p * d) (p * (K1 - K2)) (p.natAbs * W) _ _ _ nT e1 e2 e3 g1 g2 g3
  obtain ⟨r3, r4⟩ := ar4 f ((p.natAbs : Int) * g) (p.natAbs * W) _ nF e4 e5 g5 g6
  exact ⟨r1, r2, r3, r4⟩
end Flt
end Go.Proofs.Ytojecaeblgghjaa

/-
  PLAIN: orient.filter, whole.
-/
set_option linter.unusedVariables false
set_option linter.unusedSimpArgs false
namespace Go.Proofs.Ytojecaeblgghjaa
namespace Flt
open Ieee

abbrev fN (n : Int) : Nat := FloatKind.nearest .f64 n
def tW (p q1 r1 q2 r2 : Int) : Nat := fm (fN p) (fs (fm (fN q1) (fN r1)) (fm (fN q2) (fN r2)))
def mW (p q1 r1 q2 r2 : Int) : Nat := fm (fN p % 2 ^ 63) (fa (fm (fN q1) (fN r1) % 2 ^ 63) (fm (fN q2) (fN r2) % 2 ^ 63))

/-- The word of 2^-48. -/
abbrev cW : Nat := 4391009636686233600
theorem cW_is : Is 48 cW 1 := ⟨false, 2 ^ 52, -100, 1, by rfl, ⟨52, 0, by omega, by rfl⟩, by rfl⟩

theorem sums (t1 t2 t3 s1 s f1 f2 f3 e1 e2 k T1 T2 T3 : Int) (E1 E2 E3 : Nat)
    (a1 : 2 ^ 53 * (t1 - T1).natAbs ≤ 5 * E1) (a2 : 2 ^ 53 * (t2 - T2).natAbs ≤ 5 * E2) (a3 : 2 ^ 53 * (t3 - T3).natAbs ≤ 5 * E3)
    (b1 : t1.natAbs ≤ 2 * E1) (b2 : t2.natAbs ≤ 2 * E2) (b3 : t3.natAbs ≤ 2 * E3) (c1 : 0 ≤ f1) (c2 : 0 ≤ f2) (c3 : 0 ≤ f3)
    (d1 : 2 ^ 53 * E1 ≤ 2 ^ 53 * f1.natAbs + 4 * E1) (d2 : 2 ^ 53 * E2 ≤ 2 ^ 53 * f2.natAbs + 4 * E2) (d3 : 2 ^ 53 * E3 ≤ 2 ^ 53 * f3.natAbs + 4 * E3)
    (n1 : Near s1 (t1 + t2)) (n2 : Near s (s1 + t3)) (n3 : Near e1 (f1 + f2)) (n4 : Near e2 (e1 + f3)) (n5 : Near k (e2 * 1)) :
    (k < s * 281474976710656 → 0 < T1 + T2 + T3) ∧ (s * 281474976710656 < -k → T1 + T2 + T3 < 0) := by
  unfold Near at *
  rw [Int.mul_one] at n5
  have p1 : -(5 * (E1 : Int)) ≤ 2 ^ 53 * (t1 - T1) ∧ 2 ^ 53 * (t1 - T1) ≤ 5 * E1 := by clear a2 a3 b1 b2 b3 c1 c2 c3 d1 d2 d3 n1 n2 n3 n4 n5; omega
  have p2 : -(5 * (E2 : Int)) ≤ 2 ^ 53 * (t2 - T2) ∧ 2 ^ 53 * (t2 - T2) ≤ 5 * E2 := by clear a1 a3 b1 b2 b3 c1 c2 c3 d1 d2 d3 n1 n2 n3 n4 n5 p1; omega
  have p3 : -(5 * (E3 : Int)) ≤ 2 ^ 53 * (t3 - T3) ∧ 2 ^ 53 * (t3 - T3) ≤ 5 * E3 := by clear a1 a2 b1 b2 b3 c1 c2 c3 d1 d2 d3 n1 n2 n3 n4 n5 p1 p2; omega
  clear a1 a2 a3
  have q1 : -(2 * (E1 : Int)) ≤ t1 ∧ t1 ≤ 2 * E1 := by clear b2 b3 c1 c2 c3 d1 d2 d3 n1 n2 n3 n4 n5 p1 p2 p3; omega
  have q2 : -(2 * (E2 : Int)) ≤ t2 ∧ t2 ≤ 2 * E2 := by clear b1 b3 c1 c2 c3 d1 d2 d3 n1 n2 n3 n4 n5 p1 p2 p3 q1; omega
  have q3 : -(2 * (E3 : Int)) ≤ t3 ∧ t3 ≤ 2 * E3 := by clear b1 b2 c1 c2 c3 d1 d2 d3 n1 n2 n3 n4 n5 p1 p2 p3 q1 q2; omega
  clear b1 b2 b3
  have d1' : 2 ^ 53 * (E1 : Int) ≤ 2 ^ 53 * f1 + 4 * E1 := by clear n1 n2 n3 n4 n5 p1 p2 p3 q1 q2 q3 d2 d3; omega
  have d2' : 2 ^ 53 * (E2 : Int) ≤ 2 ^ 53 * f2 + 4 * E2 := by clear n1 n2 n3 n4 n5 p1 p2 p3 q1 q2 q3 d1 d3 d1'; omega
  have d3' : 2 ^ 53 * (E3 : Int) ≤ 2 ^ 53 * f3 + 4 * E3 := by clear n1 n2 n3 n4 n5 p1 p2 p3 q1 q2 q3 d1 d2 d1' d2'; omega
  clear d1 d2 d3
  have m1 : -(2 * ((E1 : Int) + E2)) ≤ 2 ^ 53 * (s1 - (t1 + t2)) ∧ 2 ^ 53 * (s1 - (t1 + t2)) ≤ 2 * ((E1 : Int) + E2) := by clear n2 n3 n4 n5 p1 p2 p3 q3 d1' d2' d3' c1 c2 c3; omega
  clear n1
  have m2 : -(4 * ((E1 : Int) + E2 + E3)) ≤ 2 ^ 53 * (s - (s1 + t3)) ∧ 2 ^ 53 * (s - (s1 + t3)) ≤ 4 * ((E1 : Int) + E2 + E3) := by clear n3 n4 n5 p1 p2 p3 d1' d2' d3' c1 c2 c3; omega
  clear n2 q1 q2 q3
  have g1 : 0 ≤ e1 ∧ 2 ^ 53 * (f1 + f2) ≤ 2 ^ 53 * e1 + (f1 + f2) := by clear m1 m2 n4 n5 p1 p2 p3 d1' d2' d3'; omega
  clear n3
  have g2 : 0 ≤ e2 ∧ 2 ^ 53 * (e1 + f3) ≤ 2 ^ 53 * e2 + (e1 + f3) := by clear m1 m2 n5 p1 p2 p3 d1' d2' d3'; omega
  clear n4
  have g3 : 0 ≤ k ∧ 2 ^ 53 * e2 ≤ 2 ^ 53 * k + e2 := by clear m1 m2 p1 p2 p3 d1' d2' d3' g1; omega
  clear n5
  have h1 : (E1 : Int) + E2 ≤ 2 * (f1 + f2) := by clear m1 m2 p1 p2 p3 g1 g2 g3; omega
  have big : 11 * ((E1 : Int) + E2 + E3) ≤ 32 * k := by clear m1 m2 p1 p2 p3; omega
  have err : -(11 * ((E1 : Int) + E2 + E3)) ≤ 2 ^ 53 * (s - (T1 + T2 + T3)) ∧ 2 ^ 53 * (s - (T1 + T2 + T3)) ≤ 11 * ((E1 : Int) + E2 + E3) := by clear big h1 g1 g2 g3 d1' d2' d3'; omega
  clear m1 m2 p1 p2 p3 g1 g2 h1 d1' d2' d3'
  exact ⟨fun h => by omega, fun h => by omega⟩

def sW (a0 a1 a2 b0 b1 b2 c0 c1 c2 : Int) : Nat := fa (fa (tW a0 b1 c2 b2 c1) (tW a1 b2 c0 b0 c2)) (tW a2 b0 c1 b1 c0)
def eW (a0 a1 a2 b0 b1 b2 c0 c1 c2 : Int) : Nat := fm (fa (fa (mW a0 b1 c2 b2 c1) (mW a1 b2 c0 b0 c2)) (mW a2 b0 c1 b1 c0)) cW

/-- What orient.filter says. -/
def filtV (s e : Nat) : Int := if double.order s e = some .gt then 1 else if double.order s (e ^^^ 2 ^ 63) = some .lt then -1 else 0
def filt (a0 a1 a2 b0 b1 b2 c0 c1 c2 : Int) : Int := filtV (sW a0 a1 a2 b0 b1 b2 c0 c1 c2) (eW a0 a1 a2 b0 b1 b2 c0 c1 c2)

abbrev Big (n : Int) : Prop := -4294967296 ≤ n ∧ n ≤ 4294967296
theorem big_wh {n : Int} (h : Big n) : Wh (fN n) n 4294967296 := of_wh n (by omega) (by omega)

/-- The operations that one of three terms takes. -/
def TermOps (p q1 r1 q2 r2 : Int) : Prop :=
  double.mul (fN q1) (fN r1) = some (fm (fN q1) (fN r1)) ∧ double.mul (fN q2) (fN r2) = some (fm (fN q2) (fN r2)) ∧ double.sub (fm (fN q1) (fN r1)) (fm (fN q2) (fN r2)) = some (fs (fm (fN q1) (fN r1)) (fm (fN q2) (fN r2))) ∧
    double.mul (fN p) (fs (fm (fN q1) (fN r1)) (fm (fN q2) (fN r2))) = some (tW p q1 r1 q2 r2) ∧
    double.add (fm (fN q1) (fN r1) % 2 ^ 63) (fm (fN q2) (fN r2) % 2 ^ 63) = some (fa (fm (fN q1) (fN r1) % 2 ^ 63) (fm (fN q2) (fN r2) % 2 ^ 63)) ∧ double.mul (fN p % 2 ^ 63) (fa (fm (fN q1) (fN r1) % 2 ^ 63) (fm (fN q2) (fN r2) % 2 ^ 63)) = some (mW p q1 r1 q2 r2) ∧
    fm (fN q1) (fN r1) < 2 ^ 64 ∧ fm (fN q2) (fN r2) < 2 ^ 64

set_option maxHeartbeats 1000000 in
theorem filt_right (a0 a1 a2 b0 b1 b2 c0 c1 c2 : Int) (ha0 : Big a0) (ha1 : Big a1) (ha2 : Big a2) (hb0 : Big b0) (hb1 : Big b1) (hb2 : Big b2) (hc0 : Big c0) (hc1 : Big c1) (hc2 : Big c2) :
    (TermOps a0 b1 c2 b2 c1 ∧ TermOps a1 b2 c0 b0 c2 ∧ TermOps a2 b0 c1 b1 c0 ∧
      double.add (tW a0 b1 c2 b2 c1) (tW a1 b2 c0 b0 c2) = some (fa (tW a0 b1 c2 b2 c1) (tW a1 b2 c0 b0 c2)) ∧ double.add (fa (tW a0 b1 c2 b2 c1) (tW a1 b2 c0 b0 c2)) (tW a2 b0 c1 b1 c0) = some (sW a0 a1 a2 b0 b1 b2 c0 c1 c2) ∧
      double.add (mW a0 b1 c2 b2 c1) (mW a1 b2 c0 b0 c2) = some (fa (mW a0 b1 c2 b2 c1) (mW a1 b2 c0 b0 c2)) ∧ double.add (fa (mW a0 b1 c2 b2 c1) (mW a1 b2 c0 b0 c2)) (mW a2 b0 c1 b1 c0) = some (fa (fa (mW a0 b1 c2 b2 c1) (mW a1 b2 c0 b0 c2)) (mW a2 b0 c1 b1 c0)) ∧
      double.mul (fa (fa (mW a0 b1 c2 b2 c1) (mW a1 b2 c0 b0 c2)) (mW a2 b0 c1 b1 c0)) cW = some (eW a0 a1 a2 b0 b1 b2 c0 c1 c2)) ∧
    (filt a0 a1 a2 b0 b1 b2 c0 c1 c2 = 1 → 0 < a0 * (b1 * c2 - b2 * c1) + a1 * (b2 * c0 - b0 * c2) + a2 * (b0 * c1 - b1 * c0)) ∧
    (filt a0 a1 a2 b0 b1 b2 c0 c1 c2 = -1 → a0 * (b1 * c2 - b2 * c1) + a1 * (b2 * c0 - b0 * c2) + a2 * (b0 * c1 - b1 * c0) < 0) := by
  obtain ⟨o1, t1, f1, T1, F1, x1, y1, z1, w1⟩ := term_wh (big_wh ha0) (big_wh hb1) (big_wh hc2) (big_wh hb2) (big_wh hc1) _ rfl
  obtain ⟨o2, t2, f2, T2, F2, x2, y2, z2, w2⟩ := term_wh (big_wh ha1) (big_wh hb2) (big_wh hc0) (big_wh hb0) (big_wh hc2) _ rfl
  obtain ⟨o3, t3, f3, T3, F3, x3, y3, z3, w3⟩ := term_wh (big_wh ha2) (big_wh hb0) (big_wh hc1) (big_wh hb1) (big_wh hc0) _ rfl
  obtain ⟨m1, s1, S1, n1⟩ := fa_wh T1 T2 (by omega)
  obtain ⟨m2, s, S2, n2⟩ := fa_wh S1 T3 (by omega)
  obtain ⟨m3, e1, E1, n3⟩ := fa_wh F1 F2 (by omega)
  obtain ⟨m4, e2, E2, n4⟩ := fa_wh E1 F3 (by omega)
  have hle := E2.le
  obtain ⟨z, k, m5, K, n5⟩ := mul_near E2.is cW_is (by omega) (by omega) (by rw [Int.mul_one]; omega)
  have hz : fm (fa (fa (mW a0 b1 c2 b2 c1) (mW a1 b2 c0 b0 c2)) (mW a2 b0 c1 b1 c0)) cW = z := by
    have : double.mul (fa (fa (mW a0 b1 c2 b2 c1) (mW a1 b2 c0 b0 c2)) (mW a2 b0 c1 b1 c0)) cW = some z := m5
    unfold fm
    rw [this]
    rfl
  have hzl : z < 2 ^ 64 := Format.mul_lt double m5
  obtain ⟨r1, r2⟩ := sums t1 t2 t3 s1 s f1 f2 f3 e1 e2 k _ _ _ _ _ _ x1 x2 x3 y1 y2 y3 z1 z2 z3 w1 w2 w3 n1 n2 n3 n4 n5
  have od1 : double.order (sW a0 a1 a2 b0 b1 b2 c0 c1 c2) z = some (compare (s * 281474976710656) k) := order_is S2.is.scale (by simpa using K)
  have od2 : double.order (sW a0 a1 a2 b0 b1 b2 c0 c1 c2) (z ^^^ 2 ^ 63) = some (compare (s * 281474976710656) (-k)) := order_is S2.is.scale ((by simpa using K : Is 48 z k).neg hzl)
  refine ⟨⟨o1, o2, o3, m1, m2, m3, m4, ?_⟩, ?_, ?_⟩
  · show _ = some (fm _ _)
    rw [hz]; exact m5
  · intro h
    refine r1 ?_
    unfold filt filtV eW at h
    rw [hz, od1, od2] at h
    split at h
    · rename_i hg
      have : compare (s * 281474976710656) k = .gt := by simpa using hg
      exact Int.compare_eq_gt.1 this
    · split at h <;> simp at h
  · intro h
    refine r2 ?_
    unfold filt filtV eW at h
    rw [hz, od1, od2] at h
    split at h
    · simp at h
    · split at h
      · rename_i hg
        have : compare (s * 281474976710656) (-k) = .lt := by simpa using hg
        exact Int.compare_eq_lt.1 this
      · simp at h

theorem filt_three (a0 a1 a2 b0 b1 b2 c0 c1 c2 : Int) : filt a0 a1 a2 b0 b1 b2 c0 c1 c2 = 1 ∨ filt a0 a1 a2 b0 b1 b2 c0 c1 c2 = -1 ∨ filt a0 a1 a2 b0 b1 b2 c0 c1 c2 = 0 := by
  unfold filt filtV
  split
  · exact .inl rfl
  · split
    · exact .inr (.inl rfl)
    · exact .inr (.inr rfl)
end Flt
end Go.Proofs.Ytojecaeblgghjaa
