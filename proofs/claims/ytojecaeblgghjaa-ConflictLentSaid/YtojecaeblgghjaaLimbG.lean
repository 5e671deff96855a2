/-
  Merged: L128, Limb, LimbR, LimbR2.
-/
import Derived.Test.YtojecaeblgghjaaWords
import Derived.Test.YtojecaeblgghjaaTriG
import Derived.Test.YtojecaeblgghjaaShelf
import Derived.Laws.Externs
import Derived.Deep.RegionHeld3

/-
  PLAIN: whole numbers of 128 bits as two words.
-/
set_option linter.unusedVariables false
set_option linter.unusedSimpArgs false
namespace Go.Proofs.Ytojecaeblgghjaa

/-- The number's words: limb's. -/
def hiZ (z : Int) : Int := (z / 18446744073709551616 + 9223372036854775808) % 18446744073709551616 - 9223372036854775808
def loZ (z : Int) : Int := z % 18446744073709551616
abbrev encZ (z : Int) : Value := .agg #[.int .i64 (hiZ z), .int .u64 (loZ z)]

/-- The sign of 128 bits. -/
def sgZ (z : Int) : Int := if hiZ z < 0 then -1 else if hiZ z = 0 ∧ loZ z = 0 then 0 else 1

theorem sgZ_eq (z : Int) (h1 : -(2 ^ 127) ≤ z) (h2 : z < 2 ^ 127) : sgZ z = if z < 0 then -1 else if z = 0 then 0 else 1 := by
  unfold sgZ hiZ loZ
  by_cases h : z < 0
  · rw [if_pos h, if_pos (by omega)]
  · rw [if_neg h, if_neg (by omega)]
    by_cases h0 : z = 0
    · subst h0; rfl
    · rw [if_neg h0, if_neg (by omega)]

/-- The number's words: the document's. -/
def hiR (z : Int) : Int := z / 18446744073709551616 % 18446744073709551616
abbrev encR (z : Int) : Value := .agg #[.int .u64 (hiR z), .int .u64 (loZ z)]

theorem hiR_of (z : Int) : hiZ z % 18446744073709551616 = hiR z := by unfold hiZ hiR; omega
theorem hiZ_of (z : Int) : (hiR z + 9223372036854775808) % 18446744073709551616 - 9223372036854775808 = hiZ z := by unfold hiZ hiR; omega
theorem loZ_lt (z : Int) : 0 ≤ loZ z ∧ loZ z < 18446744073709551616 := by unfold loZ; omega
theorem hiR_lt (z : Int) : 0 ≤ hiR z ∧ hiR z < 18446744073709551616 := by unfold hiR; omega
theorem hiZ_lt (z : Int) : -9223372036854775808 ≤ hiZ z ∧ hiZ z < 9223372036854775808 := by unfold hiZ; omega

theorem of_hi (n : Int) (h : -9223372036854775808 ≤ n) (h' : n < 9223372036854775808) : n / 9223372036854775808 = hiZ n := by unfold hiZ; omega

theorem add_lo (x y : Int) : (loZ x + loZ y) % 18446744073709551616 = loZ (x + y) := by unfold loZ; omega
theorem add_hi (x y : Int) : (hiR x + hiR y + (loZ x + loZ y) / 18446744073709551616) % 18446744073709551616 = hiR (x + y) := by unfold hiR loZ; omega
theorem sub_lo (x y : Int) : (loZ x + 18446744073709551616 - loZ y) % 18446744073709551616 = loZ (x - y) := by unfold loZ; omega
theorem sub_hi (x y : Int) : (hiR x + 18446744073709551616 - hiR y - (if loZ x < loZ y then 1 else 0)) % 18446744073709551616 = hiR (x - y) := by
  unfold hiR loZ; split <;> omega

theorem mul_split (x y : Int) : x * y = loZ x * loZ y + 18446744073709551616 * (x / 18446744073709551616 * loZ y + loZ x * (y / 18446744073709551616) + 18446744073709551616 * (x / 18446744073709551616 * (y / 18446744073709551616))) := by
  have hx : x = 18446744073709551616 * (x / 18446744073709551616) + loZ x := by unfold loZ; omega
  have hy : y = 18446744073709551616 * (y / 18446744073709551616) + loZ y := by unfold loZ; omega
  generalize x / 18446744073709551616 = a at *
  generalize y / 18446744073709551616 = b at *
  generalize loZ x = c at *
  generalize loZ y = d at *
  subst hx hy
  grind

theorem mul_lo (x y : Int) : loZ x * loZ y % 18446744073709551616 = loZ (x * y) := by
  have := mul_split x y
  unfold loZ at *
  omega

theorem mulmod (a b c : Int) : a % c * b % c = a * b % c := by rw [Int.mul_emod, Int.emod_emod, ← Int.mul_emod]
theorem mulmod' (a b c : Int) : a * (b % c) % c = a * b % c := by rw [Int.mul_emod, Int.emod_emod, ← Int.mul_emod]

theorem mul_hi (x y : Int) : (loZ x * loZ y / 18446744073709551616 + (hiR x * loZ y + loZ x * hiR y)) % 18446744073709551616 = hiR (x * y) := by
  have h := mul_split x y
  have h1 := mulmod (x / 18446744073709551616) (loZ y) 18446744073709551616
  have h2 := mulmod' (loZ x) (y / 18446744073709551616) 18446744073709551616
  have e1 : hiR x = x / 18446744073709551616 % 18446744073709551616 := rfl
  have e2 : hiR y = y / 18446744073709551616 % 18446744073709551616 := rfl
  have e3 : hiR (x * y) = x * y / 18446744073709551616 % 18446744073709551616 := rfl
  rw [← e1] at h1
  rw [← e2] at h2
  rw [e3]
  clear e1 e2 e3
  generalize x * y = p at *
  generalize loZ x * loZ y = q at *
  generalize hiR x * loZ y = r at *
  generalize loZ x * hiR y = s at *
  generalize x / 18446744073709551616 * loZ y = t at *
  generalize loZ x * (y / 18446744073709551616) = u at *
  generalize x / 18446744073709551616 * (y / 18446744073709551616) = v at *
  omega
end Go.Proofs.Ytojecaeblgghjaa

/-
  CONTRACTS AT WHOLE NUMBERS OF 128 BITS: limb.Of, Add, Sub, Neg, Mul, Prod, Cmp, Sign.
-/
set_option linter.unusedVariables false
set_option linter.unusedSimpArgs false
namespace Go.Proofs.Ytojecaeblgghjaa
open Go.RowKit Go.Sort LsP

theorem row2 {w : World} {b : Nat} {v0 v1 : Value} {t : TypeId} (h : w.heap[b]? = some (.cells #[v0, v1] t (0, 0))) :
    w.cell? ⟨b, 0, none⟩ = some v0 ∧ w.cell? ⟨b, 1, none⟩ = some v1 ∧ w.frozen? ⟨b, 0, none⟩ = false ∧ w.frozen? ⟨b, 1, none⟩ = false := by
  simp [World.cell?, World.frozen?, h]

theorem add64_run (x y c : Int) (hx : 0 ≤ x) (hy : 0 ≤ y) (hc0 : 0 ≤ c) (hc : c ≤ 1) (w : World) :
    (callFunc 205 #[.int .u64 x, .int .u64 y, .int .u64 c]).run Try.prog w = .ok (.value (.tuple #[.int .u64 ((x + y + c) % 18446744073709551616), .int .u64 ((x + y + c) / 18446744073709551616)])) w := by
  rw [run_callFunc_extern Try.func205 (by kernel_rfl) (by kernel_rfl) (by kernel_rfl) (e := add64Entry) (by kernel_rfl), run_add64 x y c hx hy hc0 hc]
  rfl

def sub64Entry' : Array Value → Sem Value := fun args => do
  let (x, y, b) ← Extern.MathBitsCarry.three "Sub64" args
  pure (Extern.MathBitsCarry.pair ((x + Extern.MathBitsCarry.m64 - y - b) % Extern.MathBitsCarry.m64) (if x < y + b then 1 else 0))

theorem run_sub64' (x y b : Nat) (hb : b ≤ 1) (w : World) :
    (sub64Entry' #[.int .u64 x, .int .u64 y, .int .u64 b]).run Try.prog w =
      .ok (.tuple #[.int .u64 (((x + 18446744073709551616 - y - b) % 18446744073709551616 : Nat) : Int), .int .u64 ((if x < y + b then 1 else 0 : Nat) : Int)]) w := by
  have : b = 0 ∨ b = 1 := by omega
  rcases this with rfl | rfl <;> rfl

theorem sub64_run (x y b : Int) (hx : 0 ≤ x) (hy : 0 ≤ y) (hy' : y < 18446744073709551616) (hb0 : 0 ≤ b) (hb : b ≤ 1) (w : World) :
    (callFunc 210 #[.int .u64 x, .int .u64 y, .int .u64 b]).run Try.prog w = .ok (.value (.tuple #[.int .u64 ((x + 18446744073709551616 - y - b) % 18446744073709551616), .int .u64 (if x < y + b then 1 else 0)])) w := by
  obtain ⟨X, rfl⟩ := Int.eq_ofNat_of_zero_le hx
  obtain ⟨Y, rfl⟩ := Int.eq_ofNat_of_zero_le hy
  obtain ⟨B, rfl⟩ := Int.eq_ofNat_of_zero_le hb0
  rw [run_callFunc_extern Try.func210 (by kernel_rfl) (by kernel_rfl) (by kernel_rfl) (e := sub64Entry') (by kernel_rfl), run_sub64' X Y B (by omega)]
  have h1 : (((X + 18446744073709551616 - Y - B) % 18446744073709551616 : Nat) : Int) = ((X : Int) + 18446744073709551616 - Y - B) % 18446744073709551616 := by omega
  have h2 : ((if X < Y + B then 1 else 0 : Nat) : Int) = if (X : Int) < Y + B then 1 else 0 := by split <;> split <;> omega
  rw [h1, h2]
  rfl

theorem wrapU (x : Int) : IntKind.u64.wrap (hiZ x) = hiR x := by rw [IntKind.wrap_u64, hiR_of]
theorem wrapI (x : Int) : IntKind.i64.wrap (hiR x) = hiZ x := by rw [IntKind.wrap_i64, hiZ_of]

set_option maxHeartbeats 1000000 in
set_option maxRecDepth 100000 in
theorem limbOf_any (n : Int) (h1 : -9223372036854775808 ≤ n) (h2 : n < 9223372036854775808) (w : World) :
    Calls Try.prog 202 #[.int .i64 n] w fun e w' => e = .returned (encZ n) ∧ Below w.heap.size w w' := by
  have e1 := of_hi n h1 h2
  have e2 : IntKind.u64.wrap n = loZ n := IntKind.wrap_u64 n
  go_enter Try.func202, Try.ntmps202
  go_wp2
  exact bodyPost_ret (v := encZ n) (by simp [results, Try.results202, go_sem, e1, e2]) rfl ⟨rfl, by (repeat (first | exact Below.refl _ _ | refine Below.alloc ?_ (by first | omega | (simp; done) | (simp; omega)) _ | refine Below.setCell ?_ (by first | omega | (simp; done) | (simp; omega)) _ | refine Below.drew ?_))⟩

set_option maxHeartbeats 1000000 in
set_option maxRecDepth 100000 in
theorem limbAdd_any (x y : Int) (w : World) :
    Calls Try.prog 190 #[encZ x, encZ y] w fun e w' => e = .returned (encZ (x + y)) ∧ Below w.heap.size w w' := by
  have a1 := fun W => add64_run (loZ x) (loZ y) 0 (loZ_lt x).1 (loZ_lt y).1 (Int.le_refl _) (by omega) W
  have hc : 0 ≤ (loZ x + loZ y) / 18446744073709551616 ∧ (loZ x + loZ y) / 18446744073709551616 ≤ 1 := by have := loZ_lt x; have := loZ_lt y; omega
  have a2 := fun W => add64_run (hiR x) (hiR y) ((loZ x + loZ y) / 18446744073709551616) (hiR_lt x).1 (hiR_lt y).1 hc.1 hc.2 W
  simp only [Int.add_zero, add_lo] at a1
  rw [add_hi] at a2
  have w1 := wrapU x
  have w2 := wrapU y
  have w3 := wrapI (x + y)
  go_enter Try.func190, Try.ntmps190
  go_wp2
  exact bodyPost_ret (v := encZ (x + y)) (by simp [results, Try.results190, go_sem]) rfl ⟨rfl, by (repeat (first | exact Below.refl _ _ | refine Below.alloc ?_ (by first | omega | (simp; done) | (simp; omega)) _ | refine Below.setCell ?_ (by first | omega | (simp; done) | (simp; omega)) _ | refine Below.drew ?_))⟩

set_option maxHeartbeats 1000000 in
set_option maxRecDepth 100000 in
theorem limbSub_any (x y : Int) (w : World) :
    Calls Try.prog 204 #[encZ x, encZ y] w fun e w' => e = .returned (encZ (x - y)) ∧ Below w.heap.size w w' := by
  have a1 := fun W => sub64_run (loZ x) (loZ y) 0 (loZ_lt x).1 (loZ_lt y).1 (loZ_lt y).2 (Int.le_refl _) (by omega) W
  have hc : 0 ≤ (if loZ x < loZ y then (1 : Int) else 0) ∧ (if loZ x < loZ y then (1 : Int) else 0) ≤ 1 := by split <;> omega
  have a2 := fun W => sub64_run (hiR x) (hiR y) (if loZ x < loZ y then 1 else 0) (hiR_lt x).1 (hiR_lt y).1 (hiR_lt y).2 hc.1 hc.2 W
  simp only [Int.add_zero, Int.sub_zero, sub_lo] at a1
  rw [sub_hi] at a2
  generalize (if loZ x < loZ y then (1 : Int) else 0) = c at *
  have w1 := wrapU x
  have w2 := wrapU y
  have w3 := wrapI (x - y)
  generalize (if hiR x < hiR y + c then (1 : Int) else 0) = d at *
  go_enter Try.func204, Try.ntmps204
  go_wp2
  exact bodyPost_ret (v := encZ (x - y)) (by simp [results, Try.results204, go_sem]) rfl ⟨rfl, by (repeat (first | exact Below.refl _ _ | refine Below.alloc ?_ (by first | omega | (simp; done) | (simp; omega)) _ | refine Below.setCell ?_ (by first | omega | (simp; done) | (simp; omega)) _ | refine Below.drew ?_))⟩

theorem encZ_zero : encZ 0 = .agg #[.int .i64 0, .int .u64 0] := rfl

set_option maxHeartbeats 1000000 in
set_option maxRecDepth 100000 in
theorem limbNeg_any (x : Int) (w : World) :
    Calls Try.prog 189 #[encZ x] w fun e w' => e = .returned (encZ (-x)) ∧ Below w.heap.size w w' := by
  have k := fun W => limbSub_any 0 x W
  rw [encZ_zero, Int.zero_sub] at k
  have K := Lib.hid k
  clear k
  go_enter Try.func189, Try.ntmps189
  go_wp2_with fail
  refine (K.out _).mono ?_
  rintro e w1 ⟨rfl, hb⟩
  have hx : w1.heap[w.heap.size + 1]? = some (.cells #[.int .i64 0, .int .u64 0] 164 (0, 0)) := (hb.block _ (by simp)).trans (new1 _ _ _)
  obtain ⟨c0, c1, f0, f1⟩ := row2 hx
  have sz := hb.size
  simp only [World.size_alloc] at sz
  have HB := Lib.hid hb
  clear hb hx
  go_wp2
  exact bodyPost_ret (v := encZ (-x)) (by simp [results, Try.results189, go_sem, c0, c1]) rfl ⟨rfl, ((below_up (((Below.refl w.heap.size w).alloc (Nat.le_refl _) _).alloc (by simp) _) HB.out).setCell (by simp) _).setCell (by simp) _⟩

theorem mul64_any (x y : Int) (w : World) :
    Calls Try.prog 208 #[.int .u64 (loZ x), .int .u64 (loZ y)] w fun e w' => e = .returned (.tuple #[.int .u64 (loZ x * loZ y / 18446744073709551616), .int .u64 (loZ (x * y))]) ∧ w' = w := by
  obtain ⟨X, hX⟩ := Int.eq_ofNat_of_zero_le (loZ_lt x).1
  obtain ⟨Y, hY⟩ := Int.eq_ofNat_of_zero_le (loZ_lt y).1
  have h1 := (loZ_lt x).2
  have h2 := (loZ_lt y).2
  have h3 := mul_lo x y
  rw [hX] at h1 h3 ⊢
  rw [hY] at h2 h3 ⊢
  refine (Try.bits_Mul64 X Y (by omega) (by omega) w).mono ?_
  rintro e w' ⟨rfl, rfl⟩
  refine ⟨?_, rfl⟩
  rw [← h3]
  rfl

theorem mul_wraps (x y : Int) : IntKind.u64.wrap (loZ x * loZ y / 18446744073709551616 + IntKind.u64.wrap (IntKind.u64.wrap (hiR x * loZ y) + IntKind.u64.wrap (loZ x * hiR y))) = hiR (x * y) := by
  have := mul_hi x y
  simp only [IntKind.wrap_u64]
  generalize hiR x * loZ y = a at *
  generalize loZ x * hiR y = b at *
  generalize loZ x * loZ y / 18446744073709551616 = c at *
  omega

set_option maxHeartbeats 1000000 in
set_option maxRecDepth 100000 in
theorem limbMul_any (x y : Int) (w : World) :
    Calls Try.prog 201 #[encZ x, encZ y] w fun e w' => e = .returned (encZ (x * y)) ∧ Below w.heap.size w w' := by
  have k := fun W => mul64_any x y W
  have K := Lib.hid k
  clear k
  have w1 := wrapU x
  have w2 := wrapU y
  have w3 := wrapI (x * y)
  have w4 := mul_wraps x y
  generalize hP : x * y = p at *
  generalize loZ x * loZ y / 18446744073709551616 = c at *
  generalize hiR x = xh at *
  generalize hiR y = yh at *
  go_enter Try.func201, Try.ntmps201
  go_wp2_with fail
  refine (K.out _).mono ?_
  rintro e w1 ⟨rfl, rfl⟩
  go_wp2
  exact bodyPost_ret (v := encZ p) (by simp [results, Try.results201, go_sem, w4, w3]) rfl ⟨rfl, by (repeat (first | exact Below.refl _ _ | refine Below.alloc ?_ (by first | omega | (simp; done) | (simp; omega)) _ | refine Below.setCell ?_ (by first | omega | (simp; done) | (simp; omega)) _ | refine Below.drew ?_))⟩

set_option maxHeartbeats 1000000 in
set_option maxRecDepth 100000 in
theorem limbProd_any (x y : Int) (hx : -9223372036854775808 ≤ x ∧ x < 9223372036854775808) (hy : -9223372036854775808 ≤ y ∧ y < 9223372036854775808) (w : World) :
    Calls Try.prog 209 #[.int .i64 x, .int .i64 y] w fun e w' => e = .returned (encZ (x * y)) ∧ Below w.heap.size w w' := by
  have k1 := fun W => limbOf_any x hx.1 hx.2 W
  have k2 := fun W => limbOf_any y hy.1 hy.2 W
  have k3 := fun W => limbMul_any x y W
  have K1 := Lib.hid k1; have K2 := Lib.hid k2; have K3 := Lib.hid k3
  clear k1 k2 k3
  go_enter Try.func209, Try.ntmps209
  go_wp2_with fail
  refine (K1.out _).mono ?_
  rintro e w1 ⟨rfl, hb1⟩
  have r1 : w1.heap[w.heap.size]? = some (.cells #[.int .i64 0, .int .u64 0] 164 (0, 0)) := (hb1.block _ (by simp)).trans (heap_alloc_new _ _)
  have b1 := below_up ((Below.refl w.heap.size w).alloc (Nat.le_refl _) _) hb1
  have H1 := Lib.hid (And.intro r1 b1)
  clear hb1 r1 b1
  go_wp2_with fail
  refine (K2.out _).mono ?_
  rintro e w2 ⟨rfl, hb2⟩
  have r2 := (hb2.block _ (Array.getElem?_eq_some_iff.1 H1.out.1).1).trans H1.out.1
  have b2 := below_up H1.out.2 hb2
  have H2 := Lib.hid (And.intro r2 b2)
  clear hb2 r2 b2
  go_wp2_with fail
  refine (K3.out _).mono ?_
  rintro e w3 ⟨rfl, hb3⟩
  have r3 := (hb3.block _ (Array.getElem?_eq_some_iff.1 H2.out.1).1).trans H2.out.1
  have b3 := below_up H2.out.2 hb3
  obtain ⟨c0, c1, f0, f1⟩ := row2 r3
  have B := Lib.hid b3
  clear hb3 r3 b3
  go_wp2
  exact bodyPost_ret (v := encZ (x * y)) (by simp [results, Try.results209, go_sem, c0, c1]) rfl ⟨rfl, (B.out.setCell (by simp) _).setCell (by simp) _⟩

theorem eqZ_run (h l : Int) : ∀ W : World, (binOp .eql 164 (.agg #[.int .i64 h, .int .u64 l]) (.agg #[.int .i64 0, .int .u64 0])).run Try.prog W = .ok (.bool (decide (h = 0 ∧ l = 0))) W := fun W => by
  rw [run_eql_struct, show (10000 : Nat) = 9999 + 1 from rfl, run_equalIn_agg W 9999 164 _ _ (by kernel_rfl) (by kernel_rfl)]
  have u2 := Try.underlying2
  have a2 := Try.isAgg2
  have z2 := Try.sizeOf2
  have u3 := Try.underlying153
  have a3 := Try.isAgg153
  have z3 := Try.sizeOf153
  simp only [Program.fieldsOf, Try.underlying164]
  go_simp
  by_cases h1 : h = 0 <;> by_cases h2 : l = 0 <;> simp [h1, h2]

set_option maxHeartbeats 1000000 in
set_option maxRecDepth 100000 in
theorem limbCmp0_any (z : Int) (w : World) :
    Calls Try.prog 186 #[encZ z, .agg #[.int .i64 0, .int .u64 0]] w fun e w' => e = .returned (.int .i64 (sgZ z)) ∧ Below w.heap.size w w' := by
  have hs : sgZ z = if hiZ z < 0 then -1 else if hiZ z = 0 ∧ loZ z = 0 then 0 else 1 := rfl
  have hl := (loZ_lt z).1
  rw [show encZ z = .agg #[.int .i64 (hiZ z), .int .u64 (loZ z)] from rfl]
  generalize sgZ z = s at *
  generalize hiZ z = h at *
  generalize loZ z = l at *
  have hq := eqZ_run h l
  have hl0 : decide (l < 0) = false := by simpa using hl
  by_cases h0 : h < 0
  · rw [if_pos h0] at hs
    subst hs
    have d0 : decide (h < 0) = true := by simpa using h0
    go_enter Try.func186, Try.ntmps186
    go_wp2
    go_ret
    exact ⟨rfl, by (repeat (first | exact Below.refl _ _ | refine Below.alloc ?_ (by first | omega | (simp; done) | (simp; omega)) _ | refine Below.setCell ?_ (by first | omega | (simp; done) | (simp; omega)) _ | refine Below.drew ?_))⟩
  · have d0 : decide (h < 0) = false := by simpa using h0
    rw [if_neg h0] at hs
    by_cases h1 : h = 0 ∧ l = 0
    · rw [if_pos h1] at hs
      subst hs
      rw [decide_eq_true h1] at hq
      obtain ⟨rfl, rfl⟩ := h1
      go_enter Try.func186, Try.ntmps186
      go_wp2
      go_ret
      exact ⟨rfl, by (repeat (first | exact Below.refl _ _ | refine Below.alloc ?_ (by first | omega | (simp; done) | (simp; omega)) _ | refine Below.setCell ?_ (by first | omega | (simp; done) | (simp; omega)) _ | refine Below.drew ?_))⟩
    · rw [if_neg h1] at hs
      subst hs
      rw [decide_eq_false h1] at hq
      by_cases h2 : h = 0
      · subst h2
        go_enter Try.func186, Try.ntmps186
        go_wp2
        go_ret
        exact ⟨rfl, by (repeat (first | exact Below.refl _ _ | refine Below.alloc ?_ (by first | omega | (simp; done) | (simp; omega)) _ | refine Below.setCell ?_ (by first | omega | (simp; done) | (simp; omega)) _ | refine Below.drew ?_))⟩
      · have d1 : (h == 0) = false := by simpa using h2
        go_enter Try.func186, Try.ntmps186
        go_wp2
        go_ret
        exact ⟨rfl, by (repeat (first | exact Below.refl _ _ | refine Below.alloc ?_ (by first | omega | (simp; done) | (simp; omega)) _ | refine Below.setCell ?_ (by first | omega | (simp; done) | (simp; omega)) _ | refine Below.drew ?_))⟩

set_option maxHeartbeats 1000000 in
theorem limbSign_any (z : Int) (w : World) :
    Calls Try.prog 161 #[encZ z] w fun e w' => e = .returned (.int .i64 (sgZ z)) ∧ Below w.heap.size w w' := by
  have k := fun W => limbCmp0_any z W
  have K := Lib.hid k
  clear k
  go_enter Try.func161, Try.ntmps161
  go_wp2_with fail
  refine (K.out _).mono ?_
  rintro e w1 ⟨rfl, hb⟩
  go_wp2
  go_ret
  exact ⟨rfl, below_up ((Below.refl w.heap.size w).alloc (Nat.le_refl _) _) hb⟩
end Go.Proofs.Ytojecaeblgghjaa

/-
  CONTRACTS AT WHOLE NUMBERS OF 128 BITS, of the document's answer: Of, Add, Neg, words, Mul, Prod, Sign.
-/
set_option linter.unusedVariables false
set_option linter.unusedSimpArgs false
namespace Go.Proofs.Ytojecaeblgghjaa
open Go.RowKit Go.Sort LsP

set_option maxHeartbeats 1000000 in
set_option maxRecDepth 100000 in
theorem refOf_any (n : Int) (h1 : -9223372036854775808 ≤ n) (h2 : n < 9223372036854775808) (w : World) :
    Calls Try.prog 212 #[.int .i64 n] w fun e w' => e = .returned (encR n) ∧ Below w.heap.size w w' := by
  have e2 : IntKind.u64.wrap n = loZ n := IntKind.wrap_u64 n
  by_cases h0 : n < 0
  · have e1 : hiR n = 18446744073709551615 := by unfold hiR; omega
    go_enter Try.func212, Try.ntmps212
    go_wp2
    exact bodyPost_ret (v := encR n) (by simp [results, Try.results212, go_sem, e1, e2]) rfl ⟨rfl, by (repeat (first | exact Below.refl _ _ | refine Below.alloc ?_ (by first | omega | (simp; done) | (simp; omega)) _ | refine Below.setCell ?_ (by first | omega | (simp; done) | (simp; omega)) _ | refine Below.drew ?_))⟩
  · have e1 : hiR n = 0 := by unfold hiR; omega
    go_enter Try.func212, Try.ntmps212
    go_wp2
    exact bodyPost_ret (v := encR n) (by simp [results, Try.results212, go_sem, e1, e2]) rfl ⟨rfl, by (repeat (first | exact Below.refl _ _ | refine Below.alloc ?_ (by first | omega | (simp; done) | (simp; omega)) _ | refine Below.setCell ?_ (by first | omega | (simp; done) | (simp; omega)) _ | refine Below.drew ?_))⟩

set_option maxHeartbeats 1000000 in
set_option maxRecDepth 100000 in
theorem refAdd_any (x y : Int) (w : World) :
    Calls Try.prog 193 #[encR x, encR y] w fun e w' => e = .returned (encR (x + y)) ∧ Below w.heap.size w w' := by
  have b1 := loZ_lt x
  have b2 := loZ_lt y
  have c1 := add_lo x y
  have c2 := add_hi x y
  have w1 : IntKind.u64.wrap (loZ x + loZ y) = loZ (x + y) := by rw [IntKind.wrap_u64, c1]
  by_cases h : loZ (x + y) < loZ x
  · have w2 : IntKind.u64.wrap (IntKind.u64.wrap (hiR x + hiR y) + 1) = hiR (x + y) := by
      simp only [IntKind.wrap_u64]
      omega
    rw [show encR x = .agg #[.int .u64 (hiR x), .int .u64 (loZ x)] from rfl, show encR y = .agg #[.int .u64 (hiR y), .int .u64 (loZ y)] from rfl, show encR (x + y) = .agg #[.int .u64 (hiR (x + y)), .int .u64 (loZ (x + y))] from rfl]
    clear b1 b2 c1 c2
    generalize hiR (x + y) = h3 at *
    generalize loZ (x + y) = l3 at *
    generalize hiR x = h1 at *
    generalize hiR y = h2 at *
    generalize loZ x = l1 at *
    generalize loZ y = l2 at *
    go_enter Try.func193, Try.ntmps193
    go_wp2
    exact bodyPost_ret (v := .agg #[.int .u64 h3, .int .u64 l3]) (by simp [results, Try.results193, go_sem, w1, w2]) rfl ⟨rfl, by (repeat (first | exact Below.refl _ _ | refine Below.alloc ?_ (by first | omega | (simp; done) | (simp; omega)) _ | refine Below.setCell ?_ (by first | omega | (simp; done) | (simp; omega)) _ | refine Below.drew ?_))⟩
  · have w2 : IntKind.u64.wrap (hiR x + hiR y) = hiR (x + y) := by
      simp only [IntKind.wrap_u64]
      omega
    rw [show encR x = .agg #[.int .u64 (hiR x), .int .u64 (loZ x)] from rfl, show encR y = .agg #[.int .u64 (hiR y), .int .u64 (loZ y)] from rfl, show encR (x + y) = .agg #[.int .u64 (hiR (x + y)), .int .u64 (loZ (x + y))] from rfl]
    clear b1 b2 c1 c2
    generalize hiR (x + y) = h3 at *
    generalize loZ (x + y) = l3 at *
    generalize hiR x = h1 at *
    generalize hiR y = h2 at *
    generalize loZ x = l1 at *
    generalize loZ y = l2 at *
    go_enter Try.func193, Try.ntmps193
    go_wp2
    exact bodyPost_ret (v := .agg #[.int .u64 h3, .int .u64 l3]) (by simp [results, Try.results193, go_sem, w1, w2]) rfl ⟨rfl, by (repeat (first | exact Below.refl _ _ | refine Below.alloc ?_ (by first | omega | (simp; done) | (simp; omega)) _ | refine Below.setCell ?_ (by first | omega | (simp; done) | (simp; omega)) _ | refine Below.drew ?_))⟩

theorem u64_not (a : Int) (h0 : 0 ≤ a) (ha : a < 18446744073709551616) : bits .xor .u64 IntKind.u64.max a = 18446744073709551615 - a := by
  obtain ⟨n, rfl⟩ := Int.eq_ofNat_of_zero_le h0
  show IntKind.u64.wrap ((BitVec.ofInt 64 (18446744073709551615 : Int) ^^^ BitVec.ofInt 64 (n : Int)).toNat : Int) = _
  have h1 : BitVec.ofInt 64 (18446744073709551615 : Int) = BitVec.allOnes 64 := by decide
  have h2 : (BitVec.ofInt 64 (n : Int)).toNat = n := by
    rw [BitVec.ofInt_natCast, BitVec.toNat_ofNat]; exact Nat.mod_eq_of_lt (by omega)
  rw [h1, BitVec.allOnes_xor, BitVec.toNat_not, h2, IntKind.wrap_u64]
  omega

theorem not_lo (x : Int) : bits .xor .u64 IntKind.u64.max (loZ x) = loZ (-x - 1) := by rw [u64_not _ (loZ_lt x).1 (loZ_lt x).2]; unfold loZ; omega
theorem not_hi (x : Int) : bits .xor .u64 IntKind.u64.max (hiR x) = hiR (-x - 1) := by rw [u64_not _ (hiR_lt x).1 (hiR_lt x).2]; unfold hiR; omega

set_option maxHeartbeats 1000000 in
set_option maxRecDepth 100000 in
theorem refNeg_any (x : Int) (w : World) :
    Calls Try.prog 192 #[encR x] w fun e w' => e = .returned (encR (-x)) ∧ Below w.heap.size w w' := by
  have k := fun W => refAdd_any (-x - 1) 1 W
  rw [show encR 1 = .agg #[.int .u64 0, .int .u64 1] from rfl, show -x - 1 + 1 = -x by omega, show encR (-x - 1) = .agg #[.int .u64 (hiR (-x - 1)), .int .u64 (loZ (-x - 1))] from rfl] at k
  have e1 := not_lo x
  have e2 := not_hi x
  generalize hiR (-x - 1) = nh at *
  generalize loZ (-x - 1) = nl at *
  have K := Lib.hid k
  clear k
  go_enter Try.func192, Try.ntmps192
  go_wp2_with fail
  refine (K.out _).mono ?_
  rintro e w1 ⟨rfl, hb⟩
  have hx : w1.heap[w.heap.size + 1]? = some (.cells #[.int .u64 0, .int .u64 0] 175 (0, 0)) := (hb.block _ (by simp)).trans (new1 _ _ _)
  obtain ⟨c0, c1, f0, f1⟩ := row2 hx
  have sz := hb.size
  simp only [World.size_alloc] at sz
  have HB := Lib.hid hb
  clear hb hx
  go_wp2
  exact bodyPost_ret (v := encR (-x)) (by simp [results, Try.results192, go_sem, c0, c1]) rfl ⟨rfl, ((below_up (((Below.refl w.heap.size w).alloc (Nat.le_refl _) _).alloc (by simp) _) HB.out).setCell (by simp) _).setCell (by simp) _⟩

theorem words_split (a b : Int) : a * b = a % 4294967296 * (b % 4294967296) + 4294967296 * (a / 4294967296 * (b % 4294967296) + a % 4294967296 * (b / 4294967296)) + 18446744073709551616 * (a / 4294967296 * (b / 4294967296)) := by
  have hx : a = 4294967296 * (a / 4294967296) + a % 4294967296 := by omega
  have hy : b = 4294967296 * (b / 4294967296) + b % 4294967296 := by omega
  generalize a / 4294967296 = a1 at *
  generalize b / 4294967296 = b1 at *
  generalize a % 4294967296 = a0 at *
  generalize b % 4294967296 = b0 at *
  subst hx hy
  grind

theorem half_mul (a b : Int) (ha : 0 ≤ a ∧ a < 4294967296) (hb : 0 ≤ b ∧ b < 4294967296) : 0 ≤ a * b ∧ a * b ≤ 18446744065119617025 := by
  refine ⟨Int.mul_nonneg ha.1 hb.1, ?_⟩
  have h1 : a * b ≤ 4294967295 * b := Int.mul_le_mul_of_nonneg_right (by omega) hb.1
  omega

set_option maxHeartbeats 1000000 in
set_option maxRecDepth 100000 in
theorem words_any (a b : Int) (ha : 0 ≤ a ∧ a < 18446744073709551616) (hb : 0 ≤ b ∧ b < 18446744073709551616) (w : World) :
    Calls Try.prog 213 #[.int .u64 a, .int .u64 b] w fun e w' => e = .returned (encR (a * b)) ∧ Below w.heap.size w w' := by
  have hs := words_split a b
  have a0 : 0 ≤ a % 4294967296 ∧ a % 4294967296 < 4294967296 := by omega
  have b0 : 0 ≤ b % 4294967296 ∧ b % 4294967296 < 4294967296 := by omega
  have a1 : 0 ≤ a / 4294967296 ∧ a / 4294967296 < 4294967296 := by omega
  have b1 : 0 ≤ b / 4294967296 ∧ b / 4294967296 < 4294967296 := by omega
  have hx := half_mul _ _ a0 b0
  have hy := half_mul _ _ a1 b0
  have hz := half_mul _ _ a0 b1
  have ht := half_mul _ _ a1 b1
  have wx : IntKind.u64.wrap (a % 4294967296 * (b % 4294967296)) = a % 4294967296 * (b % 4294967296) := by rw [IntKind.wrap_u64]; omega
  have wy : IntKind.u64.wrap (a / 4294967296 * (b % 4294967296)) = a / 4294967296 * (b % 4294967296) := by rw [IntKind.wrap_u64]; omega
  have wz : IntKind.u64.wrap (a % 4294967296 * (b / 4294967296)) = a % 4294967296 * (b / 4294967296) := by rw [IntKind.wrap_u64]; omega
  have wt : IntKind.u64.wrap (a / 4294967296 * (b / 4294967296)) = a / 4294967296 * (b / 4294967296) := by rw [IntKind.wrap_u64]; omega
  have f1 : hiR (a * b) = a * b / 18446744073709551616 % 18446744073709551616 := rfl
  have f2 : loZ (a * b) = a * b % 18446744073709551616 := rfl
  rw [show encR (a * b) = .agg #[.int .u64 (hiR (a * b)), .int .u64 (loZ (a * b))] from rfl]
  generalize hiR (a * b) = rh at *
  generalize loZ (a * b) = rl at *
  generalize a * b = p at *
  generalize hX : a % 4294967296 * (b % 4294967296) = x at *
  generalize hY : a / 4294967296 * (b % 4294967296) = y at *
  generalize hZ : a % 4294967296 * (b / 4294967296) = z at *
  generalize hT : a / 4294967296 * (b / 4294967296) = t at *
  have d1 : IntKind.u64.wrap (x.tdiv 4294967296) = x / 4294967296 := by rw [Int.tdiv_eq_ediv_of_nonneg hx.1, IntKind.wrap_u64]; omega
  have d2 : IntKind.u64.wrap (y.tdiv 4294967296) = y / 4294967296 := by rw [Int.tdiv_eq_ediv_of_nonneg hy.1, IntKind.wrap_u64]; omega
  have d3 : IntKind.u64.wrap (z.tdiv 4294967296) = z / 4294967296 := by rw [Int.tdiv_eq_ediv_of_nonneg hz.1, IntKind.wrap_u64]; omega
  have m1 : x.tmod 4294967296 = x % 4294967296 := Int.tmod_eq_emod_of_nonneg hx.1
  have m2 : y.tmod 4294967296 = y % 4294967296 := Int.tmod_eq_emod_of_nonneg hy.1
  have m3 : z.tmod 4294967296 = z % 4294967296 := Int.tmod_eq_emod_of_nonneg hz.1
  have s1 : IntKind.u64.wrap (x / 4294967296 + y % 4294967296) = x / 4294967296 + y % 4294967296 := by rw [IntKind.wrap_u64]; omega
  obtain ⟨m, hm⟩ : ∃ m, m = x / 4294967296 + y % 4294967296 + z % 4294967296 := ⟨_, rfl⟩
  have s2 : IntKind.u64.wrap (x / 4294967296 + y % 4294967296 + z % 4294967296) = m := by rw [IntKind.wrap_u64]; omega
  have hm0 : 0 ≤ m := by omega
  have d4 : IntKind.u64.wrap (m.tdiv 4294967296) = m / 4294967296 := by rw [Int.tdiv_eq_ediv_of_nonneg hm0, IntKind.wrap_u64]; omega
  have m4 : m.tmod 4294967296 = m % 4294967296 := Int.tmod_eq_emod_of_nonneg hm0
  have w1 : IntKind.u64.wrap (IntKind.u64.wrap (IntKind.u64.wrap (t + y / 4294967296) + z / 4294967296) + m / 4294967296) = rh := by
    simp only [IntKind.wrap_u64]; omega
  have w2 : IntKind.u64.wrap (IntKind.u64.wrap (m % 4294967296 * 4294967296) + x % 4294967296) = rl := by
    simp only [IntKind.wrap_u64]; omega
  have w3 : m % 4294967296 * 4294967296 + x % 4294967296 = rl := by omega
  clear hs hx hy hz ht f1 f2 a0 b0 a1 b1 hm hm0
  go_enter Try.func213, Try.ntmps213
  go_wp2
  exact bodyPost_ret (v := .agg #[.int .u64 rh, .int .u64 rl]) (by simp [results, Try.results213, go_sem, *]) rfl ⟨rfl, by (repeat (first | exact Below.refl _ _ | refine Below.alloc ?_ (by first | omega | (simp; done) | (simp; omega)) _ | refine Below.setCell ?_ (by first | omega | (simp; done) | (simp; omega)) _ | refine Below.drew ?_))⟩

theorem mulR_wraps (x y : Int) : IntKind.u64.wrap (IntKind.u64.wrap (hiR (loZ x * loZ y) + IntKind.u64.wrap (hiR x * loZ y)) + IntKind.u64.wrap (loZ x * hiR y)) = hiR (x * y) := by
  have := mul_hi x y
  have e : hiR (loZ x * loZ y) = loZ x * loZ y / 18446744073709551616 % 18446744073709551616 := rfl
  rw [e]
  simp only [IntKind.wrap_u64]
  generalize hiR x * loZ y = a at *
  generalize loZ x * hiR y = b at *
  generalize loZ x * loZ y / 18446744073709551616 = c at *
  omega

theorem mulR_lo (x y : Int) : loZ (loZ x * loZ y) = loZ (x * y) := mul_lo x y

set_option maxHeartbeats 2000000 in
set_option maxRecDepth 100000 in
theorem refMul_any (x y : Int) (w : World) :
    Calls Try.prog 211 #[encR x, encR y] w fun e w' => e = .returned (encR (x * y)) ∧ Below w.heap.size w w' := by
  have k := fun W => words_any (loZ x) (loZ y) (loZ_lt x) (loZ_lt y) W
  have w4 := mulR_wraps x y
  have w5 := mulR_lo x y
  rw [show encR (loZ x * loZ y) = .agg #[.int .u64 (hiR (loZ x * loZ y)), .int .u64 (loZ (loZ x * loZ y))] from rfl, w5] at k
  rw [show encR x = .agg #[.int .u64 (hiR x), .int .u64 (loZ x)] from rfl, show encR y = .agg #[.int .u64 (hiR y), .int .u64 (loZ y)] from rfl, show encR (x * y) = .agg #[.int .u64 (hiR (x * y)), .int .u64 (loZ (x * y))] from rfl]
  clear w5
  generalize hiR (loZ x * loZ y) = c at *
  generalize hiR (x * y) = ph at *
  generalize loZ (x * y) = pl at *
  generalize hiR x = h1 at *
  generalize hiR y = h2 at *
  generalize loZ x = l1 at *
  generalize loZ y = l2 at *
  have K := Lib.hid k
  clear k
  have n2 : (((w.alloc (.cells #[.int .u64 h1, .int .u64 l1] 175)).alloc (.cells #[.int .u64 h2, .int .u64 l2] 175)).alloc (.cells #[.int .u64 0, .int .u64 0] 175)).heap[w.heap.size]? = some (.cells #[.int .u64 h1, .int .u64 l1] 175 (0, 0)) := by
    rw [Below.heap_alloc _ _ _ (by simp; omega), Below.heap_alloc _ _ _ (by simp), heap_alloc_new]
  have n3 : (((w.alloc (.cells #[.int .u64 h1, .int .u64 l1] 175)).alloc (.cells #[.int .u64 h2, .int .u64 l2] 175)).alloc (.cells #[.int .u64 0, .int .u64 0] 175)).heap[w.heap.size + 1]? = some (.cells #[.int .u64 h2, .int .u64 l2] 175 (0, 0)) := by
    rw [Below.heap_alloc _ _ _ (by simp), new1]
  have n4 : (((w.alloc (.cells #[.int .u64 h1, .int .u64 l1] 175)).alloc (.cells #[.int .u64 h2, .int .u64 l2] 175)).alloc (.cells #[.int .u64 0, .int .u64 0] 175)).heap[w.heap.size + 1 + 1]? = some (.cells #[.int .u64 0, .int .u64 0] 175 (0, 0)) := by
    have := heap_alloc_new ((w.alloc (.cells #[.int .u64 h1, .int .u64 l1] 175)).alloc (.cells #[.int .u64 h2, .int .u64 l2] 175)) (.cells #[.int .u64 0, .int .u64 0] 175)
    simpa using this
  have bb := (((Below.refl w.heap.size w).alloc (Nat.le_refl _) (.cells #[.int .u64 h1, .int .u64 l1] 175)).alloc (by simp) (.cells #[.int .u64 h2, .int .u64 l2] 175)).alloc (by simp; omega) (.cells #[.int .u64 0, .int .u64 0] 175)
  have N := Lib.hid (And.intro n2 (And.intro n3 (And.intro n4 bb)))
  clear n2 n3 n4 bb
  go_enter Try.func211, Try.ntmps211
  go_wp2_with fail
  refine (K.out _).mono ?_
  rintro e w1 ⟨rfl, hb⟩
  have lt : ∀ {W : World} {b : Nat} {x : Obj}, W.heap[b]? = some x → b < W.heap.size := fun h => (Array.getElem?_eq_some_iff.1 h).1
  have m2 := (hb.block _ (lt N.out.1)).trans N.out.1
  have m3 := (hb.block _ (lt N.out.2.1)).trans N.out.2.1
  have m4 := (hb.block _ (lt N.out.2.2.1)).trans N.out.2.2.1
  have b1 := below_up N.out.2.2.2 hb
  have a2 := fun o => (Below.heap_alloc w1 o _ (lt m2)).trans m2
  have a3 := fun o => (Below.heap_alloc w1 o _ (lt m3)).trans m3
  have a4 := fun o => (Below.heap_alloc w1 o _ (lt m4)).trans m4
  have b2 := fun o => b1.alloc b1.size o
  have p0 := fun o => (row2 (a2 o)).1
  have p1 := fun o => (row2 (a2 o)).2.1
  have q0 := fun o => (row2 (a3 o)).1
  have q1 := fun o => (row2 (a3 o)).2.1
  have r0 := fun o => (row2 (a4 o)).1
  have r1 := fun o => (row2 (a4 o)).2.1
  have s0 := fun o => (row2 (a4 o)).2.2.1
  have s1 := fun o => (row2 (a4 o)).2.2.2
  have hs : w.heap.size + 3 ≤ w1.heap.size := by have := lt m4; omega
  have B := Lib.hid b2
  clear lt m2 m3 m4 b1 a2 a3 a4 b2 hb N
  go_wp2
  exact bodyPost_ret (v := .agg #[.int .u64 ph, .int .u64 pl]) (by simp [results, Try.results211, go_sem, r0, r1]) rfl ⟨rfl, ((B.out _).setCell (by simp; omega) _).setCell (by simp; omega) _⟩
end Go.Proofs.Ytojecaeblgghjaa

/-
  CONTRACTS AT WHOLE NUMBERS OF 128 BITS, of the document's answer: Prod, Sign; of the program: orient.minor, orient.row.
-/
set_option linter.unusedVariables false
set_option linter.unusedSimpArgs false
namespace Go.Proofs.Ytojecaeblgghjaa
open Go.RowKit Go.Sort LsP

abbrev InI (x : Int) : Prop := -9223372036854775808 ≤ x ∧ x < 9223372036854775808

set_option maxHeartbeats 1000000 in
set_option maxRecDepth 100000 in
theorem refProd_any (x y : Int) (hx : InI x) (hy : InI y) (w : World) :
    Calls Try.prog 206 #[.int .i64 x, .int .i64 y] w fun e w' => e = .returned (encR (x * y)) ∧ Below w.heap.size w w' := by
  have k1 := fun W => refOf_any x hx.1 hx.2 W
  have k2 := fun W => refOf_any y hy.1 hy.2 W
  have k3 := fun W => refMul_any x y W
  have K1 := Lib.hid k1; have K2 := Lib.hid k2; have K3 := Lib.hid k3
  clear k1 k2 k3
  go_enter Try.func206, Try.ntmps206
  go_wp2_with fail
  refine (K1.out _).mono ?_
  rintro e w1 ⟨rfl, hb1⟩
  have r1 : w1.heap[w.heap.size]? = some (.cells #[.int .u64 0, .int .u64 0] 175 (0, 0)) := (hb1.block _ (by simp)).trans (heap_alloc_new _ _)
  have b1 := below_up ((Below.refl w.heap.size w).alloc (Nat.le_refl _) _) hb1
  have H1 := Lib.hid (And.intro r1 b1)
  clear hb1 r1 b1
  go_wp2_with fail
  refine (K2.out _).mono ?_
  rintro e w2 ⟨rfl, hb2⟩
  have r2 := (hb2.block _ (Array.getElem?_eq_some_iff.1 H1.out.1).1).trans H1.out.1
  have b2 := below_up H1.out.2 hb2
  have H2 := Lib.hid (And.intro r2 b2)
  clear hb2 r2 b2
  go_wp2_with fail
  refine (K3.out _).mono ?_
  rintro e w3 ⟨rfl, hb3⟩
  have r3 := (hb3.block _ (Array.getElem?_eq_some_iff.1 H2.out.1).1).trans H2.out.1
  have b3 := below_up H2.out.2 hb3
  obtain ⟨c0, c1, f0, f1⟩ := row2 r3
  have B := Lib.hid b3
  clear hb3 r3 b3
  go_wp2
  exact bodyPost_ret (v := encR (x * y)) (by simp [results, Try.results206, go_sem, c0, c1]) rfl ⟨rfl, (B.out.setCell (by simp) _).setCell (by simp) _⟩

theorem sgZ_R (z : Int) : sgZ z = if hiR z / 9223372036854775808 = 1 then -1 else if hiR z = 0 ∧ loZ z = 0 then 0 else 1 := by
  unfold sgZ
  have h1 : hiZ z < 0 ↔ hiR z / 9223372036854775808 = 1 := by unfold hiZ hiR; omega
  have h2 : hiZ z = 0 ↔ hiR z = 0 := by unfold hiZ hiR; omega
  simp only [h1, h2]

set_option maxHeartbeats 1000000 in
set_option maxRecDepth 100000 in
theorem refSign_any (z : Int) (w : World) :
    Calls Try.prog 166 #[encR z] w fun e w' => e = .returned (.int .i64 (sgZ z)) ∧ Below w.heap.size w w' := by
  have hs := sgZ_R z
  have hb := hiR_lt z
  rw [show encR z = .agg #[.int .u64 (hiR z), .int .u64 (loZ z)] from rfl]
  generalize sgZ z = s at *
  generalize hiR z = h at *
  generalize loZ z = l at *
  by_cases h0 : h / 9223372036854775808 = 1
  · rw [if_pos h0] at hs
    subst hs
    have d0 : (h / 9223372036854775808 == 1) = true := by simpa using h0
    go_enter Try.func166, Try.ntmps166
    go_wp2
    go_ret
    exact ⟨rfl, by (repeat (first | exact Below.refl _ _ | refine Below.alloc ?_ (by first | omega | (simp; done) | (simp; omega)) _ | refine Below.setCell ?_ (by first | omega | (simp; done) | (simp; omega)) _ | refine Below.drew ?_))⟩
  · have d0 : (h / 9223372036854775808 == 1) = false := by simpa using h0
    rw [if_neg h0] at hs
    by_cases h1 : h = 0
    · by_cases h2 : l = 0
      · rw [if_pos ⟨h1, h2⟩] at hs
        subst hs h1 h2
        go_enter Try.func166, Try.ntmps166
        go_wp2
        go_ret
        exact ⟨rfl, by (repeat (first | exact Below.refl _ _ | refine Below.alloc ?_ (by first | omega | (simp; done) | (simp; omega)) _ | refine Below.setCell ?_ (by first | omega | (simp; done) | (simp; omega)) _ | refine Below.drew ?_))⟩
      · rw [if_neg (fun h => h2 h.2)] at hs
        subst hs h1
        have d2 : (l == 0) = false := by simpa using h2
        go_enter Try.func166, Try.ntmps166
        go_wp2
        go_ret
        exact ⟨rfl, by (repeat (first | exact Below.refl _ _ | refine Below.alloc ?_ (by first | omega | (simp; done) | (simp; omega)) _ | refine Below.setCell ?_ (by first | omega | (simp; done) | (simp; omega)) _ | refine Below.drew ?_))⟩
    · rw [if_neg (fun h => h1 h.1)] at hs
      subst hs
      have d1 : (h == 0) = false := by simpa using h1
      go_enter Try.func166, Try.ntmps166
      go_wp2
      go_ret
      exact ⟨rfl, by (repeat (first | exact Below.refl _ _ | refine Below.alloc ?_ (by first | omega | (simp; done) | (simp; omega)) _ | refine Below.setCell ?_ (by first | omega | (simp; done) | (simp; omega)) _ | refine Below.drew ?_))⟩

set_option maxHeartbeats 1000000 in
set_option maxRecDepth 100000 in
theorem minor_any (a b c d : Int) (ha : InI a) (hb : InI b) (hc : InI c) (hd : InI d) (w : World) :
    Calls Try.prog 203 #[.int .i64 a, .int .i64 b, .int .i64 c, .int .i64 d] w fun e w' => e = .returned (encZ (a * d - b * c)) ∧ Below w.heap.size w w' := by
  have k1 := fun W => limbProd_any a d ha hd W
  have k2 := fun W => limbProd_any b c hb hc W
  have k3 := fun W => limbSub_any (a * d) (b * c) W
  have K1 := Lib.hid k1; have K2 := Lib.hid k2; have K3 := Lib.hid k3
  clear k1 k2 k3
  generalize a * d = p at *
  generalize b * c = q at *
  go_enter Try.func203, Try.ntmps203
  go_wp2_with fail
  refine (K1.out _).mono ?_
  rintro e w1 ⟨rfl, hb1⟩
  have r1 : w1.heap[w.heap.size]? = some (.cells #[.int .i64 0, .int .u64 0] 164 (0, 0)) := (hb1.block _ (by simp)).trans (heap_alloc_new _ _)
  have b1 := below_up ((Below.refl w.heap.size w).alloc (Nat.le_refl _) _) hb1
  have H1 := Lib.hid (And.intro r1 b1)
  clear hb1 r1 b1
  go_wp2_with fail
  refine (K2.out _).mono ?_
  rintro e w2 ⟨rfl, hb2⟩
  have r2 := (hb2.block _ (Array.getElem?_eq_some_iff.1 H1.out.1).1).trans H1.out.1
  have b2 := below_up H1.out.2 hb2
  have H2 := Lib.hid (And.intro r2 b2)
  clear hb2 r2 b2
  go_wp2_with fail
  refine (K3.out _).mono ?_
  rintro e w3 ⟨rfl, hb3⟩
  have r3 := (hb3.block _ (Array.getElem?_eq_some_iff.1 H2.out.1).1).trans H2.out.1
  have b3 := below_up H2.out.2 hb3
  obtain ⟨c0, c1, f0, f1⟩ := row2 r3
  have B := Lib.hid b3
  clear hb3 r3 b3
  go_wp2
  exact bodyPost_ret (v := encZ (p - q)) (by simp [results, Try.results203, go_sem, c0, c1]) rfl ⟨rfl, (B.out.setCell (by simp) _).setCell (by simp) _⟩

set_option maxHeartbeats 1000000 in
set_option maxRecDepth 100000 in
theorem ptRow_any (a b c : Int) (w : World) :
    Calls Try.prog 188 #[.agg #[.int .i64 a, .int .i64 b, .int .i64 c]] w fun e w' => e = .returned (.agg #[.int .i64 a, .int .i64 b, .int .i64 c]) ∧ Below w.heap.size w w' := by
  go_enter Try.func188, Try.ntmps188
  go_wp2
  exact bodyPost_ret (v := .agg #[.int .i64 a, .int .i64 b, .int .i64 c]) (by simp [results, Try.results188, go_sem]) rfl ⟨rfl, by (repeat (first | exact Below.refl _ _ | refine Below.alloc ?_ (by first | omega | (simp; done) | (simp; omega)) _ | refine Below.setCell ?_ (by first | omega | (simp; done) | (simp; omega)) _ | refine Below.drew ?_))⟩

set_option maxHeartbeats 1000000 in
set_option maxRecDepth 100000 in
theorem refRow_any (a b c : Int) (w : World) :
    Calls Try.prog 164 #[.agg #[.int .i64 a, .int .i64 b, .int .i64 c]] w fun e w' => e = .returned (.agg #[.int .i64 a, .int .i64 b, .int .i64 c, .int .i64 1]) ∧ Below w.heap.size w w' := by
  go_enter Try.func164, Try.ntmps164
  go_wp2
  exact bodyPost_ret (v := .agg #[.int .i64 a, .int .i64 b, .int .i64 c, .int .i64 1]) (by simp [results, Try.results164, go_sem]) rfl ⟨rfl, by (repeat (first | exact Below.refl _ _ | refine Below.alloc ?_ (by first | omega | (simp; done) | (simp; omega)) _ | refine Below.setCell ?_ (by first | omega | (simp; done) | (simp; omega)) _ | refine Below.drew ?_))⟩
end Go.Proofs.Ytojecaeblgghjaa
