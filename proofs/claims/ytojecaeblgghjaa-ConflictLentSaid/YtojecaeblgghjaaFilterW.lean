/-
  orient.filter, walked. (Printed by mkfilterw.py.)
-/
import Derived.Test.YtojecaeblgghjaaMemG
import Derived.Test.YtojecaeblgghjaaAxesG
import Derived.Test.YtojecaeblgghjaaFiltG
set_option linter.unusedVariables false
set_option linter.unusedSimpArgs false
namespace Go.Proofs.Ytojecaeblgghjaa
open Go.RowKit Go.Sort LsP Flt

theorem fl_mul {x y r : Nat} (h : Ieee.double.mul x y = some r) : ∀ W : World, (binOp .mul 190 (.float .f64 x) (.float .f64 y)).run Try.prog W = .ok (.float .f64 r) W := fun W => run_float_arith W .mul _ .f64 x y r h
theorem fl_add {x y r : Nat} (h : Ieee.double.add x y = some r) : ∀ W : World, (binOp .add 190 (.float .f64 x) (.float .f64 y)).run Try.prog W = .ok (.float .f64 r) W := fun W => run_float_arith W .add _ .f64 x y r h
theorem fl_sub {x y r : Nat} (h : Ieee.double.sub x y = some r) : ∀ W : World, (binOp .sub 190 (.float .f64 x) (.float .f64 y)).run Try.prog W = .ok (.float .f64 r) W := fun W => run_float_arith W .sub _ .f64 x y r h
theorem fl_neg (x : Nat) : ∀ W : World, (Op.unary .neg (.float .f64 x)).run Try.prog W = .ok (.float .f64 (x ^^^ 2 ^ 63)) W := fun _ => rfl
theorem fl_gtr (x y : Nat) : ∀ W : World, (binOp .gtr 190 (.float .f64 x) (.float .f64 y)).run Try.prog W = .ok (.bool (Ieee.double.order x y == some .gt)) W := fun W => by
  simp [binOp, Op.floatCmp, FloatKind.format]
theorem fl_lss (x y : Nat) : ∀ W : World, (binOp .lss 190 (.float .f64 x) (.float .f64 y)).run Try.prog W = .ok (.bool (Ieee.double.order x y == some .lt)) W := fun W => by
  simp [binOp, Op.floatCmp, FloatKind.format]

theorem andNot_top {x : Nat} (h : x < 2 ^ 64) : bits BinOp.andNot IntKind.u64 (x : Int) 9223372036854775808 = ((x % 2 ^ 63 : Nat) : Int) := by
  show IntKind.u64.wrap ((BitVec.ofInt 64 (x : Int) &&& ~~~ BitVec.ofInt 64 9223372036854775808).toNat : Int) = _
  have h1 : (BitVec.ofInt 64 (x : Int)).toNat = x := by
    rw [BitVec.ofInt_natCast, BitVec.toNat_ofNat]; exact Nat.mod_eq_of_lt h
  have h2 : (~~~ BitVec.ofInt 64 (9223372036854775808 : Int)).toNat = 2 ^ 63 - 1 := by decide
  rw [BitVec.toNat_and, h1, h2, Nat.and_two_pow_sub_one_eq_mod, IntKind.wrap_u64]
  omega

theorem filt_start (w : World) (a b c : Obj) : Mem w [(w.heap.size, a), (w.heap.size + 1, b), (w.heap.size + 1 + 1, c)] (((w.alloc a).alloc b).alloc c) := by
  have h := ((((Mem.nil w).add a).add b).add c)
  simp only [World.size_alloc] at h
  exact h.sub (fun p hp => by simp at hp ⊢; rcases hp with h | h | h <;> simp [h])

set_option maxHeartbeats 8000000 in
set_option maxRecDepth 100000 in
theorem filter_any (a0 a1 a2 b0 b1 b2 c0 c1 c2 : Int) (ha0 : Big a0) (ha1 : Big a1) (ha2 : Big a2) (hb0 : Big b0) (hb1 : Big b1) (hb2 : Big b2) (hc0 : Big c0) (hc1 : Big c1) (hc2 : Big c2) (w : World) :
    Calls Try.prog 159 #[.agg #[.int .i64 a0, .int .i64 a1, .int .i64 a2], .agg #[.int .i64 b0, .int .i64 b1, .int .i64 b2], .agg #[.int .i64 c0, .int .i64 c1, .int .i64 c2]] w fun e w' => e = .returned (.int .i64 (filt a0 a1 a2 b0 b1 b2 c0 c1 c2)) ∧ Below w.heap.size w w' := by
  obtain ⟨⟨⟨o11, o12, o13, o14, o15, o16, lU1, lV1⟩, ⟨o21, o22, o23, o24, o25, o26, lU2, lV2⟩, ⟨o31, o32, o33, o34, o35, o36, lU3, lV3⟩, o41, o42, o43, o44, o45⟩, _, _⟩ := filt_right a0 a1 a2 b0 b1 b2 c0 c1 c2 ha0 ha1 ha2 hb0 hb1 hb2 hc0 hc1 hc2
  unfold filt
  have MB := Lib.hid (filt_start w (o3 a0 a1 a2 109) (o3 b0 b1 b2 109) (o3 c0 c1 c2 109))
  generalize sW a0 a1 a2 b0 b1 b2 c0 c1 c2 = S at *
  generalize eW a0 a1 a2 b0 b1 b2 c0 c1 c2 = E at *
  generalize tW a0 b1 c2 b2 c1 = T1 at *
  generalize mW a0 b1 c2 b2 c1 = M1 at *
  generalize tW a1 b2 c0 b0 c2 = T2 at *
  generalize mW a1 b2 c0 b0 c2 = M2 at *
  generalize tW a2 b0 c1 b1 c0 = T3 at *
  generalize mW a2 b0 c1 b1 c0 = M3 at *
  have cA0 : ∀ W : World, (convert 3 190 (.int .i64 a0)).run Try.prog W = .ok (.float .f64 (fN a0)) W := fun W => run_convert_int_float W _ _ _ _ _ (by kernel_rfl) (by kernel_rfl)
  have lA0 := (big_wh ha0).lt
  generalize fN a0 = A0 at *
  have cA1 : ∀ W : World, (convert 3 190 (.int .i64 a1)).run Try.prog W = .ok (.float .f64 (fN a1)) W := fun W => run_convert_int_float W _ _ _ _ _ (by kernel_rfl) (by kernel_rfl)
  have lA1 := (big_wh ha1).lt
  generalize fN a1 = A1 at *
  have cA2 : ∀ W : World, (convert 3 190 (.int .i64 a2)).run Try.prog W = .ok (.float .f64 (fN a2)) W := fun W => run_convert_int_float W _ _ _ _ _ (by kernel_rfl) (by kernel_rfl)
  have lA2 := (big_wh ha2).lt
  generalize fN a2 = A2 at *
  have cB0 : ∀ W : World, (convert 3 190 (.int .i64 b0)).run Try.prog W = .ok (.float .f64 (fN b0)) W := fun W => run_convert_int_float W _ _ _ _ _ (by kernel_rfl) (by kernel_rfl)
  have lB0 := (big_wh hb0).lt
  generalize fN b0 = B0 at *
  have cB1 : ∀ W : World, (convert 3 190 (.int .i64 b1)).run Try.prog W = .ok (.float .f64 (fN b1)) W := fun W => run_convert_int_float W _ _ _ _ _ (by kernel_rfl) (by kernel_rfl)
  have lB1 := (big_wh hb1).lt
  generalize fN b1 = B1 at *
  have cB2 : ∀ W : World, (convert 3 190 (.int .i64 b2)).run Try.prog W = .ok (.float .f64 (fN b2)) W := fun W => run_convert_int_float W _ _ _ _ _ (by kernel_rfl) (by kernel_rfl)
  have lB2 := (big_wh hb2).lt
  generalize fN b2 = B2 at *
  have cC0 : ∀ W : World, (convert 3 190 (.int .i64 c0)).run Try.prog W = .ok (.float .f64 (fN c0)) W := fun W => run_convert_int_float W _ _ _ _ _ (by kernel_rfl) (by kernel_rfl)
  have lC0 := (big_wh hc0).lt
  generalize fN c0 = C0 at *
  have cC1 : ∀ W : World, (convert 3 190 (.int .i64 c1)).run Try.prog W = .ok (.float .f64 (fN c1)) W := fun W => run_convert_int_float W _ _ _ _ _ (by kernel_rfl) (by kernel_rfl)
  have lC1 := (big_wh hc1).lt
  generalize fN c1 = C1 at *
  have cC2 : ∀ W : World, (convert 3 190 (.int .i64 c2)).run Try.prog W = .ok (.float .f64 (fN c2)) W := fun W => run_convert_int_float W _ _ _ _ _ (by kernel_rfl) (by kernel_rfl)
  have lC2 := (big_wh hc2).lt
  generalize fN c2 = C2 at *
  generalize fm B1 C2 = U1 at *
  generalize fm B2 C1 = V1 at *
  generalize fs U1 V1 = D1 at *
  generalize fm B2 C0 = U2 at *
  generalize fm B0 C2 = V2 at *
  generalize fs U2 V2 = D2 at *
  generalize fm B0 C1 = U3 at *
  generalize fm B1 C0 = V3 at *
  generalize fs U3 V3 = D3 at *
  generalize fa T1 T2 = S1 at *
  have k1 := fun W => conv_any a0 a1 a2 _ _ _ cA0 cA1 cA2 W
  have k2 := fun W => conv_any b0 b1 b2 _ _ _ cB0 cB1 cB2 W
  have k3 := fun W => conv_any c0 c1 c2 _ _ _ cC0 cC1 cC2 W
  have K1 := Lib.hid k1
  have K2 := Lib.hid k2
  have K3 := Lib.hid k3
  clear k1 k2 k3 cA0 cA1 cA2 cB0 cB1 cB2 cC0 cC1 cC2
  have aA0 := fun W => abs_any A0 (A0 % 2 ^ 63) (andNot_top lA0) W
  generalize A0 % 2 ^ 63 = NA0 at *
  replace aA0 := Lib.hid aA0
  have aA1 := fun W => abs_any A1 (A1 % 2 ^ 63) (andNot_top lA1) W
  generalize A1 % 2 ^ 63 = NA1 at *
  replace aA1 := Lib.hid aA1
  have aA2 := fun W => abs_any A2 (A2 % 2 ^ 63) (andNot_top lA2) W
  generalize A2 % 2 ^ 63 = NA2 at *
  replace aA2 := Lib.hid aA2
  have aU1 := fun W => abs_any U1 (U1 % 2 ^ 63) (andNot_top lU1) W
  generalize U1 % 2 ^ 63 = NU1 at *
  replace aU1 := Lib.hid aU1
  have aV1 := fun W => abs_any V1 (V1 % 2 ^ 63) (andNot_top lV1) W
  generalize V1 % 2 ^ 63 = NV1 at *
  replace aV1 := Lib.hid aV1
  have aU2 := fun W => abs_any U2 (U2 % 2 ^ 63) (andNot_top lU2) W
  generalize U2 % 2 ^ 63 = NU2 at *
  replace aU2 := Lib.hid aU2
  have aV2 := fun W => abs_any V2 (V2 % 2 ^ 63) (andNot_top lV2) W
  generalize V2 % 2 ^ 63 = NV2 at *
  replace aV2 := Lib.hid aV2
  have aU3 := fun W => abs_any U3 (U3 % 2 ^ 63) (andNot_top lU3) W
  generalize U3 % 2 ^ 63 = NU3 at *
  replace aU3 := Lib.hid aU3
  have aV3 := fun W => abs_any V3 (V3 % 2 ^ 63) (andNot_top lV3) W
  generalize V3 % 2 ^ 63 = NV3 at *
  replace aV3 := Lib.hid aV3
  generalize fa NU1 NV1 = G1 at *
  generalize fa NU2 NV2 = G2 at *
  generalize fa NU3 NV3 = G3 at *
  generalize fa M1 M2 = E1 at *
  generalize fa E1 M3 = E2 at *
  have f11 := fl_mul o11
  have f12 := fl_mul o12
  have f13 := fl_sub o13
  have f14 := fl_mul o14
  have f15 := fl_add o15
  have f16 := fl_mul o16
  have f21 := fl_mul o21
  have f22 := fl_mul o22
  have f23 := fl_sub o23
  have f24 := fl_mul o24
  have f25 := fl_add o25
  have f26 := fl_mul o26
  have f31 := fl_mul o31
  have f32 := fl_mul o32
  have f33 := fl_sub o33
  have f34 := fl_mul o34
  have f35 := fl_add o35
  have f36 := fl_mul o36
  have f41 := fl_add o41
  have f42 := fl_add o42
  have f43 := fl_add o43
  have f44 := fl_add o44
  have f45 := fl_mul o45
  clear o11 o12 o13 o14 o15 o16 o21 o22 o23 o24 o25 o26 o31 o32 o33 o34 o35 o36 o41 o42 o43 o44 o45 ha0 ha1 ha2 hb0 hb1 hb2 hc0 hc1 hc2
  have gn := fl_neg E
  have g1 := fl_gtr S E
  have g2 := fl_lss S (E ^^^ 2 ^ 63)
  generalize hN : E ^^^ 2 ^ 63 = N at *
  replace hN := Lib.hid hN
  by_cases c1 : Ieee.double.order S E = some .gt
  · have d1 : (Ieee.double.order S E == some .gt) = true := by rw [c1]; rfl
    replace d1 : (FloatKind.f64.format.order S E == some .gt) = true := d1
    have hv : filtV S E = 1 := by unfold filtV; rw [if_pos c1]
    rw [hv]
    clear c1 hv g1 g2
    go_enter Try.func159, Try.ntmps159
    go_wp2_with fail
    generalize ((w.alloc (o3 a0 a1 a2 109)).alloc (o3 b0 b1 b2 109)).alloc (o3 c0 c1 c2 109) = W0 at *
    refine (K1.out _).mono ?_
    rintro e w1 ⟨rfl, hb1⟩
    replace MB := Lib.hid (MB.out.next hb1)
    clear hb1
    obtain ⟨d0, d1, d2, _⟩ := row3 MB.out.tail.head
    go_wp2_with fail
    refine (K2.out _).mono ?_
    rintro e w2 ⟨rfl, hb2⟩
    replace MB := Lib.hid (MB.out.next hb2)
    clear hb2 d0 d1 d2
    obtain ⟨d0, d1, d2, _⟩ := row3 MB.out.tail.tail.head
    go_wp2_with fail
    refine (K3.out _).mono ?_
    rintro e w3 ⟨rfl, hb3⟩
    replace MB := Lib.hid (MB.out.next hb3)
    clear hb3 d0 d1 d2
    go_wp2_with fail
    refine (aA0.out _).mono ?_
    rintro e w' ⟨rfl, rfl⟩
    go_wp2_with fail
    refine (aU1.out _).mono ?_
    rintro e w' ⟨rfl, rfl⟩
    go_wp2_with fail
    refine (aV1.out _).mono ?_
    rintro e w' ⟨rfl, rfl⟩
    go_wp2_with fail
    refine (aA1.out _).mono ?_
    rintro e w' ⟨rfl, rfl⟩
    go_wp2_with fail
    refine (aU2.out _).mono ?_
    rintro e w' ⟨rfl, rfl⟩
    go_wp2_with fail
    refine (aV2.out _).mono ?_
    rintro e w' ⟨rfl, rfl⟩
    go_wp2_with fail
    refine (aA2.out _).mono ?_
    rintro e w' ⟨rfl, rfl⟩
    go_wp2_with fail
    refine (aU3.out _).mono ?_
    rintro e w' ⟨rfl, rfl⟩
    go_wp2_with fail
    refine (aV3.out _).mono ?_
    rintro e w' ⟨rfl, rfl⟩
    go_wp2
    go_ret
    exact ⟨rfl, MB.out.below⟩
  · have d1 : (Ieee.double.order S E == some .gt) = false := by simpa using c1
    replace d1 : (FloatKind.f64.format.order S E == some .gt) = false := d1
    by_cases c2 : Ieee.double.order S N = some .lt
    · have d2 : (Ieee.double.order S N == some .lt) = true := by rw [c2]; rfl
      replace d2 : (FloatKind.f64.format.order S N == some .lt) = true := d2
      have hv : filtV S E = -1 := by unfold filtV; rw [if_neg c1, hN.out, if_pos c2]
      rw [hv]
      clear c1 c2 hv g1 g2
      go_enter Try.func159, Try.ntmps159
      go_wp2_with fail
      generalize ((w.alloc (o3 a0 a1 a2 109)).alloc (o3 b0 b1 b2 109)).alloc (o3 c0 c1 c2 109) = W0 at *
      refine (K1.out _).mono ?_
      rintro e w1 ⟨rfl, hb1⟩
      replace MB := Lib.hid (MB.out.next hb1)
      clear hb1
      obtain ⟨d0, d1, d2, _⟩ := row3 MB.out.tail.head
      go_wp2_with fail
      refine (K2.out _).mono ?_
      rintro e w2 ⟨rfl, hb2⟩
      replace MB := Lib.hid (MB.out.next hb2)
      clear hb2 d0 d1 d2
      obtain ⟨d0, d1, d2, _⟩ := row3 MB.out.tail.tail.head
      go_wp2_with fail
      refine (K3.out _).mono ?_
      rintro e w3 ⟨rfl, hb3⟩
      replace MB := Lib.hid (MB.out.next hb3)
      clear hb3 d0 d1 d2
      go_wp2_with fail
      refine (aA0.out _).mono ?_
      rintro e w' ⟨rfl, rfl⟩
      go_wp2_with fail
      refine (aU1.out _).mono ?_
      rintro e w' ⟨rfl, rfl⟩
      go_wp2_with fail
      refine (aV1.out _).mono ?_
      rintro e w' ⟨rfl, rfl⟩
      go_wp2_with fail
      refine (aA1.out _).mono ?_
      rintro e w' ⟨rfl, rfl⟩
      go_wp2_with fail
      refine (aU2.out _).mono ?_
      rintro e w' ⟨rfl, rfl⟩
      go_wp2_with fail
      refine (aV2.out _).mono ?_
      rintro e w' ⟨rfl, rfl⟩
      go_wp2_with fail
      refine (aA2.out _).mono ?_
      rintro e w' ⟨rfl, rfl⟩
      go_wp2_with fail
      refine (aU3.out _).mono ?_
      rintro e w' ⟨rfl, rfl⟩
      go_wp2_with fail
      refine (aV3.out _).mono ?_
      rintro e w' ⟨rfl, rfl⟩
      go_wp2
      go_ret
      exact ⟨rfl, MB.out.below⟩
    · have d2 : (Ieee.double.order S N == some .lt) = false := by simpa using c2
      replace d2 : (FloatKind.f64.format.order S N == some .lt) = false := d2
      have hv : filtV S E = 0 := by unfold filtV; rw [if_neg c1, hN.out, if_neg c2]
      rw [hv]
      clear c1 c2 hv g1 g2
      go_enter Try.func159, Try.ntmps159
      go_wp2_with fail
      generalize ((w.alloc (o3 a0 a1 a2 109)).alloc (o3 b0 b1 b2 109)).alloc (o3 c0 c1 c2 109) = W0 at *
      refine (K1.out _).mono ?_
      rintro e w1 ⟨rfl, hb1⟩
      replace MB := Lib.hid (MB.out.next hb1)
      clear hb1
      obtain ⟨d0, d1, d2, _⟩ := row3 MB.out.tail.head
      go_wp2_with fail
      refine (K2.out _).mono ?_
      rintro e w2 ⟨rfl, hb2⟩
      replace MB := Lib.hid (MB.out.next hb2)
      clear hb2 d0 d1 d2
      obtain ⟨d0, d1, d2, _⟩ := row3 MB.out.tail.tail.head
      go_wp2_with fail
      refine (K3.out _).mono ?_
      rintro e w3 ⟨rfl, hb3⟩
      replace MB := Lib.hid (MB.out.next hb3)
      clear hb3 d0 d1 d2
      go_wp2_with fail
      refine (aA0.out _).mono ?_
      rintro e w' ⟨rfl, rfl⟩
      go_wp2_with fail
      refine (aU1.out _).mono ?_
      rintro e w' ⟨rfl, rfl⟩
      go_wp2_with fail
      refine (aV1.out _).mono ?_
      rintro e w' ⟨rfl, rfl⟩
      go_wp2_with fail
      refine (aA1.out _).mono ?_
      rintro e w' ⟨rfl, rfl⟩
      go_wp2_with fail
      refine (aU2.out _).mono ?_
      rintro e w' ⟨rfl, rfl⟩
      go_wp2_with fail
      refine (aV2.out _).mono ?_
      rintro e w' ⟨rfl, rfl⟩
      go_wp2_with fail
      refine (aA2.out _).mono ?_
      rintro e w' ⟨rfl, rfl⟩
      go_wp2_with fail
      refine (aU3.out _).mono ?_
      rintro e w' ⟨rfl, rfl⟩
      go_wp2_with fail
      refine (aV3.out _).mono ?_
      rintro e w' ⟨rfl, rfl⟩
      go_wp2
      go_ret
      exact ⟨rfl, MB.out.below⟩
end Go.Proofs.Ytojecaeblgghjaa
