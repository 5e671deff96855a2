/-
  CONTRACTS: comparing two lists of ints: slices.Compare, order.Compare, carapaceref3.Compare, carapaceref3.Same.
-/
import Derived.Test.YtojecaeblgghjaaWords
import Derived.Test.YtojecaeblgghjaaOrdPlain
import Derived.Deep.QuietTactic
import Derived.BigQuiet
import Derived.Outline
set_option linter.unusedVariables false
set_option linter.unusedSimpArgs false
namespace Go.Proofs.Ytojecaeblgghjaa
open Go.RowKit Go.Sort LsP

set_option maxHeartbeats 1000000 in
theorem cmpCompare_any (x y : Int) (w : World) :
    Calls Try.prog 116 #[.int .i64 x, .int .i64 y] w fun e w' => e = .returned (.int .i64 (if x < y then -1 else if y < x then 1 else 0)) ∧ w' = w := by
  by_cases h1 : x < y
  · rw [if_pos h1]
    go_enter Try.func116, Try.ntmps116
    go_wp2
    go_ret
    exact ⟨rfl, rfl⟩
  · by_cases h2 : y < x
    · rw [if_neg h1, if_pos h2]
      go_enter Try.func116, Try.ntmps116
      go_wp2
      go_ret
      exact ⟨rfl, rfl⟩
    · rw [if_neg h1, if_neg h2]
      go_enter Try.func116, Try.ntmps116
      go_wp2
      go_ret
      exact ⟨rfl, rfl⟩

set_option maxHeartbeats 1000000 in
theorem slicesCompare_any (A B : Option Addr) (c d : Nat) (xs ys : List Int) (w : World) (la lb : Nat) (ha : Rd encI la w A xs) (hb : Rd encI lb w B ys) (hn : xs.length ≤ 1000000) (hm : ys.length ≤ 1000000) :
    Calls Try.prog 77 #[.slice A xs.length c, .slice B ys.length d] w fun e w' => e = .returned (.int .i64 (cmpL xs ys)) ∧ w' = w := by
  generalize hL : xs.length = n at *
  generalize hM : ys.length = m at *
  have HL := Lib.hid hL
  have HM := Lib.hid hM
  clear hL hM
  go_enter Try.func77, Try.ntmps77
  go_wp2
  go_loop [11] (fun i => ∃ k : Nat, k ≤ n ∧ k ≤ m ∧ i = .int .i64 k ∧ Hid (cmpL (xs.drop k) (ys.drop k) = cmpL xs ys)) (fun i => n - (intOf i).toNat)
  case atStart => exact ⟨0, Nat.zero_le _, Nat.zero_le _, rfl, rfl⟩
  case round =>
    obtain ⟨k, hk, hkm, rfl, HC⟩ := hrel
    by_cases h1 : k < n
    · obtain ⟨b, off, rfl, hbw, hcell⟩ := ha.at_ (k := k) (by rw [HL.out]; exact h1)
      by_cases h2 : k < m
      · obtain ⟨b2, off2, rfl, hbw2, hcell2⟩ := hb.at_ (k := k) (by rw [HM.out]; exact h2)
        have hstep := cmpL_step (a := xs) (b := ys) (i := k) (by rw [HL.out]; exact h1) (by rw [HM.out]; exact h2)
        rw [HC.out] at hstep
        have HS := Lib.hid hstep
        clear hstep HC
        generalize xs[k]! = x at *
        generalize ys[k]! = y at *
        by_cases c1 : x < y
        · go_wp2_with (go_at_call 116; refine (cmpCompare_any _ _ _).mono ?_; rintro e w' ⟨rfl, rfl⟩)
          go_ret
          exact ⟨ret_int (by rw [HS.out, if_pos (by omega)]), rfl⟩
        · by_cases c2 : y < x
          · go_wp2_with (go_at_call 116; refine (cmpCompare_any _ _ _).mono ?_; rintro e w' ⟨rfl, rfl⟩)
            go_ret
            exact ⟨ret_int (by rw [HS.out, if_neg (by omega), if_pos (by omega)]), rfl⟩
          · go_wp2_with (go_at_call 116; refine (cmpCompare_any _ _ _).mono ?_; rintro e w' ⟨rfl, rfl⟩)
            go_round
            case rel => exact ⟨k + 1, by omega, by omega, by go_num, by have := HS.out; rw [if_neg (by omega), if_neg (by omega)] at this; exact this.symm⟩
            case measure => simp [intOf]; omega
      · have he := cmpL_end_b (a := xs) (b := ys) (i := k) (by rw [HM.out]; omega) (by rw [HL.out]; exact h1)
        rw [HC.out] at he
        have HE := Lib.hid he
        clear he HC
        go_wp2
        go_ret
        exact ⟨ret_int HE.out.symm, rfl⟩
    · have he := cmpL_end_a (a := xs) (b := ys) (i := k) (by rw [HL.out]; omega) (by rw [HM.out]; omega)
      rw [HC.out, HM.out] at he
      have HE := Lib.hid he
      clear he HC
      obtain rfl : k = n := by omega
      by_cases h2 : k < m
      · go_wp2
        go_ret
        exact ⟨ret_int (by rw [HE.out, if_pos h2]), rfl⟩
      · go_wp2
        go_ret
        exact ⟨ret_int (by rw [HE.out, if_neg h2]), rfl⟩

theorem orderCompare_any (A B : Option Addr) (c d : Nat) (xs ys : List Int) (w : World) (la lb : Nat) (ha : Rd encI la w A xs) (hb : Rd encI lb w B ys) (hn : xs.length ≤ 1000000) (hm : ys.length ≤ 1000000) :
    Calls Try.prog 21 #[.slice A xs.length c, .slice B ys.length d] w fun e w' => e = .returned (.int .i64 (cmpL xs ys)) ∧ w' = w := by
  go_enter Try.func21, Try.ntmps21
  go_wp2_with (go_at_call 77; refine (slicesCompare_any A B c d xs ys _ la lb ha hb hn hm).mono ?_; rintro e w' ⟨rfl, rfl⟩)
  go_ret
  exact ⟨rfl, rfl⟩

set_option maxHeartbeats 1000000 in
theorem refCompare_any (A B : Option Addr) (c d : Nat) (xs ys : List Int) (w : World) (la lb : Nat) (ha : Rd encI la w A xs) (hb : Rd encI lb w B ys) (hn : xs.length ≤ 1000000) (hm : ys.length ≤ 1000000) :
    Calls Try.prog 22 #[.slice A xs.length c, .slice B ys.length d] w fun e w' => e = .returned (.int .i64 (cmpL xs ys)) ∧ ∃ q, w' = w.drewN q := by
  generalize hL : xs.length = n at *
  generalize hM : ys.length = m at *
  have HL := Lib.hid hL
  have HM := Lib.hid hM
  clear hL hM
  go_enter Try.func22, Try.ntmps22
  go_wp2
  go_loopw [5] (fun i wr => ∃ k : Nat, k ≤ n ∧ k ≤ m ∧ i = .int .i64 k ∧ Hid (cmpL (xs.drop k) (ys.drop k) = cmpL xs ys) ∧ ∃ q, wr = w.drewN q) (fun i _ => n - (intOf i).toNat)
  case atStart => exact ⟨0, Nat.zero_le _, Nat.zero_le _, rfl, rfl, 0, rfl⟩
  case round =>
    obtain ⟨k, hk, hkm, rfl, HC, q, rfl⟩ := hrel
    by_cases h1 : k < n
    · obtain ⟨b, off, rfl, hbw, hcell⟩ := ha.at_ (k := k) (by rw [HL.out]; exact h1)
      by_cases h2 : k < m
      · obtain ⟨b2, off2, rfl, hbw2, hcell2⟩ := hb.at_ (k := k) (by rw [HM.out]; exact h2)
        have hstep := cmpL_step (a := xs) (b := ys) (i := k) (by rw [HL.out]; exact h1) (by rw [HM.out]; exact h2)
        rw [HC.out] at hstep
        have HS := Lib.hid hstep
        clear hstep HC
        generalize xs[k]! = x at *
        generalize ys[k]! = y at *
        have i1 : (k : Int) < (n : Int) := by omega
        have i2 : (k : Int) < (m : Int) := by omega
        have i3 : (0 : Int) ≤ (k : Int) := by omega
        by_cases c1 : x < y
        · go_wp2
          go_quiet (fail)
          go_wp2
          go_ret
          exact ⟨ret_int (by rw [HS.out, if_pos (by omega)]), by first | exact ⟨_, rfl⟩ | exact dr1 ..⟩
        · by_cases c2 : y < x
          · go_wp2
            go_quiet (fail)
            go_wp2
            go_quiet (fail)
            go_wp2
            go_ret
            exact ⟨ret_int (by rw [HS.out, if_neg (by omega), if_pos (by omega)]), by first | exact ⟨_, rfl⟩ | exact dr2 ..⟩
          · go_wp2
            go_quiet (fail)
            go_wp2
            go_quiet (fail)
            go_wp2
            go_roundw
            case rel => exact ⟨k + 1, by omega, by omega, by go_num, by have := HS.out; rw [if_neg (by omega), if_neg (by omega)] at this; exact this.symm, by first | exact ⟨_, rfl⟩ | exact dr2 ..⟩
            case measure => simp [intOf]; omega
      · have he := cmpL_end_b (a := xs) (b := ys) (i := k) (by rw [HM.out]; omega) (by rw [HL.out]; exact h1)
        rw [HC.out] at he
        have HE := Lib.hid he
        clear he HC
        go_wp2
        go_ret
        exact ⟨ret_int HE.out.symm, _, rfl⟩
    · have he := cmpL_end_a (a := xs) (b := ys) (i := k) (by rw [HL.out]; omega) (by rw [HM.out]; omega)
      rw [HC.out, HM.out] at he
      have HE := Lib.hid he
      clear he HC
      obtain rfl : k = n := by omega
      by_cases h2 : k < m
      · go_wp2
        go_ret
        exact ⟨ret_int (by rw [HE.out, if_pos h2]), _, rfl⟩
      · go_wp2
        go_ret
        exact ⟨ret_int (by rw [HE.out, if_neg h2]), _, rfl⟩

theorem refSame_any (A B : Option Addr) (c d : Nat) (xs ys : List Int) (w : World) (la lb : Nat) (ha : Rd encI la w A xs) (hb : Rd encI lb w B ys) (hn : xs.length ≤ 1000000) (hm : ys.length ≤ 1000000) :
    Calls Try.prog 25 #[.slice A xs.length c, .slice B ys.length d] w fun e w' => e = .returned (.bool (decide (xs = ys))) ∧ ∃ q, w' = w.drewN q := by
  have hz := cmpL_zero (a := xs) (b := ys)
  have hd : (cmpL xs ys == 0) = decide (xs = ys) := by
    rw [Bool.eq_iff_iff]; simpa using hz
  have HD := Lib.hid hd
  clear hd hz
  go_enter Try.func25, Try.ntmps25
  go_wp2_with (go_at_call 22; refine (refCompare_any A B c d xs ys _ la lb ha hb hn hm).mono ?_; rintro e w' ⟨rfl, q, rfl⟩)
  go_ret
  exact ⟨ret_bool HD.out, q, rfl⟩
end Go.Proofs.Ytojecaeblgghjaa
