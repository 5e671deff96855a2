/-
  CONTRACTS AT INTS: does a list rise? Of the program and of the document's answer.
-/
import Derived.Test.YtojecaeblgghjaaReads
set_option linter.unusedVariables false
set_option linter.unusedSimpArgs false
namespace Go.Proofs.Ytojecaeblgghjaa
open Go.RowKit Go.Sort LsP

set_option maxHeartbeats 1000000 in
theorem rises_any (A : Option Addr) (c : Nat) (xs : List Int) (w : World) (lo : Nat) (ha : Rd encI lo w A xs) (hn : xs.length ≤ 1000000) :
    Calls Try.prog 26 #[.slice A xs.length c] w fun e w' => e = .returned (.bool (risesB xs)) ∧ ∃ q, w' = w.drewN q := by
  generalize hN : xs.length = n at *
  have HL := Lib.hid hN
  clear hN
  go_enter Try.func26, Try.ntmps26
  go_wp2
  go_loopw [6] (fun i wr => ∃ k : Nat, k ≤ n ∧ i = .int .i64 k ∧ Hid (∀ j, j + 1 < k → xs[j]! < xs[j + 1]!) ∧ ∃ q, wr = w.drewN q) (fun i _ => n - (intOf i).toNat)
  case atStart => exact ⟨0, Nat.zero_le _, rfl, fun j hj => absurd hj (by omega), 0, rfl⟩
  case round =>
    obtain ⟨k, hk, rfl, HR, q, rfl⟩ := hrel
    by_cases hlt : k < n
    · obtain ⟨b, off, rfl, hbw, hcell⟩ := ha.at_ (k := k) (by rw [HL.out]; exact hlt)
      by_cases h0 : k = 0
      · subst h0
        have hg : decide ((0 : Int) > 0) = false := by simp
        go_wp2
        go_quiet (fail)
        go_wp2
        go_roundw
        case rel => exact ⟨1, by omega, by go_num, fun j hj => absurd hj (by omega), by first | exact ⟨_, rfl⟩ | exact dr1 ..⟩
        case measure => simp [intOf]; omega
      · obtain ⟨m, rfl⟩ : ∃ m, k = m + 1 := ⟨k - 1, by omega⟩
        obtain ⟨b', off', e', _, hcell'⟩ := ha.at_ (k := m) (by rw [HL.out]; omega)
        injection e' with e'
        injection e' with e1 e2
        subst e1; subst e2
        have hs : Hid (xs[m]! < xs[m + 1]! → ∀ j, j + 1 < m + 1 + 1 → xs[j]! < xs[j + 1]!) := fun h j hj => by
          by_cases e : j = m
          · rw [e]; exact h
          · exact HR.out j (by omega)
        have hf : Hid (xs[m + 1]! ≤ xs[m]! → risesB xs = false) := fun h => risesB_not xs m (by rw [HL.out]; omega) (by omega)
        generalize xs[m]! = x at *
        generalize xs[m + 1]! = y at *
        have hsub : ((m + 1 : Nat) : Int) - 1 = (m : Int) := by omega
        have hg : decide (((m + 1 : Nat) : Int) > 0) = true := by simp
        have i1 : ((m : Int) + 1) < (n : Int) := by omega
        have i2 : (0 : Int) ≤ (m : Int) := by omega
        have i3 : (m : Int) < (n : Int) := by omega
        clear h0
        by_cases c1 : x < y
        · have hs' := Lib.hid (hs.out c1)
          go_wp2
          go_quiet (fail)
          go_wp2
          go_roundw
          case rel => exact ⟨m + 1 + 1, by omega, by go_num, hs', by first | exact ⟨_, rfl⟩ | exact dr1 ..⟩
          case measure => simp [intOf]; omega
        · have hf' := Lib.hid (hf.out (by omega))
          have hb : decide (x < y) = false := by simp; omega
          go_wp2
          go_quiet (fail)
          go_wp2
          go_ret
          exact ⟨ret_bool hf'.out.symm, by first | exact ⟨_, rfl⟩ | exact dr1 ..⟩
    · obtain rfl : k = n := by omega
      have HR' := Lib.hid (risesB_of_steps xs fun i hi => HR.out i (by rw [HL.out] at hi; exact hi))
      go_wp2
      go_ret
      exact ⟨ret_bool HR'.out.symm, _, rfl⟩

set_option maxHeartbeats 1000000 in
theorem refRises_any (A : Option Addr) (c : Nat) (xs : List Int) (w : World) (lo : Nat) (ha : Rd encI lo w A xs) (hn : xs.length ≤ 1000000) :
    Calls Try.prog 27 #[.slice A xs.length c] w fun e w' => e = .returned (.bool (risesB xs)) ∧ ∃ q, w' = w.drewN q := by
  generalize hN : xs.length = n at *
  have HL := Lib.hid hN
  clear hN
  go_enter Try.func27, Try.ntmps27
  go_wp2
  go_loopw [3] (fun i wr => ∃ k : Nat, (k ≤ n ∨ k = 1) ∧ 0 < k ∧ i = .int .i64 k ∧ Hid (∀ j, j + 1 < k → xs[j]! < xs[j + 1]!) ∧ ∃ q, wr = w.drewN q) (fun i _ => n - (intOf i).toNat)
  case atStart => exact ⟨1, .inr rfl, Nat.one_pos, rfl, fun j hj => absurd hj (by omega), 0, rfl⟩
  case round =>
    obtain ⟨k, hk, hk0, rfl, HR, q, rfl⟩ := hrel
    by_cases hlt : k < n
    · obtain ⟨b, off, rfl, hbw, hcell⟩ := ha.at_ (k := k) (by rw [HL.out]; exact hlt)
      obtain ⟨m, rfl⟩ : ∃ m, k = m + 1 := ⟨k - 1, by omega⟩
      obtain ⟨b', off', e', _, hcell'⟩ := ha.at_ (k := m) (by rw [HL.out]; omega)
      injection e' with e'
      injection e' with e1 e2
      subst e1; subst e2
      have hs : Hid (xs[m]! < xs[m + 1]! → ∀ j, j + 1 < m + 1 + 1 → xs[j]! < xs[j + 1]!) := fun h j hj => by
        by_cases e : j = m
        · rw [e]; exact h
        · exact HR.out j (by omega)
      have hf : Hid (xs[m + 1]! ≤ xs[m]! → risesB xs = false) := fun h => risesB_not xs m (by rw [HL.out]; omega) (by omega)
      generalize xs[m]! = x at *
      generalize xs[m + 1]! = y at *
      have hsub : ((m + 1 : Nat) : Int) - 1 = (m : Int) := by omega
      have i1 : ((m : Int) + 1) < (n : Int) := by omega
      have i2 : (0 : Int) ≤ (m : Int) := by omega
      have i3 : (m : Int) < (n : Int) := by omega
      by_cases c1 : x < y
      · have hs' := Lib.hid (hs.out c1)
        go_wp2
        go_quiet (fail)
        go_wp2
        go_roundw
        case rel => exact ⟨m + 1 + 1, .inl (by omega), by omega, by go_num, hs', by first | exact ⟨_, rfl⟩ | exact dr1 ..⟩
        case measure => simp [intOf]; omega
      · have hf' := Lib.hid (hf.out (by omega))
        have hb : decide (x < y) = false := by simp; omega
        go_wp2
        go_quiet (fail)
        go_wp2
        go_ret
        exact ⟨ret_bool hf'.out.symm, by first | exact ⟨_, rfl⟩ | exact dr1 ..⟩
    · have HR' := Lib.hid (risesB_of_steps xs fun i hi => HR.out i (by rw [HL.out] at hi; omega))
      go_wp2
      go_ret
      exact ⟨ret_bool HR'.out.symm, _, rfl⟩
end Go.Proofs.Ytojecaeblgghjaa
