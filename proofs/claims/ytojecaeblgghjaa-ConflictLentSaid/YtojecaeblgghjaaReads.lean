/-
  CONTRACTS AT INTS that only read: Least, Has, Rises, in; of the program and of the document's answer.
-/
import Derived.Test.YtojecaeblgghjaaWords
import Derived.Test.YtojecaeblgghjaaOrdPlain
import Derived.Test.YtojecaeblgghjaaShelf
import Derived.Deep.QuietTactic
import Derived.BigQuiet
import Derived.Outline
set_option linter.unusedVariables false
set_option linter.unusedSimpArgs false
namespace Go.Proofs.Ytojecaeblgghjaa
open Go.RowKit Go.Sort LsP

theorem getD_int (l : List Int) (j : Nat) : l.getD j 0 = l[j]! := by
  simp [List.getD]

theorem Rd.ints {lo : Nat} {w : World} {b off : Nat} {xs : List Int} (h : Rd encI lo w (some ⟨b, off, none⟩) xs) : ∀ j, j < xs.length → w.cell? ⟨b, off + j, none⟩ = some (.int .i64 (xs.getD j 0)) := by
  intro j hj
  obtain ⟨b', off', e, _, _, h3⟩ := h (by omega)
  injection e with e
  injection e with e1 e2
  subst e1; subst e2
  rw [h3 j hj, getD_int]

/-- The least, 0 of none. -/
def minL (l : List Int) : Int := if l = [] then 0 else Lib.minOf l

theorem least_any (A : Option Addr) (c : Nat) (xs : List Int) (w : World) (lo : Nat) (ha : Rd encI lo w A xs) (hn : xs.length ≤ 1000000) :
    Calls Try.prog 19 #[.slice A xs.length c] w fun e w' => e = .returned (.tuple #[.int .i64 (minL xs), .bool (decide (0 < xs.length))]) ∧ w' = w := by
  by_cases h0 : xs.length = 0
  · obtain rfl : xs = [] := List.eq_nil_of_length_eq_zero h0
    go_enter Try.func19, Try.ntmps19
    go_wp2
    go_ret2
    exact ⟨rfl, rfl⟩
  · obtain ⟨b, off, rfl, _, _, _⟩ := ha (by omega)
    have hne : xs ≠ [] := fun e => h0 (by rw [e]; rfl)
    have hcon := Try.slices_Min_int b off xs.length c xs w (by omega) (Nat.le_refl _) (by omega) ha.ints
    rw [List.take_length] at hcon
    have hm : minL xs = Lib.minOf xs := if_neg hne
    rw [← hm] at hcon
    have hp : 0 < xs.length := by omega
    generalize hN : xs.length = n at *
    clear hm hne hN
    generalize minL xs = m at *
    have hz : ((n : Int) == 0) = false := by simp; omega
    clear h0
    go_enter Try.func19, Try.ntmps19
    go_wp2_with (go_at_call 76; refine hcon.mono ?_; rintro e w' ⟨rfl, rfl⟩)
    go_ret2
    exact ⟨by simp [hp], rfl⟩

set_option maxHeartbeats 1000000 in
theorem refLeast_any (A : Option Addr) (c : Nat) (xs : List Int) (w : World) (lo : Nat) (ha : Rd encI lo w A xs) (hn : xs.length ≤ 1000000) :
    Calls Try.prog 20 #[.slice A xs.length c] w fun e w' => e = .returned (.tuple #[.int .i64 (minL xs), .bool (decide (0 < xs.length))]) ∧ w' = w := by
  by_cases h0 : xs.length = 0
  · obtain rfl : xs = [] := List.eq_nil_of_length_eq_zero h0
    go_enter Try.func20, Try.ntmps20
    go_wp2
    go_ret2
    exact ⟨rfl, rfl⟩
  · obtain ⟨b, off, rfl, _, _, hc⟩ := ha (by omega)
    have hc0 : w.cell? ⟨b, off, none⟩ = some (.int .i64 (xs[0]!)) := hc 0 (by omega)
    have hne : xs ≠ [] := fun e => h0 (by rw [e]; rfl)
    have hm : minL xs = Lib.minOf xs := if_neg hne
    have hone : Lib.minOf (xs.take 1) = xs[0]! := by rw [Lib.minOf_one, getD_int]
    have hstep : ∀ k, 0 < k → k < xs.length → Lib.minOf (xs.take (k + 1)) = min (Lib.minOf (xs.take k)) xs[k]! := fun k h1 h2 => by rw [Lib.minOf_step xs k h1 h2, getD_int]
    have hall : Lib.minOf (xs.take xs.length) = minL xs := by rw [hm, List.take_length]
    have HONE := Lib.hid hone
    have HSTEP := Lib.hid hstep
    have HALL := Lib.hid hall
    have HC := Lib.hid hc
    clear hone hstep hall hm hne hc
    have hp : 0 < xs.length := by omega
    generalize hN : xs.length = n at *
    clear hN
    have hz : ((n : Int) == 0) = false := by simp; omega
    clear h0
    go_enter Try.func20, Try.ntmps20
    go_wp2
    go_loop [4, 5] (fun m i => ∃ k : Nat, 0 < k ∧ k ≤ n ∧ i = .int .i64 k ∧ m = .int .i64 (Lib.minOf (xs.take k))) (fun _ i => n - (intOf i).toNat)
    case atStart => exact ⟨1, Nat.one_pos, hp, rfl, by rw [HONE.out]; simp⟩
    case round =>
      obtain ⟨k, hk0, hk, rfl, rfl⟩ := hrel
      by_cases hlt : k < n
      · have hcell := HC.out k hlt
        have hs := Lib.hid (HSTEP.out k hk0 hlt)
        generalize xs[k]! = x at *
        generalize Lib.minOf (xs.take k) = mm at *
        go_wp2
        go_round
        case rel => exact ⟨k + 1, by omega, by omega, by go_num, by rw [hs.out]⟩
        case measure => simp [intOf]; omega
      · obtain rfl : k = n := by omega
        go_wp2
        go_ret2
        exact ⟨by rw [HALL.out]; simp [hp], rfl⟩

theorem has_any (A : Option Addr) (c : Nat) (xs : List Int) (x : Int) (w : World) (lo : Nat) (ha : Rd encI lo w A xs) (hn : xs.length ≤ 1000000) :
    Calls Try.prog 36 #[.slice A xs.length c, .int .i64 x] w fun e w' => e = .returned (.bool (decide (x ∈ xs))) ∧ w' = w := by
  have hcon : Calls Try.prog 85 #[.slice A xs.length c, .int .i64 x] w fun e w' => e = .returned (.bool (decide (x ∈ xs))) ∧ w' = w := by
    by_cases h0 : xs.length = 0
    · obtain rfl : xs = [] := List.eq_nil_of_length_eq_zero h0
      exact Try.slices_Contains_int_empty A c x w
    · obtain ⟨b, off, rfl, _, _, _⟩ := ha (by omega)
      have := Try.slices_Contains_int b off xs.length c xs x w (Nat.le_refl _) (by omega) ha.ints
      rw [List.take_length, show xs.contains x = decide (x ∈ xs) by rw [Bool.eq_iff_iff]; simp] at this
      exact this
  generalize xs.length = n at *
  generalize decide (x ∈ xs) = r at *
  go_enter Try.func36, Try.ntmps36
  go_wp2_with (go_at_call 85; refine hcon.mono ?_; rintro e w' ⟨rfl, rfl⟩)
  go_ret
  exact ⟨rfl, rfl⟩

set_option maxHeartbeats 1000000 in
theorem refHas_any (A : Option Addr) (c : Nat) (xs : List Int) (x : Int) (w : World) (lo : Nat) (ha : Rd encI lo w A xs) (hn : xs.length ≤ 1000000) :
    Calls Try.prog 37 #[.slice A xs.length c, .int .i64 x] w fun e w' => e = .returned (.bool (decide (x ∈ xs))) ∧ w' = w := by
  have hyes : ∀ k, k < xs.length → x = xs[k]! → decide (x ∈ xs) = true := fun k h e => by
    rw [getElem!_pos xs k h] at e; rw [e]; simp
  have hno : (∀ k, k < xs.length → x ≠ xs[k]!) → decide (x ∈ xs) = false := fun h => by
    rw [decide_eq_false_iff_not]
    intro hx
    obtain ⟨k, hk, e⟩ := List.getElem_of_mem hx
    exact h k hk (by rw [getElem!_pos xs k hk, e])
  have HY := Lib.hid hyes
  have HN := Lib.hid hno
  clear hyes hno
  generalize decide (x ∈ xs) = r at *
  generalize hN : xs.length = n at *
  have HL := Lib.hid hN
  clear hN
  go_enter Try.func37, Try.ntmps37
  go_wp2
  go_loop [5] (fun i => ∃ k : Nat, k ≤ n ∧ i = .int .i64 k ∧ Hid (∀ j, j < k → x ≠ xs[j]!)) (fun i => n - (intOf i).toNat)
  case atStart => exact ⟨0, Nat.zero_le _, rfl, fun j hj => absurd hj (by omega)⟩
  case round =>
    obtain ⟨k, hk, rfl, HR⟩ := hrel
    by_cases hlt : k < n
    · obtain ⟨b, off, rfl, hbw, hcell⟩ := ha.at_ (k := k) (by rw [HL.out]; exact hlt)
      have hs : Hid (x = xs[k]! → r = true) := HY.out k hlt
      have hs2 : Hid (x ≠ xs[k]! → ∀ j, j < k + 1 → x ≠ xs[j]!) := fun hne j hj => by
        by_cases e : j = k
        · rw [e]; exact hne
        · exact HR.out j (by omega)
      generalize xs[k]! = y at *
      by_cases c1 : y = x
      · have hb : (y == x) = true := by simp [c1]
        have HR' := Lib.hid (hs.out c1.symm)
        clear c1
        go_wp2
        go_ret
        exact ⟨ret_bool HR'.out.symm, rfl⟩
      · have hb : (y == x) = false := by simp [c1]
        have HR' := Lib.hid (hs2.out (fun e => c1 e.symm))
        clear c1
        go_wp2
        go_round
        case rel => exact ⟨k + 1, by omega, by go_num, HR'⟩
        case measure => simp [intOf]; omega
    · obtain rfl : k = n := by omega
      have HR' := Lib.hid (HN.out HR.out)
      go_wp2
      go_ret
      exact ⟨ret_bool HR'.out.symm, rfl⟩

theorem in_any (A : Option Addr) (c : Nat) (xs : List Int) (x : Int) (w : World) (lo : Nat) (ha : Rd encI lo w A xs) (hn : xs.length ≤ 1000000) (hs : xs.Pairwise (· ≤ ·)) :
    Calls Try.prog 82 #[.slice A xs.length c, .int .i64 x] w fun e w' => e = .returned (.bool (decide (x ∈ xs))) ∧ ∃ q, w' = w.drewN q := by
  have hcon : Calls Try.prog 119 #[.slice A xs.length c, .int .i64 x] w fun e w' => ∃ n : Int, e = .returned (.tuple #[.int .i64 n, .bool (decide (x ∈ xs))]) ∧ ∃ q, w' = w.drewN q := by
    by_cases h0 : xs.length = 0
    · obtain rfl : xs = [] := List.eq_nil_of_length_eq_zero h0
      exact (Try.slices_BinarySearch_int_empty A c x w).mono fun e w' ⟨h1, h2⟩ => ⟨0, h1, 0, h2⟩
    · obtain ⟨b, off, rfl, _, _, _⟩ := ha (by omega)
      have := Try.slices_BinarySearch_int b off xs.length c xs x w (Nat.le_refl _) (by omega) ha.ints (by rw [List.take_length]; exact hs)
      rw [List.take_length, show xs.contains x = decide (x ∈ xs) by rw [Bool.eq_iff_iff]; simp] at this
      exact this.mono fun e w' ⟨h1, h2⟩ => ⟨_, h1, h2⟩
  clear hs ha hn
  generalize xs.length = n at *
  generalize decide (x ∈ xs) = r at *
  go_enter Try.func82, Try.ntmps82
  go_wp2_with (go_at_call 119; refine hcon.mono ?_; rintro e w' ⟨nn, rfl, q, rfl⟩)
  go_ret
  exact ⟨rfl, q, rfl⟩
end Go.Proofs.Ytojecaeblgghjaa
