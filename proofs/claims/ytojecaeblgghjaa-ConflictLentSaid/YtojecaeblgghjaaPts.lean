/-
  CONTRACTS AT POINTS: orient.less, orient.may.
-/
import Derived.Test.YtojecaeblgghjaaTriG
import Derived.Deep.QuietTactic
import Derived.BigQuiet
set_option linter.unusedVariables false
set_option linter.unusedSimpArgs false
namespace Go.Proofs.Ytojecaeblgghjaa
open Go.RowKit Go.Sort LsP

/-- May a coordinate be? -/
def fitC (n : Int) : Bool := decide (-1073741824 ≤ n) && decide (n ≤ 1073741824)

set_option maxHeartbeats 4000000 in
set_option maxRecDepth 100000 in
theorem ptLess_any (a b c x y z : Int) (w : World) (h1 : -1073741824 ≤ a ∧ a ≤ 1073741824) (h2 : -1073741824 ≤ b ∧ b ≤ 1073741824) (h3 : -1073741824 ≤ c ∧ c ≤ 1073741824)
    (h4 : -1073741824 ≤ x ∧ x ≤ 1073741824) (h5 : -1073741824 ≤ y ∧ y ≤ 1073741824) (h6 : -1073741824 ≤ z ∧ z ≤ 1073741824) :
    Calls Try.prog 160 #[.agg #[.int .i64 a, .int .i64 b, .int .i64 c], .agg #[.int .i64 x, .int .i64 y, .int .i64 z]] w fun e w' =>
      e = .returned (.agg #[.int .i64 (a - x), .int .i64 (b - y), .int .i64 (c - z)]) ∧ Below w.heap.size w w' := by
  obtain ⟨a1, a2⟩ := h1; obtain ⟨b1, b2⟩ := h2; obtain ⟨c1, c2⟩ := h3; obtain ⟨x1, x2⟩ := h4; obtain ⟨y1, y2⟩ := h5; obtain ⟨z1, z2⟩ := h6
  go_enter Try.func160, Try.ntmps160
  go_wp2
  exact bodyPost_ret (v := .agg #[.int .i64 (a - x), .int .i64 (b - y), .int .i64 (c - z)]) (by simp [results, Try.results160, go_sem]) rfl ⟨rfl, by (repeat (first | exact Below.refl _ _ | refine Below.alloc ?_ (by first | omega | (simp; done) | (simp; omega)) _ | refine Below.setCell ?_ (by first | omega | (simp; done) | (simp; omega)) _ | refine Below.drew ?_))⟩

theorem may1_any (n : Int) (w : World) :
    Calls Try.prog 158 #[.int .i64 n] w fun e w' => e = .returned (.bool (fitC n)) ∧ w' = w := by
  by_cases h1 : n ≥ -1073741824
  · by_cases h2 : n ≤ 1073741824
    · have hf : fitC n = true := by simp [fitC]; omega
      rw [hf]; clear hf
      go_enter Try.func158, Try.ntmps158
      go_wp2
      go_ret
      exact ⟨rfl, rfl⟩
    · have hf : fitC n = false := by simp [fitC]; omega
      have hd : decide (n ≤ 1073741824) = false := by simpa using h2
      rw [hf]; clear hf
      go_enter Try.func158, Try.ntmps158
      go_wp2
      go_ret
      exact ⟨rfl, rfl⟩
  · have hf : fitC n = false := by simp [fitC]; omega
    have hd : decide (n ≥ -1073741824) = false := by simpa using h1
    rw [hf]; clear hf
    go_enter Try.func158, Try.ntmps158
    go_wp2
    go_ret
    exact ⟨rfl, rfl⟩

set_option maxHeartbeats 4000000 in
set_option maxRecDepth 100000 in
theorem may_any (a b c : Int) (w : World) :
    Calls Try.prog 125 #[.agg #[.int .i64 a, .int .i64 b, .int .i64 c]] w fun e w' => e = .returned (.bool (fitC a && fitC b && fitC c)) ∧ Below w.heap.size w w' := by
  have k1 := fun W => may1_any a W
  have k2 := fun W => may1_any b W
  have k3 := fun W => may1_any c W
  have K1 := Lib.hid k1; have K2 := Lib.hid k2; have K3 := Lib.hid k3
  clear k1 k2 k3
  generalize fitC a = f1 at *
  generalize fitC b = f2 at *
  generalize fitC c = f3 at *
  cases f1
  · go_enter Try.func125, Try.ntmps125
    go_wp2_with fail
    refine (K1.out _).mono ?_
    rintro e w' ⟨rfl, rfl⟩
    go_wp2
    go_ret
    exact ⟨rfl, by (repeat (first | exact Below.refl _ _ | refine Below.alloc ?_ (by first | omega | (simp; done) | (simp; omega)) _ | refine Below.setCell ?_ (by first | omega | (simp; done) | (simp; omega)) _ | refine Below.drew ?_))⟩
  · cases f2
    · go_enter Try.func125, Try.ntmps125
      go_wp2_with fail
      refine (K1.out _).mono ?_
      rintro e w' ⟨rfl, rfl⟩
      go_wp2_with fail
      refine (K2.out _).mono ?_
      rintro e w' ⟨rfl, rfl⟩
      go_wp2
      go_ret
      exact ⟨rfl, by (repeat (first | exact Below.refl _ _ | refine Below.alloc ?_ (by first | omega | (simp; done) | (simp; omega)) _ | refine Below.setCell ?_ (by first | omega | (simp; done) | (simp; omega)) _ | refine Below.drew ?_))⟩
    · go_enter Try.func125, Try.ntmps125
      go_wp2_with fail
      refine (K1.out _).mono ?_
      rintro e w' ⟨rfl, rfl⟩
      go_wp2_with fail
      refine (K2.out _).mono ?_
      rintro e w' ⟨rfl, rfl⟩
      go_wp2_with fail
      refine (K3.out _).mono ?_
      rintro e w' ⟨rfl, rfl⟩
      go_wp2
      go_ret
      exact ⟨rfl, by (repeat (first | exact Below.refl _ _ | refine Below.alloc ?_ (by first | omega | (simp; done) | (simp; omega)) _ | refine Below.setCell ?_ (by first | omega | (simp; done) | (simp; omega)) _ | refine Below.drew ?_))⟩
end Go.Proofs.Ytojecaeblgghjaa
