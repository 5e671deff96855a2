/-
  THE WALK of OrderLeasts.
-/
import Derived.Test.YtojecaeblgghjaaIn3
set_option linter.unusedVariables false
set_option linter.unusedSimpArgs false
namespace Go.Proofs.Ytojecaeblgghjaa
open Go.RowKit Go.Sort LsP

set_option maxHeartbeats 1000000 in
set_option maxRecDepth 100000 in
theorem leasts_walk (A B : Option Addr) (c d : Nat) (xs ys : List Int) (w : World) (ha : Rd encI 0 w A xs) (hb : Rd encI 0 w B ys) (hm : xs.length ≤ maxLen) (hm' : ys.length ≤ maxLen) :
    Calls Try.prog 3 #[.slice A xs.length c, .slice B ys.length d] w fun e w' => e = .returned (.bool true) ∧ Below w.heap.size w w' := by
  unfold maxLen at hm hm'
  by_cases h1 : xs.length ≤ 200
  · by_cases h2 : ys.length ≤ 200
    · have g1 : decide ((xs.length : Int) > 200) = false := by simp; omega
      have g2 : decide ((ys.length : Int) > 200) = false := by simp; omega
      have k1 := least_any A c xs w 0 ha (by omega)
      have k2 := refLeast_any A c xs w 0 ha (by omega)
      have k3 := orderCompare_any A B c d xs ys w 0 0 ha hb (by omega) (by omega)
      have k4 := refCompare_any A B c d xs ys w 0 0 ha hb (by omega) (by omega)
      have K1 := Lib.hid k1; have K2 := Lib.hid k2; have K3 := Lib.hid k3; have K4 := Lib.hid k4
      clear k1 k2 k3 k4 ha hb
      go_enter Try.func3, Try.ntmps3
      go_wp2_with (first
        | (go_at_call 19; refine K1.out.mono ?_; rintro e w' ⟨rfl, rfl⟩)
        | (go_at_call 20; refine K2.out.mono ?_; rintro e w' ⟨rfl, rfl⟩)
        | (go_at_call 21; refine K3.out.mono ?_; rintro e w' ⟨rfl, rfl⟩)
        | (go_at_call 22; refine K4.out.mono ?_; rintro e w' ⟨rfl, q, rfl⟩)
        | (go_at_call 18; refine (awake3_any _).mono ?_; rintro e w5 ⟨rfl, hb5⟩))
      go_ret
      exact ⟨rfl, below_up (below_drewN (Below.refl _ _) q) hb5⟩
    · have g1 : decide ((xs.length : Int) > 200) = false := by simp; omega
      have g2 : decide ((ys.length : Int) > 200) = true := by simp; omega
      go_enter Try.func3, Try.ntmps3
      go_wp2_with (go_at_call 18; refine (awake3_any _).mono ?_; rintro e w5 ⟨rfl, hb5⟩)
      go_ret
      exact ⟨rfl, hb5⟩
  · have g1 : decide ((xs.length : Int) > 200) = true := by simp; omega
    go_enter Try.func3, Try.ntmps3
    go_wp2_with (go_at_call 18; refine (awake3_any _).mono ?_; rintro e w5 ⟨rfl, hb5⟩)
    go_ret
    exact ⟨rfl, hb5⟩
end Go.Proofs.Ytojecaeblgghjaa
