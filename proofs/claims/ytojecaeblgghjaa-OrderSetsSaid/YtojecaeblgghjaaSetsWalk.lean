/-
  THE WALK of OrderSets.
-/
import Derived.Test.YtojecaeblgghjaaIn3
import Derived.Test.YtojecaeblgghjaaRefSet
set_option linter.unusedVariables false
set_option linter.unusedSimpArgs false
namespace Go.Proofs.Ytojecaeblgghjaa
open Go.RowKit Go.Sort LsP

theorem same_true (P Q : Option Addr) (c d : Nat) (l : List Int) (W : World) (lo lo' : Nat) (hp : Rd encI lo W P l) (hq : Rd encI lo' W Q l) (hl : l.length ≤ 1000000) :
    Calls Try.prog 25 #[.slice P l.length c, .slice Q l.length d] W fun e w' => e = .returned (.bool true) ∧ ∃ q, w' = W.drewN q := by
  have := refSame_any P Q c d l l W lo lo' hp hq hl hl
  simp only [decide_true] at this
  exact this

set_option maxHeartbeats 4000000 in
set_option maxRecDepth 100000 in
theorem sets_walk (A B : Option Addr) (c d : Nat) (xs ys : List Int) (x : Int) (w : World) (ha : Rd encI 0 w A xs) (hb : Rd encI 0 w B ys) (hm : xs.length ≤ maxLen) (hm' : ys.length ≤ maxLen) :
    Calls Try.prog 6 #[.slice A xs.length c, .slice B ys.length d, .int .i64 x] w fun e w' => e = .returned (.bool true) ∧ Below w.heap.size w w' := by
  unfold maxLen at hm hm'
  by_cases h1 : xs.length ≤ 200
  · have g1 : decide ((xs.length : Int) > 200) = false := by simp; omega
    by_cases h2 : ys.length ≤ 200
    · have g2 : decide ((ys.length : Int) > 200) = false := by simp; omega
      have HA := Lib.hid ha
      have HB := Lib.hid hb
      clear ha hb
      have ka : ∀ W, Below w.heap.size w W → Rd encI 0 W A xs := fun W h => HA.out.below h (Nat.le_refl _)
      have kb : ∀ W, Below w.heap.size w W → Rd encI 0 W B ys := fun W h => HB.out.below h (Nat.le_refl _)
      have KA := Lib.hid ka
      have KB := Lib.hid kb
      clear ka kb
      have L1 : (sset xs).length ≤ 1000000 := by have := sset_len xs; omega
      have L2 : (sset (xs ++ ys)).length ≤ 1000000 := by have := sset_len (xs ++ ys); rw [List.length_append] at this; omega
      have L3 : ((sset xs).filter fun x => decide (x ∈ sset ys)).length ≤ 1000000 := by have := List.length_filter_le (fun x => decide (x ∈ sset ys)) (sset xs); omega
      have L4 : ((sset xs).filter fun x => !decide (x ∈ sset ys)).length ≤ 1000000 := by have := List.length_filter_le (fun x => !decide (x ∈ sset ys)) (sset xs); omega
      generalize hS1 : sset xs = S1 at *
      generalize hS2 : sset (xs ++ ys) = S2 at *
      generalize hS3 : S1.filter (fun x => decide (x ∈ sset ys)) = S3 at *
      generalize hS4 : S1.filter (fun x => !decide (x ∈ sset ys)) = S4 at *
      have T1 := Lib.hid hS1; have T2 := Lib.hid hS2; have T3 := Lib.hid hS3; have T4 := Lib.hid hS4
      clear hS1 hS2 hS3 hS4
      go_enter Try.func6, Try.ntmps6
      go_wp2_with fail
      refine (rises_any A c xs _ 0 (KA.out _ (Below.refl _ _)) (by omega)).mono ?_
      rintro e W1 ⟨rfl, q1, hW1⟩
      have b1 : Below w.heap.size w W1 := by rw [hW1]; exact below_drewN (Below.refl _ _) q1
      clear hW1
      go_wp2_with fail
      refine (refRises_any A c xs _ 0 (KA.out _ b1) (by omega)).mono ?_
      rintro e W2 ⟨rfl, q2, hW2⟩
      have b2 : Below w.heap.size w W2 := by rw [hW2]; exact below_drewN b1 q2
      clear hW2 b1
      go_wp2_with fail
      refine (set_any A c xs _ 0 (KA.out _ b2) (by omega)).mono ?_
      rw [T1.out]
      rintro e W3 ⟨P1, p1, rfl, _, _, r1, _, c1⟩
      have b3 : Below w.heap.size w W3 := below_up b2 c1
      have R1 := Lib.hid r1
      clear r1 c1
      go_wp2_with fail
      refine (refSet_any A c xs _ (KA.out _ b3) (by omega)).mono ?_
      rw [T1.out]
      rintro e W4 ⟨Q1, q1', rfl, _, _, s1, _, d1⟩
      have b4 : Below w.heap.size w W4 := below_up b3 d1
      have k1 := same_true P1 Q1 p1 q1' S1 W4 _ _ (R1.out.below d1 (Nat.le_refl _)) s1 L1
      have KK1 := Lib.hid k1
      clear k1 s1 d1 b3
      go_wp2_with fail
      refine KK1.out.mono ?_
      rintro e W5 ⟨rfl, q, hW⟩
      have b5 : Below w.heap.size w W5 := by rw [hW]; exact below_drewN b4 q
      clear hW b4
      go_wp2_with fail
      refine (merge_any A B c d xs ys _ (KA.out _ b5) (KB.out _ b5) (by omega) (by omega)).mono ?_
      rw [T2.out]
      rintro e W6 ⟨P2, p2, rfl, _, _, r2, _, c2⟩
      have b6 : Below w.heap.size w W6 := below_up b5 c2
      have R2 := Lib.hid r2
      clear r2 c2
      go_wp2_with fail
      refine (refMerge_any A B c d xs ys _ (KA.out _ b6) (KB.out _ b6) (by omega) (by omega)).mono ?_
      rw [T2.out]
      rintro e W7 ⟨Q2, q2', rfl, _, _, s2, _, d2⟩
      have b7 : Below w.heap.size w W7 := below_up b6 d2
      have k2 := same_true P2 Q2 p2 q2' S2 W7 _ _ (R2.out.below d2 (Nat.le_refl _)) s2 L2
      have KK2 := Lib.hid k2
      clear k2 s2 d2 b6
      go_wp2_with fail
      refine KK2.out.mono ?_
      rintro e W8 ⟨rfl, q, hW⟩
      have b8 : Below w.heap.size w W8 := by rw [hW]; exact below_drewN b7 q
      clear hW b7
      go_wp2_with fail
      refine (both_any A B c d xs ys _ (KA.out _ b8) (KB.out _ b8) (by omega) (by omega)).mono ?_
      rw [T1.out, T3.out]
      rintro e W9 ⟨P3, p3, rfl, _, _, r3, _, c3⟩
      have b9 : Below w.heap.size w W9 := below_up b8 c3
      have R3 := Lib.hid r3
      clear r3 c3
      go_wp2_with fail
      refine (refBoth_any A B c d xs ys _ (KA.out _ b9) (KB.out _ b9) (by omega) (by omega)).mono ?_
      rw [T1.out, T3.out]
      rintro e W10 ⟨Q3, q3', rfl, _, _, s3, _, d3⟩
      have b10 : Below w.heap.size w W10 := below_up b9 d3
      have k3 := same_true P3 Q3 p3 q3' S3 W10 _ _ (R3.out.below d3 (Nat.le_refl _)) s3 L3
      have KK3 := Lib.hid k3
      clear k3 s3 d3 b9
      go_wp2_with fail
      refine KK3.out.mono ?_
      rintro e W11 ⟨rfl, q, hW⟩
      have b11 : Below w.heap.size w W11 := by rw [hW]; exact below_drewN b10 q
      clear hW b10
      go_wp2_with fail
      refine (less_any A B c d xs ys _ (KA.out _ b11) (KB.out _ b11) (by omega) (by omega)).mono ?_
      rw [T1.out, T4.out]
      rintro e W12 ⟨P4, p4, rfl, _, _, r4, _, c4⟩
      have b12 : Below w.heap.size w W12 := below_up b11 c4
      have R4 := Lib.hid r4
      clear r4 c4
      go_wp2_with fail
      refine (refLess_any A B c d xs ys _ (KA.out _ b12) (KB.out _ b12) (by omega) (by omega)).mono ?_
      rw [T1.out, T4.out]
      rintro e W13 ⟨Q4, q4', rfl, _, _, s4, _, d4⟩
      have b13 : Below w.heap.size w W13 := below_up b12 d4
      have k4 := same_true P4 Q4 p4 q4' S4 W13 _ _ (R4.out.below d4 (Nat.le_refl _)) s4 L4
      have KK4 := Lib.hid k4
      clear k4 s4 d4 b12
      go_wp2_with fail
      refine KK4.out.mono ?_
      rintro e W14 ⟨rfl, q, hW⟩
      have b14 : Below w.heap.size w W14 := by rw [hW]; exact below_drewN b13 q
      clear hW b13
      go_wp2_with fail
      refine (has_any A c xs x _ 0 (KA.out _ b14) (by omega)).mono ?_
      rintro e W15 ⟨rfl, rfl⟩
      go_wp2_with fail
      refine (refHas_any A c xs x _ 0 (KA.out _ b14) (by omega)).mono ?_
      rintro e W16 ⟨rfl, rfl⟩
      go_wp2_with fail
      refine (awake3_any _).mono ?_
      rintro e W17 ⟨rfl, hb7⟩
      go_wp2
      go_ret
      exact ⟨rfl, below_up b14 hb7⟩
    · have g2 : decide ((ys.length : Int) > 200) = true := by simp; omega
      go_enter Try.func6, Try.ntmps6
      go_wp2_with (go_at_call 18; refine (awake3_any _).mono ?_; rintro e w5 ⟨rfl, hb5⟩)
      go_ret
      exact ⟨rfl, hb5⟩
  · have g1 : decide ((xs.length : Int) > 200) = true := by simp; omega
    go_enter Try.func6, Try.ntmps6
    go_wp2_with (go_at_call 18; refine (awake3_any _).mono ?_; rintro e w5 ⟨rfl, hb5⟩)
    go_ret
    exact ⟨rfl, hb5⟩
end Go.Proofs.Ytojecaeblgghjaa
