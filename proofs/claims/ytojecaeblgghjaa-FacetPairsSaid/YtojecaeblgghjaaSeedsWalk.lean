/-
  FacetSeeds: the walk.
-/
import Derived.Test.YtojecaeblgghjaaRefSeed
import Derived.Test.YtojecaeblgghjaaOutW
import Derived.Test.YtojecaeblgghjaaRidge
import Derived.Test.YtojecaeblgghjaaSameTris
import Derived.Test.YtojecaeblgghjaaAwake5
set_option linter.unusedVariables false
set_option linter.unusedSimpArgs false
namespace Go.Proofs.Ytojecaeblgghjaa
open Go.RowKit Go.Sort LsP

/-- The facet over three of the first four places. -/
noncomputable def sdO (xs : List T3) (n k : Nat) : T3 := (outR xs n (sd k).a (sd k).b (sd k).c).1

theorem seed_good {n : Nat} (hn : 4 ≤ n) (k : Nat) (hk : k < 4) : ∃ F : Nat, free3 (sd k).a (sd k).b (sd k).c = F ∧ (∀ a, a < 4 → goodP n [(sd k).a, (sd k).b, (sd k).c, (F : Int)] a) ∧ ∀ x, x ∈ [(sd k).a, (sd k).b, (sd k).c, (F : Int)] ↔ x ∈ ([0, 1, 2, 3] : List Int) := by
  rcases (by omega : k = 0 ∨ k = 1 ∨ k = 2 ∨ k = 3) with rfl | rfl | rfl | rfl
  · exact ⟨0, by decide, good_four (by simp [sd]; omega) (by simp [sd]; omega) (by simp [sd]; omega) (by simp; omega) (by simp [Unlike, sd]), fun x => by simp [sd]; omega⟩
  · exact ⟨1, by decide, good_four (by simp [sd]; omega) (by simp [sd]; omega) (by simp [sd]; omega) (by simp; omega) (by simp [Unlike, sd]), fun x => by simp [sd]; omega⟩
  · exact ⟨2, by decide, good_four (by simp [sd]; omega) (by simp [sd]; omega) (by simp [sd]; omega) (by simp; omega) (by simp [Unlike, sd]), fun x => by simp [sd]; omega⟩
  · exact ⟨3, by decide, good_four (by simp [sd]; omega) (by simp [sd]; omega) (by simp [sd]; omega) (by simp; omega) (by simp [Unlike, sd]), fun x => by simp [sd]⟩

theorem seed_fit {xs : List T3} {n : Nat} (hn : 4 ≤ n) (hf : ∀ x ∈ ([0, 1, 2, 3] : List Int), fitT xs[x.toNat]! = true) (k : Nat) (hk : k < 4) : (outR xs n (sd k).a (sd k).b (sd k).c).2 = 0 := by
  obtain ⟨F, e, hG, hm⟩ := seed_good hn k hk
  have h := signR_good (xs := xs) hG (fun x hx => hf x ((hm x).1 hx))
  unfold outR
  rw [if_neg (by omega), e, if_neg (by simpa using h)]
  split <;> rfl
theorem seed_unfit {xs : List T3} {n : Nat} (hn : 4 ≤ n) (hf : ¬ ∀ x ∈ ([0, 1, 2, 3] : List Int), fitT xs[x.toNat]! = true) (k : Nat) (hk : k < 4) : outR xs n (sd k).a (sd k).b (sd k).c = (⟨0, 0, 0⟩, 20) := by
  obtain ⟨F, e, hG, hm⟩ := seed_good hn k hk
  have h := signR_nofit (xs := xs) hG (fun h => hf (fun x hx => h x ((hm x).2 hx)))
  unfold outR
  rw [if_neg (by omega), e, h]
  simp
theorem seed_few {xs : List T3} {n : Nat} (hn : n < 4) (a b c : Int) : outR xs n a b c = (⟨0, 0, 0⟩, 21) := by
  unfold outR
  rw [if_pos hn]

/-- facet.Seed and the document's, where all is well. -/
theorem seed_both (A : Option Addr) (n c : Nat) (xs : List T3) (w : World) (ha : RdT 0 w A xs) (hn : xs.length = n) (hn2 : n ≤ 9223372036854775807) (h4 : 4 ≤ n) (hf : ∀ x ∈ ([0, 1, 2, 3] : List Int), fitT xs[x.toNat]! = true) :
    (Calls Try.prog 50 #[.slice A n c] w fun e w' => ∃ A', e = .returned (.tuple #[.slice A' (sset ((four (sdO xs n)).map canon)).length (sset ((four (sdO xs n)).map canon)).length, .int .i64 0]) ∧ RdT w.heap.size w' A' (sset ((four (sdO xs n)).map canon)) ∧ Below w.heap.size w w') ∧
    (Calls Try.prog 51 #[.slice A n c] w fun e w' => ∃ A' c', e = .returned (.tuple #[.slice A' (sset ((four (sdO xs n)).map canon)).length c', .int .i64 0]) ∧ RdT w.heap.size w' A' (sset ((four (sdO xs n)).map canon)) ∧ Below w.heap.size w w') := by
  have hI : ∀ k, k < 4 → InI (sd k).a ∧ InI (sd k).b ∧ InI (sd k).c := fun k hk => by
    rcases (by omega : k = 0 ∨ k = 1 ∨ k = 2 ∨ k = 3) with rfl | rfl | rfl | rfl <;> simp [sd, InI]
  constructor
  · refine seed_ok A n c (sdO xs n) w (fun k hk W hW => ?_)
    have h := out_any A n c xs (sd k).a (sd k).b (sd k).c (hI k hk).1 (hI k hk).2.1 (hI k hk).2.2 W (ha.below hW (Nat.le_refl _)) hn hn2
    rw [seed_fit h4 hf k hk] at h
    exact h
  · refine refSeed_ok A n c (sdO xs n) w (fun k hk W hW => ?_)
    have h := refOut_any A n c xs (sd k).a (sd k).b (sd k).c W (ha.below hW (Nat.le_refl _)) hn hn2
    rw [seed_fit h4 hf k hk] at h
    exact h
theorem seed_err (A : Option Addr) (n c : Nat) (xs : List T3) (w : World) (ha : RdT 0 w A xs) (hn : xs.length = n) (hn2 : n ≤ 9223372036854775807) (er : Int) (her : er ≠ 0) (ho : outR xs n 1 2 3 = (⟨0, 0, 0⟩, er)) :
    (Calls Try.prog 50 #[.slice A n c] w fun e w' => e = .returned (.tuple #[.slice none 0 0, .int .i64 er]) ∧ Below w.heap.size w w') ∧
    (Calls Try.prog 51 #[.slice A n c] w fun e w' => e = .returned (.tuple #[.slice none 0 0, .int .i64 er]) ∧ Below w.heap.size w w') := by
  constructor
  · refine seed_bad A n c ⟨0, 0, 0⟩ er her w (fun W hW => ?_)
    have h := out_any A n c xs 1 2 3 (by simp [InI]) (by simp [InI]) (by simp [InI]) W (ha.below hW (Nat.le_refl _)) hn hn2
    rw [ho] at h
    exact h
  · refine refSeed_bad A n c ⟨0, 0, 0⟩ er her w (fun W hW => ?_)
    have h := refOut_any A n c xs 1 2 3 W (ha.below hW (Nat.le_refl _)) hn hn2
    rw [ho] at h
    exact h

set_option maxHeartbeats 4000000 in
set_option maxRecDepth 100000 in
theorem seeds_walk (A : Option Addr) (n c : Nat) (xs : List T3) (w : World) (ha : RdT 0 w A xs) (hn : xs.length = n) :
    Calls Try.prog 10 #[.slice A n c] w fun e w' => e = .returned (.bool true) ∧ Below w.heap.size w w' := by
  by_cases h100 : n > 100
  · have e1 : decide ((n : Int) > 100) = true := by simp; omega
    clear h100 ha hn
    go_enter Try.func10, Try.ntmps10
    go_wp2_with fail
    refine (awake5_any _).mono ?_
    rintro e w' ⟨rfl, hb⟩
    go_wp2
    go_ret
    exact ⟨rfl, hb⟩
  · have e1 : decide ((n : Int) > 100) = false := by simp; omega
    by_cases h4 : n < 4
    · have k1 := Lib.hid (seed_err A n c xs w ha hn (by omega) 21 (by decide) (seed_few h4 1 2 3)).1
      have e2 : decide ((n : Int) < 4) = true := by simp; omega
      clear h100 h4 ha hn
      go_enter Try.func10, Try.ntmps10
      go_wp2_with fail
      refine k1.out.mono ?_
      rintro e w1 ⟨rfl, hb⟩
      have HB := Lib.hid hb
      clear hb k1
      go_wp2_with fail
      refine (awake5_any _).mono ?_
      rintro e w2 ⟨rfl, hb⟩
      replace HB := Lib.hid (below_up HB.out hb)
      clear hb
      go_wp2
      go_ret
      exact ⟨rfl, HB.out⟩
    · have e2 : decide ((n : Int) < 4) = false := by simp; omega
      by_cases hf : ∀ x ∈ ([0, 1, 2, 3] : List Int), fitT xs[x.toNat]! = true
      · have k1 := Lib.hid (seed_both A n c xs w ha hn (by omega) (by omega) hf).1
        have k2 : Hid (∀ W, Below w.heap.size w W → _) := Lib.hid (fun W hW => (seed_both A n c xs W (ha.below hW (Nat.le_refl _)) hn (by omega) (by omega) hf).2)
        have hl : (sset ((four (sdO xs n)).map canon)).length ≤ 1000000 := by
          have := sset_len ((four (sdO xs n)).map canon)
          rw [List.length_map, four_len] at this
          omega
        replace hl := Lib.hid hl
        clear h100 h4 ha hn hf
        generalize sset ((four (sdO xs n)).map canon) = L at *
        go_enter Try.func10, Try.ntmps10
        go_wp2_with fail
        refine k1.out.mono ?_
        rintro e w1 ⟨A1, rfl, rd1, hb⟩
        have HB := Lib.hid hb
        replace rd1 := Lib.hid rd1
        clear hb k1
        go_wp2_with fail
        refine (k2.out _ HB.out).mono ?_
        rintro e w2 ⟨A2, c2, rfl, rd2, hb⟩
        have R1 : Hid (RdT 0 w2 A1 L) := Lib.hid ((rd1.out.below hb (Nat.le_refl _)).low (Nat.zero_le _))
        have R2 : Hid (RdT 0 w2 A2 L) := Lib.hid (rd2.low (Nat.zero_le _))
        replace HB := Lib.hid (below_up HB.out hb)
        clear hb k2 rd1 rd2
        go_wp2_with fail
        refine (sameTris_any A1 A2 L.length c2 L w2 R1.out R2.out hl.out).mono ?_
        rintro e w3 ⟨rfl, q, hq⟩
        replace HB := Lib.hid (show Below w.heap.size w w3 by rw [hq]; exact below_drewN HB.out q)
        clear hq R1 R2
        go_wp2_with fail
        refine (awake5_any _).mono ?_
        rintro e w4 ⟨rfl, hb⟩
        replace HB := Lib.hid (below_up HB.out hb)
        clear hb
        go_wp2
        go_ret
        exact ⟨rfl, HB.out⟩
      · have ho : outR xs n 1 2 3 = (⟨0, 0, 0⟩, 20) := seed_unfit (by omega) hf 0 (by omega)
        have k1 := Lib.hid (seed_err A n c xs w ha hn (by omega) 20 (by decide) ho).1
        have k2 : Hid (∀ W, Below w.heap.size w W → _) := Lib.hid (fun W hW => (seed_err A n c xs W (ha.below hW (Nat.le_refl _)) hn (by omega) 20 (by decide) ho).2)
        clear h100 h4 ha hn hf ho
        go_enter Try.func10, Try.ntmps10
        go_wp2_with fail
        refine k1.out.mono ?_
        rintro e w1 ⟨rfl, hb⟩
        have HB := Lib.hid hb
        clear hb k1
        go_wp2_with fail
        refine (k2.out _ HB.out).mono ?_
        rintro e w2 ⟨rfl, hb⟩
        replace HB := Lib.hid (below_up HB.out hb)
        clear hb k2
        have ks := Lib.hid (sameTris_any none none 0 0 [] w2 Rd.nil Rd.nil (by simp))
        go_wp2_with fail
        refine ks.out.mono ?_
        rintro e w3 ⟨rfl, q, hq⟩
        replace HB := Lib.hid (show Below w.heap.size w w3 by rw [hq]; exact below_drewN HB.out q)
        clear hq ks
        go_wp2_with fail
        refine (awake5_any _).mono ?_
        rintro e w4 ⟨rfl, hb⟩
        replace HB := Lib.hid (below_up HB.out hb)
        clear hb
        go_wp2
        go_ret
        exact ⟨rfl, HB.out⟩
end Go.Proofs.Ytojecaeblgghjaa
