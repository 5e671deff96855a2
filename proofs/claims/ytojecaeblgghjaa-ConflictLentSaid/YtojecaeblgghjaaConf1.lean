/-
  conflict.loads, place, one, check; the document's Check, Asked, in. (Printed by mkconf1.py.)
-/
import Derived.Test.YtojecaeblgghjaaOutG
import Derived.Deep.LoopGhost
set_option linter.unusedVariables false
set_option linter.unusedSimpArgs false
namespace Go.Proofs.Ytojecaeblgghjaa
open Go.RowKit Go.Sort LsP

/-- What is wrong with a list that is to be loaded. -/
def loadsR (xs : List T3) (n : Nat) : Int := if n > 512 then 90 else if xs.all fitT = true then 0 else 20
theorem loadsR_bad {xs : List T3} {n k : Nat} (hn : xs.length ≤ 512 ∧ xs.length = n) (hk : k < xs.length) (h : ¬ fitT xs[k]! = true) : loadsR xs n = 20 := by
  unfold loadsR
  rw [if_neg (by omega), if_neg]
  intro h'
  rw [List.all_eq_true] at h'
  rw [getElem!_pos xs k hk] at h
  exact h (h' _ (List.getElem_mem hk))
theorem loadsR_ok {xs : List T3} {n : Nat} (hn : n ≤ 512) (h : ∀ j, j < xs.length → fitT xs[j]! = true) : loadsR xs n = 0 := by
  unfold loadsR
  rw [if_neg (by omega), if_pos]
  rw [List.all_eq_true]
  intro x hx
  obtain ⟨i, hi, rfl⟩ := List.getElem_of_mem hx
  have := h i hi
  rwa [getElem!_pos xs i hi] at this
theorem loadsR_fit {xs : List T3} {n : Nat} (h : loadsR xs n = 0) : n ≤ 512 ∧ ∀ x ∈ xs, fitT x = true := by
  unfold loadsR at h
  split at h
  · cases h
  · split at h
    · rename_i h1 h2
      exact ⟨by omega, List.all_eq_true.1 h2⟩
    · cases h
open Classical in
/-- What is wrong with a list and a triple. -/
noncomputable def checkR (xs : List T3) (n : Nat) (a b c : Int) : Int := if loadsR xs n ≠ 0 then loadsR xs n else if ∀ i, i < 3 → goodP n [a, b, c] i then 0 else 21
theorem checkR_bad {xs : List T3} {n : Nat} {a b c : Int} (hl : loadsR xs n = 0) (h : ¬ ∀ i, i < 3 → goodP n [a, b, c] i) : checkR xs n a b c = 21 := by
  unfold checkR
  rw [if_neg (by simpa using hl), if_neg h]
theorem checkR_ok {xs : List T3} {n : Nat} {a b c : Int} (hl : loadsR xs n = 0) (h : ∀ i, i < 3 → goodP n [a, b, c] i) : checkR xs n a b c = 0 := by
  unfold checkR
  rw [if_neg (by simpa using hl), if_pos h]
theorem checkR_good {xs : List T3} {n : Nat} {a b c : Int} (h : checkR xs n a b c = 0) : loadsR xs n = 0 ∧ ∀ i, i < 3 → goodP n [a, b, c] i := by
  unfold checkR at h
  split at h
  · rename_i h1
    exact absurd h h1
  · rename_i h1
    split at h
    · exact ⟨by simpa using h1, by assumption⟩
    · cases h

set_option maxHeartbeats 8000000 in
set_option maxRecDepth 100000 in
theorem loads_any (A : Option Addr) (n c : Nat) (xs : List T3) (w : World) (ha : RdT 0 w A xs) (hn : xs.length = n) (hn2 : n ≤ 9223372036854775807) :
    Calls Try.prog 130 #[.slice A n c] w fun e w' => e = .returned (.int .i64 (loadsR xs n)) ∧ Below w.heap.size w w' := by
  have HA := Lib.hid ha
  have HN := Lib.hid hn
  clear ha hn
  by_cases h512 : n > 512
  · have hv : Hid (loadsR xs n = 90) := Lib.hid (by unfold loadsR; rw [if_pos h512])
    have e1 : decide ((n : Int) > 512) = true := by simp; omega
    clear h512
    go_enter Try.func130, Try.ntmps130
    go_wp2
    go_ret
    exact ⟨by rw [hv.out]; rfl, Below.refl _ _⟩
  · have e1 : decide ((n : Int) > 512) = false := by simp; omega
    have hn5 : Hid (xs.length ≤ 512) := Lib.hid (by rw [HN.out]; omega)
    go_enter Try.func130, Try.ntmps130
    go_wp2_with fail
    go_loopw [12] (fun i wr => ∃ k : Nat, k ≤ n ∧ i = .int .i64 k ∧ Hid (∀ j, j < k → fitT xs[j]! = true) ∧ Hid (Below w.heap.size w wr)) (fun i _ => n - (intOf i).toNat)
    case atStart => exact ⟨0, Nat.zero_le _, rfl, fun j h => by omega, Below.refl _ _⟩
    case round =>
      obtain ⟨k, hk, rfl, hfit, HB⟩ := hrel
      replace hfit := Lib.hid hfit.out
      replace HB := Lib.hid HB.out
      by_cases hlt : k < n
      · obtain ⟨b, off, rfl, _, q0, q1, q2⟩ := RdT.at3 (HA.out.below HB.out (Nat.le_refl _)) (k := k) (by rw [HN.out]; exact hlt)
        obtain ⟨⟨x, y, z⟩, hT⟩ : ∃ t, xs[k]! = t := ⟨_, rfl⟩
        rw [hT] at q0 q1 q2
        replace hT := Lib.hid hT
        simp only at q0 q1 q2
        have MB : Hid (Mem w [(wr.heap.size, o3 x y z 109)] (wr.alloc (o3 x y z 109))) := Lib.hid ((Mem.mk HB.out (fun p hp => by cases hp)).add _)
        go_wp2_with fail
        clear q0 q1 q2
        refine wp_loop_rounds 4 ?_
        have ix : ∀ W : World, (Instr.index 49 (.agg #[.int .i64 x, .int .i64 y, .int .i64 z]) (.int .i64 0)).run Try.prog W = .ok (.int .i64 x) W := fun _ => by kernel_rfl
        rw [rounds_succ]
        by_cases l0 : x < -1073741824
        · have dl : decide (x < -1073741824) = true := by simpa using l0
          have hv : Hid (loadsR xs n = 20) := Lib.hid (loadsR_bad ⟨hn5.out, HN.out⟩ (k := k) (by rw [HN.out]; exact hlt) (by rw [hT.out]; simp [fitT, fitC]; omega))
          clear l0
          go_wp2
          go_ret
          exact ⟨by rw [hv.out]; rfl, MB.out.below⟩
        · have dl : decide (x < -1073741824) = false := by simpa using l0
          by_cases u0 : x > 1073741824
          · have du : decide (x > 1073741824) = true := by simpa using u0
            have hv : Hid (loadsR xs n = 20) := Lib.hid (loadsR_bad ⟨hn5.out, HN.out⟩ (k := k) (by rw [HN.out]; exact hlt) (by rw [hT.out]; simp [fitT, fitC]; omega))
            clear l0 u0
            go_wp2
            go_ret
            exact ⟨by rw [hv.out]; rfl, MB.out.below⟩
          · have du : decide (x > 1073741824) = false := by simpa using u0
            go_wp2_with fail
            clear dl du ix
            have ix : ∀ W : World, (Instr.index 49 (.agg #[.int .i64 x, .int .i64 y, .int .i64 z]) (.int .i64 1)).run Try.prog W = .ok (.int .i64 y) W := fun _ => by kernel_rfl
            rw [rounds_succ]
            by_cases l1 : y < -1073741824
            · have dl : decide (y < -1073741824) = true := by simpa using l1
              have hv : Hid (loadsR xs n = 20) := Lib.hid (loadsR_bad ⟨hn5.out, HN.out⟩ (k := k) (by rw [HN.out]; exact hlt) (by rw [hT.out]; simp [fitT, fitC]; omega))
              clear l1 l0 u0
              go_wp2
              go_ret
              exact ⟨by rw [hv.out]; rfl, MB.out.below⟩
            · have dl : decide (y < -1073741824) = false := by simpa using l1
              by_cases u1 : y > 1073741824
              · have du : decide (y > 1073741824) = true := by simpa using u1
                have hv : Hid (loadsR xs n = 20) := Lib.hid (loadsR_bad ⟨hn5.out, HN.out⟩ (k := k) (by rw [HN.out]; exact hlt) (by rw [hT.out]; simp [fitT, fitC]; omega))
                clear l1 u1 l0 u0
                go_wp2
                go_ret
                exact ⟨by rw [hv.out]; rfl, MB.out.below⟩
              · have du : decide (y > 1073741824) = false := by simpa using u1
                go_wp2_with fail
                clear dl du ix
                have ix : ∀ W : World, (Instr.index 49 (.agg #[.int .i64 x, .int .i64 y, .int .i64 z]) (.int .i64 2)).run Try.prog W = .ok (.int .i64 z) W := fun _ => by kernel_rfl
                rw [rounds_succ]
                by_cases l2 : z < -1073741824
                · have dl : decide (z < -1073741824) = true := by simpa using l2
                  have hv : Hid (loadsR xs n = 20) := Lib.hid (loadsR_bad ⟨hn5.out, HN.out⟩ (k := k) (by rw [HN.out]; exact hlt) (by rw [hT.out]; simp [fitT, fitC]; omega))
                  clear l2 l0 u0 l1 u1
                  go_wp2
                  go_ret
                  exact ⟨by rw [hv.out]; rfl, MB.out.below⟩
                · have dl : decide (z < -1073741824) = false := by simpa using l2
                  by_cases u2 : z > 1073741824
                  · have du : decide (z > 1073741824) = true := by simpa using u2
                    have hv : Hid (loadsR xs n = 20) := Lib.hid (loadsR_bad ⟨hn5.out, HN.out⟩ (k := k) (by rw [HN.out]; exact hlt) (by rw [hT.out]; simp [fitT, fitC]; omega))
                    clear l2 u2 l0 u0 l1 u1
                    go_wp2
                    go_ret
                    exact ⟨by rw [hv.out]; rfl, MB.out.below⟩
                  · have du : decide (z > 1073741824) = false := by simpa using u2
                    go_wp2_with fail
                    clear dl du ix
                    rw [rounds_succ]
                    have hfit2 : Hid (∀ j, j < k + 1 → fitT xs[j]! = true) := Lib.hid (fun j hj => by
                      by_cases e : j = k
                      · rw [e, hT.out]; simp [fitT, fitC]; omega
                      · exact hfit.out j (by omega))
                    clear l0 u0 l1 u1 l2 u2
                    go_wp2_with fail
                    go_roundw
                    case rel => exact ⟨k + 1, by omega, by go_num, hfit2.out, MB.out.below⟩
                    case measure => simp [intOf]; omega
      · obtain rfl : k = n := by omega
        have hv : Hid (loadsR xs k = 0) := Lib.hid (loadsR_ok (by omega) (fun j hj => hfit.out j (by rw [HN.out] at hj; exact hj)))
        go_wp2
        go_ret
        exact ⟨by rw [hv.out]; rfl, HB.out⟩

theorem place_any (A : Option Addr) (n c : Nat) (x : Int) (w : World) :
    Calls Try.prog 110 #[.slice A n c, .int .i64 x] w fun e w' => e = .returned (.bool (decide (0 ≤ x) && decide (x < (n : Int)))) ∧ w' = w := by
  by_cases h1 : 0 ≤ x
  · have d1 : decide (x ≥ 0) = true := by simpa using h1
    cases h2 : decide (x < (n : Int))
    · rw [decide_eq_true h1]
      go_enter Try.func110, Try.ntmps110
      go_wp2
      go_ret
      exact ⟨rfl, rfl⟩
    · rw [decide_eq_true h1]
      go_enter Try.func110, Try.ntmps110
      go_wp2
      go_ret
      exact ⟨rfl, rfl⟩
  · have d1 : decide (x ≥ 0) = false := by simpa using h1
    rw [decide_eq_false h1]
    go_enter Try.func110, Try.ntmps110
    go_wp2
    go_ret
    exact ⟨rfl, rfl⟩

def inT (a b c x : Int) : Bool := decide (x = a ∨ x = b ∨ x = c)

theorem one_any (a b c x : Int) (w : World) :
    Calls Try.prog 111 #[.agg #[.int .i64 a, .int .i64 b, .int .i64 c], .int .i64 x] w fun e w' => e = .returned (.bool (inT a b c x)) ∧ Below w.heap.size w w' := by
  have MB := Lib.hid (one_start w (o3 a b c 50))
  obtain ⟨d0, d1, d2, e0, e1, e2⟩ := row3 MB.out.head
  by_cases h0 : x = a
  · have q0 : (x == a) = true := by simpa using h0
    rw [show inT a b c x = true from decide_eq_true (.inl h0)]
    clear h0
    go_enter Try.func111, Try.ntmps111
    go_wp2
    go_ret
    exact ⟨rfl, MB.out.below⟩
  · have q0 : (x == a) = false := by simpa using h0
    by_cases h1 : x = b
    · have q1 : (x == b) = true := by simpa using h1
      rw [show inT a b c x = true from decide_eq_true (.inr (.inl h1))]
      clear h0 h1
      go_enter Try.func111, Try.ntmps111
      go_wp2
      go_ret
      exact ⟨rfl, MB.out.below⟩
    · have q1 : (x == b) = false := by simpa using h1
      by_cases h2 : x = c
      · have q2 : (x == c) = true := by simpa using h2
        rw [show inT a b c x = true from decide_eq_true (.inr (.inr h2))]
        clear h0 h1 h2
        go_enter Try.func111, Try.ntmps111
        go_wp2
        go_ret
        exact ⟨rfl, MB.out.below⟩
      · have q2 : (x == c) = false := by simpa using h2
        rw [show inT a b c x = false from decide_eq_false (by omega)]
        clear h0 h1 h2
        go_enter Try.func111, Try.ntmps111
        go_wp2
        go_ret
        exact ⟨rfl, MB.out.below⟩

set_option maxHeartbeats 8000000 in
set_option maxRecDepth 100000 in
theorem check_any (A : Option Addr) (n c' : Nat) (xs : List T3) (a b c : Int) (w : World) (ha : RdT 0 w A xs) (hn : xs.length = n) (hn2 : n ≤ 9223372036854775807) :
    Calls Try.prog 109 #[.slice A n c', .agg #[.int .i64 a, .int .i64 b, .int .i64 c]] w fun e w' => e = .returned (.int .i64 (checkR xs n a b c)) ∧ Below w.heap.size w w' := by
  have MB := Lib.hid (one_start w (o3 a b c 50))
  have kl := Lib.hid (loads_any A n c' xs (w.alloc (o3 a b c 50)) (ha.below MB.out.below (Nat.le_refl _)) hn hn2)
  clear ha hn
  go_enter Try.func109, Try.ntmps109
  go_wp2_with fail
  refine kl.out.mono ?_
  rintro e w1 ⟨rfl, hb⟩
  replace MB := Lib.hid (MB.out.next hb)
  clear hb kl
  by_cases hl : loadsR xs n = 0
  · have e1 : (loadsR xs n != 0) = false := by simpa using hl
    rw [hl]
    replace hl := Lib.hid hl
    clear e1
    obtain ⟨d0, d1, d2, _⟩ := row3 MB.out.head
    go_wp2_with fail
    cases hp0 : decide (0 ≤ a) && decide (a < (n : Int))
    · have hv : Hid (checkR xs n a b c = 21) := Lib.hid (checkR_bad hl.out (fun h => by have h1 := (h 0 (by omega)).1; have h2 := (h 0 (by omega)).2.1; simp at h1 h2 hp0; omega))
      have kp := place_any A n c' a
      rw [hp0] at kp
      clear hp0
      go_wp2_with fail
      refine (kp _).mono ?_
      rintro e w' ⟨rfl, rfl⟩
      go_wp2
      go_ret
      exact ⟨by rw [hv.out]; rfl, MB.out.below⟩
    · have kp := place_any A n c' a
      rw [hp0] at kp
      go_wp2_with fail
      refine (kp _).mono ?_
      rintro e w' ⟨rfl, rfl⟩
      clear kp
      cases hp1 : decide (0 ≤ b) && decide (b < (n : Int))
      · have hv : Hid (checkR xs n a b c = 21) := Lib.hid (checkR_bad hl.out (fun h => by have h1 := (h 1 (by omega)).1; have h2 := (h 1 (by omega)).2.1; simp at h1 h2 hp1; omega))
        have kp := place_any A n c' b
        rw [hp1] at kp
        clear hp0 hp1
        go_wp2_with fail
        refine (kp _).mono ?_
        rintro e w' ⟨rfl, rfl⟩
        go_wp2
        go_ret
        exact ⟨by rw [hv.out]; rfl, MB.out.below⟩
      · have kp := place_any A n c' b
        rw [hp1] at kp
        go_wp2_with fail
        refine (kp _).mono ?_
        rintro e w' ⟨rfl, rfl⟩
        clear kp
        cases hp2 : decide (0 ≤ c) && decide (c < (n : Int))
        · have hv : Hid (checkR xs n a b c = 21) := Lib.hid (checkR_bad hl.out (fun h => by have h1 := (h 2 (by omega)).1; have h2 := (h 2 (by omega)).2.1; simp at h1 h2 hp2; omega))
          have kp := place_any A n c' c
          rw [hp2] at kp
          clear hp0 hp1 hp2
          go_wp2_with fail
          refine (kp _).mono ?_
          rintro e w' ⟨rfl, rfl⟩
          go_wp2
          go_ret
          exact ⟨by rw [hv.out]; rfl, MB.out.below⟩
        · have kp := place_any A n c' c
          rw [hp2] at kp
          go_wp2_with fail
          refine (kp _).mono ?_
          rintro e w' ⟨rfl, rfl⟩
          clear kp
          by_cases n0 : a = b
          · have hv : Hid (checkR xs n a b c = 21) := Lib.hid (checkR_bad hl.out (fun h => (h 1 (by omega)).2.2 0 (by omega) (by simp; omega)))
            have q0 : (a == b) = true := by simpa using n0
            clear n0 hp0 hp1 hp2
            go_wp2
            go_ret
            exact ⟨by rw [hv.out]; rfl, MB.out.below⟩
          · have q0 : (a == b) = false := by simpa using n0
            by_cases n1 : b = c
            · have hv : Hid (checkR xs n a b c = 21) := Lib.hid (checkR_bad hl.out (fun h => (h 2 (by omega)).2.2 1 (by omega) (by simp; omega)))
              have q1 : (b == c) = true := by simpa using n1
              clear n0 n1 hp0 hp1 hp2
              go_wp2
              go_ret
              exact ⟨by rw [hv.out]; rfl, MB.out.below⟩
            · have q1 : (b == c) = false := by simpa using n1
              by_cases n2 : c = a
              · have hv : Hid (checkR xs n a b c = 21) := Lib.hid (checkR_bad hl.out (fun h => (h 2 (by omega)).2.2 0 (by omega) (by simp; omega)))
                have q2 : (c == a) = true := by simpa using n2
                clear n0 n1 n2 hp0 hp1 hp2
                go_wp2
                go_ret
                exact ⟨by rw [hv.out]; rfl, MB.out.below⟩
              · have q2 : (c == a) = false := by simpa using n2
                have hv : Hid (checkR xs n a b c = 0) := Lib.hid (checkR_ok hl.out (by
                  simp only [Bool.and_eq_true, decide_eq_true_eq] at hp0 hp1 hp2
                  intro i hi
                  rcases (by omega : i = 0 ∨ i = 1 ∨ i = 2) with rfl | rfl | rfl
                  · exact ⟨hp0.1, hp0.2, fun j hj => by omega⟩
                  · refine ⟨hp1.1, hp1.2, fun j hj => ?_⟩
                    obtain rfl : j = 0 := by omega
                    exact n0
                  · refine ⟨hp2.1, hp2.2, fun j hj => ?_⟩
                    rcases (by omega : j = 0 ∨ j = 1) with rfl | rfl
                    · exact fun e => n2 e.symm
                    · exact n1))
                clear n0 n1 n2 hp0 hp1 hp2
                go_wp2
                go_ret
                exact ⟨by rw [hv.out]; rfl, MB.out.below⟩
  · have e1 : (loadsR xs n != 0) = true := by simpa using hl
    have hv : Hid (checkR xs n a b c = loadsR xs n) := Lib.hid (by unfold checkR; rw [if_pos hl])
    generalize loadsR xs n = r at *
    clear hl
    go_wp2
    go_ret
    exact ⟨by rw [hv.out]; rfl, MB.out.below⟩

set_option maxHeartbeats 8000000 in
set_option maxRecDepth 100000 in
theorem refCheck_any (A : Option Addr) (n c : Nat) (xs : List T3) (w : World) (ha : RdT 0 w A xs) (hn : xs.length = n) (hn2 : n ≤ 9223372036854775807) :
    Calls Try.prog 133 #[.slice A n c] w fun e w' => ∃ i : Int, e = .returned (.tuple #[.int .i64 (loadsR xs n), .int .i64 i]) ∧ Below w.heap.size w w' := by
  have HA := Lib.hid ha
  have HN := Lib.hid hn
  clear ha hn
  by_cases h512 : n > 512
  · have hv : Hid (loadsR xs n = 90) := Lib.hid (by unfold loadsR; rw [if_pos h512])
    have e1 : decide ((n : Int) > 512) = true := by simp; omega
    clear h512
    go_enter Try.func133, Try.ntmps133
    go_wp2
    go_ret2
    exact ⟨_, by rw [hv.out]; rfl, Below.refl _ _⟩
  · have e1 : decide ((n : Int) > 512) = false := by simp; omega
    have hn5 : Hid (xs.length ≤ 512) := Lib.hid (by rw [HN.out]; omega)
    go_enter Try.func133, Try.ntmps133
    go_wp2_with fail
    go_loopw [4] (fun i wr => ∃ k : Nat, k ≤ n ∧ i = .int .i64 k ∧ Hid (∀ j, j < k → fitT xs[j]! = true) ∧ Hid (Below w.heap.size w wr)) (fun i _ => n - (intOf i).toNat)
    case atStart => exact ⟨0, Nat.zero_le _, rfl, fun j h => by omega, Below.refl _ _⟩
    case round =>
      obtain ⟨k, hk, rfl, hfit, HB⟩ := hrel
      replace hfit := Lib.hid hfit.out
      replace HB := Lib.hid HB.out
      by_cases hlt : k < n
      · obtain ⟨b, off, rfl, _, q0, q1, q2⟩ := RdT.at3 (HA.out.below HB.out (Nat.le_refl _)) (k := k) (by rw [HN.out]; exact hlt)
        obtain ⟨⟨x, y, z⟩, hT⟩ : ∃ t, xs[k]! = t := ⟨_, rfl⟩
        rw [hT] at q0 q1 q2
        replace hT := Lib.hid hT
        simp only at q0 q1 q2
        have kf := refFit_any x y z
        cases hf : fitT ⟨x, y, z⟩
        · rw [hf] at kf
          have hv : Hid (loadsR xs n = 20) := Lib.hid (loadsR_bad ⟨hn5.out, HN.out⟩ (k := k) (by rw [HN.out]; exact hlt) (by rw [hT.out, hf]; simp))
          clear hf
          go_wp2_with fail
          refine (kf _).mono ?_
          rintro e w1 ⟨rfl, hb⟩
          replace HB := Lib.hid (below_up HB.out hb)
          clear hb kf q0 q1 q2
          go_wp2
          go_ret2
          exact ⟨_, by rw [hv.out]; rfl, HB.out⟩
        · rw [hf] at kf
          have hfit2 : Hid (∀ j, j < k + 1 → fitT xs[j]! = true) := Lib.hid (fun j hj => by
            by_cases e : j = k
            · rw [e, hT.out]; exact hf
            · exact hfit.out j (by omega))
          clear hf
          go_wp2_with fail
          refine (kf _).mono ?_
          rintro e w1 ⟨rfl, hb⟩
          replace HB := Lib.hid (below_up HB.out hb)
          clear hb kf q0 q1 q2
          go_wp2_with fail
          go_roundw
          case rel => exact ⟨k + 1, by omega, by go_num, hfit2.out, HB.out⟩
          case measure => simp [intOf]; omega
      · obtain rfl : k = n := by omega
        have hv : Hid (loadsR xs k = 0) := Lib.hid (loadsR_ok (by omega) (fun j hj => hfit.out j (by rw [HN.out] at hj; exact hj)))
        go_wp2
        go_ret2
        exact ⟨_, by rw [hv.out]; rfl, HB.out⟩

set_option maxHeartbeats 8000000 in
set_option maxRecDepth 100000 in
theorem refAsked_any (A : Option Addr) (n c' : Nat) (xs : List T3) (a b c : Int) (w : World) (ha : RdT 0 w A xs) (hn : xs.length = n) (hn2 : n ≤ 9223372036854775807) :
    Calls Try.prog 113 #[.slice A n c', .agg #[.int .i64 a, .int .i64 b, .int .i64 c]] w fun e w' => e = .returned (.int .i64 (checkR xs n a b c)) ∧ Below w.heap.size w w' := by
  have MB := Lib.hid (one_start w (o3 a b c 50))
  have kl := Lib.hid (refCheck_any A n c' xs (w.alloc (o3 a b c 50)) (ha.below MB.out.below (Nat.le_refl _)) hn hn2)
  clear ha hn
  go_enter Try.func113, Try.ntmps113
  go_wp2_with fail
  refine kl.out.mono ?_
  rintro e w1 ⟨i, rfl, hb⟩
  replace MB := Lib.hid (MB.out.next hb)
  clear hb kl
  by_cases hl : loadsR xs n = 0
  · rw [hl]
    have hv : Hid (checkR xs n a b c = placesR n [a, b, c]) := Lib.hid (by
      unfold checkR placesR
      rw [if_neg (by simpa using hl)]
      by_cases h : ∀ i, i < 3 → goodP n [a, b, c] i
      · rw [if_pos h]
        exact (if_pos h).symm
      · rw [if_neg h]
        exact (if_neg h).symm)
    clear hl
    obtain ⟨d0, d1, d2, _⟩ := row3 MB.out.head
    have kp : Hid (Calls Try.prog 98 #[.slice A n c', .slice (some ⟨w1.heap.size, 0, none⟩) 3 3] (w1.alloc (oI [a, b, c] 3)) fun e w' => e = .returned (.int .i64 (placesR n [a, b, c])) ∧ ∃ q, w' = (w1.alloc (oI [a, b, c] 3)).drewN q) :=
      Lib.hid (refPlaces_any A (some ⟨w1.heap.size, 0, none⟩) n c' 3 [a, b, c] (w1.alloc (oI [a, b, c] 3)) ((Rd.lit (enc := encI) [a, b, c]).low (Nat.zero_le _)) (by simp))
    have MB1 := Lib.hid (MB.out.add (oI [a, b, c] 3)).tail
    go_wp2_with fail
    refine kp.out.mono ?_
    rintro e w2 ⟨rfl, q, hq⟩
    have HB : Hid (Below w.heap.size w w2) := Lib.hid (by rw [hq]; exact below_drewN MB1.out.below q)
    clear hq d0 d1 d2
    go_wp2
    go_ret
    exact ⟨by rw [hv.out]; rfl, HB.out⟩
  · have e1 : (loadsR xs n != 0) = true := by simpa using hl
    have hv : Hid (checkR xs n a b c = loadsR xs n) := Lib.hid (by unfold checkR; rw [if_pos hl])
    generalize loadsR xs n = r at *
    clear hl
    go_wp2
    go_ret
    exact ⟨by rw [hv.out]; rfl, MB.out.below⟩
end Go.Proofs.Ytojecaeblgghjaa
