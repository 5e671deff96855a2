/-
  CONTRACTS AT TEXTS: Rises, Has, in, Compare. (Printed by mktexts.py out of the template at ints.)
-/
import Derived.Test.YtojecaeblgghjaaTSet
set_option linter.unusedVariables false
set_option linter.unusedSimpArgs false
namespace Go.Proofs.Ytojecaeblgghjaa
open Go.RowKit Go.Sort LsP

set_option maxHeartbeats 2000000 in
set_option maxRecDepth 100000 in
theorem risesT_any (A : Option Addr) (c : Nat) (xs : List (List UInt8)) (w : World) (lo : Nat) (ha : Rd encStr lo w A xs) (hn : xs.length ≤ 1000000) :
    Calls Try.prog 41 #[.slice A xs.length c] w fun e w' => e = .returned (.bool (risesB xs)) ∧ ∃ q, w' = w.drewN q := by
  generalize hN : xs.length = n at *
  have HL := Lib.hid hN
  clear hN
  go_enter Try.func41, Try.ntmps41
  go_wp2
  go_loopw [6] (fun i wr => ∃ k : Nat, k ≤ n ∧ i = .int .i64 k ∧ Hid (∀ j, j + 1 < k → xs[j]! < xs[j + 1]!) ∧ ∃ q, wr = w.drewN q) (fun i _ => n - (intOf i).toNat)
  case atStart => exact ⟨0, Nat.zero_le _, rfl, fun j hj => absurd hj (by omega), 0, rfl⟩
  case round =>
    obtain ⟨k, hk, rfl, HR, q, rfl⟩ := hrel
    by_cases hlt : k < n
    · obtain ⟨b, off, rfl, hbw, hcell⟩ := ha.at_ (k := k) (by rw [HL.out]; exact hlt)
      by_cases h0 : k = 0
      · subst h0
        have hg : decide ((0 : Int) > 0) = false := by simp
        go_wp2
        go_quiet (fail)
        go_wp2
        go_roundw
        case rel => exact ⟨1, by omega, by go_num, fun j hj => absurd hj (by omega), by first | exact ⟨_, rfl⟩ | exact dr1 ..⟩
        case measure => simp [intOf]; omega
      · obtain ⟨m, rfl⟩ : ∃ m, k = m + 1 := ⟨k - 1, by omega⟩
        obtain ⟨b', off', e', _, hcell'⟩ := ha.at_ (k := m) (by rw [HL.out]; omega)
        injection e' with e'
        injection e' with e1 e2
        subst e1; subst e2
        have hs : Hid (xs[m]! < xs[m + 1]! → ∀ j, j + 1 < m + 1 + 1 → xs[j]! < xs[j + 1]!) := fun h j hj => by
          by_cases e : j = m
          · rw [e]; exact h
          · exact HR.out j (by omega)
        have hf : Hid (¬ xs[m]! < xs[m + 1]! → risesB xs = false) := fun h => risesB_not xs m (by rw [HL.out]; omega) h
        generalize xs[m]! = x at *
        generalize xs[m + 1]! = y at *
        have hsub : ((m + 1 : Nat) : Int) - 1 = (m : Int) := by omega
        have hg : decide (((m + 1 : Nat) : Int) > 0) = true := by simp
        have i1 : ((m : Int) + 1) < (n : Int) := by omega
        have i2 : (0 : Int) ≤ (m : Int) := by omega
        have i3 : (m : Int) < (n : Int) := by omega
        clear h0
        by_cases c1 : x < y
        · have lc1 : Op.bytesLess (bys x).toList (bys y).toList = true := by rw [less_bys]; simp only [decide_eq_true_eq]; exact c1
          have mc1 : Op.bytesLess x y = true := by have := lc1; rw [toList_bys, toList_bys] at this; exact this
          have hs' := Lib.hid (hs.out c1)
          go_wp2
          go_quiet (fail)
          go_wp2
          go_roundw
          case rel => exact ⟨m + 1 + 1, by omega, by go_num, hs', by first | exact ⟨_, rfl⟩ | exact dr1 ..⟩
          case measure => simp [intOf]; omega
        · have lc1 : Op.bytesLess (bys x).toList (bys y).toList = false := by rw [less_bys]; simp only [decide_eq_false_iff_not]; exact c1
          have mc1 : Op.bytesLess x y = false := by have := lc1; rw [toList_bys, toList_bys] at this; exact this
          have hf' := Lib.hid (hf.out c1)
          have hb := mc1
          go_wp2
          go_quiet (fail)
          go_wp2
          go_ret
          exact ⟨ret_bool hf'.out.symm, by first | exact ⟨_, rfl⟩ | exact dr1 ..⟩
    · obtain rfl : k = n := by omega
      have HR' := Lib.hid (risesB_of_steps xs fun i hi => HR.out i (by rw [HL.out] at hi; exact hi))
      go_wp2
      go_ret
      exact ⟨ret_bool HR'.out.symm, _, rfl⟩

theorem at_bys {lo : Nat} {w : World} {b off : Nat} {xs : List (List UInt8)} (h : Rd encStr lo w (some ⟨b, off, none⟩) xs) (x : List UInt8) :
    ∀ j, j < xs.length → w.cell? ⟨b, off + j, none⟩ = some (.string ((fun t => if t < xs.length then bys xs[t]! else bys x) j)) := fun j hj => by
  obtain ⟨b', off', e, _, _, h3⟩ := h (by omega)
  injection e with e
  injection e with e1 e2
  subst e1; subst e2
  show _ = some (Value.string (if j < xs.length then bys xs[j]! else bys x))
  rw [h3 j hj, if_pos hj]; rfl

theorem hasT_any (A : Option Addr) (c : Nat) (xs : List (List UInt8)) (x : List UInt8) (w : World) (lo : Nat) (ha : Rd encStr lo w A xs) (hn : xs.length ≤ 1000000) :
    Calls Try.prog 44 #[.slice A xs.length c, .string (bys x)] w fun e w' => e = .returned (.bool (decide (x ∈ xs))) ∧ w' = w := by
  have hcon : Calls Try.prog 93 #[.slice A xs.length c, .string (bys x)] w fun e w' => e = .returned (.bool (decide (x ∈ xs))) ∧ w' = w := by
    by_cases h0 : xs.length = 0
    · obtain rfl : xs = [] := List.eq_nil_of_length_eq_zero h0
      exact Try.slices_Contains_string_empty A c (bys x) w
    · obtain ⟨b, off, rfl, _, _, _⟩ := ha (by omega)
      have := Try.slices_Contains_string b off xs.length c (xs.map bys) (bys x) w (by simp) (by omega) ha.strs
      rw [List.take_of_length_le (by simp), show Lib.containsS (xs.map bys) (bys x) = decide (x ∈ xs) by
        rw [Bool.eq_iff_iff, Lib.containsS_iff]
        simp only [List.mem_map, decide_eq_true_eq]
        exact ⟨fun ⟨a, h1, h2⟩ => by rwa [← bys_inj.1 h2], fun h => ⟨x, h, rfl⟩⟩] at this
      exact this
  generalize xs.length = n at *
  generalize decide (x ∈ xs) = r at *
  generalize bys x = X at *
  go_enter Try.func44, Try.ntmps44
  go_wp2_with (go_at_call 93; refine hcon.mono ?_; rintro e w' ⟨rfl, rfl⟩)
  go_ret
  exact ⟨rfl, rfl⟩

/-- The halving finds the place: of a list that rises. -/
theorem bs_found (xs : List (List UInt8)) (x : List UInt8) (hs : xs.Pairwise (· ≤ ·)) :
    ∃ k, Lib.bsGo (fun t => Op.bytesLess (if t < xs.length then bys xs[t]! else bys x).toList (bys x).toList) xs.length 0 xs.length = k ∧ (k < xs.length ∧ (if k < xs.length then bys xs[k]! else bys x) = bys x ↔ x ∈ xs) := by
  obtain ⟨k, hk, h1, h2⟩ : ∃ k, k ≤ xs.length ∧ (∀ t, t < k → xs[t]! < x) ∧ ∀ t, k ≤ t → t < xs.length → ¬ xs[t]! < x := by
    induction xs with
    | nil => exact ⟨0, Nat.le_refl _, fun t h => absurd h (by omega), fun t _ h => absurd h (by simp)⟩
    | cons y t ih =>
      rw [List.pairwise_cons] at hs
      by_cases hy : y < x
      · obtain ⟨k, hk, h1, h2⟩ := ih hs.2
        refine ⟨k + 1, by simpa using hk, fun j hj => ?_, fun j h3 h4 => ?_⟩
        · cases j with
          | zero => simpa using hy
          | succ j => simpa using h1 j (by omega)
        · cases j with
          | zero => omega
          | succ j => simpa using h2 j (by omega) (by simpa using h4)
      · refine ⟨0, Nat.zero_le _, fun j hj => absurd hj (by omega), fun j _ h4 => ?_⟩
        cases j with
        | zero => simpa using hy
        | succ j =>
          have hj : j < t.length := by simpa using h4
          have := hs.1 t[j]! (by rw [getElem!_pos t j hj]; exact List.getElem_mem hj)
          intro h
          exact hy (Std.lt_of_le_of_lt this (by simpa using h))
  refine ⟨k, Lib.bsGo_spec _ k (fun t ht => ?_) (fun t ht => ?_) _ _ _ (by omega) (Nat.zero_le _) hk, ?_⟩
  · rw [if_pos (by omega), less_bys]; simpa using h1 t ht
  · by_cases h : t < xs.length
    · rw [if_pos h, less_bys]; simpa using h2 t ht h
    · rw [if_neg h, less_bys]; simp
  · constructor
    · rintro ⟨h, e⟩
      rw [if_pos h, bys_inj] at e
      rw [← e, getElem!_pos xs k h]; exact List.getElem_mem h
    · intro h
      obtain ⟨i, hi, e⟩ := List.getElem_of_mem h
      have hki : k ≤ i := by
        by_cases hlt : i < k
        · have := h1 i hlt
          rw [getElem!_pos xs i hi, e] at this
          exact absurd this lt_ir
        · omega
      have hkl : k < xs.length := by omega
      refine ⟨hkl, ?_⟩
      rw [if_pos hkl, bys_inj]
      have h3 := h2 k (Nat.le_refl _) hkl
      rcases tri xs[k]! x with h4 | h4 | h4
      · exact absurd h4 h3
      · exact h4
      · rcases Nat.lt_or_ge k i with h5 | h5
        · have := (List.pairwise_iff_getElem.1 hs) k i hkl hi h5
          rw [e] at this
          rw [getElem!_pos xs k hkl] at h4
          exact absurd (Std.lt_of_lt_of_le h4 this) lt_ir
        · obtain rfl : k = i := by omega
          rw [getElem!_pos xs k hkl, e]

theorem inT_any (A : Option Addr) (c : Nat) (xs : List (List UInt8)) (x : List UInt8) (w : World) (lo : Nat) (ha : Rd encStr lo w A xs) (hn : xs.length ≤ 1000000) (hs : xs.Pairwise (· ≤ ·)) :
    Calls Try.prog 89 #[.slice A xs.length c, .string (bys x)] w fun e w' => e = .returned (.bool (decide (x ∈ xs))) ∧ ∃ q, w' = w.drewN q := by
  have hcon : Calls Try.prog 121 #[.slice A xs.length c, .string (bys x)] w fun e w' => ∃ n : Int, e = .returned (.tuple #[.int .i64 n, .bool (decide (x ∈ xs))]) ∧ ∃ q, w' = w.drewN q := by
    by_cases h0 : xs.length = 0
    · obtain rfl : xs = [] := List.eq_nil_of_length_eq_zero h0
      exact (Try.slices_BinarySearch_string_empty A c (bys x) w).mono fun e w' ⟨h1, h2⟩ => ⟨0, h1, 0, h2⟩
    · obtain ⟨b, off, rfl, _, _, _⟩ := ha (by omega)
      have := Try.slices_BinarySearch_string b off xs.length c (fun t => if t < xs.length then bys xs[t]! else bys x) (bys x) w (by omega) (at_bys ha x)
      obtain ⟨k, hk, hiff⟩ := bs_found xs x hs
      simp only [hk] at this
      refine this.mono fun e w' ⟨h1, h2⟩ => ⟨k, ?_, h2⟩
      rw [h1]
      rw [decide_eq_decide.2 hiff]
  clear hs ha hn
  generalize xs.length = n at *
  generalize decide (x ∈ xs) = r at *
  generalize bys x = X at *
  go_enter Try.func89, Try.ntmps89
  go_wp2_with (go_at_call 121; refine hcon.mono ?_; rintro e w' ⟨nn, rfl, q, rfl⟩)
  go_ret
  exact ⟨rfl, q, rfl⟩

set_option maxHeartbeats 1000000 in
set_option maxRecDepth 100000 in
theorem cmpCompareT_any (x y : List UInt8) (w : World) :
    Calls Try.prog 124 #[.string (bys x), .string (bys y)] w fun e w' => e = .returned (.int .i64 (if x < y then -1 else if y < x then 1 else 0)) ∧ w' = w := by
  have l1 := less_bys x y
  have l2 : ((bys x).toList == (bys y).toList) = decide (x = y) := by rw [toList_bys, toList_bys, Bool.eq_iff_iff]; simp
  have hr : (if x < y then (-1 : Int) else if y < x then 1 else 0) = if decide (x < y) then -1 else if decide (x = y) then 0 else 1 := by
    rcases tri x y with h | h | h
    · simp [h]
    · subst h; simp [lt_ir]
    · have h1 := lt_as h
      have h2 : x ≠ y := fun e => by rw [e] at h; exact lt_ir h
      simp [h, h1, h2]
  rw [hr]
  clear hr
  generalize decide (x < y) = d1 at *
  generalize decide (x = y) = d2 at *
  generalize bys x = X at *
  generalize bys y = Y at *
  cases d1
  · cases d2
    · go_enter Try.func124, Try.ntmps124
      go_wp2
      go_ret
      exact ⟨rfl, rfl⟩
    · go_enter Try.func124, Try.ntmps124
      go_wp2
      go_ret
      exact ⟨rfl, rfl⟩
  · go_enter Try.func124, Try.ntmps124
    go_wp2
    go_ret
    exact ⟨rfl, rfl⟩

set_option maxHeartbeats 2000000 in
set_option maxRecDepth 100000 in
theorem slicesCompareT_any (A B : Option Addr) (c d : Nat) (xs ys : List (List UInt8)) (w : World) (la lb : Nat) (ha : Rd encStr la w A xs) (hb : Rd encStr lb w B ys) (hn : xs.length ≤ 1000000) (hm : ys.length ≤ 1000000) :
    Calls Try.prog 94 #[.slice A xs.length c, .slice B ys.length d] w fun e w' => e = .returned (.int .i64 (cmpL xs ys)) ∧ w' = w := by
  generalize hL : xs.length = n at *
  generalize hM : ys.length = m at *
  have HL := Lib.hid hL
  have HM := Lib.hid hM
  clear hL hM
  go_enter Try.func94, Try.ntmps94
  go_wp2
  go_loop [11] (fun i => ∃ k : Nat, k ≤ n ∧ k ≤ m ∧ i = .int .i64 k ∧ Hid (cmpL (xs.drop k) (ys.drop k) = cmpL xs ys)) (fun i => n - (intOf i).toNat)
  case atStart => exact ⟨0, Nat.zero_le _, Nat.zero_le _, rfl, rfl⟩
  case round =>
    obtain ⟨k, hk, hkm, rfl, HC⟩ := hrel
    by_cases h1 : k < n
    · obtain ⟨b, off, rfl, hbw, hcell⟩ := ha.at_ (k := k) (by rw [HL.out]; exact h1)
      by_cases h2 : k < m
      · obtain ⟨b2, off2, rfl, hbw2, hcell2⟩ := hb.at_ (k := k) (by rw [HM.out]; exact h2)
        have hstep := cmpL_step (a := xs) (b := ys) (i := k) (by rw [HL.out]; exact h1) (by rw [HM.out]; exact h2)
        rw [HC.out] at hstep
        have HS := Lib.hid hstep
        clear hstep HC
        generalize xs[k]! = x at *
        generalize ys[k]! = y at *
        by_cases c1 : x < y
        · have lc1 : Op.bytesLess (bys x).toList (bys y).toList = true := by rw [less_bys]; simp only [decide_eq_true_eq]; exact c1
          have mc1 : Op.bytesLess x y = true := by have := lc1; rw [toList_bys, toList_bys] at this; exact this
          go_wp2_with (go_at_call 124; refine (cmpCompareT_any _ _ _).mono ?_; rintro e w' ⟨rfl, rfl⟩)
          go_ret
          exact ⟨ret_int (by rw [HS.out, if_pos c1]), rfl⟩
        · have lc1 : Op.bytesLess (bys x).toList (bys y).toList = false := by rw [less_bys]; simp only [decide_eq_false_iff_not]; exact c1
          have mc1 : Op.bytesLess x y = false := by have := lc1; rw [toList_bys, toList_bys] at this; exact this
          by_cases c2 : y < x
          · have lc2 : Op.bytesLess (bys y).toList (bys x).toList = true := by rw [less_bys]; simp only [decide_eq_true_eq]; exact c2
            have mc2 : Op.bytesLess y x = true := by have := lc2; rw [toList_bys, toList_bys] at this; exact this
            go_wp2_with (go_at_call 124; refine (cmpCompareT_any _ _ _).mono ?_; rintro e w' ⟨rfl, rfl⟩)
            go_ret
            exact ⟨ret_int (by rw [HS.out, if_neg c1, if_pos c2]), rfl⟩
          · have lc2 : Op.bytesLess (bys y).toList (bys x).toList = false := by rw [less_bys]; simp only [decide_eq_false_iff_not]; exact c2
            have mc2 : Op.bytesLess y x = false := by have := lc2; rw [toList_bys, toList_bys] at this; exact this
            go_wp2_with (go_at_call 124; refine (cmpCompareT_any _ _ _).mono ?_; rintro e w' ⟨rfl, rfl⟩)
            go_round
            case rel => exact ⟨k + 1, by omega, by omega, by go_num, by have := HS.out; rw [if_neg c1, if_neg c2] at this; exact this.symm⟩
            case measure => simp [intOf]; omega
      · have he := cmpL_end_b (a := xs) (b := ys) (i := k) (by rw [HM.out]; omega) (by rw [HL.out]; exact h1)
        rw [HC.out] at he
        have HE := Lib.hid he
        clear he HC
        go_wp2
        go_ret
        exact ⟨ret_int HE.out.symm, rfl⟩
    · have he := cmpL_end_a (a := xs) (b := ys) (i := k) (by rw [HL.out]; omega) (by rw [HM.out]; omega)
      rw [HC.out, HM.out] at he
      have HE := Lib.hid he
      clear he HC
      obtain rfl : k = n := by omega
      by_cases h2 : k < m
      · go_wp2
        go_ret
        exact ⟨ret_int (by rw [HE.out, if_pos h2]), rfl⟩
      · go_wp2
        go_ret
        exact ⟨ret_int (by rw [HE.out, if_neg h2]), rfl⟩

set_option maxHeartbeats 2000000 in
set_option maxRecDepth 100000 in
theorem orderCompareT_any (A B : Option Addr) (c d : Nat) (xs ys : List (List UInt8)) (w : World) (la lb : Nat) (ha : Rd encStr la w A xs) (hb : Rd encStr lb w B ys) (hn : xs.length ≤ 1000000) (hm : ys.length ≤ 1000000) :
    Calls Try.prog 45 #[.slice A xs.length c, .slice B ys.length d] w fun e w' => e = .returned (.int .i64 (cmpL xs ys)) ∧ w' = w := by
  go_enter Try.func45, Try.ntmps45
  go_wp2_with (go_at_call 94; refine (slicesCompareT_any A B c d xs ys _ la lb ha hb hn hm).mono ?_; rintro e w' ⟨rfl, rfl⟩)
  go_ret
  exact ⟨rfl, rfl⟩
end Go.Proofs.Ytojecaeblgghjaa
