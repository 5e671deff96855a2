/-
  ConflictAmong: the walk.
-/
import Derived.Test.YtojecaeblgghjaaConf8
set_option linter.unusedVariables false
set_option linter.unusedSimpArgs false
namespace Go.Proofs.Ytojecaeblgghjaa
open Go.RowKit Go.Sort LsP

theorem amR_len {xs : List T3} {n : Nat} (a b c : Int) {ys : List Int} (hy : ys.length ≤ 1000) : (amR xs n a b c ys).1.length ≤ 1000000 := by
  unfold amR
  split
  · simp
  · split
    · have h1 := List.length_filter_le (seesB xs n a b c) (sset ys)
      have h2 := sset_len ys
      show ((sset ys).filter (seesB xs n a b c)).length ≤ 1000000
      omega
    · simp

set_option maxHeartbeats 4000000 in
set_option maxRecDepth 100000 in
theorem among_walk (A B : Option Addr) (n c' m d : Nat) (xs : List T3) (a b c : Int) (ys : List Int) (w : World) (ha : RdT 0 w A xs) (hn : xs.length = n) (hn2 : n ≤ 9223372036854775807) (hb : Rd encI 0 w B ys) (hm : ys.length = m) :
    Calls Try.prog 15 #[.slice A n c', .agg #[.int .i64 a, .int .i64 b, .int .i64 c], .slice B m d] w fun e w' => e = .returned (.bool true) ∧ Below w.heap.size w w' := by
  have MB := Lib.hid (one_start w (o3 a b c 50))
  by_cases h60 : n > 60
  · have e1 : decide ((n : Int) > 60) = true := by simp; omega
    clear h60 ha hn hb hm
    go_enter Try.func15, Try.ntmps15
    go_wp2_with fail
    refine (awake6_any _).mono ?_
    rintro e w' ⟨rfl, hb⟩
    replace MB := Lib.hid (MB.out.next hb)
    clear hb
    go_wp2
    go_ret
    exact ⟨rfl, MB.out.below⟩
  · have e1 : decide ((n : Int) > 60) = false := by simp; omega
    by_cases hm60 : m > 60
    · have e2 : decide ((m : Int) > 60) = true := by simp; omega
      clear h60 hm60 ha hn hb hm
      go_enter Try.func15, Try.ntmps15
      go_wp2_with fail
      refine (awake6_any _).mono ?_
      rintro e w' ⟨rfl, hb⟩
      replace MB := Lib.hid (MB.out.next hb)
      clear hb
      go_wp2
      go_ret
      exact ⟨rfl, MB.out.below⟩
    · have e2 : decide ((m : Int) > 60) = false := by simp; omega
      have k1 : Hid (∀ W, Below w.heap.size w W → Calls Try.prog 67 #[.slice A n c', .agg #[.int .i64 a, .int .i64 b, .int .i64 c], .slice B m d] W (Told2 W (amR xs n a b c ys).1 (amR xs n a b c ys).2)) := Lib.hid (fun W hW => by
        have h := among_any A B n c' d xs a b c ys W (ha.below hW (Nat.le_refl _)) hn hn2 (hb.below hW (Nat.le_refl _)) (by omega)
        rw [hm] at h
        exact h)
      have k2 : Hid (∀ W, Below w.heap.size w W → Calls Try.prog 68 #[.slice A n c', .agg #[.int .i64 a, .int .i64 b, .int .i64 c], .slice B m d] W (Told2 W (amR xs n a b c ys).1 (amR xs n a b c ys).2)) := Lib.hid (fun W hW => by
        have h := refAmong_any A B n c' d xs a b c ys W (ha.below hW (Nat.le_refl _)) hn hn2 (hb.below hW (Nat.le_refl _)) (by omega)
        rw [hm] at h
        exact h)
      have hl := Lib.hid (amR_len (xs := xs) (n := n) a b c (ys := ys) (by omega))
      clear h60 hm60 ha hn hb hm
      generalize (amR xs n a b c ys).1 = l at *
      generalize (amR xs n a b c ys).2 = er at *
      have q1 : (er == er) = true := by simp
      obtain ⟨d0, d1, d2, _⟩ := row3 MB.out.head
      go_enter Try.func15, Try.ntmps15
      go_wp2_with fail
      refine (k1.out _ MB.out.below).mono ?_
      rintro e w1 ⟨A1, c1, rfl, h1, h2, h3, h4, h5⟩
      have R1 := Lib.hid (h3.low (Nat.zero_le _))
      replace MB := Lib.hid (MB.out.next h5)
      clear h1 h2 h3 h4 h5 k1 d0 d1 d2
      obtain ⟨d0, d1, d2, _⟩ := row3 MB.out.head
      go_wp2_with fail
      refine (k2.out _ MB.out.below).mono ?_
      rintro e w2 ⟨A2, c2, rfl, h1, h2, h3, h4, h5⟩
      replace R1 := Lib.hid (R1.out.below h5 (Nat.le_refl _))
      have R2 := Lib.hid (h3.low (Nat.zero_le _))
      replace MB := Lib.hid (MB.out.next h5)
      clear h1 h2 h3 h4 h5 k2 d0 d1 d2
      have ks := Lib.hid (refSame_any A1 A2 c1 c2 l l _ 0 0 R1.out R2.out hl.out hl.out)
      simp only [decide_true] at ks
      go_wp2_with fail
      refine ks.out.mono ?_
      rintro e w5 ⟨rfl, q, hq⟩
      have MD : Hid (Mem w _ w5) := Lib.hid (by rw [hq]; exact MB.out.drewN q)
      clear hq MB R1 R2 ks
      go_wp2_with fail
      refine (awake6_any _).mono ?_
      rintro e w7 ⟨rfl, hb⟩
      replace MD := Lib.hid (MD.out.next hb)
      clear hb
      go_wp2
      go_ret
      exact ⟨rfl, MD.out.below⟩
end Go.Proofs.Ytojecaeblgghjaa
