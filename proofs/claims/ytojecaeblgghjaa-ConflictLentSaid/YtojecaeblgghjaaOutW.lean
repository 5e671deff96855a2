/-
  facet.Outward OF ANY LIST.
-/
import Derived.Test.YtojecaeblgghjaaBigG
import Derived.Test.YtojecaeblgghjaaTriG
set_option linter.unusedVariables false
set_option linter.unusedSimpArgs false
namespace Go.Proofs.Ytojecaeblgghjaa
open Go.RowKit Go.Sort LsP

/-- The first number from 0 on that is none of three. -/
def free3 (a b c : Int) : Nat := if ¬ (0 = a ∨ 0 = b ∨ 0 = c) then 0 else if ¬ (1 = a ∨ 1 = b ∨ 1 = c) then 1 else if ¬ (2 = a ∨ 2 = b ∨ 2 = c) then 2 else 3
theorem free3_le (a b c : Int) : free3 a b c ≤ 3 := by
  unfold free3
  split
  · omega
  · split
    · omega
    · split <;> omega
theorem free3_no (a b c : Int) : ((free3 a b c : Nat) : Int) ≠ a ∧ ((free3 a b c : Nat) : Int) ≠ b ∧ ((free3 a b c : Nat) : Int) ≠ c := by
  unfold free3
  split
  · omega
  · split
    · omega
    · split <;> omega
theorem free3_lt {a b c : Int} {k : Nat} (h : k < free3 a b c) : (k : Int) = a ∨ (k : Int) = b ∨ (k : Int) = c := by
  unfold free3 at h
  split at h
  · omega
  · split at h
    · obtain rfl : k = 0 := by omega
      omega
    · split at h
      · rcases (by omega : k = 0 ∨ k = 1) with rfl | rfl <;> omega
      · rcases (by omega : k = 0 ∨ k = 1 ∨ k = 2) with rfl | rfl | rfl <;> omega

/-- What facet.Outward says. -/
noncomputable def outR (xs : List T3) (n : Nat) (a b c : Int) : T3 × Int :=
  if n < 4 then (⟨0, 0, 0⟩, 21) else
  if (signR xs n [a, b, c, (free3 a b c : Nat)]).2 ≠ 0 then (⟨0, 0, 0⟩, (signR xs n [a, b, c, (free3 a b c : Nat)]).2) else
  if (signR xs n [a, b, c, (free3 a b c : Nat)]).1 < 0 then (canon ⟨a, c, b⟩, 0) else (canon ⟨a, b, c⟩, 0)

set_option maxHeartbeats 8000000 in
set_option maxRecDepth 100000 in
theorem out_any (A : Option Addr) (n c : Nat) (xs : List T3) (x y z : Int) (ix : InI x) (iy : InI y) (iz : InI z) (w : World) (ha : RdT 0 w A xs) (hn : xs.length = n) (hn2 : n ≤ 9223372036854775807) :
    Calls Try.prog 48 #[.slice A n c, .int .i64 x, .int .i64 y, .int .i64 z] w fun e w' => e = .returned (.tuple #[encT (outR xs n x y z).1, .int .i64 (outR xs n x y z).2]) ∧ Below w.heap.size w w' := by
  have hF1 := free3_le x y z
  have hF2 := free3_no x y z
  have hF3 : ∀ k : Nat, k < free3 x y z → ((k : Int) = x ∨ (k : Int) = y ∨ (k : Int) = z) := fun k h => free3_lt h
  have kS : Hid (∀ W, Below w.heap.size w W → Calls Try.prog 97 #[.slice A n c, .int .i64 x, .int .i64 y, .int .i64 z, .int .i64 (free3 x y z : Nat)] W fun e w' => e = .returned (.tuple #[.int .i64 (signR xs n [x, y, z, (free3 x y z : Nat)]).1, .int .i64 (signR xs n [x, y, z, (free3 x y z : Nat)]).2]) ∧ Below W.heap.size W w') :=
    Lib.hid (fun W hW => signBig_any A n c xs x y z (free3 x y z : Nat) ix iy iz ⟨by omega, by omega⟩ W (ha.below hW (Nat.le_refl _)) hn hn2)
  have hO : Hid (outR xs n x y z = if n < 4 then (⟨0, 0, 0⟩, 21) else if (signR xs n [x, y, z, (free3 x y z : Nat)]).2 ≠ 0 then (⟨0, 0, 0⟩, (signR xs n [x, y, z, (free3 x y z : Nat)]).2) else
      if (signR xs n [x, y, z, (free3 x y z : Nat)]).1 < 0 then (canon ⟨x, z, y⟩, 0) else (canon ⟨x, y, z⟩, 0)) := Lib.hid rfl
  clear ha hn
  generalize free3 x y z = F at *
  generalize (signR xs n [x, y, z, (F : Nat)]).1 = s at *
  generalize (signR xs n [x, y, z, (F : Nat)]).2 = er at *
  replace hF2 := Lib.hid hF2
  replace hF3 := Lib.hid hF3
  have MB : Hid (Mem w [(w.heap.size, o3 0 0 0 50)] (w.alloc (o3 0 0 0 50))) := Lib.hid ((Mem.nil w).add _)
  by_cases hn4 : n < 4
  · have hv : Hid (outR xs n x y z = (⟨0, 0, 0⟩, 21)) := Lib.hid (by rw [hO.out, if_pos hn4])
    have e1 : decide ((n : Int) < 4) = true := by simp; omega
    clear hn4
    go_enter Try.func48, Try.ntmps48
    go_wp2
    exact bodyPost_ret (v := .tuple #[encT ⟨0, 0, 0⟩, .int .i64 21]) (by simp [results, Try.results48, go_sem, encT]) rfl ⟨by rw [hv.out], by (repeat (first | exact Below.refl _ _ | refine Below.alloc ?_ (by first | omega | (simp; done) | (simp; omega)) _ | refine Below.setCell ?_ (by first | omega | (simp; done) | (simp; omega)) _ | refine Below.drew ?_))⟩
  · have e1 : decide ((n : Int) < 4) = false := by simp; omega
    replace hO := Lib.hid (hO.out.trans (if_neg hn4))
    clear hn4
    go_enter Try.func48, Try.ntmps48
    go_wp2_with fail
    generalize w.alloc (o3 0 0 0 50) = W0 at *
    go_loopw [10] (fun v wr => ∃ k : Nat, k ≤ F ∧ v = .int .i64 k ∧ wr = W0) (fun v _ => F - (intOf v).toNat)
    case atStart => exact ⟨0, by omega, rfl, rfl⟩
    case round =>
      obtain ⟨k, hk, rfl, rfl⟩ := hrel
      by_cases hlt : k < F
      · have h3 := hF3.out k hlt
        by_cases h0 : (k : Int) = x
        · have q0 : ((k : Int) == x) = true := by simpa using h0
          clear h3 h0
          go_wp2_with fail
          go_roundw
          case rel => exact ⟨k + 1, by omega, by go_num, trivial⟩
          case measure => simp [intOf]; omega
        · have q0 : ((k : Int) == x) = false := by simpa using h0
          by_cases h1 : (k : Int) = y
          · have q1 : ((k : Int) == y) = true := by simpa using h1
            clear h3 h0 h1
            go_wp2_with fail
            go_roundw
            case rel => exact ⟨k + 1, by omega, by go_num, trivial⟩
            case measure => simp [intOf]; omega
          · have q1 : ((k : Int) == y) = false := by simpa using h1
            have q2 : ((k : Int) == z) = true := by simp; omega
            clear h3 h0 h1
            go_wp2_with fail
            go_roundw
            case rel => exact ⟨k + 1, by omega, by go_num, trivial⟩
            case measure => simp [intOf]; omega
      · obtain rfl : k = F := by omega
        have q0 : ((k : Int) == x) = false := by simpa using hF2.out.1
        have q1 : ((k : Int) == y) = false := by simpa using hF2.out.2.1
        have q2 : ((k : Int) == z) = false := by simpa using hF2.out.2.2
        go_wp2_with fail
        refine (kS.out _ MB.out.below).mono ?_
        rintro e w1 ⟨rfl, hb⟩
        replace MB := Lib.hid (MB.out.next hb)
        clear hb
        by_cases he : er = 0
        · have f1 : (er != 0) = false := by simpa using he
          replace hO := Lib.hid (hO.out.trans (if_neg (by simpa using he)))
          by_cases hs : s < 0
          · have f2 : decide (s < 0) = true := by simpa using hs
            have hv : Hid (outR xs n x y z = (canon ⟨x, z, y⟩, 0)) := Lib.hid (hO.out.trans (if_pos hs))
            clear he hs
            go_wp2_with fail
            refine (turn_any _ _ _ _).mono ?_
            rintro e w2 ⟨rfl, hb⟩
            replace MB := Lib.hid (MB.out.next hb)
            clear hb
            generalize canon ⟨x, z, y⟩ = t at *
            obtain ⟨d0, d1, d2, e0, e1, e2⟩ := row3 MB.out.head
            have MF : Mem w [(w.heap.size, o3 t.a t.b t.c 50)] _ := ((MB.out.set (fun _ h => by cases h) (Nat.le_refl _) 0 (.int .i64 t.a)).set (fun _ h => by cases h) (Nat.le_refl _) 1 (.int .i64 t.b)).set (fun _ h => by cases h) (Nat.le_refl _) 2 (.int .i64 t.c)
            replace MB := Lib.hid MF
            clear MF
            go_wp2
            obtain ⟨d0, d1, d2, _⟩ := row3 MB.out.head
            exact bodyPost_ret (v := .tuple #[encT t, .int .i64 0]) (by simp [results, Try.results48, go_sem, encT, d0, d1, d2]) rfl ⟨by rw [hv.out], MB.out.below⟩
          · have f2 : decide (s < 0) = false := by simpa using hs
            have hv : Hid (outR xs n x y z = (canon ⟨x, y, z⟩, 0)) := Lib.hid (hO.out.trans (if_neg hs))
            clear he hs
            go_wp2_with fail
            refine (canon_any _ _ _ _).mono ?_
            rintro e w2 ⟨rfl, hb⟩
            replace MB := Lib.hid (MB.out.next hb)
            clear hb
            generalize canon ⟨x, y, z⟩ = t at *
            obtain ⟨d0, d1, d2, e0, e1, e2⟩ := row3 MB.out.head
            have MF : Mem w [(w.heap.size, o3 t.a t.b t.c 50)] _ := ((MB.out.set (fun _ h => by cases h) (Nat.le_refl _) 0 (.int .i64 t.a)).set (fun _ h => by cases h) (Nat.le_refl _) 1 (.int .i64 t.b)).set (fun _ h => by cases h) (Nat.le_refl _) 2 (.int .i64 t.c)
            replace MB := Lib.hid MF
            clear MF
            go_wp2
            obtain ⟨d0, d1, d2, _⟩ := row3 MB.out.head
            exact bodyPost_ret (v := .tuple #[encT t, .int .i64 0]) (by simp [results, Try.results48, go_sem, encT, d0, d1, d2]) rfl ⟨by rw [hv.out], MB.out.below⟩
        · have f1 : (er != 0) = true := by simpa using he
          have hv : Hid (outR xs n x y z = (⟨0, 0, 0⟩, er)) := Lib.hid (hO.out.trans (if_pos (by simpa using he)))
          clear he
          obtain ⟨d0, d1, d2, e0, e1, e2⟩ := row3 MB.out.head
          have MF : Mem w [(w.heap.size, o3 0 0 0 50)] _ := ((MB.out.set (fun _ h => by cases h) (Nat.le_refl _) 0 (.int .i64 0)).set (fun _ h => by cases h) (Nat.le_refl _) 1 (.int .i64 0)).set (fun _ h => by cases h) (Nat.le_refl _) 2 (.int .i64 0)
          replace MB := Lib.hid MF
          clear MF
          go_wp2
          obtain ⟨d0, d1, d2, _⟩ := row3 MB.out.head
          exact bodyPost_ret (v := .tuple #[encT ⟨0, 0, 0⟩, .int .i64 er]) (by simp [results, Try.results48, go_sem, encT, d0, d1, d2]) rfl ⟨by rw [hv.out], MB.out.below⟩
end Go.Proofs.Ytojecaeblgghjaa
