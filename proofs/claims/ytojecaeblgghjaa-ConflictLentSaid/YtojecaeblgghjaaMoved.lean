/-
  orient.moved. (Printed by mkmoved.py.)
-/
import Derived.Test.YtojecaeblgghjaaMovG
import Derived.Deep.LoopGhost
import Derived.Deep.RegionHeld3
import Derived.Deep.CutBlock
set_option linter.unusedVariables false
set_option linter.unusedSimpArgs false
namespace Go.Proofs.Ytojecaeblgghjaa
open Go.RowKit Go.Sort LsP

theorem mov_start (w : World) (a b c : Obj) : Mem w [(w.heap.size + 1, b), (w.heap.size + 1 + 1, c)] (((w.alloc a).alloc b).alloc c) := by
  have h := ((((Mem.nil w).add a).add b).add c)
  simp only [World.size_alloc] at h
  exact h.sub (fun p hp => by simp at hp ⊢; rcases hp with h | h <;> simp [h])

set_option maxHeartbeats 16000000 in
set_option maxRecDepth 100000 in
theorem moved_any (p0 p1 p2 p3 p4 p5 p6 p7 p8 p9 p10 p11 : Int) (m : Nat) (hm : m < 85) (hP : ∀ x ∈ [p0, p1, p2, p3, p4, p5, p6, p7, p8, p9, p10, p11], InI x) (w : World) :
    Calls Try.prog 163 #[.agg #[.int .i64 p0, .int .i64 p1, .int .i64 p2, .int .i64 p3, .int .i64 p4, .int .i64 p5, .int .i64 p6, .int .i64 p7, .int .i64 p8, .int .i64 p9, .int .i64 p10, .int .i64 p11], .int .i64 m] w fun e w' => e = .returned (.tuple #[.int .i64 (movedV [p0, p1, p2, p3, p4, p5, p6, p7, p8, p9, p10, p11] m).1, .bool (movedV [p0, p1, p2, p3, p4, p5, p6, p7, p8, p9, p10, p11] m).2]) ∧ Below w.heap.size w w' := by
  replace hP := Lib.hid hP
  have MB0 := Lib.hid (mov_start w (.cells #[.int .i64 p0, .int .i64 p1, .int .i64 p2, .int .i64 p3, .int .i64 p4, .int .i64 p5, .int .i64 p6, .int .i64 p7, .int .i64 p8, .int .i64 p9, .int .i64 p10, .int .i64 p11] 134 (0, 0)) (oI (List.replicate 16 0) 197) (oI (List.replicate 3 0) 49))
  have AP : Hid (∀ H : List Int, Apart (w.heap.size + 1) [(w.heap.size + 1 + 1, oI H 49)]) := Lib.hid (fun H p hp => by simp at hp; rw [hp]; simp only; omega)
  go_enter Try.func163, Try.ntmps163
  go_wp2_with fail
  go_loopw [17] (fun i wr => ∃ (r : Nat) (A H : List Int), r ≤ 4 ∧ i = .int .i64 r ∧ Hid (stR [p0, p1, p2, p3, p4, p5, p6, p7, p8, p9, p10, p11] m r = some (A, H)) ∧ Hid (Mem w [(w.heap.size + 1, oI A 197), (w.heap.size + 1 + 1, oI H 49)] wr)) (fun i _ => 4 - (intOf i).toNat)
  case atStart => exact ⟨0, _, _, by omega, rfl, rfl, MB0.out⟩
  case round =>
    obtain ⟨r, A, H, hr, rfl, hS, MB⟩ := hrel
    replace hS := Lib.hid hS
    replace MB := Lib.hid MB
    have LA : Hid (A.length = 16) := Lib.hid (stR_len hS.out).1
    have LH : Hid (H.length = 3) := Lib.hid (stR_len hS.out).2
    have AP2 := AP
    replace AP := Lib.hid (AP.out H)
    by_cases hr4 : r < 4
    · rcases (by omega : r = 0 ∨ r = 1 ∨ r = 2 ∨ r = 3) with rfl | rfl | rfl | rfl
      · have ix : ∀ W : World, (Instr.index 134 (.agg #[.int .i64 p0, .int .i64 p1, .int .i64 p2, .int .i64 p3, .int .i64 p4, .int .i64 p5, .int .i64 p6, .int .i64 p7, .int .i64 p8, .int .i64 p9, .int .i64 p10, .int .i64 p11]) (.int .i64 0)).run Try.prog W = .ok (.agg #[.int .i64 p0, .int .i64 p1, .int .i64 p2]) W := fun _ => by kernel_rfl
        have sz0 : wr.heap.size ≠ w.heap.size + 1 := by have := MB.out.lt (p := (w.heap.size + 1, oI A 197)) (by simp); simp only at this; omega
        have lr := MB.out.lt (p := (w.heap.size + 1, oI A 197)) (by simp)
        simp only at lr
        have q0 := cellI MB.out.head (o := 0) (by rw [LA.out]; omega)
        have g0 := freeI MB.out.head 0
        have q1 := cellI MB.out.head (o := 1) (by rw [LA.out]; omega)
        have g1 := freeI MB.out.head 1
        have q2 := cellI MB.out.head (o := 2) (by rw [LA.out]; omega)
        have g2 := freeI MB.out.head 2
        have q3 := cellI MB.out.head (o := 3) (by rw [LA.out]; omega)
        have g3 := freeI MB.out.head 3
        generalize A[0]! = v0 at *
        generalize A[1]! = v1 at *
        generalize A[2]! = v2 at *
        generalize A[3]! = v3 at *
        have MS : Mem w [(w.heap.size + 1, oI (lay4 [p0, p1, p2, p3, p4, p5, p6, p7, p8, p9, p10, p11] A 0) 197), (w.heap.size + 1 + 1, oI H 49)] _ := (((((MB.out.setI AP.out (by omega) 0 p0).setI AP.out (by omega) 1 p1).setI AP.out (by omega) 2 p2).setI AP.out (by omega) 3 1).add (o3 p0 p1 p2 109)).tail
        replace MB := Lib.hid MS
        clear MS
        go_wp2_with fail
        clear q0 q1 q2 q3 g0 g1 g2 g3 ix
        go_loopw [30] (fun kk wx => ∃ (k : Nat) (A' H' : List Int), k ≤ 3 ∧ kk = .int .i64 k ∧ Hid (stK m 0 k (lay4 [p0, p1, p2, p3, p4, p5, p6, p7, p8, p9, p10, p11] A 0, H) = some (A', H')) ∧ Hid (Mem w [(w.heap.size + 1, oI A' 197), (w.heap.size + 1 + 1, oI H' 49)] wx)) (fun kk _ => 3 - (intOf kk).toNat)
        case atStart => exact ⟨0, _, _, by omega, rfl, rfl, MB.out⟩
        case round =>
          obtain ⟨k, A', H', hk, rfl, hK, MK⟩ := hrel
          replace hK := Lib.hid hK
          replace MK := Lib.hid MK
          by_cases hk3 : k < 3
          · rcases (by omega : k = 0 ∨ k = 1 ∨ k = 2) with rfl | rfl | rfl
            · have hb := bm0 m hm
              cases hbm : bitM m 0
              · rw [hbm] at hb
                have hK2 : Hid (stK m 0 1 (lay4 [p0, p1, p2, p3, p4, p5, p6, p7, p8, p9, p10, p11] A 0, H) = some (A', H')) := by
                  show stK _ _ _ _ = _
                  rw [stK, hK.out]
                  simp only [Option.bind_some, chg1]
                  rw [if_neg (by rw [hbm]; simp)]
                clear hbm
                go_wp2_with fail
                go_roundw
                case rel => exact ⟨1, A', H', by omega, by go_num, hK2.out, MK.out⟩
                case measure => simp [intOf]
              · rw [hbm] at hb
                have hb1 : Hid (bitM m 0 = true) := Lib.hid hbm
                clear hbm
                have lA : A'.length = 16 := by have := (stK_len hK.out).1; simp only [lay4, List.length_set] at this; rw [this]; exact LA.out
                have lH : H'.length = 3 := by have := (stK_len hK.out).2; simp only at this; rw [this]; exact LH.out
                have q3 := cellI MK.out.head (o := 3) (by omega)
                have r0 := cellI MK.out.tail.head (o := 0) (by omega)
                by_cases e0 : A'[3]! = 0
                · have hz : Hid (movedV [p0, p1, p2, p3, p4, p5, p6, p7, p8, p9, p10, p11] m = (0, false)) := by
                    have h1 : stK m 0 1 (lay4 [p0, p1, p2, p3, p4, p5, p6, p7, p8, p9, p10, p11] A 0, H) = none := by rw [stK, hK.out]; simp only [Option.bind_some, chg1]; rw [if_pos hb1.out, if_pos (Or.inl e0)]
                    have h2 : stR [p0, p1, p2, p3, p4, p5, p6, p7, p8, p9, p10, p11] m 1 = none := by rw [stR, hS.out]; exact stK_none (by omega) h1
                    show movedV _ _ = _
                    unfold movedV
                    rw [stR_none (show 1 ≤ 4 by omega) h2]
                  have e1 : (A'[3]! == 0) = true := by simpa using e0
                  generalize A'[3]! = v3 at *
                  clear e0
                  go_wp2
                  go_ret2
                  rw [hz.out]
                  exact ⟨rfl, MK.out.below⟩
                · have e1 : (A'[3]! == 0) = false := by simpa using e0
                  by_cases e2 : H'[0]! = 1
                  · have hz : Hid (movedV [p0, p1, p2, p3, p4, p5, p6, p7, p8, p9, p10, p11] m = (0, false)) := by
                      have h1 : stK m 0 1 (lay4 [p0, p1, p2, p3, p4, p5, p6, p7, p8, p9, p10, p11] A 0, H) = none := by rw [stK, hK.out]; simp only [Option.bind_some, chg1]; rw [if_pos hb1.out, if_pos (Or.inr e2)]
                      have h2 : stR [p0, p1, p2, p3, p4, p5, p6, p7, p8, p9, p10, p11] m 1 = none := by rw [stR, hS.out]; exact stK_none (by omega) h1
                      show movedV _ _ = _
                      unfold movedV
                      rw [stR_none (show 1 ≤ 4 by omega) h2]
                    have e3 : (H'[0]! == 1) = true := by simpa using e2
                    generalize A'[3]! = v3 at *
                    generalize H'[0]! = h0 at *
                    clear e0 e2
                    go_wp2
                    go_ret2
                    rw [hz.out]
                    exact ⟨rfl, MK.out.below⟩
                  · have e3 : (H'[0]! == 1) = false := by simpa using e2
                    have hK2 : Hid (stK m 0 1 (lay4 [p0, p1, p2, p3, p4, p5, p6, p7, p8, p9, p10, p11] A 0, H) = some (kill A' 0 0, H'.set 0 1)) := by
                      show stK _ _ _ _ = _
                      rw [stK, hK.out]
                      simp only [Option.bind_some, chg1]
                      rw [if_pos hb1.out, if_neg (fun h => h.elim e0 e2)]
                    have q0 := cellI MK.out.head (o := 0) (by omega)
                    have q1 := cellI MK.out.head (o := 1) (by omega)
                    have q2 := cellI MK.out.head (o := 2) (by omega)
                    have g0 := freeI MK.out.head 0
                    have g1 := freeI MK.out.head 1
                    have g2 := freeI MK.out.head 2
                    have g3 := freeI MK.out.head 3
                    have s0 := freeI MK.out.tail.head 0
                    have MS : Mem w [(w.heap.size + 1, oI (kill A' 0 0) 197), (w.heap.size + 1 + 1, oI (H'.set 0 1) 49)] _ := ((((((MK.out.setI (AP2.out H') (by omega) 0 0).setI (AP2.out H') (by omega) 1 0).setI (AP2.out H') (by omega) 2 0).setI (AP2.out H') (by omega) 3 0).setI (AP2.out H') (by omega) 2 1).setI2 (by simp only; omega) (by omega) 0 1)
                    replace MK := Lib.hid MS
                    clear MS
                    generalize A'[3]! = v3 at *
                    generalize A'[0]! = v0 at *
                    generalize A'[1]! = v1 at *
                    generalize A'[2]! = v2 at *
                    generalize H'[0]! = h0 at *
                    clear e0 e2
                    go_wp2_with fail
                    go_roundw
                    case rel => exact ⟨1, kill A' 0 0, H'.set 0 1, by omega, by go_num, hK2.out, MK.out⟩
                    case measure => simp [intOf]
            · have hb := bm1 m hm
              cases hbm : bitM m 1
              · rw [hbm] at hb
                have hK2 : Hid (stK m 0 2 (lay4 [p0, p1, p2, p3, p4, p5, p6, p7, p8, p9, p10, p11] A 0, H) = some (A', H')) := by
                  show stK _ _ _ _ = _
                  rw [stK, hK.out]
                  simp only [Option.bind_some, chg1]
                  rw [if_neg (by rw [hbm]; simp)]
                clear hbm
                go_wp2_with fail
                go_roundw
                case rel => exact ⟨2, A', H', by omega, by go_num, hK2.out, MK.out⟩
                case measure => simp [intOf]
              · rw [hbm] at hb
                have hb1 : Hid (bitM m 1 = true) := Lib.hid hbm
                clear hbm
                have lA : A'.length = 16 := by have := (stK_len hK.out).1; simp only [lay4, List.length_set] at this; rw [this]; exact LA.out
                have lH : H'.length = 3 := by have := (stK_len hK.out).2; simp only at this; rw [this]; exact LH.out
                have q3 := cellI MK.out.head (o := 3) (by omega)
                have r0 := cellI MK.out.tail.head (o := 1) (by omega)
                by_cases e0 : A'[3]! = 0
                · have hz : Hid (movedV [p0, p1, p2, p3, p4, p5, p6, p7, p8, p9, p10, p11] m = (0, false)) := by
                    have h1 : stK m 0 2 (lay4 [p0, p1, p2, p3, p4, p5, p6, p7, p8, p9, p10, p11] A 0, H) = none := by rw [stK, hK.out]; simp only [Option.bind_some, chg1]; rw [if_pos hb1.out, if_pos (Or.inl e0)]
                    have h2 : stR [p0, p1, p2, p3, p4, p5, p6, p7, p8, p9, p10, p11] m 1 = none := by rw [stR, hS.out]; exact stK_none (by omega) h1
                    show movedV _ _ = _
                    unfold movedV
                    rw [stR_none (show 1 ≤ 4 by omega) h2]
                  have e1 : (A'[3]! == 0) = true := by simpa using e0
                  generalize A'[3]! = v3 at *
                  clear e0
                  go_wp2
                  go_ret2
                  rw [hz.out]
                  exact ⟨rfl, MK.out.below⟩
                · have e1 : (A'[3]! == 0) = false := by simpa using e0
                  by_cases e2 : H'[1]! = 1
                  · have hz : Hid (movedV [p0, p1, p2, p3, p4, p5, p6, p7, p8, p9, p10, p11] m = (0, false)) := by
                      have h1 : stK m 0 2 (lay4 [p0, p1, p2, p3, p4, p5, p6, p7, p8, p9, p10, p11] A 0, H) = none := by rw [stK, hK.out]; simp only [Option.bind_some, chg1]; rw [if_pos hb1.out, if_pos (Or.inr e2)]
                      have h2 : stR [p0, p1, p2, p3, p4, p5, p6, p7, p8, p9, p10, p11] m 1 = none := by rw [stR, hS.out]; exact stK_none (by omega) h1
                      show movedV _ _ = _
                      unfold movedV
                      rw [stR_none (show 1 ≤ 4 by omega) h2]
                    have e3 : (H'[1]! == 1) = true := by simpa using e2
                    generalize A'[3]! = v3 at *
                    generalize H'[1]! = h0 at *
                    clear e0 e2
                    go_wp2
                    go_ret2
                    rw [hz.out]
                    exact ⟨rfl, MK.out.below⟩
                  · have e3 : (H'[1]! == 1) = false := by simpa using e2
                    have hK2 : Hid (stK m 0 2 (lay4 [p0, p1, p2, p3, p4, p5, p6, p7, p8, p9, p10, p11] A 0, H) = some (kill A' 0 1, H'.set 1 1)) := by
                      show stK _ _ _ _ = _
                      rw [stK, hK.out]
                      simp only [Option.bind_some, chg1]
                      rw [if_pos hb1.out, if_neg (fun h => h.elim e0 e2)]
                    have q0 := cellI MK.out.head (o := 0) (by omega)
                    have q1 := cellI MK.out.head (o := 1) (by omega)
                    have q2 := cellI MK.out.head (o := 2) (by omega)
                    have g0 := freeI MK.out.head 0
                    have g1 := freeI MK.out.head 1
                    have g2 := freeI MK.out.head 2
                    have g3 := freeI MK.out.head 3
                    have s0 := freeI MK.out.tail.head 1
                    have MS : Mem w [(w.heap.size + 1, oI (kill A' 0 1) 197), (w.heap.size + 1 + 1, oI (H'.set 1 1) 49)] _ := ((((((MK.out.setI (AP2.out H') (by omega) 0 0).setI (AP2.out H') (by omega) 1 0).setI (AP2.out H') (by omega) 2 0).setI (AP2.out H') (by omega) 3 0).setI (AP2.out H') (by omega) 1 1).setI2 (by simp only; omega) (by omega) 1 1)
                    replace MK := Lib.hid MS
                    clear MS
                    generalize A'[3]! = v3 at *
                    generalize A'[0]! = v0 at *
                    generalize A'[1]! = v1 at *
                    generalize A'[2]! = v2 at *
                    generalize H'[1]! = h0 at *
                    clear e0 e2
                    go_wp2_with fail
                    go_roundw
                    case rel => exact ⟨2, kill A' 0 1, H'.set 1 1, by omega, by go_num, hK2.out, MK.out⟩
                    case measure => simp [intOf]
            · have hb := bm2 m hm
              cases hbm : bitM m 2
              · rw [hbm] at hb
                have hK2 : Hid (stK m 0 3 (lay4 [p0, p1, p2, p3, p4, p5, p6, p7, p8, p9, p10, p11] A 0, H) = some (A', H')) := by
                  show stK _ _ _ _ = _
                  rw [stK, hK.out]
                  simp only [Option.bind_some, chg1]
                  rw [if_neg (by rw [hbm]; simp)]
                clear hbm
                go_wp2_with fail
                go_roundw
                case rel => exact ⟨3, A', H', by omega, by go_num, hK2.out, MK.out⟩
                case measure => simp [intOf]
              · rw [hbm] at hb
                have hb1 : Hid (bitM m 2 = true) := Lib.hid hbm
                clear hbm
                have lA : A'.length = 16 := by have := (stK_len hK.out).1; simp only [lay4, List.length_set] at this; rw [this]; exact LA.out
                have lH : H'.length = 3 := by have := (stK_len hK.out).2; simp only at this; rw [this]; exact LH.out
                have q3 := cellI MK.out.head (o := 3) (by omega)
                have r0 := cellI MK.out.tail.head (o := 2) (by omega)
                by_cases e0 : A'[3]! = 0
                · have hz : Hid (movedV [p0, p1, p2, p3, p4, p5, p6, p7, p8, p9, p10, p11] m = (0, false)) := by
                    have h1 : stK m 0 3 (lay4 [p0, p1, p2, p3, p4, p5, p6, p7, p8, p9, p10, p11] A 0, H) = none := by rw [stK, hK.out]; simp only [Option.bind_some, chg1]; rw [if_pos hb1.out, if_pos (Or.inl e0)]
                    have h2 : stR [p0, p1, p2, p3, p4, p5, p6, p7, p8, p9, p10, p11] m 1 = none := by rw [stR, hS.out]; exact stK_none (by omega) h1
                    show movedV _ _ = _
                    unfold movedV
                    rw [stR_none (show 1 ≤ 4 by omega) h2]
                  have e1 : (A'[3]! == 0) = true := by simpa using e0
                  generalize A'[3]! = v3 at *
                  clear e0
                  go_wp2
                  go_ret2
                  rw [hz.out]
                  exact ⟨rfl, MK.out.below⟩
                · have e1 : (A'[3]! == 0) = false := by simpa using e0
                  by_cases e2 : H'[2]! = 1
                  · have hz : Hid (movedV [p0, p1, p2, p3, p4, p5, p6, p7, p8, p9, p10, p11] m = (0, false)) := by
                      have h1 : stK m 0 3 (lay4 [p0, p1, p2, p3, p4, p5, p6, p7, p8, p9, p10, p11] A 0, H) = none := by rw [stK, hK.out]; simp only [Option.bind_some, chg1]; rw [if_pos hb1.out, if_pos (Or.inr e2)]
                      have h2 : stR [p0, p1, p2, p3, p4, p5, p6, p7, p8, p9, p10, p11] m 1 = none := by rw [stR, hS.out]; exact stK_none (by omega) h1
                      show movedV _ _ = _
                      unfold movedV
                      rw [stR_none (show 1 ≤ 4 by omega) h2]
                    have e3 : (H'[2]! == 1) = true := by simpa using e2
                    generalize A'[3]! = v3 at *
                    generalize H'[2]! = h0 at *
                    clear e0 e2
                    go_wp2
                    go_ret2
                    rw [hz.out]
                    exact ⟨rfl, MK.out.below⟩
                  · have e3 : (H'[2]! == 1) = false := by simpa using e2
                    have hK2 : Hid (stK m 0 3 (lay4 [p0, p1, p2, p3, p4, p5, p6, p7, p8, p9, p10, p11] A 0, H) = some (kill A' 0 2, H'.set 2 1)) := by
                      show stK _ _ _ _ = _
                      rw [stK, hK.out]
                      simp only [Option.bind_some, chg1]
                      rw [if_pos hb1.out, if_neg (fun h => h.elim e0 e2)]
                    have q0 := cellI MK.out.head (o := 0) (by omega)
                    have q1 := cellI MK.out.head (o := 1) (by omega)
                    have q2 := cellI MK.out.head (o := 2) (by omega)
                    have g0 := freeI MK.out.head 0
                    have g1 := freeI MK.out.head 1
                    have g2 := freeI MK.out.head 2
                    have g3 := freeI MK.out.head 3
                    have s0 := freeI MK.out.tail.head 2
                    have MS : Mem w [(w.heap.size + 1, oI (kill A' 0 2) 197), (w.heap.size + 1 + 1, oI (H'.set 2 1) 49)] _ := ((((((MK.out.setI (AP2.out H') (by omega) 0 0).setI (AP2.out H') (by omega) 1 0).setI (AP2.out H') (by omega) 2 0).setI (AP2.out H') (by omega) 3 0).setI (AP2.out H') (by omega) 0 1).setI2 (by simp only; omega) (by omega) 2 1)
                    replace MK := Lib.hid MS
                    clear MS
                    generalize A'[3]! = v3 at *
                    generalize A'[0]! = v0 at *
                    generalize A'[1]! = v1 at *
                    generalize A'[2]! = v2 at *
                    generalize H'[2]! = h0 at *
                    clear e0 e2
                    go_wp2_with fail
                    go_roundw
                    case rel => exact ⟨3, kill A' 0 2, H'.set 2 1, by omega, by go_num, hK2.out, MK.out⟩
                    case measure => simp [intOf]
          · obtain rfl : k = 3 := by omega
            have hS2 : Hid (stR [p0, p1, p2, p3, p4, p5, p6, p7, p8, p9, p10, p11] m 1 = some (A', H')) := by
              show stR _ _ _ = _
              rw [stR, hS.out]
              exact hK.out
            go_wp2_with fail
            go_roundw
            case rel => exact ⟨1, A', H', by omega, by go_num, hS2.out, MK.out⟩
            case measure => simp [intOf]
      · have ix : ∀ W : World, (Instr.index 134 (.agg #[.int .i64 p0, .int .i64 p1, .int .i64 p2, .int .i64 p3, .int .i64 p4, .int .i64 p5, .int .i64 p6, .int .i64 p7, .int .i64 p8, .int .i64 p9, .int .i64 p10, .int .i64 p11]) (.int .i64 1)).run Try.prog W = .ok (.agg #[.int .i64 p3, .int .i64 p4, .int .i64 p5]) W := fun _ => by kernel_rfl
        have sz0 : wr.heap.size ≠ w.heap.size + 1 := by have := MB.out.lt (p := (w.heap.size + 1, oI A 197)) (by simp); simp only at this; omega
        have lr := MB.out.lt (p := (w.heap.size + 1, oI A 197)) (by simp)
        simp only at lr
        have q0 := cellI MB.out.head (o := 4) (by rw [LA.out]; omega)
        have g0 := freeI MB.out.head 4
        have q1 := cellI MB.out.head (o := 5) (by rw [LA.out]; omega)
        have g1 := freeI MB.out.head 5
        have q2 := cellI MB.out.head (o := 6) (by rw [LA.out]; omega)
        have g2 := freeI MB.out.head 6
        have q3 := cellI MB.out.head (o := 7) (by rw [LA.out]; omega)
        have g3 := freeI MB.out.head 7
        generalize A[4]! = v0 at *
        generalize A[5]! = v1 at *
        generalize A[6]! = v2 at *
        generalize A[7]! = v3 at *
        have MS : Mem w [(w.heap.size + 1, oI (lay4 [p0, p1, p2, p3, p4, p5, p6, p7, p8, p9, p10, p11] A 1) 197), (w.heap.size + 1 + 1, oI H 49)] _ := (((((MB.out.setI AP.out (by omega) 4 p3).setI AP.out (by omega) 5 p4).setI AP.out (by omega) 6 p5).setI AP.out (by omega) 7 1).add (o3 p3 p4 p5 109)).tail
        replace MB := Lib.hid MS
        clear MS
        go_wp2_with fail
        clear q0 q1 q2 q3 g0 g1 g2 g3 ix
        go_loopw [30] (fun kk wx => ∃ (k : Nat) (A' H' : List Int), k ≤ 3 ∧ kk = .int .i64 k ∧ Hid (stK m 1 k (lay4 [p0, p1, p2, p3, p4, p5, p6, p7, p8, p9, p10, p11] A 1, H) = some (A', H')) ∧ Hid (Mem w [(w.heap.size + 1, oI A' 197), (w.heap.size + 1 + 1, oI H' 49)] wx)) (fun kk _ => 3 - (intOf kk).toNat)
        case atStart => exact ⟨0, _, _, by omega, rfl, rfl, MB.out⟩
        case round =>
          obtain ⟨k, A', H', hk, rfl, hK, MK⟩ := hrel
          replace hK := Lib.hid hK
          replace MK := Lib.hid MK
          by_cases hk3 : k < 3
          · rcases (by omega : k = 0 ∨ k = 1 ∨ k = 2) with rfl | rfl | rfl
            · have hb := bm3 m hm
              cases hbm : bitM m 3
              · rw [hbm] at hb
                have hK2 : Hid (stK m 1 1 (lay4 [p0, p1, p2, p3, p4, p5, p6, p7, p8, p9, p10, p11] A 1, H) = some (A', H')) := by
                  show stK _ _ _ _ = _
                  rw [stK, hK.out]
                  simp only [Option.bind_some, chg1]
                  rw [if_neg (by rw [hbm]; simp)]
                clear hbm
                go_wp2_with fail
                go_roundw
                case rel => exact ⟨1, A', H', by omega, by go_num, hK2.out, MK.out⟩
                case measure => simp [intOf]
              · rw [hbm] at hb
                have hb1 : Hid (bitM m 3 = true) := Lib.hid hbm
                clear hbm
                have lA : A'.length = 16 := by have := (stK_len hK.out).1; simp only [lay4, List.length_set] at this; rw [this]; exact LA.out
                have lH : H'.length = 3 := by have := (stK_len hK.out).2; simp only at this; rw [this]; exact LH.out
                have q3 := cellI MK.out.head (o := 7) (by omega)
                have r0 := cellI MK.out.tail.head (o := 0) (by omega)
                by_cases e0 : A'[7]! = 0
                · have hz : Hid (movedV [p0, p1, p2, p3, p4, p5, p6, p7, p8, p9, p10, p11] m = (0, false)) := by
                    have h1 : stK m 1 1 (lay4 [p0, p1, p2, p3, p4, p5, p6, p7, p8, p9, p10, p11] A 1, H) = none := by rw [stK, hK.out]; simp only [Option.bind_some, chg1]; rw [if_pos hb1.out, if_pos (Or.inl e0)]
                    have h2 : stR [p0, p1, p2, p3, p4, p5, p6, p7, p8, p9, p10, p11] m 2 = none := by rw [stR, hS.out]; exact stK_none (by omega) h1
                    show movedV _ _ = _
                    unfold movedV
                    rw [stR_none (show 2 ≤ 4 by omega) h2]
                  have e1 : (A'[7]! == 0) = true := by simpa using e0
                  generalize A'[7]! = v3 at *
                  clear e0
                  go_wp2
                  go_ret2
                  rw [hz.out]
                  exact ⟨rfl, MK.out.below⟩
                · have e1 : (A'[7]! == 0) = false := by simpa using e0
                  by_cases e2 : H'[0]! = 1
                  · have hz : Hid (movedV [p0, p1, p2, p3, p4, p5, p6, p7, p8, p9, p10, p11] m = (0, false)) := by
                      have h1 : stK m 1 1 (lay4 [p0, p1, p2, p3, p4, p5, p6, p7, p8, p9, p10, p11] A 1, H) = none := by rw [stK, hK.out]; simp only [Option.bind_some, chg1]; rw [if_pos hb1.out, if_pos (Or.inr e2)]
                      have h2 : stR [p0, p1, p2, p3, p4, p5, p6, p7, p8, p9, p10, p11] m 2 = none := by rw [stR, hS.out]; exact stK_none (by omega) h1
                      show movedV _ _ = _
                      unfold movedV
                      rw [stR_none (show 2 ≤ 4 by omega) h2]
                    have e3 : (H'[0]! == 1) = true := by simpa using e2
                    generalize A'[7]! = v3 at *
                    generalize H'[0]! = h0 at *
                    clear e0 e2
                    go_wp2
                    go_ret2
                    rw [hz.out]
                    exact ⟨rfl, MK.out.below⟩
                  · have e3 : (H'[0]! == 1) = false := by simpa using e2
                    have hK2 : Hid (stK m 1 1 (lay4 [p0, p1, p2, p3, p4, p5, p6, p7, p8, p9, p10, p11] A 1, H) = some (kill A' 1 0, H'.set 0 1)) := by
                      show stK _ _ _ _ = _
                      rw [stK, hK.out]
                      simp only [Option.bind_some, chg1]
                      rw [if_pos hb1.out, if_neg (fun h => h.elim e0 e2)]
                    have q0 := cellI MK.out.head (o := 4) (by omega)
                    have q1 := cellI MK.out.head (o := 5) (by omega)
                    have q2 := cellI MK.out.head (o := 6) (by omega)
                    have g0 := freeI MK.out.head 4
                    have g1 := freeI MK.out.head 5
                    have g2 := freeI MK.out.head 6
                    have g3 := freeI MK.out.head 7
                    have s0 := freeI MK.out.tail.head 0
                    have MS : Mem w [(w.heap.size + 1, oI (kill A' 1 0) 197), (w.heap.size + 1 + 1, oI (H'.set 0 1) 49)] _ := ((((((MK.out.setI (AP2.out H') (by omega) 4 0).setI (AP2.out H') (by omega) 5 0).setI (AP2.out H') (by omega) 6 0).setI (AP2.out H') (by omega) 7 0).setI (AP2.out H') (by omega) 6 1).setI2 (by simp only; omega) (by omega) 0 1)
                    replace MK := Lib.hid MS
                    clear MS
                    generalize A'[7]! = v3 at *
                    generalize A'[4]! = v0 at *
                    generalize A'[5]! = v1 at *
                    generalize A'[6]! = v2 at *
                    generalize H'[0]! = h0 at *
                    clear e0 e2
                    go_wp2_with fail
                    go_roundw
                    case rel => exact ⟨1, kill A' 1 0, H'.set 0 1, by omega, by go_num, hK2.out, MK.out⟩
                    case measure => simp [intOf]
            · have hb := bm4 m hm
              cases hbm : bitM m 4
              · rw [hbm] at hb
                have hK2 : Hid (stK m 1 2 (lay4 [p0, p1, p2, p3, p4, p5, p6, p7, p8, p9, p10, p11] A 1, H) = some (A', H')) := by
                  show stK _ _ _ _ = _
                  rw [stK, hK.out]
                  simp only [Option.bind_some, chg1]
                  rw [if_neg (by rw [hbm]; simp)]
                clear hbm
                go_wp2_with fail
                go_roundw
                case rel => exact ⟨2, A', H', by omega, by go_num, hK2.out, MK.out⟩
                case measure => simp [intOf]
              · rw [hbm] at hb
                have hb1 : Hid (bitM m 4 = true) := Lib.hid hbm
                clear hbm
                have lA : A'.length = 16 := by have := (stK_len hK.out).1; simp only [lay4, List.length_set] at this; rw [this]; exact LA.out
                have lH : H'.length = 3 := by have := (stK_len hK.out).2; simp only at this; rw [this]; exact LH.out
                have q3 := cellI MK.out.head (o := 7) (by omega)
                have r0 := cellI MK.out.tail.head (o := 1) (by omega)
                by_cases e0 : A'[7]! = 0
                · have hz : Hid (movedV [p0, p1, p2, p3, p4, p5, p6, p7, p8, p9, p10, p11] m = (0, false)) := by
                    have h1 : stK m 1 2 (lay4 [p0, p1, p2, p3, p4, p5, p6, p7, p8, p9, p10, p11] A 1, H) = none := by rw [stK, hK.out]; simp only [Option.bind_some, chg1]; rw [if_pos hb1.out, if_pos (Or.inl e0)]
                    have h2 : stR [p0, p1, p2, p3, p4, p5, p6, p7, p8, p9, p10, p11] m 2 = none := by rw [stR, hS.out]; exact stK_none (by omega) h1
                    show movedV _ _ = _
                    unfold movedV
                    rw [stR_none (show 2 ≤ 4 by omega) h2]
                  have e1 : (A'[7]! == 0) = true := by simpa using e0
                  generalize A'[7]! = v3 at *
                  clear e0
                  go_wp2
                  go_ret2
                  rw [hz.out]
                  exact ⟨rfl, MK.out.below⟩
                · have e1 : (A'[7]! == 0) = false := by simpa using e0
                  by_cases e2 : H'[1]! = 1
                  · have hz : Hid (movedV [p0, p1, p2, p3, p4, p5, p6, p7, p8, p9, p10, p11] m = (0, false)) := by
                      have h1 : stK m 1 2 (lay4 [p0, p1, p2, p3, p4, p5, p6, p7, p8, p9, p10, p11] A 1, H) = none := by rw [stK, hK.out]; simp only [Option.bind_some, chg1]; rw [if_pos hb1.out, if_pos (Or.inr e2)]
                      have h2 : stR [p0, p1, p2, p3, p4, p5, p6, p7, p8, p9, p10, p11] m 2 = none := by rw [stR, hS.out]; exact stK_none (by omega) h1
                      show movedV _ _ = _
                      unfold movedV
                      rw [stR_none (show 2 ≤ 4 by omega) h2]
                    have e3 : (H'[1]! == 1) = true := by simpa using e2
                    generalize A'[7]! = v3 at *
                    generalize H'[1]! = h0 at *
                    clear e0 e2
                    go_wp2
                    go_ret2
                    rw [hz.out]
                    exact ⟨rfl, MK.out.below⟩
                  · have e3 : (H'[1]! == 1) = false := by simpa using e2
                    have hK2 : Hid (stK m 1 2 (lay4 [p0, p1, p2, p3, p4, p5, p6, p7, p8, p9, p10, p11] A 1, H) = some (kill A' 1 1, H'.set 1 1)) := by
                      show stK _ _ _ _ = _
                      rw [stK, hK.out]
                      simp only [Option.bind_some, chg1]
                      rw [if_pos hb1.out, if_neg (fun h => h.elim e0 e2)]
                    have q0 := cellI MK.out.head (o := 4) (by omega)
                    have q1 := cellI MK.out.head (o := 5) (by omega)
                    have q2 := cellI MK.out.head (o := 6) (by omega)
                    have g0 := freeI MK.out.head 4
                    have g1 := freeI MK.out.head 5
                    have g2 := freeI MK.out.head 6
                    have g3 := freeI MK.out.head 7
                    have s0 := freeI MK.out.tail.head 1
                    have MS : Mem w [(w.heap.size + 1, oI (kill A' 1 1) 197), (w.heap.size + 1 + 1, oI (H'.set 1 1) 49)] _ := ((((((MK.out.setI (AP2.out H') (by omega) 4 0).setI (AP2.out H') (by omega) 5 0).setI (AP2.out H') (by omega) 6 0).setI (AP2.out H') (by omega) 7 0).setI (AP2.out H') (by omega) 5 1).setI2 (by simp only; omega) (by omega) 1 1)
                    replace MK := Lib.hid MS
                    clear MS
                    generalize A'[7]! = v3 at *
                    generalize A'[4]! = v0 at *
                    generalize A'[5]! = v1 at *
                    generalize A'[6]! = v2 at *
                    generalize H'[1]! = h0 at *
                    clear e0 e2
                    go_wp2_with fail
                    go_roundw
                    case rel => exact ⟨2, kill A' 1 1, H'.set 1 1, by omega, by go_num, hK2.out, MK.out⟩
                    case measure => simp [intOf]
            · have hb := bm5 m hm
              cases hbm : bitM m 5
              · rw [hbm] at hb
                have hK2 : Hid (stK m 1 3 (lay4 [p0, p1, p2, p3, p4, p5, p6, p7, p8, p9, p10, p11] A 1, H) = some (A', H')) := by
                  show stK _ _ _ _ = _
                  rw [stK, hK.out]
                  simp only [Option.bind_some, chg1]
                  rw [if_neg (by rw [hbm]; simp)]
                clear hbm
                go_wp2_with fail
                go_roundw
                case rel => exact ⟨3, A', H', by omega, by go_num, hK2.out, MK.out⟩
                case measure => simp [intOf]
              · rw [hbm] at hb
                have hb1 : Hid (bitM m 5 = true) := Lib.hid hbm
                clear hbm
                have lA : A'.length = 16 := by have := (stK_len hK.out).1; simp only [lay4, List.length_set] at this; rw [this]; exact LA.out
                have lH : H'.length = 3 := by have := (stK_len hK.out).2; simp only at this; rw [this]; exact LH.out
                have q3 := cellI MK.out.head (o := 7) (by omega)
                have r0 := cellI MK.out.tail.head (o := 2) (by omega)
                by_cases e0 : A'[7]! = 0
                · have hz : Hid (movedV [p0, p1, p2, p3, p4, p5, p6, p7, p8, p9, p10, p11] m = (0, false)) := by
                    have h1 : stK m 1 3 (lay4 [p0, p1, p2, p3, p4, p5, p6, p7, p8, p9, p10, p11] A 1, H) = none := by rw [stK, hK.out]; simp only [Option.bind_some, chg1]; rw [if_pos hb1.out, if_pos (Or.inl e0)]
                    have h2 : stR [p0, p1, p2, p3, p4, p5, p6, p7, p8, p9, p10, p11] m 2 = none := by rw [stR, hS.out]; exact stK_none (by omega) h1
                    show movedV _ _ = _
                    unfold movedV
                    rw [stR_none (show 2 ≤ 4 by omega) h2]
                  have e1 : (A'[7]! == 0) = true := by simpa using e0
                  generalize A'[7]! = v3 at *
                  clear e0
                  go_wp2
                  go_ret2
                  rw [hz.out]
                  exact ⟨rfl, MK.out.below⟩
                · have e1 : (A'[7]! == 0) = false := by simpa using e0
                  by_cases e2 : H'[2]! = 1
                  · have hz : Hid (movedV [p0, p1, p2, p3, p4, p5, p6, p7, p8, p9, p10, p11] m = (0, false)) := by
                      have h1 : stK m 1 3 (lay4 [p0, p1, p2, p3, p4, p5, p6, p7, p8, p9, p10, p11] A 1, H) = none := by rw [stK, hK.out]; simp only [Option.bind_some, chg1]; rw [if_pos hb1.out, if_pos (Or.inr e2)]
                      have h2 : stR [p0, p1, p2, p3, p4, p5, p6, p7, p8, p9, p10, p11] m 2 = none := by rw [stR, hS.out]; exact stK_none (by omega) h1
                      show movedV _ _ = _
                      unfold movedV
                      rw [stR_none (show 2 ≤ 4 by omega) h2]
                    have e3 : (H'[2]! == 1) = true := by simpa using e2
                    generalize A'[7]! = v3 at *
                    generalize H'[2]! = h0 at *
                    clear e0 e2
                    go_wp2
                    go_ret2
                    rw [hz.out]
                    exact ⟨rfl, MK.out.below⟩
                  · have e3 : (H'[2]! == 1) = false := by simpa using e2
                    have hK2 : Hid (stK m 1 3 (lay4 [p0, p1, p2, p3, p4, p5, p6, p7, p8, p9, p10, p11] A 1, H) = some (kill A' 1 2, H'.set 2 1)) := by
                      show stK _ _ _ _ = _
                      rw [stK, hK.out]
                      simp only [Option.bind_some, chg1]
                      rw [if_pos hb1.out, if_neg (fun h => h.elim e0 e2)]
                    have q0 := cellI MK.out.head (o := 4) (by omega)
                    have q1 := cellI MK.out.head (o := 5) (by omega)
                    have q2 := cellI MK.out.head (o := 6) (by omega)
                    have g0 := freeI MK.out.head 4
                    have g1 := freeI MK.out.head 5
                    have g2 := freeI MK.out.head 6
                    have g3 := freeI MK.out.head 7
                    have s0 := freeI MK.out.tail.head 2
                    have MS : Mem w [(w.heap.size + 1, oI (kill A' 1 2) 197), (w.heap.size + 1 + 1, oI (H'.set 2 1) 49)] _ := ((((((MK.out.setI (AP2.out H') (by omega) 4 0).setI (AP2.out H') (by omega) 5 0).setI (AP2.out H') (by omega) 6 0).setI (AP2.out H') (by omega) 7 0).setI (AP2.out H') (by omega) 4 1).setI2 (by simp only; omega) (by omega) 2 1)
                    replace MK := Lib.hid MS
                    clear MS
                    generalize A'[7]! = v3 at *
                    generalize A'[4]! = v0 at *
                    generalize A'[5]! = v1 at *
                    generalize A'[6]! = v2 at *
                    generalize H'[2]! = h0 at *
                    clear e0 e2
                    go_wp2_with fail
                    go_roundw
                    case rel => exact ⟨3, kill A' 1 2, H'.set 2 1, by omega, by go_num, hK2.out, MK.out⟩
                    case measure => simp [intOf]
          · obtain rfl : k = 3 := by omega
            have hS2 : Hid (stR [p0, p1, p2, p3, p4, p5, p6, p7, p8, p9, p10, p11] m 2 = some (A', H')) := by
              show stR _ _ _ = _
              rw [stR, hS.out]
              exact hK.out
            go_wp2_with fail
            go_roundw
            case rel => exact ⟨2, A', H', by omega, by go_num, hS2.out, MK.out⟩
            case measure => simp [intOf]
      · have ix : ∀ W : World, (Instr.index 134 (.agg #[.int .i64 p0, .int .i64 p1, .int .i64 p2, .int .i64 p3, .int .i64 p4, .int .i64 p5, .int .i64 p6, .int .i64 p7, .int .i64 p8, .int .i64 p9, .int .i64 p10, .int .i64 p11]) (.int .i64 2)).run Try.prog W = .ok (.agg #[.int .i64 p6, .int .i64 p7, .int .i64 p8]) W := fun _ => by kernel_rfl
        have sz0 : wr.heap.size ≠ w.heap.size + 1 := by have := MB.out.lt (p := (w.heap.size + 1, oI A 197)) (by simp); simp only at this; omega
        have lr := MB.out.lt (p := (w.heap.size + 1, oI A 197)) (by simp)
        simp only at lr
        have q0 := cellI MB.out.head (o := 8) (by rw [LA.out]; omega)
        have g0 := freeI MB.out.head 8
        have q1 := cellI MB.out.head (o := 9) (by rw [LA.out]; omega)
        have g1 := freeI MB.out.head 9
        have q2 := cellI MB.out.head (o := 10) (by rw [LA.out]; omega)
        have g2 := freeI MB.out.head 10
        have q3 := cellI MB.out.head (o := 11) (by rw [LA.out]; omega)
        have g3 := freeI MB.out.head 11
        generalize A[8]! = v0 at *
        generalize A[9]! = v1 at *
        generalize A[10]! = v2 at *
        generalize A[11]! = v3 at *
        have MS : Mem w [(w.heap.size + 1, oI (lay4 [p0, p1, p2, p3, p4, p5, p6, p7, p8, p9, p10, p11] A 2) 197), (w.heap.size + 1 + 1, oI H 49)] _ := (((((MB.out.setI AP.out (by omega) 8 p6).setI AP.out (by omega) 9 p7).setI AP.out (by omega) 10 p8).setI AP.out (by omega) 11 1).add (o3 p6 p7 p8 109)).tail
        replace MB := Lib.hid MS
        clear MS
        go_wp2_with fail
        clear q0 q1 q2 q3 g0 g1 g2 g3 ix
        go_loopw [30] (fun kk wx => ∃ (k : Nat) (A' H' : List Int), k ≤ 3 ∧ kk = .int .i64 k ∧ Hid (stK m 2 k (lay4 [p0, p1, p2, p3, p4, p5, p6, p7, p8, p9, p10, p11] A 2, H) = some (A', H')) ∧ Hid (Mem w [(w.heap.size + 1, oI A' 197), (w.heap.size + 1 + 1, oI H' 49)] wx)) (fun kk _ => 3 - (intOf kk).toNat)
        case atStart => exact ⟨0, _, _, by omega, rfl, rfl, MB.out⟩
        case round =>
          obtain ⟨k, A', H', hk, rfl, hK, MK⟩ := hrel
          replace hK := Lib.hid hK
          replace MK := Lib.hid MK
          by_cases hk3 : k < 3
          · rcases (by omega : k = 0 ∨ k = 1 ∨ k = 2) with rfl | rfl | rfl
            · have hb := bm6 m hm
              cases hbm : bitM m 6
              · rw [hbm] at hb
                have hK2 : Hid (stK m 2 1 (lay4 [p0, p1, p2, p3, p4, p5, p6, p7, p8, p9, p10, p11] A 2, H) = some (A', H')) := by
                  show stK _ _ _ _ = _
                  rw [stK, hK.out]
                  simp only [Option.bind_some, chg1]
                  rw [if_neg (by rw [hbm]; simp)]
                clear hbm
                go_wp2_with fail
                go_roundw
                case rel => exact ⟨1, A', H', by omega, by go_num, hK2.out, MK.out⟩
                case measure => simp [intOf]
              · rw [hbm] at hb
                have hb1 : Hid (bitM m 6 = true) := Lib.hid hbm
                clear hbm
                have lA : A'.length = 16 := by have := (stK_len hK.out).1; simp only [lay4, List.length_set] at this; rw [this]; exact LA.out
                have lH : H'.length = 3 := by have := (stK_len hK.out).2; simp only at this; rw [this]; exact LH.out
                have q3 := cellI MK.out.head (o := 11) (by omega)
                have r0 := cellI MK.out.tail.head (o := 0) (by omega)
                by_cases e0 : A'[11]! = 0
                · have hz : Hid (movedV [p0, p1, p2, p3, p4, p5, p6, p7, p8, p9, p10, p11] m = (0, false)) := by
                    have h1 : stK m 2 1 (lay4 [p0, p1, p2, p3, p4, p5, p6, p7, p8, p9, p10, p11] A 2, H) = none := by rw [stK, hK.out]; simp only [Option.bind_some, chg1]; rw [if_pos hb1.out, if_pos (Or.inl e0)]
                    have h2 : stR [p0, p1, p2, p3, p4, p5, p6, p7, p8, p9, p10, p11] m 3 = none := by rw [stR, hS.out]; exact stK_none (by omega) h1
                    show movedV _ _ = _
                    unfold movedV
                    rw [stR_none (show 3 ≤ 4 by omega) h2]
                  have e1 : (A'[11]! == 0) = true := by simpa using e0
                  generalize A'[11]! = v3 at *
                  clear e0
                  go_wp2
                  go_ret2
                  rw [hz.out]
                  exact ⟨rfl, MK.out.below⟩
                · have e1 : (A'[11]! == 0) = false := by simpa using e0
                  by_cases e2 : H'[0]! = 1
                  · have hz : Hid (movedV [p0, p1, p2, p3, p4, p5, p6, p7, p8, p9, p10, p11] m = (0, false)) := by
                      have h1 : stK m 2 1 (lay4 [p0, p1, p2, p3, p4, p5, p6, p7, p8, p9, p10, p11] A 2, H) = none := by rw [stK, hK.out]; simp only [Option.bind_some, chg1]; rw [if_pos hb1.out, if_pos (Or.inr e2)]
                      have h2 : stR [p0, p1, p2, p3, p4, p5, p6, p7, p8, p9, p10, p11] m 3 = none := by rw [stR, hS.out]; exact stK_none (by omega) h1
                      show movedV _ _ = _
                      unfold movedV
                      rw [stR_none (show 3 ≤ 4 by omega) h2]
                    have e3 : (H'[0]! == 1) = true := by simpa using e2
                    generalize A'[11]! = v3 at *
                    generalize H'[0]! = h0 at *
                    clear e0 e2
                    go_wp2
                    go_ret2
                    rw [hz.out]
                    exact ⟨rfl, MK.out.below⟩
                  · have e3 : (H'[0]! == 1) = false := by simpa using e2
                    have hK2 : Hid (stK m 2 1 (lay4 [p0, p1, p2, p3, p4, p5, p6, p7, p8, p9, p10, p11] A 2, H) = some (kill A' 2 0, H'.set 0 1)) := by
                      show stK _ _ _ _ = _
                      rw [stK, hK.out]
                      simp only [Option.bind_some, chg1]
                      rw [if_pos hb1.out, if_neg (fun h => h.elim e0 e2)]
                    have q0 := cellI MK.out.head (o := 8) (by omega)
                    have q1 := cellI MK.out.head (o := 9) (by omega)
                    have q2 := cellI MK.out.head (o := 10) (by omega)
                    have g0 := freeI MK.out.head 8
                    have g1 := freeI MK.out.head 9
                    have g2 := freeI MK.out.head 10
                    have g3 := freeI MK.out.head 11
                    have s0 := freeI MK.out.tail.head 0
                    have MS : Mem w [(w.heap.size + 1, oI (kill A' 2 0) 197), (w.heap.size + 1 + 1, oI (H'.set 0 1) 49)] _ := ((((((MK.out.setI (AP2.out H') (by omega) 8 0).setI (AP2.out H') (by omega) 9 0).setI (AP2.out H') (by omega) 10 0).setI (AP2.out H') (by omega) 11 0).setI (AP2.out H') (by omega) 10 1).setI2 (by simp only; omega) (by omega) 0 1)
                    replace MK := Lib.hid MS
                    clear MS
                    generalize A'[11]! = v3 at *
                    generalize A'[8]! = v0 at *
                    generalize A'[9]! = v1 at *
                    generalize A'[10]! = v2 at *
                    generalize H'[0]! = h0 at *
                    clear e0 e2
                    go_wp2_with fail
                    go_roundw
                    case rel => exact ⟨1, kill A' 2 0, H'.set 0 1, by omega, by go_num, hK2.out, MK.out⟩
                    case measure => simp [intOf]
            · have hb := bm7 m hm
              cases hbm : bitM m 7
              · rw [hbm] at hb
                have hK2 : Hid (stK m 2 2 (lay4 [p0, p1, p2, p3, p4, p5, p6, p7, p8, p9, p10, p11] A 2, H) = some (A', H')) := by
                  show stK _ _ _ _ = _
                  rw [stK, hK.out]
                  simp only [Option.bind_some, chg1]
                  rw [if_neg (by rw [hbm]; simp)]
                clear hbm
                go_wp2_with fail
                go_roundw
                case rel => exact ⟨2, A', H', by omega, by go_num, hK2.out, MK.out⟩
                case measure => simp [intOf]
              · rw [hbm] at hb
                have hb1 : Hid (bitM m 7 = true) := Lib.hid hbm
                clear hbm
                have lA : A'.length = 16 := by have := (stK_len hK.out).1; simp only [lay4, List.length_set] at this; rw [this]; exact LA.out
                have lH : H'.length = 3 := by have := (stK_len hK.out).2; simp only at this; rw [this]; exact LH.out
                have q3 := cellI MK.out.head (o := 11) (by omega)
                have r0 := cellI MK.out.tail.head (o := 1) (by omega)
                by_cases e0 : A'[11]! = 0
                · have hz : Hid (movedV [p0, p1, p2, p3, p4, p5, p6, p7, p8, p9, p10, p11] m = (0, false)) := by
                    have h1 : stK m 2 2 (lay4 [p0, p1, p2, p3, p4, p5, p6, p7, p8, p9, p10, p11] A 2, H) = none := by rw [stK, hK.out]; simp only [Option.bind_some, chg1]; rw [if_pos hb1.out, if_pos (Or.inl e0)]
                    have h2 : stR [p0, p1, p2, p3, p4, p5, p6, p7, p8, p9, p10, p11] m 3 = none := by rw [stR, hS.out]; exact stK_none (by omega) h1
                    show movedV _ _ = _
                    unfold movedV
                    rw [stR_none (show 3 ≤ 4 by omega) h2]
                  have e1 : (A'[11]! == 0) = true := by simpa using e0
                  generalize A'[11]! = v3 at *
                  clear e0
                  go_wp2
                  go_ret2
                  rw [hz.out]
                  exact ⟨rfl, MK.out.below⟩
                · have e1 : (A'[11]! == 0) = false := by simpa using e0
                  by_cases e2 : H'[1]! = 1
                  · have hz : Hid (movedV [p0, p1, p2, p3, p4, p5, p6, p7, p8, p9, p10, p11] m = (0, false)) := by
                      have h1 : stK m 2 2 (lay4 [p0, p1, p2, p3, p4, p5, p6, p7, p8, p9, p10, p11] A 2, H) = none := by rw [stK, hK.out]; simp only [Option.bind_some, chg1]; rw [if_pos hb1.out, if_pos (Or.inr e2)]
                      have h2 : stR [p0, p1, p2, p3, p4, p5, p6, p7, p8, p9, p10, p11] m 3 = none := by rw [stR, hS.out]; exact stK_none (by omega) h1
                      show movedV _ _ = _
                      unfold movedV
                      rw [stR_none (show 3 ≤ 4 by omega) h2]
                    have e3 : (H'[1]! == 1) = true := by simpa using e2
                    generalize A'[11]! = v3 at *
                    generalize H'[1]! = h0 at *
                    clear e0 e2
                    go_wp2
                    go_ret2
                    rw [hz.out]
                    exact ⟨rfl, MK.out.below⟩
                  · have e3 : (H'[1]! == 1) = false := by simpa using e2
                    have hK2 : Hid (stK m 2 2 (lay4 [p0, p1, p2, p3, p4, p5, p6, p7, p8, p9, p10, p11] A 2, H) = some (kill A' 2 1, H'.set 1 1)) := by
                      show stK _ _ _ _ = _
                      rw [stK, hK.out]
                      simp only [Option.bind_some, chg1]
                      rw [if_pos hb1.out, if_neg (fun h => h.elim e0 e2)]
                    have q0 := cellI MK.out.head (o := 8) (by omega)
                    have q1 := cellI MK.out.head (o := 9) (by omega)
                    have q2 := cellI MK.out.head (o := 10) (by omega)
                    have g0 := freeI MK.out.head 8
                    have g1 := freeI MK.out.head 9
                    have g2 := freeI MK.out.head 10
                    have g3 := freeI MK.out.head 11
                    have s0 := freeI MK.out.tail.head 1
                    have MS : Mem w [(w.heap.size + 1, oI (kill A' 2 1) 197), (w.heap.size + 1 + 1, oI (H'.set 1 1) 49)] _ := ((((((MK.out.setI (AP2.out H') (by omega) 8 0).setI (AP2.out H') (by omega) 9 0).setI (AP2.out H') (by omega) 10 0).setI (AP2.out H') (by omega) 11 0).setI (AP2.out H') (by omega) 9 1).setI2 (by simp only; omega) (by omega) 1 1)
                    replace MK := Lib.hid MS
                    clear MS
                    generalize A'[11]! = v3 at *
                    generalize A'[8]! = v0 at *
                    generalize A'[9]! = v1 at *
                    generalize A'[10]! = v2 at *
                    generalize H'[1]! = h0 at *
                    clear e0 e2
                    go_wp2_with fail
                    go_roundw
                    case rel => exact ⟨2, kill A' 2 1, H'.set 1 1, by omega, by go_num, hK2.out, MK.out⟩
                    case measure => simp [intOf]
            · have hb := bm8 m hm
              cases hbm : bitM m 8
              · rw [hbm] at hb
                have hK2 : Hid (stK m 2 3 (lay4 [p0, p1, p2, p3, p4, p5, p6, p7, p8, p9, p10, p11] A 2, H) = some (A', H')) := by
                  show stK _ _ _ _ = _
                  rw [stK, hK.out]
                  simp only [Option.bind_some, chg1]
                  rw [if_neg (by rw [hbm]; simp)]
                clear hbm
                go_wp2_with fail
                go_roundw
                case rel => exact ⟨3, A', H', by omega, by go_num, hK2.out, MK.out⟩
                case measure => simp [intOf]
              · rw [hbm] at hb
                have hb1 : Hid (bitM m 8 = true) := Lib.hid hbm
                clear hbm
                have lA : A'.length = 16 := by have := (stK_len hK.out).1; simp only [lay4, List.length_set] at this; rw [this]; exact LA.out
                have lH : H'.length = 3 := by have := (stK_len hK.out).2; simp only at this; rw [this]; exact LH.out
                have q3 := cellI MK.out.head (o := 11) (by omega)
                have r0 := cellI MK.out.tail.head (o := 2) (by omega)
                by_cases e0 : A'[11]! = 0
                · have hz : Hid (movedV [p0, p1, p2, p3, p4, p5, p6, p7, p8, p9, p10, p11] m = (0, false)) := by
                    have h1 : stK m 2 3 (lay4 [p0, p1, p2, p3, p4, p5, p6, p7, p8, p9, p10, p11] A 2, H) = none := by rw [stK, hK.out]; simp only [Option.bind_some, chg1]; rw [if_pos hb1.out, if_pos (Or.inl e0)]
                    have h2 : stR [p0, p1, p2, p3, p4, p5, p6, p7, p8, p9, p10, p11] m 3 = none := by rw [stR, hS.out]; exact stK_none (by omega) h1
                    show movedV _ _ = _
                    unfold movedV
                    rw [stR_none (show 3 ≤ 4 by omega) h2]
                  have e1 : (A'[11]! == 0) = true := by simpa using e0
                  generalize A'[11]! = v3 at *
                  clear e0
                  go_wp2
                  go_ret2
                  rw [hz.out]
                  exact ⟨rfl, MK.out.below⟩
                · have e1 : (A'[11]! == 0) = false := by simpa using e0
                  by_cases e2 : H'[2]! = 1
                  · have hz : Hid (movedV [p0, p1, p2, p3, p4, p5, p6, p7, p8, p9, p10, p11] m = (0, false)) := by
                      have h1 : stK m 2 3 (lay4 [p0, p1, p2, p3, p4, p5, p6, p7, p8, p9, p10, p11] A 2, H) = none := by rw [stK, hK.out]; simp only [Option.bind_some, chg1]; rw [if_pos hb1.out, if_pos (Or.inr e2)]
                      have h2 : stR [p0, p1, p2, p3, p4, p5, p6, p7, p8, p9, p10, p11] m 3 = none := by rw [stR, hS.out]; exact stK_none (by omega) h1
                      show movedV _ _ = _
                      unfold movedV
                      rw [stR_none (show 3 ≤ 4 by omega) h2]
                    have e3 : (H'[2]! == 1) = true := by simpa using e2
                    generalize A'[11]! = v3 at *
                    generalize H'[2]! = h0 at *
                    clear e0 e2
                    go_wp2
                    go_ret2
                    rw [hz.out]
                    exact ⟨rfl, MK.out.below⟩
                  · have e3 : (H'[2]! == 1) = false := by simpa using e2
                    have hK2 : Hid (stK m 2 3 (lay4 [p0, p1, p2, p3, p4, p5, p6, p7, p8, p9, p10, p11] A 2, H) = some (kill A' 2 2, H'.set 2 1)) := by
                      show stK _ _ _ _ = _
                      rw [stK, hK.out]
                      simp only [Option.bind_some, chg1]
                      rw [if_pos hb1.out, if_neg (fun h => h.elim e0 e2)]
                    have q0 := cellI MK.out.head (o := 8) (by omega)
                    have q1 := cellI MK.out.head (o := 9) (by omega)
                    have q2 := cellI MK.out.head (o := 10) (by omega)
                    have g0 := freeI MK.out.head 8
                    have g1 := freeI MK.out.head 9
                    have g2 := freeI MK.out.head 10
                    have g3 := freeI MK.out.head 11
                    have s0 := freeI MK.out.tail.head 2
                    have MS : Mem w [(w.heap.size + 1, oI (kill A' 2 2) 197), (w.heap.size + 1 + 1, oI (H'.set 2 1) 49)] _ := ((((((MK.out.setI (AP2.out H') (by omega) 8 0).setI (AP2.out H') (by omega) 9 0).setI (AP2.out H') (by omega) 10 0).setI (AP2.out H') (by omega) 11 0).setI (AP2.out H') (by omega) 8 1).setI2 (by simp only; omega) (by omega) 2 1)
                    replace MK := Lib.hid MS
                    clear MS
                    generalize A'[11]! = v3 at *
                    generalize A'[8]! = v0 at *
                    generalize A'[9]! = v1 at *
                    generalize A'[10]! = v2 at *
                    generalize H'[2]! = h0 at *
                    clear e0 e2
                    go_wp2_with fail
                    go_roundw
                    case rel => exact ⟨3, kill A' 2 2, H'.set 2 1, by omega, by go_num, hK2.out, MK.out⟩
                    case measure => simp [intOf]
          · obtain rfl : k = 3 := by omega
            have hS2 : Hid (stR [p0, p1, p2, p3, p4, p5, p6, p7, p8, p9, p10, p11] m 3 = some (A', H')) := by
              show stR _ _ _ = _
              rw [stR, hS.out]
              exact hK.out
            go_wp2_with fail
            go_roundw
            case rel => exact ⟨3, A', H', by omega, by go_num, hS2.out, MK.out⟩
            case measure => simp [intOf]
      · have ix : ∀ W : World, (Instr.index 134 (.agg #[.int .i64 p0, .int .i64 p1, .int .i64 p2, .int .i64 p3, .int .i64 p4, .int .i64 p5, .int .i64 p6, .int .i64 p7, .int .i64 p8, .int .i64 p9, .int .i64 p10, .int .i64 p11]) (.int .i64 3)).run Try.prog W = .ok (.agg #[.int .i64 p9, .int .i64 p10, .int .i64 p11]) W := fun _ => by kernel_rfl
        have sz0 : wr.heap.size ≠ w.heap.size + 1 := by have := MB.out.lt (p := (w.heap.size + 1, oI A 197)) (by simp); simp only at this; omega
        have lr := MB.out.lt (p := (w.heap.size + 1, oI A 197)) (by simp)
        simp only at lr
        have q0 := cellI MB.out.head (o := 12) (by rw [LA.out]; omega)
        have g0 := freeI MB.out.head 12
        have q1 := cellI MB.out.head (o := 13) (by rw [LA.out]; omega)
        have g1 := freeI MB.out.head 13
        have q2 := cellI MB.out.head (o := 14) (by rw [LA.out]; omega)
        have g2 := freeI MB.out.head 14
        have q3 := cellI MB.out.head (o := 15) (by rw [LA.out]; omega)
        have g3 := freeI MB.out.head 15
        generalize A[12]! = v0 at *
        generalize A[13]! = v1 at *
        generalize A[14]! = v2 at *
        generalize A[15]! = v3 at *
        have MS : Mem w [(w.heap.size + 1, oI (lay4 [p0, p1, p2, p3, p4, p5, p6, p7, p8, p9, p10, p11] A 3) 197), (w.heap.size + 1 + 1, oI H 49)] _ := (((((MB.out.setI AP.out (by omega) 12 p9).setI AP.out (by omega) 13 p10).setI AP.out (by omega) 14 p11).setI AP.out (by omega) 15 1).add (o3 p9 p10 p11 109)).tail
        replace MB := Lib.hid MS
        clear MS
        go_wp2_with fail
        clear q0 q1 q2 q3 g0 g1 g2 g3 ix
        go_loopw [30] (fun kk wx => ∃ (k : Nat) (A' H' : List Int), k ≤ 3 ∧ kk = .int .i64 k ∧ Hid (stK m 3 k (lay4 [p0, p1, p2, p3, p4, p5, p6, p7, p8, p9, p10, p11] A 3, H) = some (A', H')) ∧ Hid (Mem w [(w.heap.size + 1, oI A' 197), (w.heap.size + 1 + 1, oI H' 49)] wx)) (fun kk _ => 3 - (intOf kk).toNat)
        case atStart => exact ⟨0, _, _, by omega, rfl, rfl, MB.out⟩
        case round =>
          obtain ⟨k, A', H', hk, rfl, hK, MK⟩ := hrel
          replace hK := Lib.hid hK
          replace MK := Lib.hid MK
          by_cases hk3 : k < 3
          · rcases (by omega : k = 0 ∨ k = 1 ∨ k = 2) with rfl | rfl | rfl
            · have hb := bm9 m hm
              cases hbm : bitM m 9
              · rw [hbm] at hb
                have hK2 : Hid (stK m 3 1 (lay4 [p0, p1, p2, p3, p4, p5, p6, p7, p8, p9, p10, p11] A 3, H) = some (A', H')) := by
                  show stK _ _ _ _ = _
                  rw [stK, hK.out]
                  simp only [Option.bind_some, chg1]
                  rw [if_neg (by rw [hbm]; simp)]
                clear hbm
                go_wp2_with fail
                go_roundw
                case rel => exact ⟨1, A', H', by omega, by go_num, hK2.out, MK.out⟩
                case measure => simp [intOf]
              · rw [hbm] at hb
                have hb1 : Hid (bitM m 9 = true) := Lib.hid hbm
                clear hbm
                have lA : A'.length = 16 := by have := (stK_len hK.out).1; simp only [lay4, List.length_set] at this; rw [this]; exact LA.out
                have lH : H'.length = 3 := by have := (stK_len hK.out).2; simp only at this; rw [this]; exact LH.out
                have q3 := cellI MK.out.head (o := 15) (by omega)
                have r0 := cellI MK.out.tail.head (o := 0) (by omega)
                by_cases e0 : A'[15]! = 0
                · have hz : Hid (movedV [p0, p1, p2, p3, p4, p5, p6, p7, p8, p9, p10, p11] m = (0, false)) := by
                    have h1 : stK m 3 1 (lay4 [p0, p1, p2, p3, p4, p5, p6, p7, p8, p9, p10, p11] A 3, H) = none := by rw [stK, hK.out]; simp only [Option.bind_some, chg1]; rw [if_pos hb1.out, if_pos (Or.inl e0)]
                    have h2 : stR [p0, p1, p2, p3, p4, p5, p6, p7, p8, p9, p10, p11] m 4 = none := by rw [stR, hS.out]; exact stK_none (by omega) h1
                    show movedV _ _ = _
                    unfold movedV
                    rw [stR_none (show 4 ≤ 4 by omega) h2]
                  have e1 : (A'[15]! == 0) = true := by simpa using e0
                  generalize A'[15]! = v3 at *
                  clear e0
                  go_wp2
                  go_ret2
                  rw [hz.out]
                  exact ⟨rfl, MK.out.below⟩
                · have e1 : (A'[15]! == 0) = false := by simpa using e0
                  by_cases e2 : H'[0]! = 1
                  · have hz : Hid (movedV [p0, p1, p2, p3, p4, p5, p6, p7, p8, p9, p10, p11] m = (0, false)) := by
                      have h1 : stK m 3 1 (lay4 [p0, p1, p2, p3, p4, p5, p6, p7, p8, p9, p10, p11] A 3, H) = none := by rw [stK, hK.out]; simp only [Option.bind_some, chg1]; rw [if_pos hb1.out, if_pos (Or.inr e2)]
                      have h2 : stR [p0, p1, p2, p3, p4, p5, p6, p7, p8, p9, p10, p11] m 4 = none := by rw [stR, hS.out]; exact stK_none (by omega) h1
                      show movedV _ _ = _
                      unfold movedV
                      rw [stR_none (show 4 ≤ 4 by omega) h2]
                    have e3 : (H'[0]! == 1) = true := by simpa using e2
                    generalize A'[15]! = v3 at *
                    generalize H'[0]! = h0 at *
                    clear e0 e2
                    go_wp2
                    go_ret2
                    rw [hz.out]
                    exact ⟨rfl, MK.out.below⟩
                  · have e3 : (H'[0]! == 1) = false := by simpa using e2
                    have hK2 : Hid (stK m 3 1 (lay4 [p0, p1, p2, p3, p4, p5, p6, p7, p8, p9, p10, p11] A 3, H) = some (kill A' 3 0, H'.set 0 1)) := by
                      show stK _ _ _ _ = _
                      rw [stK, hK.out]
                      simp only [Option.bind_some, chg1]
                      rw [if_pos hb1.out, if_neg (fun h => h.elim e0 e2)]
                    have q0 := cellI MK.out.head (o := 12) (by omega)
                    have q1 := cellI MK.out.head (o := 13) (by omega)
                    have q2 := cellI MK.out.head (o := 14) (by omega)
                    have g0 := freeI MK.out.head 12
                    have g1 := freeI MK.out.head 13
                    have g2 := freeI MK.out.head 14
                    have g3 := freeI MK.out.head 15
                    have s0 := freeI MK.out.tail.head 0
                    have MS : Mem w [(w.heap.size + 1, oI (kill A' 3 0) 197), (w.heap.size + 1 + 1, oI (H'.set 0 1) 49)] _ := ((((((MK.out.setI (AP2.out H') (by omega) 12 0).setI (AP2.out H') (by omega) 13 0).setI (AP2.out H') (by omega) 14 0).setI (AP2.out H') (by omega) 15 0).setI (AP2.out H') (by omega) 14 1).setI2 (by simp only; omega) (by omega) 0 1)
                    replace MK := Lib.hid MS
                    clear MS
                    generalize A'[15]! = v3 at *
                    generalize A'[12]! = v0 at *
                    generalize A'[13]! = v1 at *
                    generalize A'[14]! = v2 at *
                    generalize H'[0]! = h0 at *
                    clear e0 e2
                    go_wp2_with fail
                    go_roundw
                    case rel => exact ⟨1, kill A' 3 0, H'.set 0 1, by omega, by go_num, hK2.out, MK.out⟩
                    case measure => simp [intOf]
            · have hb := bm10 m hm
              cases hbm : bitM m 10
              · rw [hbm] at hb
                have hK2 : Hid (stK m 3 2 (lay4 [p0, p1, p2, p3, p4, p5, p6, p7, p8, p9, p10, p11] A 3, H) = some (A', H')) := by
                  show stK _ _ _ _ = _
                  rw [stK, hK.out]
                  simp only [Option.bind_some, chg1]
                  rw [if_neg (by rw [hbm]; simp)]
                clear hbm
                go_wp2_with fail
                go_roundw
                case rel => exact ⟨2, A', H', by omega, by go_num, hK2.out, MK.out⟩
                case measure => simp [intOf]
              · rw [hbm] at hb
                have hb1 : Hid (bitM m 10 = true) := Lib.hid hbm
                clear hbm
                have lA : A'.length = 16 := by have := (stK_len hK.out).1; simp only [lay4, List.length_set] at this; rw [this]; exact LA.out
                have lH : H'.length = 3 := by have := (stK_len hK.out).2; simp only at this; rw [this]; exact LH.out
                have q3 := cellI MK.out.head (o := 15) (by omega)
                have r0 := cellI MK.out.tail.head (o := 1) (by omega)
                by_cases e0 : A'[15]! = 0
                · have hz : Hid (movedV [p0, p1, p2, p3, p4, p5, p6, p7, p8, p9, p10, p11] m = (0, false)) := by
                    have h1 : stK m 3 2 (lay4 [p0, p1, p2, p3, p4, p5, p6, p7, p8, p9, p10, p11] A 3, H) = none := by rw [stK, hK.out]; simp only [Option.bind_some, chg1]; rw [if_pos hb1.out, if_pos (Or.inl e0)]
                    have h2 : stR [p0, p1, p2, p3, p4, p5, p6, p7, p8, p9, p10, p11] m 4 = none := by rw [stR, hS.out]; exact stK_none (by omega) h1
                    show movedV _ _ = _
                    unfold movedV
                    rw [stR_none (show 4 ≤ 4 by omega) h2]
                  have e1 : (A'[15]! == 0) = true := by simpa using e0
                  generalize A'[15]! = v3 at *
                  clear e0
                  go_wp2
                  go_ret2
                  rw [hz.out]
                  exact ⟨rfl, MK.out.below⟩
                · have e1 : (A'[15]! == 0) = false := by simpa using e0
                  by_cases e2 : H'[1]! = 1
                  · have hz : Hid (movedV [p0, p1, p2, p3, p4, p5, p6, p7, p8, p9, p10, p11] m = (0, false)) := by
                      have h1 : stK m 3 2 (lay4 [p0, p1, p2, p3, p4, p5, p6, p7, p8, p9, p10, p11] A 3, H) = none := by rw [stK, hK.out]; simp only [Option.bind_some, chg1]; rw [if_pos hb1.out, if_pos (Or.inr e2)]
                      have h2 : stR [p0, p1, p2, p3, p4, p5, p6, p7, p8, p9, p10, p11] m 4 = none := by rw [stR, hS.out]; exact stK_none (by omega) h1
                      show movedV _ _ = _
                      unfold movedV
                      rw [stR_none (show 4 ≤ 4 by omega) h2]
                    have e3 : (H'[1]! == 1) = true := by simpa using e2
                    generalize A'[15]! = v3 at *
                    generalize H'[1]! = h0 at *
                    clear e0 e2
                    go_wp2
                    go_ret2
                    rw [hz.out]
                    exact ⟨rfl, MK.out.below⟩
                  · have e3 : (H'[1]! == 1) = false := by simpa using e2
                    have hK2 : Hid (stK m 3 2 (lay4 [p0, p1, p2, p3, p4, p5, p6, p7, p8, p9, p10, p11] A 3, H) = some (kill A' 3 1, H'.set 1 1)) := by
                      show stK _ _ _ _ = _
                      rw [stK, hK.out]
                      simp only [Option.bind_some, chg1]
                      rw [if_pos hb1.out, if_neg (fun h => h.elim e0 e2)]
                    have q0 := cellI MK.out.head (o := 12) (by omega)
                    have q1 := cellI MK.out.head (o := 13) (by omega)
                    have q2 := cellI MK.out.head (o := 14) (by omega)
                    have g0 := freeI MK.out.head 12
                    have g1 := freeI MK.out.head 13
                    have g2 := freeI MK.out.head 14
                    have g3 := freeI MK.out.head 15
                    have s0 := freeI MK.out.tail.head 1
                    have MS : Mem w [(w.heap.size + 1, oI (kill A' 3 1) 197), (w.heap.size + 1 + 1, oI (H'.set 1 1) 49)] _ := ((((((MK.out.setI (AP2.out H') (by omega) 12 0).setI (AP2.out H') (by omega) 13 0).setI (AP2.out H') (by omega) 14 0).setI (AP2.out H') (by omega) 15 0).setI (AP2.out H') (by omega) 13 1).setI2 (by simp only; omega) (by omega) 1 1)
                    replace MK := Lib.hid MS
                    clear MS
                    generalize A'[15]! = v3 at *
                    generalize A'[12]! = v0 at *
                    generalize A'[13]! = v1 at *
                    generalize A'[14]! = v2 at *
                    generalize H'[1]! = h0 at *
                    clear e0 e2
                    go_wp2_with fail
                    go_roundw
                    case rel => exact ⟨2, kill A' 3 1, H'.set 1 1, by omega, by go_num, hK2.out, MK.out⟩
                    case measure => simp [intOf]
            · have hb := bm11 m hm
              cases hbm : bitM m 11
              · rw [hbm] at hb
                have hK2 : Hid (stK m 3 3 (lay4 [p0, p1, p2, p3, p4, p5, p6, p7, p8, p9, p10, p11] A 3, H) = some (A', H')) := by
                  show stK _ _ _ _ = _
                  rw [stK, hK.out]
                  simp only [Option.bind_some, chg1]
                  rw [if_neg (by rw [hbm]; simp)]
                clear hbm
                go_wp2_with fail
                go_roundw
                case rel => exact ⟨3, A', H', by omega, by go_num, hK2.out, MK.out⟩
                case measure => simp [intOf]
              · rw [hbm] at hb
                have hb1 : Hid (bitM m 11 = true) := Lib.hid hbm
                clear hbm
                have lA : A'.length = 16 := by have := (stK_len hK.out).1; simp only [lay4, List.length_set] at this; rw [this]; exact LA.out
                have lH : H'.length = 3 := by have := (stK_len hK.out).2; simp only at this; rw [this]; exact LH.out
                have q3 := cellI MK.out.head (o := 15) (by omega)
                have r0 := cellI MK.out.tail.head (o := 2) (by omega)
                by_cases e0 : A'[15]! = 0
                · have hz : Hid (movedV [p0, p1, p2, p3, p4, p5, p6, p7, p8, p9, p10, p11] m = (0, false)) := by
                    have h1 : stK m 3 3 (lay4 [p0, p1, p2, p3, p4, p5, p6, p7, p8, p9, p10, p11] A 3, H) = none := by rw [stK, hK.out]; simp only [Option.bind_some, chg1]; rw [if_pos hb1.out, if_pos (Or.inl e0)]
                    have h2 : stR [p0, p1, p2, p3, p4, p5, p6, p7, p8, p9, p10, p11] m 4 = none := by rw [stR, hS.out]; exact stK_none (by omega) h1
                    show movedV _ _ = _
                    unfold movedV
                    rw [stR_none (show 4 ≤ 4 by omega) h2]
                  have e1 : (A'[15]! == 0) = true := by simpa using e0
                  generalize A'[15]! = v3 at *
                  clear e0
                  go_wp2
                  go_ret2
                  rw [hz.out]
                  exact ⟨rfl, MK.out.below⟩
                · have e1 : (A'[15]! == 0) = false := by simpa using e0
                  by_cases e2 : H'[2]! = 1
                  · have hz : Hid (movedV [p0, p1, p2, p3, p4, p5, p6, p7, p8, p9, p10, p11] m = (0, false)) := by
                      have h1 : stK m 3 3 (lay4 [p0, p1, p2, p3, p4, p5, p6, p7, p8, p9, p10, p11] A 3, H) = none := by rw [stK, hK.out]; simp only [Option.bind_some, chg1]; rw [if_pos hb1.out, if_pos (Or.inr e2)]
                      have h2 : stR [p0, p1, p2, p3, p4, p5, p6, p7, p8, p9, p10, p11] m 4 = none := by rw [stR, hS.out]; exact stK_none (by omega) h1
                      show movedV _ _ = _
                      unfold movedV
                      rw [stR_none (show 4 ≤ 4 by omega) h2]
                    have e3 : (H'[2]! == 1) = true := by simpa using e2
                    generalize A'[15]! = v3 at *
                    generalize H'[2]! = h0 at *
                    clear e0 e2
                    go_wp2
                    go_ret2
                    rw [hz.out]
                    exact ⟨rfl, MK.out.below⟩
                  · have e3 : (H'[2]! == 1) = false := by simpa using e2
                    have hK2 : Hid (stK m 3 3 (lay4 [p0, p1, p2, p3, p4, p5, p6, p7, p8, p9, p10, p11] A 3, H) = some (kill A' 3 2, H'.set 2 1)) := by
                      show stK _ _ _ _ = _
                      rw [stK, hK.out]
                      simp only [Option.bind_some, chg1]
                      rw [if_pos hb1.out, if_neg (fun h => h.elim e0 e2)]
                    have q0 := cellI MK.out.head (o := 12) (by omega)
                    have q1 := cellI MK.out.head (o := 13) (by omega)
                    have q2 := cellI MK.out.head (o := 14) (by omega)
                    have g0 := freeI MK.out.head 12
                    have g1 := freeI MK.out.head 13
                    have g2 := freeI MK.out.head 14
                    have g3 := freeI MK.out.head 15
                    have s0 := freeI MK.out.tail.head 2
                    have MS : Mem w [(w.heap.size + 1, oI (kill A' 3 2) 197), (w.heap.size + 1 + 1, oI (H'.set 2 1) 49)] _ := ((((((MK.out.setI (AP2.out H') (by omega) 12 0).setI (AP2.out H') (by omega) 13 0).setI (AP2.out H') (by omega) 14 0).setI (AP2.out H') (by omega) 15 0).setI (AP2.out H') (by omega) 12 1).setI2 (by simp only; omega) (by omega) 2 1)
                    replace MK := Lib.hid MS
                    clear MS
                    generalize A'[15]! = v3 at *
                    generalize A'[12]! = v0 at *
                    generalize A'[13]! = v1 at *
                    generalize A'[14]! = v2 at *
                    generalize H'[2]! = h0 at *
                    clear e0 e2
                    go_wp2_with fail
                    go_roundw
                    case rel => exact ⟨3, kill A' 3 2, H'.set 2 1, by omega, by go_num, hK2.out, MK.out⟩
                    case measure => simp [intOf]
          · obtain rfl : k = 3 := by omega
            have hS2 : Hid (stR [p0, p1, p2, p3, p4, p5, p6, p7, p8, p9, p10, p11] m 4 = some (A', H')) := by
              show stR _ _ _ = _
              rw [stR, hS.out]
              exact hK.out
            go_wp2_with fail
            go_roundw
            case rel => exact ⟨4, A', H', by omega, by go_num, hS2.out, MK.out⟩
            case measure => simp [intOf]
    · obtain rfl : r = 4 := by omega
      have IA := Lib.hid (stR_in hP.out hS.out)
      simp only at IA
      have MS : Mem w ((wr.heap.size, oZ (sum4 A 0)) :: [(w.heap.size + 1, oI A 197), (w.heap.size + 1 + 1, oI H 49)]) (wr.alloc (.cells #[.int .i64 0, .int .u64 0] 164 (0, 0))) := MB.out.add (.cells #[.int .i64 0, .int .u64 0] 164 (0, 0))
      have MS2 : Mem w [(wr.heap.size, oZ (sum4 A 0)), (w.heap.size + 1, oI A 197)] (wr.alloc (.cells #[.int .i64 0, .int .u64 0] 164 (0, 0))) := MS.sub (fun p hp => by simp at hp ⊢; rcases hp with h | h <;> simp [h])
      have APS : Hid (Apart wr.heap.size [(w.heap.size + 1, oI A 197)]) := Lib.hid (fun p hp => MB.out.apart p (by simp at hp ⊢; simp [hp]))
      have LES : Hid (w.heap.size ≤ wr.heap.size) := Lib.hid MB.out.above
      replace MB := Lib.hid MS2
      clear MS MS2
      go_wp2_with fail
      generalize wr.alloc (.cells #[.int .i64 0, .int .u64 0] 164 (0, 0)) = W0 at *
      generalize wr.heap.size = SB at *
      go_loopw [65] (fun i wx => ∃ r : Nat, r ≤ 4 ∧ i = .int .i64 r ∧ Hid (Mem w [(SB, oZ (sum4 A r)), (w.heap.size + 1, oI A 197)] wx)) (fun i _ => 4 - (intOf i).toNat)
      case atStart => exact ⟨0, by omega, rfl, MB.out⟩
      case round =>
        clear MB
        obtain ⟨r, hr, rfl, MB⟩ := hrel
        replace MB := Lib.hid MB
        by_cases hr4 : r < 4
        · rcases (by omega : r = 0 ∨ r = 1 ∨ r = 2 ∨ r = 3) with rfl | rfl | rfl | rfl
          · have cW := cellI MB.out.tail.head (o := 3) (by rw [LA.out]; omega)
            by_cases e0 : A[3]! = 0
            · have hT : Hid (sum4 A 1 = sum4 A 0) := by
                show sum4 _ _ = _
                rw [show sum4 A 1 = sum4 A 0 + term4 A 0 from rfl, term4_z (r := 0) e0, Int.add_zero]
              have e1 : (A[3]! == 0) = true := by simpa using e0
              clear e0
              generalize A[3]! = vW at *
              go_wp2_with fail
              go_roundw
              case rel => exact ⟨1, by omega, by go_num, by rw [hT.out]; exact MB.out⟩
              case measure => simp [intOf]
            · have hT : Hid (sum4 A 1 = sum4 A 0 + -d3 A 1 2 3) := by
                show sum4 _ _ = _
                rw [show sum4 A 1 = sum4 A 0 + term4 A 0 from rfl, term4_0 e0]
              have e1 : (A[3]! == 0) = false := by simpa using e0
              clear e0
              have kth : ∀ W, Calls Try.prog 187 #[.agg #[.int .i64 A[4]!, .int .i64 A[5]!, .int .i64 A[6]!], .agg #[.int .i64 A[8]!, .int .i64 A[9]!, .int .i64 A[10]!], .agg #[.int .i64 A[12]!, .int .i64 A[13]!, .int .i64 A[14]!]] W fun e w' => e = .returned (encZ (d3 A 1 2 3)) ∧ Below W.heap.size W w' := fun W => three_d3 IA.out 1 2 3 (fun o => get_in IA.out o) W
              replace kth := Lib.hid kth
              have KC : Hid ((∀ W : World, W.heap[w.heap.size + 1]? = some (oI A 197) → W.cell? ⟨w.heap.size + 1, 4, none⟩ = some (.int .i64 A[4]!)) ∧ (∀ W : World, W.heap[w.heap.size + 1]? = some (oI A 197) → W.cell? ⟨w.heap.size + 1, 5, none⟩ = some (.int .i64 A[5]!)) ∧ (∀ W : World, W.heap[w.heap.size + 1]? = some (oI A 197) → W.cell? ⟨w.heap.size + 1, 6, none⟩ = some (.int .i64 A[6]!)) ∧ (∀ W : World, W.heap[w.heap.size + 1]? = some (oI A 197) → W.cell? ⟨w.heap.size + 1, 8, none⟩ = some (.int .i64 A[8]!)) ∧ (∀ W : World, W.heap[w.heap.size + 1]? = some (oI A 197) → W.cell? ⟨w.heap.size + 1, 9, none⟩ = some (.int .i64 A[9]!)) ∧ (∀ W : World, W.heap[w.heap.size + 1]? = some (oI A 197) → W.cell? ⟨w.heap.size + 1, 10, none⟩ = some (.int .i64 A[10]!)) ∧ (∀ W : World, W.heap[w.heap.size + 1]? = some (oI A 197) → W.cell? ⟨w.heap.size + 1, 12, none⟩ = some (.int .i64 A[12]!)) ∧ (∀ W : World, W.heap[w.heap.size + 1]? = some (oI A 197) → W.cell? ⟨w.heap.size + 1, 13, none⟩ = some (.int .i64 A[13]!)) ∧ (∀ W : World, W.heap[w.heap.size + 1]? = some (oI A 197) → W.cell? ⟨w.heap.size + 1, 14, none⟩ = some (.int .i64 A[14]!))) := Lib.hid ⟨fun W h => cellI h (by rw [LA.out]; omega), fun W h => cellI h (by rw [LA.out]; omega), fun W h => cellI h (by rw [LA.out]; omega), fun W h => cellI h (by rw [LA.out]; omega), fun W h => cellI h (by rw [LA.out]; omega), fun W h => cellI h (by rw [LA.out]; omega), fun W h => cellI h (by rw [LA.out]; omega), fun W h => cellI h (by rw [LA.out]; omega), fun W h => cellI h (by rw [LA.out]; omega)⟩
              generalize A[3]! = vW at *
              generalize A[4]! = v4 at *
              generalize A[5]! = v5 at *
              generalize A[6]! = v6 at *
              generalize A[8]! = v8 at *
              generalize A[9]! = v9 at *
              generalize A[10]! = v10 at *
              generalize A[12]! = v12 at *
              generalize A[13]! = v13 at *
              generalize A[14]! = v14 at *
              have hL : Hid (∀ p, p ∈ [(SB, oZ (sum4 A 0)), (w.heap.size + 1, oI A 197)] → p.1 < wr.heap.size) := Lib.hid (fun p hp => MB.out.lt hp)
              have hw0 : Hid (w.heap.size ≤ wr.heap.size) := Lib.hid MB.out.above
              have own0 : Hid (wr.ownsRow wr.heap.size 49 3 (.slice none 0 0) 0 ((flat []).map encI)) := Lib.hid (World.ownsRow_nil wr wr.heap.size 49 3)
              have hB0 : Hid (wr.heap.size ≤ wr.heap.size) := Lib.hid (Nat.le_refl _)
              generalize hBB : wr.heap.size = B0 at hL hw0 own0 hB0
              have hB0' : Hid (B0 ≤ wr.heap.size) := Lib.hid (by rw [hBB]; exact Nat.le_refl _)
              clear hBB hB0
              go_wp2_with fail
              refine wp_loop_rounds 5 ?_
              rw [rounds_succ]
              go_wp2_with fail
              rw [rounds_succ]
              obtain ⟨V1, c1, W1, run1, MB1, own1, hB1⟩ := appRow_step MB.out hL.out hw0.out own0.out hB0'.out ⟨v4, v5, v6⟩ (by omega)
              have k0 := KC.out.1 _ MB.out.tail.head
              have k1 := KC.out.2.1 _ MB.out.tail.head
              have k2 := KC.out.2.2.1 _ MB.out.tail.head
              have lsb := MB.out.lt (p := (w.heap.size + 1, oI A 197)) (by simp)
              simp only at lsb
              replace run1 := Lib.hid run1
              replace own1 := Lib.hid own1
              replace hB1 := Lib.hid hB1
              have ar := arrAt (w.heap.size + 1) 4
              go_wp2_with (first | (at_builtin; refine wpList_append_run (o := ⟨some 86, _, _, _, _, _⟩) rfl _ _ _ rfl rfl rfl run1.out ?_))
              clear k0 k1 k2 lsb ar run1 MB own0 hB0'
              have MB := Lib.hid MB1
              clear MB1
              rw [rounds_succ]
              obtain ⟨V2, c2, W2, run2, MB2, own2, hB2⟩ := appRow_step MB.out hL.out hw0.out own1.out hB1.out ⟨v8, v9, v10⟩ (by omega)
              have k0 := KC.out.2.2.2.1 _ MB.out.tail.head
              have k1 := KC.out.2.2.2.2.1 _ MB.out.tail.head
              have k2 := KC.out.2.2.2.2.2.1 _ MB.out.tail.head
              have lsb := MB.out.lt (p := (w.heap.size + 1, oI A 197)) (by simp)
              simp only at lsb
              replace run2 := Lib.hid run2
              replace own2 := Lib.hid own2
              replace hB2 := Lib.hid hB2
              have ar := arrAt (w.heap.size + 1) 8
              go_wp2_with (first | (at_builtin; refine wpList_append_run (o := ⟨some 86, _, _, _, _, _⟩) rfl _ _ _ rfl rfl rfl run2.out ?_))
              clear k0 k1 k2 lsb ar run2 MB own1 hB1
              have MB := Lib.hid MB2
              clear MB2
              rw [rounds_succ]
              obtain ⟨V3, c3, W3, run3, MB3, own3, hB3⟩ := appRow_step MB.out hL.out hw0.out own2.out hB2.out ⟨v12, v13, v14⟩ (by omega)
              have k0 := KC.out.2.2.2.2.2.2.1 _ MB.out.tail.head
              have k1 := KC.out.2.2.2.2.2.2.2.1 _ MB.out.tail.head
              have k2 := KC.out.2.2.2.2.2.2.2.2 _ MB.out.tail.head
              have lsb := MB.out.lt (p := (w.heap.size + 1, oI A 197)) (by simp)
              simp only at lsb
              replace run3 := Lib.hid run3
              replace own3 := Lib.hid own3
              replace hB3 := Lib.hid hB3
              have ar := arrAt (w.heap.size + 1) 12
              go_wp2_with (first | (at_builtin; refine wpList_append_run (o := ⟨some 86, _, _, _, _, _⟩) rfl _ _ _ rfl rfl rfl run3.out ?_))
              clear k0 k1 k2 lsb ar run3 MB own2 hB2
              have MB := Lib.hid MB3
              clear MB3
              rw [rounds_succ]
              obtain ⟨g, cur, eV, hc3, hcm, hg, hbg, HC⟩ := own9 own3.out
              subst eV
              replace HC := Lib.hid HC
              have MG : Mem w [(g, .cells cur 49 (0, 0)), (SB, oZ (sum4 A 0)), (w.heap.size + 1, oI A 197)] W3 := MB.out.cons hg
              replace MB := Lib.hid MG
              unfold maxLen at hcm
              clear MG hg own3 KC
              go_wp2_with fail
              refine wp_region_held_drew (S := fun w' => Mem w [(g, .cells cur 49 (0, 0)), (SB, oZ (sum4 A 0)), (w.heap.size + 1, oI A 197)] w') (by kernel_rfl) MB.out.drew (fun hHeld => ?_)
              replace MB := Lib.hid MB.out.drew
              generalize World.drew W3 = wd at *
              refine wpAnyH_take (i := 0) (oi := ?o1) (v := ?v1) ?hi1 (by kernel_rfl) (by kernel_rfl) (by kernel_rfl) ?hQ1 ?hy1 (by assumption) ?rest1
              case hi1 => (simp only [List.getElem?_toArray, List.getElem?_cons_succ, List.getElem?_cons_zero]; rfl)
              case hQ1 => exact fun _ _ _ h => h
              case hy1 => (refine Or.inl ⟨by rfl, ?_⟩; intro w' hSw; obtain ⟨k0, k1, k2, k3, k4, k5, k6, k7, k8⟩ := cells9 hSw HC.out; go_simp; (try with_reducible rfl))
              try simp only [Act.put, List.setIfInBounds_toArray, List.set_cons_zero, List.set_cons_succ]
              refine wpAnyH_take (i := 1) (oi := ?o2) (v := ?v2) ?hi2 (by kernel_rfl) (by kernel_rfl) (by kernel_rfl) ?hQ2 ?hy2 (by assumption) ?rest2
              case hi2 => (simp only [List.getElem?_toArray, List.getElem?_cons_succ, List.getElem?_cons_zero]; rfl)
              case hQ2 => exact fun _ _ _ h => h
              case hy2 => (refine Or.inl ⟨by rfl, ?_⟩; intro w' hSw; obtain ⟨k0, k1, k2, k3, k4, k5, k6, k7, k8⟩ := cells9 hSw HC.out; go_simp; (try with_reducible rfl))
              try simp only [Act.put, List.setIfInBounds_toArray, List.set_cons_zero, List.set_cons_succ]
              refine wpAnyH_take (i := 2) (oi := ?o3) (v := ?v3) ?hi3 (by kernel_rfl) (by kernel_rfl) (by kernel_rfl) ?hQ3 ?hy3 (by assumption) ?rest3
              case hi3 => (simp only [List.getElem?_toArray, List.getElem?_cons_succ, List.getElem?_cons_zero]; rfl)
              case hQ3 => exact fun _ _ _ h => h
              case hy3 => (refine Or.inl ⟨by rfl, ?_⟩; intro w' hSw; obtain ⟨k0, k1, k2, k3, k4, k5, k6, k7, k8⟩ := cells9 hSw HC.out; go_simp; (try with_reducible rfl))
              try simp only [Act.put, List.setIfInBounds_toArray, List.set_cons_zero, List.set_cons_succ]
              refine wpAnyH_take (i := 3) (oi := ?o4) (v := ?v4) ?hi4 (by kernel_rfl) (by kernel_rfl) (by kernel_rfl) ?hQ4 ?hy4 (by assumption) ?rest4
              case hi4 => (simp only [List.getElem?_toArray, List.getElem?_cons_succ, List.getElem?_cons_zero]; rfl)
              case hQ4 => exact fun _ _ _ h => h
              case hy4 => (refine Or.inl ⟨by rfl, ?_⟩; intro w' hSw; obtain ⟨k0, k1, k2, k3, k4, k5, k6, k7, k8⟩ := cells9 hSw HC.out; go_simp; (try with_reducible rfl))
              try simp only [Act.put, List.setIfInBounds_toArray, List.set_cons_zero, List.set_cons_succ]
              refine wpAnyH_take (i := 4) (oi := ?o5) (v := ?v5) ?hi5 (by kernel_rfl) (by kernel_rfl) (by kernel_rfl) ?hQ5 ?hy5 (by assumption) ?rest5
              case hi5 => (simp only [List.getElem?_toArray, List.getElem?_cons_succ, List.getElem?_cons_zero]; rfl)
              case hQ5 => exact fun _ _ _ h => h
              case hy5 => (refine Or.inl ⟨by rfl, ?_⟩; intro w' hSw; obtain ⟨k0, k1, k2, k3, k4, k5, k6, k7, k8⟩ := cells9 hSw HC.out; go_simp; (try with_reducible rfl))
              try simp only [Act.put, List.setIfInBounds_toArray, List.set_cons_zero, List.set_cons_succ]
              refine wpAnyH_take (i := 5) (oi := ?o6) (v := ?v6) ?hi6 (by kernel_rfl) (by kernel_rfl) (by kernel_rfl) ?hQ6 ?hy6 (by assumption) ?rest6
              case hi6 => (simp only [List.getElem?_toArray, List.getElem?_cons_succ, List.getElem?_cons_zero]; rfl)
              case hQ6 => exact fun _ _ _ h => h
              case hy6 => (refine Or.inl ⟨by rfl, ?_⟩; intro w' hSw; obtain ⟨k0, k1, k2, k3, k4, k5, k6, k7, k8⟩ := cells9 hSw HC.out; go_simp; (try with_reducible rfl))
              try simp only [Act.put, List.setIfInBounds_toArray, List.set_cons_zero, List.set_cons_succ]
              refine wpAnyH_take (i := 6) (oi := ?o7) (v := ?v7) ?hi7 (by kernel_rfl) (by kernel_rfl) (by kernel_rfl) ?hQ7 ?hy7 (by assumption) ?rest7
              case hi7 => (simp only [List.getElem?_toArray, List.getElem?_cons_succ, List.getElem?_cons_zero]; rfl)
              case hQ7 => exact fun _ _ _ h => h
              case hy7 => (refine Or.inl ⟨by rfl, ?_⟩; intro w' hSw; obtain ⟨k0, k1, k2, k3, k4, k5, k6, k7, k8⟩ := cells9 hSw HC.out; go_simp; (try with_reducible rfl))
              try simp only [Act.put, List.setIfInBounds_toArray, List.set_cons_zero, List.set_cons_succ]
              refine wpAnyH_take (i := 7) (oi := ?o8) (v := ?v8) ?hi8 (by kernel_rfl) (by kernel_rfl) (by kernel_rfl) ?hQ8 ?hy8 (by assumption) ?rest8
              case hi8 => (simp only [List.getElem?_toArray, List.getElem?_cons_succ, List.getElem?_cons_zero]; rfl)
              case hQ8 => exact fun _ _ _ h => h
              case hy8 => (refine Or.inl ⟨by rfl, ?_⟩; intro w' hSw; obtain ⟨k0, k1, k2, k3, k4, k5, k6, k7, k8⟩ := cells9 hSw HC.out; go_simp; (try with_reducible rfl))
              try simp only [Act.put, List.setIfInBounds_toArray, List.set_cons_zero, List.set_cons_succ]
              refine wpAnyH_take (i := 8) (oi := ?o9) (v := ?v9) ?hi9 (by kernel_rfl) (by kernel_rfl) (by kernel_rfl) ?hQ9 ?hy9 (by assumption) ?rest9
              case hi9 => (simp only [List.getElem?_toArray, List.getElem?_cons_succ, List.getElem?_cons_zero]; rfl)
              case hQ9 => exact fun _ _ _ h => h
              case hy9 => (refine Or.inl ⟨by rfl, ?_⟩; intro w' hSw; obtain ⟨k0, k1, k2, k3, k4, k5, k6, k7, k8⟩ := cells9 hSw HC.out; go_simp; (try with_reducible rfl))
              try simp only [Act.put, List.setIfInBounds_toArray, List.set_cons_zero, List.set_cons_succ]
              refine wpAnyH_ready (rs := [9, 10]) (by kernel_rfl) (by simp) ?_
              refine AllReadyH.cons (o := ?o19) ?hi19 (fun K hK => ?rest19) ?more19
              case hi19 => (simp only [List.getElem?_toArray, List.getElem?_cons_succ, List.getElem?_cons_zero]; rfl)
              case rest19 =>
                go_simp
                go_at_call 187
                refine (kth.out _).mono ?_
                rintro e wn ⟨rfl, hbn⟩
                replace MB := Lib.hid (MB.out.next hbn)
                clear hbn
                refine hK.out _ _ MB.out (fun hHeld => ?_)
                clear hK K
                try simp only [Act.put, List.setIfInBounds_toArray, List.set_cons_zero, List.set_cons_succ]
                refine wpAnyH_ready (rs := [10]) (by kernel_rfl) (by simp) ?_
                refine AllReadyH.cons (o := ?o13) ?hi13 (fun K hK => ?rest13) AllReadyH.nil
                case hi13 => (simp only [List.getElem?_toArray, List.getElem?_cons_succ, List.getElem?_cons_zero]; rfl)
                go_simp
                have AP := Lib.hid MB.out.apart
                have LE := Lib.hid MB.out.above
                replace MB := Lib.hid (MB.out.add (.cells #[.int .i64 0, .int .u64 0] 164 (0, 0)))
                refine hK.out _ _ MB.out.tail (fun hHeld => ?_)
                clear hK K
                try simp only [Act.put, List.setIfInBounds_toArray, List.set_cons_zero, List.set_cons_succ]
                generalize hAA : World.heap wn = hp at *
                generalize hp.size = A1 at *
                generalize World.alloc wn (.cells #[.int .i64 0, .int .u64 0] 164 (0, 0)) = wa at *
                clear hAA
                refine wpAnyH_ready (rs := [11]) (by kernel_rfl) (by simp) ?_
                refine AllReadyH.cons (o := ?o11) ?hi11 (fun K hK => ?rest11) AllReadyH.nil
                case hi11 => (simp only [List.getElem?_toArray, List.getElem?_cons_succ, List.getElem?_cons_zero]; rfl)
                obtain ⟨c0, c1, f0, f1⟩ := row2 MB.out.head
                go_simp
                clear c0 c1 f0 f1
                have MC : Mem w ((A1, oZ (d3 A 1 2 3)) :: [(g, .cells cur 49 (0, 0)), (SB, oZ (sum4 A 0)), (w.heap.size + 1, oI A 197)]) _ := (MB.out.set AP.out LE.out 0 (.int .i64 (hiZ (d3 A 1 2 3)))).set AP.out LE.out 1 (.int .u64 (loZ (d3 A 1 2 3)))
                replace MB := Lib.hid MC
                clear MC
                refine hK.out _ _ MB.out.tail (fun hHeld => ?_)
                clear hK K
                try simp only [Act.put, List.setIfInBounds_toArray, List.set_cons_zero, List.set_cons_succ]
                refine wpAnyH_done (by kernel_rfl) ?_ _
                obtain ⟨c0, c1, f0, f1⟩ := row2 MB.out.head
                go_wp2_with fail
                refine (limbNeg_any _ _).mono ?_
                rintro e wn2 ⟨rfl, hbn2⟩
                replace MB := Lib.hid (MB.out.next hbn2)
                clear c0 c1 f0 f1 hbn2
                obtain ⟨c0, c1, f0, f1⟩ := row2 MB.out.head
                have hne : ¬ SB = A1 := AP.out (SB, oZ (sum4 A 0)) (by simp)
                have hne2 : ¬ A1 = SB := fun h => hne h.symm
                obtain ⟨s0, s1, t0, t1⟩ := row2 MB.out.tail.tail.head
                replace MB := Lib.hid (MB.out.setZ AP.out LE.out (-(d3 A 1 2 3)))
                go_wp2_with fail
                refine (limbAdd_any _ _ _).mono ?_
                rintro e wm ⟨rfl, hbm⟩
                replace MB := Lib.hid (MB.out.next hbm)
                clear c0 c1 f0 f1 s0 s1 t0 t1 hbm
                obtain ⟨s0, s1, t0, t1⟩ := row2 MB.out.tail.tail.head
                have MF : Mem w [(SB, oZ (sum4 A 0 + (-(d3 A 1 2 3)))), (w.heap.size + 1, oI A 197)] _ := (MB.out.tail.tail).setZ APS.out LES.out _
                have MF2 := memZ_eq hT.out MF
                replace MB := Lib.hid MF2
                clear MF MF2
                go_wp2_with fail
                go_roundw
                case rel => exact ⟨_, _, _, _, _, _, _, _, _, _, _, _, _, _, _, _, _, _, _, _, _, _, _, _, _, _, _, _, _, _, _, _, _, _, _, _, _, _, _, _, _, _, _, _, _, _, ⟨1, by omega, by go_num, MB.out⟩, rfl⟩
                case measure => simp [intOf]
              refine AllReadyH.cons (o := ?o20) ?hi20 (fun K hK => ?rest20) AllReadyH.nil
              case hi20 => (simp only [List.getElem?_toArray, List.getElem?_cons_succ, List.getElem?_cons_zero]; rfl)
              go_simp
              have AP := Lib.hid MB.out.apart
              have LE := Lib.hid MB.out.above
              replace MB := Lib.hid (MB.out.add (.cells #[.int .i64 0, .int .u64 0] 164 (0, 0)))
              refine hK.out _ _ MB.out.tail (fun hHeld => ?_)
              clear hK K
              try simp only [Act.put, List.setIfInBounds_toArray, List.set_cons_zero, List.set_cons_succ]
              generalize hAA : World.heap wd = hp at *
              generalize hp.size = A1 at *
              generalize World.alloc wd (.cells #[.int .i64 0, .int .u64 0] 164 (0, 0)) = wa at *
              clear hAA
              refine wpAnyH_ready (rs := [9]) (by kernel_rfl) (by simp) ?_
              refine AllReadyH.cons (o := ?o17) ?hi17 (fun K hK => ?rest17) AllReadyH.nil
              case hi17 => (simp only [List.getElem?_toArray, List.getElem?_cons_succ, List.getElem?_cons_zero]; rfl)
              go_simp
              go_at_call 187
              refine (kth.out _).mono ?_
              rintro e wn ⟨rfl, hbn⟩
              replace MB := Lib.hid (MB.out.next hbn)
              clear hbn
              refine hK.out _ _ MB.out.tail (fun hHeld => ?_)
              clear hK K
              try simp only [Act.put, List.setIfInBounds_toArray, List.set_cons_zero, List.set_cons_succ]
              refine wpAnyH_ready (rs := [11]) (by kernel_rfl) (by simp) ?_
              refine AllReadyH.cons (o := ?o15) ?hi15 (fun K hK => ?rest15) AllReadyH.nil
              case hi15 => (simp only [List.getElem?_toArray, List.getElem?_cons_succ, List.getElem?_cons_zero]; rfl)
              obtain ⟨c0, c1, f0, f1⟩ := row2 MB.out.head
              go_simp
              clear c0 c1 f0 f1
              have MC : Mem w ((A1, oZ (d3 A 1 2 3)) :: [(g, .cells cur 49 (0, 0)), (SB, oZ (sum4 A 0)), (w.heap.size + 1, oI A 197)]) _ := (MB.out.set AP.out LE.out 0 (.int .i64 (hiZ (d3 A 1 2 3)))).set AP.out LE.out 1 (.int .u64 (loZ (d3 A 1 2 3)))
              replace MB := Lib.hid MC
              clear MC
              refine hK.out _ _ MB.out.tail (fun hHeld => ?_)
              clear hK K
              try simp only [Act.put, List.setIfInBounds_toArray, List.set_cons_zero, List.set_cons_succ]
              refine wpAnyH_done (by kernel_rfl) ?_ _
              obtain ⟨c0, c1, f0, f1⟩ := row2 MB.out.head
              go_wp2_with fail
              refine (limbNeg_any _ _).mono ?_
              rintro e wn2 ⟨rfl, hbn2⟩
              replace MB := Lib.hid (MB.out.next hbn2)
              clear c0 c1 f0 f1 hbn2
              obtain ⟨c0, c1, f0, f1⟩ := row2 MB.out.head
              have hne : ¬ SB = A1 := AP.out (SB, oZ (sum4 A 0)) (by simp)
              have hne2 : ¬ A1 = SB := fun h => hne h.symm
              obtain ⟨s0, s1, t0, t1⟩ := row2 MB.out.tail.tail.head
              replace MB := Lib.hid (MB.out.setZ AP.out LE.out (-(d3 A 1 2 3)))
              go_wp2_with fail
              refine (limbAdd_any _ _ _).mono ?_
              rintro e wm ⟨rfl, hbm⟩
              replace MB := Lib.hid (MB.out.next hbm)
              clear c0 c1 f0 f1 s0 s1 t0 t1 hbm
              obtain ⟨s0, s1, t0, t1⟩ := row2 MB.out.tail.tail.head
              have MF : Mem w [(SB, oZ (sum4 A 0 + (-(d3 A 1 2 3)))), (w.heap.size + 1, oI A 197)] _ := (MB.out.tail.tail).setZ APS.out LES.out _
              have MF2 := memZ_eq hT.out MF
              replace MB := Lib.hid MF2
              clear MF MF2
              go_wp2_with fail
              go_roundw
              case rel => exact ⟨_, _, _, _, _, _, _, _, _, _, _, _, _, _, _, _, _, _, _, _, _, _, _, _, _, _, _, _, _, _, _, _, _, _, _, _, _, _, _, _, _, _, _, _, _, _, ⟨1, by omega, by go_num, MB.out⟩, rfl⟩
              case measure => simp [intOf]
          · have cW := cellI MB.out.tail.head (o := 7) (by rw [LA.out]; omega)
            by_cases e0 : A[7]! = 0
            · have hT : Hid (sum4 A 2 = sum4 A 1) := by
                show sum4 _ _ = _
                rw [show sum4 A 2 = sum4 A 1 + term4 A 1 from rfl, term4_z (r := 1) e0, Int.add_zero]
              have e1 : (A[7]! == 0) = true := by simpa using e0
              clear e0
              generalize A[7]! = vW at *
              go_wp2_with fail
              go_roundw
              case rel => exact ⟨2, by omega, by go_num, by rw [hT.out]; exact MB.out⟩
              case measure => simp [intOf]
            · have hT : Hid (sum4 A 2 = sum4 A 1 + d3 A 0 2 3) := by
                show sum4 _ _ = _
                rw [show sum4 A 2 = sum4 A 1 + term4 A 1 from rfl, term4_1 e0]
              have e1 : (A[7]! == 0) = false := by simpa using e0
              clear e0
              have kth : ∀ W, Calls Try.prog 187 #[.agg #[.int .i64 A[0]!, .int .i64 A[1]!, .int .i64 A[2]!], .agg #[.int .i64 A[8]!, .int .i64 A[9]!, .int .i64 A[10]!], .agg #[.int .i64 A[12]!, .int .i64 A[13]!, .int .i64 A[14]!]] W fun e w' => e = .returned (encZ (d3 A 0 2 3)) ∧ Below W.heap.size W w' := fun W => three_d3 IA.out 0 2 3 (fun o => get_in IA.out o) W
              replace kth := Lib.hid kth
              have KC : Hid ((∀ W : World, W.heap[w.heap.size + 1]? = some (oI A 197) → W.cell? ⟨w.heap.size + 1, 0, none⟩ = some (.int .i64 A[0]!)) ∧ (∀ W : World, W.heap[w.heap.size + 1]? = some (oI A 197) → W.cell? ⟨w.heap.size + 1, 1, none⟩ = some (.int .i64 A[1]!)) ∧ (∀ W : World, W.heap[w.heap.size + 1]? = some (oI A 197) → W.cell? ⟨w.heap.size + 1, 2, none⟩ = some (.int .i64 A[2]!)) ∧ (∀ W : World, W.heap[w.heap.size + 1]? = some (oI A 197) → W.cell? ⟨w.heap.size + 1, 8, none⟩ = some (.int .i64 A[8]!)) ∧ (∀ W : World, W.heap[w.heap.size + 1]? = some (oI A 197) → W.cell? ⟨w.heap.size + 1, 9, none⟩ = some (.int .i64 A[9]!)) ∧ (∀ W : World, W.heap[w.heap.size + 1]? = some (oI A 197) → W.cell? ⟨w.heap.size + 1, 10, none⟩ = some (.int .i64 A[10]!)) ∧ (∀ W : World, W.heap[w.heap.size + 1]? = some (oI A 197) → W.cell? ⟨w.heap.size + 1, 12, none⟩ = some (.int .i64 A[12]!)) ∧ (∀ W : World, W.heap[w.heap.size + 1]? = some (oI A 197) → W.cell? ⟨w.heap.size + 1, 13, none⟩ = some (.int .i64 A[13]!)) ∧ (∀ W : World, W.heap[w.heap.size + 1]? = some (oI A 197) → W.cell? ⟨w.heap.size + 1, 14, none⟩ = some (.int .i64 A[14]!))) := Lib.hid ⟨fun W h => cellI h (by rw [LA.out]; omega), fun W h => cellI h (by rw [LA.out]; omega), fun W h => cellI h (by rw [LA.out]; omega), fun W h => cellI h (by rw [LA.out]; omega), fun W h => cellI h (by rw [LA.out]; omega), fun W h => cellI h (by rw [LA.out]; omega), fun W h => cellI h (by rw [LA.out]; omega), fun W h => cellI h (by rw [LA.out]; omega), fun W h => cellI h (by rw [LA.out]; omega)⟩
              generalize A[7]! = vW at *
              generalize A[0]! = v0 at *
              generalize A[1]! = v1 at *
              generalize A[2]! = v2 at *
              generalize A[8]! = v8 at *
              generalize A[9]! = v9 at *
              generalize A[10]! = v10 at *
              generalize A[12]! = v12 at *
              generalize A[13]! = v13 at *
              generalize A[14]! = v14 at *
              have hL : Hid (∀ p, p ∈ [(SB, oZ (sum4 A 1)), (w.heap.size + 1, oI A 197)] → p.1 < wr.heap.size) := Lib.hid (fun p hp => MB.out.lt hp)
              have hw0 : Hid (w.heap.size ≤ wr.heap.size) := Lib.hid MB.out.above
              have own0 : Hid (wr.ownsRow wr.heap.size 49 3 (.slice none 0 0) 0 ((flat []).map encI)) := Lib.hid (World.ownsRow_nil wr wr.heap.size 49 3)
              have hB0 : Hid (wr.heap.size ≤ wr.heap.size) := Lib.hid (Nat.le_refl _)
              generalize hBB : wr.heap.size = B0 at hL hw0 own0 hB0
              have hB0' : Hid (B0 ≤ wr.heap.size) := Lib.hid (by rw [hBB]; exact Nat.le_refl _)
              clear hBB hB0
              go_wp2_with fail
              refine wp_loop_rounds 5 ?_
              rw [rounds_succ]
              obtain ⟨V1, c1, W1, run1, MB1, own1, hB1⟩ := appRow_step MB.out hL.out hw0.out own0.out hB0'.out ⟨v0, v1, v2⟩ (by omega)
              have k0 := KC.out.1 _ MB.out.tail.head
              have k1 := KC.out.2.1 _ MB.out.tail.head
              have k2 := KC.out.2.2.1 _ MB.out.tail.head
              have lsb := MB.out.lt (p := (w.heap.size + 1, oI A 197)) (by simp)
              simp only at lsb
              replace run1 := Lib.hid run1
              replace own1 := Lib.hid own1
              replace hB1 := Lib.hid hB1
              have ar := arrAt (w.heap.size + 1) 0
              go_wp2_with (first | (at_builtin; refine wpList_append_run (o := ⟨some 86, _, _, _, _, _⟩) rfl _ _ _ rfl rfl rfl run1.out ?_))
              clear k0 k1 k2 lsb ar run1 MB own0 hB0'
              have MB := Lib.hid MB1
              clear MB1
              rw [rounds_succ]
              go_wp2_with fail
              rw [rounds_succ]
              obtain ⟨V2, c2, W2, run2, MB2, own2, hB2⟩ := appRow_step MB.out hL.out hw0.out own1.out hB1.out ⟨v8, v9, v10⟩ (by omega)
              have k0 := KC.out.2.2.2.1 _ MB.out.tail.head
              have k1 := KC.out.2.2.2.2.1 _ MB.out.tail.head
              have k2 := KC.out.2.2.2.2.2.1 _ MB.out.tail.head
              have lsb := MB.out.lt (p := (w.heap.size + 1, oI A 197)) (by simp)
              simp only at lsb
              replace run2 := Lib.hid run2
              replace own2 := Lib.hid own2
              replace hB2 := Lib.hid hB2
              have ar := arrAt (w.heap.size + 1) 8
              go_wp2_with (first | (at_builtin; refine wpList_append_run (o := ⟨some 86, _, _, _, _, _⟩) rfl _ _ _ rfl rfl rfl run2.out ?_))
              clear k0 k1 k2 lsb ar run2 MB own1 hB1
              have MB := Lib.hid MB2
              clear MB2
              rw [rounds_succ]
              obtain ⟨V3, c3, W3, run3, MB3, own3, hB3⟩ := appRow_step MB.out hL.out hw0.out own2.out hB2.out ⟨v12, v13, v14⟩ (by omega)
              have k0 := KC.out.2.2.2.2.2.2.1 _ MB.out.tail.head
              have k1 := KC.out.2.2.2.2.2.2.2.1 _ MB.out.tail.head
              have k2 := KC.out.2.2.2.2.2.2.2.2 _ MB.out.tail.head
              have lsb := MB.out.lt (p := (w.heap.size + 1, oI A 197)) (by simp)
              simp only at lsb
              replace run3 := Lib.hid run3
              replace own3 := Lib.hid own3
              replace hB3 := Lib.hid hB3
              have ar := arrAt (w.heap.size + 1) 12
              go_wp2_with (first | (at_builtin; refine wpList_append_run (o := ⟨some 86, _, _, _, _, _⟩) rfl _ _ _ rfl rfl rfl run3.out ?_))
              clear k0 k1 k2 lsb ar run3 MB own2 hB2
              have MB := Lib.hid MB3
              clear MB3
              rw [rounds_succ]
              obtain ⟨g, cur, eV, hc3, hcm, hg, hbg, HC⟩ := own9 own3.out
              subst eV
              replace HC := Lib.hid HC
              have MG : Mem w [(g, .cells cur 49 (0, 0)), (SB, oZ (sum4 A 1)), (w.heap.size + 1, oI A 197)] W3 := MB.out.cons hg
              replace MB := Lib.hid MG
              unfold maxLen at hcm
              clear MG hg own3 KC
              go_wp2_with fail
              refine wp_region_held_drew (S := fun w' => Mem w [(g, .cells cur 49 (0, 0)), (SB, oZ (sum4 A 1)), (w.heap.size + 1, oI A 197)] w') (by kernel_rfl) MB.out.drew (fun hHeld => ?_)
              replace MB := Lib.hid MB.out.drew
              generalize World.drew W3 = wd at *
              refine wpAnyH_take (i := 0) (oi := ?o21) (v := ?v21) ?hi21 (by kernel_rfl) (by kernel_rfl) (by kernel_rfl) ?hQ21 ?hy21 (by assumption) ?rest21
              case hi21 => (simp only [List.getElem?_toArray, List.getElem?_cons_succ, List.getElem?_cons_zero]; rfl)
              case hQ21 => exact fun _ _ _ h => h
              case hy21 => (refine Or.inl ⟨by rfl, ?_⟩; intro w' hSw; obtain ⟨k0, k1, k2, k3, k4, k5, k6, k7, k8⟩ := cells9 hSw HC.out; go_simp; (try with_reducible rfl))
              try simp only [Act.put, List.setIfInBounds_toArray, List.set_cons_zero, List.set_cons_succ]
              refine wpAnyH_take (i := 1) (oi := ?o22) (v := ?v22) ?hi22 (by kernel_rfl) (by kernel_rfl) (by kernel_rfl) ?hQ22 ?hy22 (by assumption) ?rest22
              case hi22 => (simp only [List.getElem?_toArray, List.getElem?_cons_succ, List.getElem?_cons_zero]; rfl)
              case hQ22 => exact fun _ _ _ h => h
              case hy22 => (refine Or.inl ⟨by rfl, ?_⟩; intro w' hSw; obtain ⟨k0, k1, k2, k3, k4, k5, k6, k7, k8⟩ := cells9 hSw HC.out; go_simp; (try with_reducible rfl))
              try simp only [Act.put, List.setIfInBounds_toArray, List.set_cons_zero, List.set_cons_succ]
              refine wpAnyH_take (i := 2) (oi := ?o23) (v := ?v23) ?hi23 (by kernel_rfl) (by kernel_rfl) (by kernel_rfl) ?hQ23 ?hy23 (by assumption) ?rest23
              case hi23 => (simp only [List.getElem?_toArray, List.getElem?_cons_succ, List.getElem?_cons_zero]; rfl)
              case hQ23 => exact fun _ _ _ h => h
              case hy23 => (refine Or.inl ⟨by rfl, ?_⟩; intro w' hSw; obtain ⟨k0, k1, k2, k3, k4, k5, k6, k7, k8⟩ := cells9 hSw HC.out; go_simp; (try with_reducible rfl))
              try simp only [Act.put, List.setIfInBounds_toArray, List.set_cons_zero, List.set_cons_succ]
              refine wpAnyH_take (i := 3) (oi := ?o24) (v := ?v24) ?hi24 (by kernel_rfl) (by kernel_rfl) (by kernel_rfl) ?hQ24 ?hy24 (by assumption) ?rest24
              case hi24 => (simp only [List.getElem?_toArray, List.getElem?_cons_succ, List.getElem?_cons_zero]; rfl)
              case hQ24 => exact fun _ _ _ h => h
              case hy24 => (refine Or.inl ⟨by rfl, ?_⟩; intro w' hSw; obtain ⟨k0, k1, k2, k3, k4, k5, k6, k7, k8⟩ := cells9 hSw HC.out; go_simp; (try with_reducible rfl))
              try simp only [Act.put, List.setIfInBounds_toArray, List.set_cons_zero, List.set_cons_succ]
              refine wpAnyH_take (i := 4) (oi := ?o25) (v := ?v25) ?hi25 (by kernel_rfl) (by kernel_rfl) (by kernel_rfl) ?hQ25 ?hy25 (by assumption) ?rest25
              case hi25 => (simp only [List.getElem?_toArray, List.getElem?_cons_succ, List.getElem?_cons_zero]; rfl)
              case hQ25 => exact fun _ _ _ h => h
              case hy25 => (refine Or.inl ⟨by rfl, ?_⟩; intro w' hSw; obtain ⟨k0, k1, k2, k3, k4, k5, k6, k7, k8⟩ := cells9 hSw HC.out; go_simp; (try with_reducible rfl))
              try simp only [Act.put, List.setIfInBounds_toArray, List.set_cons_zero, List.set_cons_succ]
              refine wpAnyH_take (i := 5) (oi := ?o26) (v := ?v26) ?hi26 (by kernel_rfl) (by kernel_rfl) (by kernel_rfl) ?hQ26 ?hy26 (by assumption) ?rest26
              case hi26 => (simp only [List.getElem?_toArray, List.getElem?_cons_succ, List.getElem?_cons_zero]; rfl)
              case hQ26 => exact fun _ _ _ h => h
              case hy26 => (refine Or.inl ⟨by rfl, ?_⟩; intro w' hSw; obtain ⟨k0, k1, k2, k3, k4, k5, k6, k7, k8⟩ := cells9 hSw HC.out; go_simp; (try with_reducible rfl))
              try simp only [Act.put, List.setIfInBounds_toArray, List.set_cons_zero, List.set_cons_succ]
              refine wpAnyH_take (i := 6) (oi := ?o27) (v := ?v27) ?hi27 (by kernel_rfl) (by kernel_rfl) (by kernel_rfl) ?hQ27 ?hy27 (by assumption) ?rest27
              case hi27 => (simp only [List.getElem?_toArray, List.getElem?_cons_succ, List.getElem?_cons_zero]; rfl)
              case hQ27 => exact fun _ _ _ h => h
              case hy27 => (refine Or.inl ⟨by rfl, ?_⟩; intro w' hSw; obtain ⟨k0, k1, k2, k3, k4, k5, k6, k7, k8⟩ := cells9 hSw HC.out; go_simp; (try with_reducible rfl))
              try simp only [Act.put, List.setIfInBounds_toArray, List.set_cons_zero, List.set_cons_succ]
              refine wpAnyH_take (i := 7) (oi := ?o28) (v := ?v28) ?hi28 (by kernel_rfl) (by kernel_rfl) (by kernel_rfl) ?hQ28 ?hy28 (by assumption) ?rest28
              case hi28 => (simp only [List.getElem?_toArray, List.getElem?_cons_succ, List.getElem?_cons_zero]; rfl)
              case hQ28 => exact fun _ _ _ h => h
              case hy28 => (refine Or.inl ⟨by rfl, ?_⟩; intro w' hSw; obtain ⟨k0, k1, k2, k3, k4, k5, k6, k7, k8⟩ := cells9 hSw HC.out; go_simp; (try with_reducible rfl))
              try simp only [Act.put, List.setIfInBounds_toArray, List.set_cons_zero, List.set_cons_succ]
              refine wpAnyH_take (i := 8) (oi := ?o29) (v := ?v29) ?hi29 (by kernel_rfl) (by kernel_rfl) (by kernel_rfl) ?hQ29 ?hy29 (by assumption) ?rest29
              case hi29 => (simp only [List.getElem?_toArray, List.getElem?_cons_succ, List.getElem?_cons_zero]; rfl)
              case hQ29 => exact fun _ _ _ h => h
              case hy29 => (refine Or.inl ⟨by rfl, ?_⟩; intro w' hSw; obtain ⟨k0, k1, k2, k3, k4, k5, k6, k7, k8⟩ := cells9 hSw HC.out; go_simp; (try with_reducible rfl))
              try simp only [Act.put, List.setIfInBounds_toArray, List.set_cons_zero, List.set_cons_succ]
              refine wpAnyH_ready (rs := [9, 10]) (by kernel_rfl) (by simp) ?_
              refine AllReadyH.cons (o := ?o39) ?hi39 (fun K hK => ?rest39) ?more39
              case hi39 => (simp only [List.getElem?_toArray, List.getElem?_cons_succ, List.getElem?_cons_zero]; rfl)
              case rest39 =>
                go_simp
                go_at_call 187
                refine (kth.out _).mono ?_
                rintro e wn ⟨rfl, hbn⟩
                replace MB := Lib.hid (MB.out.next hbn)
                clear hbn
                refine hK.out _ _ MB.out (fun hHeld => ?_)
                clear hK K
                try simp only [Act.put, List.setIfInBounds_toArray, List.set_cons_zero, List.set_cons_succ]
                refine wpAnyH_ready (rs := [10]) (by kernel_rfl) (by simp) ?_
                refine AllReadyH.cons (o := ?o33) ?hi33 (fun K hK => ?rest33) AllReadyH.nil
                case hi33 => (simp only [List.getElem?_toArray, List.getElem?_cons_succ, List.getElem?_cons_zero]; rfl)
                go_simp
                have AP := Lib.hid MB.out.apart
                have LE := Lib.hid MB.out.above
                replace MB := Lib.hid (MB.out.add (.cells #[.int .i64 0, .int .u64 0] 164 (0, 0)))
                refine hK.out _ _ MB.out.tail (fun hHeld => ?_)
                clear hK K
                try simp only [Act.put, List.setIfInBounds_toArray, List.set_cons_zero, List.set_cons_succ]
                generalize hAA : World.heap wn = hp at *
                generalize hp.size = A1 at *
                generalize World.alloc wn (.cells #[.int .i64 0, .int .u64 0] 164 (0, 0)) = wa at *
                clear hAA
                refine wpAnyH_ready (rs := [11]) (by kernel_rfl) (by simp) ?_
                refine AllReadyH.cons (o := ?o31) ?hi31 (fun K hK => ?rest31) AllReadyH.nil
                case hi31 => (simp only [List.getElem?_toArray, List.getElem?_cons_succ, List.getElem?_cons_zero]; rfl)
                obtain ⟨c0, c1, f0, f1⟩ := row2 MB.out.head
                go_simp
                clear c0 c1 f0 f1
                have MC : Mem w ((A1, oZ (d3 A 0 2 3)) :: [(g, .cells cur 49 (0, 0)), (SB, oZ (sum4 A 1)), (w.heap.size + 1, oI A 197)]) _ := (MB.out.set AP.out LE.out 0 (.int .i64 (hiZ (d3 A 0 2 3)))).set AP.out LE.out 1 (.int .u64 (loZ (d3 A 0 2 3)))
                replace MB := Lib.hid MC
                clear MC
                refine hK.out _ _ MB.out.tail (fun hHeld => ?_)
                clear hK K
                try simp only [Act.put, List.setIfInBounds_toArray, List.set_cons_zero, List.set_cons_succ]
                refine wpAnyH_done (by kernel_rfl) ?_ _
                obtain ⟨c0, c1, f0, f1⟩ := row2 MB.out.head
                obtain ⟨s0, s1, t0, t1⟩ := row2 MB.out.tail.tail.head
                go_wp2_with fail
                refine (limbAdd_any _ _ _).mono ?_
                rintro e wm ⟨rfl, hbm⟩
                replace MB := Lib.hid (MB.out.next hbm)
                clear c0 c1 f0 f1 s0 s1 t0 t1 hbm
                obtain ⟨s0, s1, t0, t1⟩ := row2 MB.out.tail.tail.head
                have MF : Mem w [(SB, oZ (sum4 A 1 + (d3 A 0 2 3))), (w.heap.size + 1, oI A 197)] _ := (MB.out.tail.tail).setZ APS.out LES.out _
                have MF2 := memZ_eq hT.out MF
                replace MB := Lib.hid MF2
                clear MF MF2
                go_wp2_with fail
                go_roundw
                case rel => exact ⟨_, _, _, _, _, _, _, _, _, _, _, _, _, _, _, _, _, _, _, _, _, _, _, _, _, _, _, _, _, _, _, _, _, _, _, _, _, _, _, _, _, _, _, _, _, _, ⟨2, by omega, by go_num, MB.out⟩, rfl⟩
                case measure => simp [intOf]
              refine AllReadyH.cons (o := ?o40) ?hi40 (fun K hK => ?rest40) AllReadyH.nil
              case hi40 => (simp only [List.getElem?_toArray, List.getElem?_cons_succ, List.getElem?_cons_zero]; rfl)
              go_simp
              have AP := Lib.hid MB.out.apart
              have LE := Lib.hid MB.out.above
              replace MB := Lib.hid (MB.out.add (.cells #[.int .i64 0, .int .u64 0] 164 (0, 0)))
              refine hK.out _ _ MB.out.tail (fun hHeld => ?_)
              clear hK K
              try simp only [Act.put, List.setIfInBounds_toArray, List.set_cons_zero, List.set_cons_succ]
              generalize hAA : World.heap wd = hp at *
              generalize hp.size = A1 at *
              generalize World.alloc wd (.cells #[.int .i64 0, .int .u64 0] 164 (0, 0)) = wa at *
              clear hAA
              refine wpAnyH_ready (rs := [9]) (by kernel_rfl) (by simp) ?_
              refine AllReadyH.cons (o := ?o37) ?hi37 (fun K hK => ?rest37) AllReadyH.nil
              case hi37 => (simp only [List.getElem?_toArray, List.getElem?_cons_succ, List.getElem?_cons_zero]; rfl)
              go_simp
              go_at_call 187
              refine (kth.out _).mono ?_
              rintro e wn ⟨rfl, hbn⟩
              replace MB := Lib.hid (MB.out.next hbn)
              clear hbn
              refine hK.out _ _ MB.out.tail (fun hHeld => ?_)
              clear hK K
              try simp only [Act.put, List.setIfInBounds_toArray, List.set_cons_zero, List.set_cons_succ]
              refine wpAnyH_ready (rs := [11]) (by kernel_rfl) (by simp) ?_
              refine AllReadyH.cons (o := ?o35) ?hi35 (fun K hK => ?rest35) AllReadyH.nil
              case hi35 => (simp only [List.getElem?_toArray, List.getElem?_cons_succ, List.getElem?_cons_zero]; rfl)
              obtain ⟨c0, c1, f0, f1⟩ := row2 MB.out.head
              go_simp
              clear c0 c1 f0 f1
              have MC : Mem w ((A1, oZ (d3 A 0 2 3)) :: [(g, .cells cur 49 (0, 0)), (SB, oZ (sum4 A 1)), (w.heap.size + 1, oI A 197)]) _ := (MB.out.set AP.out LE.out 0 (.int .i64 (hiZ (d3 A 0 2 3)))).set AP.out LE.out 1 (.int .u64 (loZ (d3 A 0 2 3)))
              replace MB := Lib.hid MC
              clear MC
              refine hK.out _ _ MB.out.tail (fun hHeld => ?_)
              clear hK K
              try simp only [Act.put, List.setIfInBounds_toArray, List.set_cons_zero, List.set_cons_succ]
              refine wpAnyH_done (by kernel_rfl) ?_ _
              obtain ⟨c0, c1, f0, f1⟩ := row2 MB.out.head
              obtain ⟨s0, s1, t0, t1⟩ := row2 MB.out.tail.tail.head
              go_wp2_with fail
              refine (limbAdd_any _ _ _).mono ?_
              rintro e wm ⟨rfl, hbm⟩
              replace MB := Lib.hid (MB.out.next hbm)
              clear c0 c1 f0 f1 s0 s1 t0 t1 hbm
              obtain ⟨s0, s1, t0, t1⟩ := row2 MB.out.tail.tail.head
              have MF : Mem w [(SB, oZ (sum4 A 1 + (d3 A 0 2 3))), (w.heap.size + 1, oI A 197)] _ := (MB.out.tail.tail).setZ APS.out LES.out _
              have MF2 := memZ_eq hT.out MF
              replace MB := Lib.hid MF2
              clear MF MF2
              go_wp2_with fail
              go_roundw
              case rel => exact ⟨_, _, _, _, _, _, _, _, _, _, _, _, _, _, _, _, _, _, _, _, _, _, _, _, _, _, _, _, _, _, _, _, _, _, _, _, _, _, _, _, _, _, _, _, _, _, ⟨2, by omega, by go_num, MB.out⟩, rfl⟩
              case measure => simp [intOf]
          · have cW := cellI MB.out.tail.head (o := 11) (by rw [LA.out]; omega)
            by_cases e0 : A[11]! = 0
            · have hT : Hid (sum4 A 3 = sum4 A 2) := by
                show sum4 _ _ = _
                rw [show sum4 A 3 = sum4 A 2 + term4 A 2 from rfl, term4_z (r := 2) e0, Int.add_zero]
              have e1 : (A[11]! == 0) = true := by simpa using e0
              clear e0
              generalize A[11]! = vW at *
              go_wp2_with fail
              go_roundw
              case rel => exact ⟨3, by omega, by go_num, by rw [hT.out]; exact MB.out⟩
              case measure => simp [intOf]
            · have hT : Hid (sum4 A 3 = sum4 A 2 + -d3 A 0 1 3) := by
                show sum4 _ _ = _
                rw [show sum4 A 3 = sum4 A 2 + term4 A 2 from rfl, term4_2 e0]
              have e1 : (A[11]! == 0) = false := by simpa using e0
              clear e0
              have kth : ∀ W, Calls Try.prog 187 #[.agg #[.int .i64 A[0]!, .int .i64 A[1]!, .int .i64 A[2]!], .agg #[.int .i64 A[4]!, .int .i64 A[5]!, .int .i64 A[6]!], .agg #[.int .i64 A[12]!, .int .i64 A[13]!, .int .i64 A[14]!]] W fun e w' => e = .returned (encZ (d3 A 0 1 3)) ∧ Below W.heap.size W w' := fun W => three_d3 IA.out 0 1 3 (fun o => get_in IA.out o) W
              replace kth := Lib.hid kth
              have KC : Hid ((∀ W : World, W.heap[w.heap.size + 1]? = some (oI A 197) → W.cell? ⟨w.heap.size + 1, 0, none⟩ = some (.int .i64 A[0]!)) ∧ (∀ W : World, W.heap[w.heap.size + 1]? = some (oI A 197) → W.cell? ⟨w.heap.size + 1, 1, none⟩ = some (.int .i64 A[1]!)) ∧ (∀ W : World, W.heap[w.heap.size + 1]? = some (oI A 197) → W.cell? ⟨w.heap.size + 1, 2, none⟩ = some (.int .i64 A[2]!)) ∧ (∀ W : World, W.heap[w.heap.size + 1]? = some (oI A 197) → W.cell? ⟨w.heap.size + 1, 4, none⟩ = some (.int .i64 A[4]!)) ∧ (∀ W : World, W.heap[w.heap.size + 1]? = some (oI A 197) → W.cell? ⟨w.heap.size + 1, 5, none⟩ = some (.int .i64 A[5]!)) ∧ (∀ W : World, W.heap[w.heap.size + 1]? = some (oI A 197) → W.cell? ⟨w.heap.size + 1, 6, none⟩ = some (.int .i64 A[6]!)) ∧ (∀ W : World, W.heap[w.heap.size + 1]? = some (oI A 197) → W.cell? ⟨w.heap.size + 1, 12, none⟩ = some (.int .i64 A[12]!)) ∧ (∀ W : World, W.heap[w.heap.size + 1]? = some (oI A 197) → W.cell? ⟨w.heap.size + 1, 13, none⟩ = some (.int .i64 A[13]!)) ∧ (∀ W : World, W.heap[w.heap.size + 1]? = some (oI A 197) → W.cell? ⟨w.heap.size + 1, 14, none⟩ = some (.int .i64 A[14]!))) := Lib.hid ⟨fun W h => cellI h (by rw [LA.out]; omega), fun W h => cellI h (by rw [LA.out]; omega), fun W h => cellI h (by rw [LA.out]; omega), fun W h => cellI h (by rw [LA.out]; omega), fun W h => cellI h (by rw [LA.out]; omega), fun W h => cellI h (by rw [LA.out]; omega), fun W h => cellI h (by rw [LA.out]; omega), fun W h => cellI h (by rw [LA.out]; omega), fun W h => cellI h (by rw [LA.out]; omega)⟩
              generalize A[11]! = vW at *
              generalize A[0]! = v0 at *
              generalize A[1]! = v1 at *
              generalize A[2]! = v2 at *
              generalize A[4]! = v4 at *
              generalize A[5]! = v5 at *
              generalize A[6]! = v6 at *
              generalize A[12]! = v12 at *
              generalize A[13]! = v13 at *
              generalize A[14]! = v14 at *
              have hL : Hid (∀ p, p ∈ [(SB, oZ (sum4 A 2)), (w.heap.size + 1, oI A 197)] → p.1 < wr.heap.size) := Lib.hid (fun p hp => MB.out.lt hp)
              have hw0 : Hid (w.heap.size ≤ wr.heap.size) := Lib.hid MB.out.above
              have own0 : Hid (wr.ownsRow wr.heap.size 49 3 (.slice none 0 0) 0 ((flat []).map encI)) := Lib.hid (World.ownsRow_nil wr wr.heap.size 49 3)
              have hB0 : Hid (wr.heap.size ≤ wr.heap.size) := Lib.hid (Nat.le_refl _)
              generalize hBB : wr.heap.size = B0 at hL hw0 own0 hB0
              have hB0' : Hid (B0 ≤ wr.heap.size) := Lib.hid (by rw [hBB]; exact Nat.le_refl _)
              clear hBB hB0
              go_wp2_with fail
              refine wp_loop_rounds 5 ?_
              rw [rounds_succ]
              obtain ⟨V1, c1, W1, run1, MB1, own1, hB1⟩ := appRow_step MB.out hL.out hw0.out own0.out hB0'.out ⟨v0, v1, v2⟩ (by omega)
              have k0 := KC.out.1 _ MB.out.tail.head
              have k1 := KC.out.2.1 _ MB.out.tail.head
              have k2 := KC.out.2.2.1 _ MB.out.tail.head
              have lsb := MB.out.lt (p := (w.heap.size + 1, oI A 197)) (by simp)
              simp only at lsb
              replace run1 := Lib.hid run1
              replace own1 := Lib.hid own1
              replace hB1 := Lib.hid hB1
              have ar := arrAt (w.heap.size + 1) 0
              go_wp2_with (first | (at_builtin; refine wpList_append_run (o := ⟨some 86, _, _, _, _, _⟩) rfl _ _ _ rfl rfl rfl run1.out ?_))
              clear k0 k1 k2 lsb ar run1 MB own0 hB0'
              have MB := Lib.hid MB1
              clear MB1
              rw [rounds_succ]
              obtain ⟨V2, c2, W2, run2, MB2, own2, hB2⟩ := appRow_step MB.out hL.out hw0.out own1.out hB1.out ⟨v4, v5, v6⟩ (by omega)
              have k0 := KC.out.2.2.2.1 _ MB.out.tail.head
              have k1 := KC.out.2.2.2.2.1 _ MB.out.tail.head
              have k2 := KC.out.2.2.2.2.2.1 _ MB.out.tail.head
              have lsb := MB.out.lt (p := (w.heap.size + 1, oI A 197)) (by simp)
              simp only at lsb
              replace run2 := Lib.hid run2
              replace own2 := Lib.hid own2
              replace hB2 := Lib.hid hB2
              have ar := arrAt (w.heap.size + 1) 4
              go_wp2_with (first | (at_builtin; refine wpList_append_run (o := ⟨some 86, _, _, _, _, _⟩) rfl _ _ _ rfl rfl rfl run2.out ?_))
              clear k0 k1 k2 lsb ar run2 MB own1 hB1
              have MB := Lib.hid MB2
              clear MB2
              rw [rounds_succ]
              go_wp2_with fail
              rw [rounds_succ]
              obtain ⟨V3, c3, W3, run3, MB3, own3, hB3⟩ := appRow_step MB.out hL.out hw0.out own2.out hB2.out ⟨v12, v13, v14⟩ (by omega)
              have k0 := KC.out.2.2.2.2.2.2.1 _ MB.out.tail.head
              have k1 := KC.out.2.2.2.2.2.2.2.1 _ MB.out.tail.head
              have k2 := KC.out.2.2.2.2.2.2.2.2 _ MB.out.tail.head
              have lsb := MB.out.lt (p := (w.heap.size + 1, oI A 197)) (by simp)
              simp only at lsb
              replace run3 := Lib.hid run3
              replace own3 := Lib.hid own3
              replace hB3 := Lib.hid hB3
              have ar := arrAt (w.heap.size + 1) 12
              go_wp2_with (first | (at_builtin; refine wpList_append_run (o := ⟨some 86, _, _, _, _, _⟩) rfl _ _ _ rfl rfl rfl run3.out ?_))
              clear k0 k1 k2 lsb ar run3 MB own2 hB2
              have MB := Lib.hid MB3
              clear MB3
              rw [rounds_succ]
              obtain ⟨g, cur, eV, hc3, hcm, hg, hbg, HC⟩ := own9 own3.out
              subst eV
              replace HC := Lib.hid HC
              have MG : Mem w [(g, .cells cur 49 (0, 0)), (SB, oZ (sum4 A 2)), (w.heap.size + 1, oI A 197)] W3 := MB.out.cons hg
              replace MB := Lib.hid MG
              unfold maxLen at hcm
              clear MG hg own3 KC
              go_wp2_with fail
              refine wp_region_held_drew (S := fun w' => Mem w [(g, .cells cur 49 (0, 0)), (SB, oZ (sum4 A 2)), (w.heap.size + 1, oI A 197)] w') (by kernel_rfl) MB.out.drew (fun hHeld => ?_)
              replace MB := Lib.hid MB.out.drew
              generalize World.drew W3 = wd at *
              refine wpAnyH_take (i := 0) (oi := ?o41) (v := ?v41) ?hi41 (by kernel_rfl) (by kernel_rfl) (by kernel_rfl) ?hQ41 ?hy41 (by assumption) ?rest41
              case hi41 => (simp only [List.getElem?_toArray, List.getElem?_cons_succ, List.getElem?_cons_zero]; rfl)
              case hQ41 => exact fun _ _ _ h => h
              case hy41 => (refine Or.inl ⟨by rfl, ?_⟩; intro w' hSw; obtain ⟨k0, k1, k2, k3, k4, k5, k6, k7, k8⟩ := cells9 hSw HC.out; go_simp; (try with_reducible rfl))
              try simp only [Act.put, List.setIfInBounds_toArray, List.set_cons_zero, List.set_cons_succ]
              refine wpAnyH_take (i := 1) (oi := ?o42) (v := ?v42) ?hi42 (by kernel_rfl) (by kernel_rfl) (by kernel_rfl) ?hQ42 ?hy42 (by assumption) ?rest42
              case hi42 => (simp only [List.getElem?_toArray, List.getElem?_cons_succ, List.getElem?_cons_zero]; rfl)
              case hQ42 => exact fun _ _ _ h => h
              case hy42 => (refine Or.inl ⟨by rfl, ?_⟩; intro w' hSw; obtain ⟨k0, k1, k2, k3, k4, k5, k6, k7, k8⟩ := cells9 hSw HC.out; go_simp; (try with_reducible rfl))
              try simp only [Act.put, List.setIfInBounds_toArray, List.set_cons_zero, List.set_cons_succ]
              refine wpAnyH_take (i := 2) (oi := ?o43) (v := ?v43) ?hi43 (by kernel_rfl) (by kernel_rfl) (by kernel_rfl) ?hQ43 ?hy43 (by assumption) ?rest43
              case hi43 => (simp only [List.getElem?_toArray, List.getElem?_cons_succ, List.getElem?_cons_zero]; rfl)
              case hQ43 => exact fun _ _ _ h => h
              case hy43 => (refine Or.inl ⟨by rfl, ?_⟩; intro w' hSw; obtain ⟨k0, k1, k2, k3, k4, k5, k6, k7, k8⟩ := cells9 hSw HC.out; go_simp; (try with_reducible rfl))
              try simp only [Act.put, List.setIfInBounds_toArray, List.set_cons_zero, List.set_cons_succ]
              refine wpAnyH_take (i := 3) (oi := ?o44) (v := ?v44) ?hi44 (by kernel_rfl) (by kernel_rfl) (by kernel_rfl) ?hQ44 ?hy44 (by assumption) ?rest44
              case hi44 => (simp only [List.getElem?_toArray, List.getElem?_cons_succ, List.getElem?_cons_zero]; rfl)
              case hQ44 => exact fun _ _ _ h => h
              case hy44 => (refine Or.inl ⟨by rfl, ?_⟩; intro w' hSw; obtain ⟨k0, k1, k2, k3, k4, k5, k6, k7, k8⟩ := cells9 hSw HC.out; go_simp; (try with_reducible rfl))
              try simp only [Act.put, List.setIfInBounds_toArray, List.set_cons_zero, List.set_cons_succ]
              refine wpAnyH_take (i := 4) (oi := ?o45) (v := ?v45) ?hi45 (by kernel_rfl) (by kernel_rfl) (by kernel_rfl) ?hQ45 ?hy45 (by assumption) ?rest45
              case hi45 => (simp only [List.getElem?_toArray, List.getElem?_cons_succ, List.getElem?_cons_zero]; rfl)
              case hQ45 => exact fun _ _ _ h => h
              case hy45 => (refine Or.inl ⟨by rfl, ?_⟩; intro w' hSw; obtain ⟨k0, k1, k2, k3, k4, k5, k6, k7, k8⟩ := cells9 hSw HC.out; go_simp; (try with_reducible rfl))
              try simp only [Act.put, List.setIfInBounds_toArray, List.set_cons_zero, List.set_cons_succ]
              refine wpAnyH_take (i := 5) (oi := ?o46) (v := ?v46) ?hi46 (by kernel_rfl) (by kernel_rfl) (by kernel_rfl) ?hQ46 ?hy46 (by assumption) ?rest46
              case hi46 => (simp only [List.getElem?_toArray, List.getElem?_cons_succ, List.getElem?_cons_zero]; rfl)
              case hQ46 => exact fun _ _ _ h => h
              case hy46 => (refine Or.inl ⟨by rfl, ?_⟩; intro w' hSw; obtain ⟨k0, k1, k2, k3, k4, k5, k6, k7, k8⟩ := cells9 hSw HC.out; go_simp; (try with_reducible rfl))
              try simp only [Act.put, List.setIfInBounds_toArray, List.set_cons_zero, List.set_cons_succ]
              refine wpAnyH_take (i := 6) (oi := ?o47) (v := ?v47) ?hi47 (by kernel_rfl) (by kernel_rfl) (by kernel_rfl) ?hQ47 ?hy47 (by assumption) ?rest47
              case hi47 => (simp only [List.getElem?_toArray, List.getElem?_cons_succ, List.getElem?_cons_zero]; rfl)
              case hQ47 => exact fun _ _ _ h => h
              case hy47 => (refine Or.inl ⟨by rfl, ?_⟩; intro w' hSw; obtain ⟨k0, k1, k2, k3, k4, k5, k6, k7, k8⟩ := cells9 hSw HC.out; go_simp; (try with_reducible rfl))
              try simp only [Act.put, List.setIfInBounds_toArray, List.set_cons_zero, List.set_cons_succ]
              refine wpAnyH_take (i := 7) (oi := ?o48) (v := ?v48) ?hi48 (by kernel_rfl) (by kernel_rfl) (by kernel_rfl) ?hQ48 ?hy48 (by assumption) ?rest48
              case hi48 => (simp only [List.getElem?_toArray, List.getElem?_cons_succ, List.getElem?_cons_zero]; rfl)
              case hQ48 => exact fun _ _ _ h => h
              case hy48 => (refine Or.inl ⟨by rfl, ?_⟩; intro w' hSw; obtain ⟨k0, k1, k2, k3, k4, k5, k6, k7, k8⟩ := cells9 hSw HC.out; go_simp; (try with_reducible rfl))
              try simp only [Act.put, List.setIfInBounds_toArray, List.set_cons_zero, List.set_cons_succ]
              refine wpAnyH_take (i := 8) (oi := ?o49) (v := ?v49) ?hi49 (by kernel_rfl) (by kernel_rfl) (by kernel_rfl) ?hQ49 ?hy49 (by assumption) ?rest49
              case hi49 => (simp only [List.getElem?_toArray, List.getElem?_cons_succ, List.getElem?_cons_zero]; rfl)
              case hQ49 => exact fun _ _ _ h => h
              case hy49 => (refine Or.inl ⟨by rfl, ?_⟩; intro w' hSw; obtain ⟨k0, k1, k2, k3, k4, k5, k6, k7, k8⟩ := cells9 hSw HC.out; go_simp; (try with_reducible rfl))
              try simp only [Act.put, List.setIfInBounds_toArray, List.set_cons_zero, List.set_cons_succ]
              refine wpAnyH_ready (rs := [9, 10]) (by kernel_rfl) (by simp) ?_
              refine AllReadyH.cons (o := ?o59) ?hi59 (fun K hK => ?rest59) ?more59
              case hi59 => (simp only [List.getElem?_toArray, List.getElem?_cons_succ, List.getElem?_cons_zero]; rfl)
              case rest59 =>
                go_simp
                go_at_call 187
                refine (kth.out _).mono ?_
                rintro e wn ⟨rfl, hbn⟩
                replace MB := Lib.hid (MB.out.next hbn)
                clear hbn
                refine hK.out _ _ MB.out (fun hHeld => ?_)
                clear hK K
                try simp only [Act.put, List.setIfInBounds_toArray, List.set_cons_zero, List.set_cons_succ]
                refine wpAnyH_ready (rs := [10]) (by kernel_rfl) (by simp) ?_
                refine AllReadyH.cons (o := ?o53) ?hi53 (fun K hK => ?rest53) AllReadyH.nil
                case hi53 => (simp only [List.getElem?_toArray, List.getElem?_cons_succ, List.getElem?_cons_zero]; rfl)
                go_simp
                have AP := Lib.hid MB.out.apart
                have LE := Lib.hid MB.out.above
                replace MB := Lib.hid (MB.out.add (.cells #[.int .i64 0, .int .u64 0] 164 (0, 0)))
                refine hK.out _ _ MB.out.tail (fun hHeld => ?_)
                clear hK K
                try simp only [Act.put, List.setIfInBounds_toArray, List.set_cons_zero, List.set_cons_succ]
                generalize hAA : World.heap wn = hp at *
                generalize hp.size = A1 at *
                generalize World.alloc wn (.cells #[.int .i64 0, .int .u64 0] 164 (0, 0)) = wa at *
                clear hAA
                refine wpAnyH_ready (rs := [11]) (by kernel_rfl) (by simp) ?_
                refine AllReadyH.cons (o := ?o51) ?hi51 (fun K hK => ?rest51) AllReadyH.nil
                case hi51 => (simp only [List.getElem?_toArray, List.getElem?_cons_succ, List.getElem?_cons_zero]; rfl)
                obtain ⟨c0, c1, f0, f1⟩ := row2 MB.out.head
                go_simp
                clear c0 c1 f0 f1
                have MC : Mem w ((A1, oZ (d3 A 0 1 3)) :: [(g, .cells cur 49 (0, 0)), (SB, oZ (sum4 A 2)), (w.heap.size + 1, oI A 197)]) _ := (MB.out.set AP.out LE.out 0 (.int .i64 (hiZ (d3 A 0 1 3)))).set AP.out LE.out 1 (.int .u64 (loZ (d3 A 0 1 3)))
                replace MB := Lib.hid MC
                clear MC
                refine hK.out _ _ MB.out.tail (fun hHeld => ?_)
                clear hK K
                try simp only [Act.put, List.setIfInBounds_toArray, List.set_cons_zero, List.set_cons_succ]
                refine wpAnyH_done (by kernel_rfl) ?_ _
                obtain ⟨c0, c1, f0, f1⟩ := row2 MB.out.head
                go_wp2_with fail
                refine (limbNeg_any _ _).mono ?_
                rintro e wn2 ⟨rfl, hbn2⟩
                replace MB := Lib.hid (MB.out.next hbn2)
                clear c0 c1 f0 f1 hbn2
                obtain ⟨c0, c1, f0, f1⟩ := row2 MB.out.head
                have hne : ¬ SB = A1 := AP.out (SB, oZ (sum4 A 2)) (by simp)
                have hne2 : ¬ A1 = SB := fun h => hne h.symm
                obtain ⟨s0, s1, t0, t1⟩ := row2 MB.out.tail.tail.head
                replace MB := Lib.hid (MB.out.setZ AP.out LE.out (-(d3 A 0 1 3)))
                go_wp2_with fail
                refine (limbAdd_any _ _ _).mono ?_
                rintro e wm ⟨rfl, hbm⟩
                replace MB := Lib.hid (MB.out.next hbm)
                clear c0 c1 f0 f1 s0 s1 t0 t1 hbm
                obtain ⟨s0, s1, t0, t1⟩ := row2 MB.out.tail.tail.head
                have MF : Mem w [(SB, oZ (sum4 A 2 + (-(d3 A 0 1 3)))), (w.heap.size + 1, oI A 197)] _ := (MB.out.tail.tail).setZ APS.out LES.out _
                have MF2 := memZ_eq hT.out MF
                replace MB := Lib.hid MF2
                clear MF MF2
                go_wp2_with fail
                go_roundw
                case rel => exact ⟨_, _, _, _, _, _, _, _, _, _, _, _, _, _, _, _, _, _, _, _, _, _, _, _, _, _, _, _, _, _, _, _, _, _, _, _, _, _, _, _, _, _, _, _, _, _, ⟨3, by omega, by go_num, MB.out⟩, rfl⟩
                case measure => simp [intOf]
              refine AllReadyH.cons (o := ?o60) ?hi60 (fun K hK => ?rest60) AllReadyH.nil
              case hi60 => (simp only [List.getElem?_toArray, List.getElem?_cons_succ, List.getElem?_cons_zero]; rfl)
              go_simp
              have AP := Lib.hid MB.out.apart
              have LE := Lib.hid MB.out.above
              replace MB := Lib.hid (MB.out.add (.cells #[.int .i64 0, .int .u64 0] 164 (0, 0)))
              refine hK.out _ _ MB.out.tail (fun hHeld => ?_)
              clear hK K
              try simp only [Act.put, List.setIfInBounds_toArray, List.set_cons_zero, List.set_cons_succ]
              generalize hAA : World.heap wd = hp at *
              generalize hp.size = A1 at *
              generalize World.alloc wd (.cells #[.int .i64 0, .int .u64 0] 164 (0, 0)) = wa at *
              clear hAA
              refine wpAnyH_ready (rs := [9]) (by kernel_rfl) (by simp) ?_
              refine AllReadyH.cons (o := ?o57) ?hi57 (fun K hK => ?rest57) AllReadyH.nil
              case hi57 => (simp only [List.getElem?_toArray, List.getElem?_cons_succ, List.getElem?_cons_zero]; rfl)
              go_simp
              go_at_call 187
              refine (kth.out _).mono ?_
              rintro e wn ⟨rfl, hbn⟩
              replace MB := Lib.hid (MB.out.next hbn)
              clear hbn
              refine hK.out _ _ MB.out.tail (fun hHeld => ?_)
              clear hK K
              try simp only [Act.put, List.setIfInBounds_toArray, List.set_cons_zero, List.set_cons_succ]
              refine wpAnyH_ready (rs := [11]) (by kernel_rfl) (by simp) ?_
              refine AllReadyH.cons (o := ?o55) ?hi55 (fun K hK => ?rest55) AllReadyH.nil
              case hi55 => (simp only [List.getElem?_toArray, List.getElem?_cons_succ, List.getElem?_cons_zero]; rfl)
              obtain ⟨c0, c1, f0, f1⟩ := row2 MB.out.head
              go_simp
              clear c0 c1 f0 f1
              have MC : Mem w ((A1, oZ (d3 A 0 1 3)) :: [(g, .cells cur 49 (0, 0)), (SB, oZ (sum4 A 2)), (w.heap.size + 1, oI A 197)]) _ := (MB.out.set AP.out LE.out 0 (.int .i64 (hiZ (d3 A 0 1 3)))).set AP.out LE.out 1 (.int .u64 (loZ (d3 A 0 1 3)))
              replace MB := Lib.hid MC
              clear MC
              refine hK.out _ _ MB.out.tail (fun hHeld => ?_)
              clear hK K
              try simp only [Act.put, List.setIfInBounds_toArray, List.set_cons_zero, List.set_cons_succ]
              refine wpAnyH_done (by kernel_rfl) ?_ _
              obtain ⟨c0, c1, f0, f1⟩ := row2 MB.out.head
              go_wp2_with fail
              refine (limbNeg_any _ _).mono ?_
              rintro e wn2 ⟨rfl, hbn2⟩
              replace MB := Lib.hid (MB.out.next hbn2)
              clear c0 c1 f0 f1 hbn2
              obtain ⟨c0, c1, f0, f1⟩ := row2 MB.out.head
              have hne : ¬ SB = A1 := AP.out (SB, oZ (sum4 A 2)) (by simp)
              have hne2 : ¬ A1 = SB := fun h => hne h.symm
              obtain ⟨s0, s1, t0, t1⟩ := row2 MB.out.tail.tail.head
              replace MB := Lib.hid (MB.out.setZ AP.out LE.out (-(d3 A 0 1 3)))
              go_wp2_with fail
              refine (limbAdd_any _ _ _).mono ?_
              rintro e wm ⟨rfl, hbm⟩
              replace MB := Lib.hid (MB.out.next hbm)
              clear c0 c1 f0 f1 s0 s1 t0 t1 hbm
              obtain ⟨s0, s1, t0, t1⟩ := row2 MB.out.tail.tail.head
              have MF : Mem w [(SB, oZ (sum4 A 2 + (-(d3 A 0 1 3)))), (w.heap.size + 1, oI A 197)] _ := (MB.out.tail.tail).setZ APS.out LES.out _
              have MF2 := memZ_eq hT.out MF
              replace MB := Lib.hid MF2
              clear MF MF2
              go_wp2_with fail
              go_roundw
              case rel => exact ⟨_, _, _, _, _, _, _, _, _, _, _, _, _, _, _, _, _, _, _, _, _, _, _, _, _, _, _, _, _, _, _, _, _, _, _, _, _, _, _, _, _, _, _, _, _, _, ⟨3, by omega, by go_num, MB.out⟩, rfl⟩
              case measure => simp [intOf]
          · have cW := cellI MB.out.tail.head (o := 15) (by rw [LA.out]; omega)
            by_cases e0 : A[15]! = 0
            · have hT : Hid (sum4 A 4 = sum4 A 3) := by
                show sum4 _ _ = _
                rw [show sum4 A 4 = sum4 A 3 + term4 A 3 from rfl, term4_z (r := 3) e0, Int.add_zero]
              have e1 : (A[15]! == 0) = true := by simpa using e0
              clear e0
              generalize A[15]! = vW at *
              go_wp2_with fail
              go_roundw
              case rel => exact ⟨4, by omega, by go_num, by rw [hT.out]; exact MB.out⟩
              case measure => simp [intOf]
            · have hT : Hid (sum4 A 4 = sum4 A 3 + d3 A 0 1 2) := by
                show sum4 _ _ = _
                rw [show sum4 A 4 = sum4 A 3 + term4 A 3 from rfl, term4_3 e0]
              have e1 : (A[15]! == 0) = false := by simpa using e0
              clear e0
              have kth : ∀ W, Calls Try.prog 187 #[.agg #[.int .i64 A[0]!, .int .i64 A[1]!, .int .i64 A[2]!], .agg #[.int .i64 A[4]!, .int .i64 A[5]!, .int .i64 A[6]!], .agg #[.int .i64 A[8]!, .int .i64 A[9]!, .int .i64 A[10]!]] W fun e w' => e = .returned (encZ (d3 A 0 1 2)) ∧ Below W.heap.size W w' := fun W => three_d3 IA.out 0 1 2 (fun o => get_in IA.out o) W
              replace kth := Lib.hid kth
              have KC : Hid ((∀ W : World, W.heap[w.heap.size + 1]? = some (oI A 197) → W.cell? ⟨w.heap.size + 1, 0, none⟩ = some (.int .i64 A[0]!)) ∧ (∀ W : World, W.heap[w.heap.size + 1]? = some (oI A 197) → W.cell? ⟨w.heap.size + 1, 1, none⟩ = some (.int .i64 A[1]!)) ∧ (∀ W : World, W.heap[w.heap.size + 1]? = some (oI A 197) → W.cell? ⟨w.heap.size + 1, 2, none⟩ = some (.int .i64 A[2]!)) ∧ (∀ W : World, W.heap[w.heap.size + 1]? = some (oI A 197) → W.cell? ⟨w.heap.size + 1, 4, none⟩ = some (.int .i64 A[4]!)) ∧ (∀ W : World, W.heap[w.heap.size + 1]? = some (oI A 197) → W.cell? ⟨w.heap.size + 1, 5, none⟩ = some (.int .i64 A[5]!)) ∧ (∀ W : World, W.heap[w.heap.size + 1]? = some (oI A 197) → W.cell? ⟨w.heap.size + 1, 6, none⟩ = some (.int .i64 A[6]!)) ∧ (∀ W : World, W.heap[w.heap.size + 1]? = some (oI A 197) → W.cell? ⟨w.heap.size + 1, 8, none⟩ = some (.int .i64 A[8]!)) ∧ (∀ W : World, W.heap[w.heap.size + 1]? = some (oI A 197) → W.cell? ⟨w.heap.size + 1, 9, none⟩ = some (.int .i64 A[9]!)) ∧ (∀ W : World, W.heap[w.heap.size + 1]? = some (oI A 197) → W.cell? ⟨w.heap.size + 1, 10, none⟩ = some (.int .i64 A[10]!))) := Lib.hid ⟨fun W h => cellI h (by rw [LA.out]; omega), fun W h => cellI h (by rw [LA.out]; omega), fun W h => cellI h (by rw [LA.out]; omega), fun W h => cellI h (by rw [LA.out]; omega), fun W h => cellI h (by rw [LA.out]; omega), fun W h => cellI h (by rw [LA.out]; omega), fun W h => cellI h (by rw [LA.out]; omega), fun W h => cellI h (by rw [LA.out]; omega), fun W h => cellI h (by rw [LA.out]; omega)⟩
              generalize A[15]! = vW at *
              generalize A[0]! = v0 at *
              generalize A[1]! = v1 at *
              generalize A[2]! = v2 at *
              generalize A[4]! = v4 at *
              generalize A[5]! = v5 at *
              generalize A[6]! = v6 at *
              generalize A[8]! = v8 at *
              generalize A[9]! = v9 at *
              generalize A[10]! = v10 at *
              have hL : Hid (∀ p, p ∈ [(SB, oZ (sum4 A 3)), (w.heap.size + 1, oI A 197)] → p.1 < wr.heap.size) := Lib.hid (fun p hp => MB.out.lt hp)
              have hw0 : Hid (w.heap.size ≤ wr.heap.size) := Lib.hid MB.out.above
              have own0 : Hid (wr.ownsRow wr.heap.size 49 3 (.slice none 0 0) 0 ((flat []).map encI)) := Lib.hid (World.ownsRow_nil wr wr.heap.size 49 3)
              have hB0 : Hid (wr.heap.size ≤ wr.heap.size) := Lib.hid (Nat.le_refl _)
              generalize hBB : wr.heap.size = B0 at hL hw0 own0 hB0
              have hB0' : Hid (B0 ≤ wr.heap.size) := Lib.hid (by rw [hBB]; exact Nat.le_refl _)
              clear hBB hB0
              go_wp2_with fail
              refine wp_loop_rounds 5 ?_
              rw [rounds_succ]
              obtain ⟨V1, c1, W1, run1, MB1, own1, hB1⟩ := appRow_step MB.out hL.out hw0.out own0.out hB0'.out ⟨v0, v1, v2⟩ (by omega)
              have k0 := KC.out.1 _ MB.out.tail.head
              have k1 := KC.out.2.1 _ MB.out.tail.head
              have k2 := KC.out.2.2.1 _ MB.out.tail.head
              have lsb := MB.out.lt (p := (w.heap.size + 1, oI A 197)) (by simp)
              simp only at lsb
              replace run1 := Lib.hid run1
              replace own1 := Lib.hid own1
              replace hB1 := Lib.hid hB1
              have ar := arrAt (w.heap.size + 1) 0
              go_wp2_with (first | (at_builtin; refine wpList_append_run (o := ⟨some 86, _, _, _, _, _⟩) rfl _ _ _ rfl rfl rfl run1.out ?_))
              clear k0 k1 k2 lsb ar run1 MB own0 hB0'
              have MB := Lib.hid MB1
              clear MB1
              rw [rounds_succ]
              obtain ⟨V2, c2, W2, run2, MB2, own2, hB2⟩ := appRow_step MB.out hL.out hw0.out own1.out hB1.out ⟨v4, v5, v6⟩ (by omega)
              have k0 := KC.out.2.2.2.1 _ MB.out.tail.head
              have k1 := KC.out.2.2.2.2.1 _ MB.out.tail.head
              have k2 := KC.out.2.2.2.2.2.1 _ MB.out.tail.head
              have lsb := MB.out.lt (p := (w.heap.size + 1, oI A 197)) (by simp)
              simp only at lsb
              replace run2 := Lib.hid run2
              replace own2 := Lib.hid own2
              replace hB2 := Lib.hid hB2
              have ar := arrAt (w.heap.size + 1) 4
              go_wp2_with (first | (at_builtin; refine wpList_append_run (o := ⟨some 86, _, _, _, _, _⟩) rfl _ _ _ rfl rfl rfl run2.out ?_))
              clear k0 k1 k2 lsb ar run2 MB own1 hB1
              have MB := Lib.hid MB2
              clear MB2
              rw [rounds_succ]
              obtain ⟨V3, c3, W3, run3, MB3, own3, hB3⟩ := appRow_step MB.out hL.out hw0.out own2.out hB2.out ⟨v8, v9, v10⟩ (by omega)
              have k0 := KC.out.2.2.2.2.2.2.1 _ MB.out.tail.head
              have k1 := KC.out.2.2.2.2.2.2.2.1 _ MB.out.tail.head
              have k2 := KC.out.2.2.2.2.2.2.2.2 _ MB.out.tail.head
              have lsb := MB.out.lt (p := (w.heap.size + 1, oI A 197)) (by simp)
              simp only at lsb
              replace run3 := Lib.hid run3
              replace own3 := Lib.hid own3
              replace hB3 := Lib.hid hB3
              have ar := arrAt (w.heap.size + 1) 8
              go_wp2_with (first | (at_builtin; refine wpList_append_run (o := ⟨some 86, _, _, _, _, _⟩) rfl _ _ _ rfl rfl rfl run3.out ?_))
              clear k0 k1 k2 lsb ar run3 MB own2 hB2
              have MB := Lib.hid MB3
              clear MB3
              rw [rounds_succ]
              go_wp2_with fail
              rw [rounds_succ]
              obtain ⟨g, cur, eV, hc3, hcm, hg, hbg, HC⟩ := own9 own3.out
              subst eV
              replace HC := Lib.hid HC
              have MG : Mem w [(g, .cells cur 49 (0, 0)), (SB, oZ (sum4 A 3)), (w.heap.size + 1, oI A 197)] W3 := MB.out.cons hg
              replace MB := Lib.hid MG
              unfold maxLen at hcm
              clear MG hg own3 KC
              go_wp2_with fail
              refine wp_region_held_drew (S := fun w' => Mem w [(g, .cells cur 49 (0, 0)), (SB, oZ (sum4 A 3)), (w.heap.size + 1, oI A 197)] w') (by kernel_rfl) MB.out.drew (fun hHeld => ?_)
              replace MB := Lib.hid MB.out.drew
              generalize World.drew W3 = wd at *
              refine wpAnyH_take (i := 0) (oi := ?o61) (v := ?v61) ?hi61 (by kernel_rfl) (by kernel_rfl) (by kernel_rfl) ?hQ61 ?hy61 (by assumption) ?rest61
              case hi61 => (simp only [List.getElem?_toArray, List.getElem?_cons_succ, List.getElem?_cons_zero]; rfl)
              case hQ61 => exact fun _ _ _ h => h
              case hy61 => (refine Or.inl ⟨by rfl, ?_⟩; intro w' hSw; obtain ⟨k0, k1, k2, k3, k4, k5, k6, k7, k8⟩ := cells9 hSw HC.out; go_simp; (try with_reducible rfl))
              try simp only [Act.put, List.setIfInBounds_toArray, List.set_cons_zero, List.set_cons_succ]
              refine wpAnyH_take (i := 1) (oi := ?o62) (v := ?v62) ?hi62 (by kernel_rfl) (by kernel_rfl) (by kernel_rfl) ?hQ62 ?hy62 (by assumption) ?rest62
              case hi62 => (simp only [List.getElem?_toArray, List.getElem?_cons_succ, List.getElem?_cons_zero]; rfl)
              case hQ62 => exact fun _ _ _ h => h
              case hy62 => (refine Or.inl ⟨by rfl, ?_⟩; intro w' hSw; obtain ⟨k0, k1, k2, k3, k4, k5, k6, k7, k8⟩ := cells9 hSw HC.out; go_simp; (try with_reducible rfl))
              try simp only [Act.put, List.setIfInBounds_toArray, List.set_cons_zero, List.set_cons_succ]
              refine wpAnyH_take (i := 2) (oi := ?o63) (v := ?v63) ?hi63 (by kernel_rfl) (by kernel_rfl) (by kernel_rfl) ?hQ63 ?hy63 (by assumption) ?rest63
              case hi63 => (simp only [List.getElem?_toArray, List.getElem?_cons_succ, List.getElem?_cons_zero]; rfl)
              case hQ63 => exact fun _ _ _ h => h
              case hy63 => (refine Or.inl ⟨by rfl, ?_⟩; intro w' hSw; obtain ⟨k0, k1, k2, k3, k4, k5, k6, k7, k8⟩ := cells9 hSw HC.out; go_simp; (try with_reducible rfl))
              try simp only [Act.put, List.setIfInBounds_toArray, List.set_cons_zero, List.set_cons_succ]
              refine wpAnyH_take (i := 3) (oi := ?o64) (v := ?v64) ?hi64 (by kernel_rfl) (by kernel_rfl) (by kernel_rfl) ?hQ64 ?hy64 (by assumption) ?rest64
              case hi64 => (simp only [List.getElem?_toArray, List.getElem?_cons_succ, List.getElem?_cons_zero]; rfl)
              case hQ64 => exact fun _ _ _ h => h
              case hy64 => (refine Or.inl ⟨by rfl, ?_⟩; intro w' hSw; obtain ⟨k0, k1, k2, k3, k4, k5, k6, k7, k8⟩ := cells9 hSw HC.out; go_simp; (try with_reducible rfl))
              try simp only [Act.put, List.setIfInBounds_toArray, List.set_cons_zero, List.set_cons_succ]
              refine wpAnyH_take (i := 4) (oi := ?o65) (v := ?v65) ?hi65 (by kernel_rfl) (by kernel_rfl) (by kernel_rfl) ?hQ65 ?hy65 (by assumption) ?rest65
              case hi65 => (simp only [List.getElem?_toArray, List.getElem?_cons_succ, List.getElem?_cons_zero]; rfl)
              case hQ65 => exact fun _ _ _ h => h
              case hy65 => (refine Or.inl ⟨by rfl, ?_⟩; intro w' hSw; obtain ⟨k0, k1, k2, k3, k4, k5, k6, k7, k8⟩ := cells9 hSw HC.out; go_simp; (try with_reducible rfl))
              try simp only [Act.put, List.setIfInBounds_toArray, List.set_cons_zero, List.set_cons_succ]
              refine wpAnyH_take (i := 5) (oi := ?o66) (v := ?v66) ?hi66 (by kernel_rfl) (by kernel_rfl) (by kernel_rfl) ?hQ66 ?hy66 (by assumption) ?rest66
              case hi66 => (simp only [List.getElem?_toArray, List.getElem?_cons_succ, List.getElem?_cons_zero]; rfl)
              case hQ66 => exact fun _ _ _ h => h
              case hy66 => (refine Or.inl ⟨by rfl, ?_⟩; intro w' hSw; obtain ⟨k0, k1, k2, k3, k4, k5, k6, k7, k8⟩ := cells9 hSw HC.out; go_simp; (try with_reducible rfl))
              try simp only [Act.put, List.setIfInBounds_toArray, List.set_cons_zero, List.set_cons_succ]
              refine wpAnyH_take (i := 6) (oi := ?o67) (v := ?v67) ?hi67 (by kernel_rfl) (by kernel_rfl) (by kernel_rfl) ?hQ67 ?hy67 (by assumption) ?rest67
              case hi67 => (simp only [List.getElem?_toArray, List.getElem?_cons_succ, List.getElem?_cons_zero]; rfl)
              case hQ67 => exact fun _ _ _ h => h
              case hy67 => (refine Or.inl ⟨by rfl, ?_⟩; intro w' hSw; obtain ⟨k0, k1, k2, k3, k4, k5, k6, k7, k8⟩ := cells9 hSw HC.out; go_simp; (try with_reducible rfl))
              try simp only [Act.put, List.setIfInBounds_toArray, List.set_cons_zero, List.set_cons_succ]
              refine wpAnyH_take (i := 7) (oi := ?o68) (v := ?v68) ?hi68 (by kernel_rfl) (by kernel_rfl) (by kernel_rfl) ?hQ68 ?hy68 (by assumption) ?rest68
              case hi68 => (simp only [List.getElem?_toArray, List.getElem?_cons_succ, List.getElem?_cons_zero]; rfl)
              case hQ68 => exact fun _ _ _ h => h
              case hy68 => (refine Or.inl ⟨by rfl, ?_⟩; intro w' hSw; obtain ⟨k0, k1, k2, k3, k4, k5, k6, k7, k8⟩ := cells9 hSw HC.out; go_simp; (try with_reducible rfl))
              try simp only [Act.put, List.setIfInBounds_toArray, List.set_cons_zero, List.set_cons_succ]
              refine wpAnyH_take (i := 8) (oi := ?o69) (v := ?v69) ?hi69 (by kernel_rfl) (by kernel_rfl) (by kernel_rfl) ?hQ69 ?hy69 (by assumption) ?rest69
              case hi69 => (simp only [List.getElem?_toArray, List.getElem?_cons_succ, List.getElem?_cons_zero]; rfl)
              case hQ69 => exact fun _ _ _ h => h
              case hy69 => (refine Or.inl ⟨by rfl, ?_⟩; intro w' hSw; obtain ⟨k0, k1, k2, k3, k4, k5, k6, k7, k8⟩ := cells9 hSw HC.out; go_simp; (try with_reducible rfl))
              try simp only [Act.put, List.setIfInBounds_toArray, List.set_cons_zero, List.set_cons_succ]
              refine wpAnyH_ready (rs := [9, 10]) (by kernel_rfl) (by simp) ?_
              refine AllReadyH.cons (o := ?o79) ?hi79 (fun K hK => ?rest79) ?more79
              case hi79 => (simp only [List.getElem?_toArray, List.getElem?_cons_succ, List.getElem?_cons_zero]; rfl)
              case rest79 =>
                go_simp
                go_at_call 187
                refine (kth.out _).mono ?_
                rintro e wn ⟨rfl, hbn⟩
                replace MB := Lib.hid (MB.out.next hbn)
                clear hbn
                refine hK.out _ _ MB.out (fun hHeld => ?_)
                clear hK K
                try simp only [Act.put, List.setIfInBounds_toArray, List.set_cons_zero, List.set_cons_succ]
                refine wpAnyH_ready (rs := [10]) (by kernel_rfl) (by simp) ?_
                refine AllReadyH.cons (o := ?o73) ?hi73 (fun K hK => ?rest73) AllReadyH.nil
                case hi73 => (simp only [List.getElem?_toArray, List.getElem?_cons_succ, List.getElem?_cons_zero]; rfl)
                go_simp
                have AP := Lib.hid MB.out.apart
                have LE := Lib.hid MB.out.above
                replace MB := Lib.hid (MB.out.add (.cells #[.int .i64 0, .int .u64 0] 164 (0, 0)))
                refine hK.out _ _ MB.out.tail (fun hHeld => ?_)
                clear hK K
                try simp only [Act.put, List.setIfInBounds_toArray, List.set_cons_zero, List.set_cons_succ]
                generalize hAA : World.heap wn = hp at *
                generalize hp.size = A1 at *
                generalize World.alloc wn (.cells #[.int .i64 0, .int .u64 0] 164 (0, 0)) = wa at *
                clear hAA
                refine wpAnyH_ready (rs := [11]) (by kernel_rfl) (by simp) ?_
                refine AllReadyH.cons (o := ?o71) ?hi71 (fun K hK => ?rest71) AllReadyH.nil
                case hi71 => (simp only [List.getElem?_toArray, List.getElem?_cons_succ, List.getElem?_cons_zero]; rfl)
                obtain ⟨c0, c1, f0, f1⟩ := row2 MB.out.head
                go_simp
                clear c0 c1 f0 f1
                have MC : Mem w ((A1, oZ (d3 A 0 1 2)) :: [(g, .cells cur 49 (0, 0)), (SB, oZ (sum4 A 3)), (w.heap.size + 1, oI A 197)]) _ := (MB.out.set AP.out LE.out 0 (.int .i64 (hiZ (d3 A 0 1 2)))).set AP.out LE.out 1 (.int .u64 (loZ (d3 A 0 1 2)))
                replace MB := Lib.hid MC
                clear MC
                refine hK.out _ _ MB.out.tail (fun hHeld => ?_)
                clear hK K
                try simp only [Act.put, List.setIfInBounds_toArray, List.set_cons_zero, List.set_cons_succ]
                refine wpAnyH_done (by kernel_rfl) ?_ _
                obtain ⟨c0, c1, f0, f1⟩ := row2 MB.out.head
                obtain ⟨s0, s1, t0, t1⟩ := row2 MB.out.tail.tail.head
                go_wp2_with fail
                refine (limbAdd_any _ _ _).mono ?_
                rintro e wm ⟨rfl, hbm⟩
                replace MB := Lib.hid (MB.out.next hbm)
                clear c0 c1 f0 f1 s0 s1 t0 t1 hbm
                obtain ⟨s0, s1, t0, t1⟩ := row2 MB.out.tail.tail.head
                have MF : Mem w [(SB, oZ (sum4 A 3 + (d3 A 0 1 2))), (w.heap.size + 1, oI A 197)] _ := (MB.out.tail.tail).setZ APS.out LES.out _
                have MF2 := memZ_eq hT.out MF
                replace MB := Lib.hid MF2
                clear MF MF2
                go_wp2_with fail
                go_roundw
                case rel => exact ⟨_, _, _, _, _, _, _, _, _, _, _, _, _, _, _, _, _, _, _, _, _, _, _, _, _, _, _, _, _, _, _, _, _, _, _, _, _, _, _, _, _, _, _, _, _, _, ⟨4, by omega, by go_num, MB.out⟩, rfl⟩
                case measure => simp [intOf]
              refine AllReadyH.cons (o := ?o80) ?hi80 (fun K hK => ?rest80) AllReadyH.nil
              case hi80 => (simp only [List.getElem?_toArray, List.getElem?_cons_succ, List.getElem?_cons_zero]; rfl)
              go_simp
              have AP := Lib.hid MB.out.apart
              have LE := Lib.hid MB.out.above
              replace MB := Lib.hid (MB.out.add (.cells #[.int .i64 0, .int .u64 0] 164 (0, 0)))
              refine hK.out _ _ MB.out.tail (fun hHeld => ?_)
              clear hK K
              try simp only [Act.put, List.setIfInBounds_toArray, List.set_cons_zero, List.set_cons_succ]
              generalize hAA : World.heap wd = hp at *
              generalize hp.size = A1 at *
              generalize World.alloc wd (.cells #[.int .i64 0, .int .u64 0] 164 (0, 0)) = wa at *
              clear hAA
              refine wpAnyH_ready (rs := [9]) (by kernel_rfl) (by simp) ?_
              refine AllReadyH.cons (o := ?o77) ?hi77 (fun K hK => ?rest77) AllReadyH.nil
              case hi77 => (simp only [List.getElem?_toArray, List.getElem?_cons_succ, List.getElem?_cons_zero]; rfl)
              go_simp
              go_at_call 187
              refine (kth.out _).mono ?_
              rintro e wn ⟨rfl, hbn⟩
              replace MB := Lib.hid (MB.out.next hbn)
              clear hbn
              refine hK.out _ _ MB.out.tail (fun hHeld => ?_)
              clear hK K
              try simp only [Act.put, List.setIfInBounds_toArray, List.set_cons_zero, List.set_cons_succ]
              refine wpAnyH_ready (rs := [11]) (by kernel_rfl) (by simp) ?_
              refine AllReadyH.cons (o := ?o75) ?hi75 (fun K hK => ?rest75) AllReadyH.nil
              case hi75 => (simp only [List.getElem?_toArray, List.getElem?_cons_succ, List.getElem?_cons_zero]; rfl)
              obtain ⟨c0, c1, f0, f1⟩ := row2 MB.out.head
              go_simp
              clear c0 c1 f0 f1
              have MC : Mem w ((A1, oZ (d3 A 0 1 2)) :: [(g, .cells cur 49 (0, 0)), (SB, oZ (sum4 A 3)), (w.heap.size + 1, oI A 197)]) _ := (MB.out.set AP.out LE.out 0 (.int .i64 (hiZ (d3 A 0 1 2)))).set AP.out LE.out 1 (.int .u64 (loZ (d3 A 0 1 2)))
              replace MB := Lib.hid MC
              clear MC
              refine hK.out _ _ MB.out.tail (fun hHeld => ?_)
              clear hK K
              try simp only [Act.put, List.setIfInBounds_toArray, List.set_cons_zero, List.set_cons_succ]
              refine wpAnyH_done (by kernel_rfl) ?_ _
              obtain ⟨c0, c1, f0, f1⟩ := row2 MB.out.head
              obtain ⟨s0, s1, t0, t1⟩ := row2 MB.out.tail.tail.head
              go_wp2_with fail
              refine (limbAdd_any _ _ _).mono ?_
              rintro e wm ⟨rfl, hbm⟩
              replace MB := Lib.hid (MB.out.next hbm)
              clear c0 c1 f0 f1 s0 s1 t0 t1 hbm
              obtain ⟨s0, s1, t0, t1⟩ := row2 MB.out.tail.tail.head
              have MF : Mem w [(SB, oZ (sum4 A 3 + (d3 A 0 1 2))), (w.heap.size + 1, oI A 197)] _ := (MB.out.tail.tail).setZ APS.out LES.out _
              have MF2 := memZ_eq hT.out MF
              replace MB := Lib.hid MF2
              clear MF MF2
              go_wp2_with fail
              go_roundw
              case rel => exact ⟨_, _, _, _, _, _, _, _, _, _, _, _, _, _, _, _, _, _, _, _, _, _, _, _, _, _, _, _, _, _, _, _, _, _, _, _, _, _, _, _, _, _, _, _, _, _, ⟨4, by omega, by go_num, MB.out⟩, rfl⟩
              case measure => simp [intOf]
        · obtain rfl : r = 4 := by omega
          obtain ⟨s0, s1, t0, t1⟩ := row2 MB.out.head
          have hv : Hid (movedV [p0, p1, p2, p3, p4, p5, p6, p7, p8, p9, p10, p11] m = (sgZ (sum4 A 4), true)) := by
            show movedV _ _ = _
            unfold movedV
            rw [hS.out]
          go_wp2_with fail
          refine (limbSign_any _ _).mono ?_
          rintro e wz ⟨rfl, hbz⟩
          replace MB := Lib.hid (MB.out.next hbz)
          clear s0 s1 t0 t1 hbz
          go_wp2
          go_ret2
          rw [hv.out]
          exact ⟨rfl, MB.out.below⟩
end Go.Proofs.Ytojecaeblgghjaa
