/-
  THE WALK of OrderTexts.
-/
import Derived.Test.YtojecaeblgghjaaTSame
set_option linter.unusedVariables false
set_option linter.unusedSimpArgs false
namespace Go.Proofs.Ytojecaeblgghjaa
open Go.RowKit Go.Sort LsP

theorem minT_rise (l : List (List UInt8)) (h : l.Pairwise (· < ·)) (hp : 0 < l.length) : minT l = bys l[0]! := by
  obtain ⟨x, t, rfl⟩ : ∃ x t, l = x :: t := by
    cases l with
    | nil => simp at hp
    | cons x t => exact ⟨x, t, rfl⟩
  rw [minT, if_neg (by simp)]
  show (List.map bys (x :: t)).foldl Lib.minS (bys x) = bys x
  have h1 : ∀ u : List (List UInt8), (∀ y ∈ u, x ≤ y) → (u.map bys).foldl Lib.minS (bys x) = bys x := by
    intro u hu
    induction u with
    | nil => rfl
    | cons y u ih =>
      rw [List.map_cons, List.foldl_cons]
      have hm : Lib.minS (bys x) (bys y) = bys x := by
        unfold Lib.minS
        refine if_pos ?_
        show x.toArray.toList < y.toArray.toList ∨ x.toArray.toList = y.toArray.toList
        rw [List.toList_toArray, List.toList_toArray]
        rcases tri x y with h | h | h
        · exact .inl h
        · exact .inr h
        · exact absurd (Std.lt_of_lt_of_le h (hu y (by simp))) lt_ir
      rw [hm]
      exact ih fun z hz => hu z (by simp [hz])
  refine h1 _ fun y hy => ?_
  rw [List.pairwise_cons] at h
  rcases List.mem_cons.1 hy with e | e
  · rw [e]; exact Std.le_refl _
  · exact Std.le_of_lt (h.1 y e)

theorem bothT_def (a b : List (List UInt8)) : ((sset a).filter fun x => decide (x ∈ sset b)) = bothL a b := by
  unfold bothL
  exact List.filter_congr fun x _ => decide_eq_decide.2 Iff.rfl
theorem lessT_def (a b : List (List UInt8)) : ((sset a).filter fun x => !decide (x ∈ sset b)) = lessL a b := by
  unfold lessL
  exact List.filter_congr fun x _ => congrArg (!·) (decide_eq_decide.2 Iff.rfl)

theorem sameT_true (P Q : Option Addr) (c d : Nat) (l : List (List UInt8)) (W : World) (lo lo' : Nat) (hp : Rd encStr lo W P l) (hq : Rd encStr lo' W Q l) (hl : l.length ≤ 1000000) :
    Calls Try.prog 42 #[.slice P l.length c, .slice Q l.length d] W fun e w' => e = .returned (.bool true) ∧ ∃ q, w' = W.drewN q := by
  have := sameT_any P Q c d l l W lo lo' hp hq hl hl
  simp only [decide_true] at this
  exact this

theorem risesT_true (P : Option Addr) (c : Nat) (l : List (List UInt8)) (W : World) (lo : Nat) (hp : Rd encStr lo W P l) (hl : l.length ≤ 1000000) (hr : l.Pairwise (· < ·)) :
    Calls Try.prog 41 #[.slice P l.length c] W fun e w' => e = .returned (.bool true) ∧ ∃ q, w' = W.drewN q := by
  have := risesT_any P c l W lo hp hl
  rw [(risesB_iff l).2 hr] at this
  exact this

/-- What the law's three lists are, behind one name. -/
structure Three (xs ys M Bo Le : List (List UInt8)) : Prop where
  m : sset (xs ++ ys) = M
  b : bothL xs ys = Bo
  l : lessL xs ys = Le

set_option maxHeartbeats 4000000 in
set_option maxRecDepth 100000 in
theorem texts_walk (A B : Option Addr) (c d : Nat) (xs ys : List (List UInt8)) (x : List UInt8) (w : World) (ha : Rd encStr 0 w A xs) (hb : Rd encStr 0 w B ys) (hm : xs.length ≤ maxLen) (hm' : ys.length ≤ maxLen) :
    Calls Try.prog 7 #[.slice A xs.length c, .slice B ys.length d, .string (bys x)] w fun e w' => e = .returned (.bool true) ∧ Below w.heap.size w w' := by
  unfold maxLen at hm hm'
  by_cases h1 : xs.length ≤ 60
  · have g1 : decide ((xs.length : Int) > 60) = false := by simp; omega
    by_cases h2 : ys.length ≤ 60
    · have g2 : decide ((ys.length : Int) > 60) = false := by simp; omega
      have HA := Lib.hid ha
      have HB := Lib.hid hb
      clear ha hb
      have LM : (sset (xs ++ ys)).length ≤ 1000000 := by have := sset_len (xs ++ ys); rw [List.length_append] at this; omega
      have LB : (bothL xs ys).length ≤ 1000000 := by have := len_bothL xs ys; omega
      have LL : (lessL xs ys).length ≤ 1000000 := by have := len_lessL xs ys; omega
      obtain ⟨M, hM⟩ : ∃ M, sset (xs ++ ys) = M := ⟨_, rfl⟩
      obtain ⟨Bo, hBo⟩ : ∃ Bo, bothL xs ys = Bo := ⟨_, rfl⟩
      obtain ⟨Le, hLe⟩ : ∃ Le, lessL xs ys = Le := ⟨_, rfl⟩
      have T : Hid (Three xs ys M Bo Le) := ⟨hM, hBo, hLe⟩
      rw [hM] at LM; rw [hBo] at LB; rw [hLe] at LL
      clear hM hBo hLe
      go_enter Try.func7, Try.ntmps7
      go_wp2_with fail
      refine (mergeT_any A B c d xs ys w HA.out HB.out (by omega) (by omega)).mono ?_
      rw [T.out.m]
      rintro e W1 ⟨P1, p1, rfl, _, _, r1, _, b1⟩
      have R1 := Lib.hid r1
      clear r1
      go_wp2_with fail
      refine (bothT_any A B c d xs ys _ (HA.out.below b1 (Nat.le_refl _)) (HB.out.below b1 (Nat.le_refl _)) (by omega) (by omega)).mono ?_
      rw [show ((sset xs).filter fun x => decide (x ∈ sset ys)) = Bo from (bothT_def xs ys).trans T.out.b]
      rintro e W2 ⟨P2, p2, rfl, _, _, r2, _, c2⟩
      have b2 := below_up b1 c2
      have R2 := Lib.hid r2
      have R1' := Lib.hid (R1.out.below c2 (Nat.le_refl _))
      clear r2 c2 b1 R1
      go_wp2_with fail
      refine (lessT_any A B c d xs ys _ (HA.out.below b2 (Nat.le_refl _)) (HB.out.below b2 (Nat.le_refl _)) (by omega) (by omega)).mono ?_
      rw [show ((sset xs).filter fun x => !decide (x ∈ sset ys)) = Le from (lessT_def xs ys).trans T.out.l]
      rintro e W3 ⟨P3, p3, rfl, _, _, r3, _, c3⟩
      have b3 := below_up b2 c3
      have KM : Hid (∀ W, Below W3.heap.size W3 W → Rd encStr 0 W P1 M) := fun W h => ((R1'.out.below c3 (Nat.le_refl _)).below h (Nat.le_refl _)).low (Nat.zero_le _)
      have KB : Hid (∀ W, Below W3.heap.size W3 W → Rd encStr 0 W P2 Bo) := fun W h => ((R2.out.below c3 (Nat.le_refl _)).below h (Nat.le_refl _)).low (Nat.zero_le _)
      have KL : Hid (∀ W, Below W3.heap.size W3 W → Rd encStr 0 W P3 Le) := fun W h => (r3.below h (Nat.le_refl _)).low (Nat.zero_le _)
      have KX : Hid (∀ W, Below W3.heap.size W3 W → Rd encStr 0 W A xs) := fun W h => (HA.out.below b3 (Nat.le_refl _)).below h (Nat.le_refl _)
      have KY : Hid (∀ W, Below W3.heap.size W3 W → Rd encStr 0 W B ys) := fun W h => (HB.out.below b3 (Nat.le_refl _)).below h (Nat.le_refl _)
      have B3 := Lib.hid b3
      clear r3 c3 b3 b2 R1' R2 HA HB
      have z0 : Hid (Below W3.heap.size W3 W3) := Below.refl _ _
      go_wp2_with fail
      refine (risesT_true P1 p1 M _ 0 (KM.out _ z0.out) LM (by rw [← T.out.m]; exact sset_rise _)).mono ?_
      rintro e W4 ⟨rfl, q, hW⟩
      have z1 : Hid (Below W3.heap.size W3 W4) := by rw [hW]; exact below_drewN z0.out q
      clear hW z0
      go_wp2_with fail
      refine (risesT_true P2 p2 Bo _ 0 (KB.out _ z1.out) LB (by rw [← T.out.b]; exact rise_bothL ..)).mono ?_
      rintro e W5 ⟨rfl, q, hW⟩
      have z2 : Hid (Below W3.heap.size W3 W5) := by rw [hW]; exact below_drewN z1.out q
      clear hW z1
      go_wp2_with fail
      refine (risesT_true P3 p3 Le _ 0 (KL.out _ z2.out) LL (by rw [← T.out.l]; exact rise_lessL ..)).mono ?_
      rintro e W6 ⟨rfl, q, hW⟩
      have z3 : Hid (Below W3.heap.size W3 W6) := by rw [hW]; exact below_drewN z2.out q
      clear hW z2
      go_wp2_with fail
      refine (mergeT_any B A d c ys xs _ (KY.out _ z3.out) (KX.out _ z3.out) (by omega) (by omega)).mono ?_
      rw [show sset (ys ++ xs) = M by rw [merge_comm]; exact T.out.m]
      rintro e V1 ⟨Q1, q1, rfl, _, _, s, _, cc⟩
      have y1 : Hid (Below W3.heap.size W3 V1) := below_up z3.out cc
      have S1 := Lib.hid s
      clear s cc z3
      go_wp2_with fail
      refine (sameT_true P1 Q1 p1 q1 M _ _ _ (KM.out _ y1.out) S1.out LM).mono ?_
      rintro e X1 ⟨rfl, q, hW⟩
      have x1 : Hid (Below W3.heap.size W3 X1) := by rw [hW]; exact below_drewN y1.out q
      clear hW y1 S1
      go_wp2_with fail
      refine (bothT_any B A d c ys xs _ (KY.out _ x1.out) (KX.out _ x1.out) (by omega) (by omega)).mono ?_
      rw [show ((sset ys).filter fun x => decide (x ∈ sset xs)) = Bo from (bothT_def ys xs).trans ((bothL_comm xs ys).trans T.out.b)]
      rintro e V2 ⟨Q2, q2, rfl, _, _, s, _, cc⟩
      have y2 : Hid (Below W3.heap.size W3 V2) := below_up x1.out cc
      have S2 := Lib.hid s
      clear s cc x1
      go_wp2_with fail
      refine (sameT_true P2 Q2 p2 q2 Bo _ _ _ (KB.out _ y2.out) S2.out LB).mono ?_
      rintro e X2 ⟨rfl, q, hW⟩
      have x2 : Hid (Below W3.heap.size W3 X2) := by rw [hW]; exact below_drewN y2.out q
      clear hW y2 S2
      go_wp2_with fail
      refine (mergeT_any P3 B p3 d Le ys _ (KL.out _ x2.out) (KY.out _ x2.out) (by omega) (by omega)).mono ?_
      rw [show sset (Le ++ ys) = M by rw [← T.out.l, merge_less]; exact T.out.m]
      rintro e V3 ⟨Q3, q3, rfl, _, _, s, _, cc⟩
      have y3 : Hid (Below W3.heap.size W3 V3) := below_up x2.out cc
      have S3 := Lib.hid s
      clear s cc x2
      go_wp2_with fail
      refine (sameT_true P1 Q3 p1 q3 M _ _ _ (KM.out _ y3.out) S3.out LM).mono ?_
      rintro e X3 ⟨rfl, q, hW⟩
      have x3 : Hid (Below W3.heap.size W3 X3) := by rw [hW]; exact below_drewN y3.out q
      clear hW y3 S3
      go_wp2_with fail
      refine (lessT_any A P3 c p3 xs Le _ (KX.out _ x3.out) (KL.out _ x3.out) (by omega) (by omega)).mono ?_
      rw [show ((sset xs).filter fun x => !decide (x ∈ sset Le)) = Bo by rw [lessT_def, ← T.out.l]; exact (less_less xs ys).trans T.out.b]
      rintro e V4 ⟨Q4, q4, rfl, _, _, s, _, cc⟩
      have y4 : Hid (Below W3.heap.size W3 V4) := below_up x3.out cc
      have S4 := Lib.hid s
      clear s cc x3
      go_wp2_with fail
      refine (sameT_true P2 Q4 p2 q4 Bo _ _ _ (KB.out _ y4.out) S4.out LB).mono ?_
      rintro e X4 ⟨rfl, q, hW⟩
      have x4 : Hid (Below W3.heap.size W3 X4) := by rw [hW]; exact below_drewN y4.out q
      clear hW y4 S4
      have LS : (sset xs).length ≤ 1000000 := by have := sset_len xs; omega
      go_wp2_with fail
      refine (setT_any A c xs _ 0 (KX.out _ x4.out) (by omega)).mono ?_
      rintro e V5 ⟨Q5, q5, rfl, _, _, s, _, cc⟩
      have y5 : Hid (Below W3.heap.size W3 V5) := below_up x4.out cc
      have S5 := Lib.hid s
      clear s cc x4
      go_wp2_with fail
      refine (mergeT_any P2 P3 p2 p3 Bo Le _ (KB.out _ y5.out) (KL.out _ y5.out) (by omega) (by omega)).mono ?_
      rw [show sset (Bo ++ Le) = sset xs by rw [← T.out.l, ← T.out.b]; exact merge_parts xs ys]
      rintro e V6 ⟨Q6, q6, rfl, _, _, s, _, cc⟩
      have y6 : Hid (Below W3.heap.size W3 V6) := below_up y5.out cc
      have S6 := Lib.hid s
      have S5' := Lib.hid (S5.out.below cc (Nat.le_refl _))
      clear s cc y5 S5
      go_wp2_with fail
      refine (sameT_true Q5 Q6 q5 q6 (sset xs) _ _ _ S5'.out S6.out LS).mono ?_
      rintro e X6 ⟨rfl, q, hW⟩
      have x6 : Hid (Below W3.heap.size W3 X6) := by rw [hW]; exact below_drewN y6.out q
      clear hW y6 S5' S6 LS
      go_wp2_with fail
      have hl1 : xs.length ≤ 1000000 := by omega
      have hl2 : ys.length ≤ 1000000 := by omega
      have F1 : Hid (∀ W, Below W3.heap.size W3 W → ∀ k, k < xs.length → Calls Try.prog 44 #[.slice P1 M.length p1, .string (bys xs[k]!)] W fun e w' => e = .returned (.bool true) ∧ w' = W) := fun W h k hk => by
        have := hasT_any P1 p1 M xs[k]! W 0 (KM.out W h) LM
        rwa [show decide (xs[k]! ∈ M) = true by
          rw [decide_eq_true_eq, ← T.out.m, mem_sset, List.mem_append, getElem!_pos xs k hk]; exact .inl (List.getElem_mem hk)] at this
      have F2 : Hid (∀ W, Below W3.heap.size W3 W → ∀ k, k < xs.length → Calls Try.prog 44 #[.slice P3 Le.length p3, .string (bys xs[k]!)] W fun e w' => e = .returned (.bool (!decide (xs[k]! ∈ ys))) ∧ w' = W) := fun W h k hk => by
        have := hasT_any P3 p3 Le xs[k]! W 0 (KL.out W h) LL
        rwa [show decide (xs[k]! ∈ Le) = !decide (xs[k]! ∈ ys) by
          rw [Bool.eq_iff_iff, decide_eq_true_eq, ← T.out.l, mem_lessL, getElem!_pos xs k hk]
          simp] at this
      have F3 : Hid (∀ W, Below W3.heap.size W3 W → ∀ k : Nat, Calls Try.prog 44 #[.slice B ys.length d, .string (bys xs[k]!)] W fun e w' => e = .returned (.bool (decide (xs[k]! ∈ ys))) ∧ w' = W) := fun W h k =>
        hasT_any B d ys xs[k]! W 0 (KY.out W h) hl2
      have F4 : Hid (∀ k, k < xs.length → (decide (x ∈ xs.take (k + 1)) = (decide (x ∈ xs.take k) || (bys xs[k]!).toList == (bys x).toList))) := fun k hk => by
        rw [Bool.eq_iff_iff, toList_bys, toList_bys, List.take_succ_eq_append_getElem hk, getElem!_pos xs k hk]
        simp only [decide_eq_true_eq, List.mem_append, List.mem_singleton, Bool.or_eq_true, beq_iff_eq]
        rw [show (xs[k] = x) ↔ (x = xs[k]) from eq_comm]
      have F5 : Hid (∀ W, Below W3.heap.size W3 W → Calls Try.prog 44 #[.slice A xs.length c, .string (bys x)] W fun e w' => e = .returned (.bool (decide (x ∈ xs))) ∧ w' = W) := fun W h =>
        hasT_any A c xs x W 0 (KX.out W h) hl1
      have F6 : Hid (decide (x ∈ xs.take xs.length) = decide (x ∈ xs)) := by rw [List.take_length]; exact rfl
      have F7 : Hid (decide (x ∈ xs.take 0) = false) := by show _ = _; simp
      generalize bys x = X at *
      generalize hR : (fun k => decide (x ∈ xs.take k)) = R at *
      have G4 : Hid (∀ k, k < xs.length → R (k + 1) = (R k || (bys xs[k]!).toList == X.toList)) := fun k hk => by have := F4.out k hk; rw [← hR]; exact this
      have G6 : Hid (R xs.length = decide (x ∈ xs)) := by have := F6.out; rw [← hR]; exact this
      have G7 : Hid (R 0 = false) := by have := F7.out; rw [← hR]; exact this
      clear F4 F6 F7 hR
      generalize decide (x ∈ xs) = rin at *
      generalize hN : xs.length = n at *
      have HN := Lib.hid hN
      clear hN
      go_loopw [10, 11] (fun r i wr => ∃ k : Nat, k ≤ n ∧ i = .int .i64 k ∧ r = .bool (R k) ∧ ∃ q, wr = X6.drewN q) (fun _ i _ => n - (intOf i).toNat)
      case atStart => exact ⟨0, Nat.zero_le _, rfl, by rw [G7.out], 0, rfl⟩
      case round =>
        obtain ⟨k, hk, rfl, rfl, q, rfl⟩ := hrel
        have zq : Hid (Below W3.heap.size W3 (X6.drewN q)) := below_drewN x6.out q
        by_cases hlt : k < n
        · obtain ⟨b, off, hA, hbw, hcell0⟩ := (KX.out _ zq.out).at_ (k := k) (by rw [HN.out]; exact hlt)
          have hcell : X6.cell? ⟨b, off + k, none⟩ = some (.string (bys xs[k]!)) := hcell0
          clear hcell0
          have f1 := Lib.hid (fun W h => F1.out W h k hlt)
          have f2 := Lib.hid (fun W h => F2.out W h k hlt)
          have f3 := Lib.hid (fun W h => F3.out W h k)
          have g4 := G4.out k hlt
          generalize decide (xs[k]! ∈ ys) = dy at *
          generalize bys xs[k]! = Y at *
          have e2 : ((!dy) == dy) = false := by cases dy <;> rfl
          subst hA
          have i1 : (k : Int) < (n : Int) := by omega
          have hcq : (X6.drewN q).cell? ⟨b, off + k, none⟩ = some (.string Y) := hcell
          clear hcell
          generalize hWq : X6.drewN q = W at *
          have HWq := Lib.hid hWq
          clear hWq
          have Q1 : Hid (∀ n, Calls Try.prog 44 #[.slice P1 M.length p1, .string Y] (W.drewN n) fun e w' => e = .returned (.bool true) ∧ ∃ m, w' = W.drewN m) := fun n => Calls.quiet_of_same (f1.out (W.drewN n) (below_drewN zq.out n))
          have Q2 : Hid (∀ n, Calls Try.prog 44 #[.slice P3 Le.length p3, .string Y] (W.drewN n) fun e w' => e = .returned (.bool (!dy)) ∧ ∃ m, w' = W.drewN m) := fun n => Calls.quiet_of_same (f2.out (W.drewN n) (below_drewN zq.out n))
          have Q3 : Hid (∀ n, Calls Try.prog 44 #[.slice B ys.length d, .string Y] (W.drewN n) fun e w' => e = .returned (.bool dy) ∧ ∃ m, w' = W.drewN m) := fun n => Calls.quiet_of_same (f3.out (W.drewN n) (below_drewN zq.out n))
          by_cases hr : R k = true
          · have hr' : R (k + 1) = true := by rw [g4, hr]; rfl
            clear g4
            rw [hr]
            go_wp2_with fail
            go_quiet ((first | (go_at_call 44; first | exact Q1.out _ | exact Q2.out _ | exact Q3.out _)))
            go_wp2
            go_roundw
            case rel => exact ⟨k + 1, by omega, by go_num, by rw [hr'], q + nq, by rw [← HWq.out, World.drewN_drewN]⟩
            case measure => simp [intOf]; omega
          · have hr0 : R k = false := by simpa using hr
            have hr' : R (k + 1) = (Y.toList == X.toList) := by rw [g4, hr0]; rfl
            clear g4 hr
            rw [hr0]
            go_wp2_with fail
            go_quiet ((first | (go_at_call 44; first | exact Q1.out _ | exact Q2.out _ | exact Q3.out _)))
            go_wp2
            go_roundw
            case rel => exact ⟨k + 1, by omega, by go_num, by rw [hr'], q + nq, by rw [← HWq.out, World.drewN_drewN]⟩
            case measure => simp [intOf]; omega
        · obtain rfl : k = n := by omega
          rw [G6.out]
          have F5' : Hid (∀ W, Below W3.heap.size W3 W → Calls Try.prog 44 #[.slice A k c, .string X] W fun e w' => e = .returned (.bool rin) ∧ w' = W) := F5.out
          clear F1 F2 F3 F5 G4 G6 G7
          generalize X6.drewN q = W at *
          have hWM := KM.out W zq.out
          have hWX := KX.out W zq.out
          have hWY := KY.out W zq.out
          have hl1' : xs.length ≤ 1000000 := by rw [HN.out]; exact hl1
          have L1 : Hid (∀ j, j < M.length → Calls Try.prog 44 #[.slice A k c, .string (bys M[j]!)] W fun e w' => e = .returned (.bool (decide (M[j]! ∈ xs))) ∧ w' = W) := fun j hj => by
            have := hasT_any A c xs M[j]! W 0 hWX hl1'
            rwa [HN.out] at this
          have L2 : Hid (∀ j, j < M.length → Calls Try.prog 44 #[.slice B ys.length d, .string (bys M[j]!)] W fun e w' => e = .returned (.bool (decide (M[j]! ∈ ys))) ∧ w' = W) := fun j hj =>
            hasT_any B d ys M[j]! W 0 hWY hl2
          have L3 : Hid (∀ j, j < M.length → decide (M[j]! ∈ xs) = false → decide (M[j]! ∈ ys) = true) := fun j hj h => by
            have : M[j]! ∈ M := by rw [getElem!_pos M j hj]; exact List.getElem_mem hj
            rw [← T.out.m, mem_sset, List.mem_append, T.out.m] at this
            rw [decide_eq_false_iff_not] at h
            rw [decide_eq_true_eq]
            exact this.resolve_left h
          have L4 : Hid (0 < M.length → minT M = bys M[0]!) := fun h => minT_rise M (by rw [← T.out.m]; exact sset_rise _) h
          have L5 : Hid (M.length = 0 ↔ k + ys.length = 0) := by
            show _ ↔ _
            rw [← HN.out, List.length_eq_zero_iff, ← List.length_append, List.length_eq_zero_iff, ← T.out.m]
            constructor
            · intro h
              rcases hh : xs ++ ys with _ | ⟨z, t⟩
              · rfl
              · exact absurd (mem_sset.2 (show z ∈ xs ++ ys by rw [hh]; simp)) (by rw [h]; simp)
            · intro h; rw [h, sset_nil]
          have L6 : Hid ((cmpL xs ys = -1 ∧ cmpL ys xs = 1 ∧ decide (xs = ys) = false) ∨ (cmpL xs ys = 0 ∧ cmpL ys xs = 0 ∧ decide (xs = ys) = true) ∨ (cmpL xs ys = 1 ∧ cmpL ys xs = -1 ∧ decide (xs = ys) = false)) := by
            have h1 := cmpL_anti xs ys
            have h2 := cmpL_zero (a := xs) (b := ys)
            rcases cmpL_cases xs ys with h | h | h
            · exact .inl ⟨h, by rw [h1, h]; rfl, by rw [decide_eq_false_iff_not, ← h2, h]; decide⟩
            · exact .inr (.inl ⟨h, by rw [h1, h]; rfl, by rw [decide_eq_true_eq, ← h2, h]⟩)
            · exact .inr (.inr ⟨h, by rw [h1, h], by rw [decide_eq_false_iff_not, ← h2, h]; decide⟩)
          have C1 : Hid (Calls Try.prog 45 #[.slice A k c, .slice B ys.length d] W fun e w' => e = .returned (.int .i64 (cmpL xs ys)) ∧ w' = W) := by
            have := orderCompareT_any A B c d xs ys W 0 0 hWX hWY hl1' hl2
            rwa [HN.out] at this
          have C2 : Hid (Calls Try.prog 45 #[.slice B ys.length d, .slice A k c] W fun e w' => e = .returned (.int .i64 (cmpL ys xs)) ∧ w' = W) := by
            have := orderCompareT_any B A d c ys xs W 0 0 hWY hWX hl2 hl1'
            rwa [HN.out] at this
          have C3 : Hid (Calls Try.prog 42 #[.slice A k c, .slice B ys.length d] W fun e w' => e = .returned (.bool (decide (xs = ys))) ∧ ∃ q, w' = W.drewN q) := by
            have := sameT_any A B c d xs ys W 0 0 hWX hWY hl1' hl2
            rwa [HN.out] at this
          have C4 : Hid (Calls Try.prog 46 #[.slice P1 M.length p1] W fun e w' => e = .returned (.tuple #[.string (minT M), .bool (decide (0 < M.length))]) ∧ w' = W) := leastT_any P1 p1 M W 0 hWM LM
          have C5 : Hid (Calls Try.prog 44 #[.slice A k c, .string X] W fun e w' => e = .returned (.bool rin) ∧ w' = W) := F5'.out W zq.out
          have HM := Lib.hid hWM
          clear F5' KM KB KL KX KY hWM hWX hWY
          go_wp2_with fail
          go_loop [12] (fun i => ∃ j : Nat, j ≤ M.length ∧ i = .int .i64 j) (fun i => M.length - (intOf i).toNat)
          case atStart => exact ⟨0, Nat.zero_le _, rfl⟩
          case round =>
            obtain ⟨j, hj, rfl⟩ := hrel
            by_cases hlt2 : j < M.length
            · obtain ⟨b, off, hP, hbw, hcell0⟩ := HM.out.at_ (k := j) hlt2
              have hcell : W.cell? ⟨b, off + j, none⟩ = some (.string (bys M[j]!)) := hcell0
              have l1 := Lib.hid (L1.out j hlt2)
              have l2 := Lib.hid (L2.out j hlt2)
              have l3 := L3.out j hlt2
              clear hcell0
              subst hP
              have i1 : (j : Int) < (M.length : Int) := by omega
              generalize bys M[j]! = Y at *
              by_cases hd : decide (M[j]! ∈ xs) = true
              · rw [hd] at l1
                clear l3 l2 hd
                go_wp2_with (go_at_call 44; refine l1.out.mono ?_; rintro e w' ⟨rfl, rfl⟩)
                go_round
                case rel => exact ⟨j + 1, by omega, by go_num⟩
                case measure => simp [intOf]; omega
              · have hd' : decide (M[j]! ∈ xs) = false := by simpa using hd
                rw [hd'] at l1
                rw [l3 hd'] at l2
                clear l3 hd hd'
                go_wp2_with (go_at_call 44; first | (refine l1.out.mono ?_; rintro e w' ⟨rfl, rfl⟩) | (refine l2.out.mono ?_; rintro e w' ⟨rfl, rfl⟩))
                go_round
                case rel => exact ⟨j + 1, by omega, by go_num⟩
                case measure => simp [intOf]; omega
            · obtain rfl : j = M.length := by omega
              clear L1 L2 L3
              have A1 : Hid (∀ W' : World, (∃ q, W' = W.drewN q) → Below w.heap.size w W') := fun W' ⟨q, h⟩ => by rw [h]; exact below_drewN (below_up B3.out zq.out) q
              have hbool : ∀ b : Bool, (b == b) = true := fun b => by cases b <;> rfl
              have hrr : (rin == rin) = true := hbool rin
              by_cases hM0 : M.length = 0
              · have hs0 : k + ys.length = 0 := L5.out.1 hM0
                have hp : decide (0 < M.length) = false := decide_eq_false (by omega)
                have hp2 : decide ((k : Int) + (ys.length : Int) > 0) = false := by simp; omega
                rw [hp] at C4
                generalize minT M = Y at *
                rcases L6.out with ⟨e1, e2, e3⟩ | ⟨e1, e2, e3⟩ | ⟨e1, e2, e3⟩
                all_goals
                  rw [e1] at C1
                  rw [e2] at C2
                  rw [e3] at C3
                  clear e1 e2 e3 hp hM0 hs0 L6 L4 L5
                  go_wp2_with fail
                  refine C1.out.mono ?_
                  rintro e w' ⟨rfl, rfl⟩
                  go_wp2_with fail
                  refine C4.out.mono ?_
                  rintro e w' ⟨rfl, rfl⟩
                  go_wp2_with fail
                  refine C5.out.mono ?_
                  rintro e w' ⟨rfl, rfl⟩
                  go_wp2_with fail
                  refine C2.out.mono ?_
                  rintro e w' ⟨rfl, rfl⟩
                  go_wp2_with fail
                  refine C3.out.mono ?_
                  rintro e w' ⟨rfl, hq⟩
                  have A2 := Lib.hid (A1.out _ hq)
                  clear hq A1
                  go_wp2_with fail
                  refine (awake3_any _).mono ?_
                  rintro e w'' ⟨rfl, hb7⟩
                  go_wp2
                  go_ret
                  exact ⟨rfl, below_up A2.out hb7⟩
              · have hs0 : ¬ (k + ys.length = 0) := fun h => hM0 (L5.out.2 h)
                have hp : decide (0 < M.length) = true := decide_eq_true (by omega)
                have hp2 : decide ((k : Int) + (ys.length : Int) > 0) = true := by simp; omega
                obtain ⟨b, off, hP, hbw, hcell0⟩ := HM.out.at_ (k := 0) (by omega)
                have hcell : W.cell? ⟨b, off, none⟩ = some (.string (bys M[0]!)) := hcell0
                have i1 : (0 : Int) < (M.length : Int) := by omega
                have l4 := L4.out (by omega)
                clear hcell0
                subst hP
                rw [l4, hp] at C4
                generalize bys M[0]! = Y at *
                rcases L6.out with ⟨e1, e2, e3⟩ | ⟨e1, e2, e3⟩ | ⟨e1, e2, e3⟩
                all_goals
                  rw [e1] at C1
                  rw [e2] at C2
                  rw [e3] at C3
                  clear e1 e2 e3 l4 hp hM0 hs0 L6 L4 L5
                  go_wp2_with fail
                  refine C1.out.mono ?_
                  rintro e w' ⟨rfl, rfl⟩
                  go_wp2_with fail
                  refine C4.out.mono ?_
                  rintro e w' ⟨rfl, rfl⟩
                  go_wp2_with fail
                  refine C5.out.mono ?_
                  rintro e w' ⟨rfl, rfl⟩
                  go_wp2_with fail
                  refine C2.out.mono ?_
                  rintro e w' ⟨rfl, rfl⟩
                  go_wp2_with fail
                  refine C3.out.mono ?_
                  rintro e w' ⟨rfl, hq⟩
                  have A2 := Lib.hid (A1.out _ hq)
                  obtain ⟨qq, hq⟩ := hq
                  have hcell' : w'.cell? ⟨b, off, none⟩ = some (.string Y) := by rw [hq]; exact hcell
                  clear hq hcell A1
                  go_wp2_with fail
                  refine (awake3_any _).mono ?_
                  rintro e w'' ⟨rfl, hb7⟩
                  go_wp2
                  go_ret
                  exact ⟨rfl, below_up A2.out hb7⟩
    · have g2 : decide ((ys.length : Int) > 60) = true := by simp; omega
      go_enter Try.func7, Try.ntmps7
      go_wp2_with (go_at_call 18; refine (awake3_any _).mono ?_; rintro e w5 ⟨rfl, hb5⟩)
      go_ret
      exact ⟨rfl, hb5⟩
  · have g1 : decide ((xs.length : Int) > 60) = true := by simp; omega
    go_enter Try.func7, Try.ntmps7
    go_wp2_with (go_at_call 18; refine (awake3_any _).mono ?_; rintro e w5 ⟨rfl, hb5⟩)
    go_ret
    exact ⟨rfl, hb5⟩
end Go.Proofs.Ytojecaeblgghjaa
