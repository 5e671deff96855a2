/-
  carapaceref2.Sign. (Printed by mkrefsign.py.)
-/
import Derived.Test.YtojecaeblgghjaaSignPlain
import Derived.Test.YtojecaeblgghjaaRefFour
import Derived.Test.YtojecaeblgghjaaRefChg
import Derived.Deep.LoopGhost
import Derived.Deep.RegionHeld3
set_option linter.unusedVariables false
set_option linter.unusedSimpArgs false
namespace Go.Proofs.Ytojecaeblgghjaa
open Go.RowKit Go.Sort LsP

theorem cells_4 {w : World} {b : Nat} {a0 a1 a2 a3 : Int} {t : TypeId} (h : w.heap[b]? = some (oI [a0, a1, a2, a3] t)) :
    w.cell? ⟨b, 0, none⟩ = some (.int .i64 a0) ∧ w.cell? ⟨b, 1, none⟩ = some (.int .i64 a1) ∧ w.cell? ⟨b, 2, none⟩ = some (.int .i64 a2) ∧ w.cell? ⟨b, 3, none⟩ = some (.int .i64 a3) := by
  simp [World.cell?, h]

theorem set_fit {A : List Int} {o : Nat} {v : Int} (h : ∀ x ∈ A, FitI x) (hv : FitI v) : ∀ x ∈ A.set o v, FitI x := fun x hx => by
  rcases List.mem_or_eq_of_mem_set hx with h' | rfl
  · exact h x h'
  · exact hv
theorem fit_at {A : List Int} (h : ∀ x ∈ A, FitI x) (o : Nat) : FitI A[o]! := by
  by_cases ho : o < A.length
  · rw [getElem!_pos A o ho]
    exact h _ (List.getElem_mem ho)
  · rw [getElem!_neg A o ho]
    exact ⟨by decide, by decide⟩
theorem rowK_fit {A : List Int} (h : ∀ x ∈ A, FitI x) (r k : Nat) : ∀ x ∈ rowK A r k, FitI x :=
  set_fit (set_fit (set_fit (set_fit h (by split <;> exact ⟨by decide, by decide⟩)) (by split <;> exact ⟨by decide, by decide⟩)) (by split <;> exact ⟨by decide, by decide⟩)) ⟨by decide, by decide⟩
theorem chgK_fit {m r : Nat} {s : List Int × Nat × Nat} (h : ∀ x ∈ s.1, FitI x) : ∀ {k : Nat} {s' : List Int × Nat × Nat}, chgK m r k s = some s' → ∀ x ∈ s'.1, FitI x
  | 0, s', e => by injection e with e; subst e; exact h
  | k + 1, s', e => by
    rw [chgK] at e
    obtain ⟨s1, h1, h2⟩ := Option.bind_eq_some_iff.1 e
    have h3 := chgK_fit h h1
    unfold chg2 at h2
    split at h2
    · split at h2
      · cases h2
      · injection h2 with h2
        subst h2
        exact rowK_fit h3 r k
    · injection h2 with h2
      subst h2
      exact h3
theorem chgR_fit {m : Nat} {A0 : List Int} (h : ∀ x ∈ A0, FitI x) : ∀ {r : Nat} {s : List Int × Nat}, chgR m A0 r = some s → ∀ x ∈ s.1, FitI x
  | 0, s, e => by injection e with e; subst e; exact h
  | r + 1, s, e => by
    rw [chgR] at e
    obtain ⟨s1, h1, h2⟩ := Option.bind_eq_some_iff.1 e
    obtain ⟨s2, h3, h4⟩ := Option.map_eq_some_iff.1 h2
    subst h4
    exact chgK_fit (s := (s1.1, s1.2, 0)) (chgR_fit h h1) h3

set_option maxHeartbeats 16000000 in
set_option maxRecDepth 100000 in
theorem refSign2_any (A : Option Addr) (n c : Nat) (xs : List T3) (x0 x1 x2 x3 : Int) (w : World) (ha : RdT 0 w A xs) (hn : xs.length = n) (hn2 : n ≤ 9223372036854775807)
    (hG : ∀ a, a < 4 → goodP n [x0, x1, x2, x3] a) (hF : ∀ x ∈ [x0, x1, x2, x3], fitT xs[x.toNat]! = true) :
    Calls Try.prog 128 #[.slice A n c, .int .i64 x0, .int .i64 x1, .int .i64 x2, .int .i64 x3] w fun e w' => e = .returned (.int .i64 (signR xs n [x0, x1, x2, x3]).1) ∧ Below w.heap.size w w' := by
  have HA := Lib.hid ha
  have HN := Lib.hid hn
  clear ha hn
  replace hG := Lib.hid hG
  replace hF := Lib.hid hF
  have MB0 := Lib.hid (one_start w (oI [x0, x1, x2, x3] 3))
  go_enter Try.func128, Try.ntmps128
  go_wp2_with fail
  go_loopw [13, 12] (fun i t wx => ∃ (r : Nat) (y0 y1 y2 y3 g : Int), r ≤ 4 ∧ i = .int .i64 r ∧ t = .int .i64 g ∧ Hid (bubR [x0, x1, x2, x3] r = ([y0, y1, y2, y3], g)) ∧ Hid (Mem w [(w.heap.size, oI [y0, y1, y2, y3] 3)] wx)) (fun i _ _ => 4 - (intOf i).toNat)
  case atStart => exact ⟨0, x0, x1, x2, x3, 1, by omega, rfl, rfl, rfl, MB0.out⟩
  case round =>
    obtain ⟨r, y0, y1, y2, y3, g, hr, rfl, rfl, hS, MB⟩ := hrel
    replace hS := Lib.hid hS.out
    replace MB := Lib.hid MB.out
    clear MB0
    by_cases hr3 : r < 4
    · go_wp2_with fail
      go_loopw [14, 12] (fun i t wx => ∃ (k : Nat) (y0 y1 y2 y3 g : Int), k ≤ 3 ∧ i = .int .i64 k ∧ t = .int .i64 g ∧ Hid (bubK k (bubR [x0, x1, x2, x3] r) = ([y0, y1, y2, y3], g)) ∧ Hid (Mem w [(w.heap.size, oI [y0, y1, y2, y3] 3)] wx)) (fun i _ _ => 3 - (intOf i).toNat)
      case atStart => exact ⟨0, y0, y1, y2, y3, g, by omega, rfl, rfl, hS.out, MB.out⟩
      case round =>
        clear MB hS
        obtain ⟨k, y0, y1, y2, y3, g, hk, rfl, rfl, hS, MB⟩ := hrel
        replace hS := Lib.hid hS.out
        replace MB := Lib.hid MB.out
        by_cases hk3 : k < 3
        · have c4 := fun (o : Nat) (ho : o < 4) => cellI MB.out.head (o := o) (by simpa using ho)
          have k0 : wr.cell? ⟨w.heap.size, 0, none⟩ = some (.int .i64 y0) := c4 0 (by omega)
          have k1 : wr.cell? ⟨w.heap.size, 1, none⟩ = some (.int .i64 y1) := c4 1 (by omega)
          have k2 : wr.cell? ⟨w.heap.size, 2, none⟩ = some (.int .i64 y2) := c4 2 (by omega)
          have k3 : wr.cell? ⟨w.heap.size, 3, none⟩ = some (.int .i64 y3) := c4 3 (by omega)
          have f0 := freeI MB.out.head 0
          have f1 := freeI MB.out.head 1
          have f2 := freeI MB.out.head 2
          have f3 := freeI MB.out.head 3
          clear c4
          rcases (by omega : k = 0 ∨ k = 1 ∨ k = 2) with rfl | rfl | rfl
          · by_cases hgt : y0 > y1
            · have e0 : decide (y0 > y1) = true := by simpa using hgt
              have eg : wrap64 (-g) = -g := wrap_neg1 (by have := bubK_sgn (bubR [x0, x1, x2, x3] r) (bubR_sgn [x0, x1, x2, x3] r) 0; rw [hS.out] at this; exact this)
              have hS2 : Hid (bubK 1 (bubR [x0, x1, x2, x3] r) = ([y1, y0, y2, y3], -g)) := Lib.hid (by rw [bubK, hS.out]; simp [bub1, hgt])
              clear hgt
              go_wp2_with fail
              go_quiet (fail)
              replace k0 : (wr.drewN nq).cell? _ = _ := k0
              replace k1 : (wr.drewN nq).cell? _ = _ := k1
              replace k2 : (wr.drewN nq).cell? _ = _ := k2
              replace k3 : (wr.drewN nq).cell? _ = _ := k3
              replace f0 : (wr.drewN nq).frozen? _ = _ := f0
              replace f1 : (wr.drewN nq).frozen? _ = _ := f1
              replace f2 : (wr.drewN nq).frozen? _ = _ := f2
              replace f3 : (wr.drewN nq).frozen? _ = _ := f3
              replace MB := Lib.hid (MB.out.drewN nq)
              generalize wr.drewN nq = W at *
              have hM2 : Hid (Mem w [(w.heap.size, oI [y1, y0, y2, y3] 3)] _) := Lib.hid ((MB.out.setI (fun p hp => by cases hp) (by omega) 0 y1).setI (fun p hp => by cases hp) (by omega) 1 y0)
              go_wp2_with fail
              go_region
              go_wp2_with fail
              go_roundw
              case rel => exact ⟨1, y1, y0, y2, y3, -g, by omega, by go_num, by rw [eg], hS2.out, hM2.out.drew⟩
              case measure => simp [intOf]
            · have e0 : decide (y0 > y1) = false := by simpa using hgt
              have hS2 : Hid (bubK 1 (bubR [x0, x1, x2, x3] r) = ([y0, y1, y2, y3], g)) := Lib.hid (by rw [bubK, hS.out]; simp [bub1, hgt])
              clear hgt
              go_wp2_with fail
              go_quiet (fail)
              replace k0 : (wr.drewN nq).cell? _ = _ := k0
              replace k1 : (wr.drewN nq).cell? _ = _ := k1
              replace k2 : (wr.drewN nq).cell? _ = _ := k2
              replace k3 : (wr.drewN nq).cell? _ = _ := k3
              replace f0 : (wr.drewN nq).frozen? _ = _ := f0
              replace f1 : (wr.drewN nq).frozen? _ = _ := f1
              replace f2 : (wr.drewN nq).frozen? _ = _ := f2
              replace f3 : (wr.drewN nq).frozen? _ = _ := f3
              replace MB := Lib.hid (MB.out.drewN nq)
              generalize wr.drewN nq = W at *
              go_wp2_with fail
              go_roundw
              case rel => exact ⟨1, y0, y1, y2, y3, g, by omega, by go_num, rfl, hS2.out, MB.out⟩
              case measure => simp [intOf]
          · by_cases hgt : y1 > y2
            · have e0 : decide (y1 > y2) = true := by simpa using hgt
              have eg : wrap64 (-g) = -g := wrap_neg1 (by have := bubK_sgn (bubR [x0, x1, x2, x3] r) (bubR_sgn [x0, x1, x2, x3] r) 1; rw [hS.out] at this; exact this)
              have hS2 : Hid (bubK 2 (bubR [x0, x1, x2, x3] r) = ([y0, y2, y1, y3], -g)) := Lib.hid (by rw [bubK, hS.out]; simp [bub1, hgt])
              clear hgt
              go_wp2_with fail
              go_quiet (fail)
              replace k0 : (wr.drewN nq).cell? _ = _ := k0
              replace k1 : (wr.drewN nq).cell? _ = _ := k1
              replace k2 : (wr.drewN nq).cell? _ = _ := k2
              replace k3 : (wr.drewN nq).cell? _ = _ := k3
              replace f0 : (wr.drewN nq).frozen? _ = _ := f0
              replace f1 : (wr.drewN nq).frozen? _ = _ := f1
              replace f2 : (wr.drewN nq).frozen? _ = _ := f2
              replace f3 : (wr.drewN nq).frozen? _ = _ := f3
              replace MB := Lib.hid (MB.out.drewN nq)
              generalize wr.drewN nq = W at *
              have hM2 : Hid (Mem w [(w.heap.size, oI [y0, y2, y1, y3] 3)] _) := Lib.hid ((MB.out.setI (fun p hp => by cases hp) (by omega) 1 y2).setI (fun p hp => by cases hp) (by omega) 2 y1)
              go_wp2_with fail
              go_region
              go_wp2_with fail
              go_roundw
              case rel => exact ⟨2, y0, y2, y1, y3, -g, by omega, by go_num, by rw [eg], hS2.out, hM2.out.drew⟩
              case measure => simp [intOf]
            · have e0 : decide (y1 > y2) = false := by simpa using hgt
              have hS2 : Hid (bubK 2 (bubR [x0, x1, x2, x3] r) = ([y0, y1, y2, y3], g)) := Lib.hid (by rw [bubK, hS.out]; simp [bub1, hgt])
              clear hgt
              go_wp2_with fail
              go_quiet (fail)
              replace k0 : (wr.drewN nq).cell? _ = _ := k0
              replace k1 : (wr.drewN nq).cell? _ = _ := k1
              replace k2 : (wr.drewN nq).cell? _ = _ := k2
              replace k3 : (wr.drewN nq).cell? _ = _ := k3
              replace f0 : (wr.drewN nq).frozen? _ = _ := f0
              replace f1 : (wr.drewN nq).frozen? _ = _ := f1
              replace f2 : (wr.drewN nq).frozen? _ = _ := f2
              replace f3 : (wr.drewN nq).frozen? _ = _ := f3
              replace MB := Lib.hid (MB.out.drewN nq)
              generalize wr.drewN nq = W at *
              go_wp2_with fail
              go_roundw
              case rel => exact ⟨2, y0, y1, y2, y3, g, by omega, by go_num, rfl, hS2.out, MB.out⟩
              case measure => simp [intOf]
          · by_cases hgt : y2 > y3
            · have e0 : decide (y2 > y3) = true := by simpa using hgt
              have eg : wrap64 (-g) = -g := wrap_neg1 (by have := bubK_sgn (bubR [x0, x1, x2, x3] r) (bubR_sgn [x0, x1, x2, x3] r) 2; rw [hS.out] at this; exact this)
              have hS2 : Hid (bubK 3 (bubR [x0, x1, x2, x3] r) = ([y0, y1, y3, y2], -g)) := Lib.hid (by rw [bubK, hS.out]; simp [bub1, hgt])
              clear hgt
              go_wp2_with fail
              go_quiet (fail)
              replace k0 : (wr.drewN nq).cell? _ = _ := k0
              replace k1 : (wr.drewN nq).cell? _ = _ := k1
              replace k2 : (wr.drewN nq).cell? _ = _ := k2
              replace k3 : (wr.drewN nq).cell? _ = _ := k3
              replace f0 : (wr.drewN nq).frozen? _ = _ := f0
              replace f1 : (wr.drewN nq).frozen? _ = _ := f1
              replace f2 : (wr.drewN nq).frozen? _ = _ := f2
              replace f3 : (wr.drewN nq).frozen? _ = _ := f3
              replace MB := Lib.hid (MB.out.drewN nq)
              generalize wr.drewN nq = W at *
              have hM2 : Hid (Mem w [(w.heap.size, oI [y0, y1, y3, y2] 3)] _) := Lib.hid ((MB.out.setI (fun p hp => by cases hp) (by omega) 2 y3).setI (fun p hp => by cases hp) (by omega) 3 y2)
              go_wp2_with fail
              go_region
              go_wp2_with fail
              go_roundw
              case rel => exact ⟨3, y0, y1, y3, y2, -g, by omega, by go_num, by rw [eg], hS2.out, hM2.out.drew⟩
              case measure => simp [intOf]
            · have e0 : decide (y2 > y3) = false := by simpa using hgt
              have hS2 : Hid (bubK 3 (bubR [x0, x1, x2, x3] r) = ([y0, y1, y2, y3], g)) := Lib.hid (by rw [bubK, hS.out]; simp [bub1, hgt])
              clear hgt
              go_wp2_with fail
              go_quiet (fail)
              replace k0 : (wr.drewN nq).cell? _ = _ := k0
              replace k1 : (wr.drewN nq).cell? _ = _ := k1
              replace k2 : (wr.drewN nq).cell? _ = _ := k2
              replace k3 : (wr.drewN nq).cell? _ = _ := k3
              replace f0 : (wr.drewN nq).frozen? _ = _ := f0
              replace f1 : (wr.drewN nq).frozen? _ = _ := f1
              replace f2 : (wr.drewN nq).frozen? _ = _ := f2
              replace f3 : (wr.drewN nq).frozen? _ = _ := f3
              replace MB := Lib.hid (MB.out.drewN nq)
              generalize wr.drewN nq = W at *
              go_wp2_with fail
              go_roundw
              case rel => exact ⟨3, y0, y1, y2, y3, g, by omega, by go_num, rfl, hS2.out, MB.out⟩
              case measure => simp [intOf]
        · obtain rfl : k = 3 := by omega
          go_wp2_with fail
          go_roundw
          case rel => exact ⟨r + 1, y0, y1, y2, y3, g, by omega, by go_num, rfl, hS.out, MB.out⟩
          case measure => simp [intOf]; omega
    · obtain rfl : r = 4 := by omega
      replace hS : Hid (bubR [x0, x1, x2, x3] 3 = ([y0, y1, y2, y3], g)) := Lib.hid ((bub_four x0 x1 x2 x3).symm.trans hS.out)
      have hpm : Hid ([y0, y1, y2, y3].Perm [x0, x1, x2, x3]) := Lib.hid (by have := bubR_perm [x0, x1, x2, x3] rfl 3; rw [hS.out] at this; exact this)
      have hr : Hid (∀ y ∈ [y0, y1, y2, y3], 0 ≤ y ∧ y < (n : Int)) := Lib.hid (signR_mem rfl hG.out hpm.out)
      obtain ⟨m0, rfl⟩ : ∃ m : Nat, y0 = m := ⟨y0.toNat, by have := (hr.out y0 (by simp)).1; omega⟩
      obtain ⟨m1, rfl⟩ : ∃ m : Nat, y1 = m := ⟨y1.toNat, by have := (hr.out y1 (by simp)).1; omega⟩
      obtain ⟨m2, rfl⟩ : ∃ m : Nat, y2 = m := ⟨y2.toNat, by have := (hr.out y2 (by simp)).1; omega⟩
      obtain ⟨m3, rfl⟩ : ∃ m : Nat, y3 = m := ⟨y3.toNat, by have := (hr.out y3 (by simp)).1; omega⟩
      have hm0 : Hid (m0 < xs.length) := Lib.hid (by have := (hr.out (m0 : Int) (by simp)).2; rw [HN.out]; omega)
      have hm1 : Hid (m1 < xs.length) := Lib.hid (by have := (hr.out (m1 : Int) (by simp)).2; rw [HN.out]; omega)
      have hm2 : Hid (m2 < xs.length) := Lib.hid (by have := (hr.out (m2 : Int) (by simp)).2; rw [HN.out]; omega)
      have hm3 : Hid (m3 < xs.length) := Lib.hid (by have := (hr.out (m3 : Int) (by simp)).2; rw [HN.out]; omega)
      clear hr
      obtain ⟨b, off, rfl, _⟩ := HA.out.at3 hm0.out
      have hP := Lib.hid (ptsOf_four xs m0 m1 m2 m3)
      obtain ⟨⟨p0, p1, p2⟩, hT0⟩ : ∃ t, xs[m0]! = t := ⟨_, rfl⟩
      replace hT0 := Lib.hid hT0
      have F0 := Lib.hid (fitT_coords (hF.out (m0 : Int) (hpm.out.subset (by simp))))
      rw [Int.toNat_natCast, hT0.out] at F0
      obtain ⟨⟨p3, p4, p5⟩, hT1⟩ : ∃ t, xs[m1]! = t := ⟨_, rfl⟩
      replace hT1 := Lib.hid hT1
      have F1 := Lib.hid (fitT_coords (hF.out (m1 : Int) (hpm.out.subset (by simp))))
      rw [Int.toNat_natCast, hT1.out] at F1
      obtain ⟨⟨p6, p7, p8⟩, hT2⟩ : ∃ t, xs[m2]! = t := ⟨_, rfl⟩
      replace hT2 := Lib.hid hT2
      have F2 := Lib.hid (fitT_coords (hF.out (m2 : Int) (hpm.out.subset (by simp))))
      rw [Int.toNat_natCast, hT2.out] at F2
      obtain ⟨⟨p9, p10, p11⟩, hT3⟩ : ∃ t, xs[m3]! = t := ⟨_, rfl⟩
      replace hT3 := Lib.hid hT3
      have F3 := Lib.hid (fitT_coords (hF.out (m3 : Int) (hpm.out.subset (by simp))))
      rw [Int.toNat_natCast, hT3.out] at F3
      replace hP := Lib.hid (show ptsOf xs [(m0 : Int), (m1 : Int), (m2 : Int), (m3 : Int)] = [p0, p1, p2, p3, p4, p5, p6, p7, p8, p9, p10, p11] by rw [hP.out, hT0.out, hT1.out, hT2.out, hT3.out])
      have hv : Hid (signR xs n [x0, x1, x2, x3] = (g * maskV [p0, p1, p2, p3, p4, p5, p6, p7, p8, p9, p10, p11] 85 0, 0)) := Lib.hid (by
        rw [signR_fit rfl hG.out hS.out (fun y hy => hF.out y (hpm.out.subset hy)), hP.out, signV_mask p0 p1 p2 p3 p4 p5 p6 p7 p8 p9 p10 p11 F0.out.1 F0.out.2.1 F0.out.2.2 F1.out.1 F1.out.2.1 F1.out.2.2 F2.out.1 F2.out.2.1 F2.out.2.2 F3.out.1 F3.out.2.1 F3.out.2.2])
      have hg : Hid (g = 1 ∨ g = -1) := Lib.hid (by have := bubR_sgn [x0, x1, x2, x3] 3; rw [hS.out] at this; exact this)
      have krow := Lib.hid refRow_any
      go_wp2_with fail
      refine wp_region_held_drew (S := fun w' => Mem w [(w.heap.size, oI [(m0 : Int), (m1 : Int), (m2 : Int), (m3 : Int)] 3)] w') (by kernel_rfl) MB.out.drew (fun hHeld => ?_)
      replace MB := Lib.hid MB.out.drew
      generalize World.drew wr = wd at *
      refine wpAnyH_take (i := 0) (oi := ?o1) (v := ?v1) ?hi1 (by kernel_rfl) (by kernel_rfl) (by kernel_rfl) ?hQ1 ?hy1 (by assumption) ?rest1
      case hi1 => (simp only [List.getElem?_toArray, List.getElem?_cons_succ, List.getElem?_cons_zero]; rfl)
      case hQ1 => exact fun _ _ _ h => h
      case hy1 => (refine Or.inl ⟨by rfl, ?_⟩; intro w' hSw; obtain ⟨k0, k1, k2, k3⟩ := cells_4 hSw.head; go_simp; (try with_reducible rfl))
      try simp only [Act.put, List.setIfInBounds_toArray, List.set_cons_zero, List.set_cons_succ]
      refine wpAnyH_take (i := 1) (oi := ?o2) (v := ?v2) ?hi2 (by kernel_rfl) (by kernel_rfl) (by kernel_rfl) ?hQ2 ?hy2 (by assumption) ?rest2
      case hi2 => (simp only [List.getElem?_toArray, List.getElem?_cons_succ, List.getElem?_cons_zero]; rfl)
      case hQ2 => exact fun _ _ _ h => h
      case hy2 => (refine Or.inl ⟨by rfl, ?_⟩; intro w' hSw; obtain ⟨k0, k1, k2, k3⟩ := cells_4 hSw.head; go_simp; (try with_reducible rfl))
      try simp only [Act.put, List.setIfInBounds_toArray, List.set_cons_zero, List.set_cons_succ]
      refine wpAnyH_take (i := 2) (oi := ?o3) (v := ?v3) ?hi3 (by kernel_rfl) (by kernel_rfl) (by kernel_rfl) ?hQ3 ?hy3 (by assumption) ?rest3
      case hi3 => (simp only [List.getElem?_toArray, List.getElem?_cons_succ, List.getElem?_cons_zero]; rfl)
      case hQ3 => exact fun _ _ _ h => h
      case hy3 => (refine Or.inl ⟨by rfl, ?_⟩; intro w' hSw; obtain ⟨k0, k1, k2, k3⟩ := cells_4 hSw.head; go_simp; (try with_reducible rfl))
      try simp only [Act.put, List.setIfInBounds_toArray, List.set_cons_zero, List.set_cons_succ]
      refine wpAnyH_take (i := 3) (oi := ?o4) (v := ?v4) ?hi4 (by kernel_rfl) (by kernel_rfl) (by kernel_rfl) ?hQ4 ?hy4 (by assumption) ?rest4
      case hi4 => (simp only [List.getElem?_toArray, List.getElem?_cons_succ, List.getElem?_cons_zero]; rfl)
      case hQ4 => exact fun _ _ _ h => h
      case hy4 => (refine Or.inl ⟨by rfl, ?_⟩; intro w' hSw; obtain ⟨k0, k1, k2, k3⟩ := cells_4 hSw.head; go_simp; (try with_reducible rfl))
      try simp only [Act.put, List.setIfInBounds_toArray, List.set_cons_zero, List.set_cons_succ]
      refine wpAnyH_take (i := 4) (oi := ?o5) (v := ?v5) ?hi5 (by kernel_rfl) (by kernel_rfl) (by kernel_rfl) ?hQ5 ?hy5 (by assumption) ?rest5
      case hi5 => (simp only [List.getElem?_toArray, List.getElem?_cons_succ, List.getElem?_cons_zero]; rfl)
      case hQ5 => exact fun _ _ _ h => h
      case hy5 => (refine Or.inl ⟨by rfl, ?_⟩; intro w' hSw; obtain ⟨q0, q1, q2⟩ := tri_cells (HA.out.below hSw.below (Nat.le_refl _)) hm0.out; rw [hT0.out] at q0 q1 q2; simp only at q0 q1 q2; have hmn : ((m0 : Int)) < n := (by have := hm0.out; rw [HN.out] at this; omega); go_simp; (try with_reducible rfl))
      try simp only [Act.put, List.setIfInBounds_toArray, List.set_cons_zero, List.set_cons_succ]
      refine wpAnyH_take (i := 5) (oi := ?o6) (v := ?v6) ?hi6 (by kernel_rfl) (by kernel_rfl) (by kernel_rfl) ?hQ6 ?hy6 (by assumption) ?rest6
      case hi6 => (simp only [List.getElem?_toArray, List.getElem?_cons_succ, List.getElem?_cons_zero]; rfl)
      case hQ6 => exact fun _ _ _ h => h
      case hy6 => (refine Or.inl ⟨by rfl, ?_⟩; intro w' hSw; obtain ⟨q0, q1, q2⟩ := tri_cells (HA.out.below hSw.below (Nat.le_refl _)) hm0.out; rw [hT0.out] at q0 q1 q2; simp only at q0 q1 q2; have hmn : ((m0 : Int)) < n := (by have := hm0.out; rw [HN.out] at this; omega); go_simp; (try with_reducible rfl))
      try simp only [Act.put, List.setIfInBounds_toArray, List.set_cons_zero, List.set_cons_succ]
      refine wpAnyH_take (i := 7) (oi := ?o7) (v := ?v7) ?hi7 (by kernel_rfl) (by kernel_rfl) (by kernel_rfl) ?hQ7 ?hy7 (by assumption) ?rest7
      case hi7 => (simp only [List.getElem?_toArray, List.getElem?_cons_succ, List.getElem?_cons_zero]; rfl)
      case hQ7 => exact fun _ _ _ h => h
      case hy7 => (refine Or.inl ⟨by rfl, ?_⟩; intro w' hSw; obtain ⟨k0, k1, k2, k3⟩ := cells_4 hSw.head; go_simp; (try with_reducible rfl))
      try simp only [Act.put, List.setIfInBounds_toArray, List.set_cons_zero, List.set_cons_succ]
      refine wpAnyH_take (i := 8) (oi := ?o8) (v := ?v8) ?hi8 (by kernel_rfl) (by kernel_rfl) (by kernel_rfl) ?hQ8 ?hy8 (by assumption) ?rest8
      case hi8 => (simp only [List.getElem?_toArray, List.getElem?_cons_succ, List.getElem?_cons_zero]; rfl)
      case hQ8 => exact fun _ _ _ h => h
      case hy8 => (refine Or.inl ⟨by rfl, ?_⟩; intro w' hSw; obtain ⟨k0, k1, k2, k3⟩ := cells_4 hSw.head; go_simp; (try with_reducible rfl))
      try simp only [Act.put, List.setIfInBounds_toArray, List.set_cons_zero, List.set_cons_succ]
      refine wpAnyH_take (i := 9) (oi := ?o9) (v := ?v9) ?hi9 (by kernel_rfl) (by kernel_rfl) (by kernel_rfl) ?hQ9 ?hy9 (by assumption) ?rest9
      case hi9 => (simp only [List.getElem?_toArray, List.getElem?_cons_succ, List.getElem?_cons_zero]; rfl)
      case hQ9 => exact fun _ _ _ h => h
      case hy9 => (refine Or.inl ⟨by rfl, ?_⟩; intro w' hSw; obtain ⟨k0, k1, k2, k3⟩ := cells_4 hSw.head; go_simp; (try with_reducible rfl))
      try simp only [Act.put, List.setIfInBounds_toArray, List.set_cons_zero, List.set_cons_succ]
      refine wpAnyH_take (i := 10) (oi := ?o10) (v := ?v10) ?hi10 (by kernel_rfl) (by kernel_rfl) (by kernel_rfl) ?hQ10 ?hy10 (by assumption) ?rest10
      case hi10 => (simp only [List.getElem?_toArray, List.getElem?_cons_succ, List.getElem?_cons_zero]; rfl)
      case hQ10 => exact fun _ _ _ h => h
      case hy10 => (refine Or.inl ⟨by rfl, ?_⟩; intro w' hSw; obtain ⟨k0, k1, k2, k3⟩ := cells_4 hSw.head; go_simp; (try with_reducible rfl))
      try simp only [Act.put, List.setIfInBounds_toArray, List.set_cons_zero, List.set_cons_succ]
      refine wpAnyH_take (i := 11) (oi := ?o11) (v := ?v11) ?hi11 (by kernel_rfl) (by kernel_rfl) (by kernel_rfl) ?hQ11 ?hy11 (by assumption) ?rest11
      case hi11 => (simp only [List.getElem?_toArray, List.getElem?_cons_succ, List.getElem?_cons_zero]; rfl)
      case hQ11 => exact fun _ _ _ h => h
      case hy11 => (refine Or.inl ⟨by rfl, ?_⟩; intro w' hSw; obtain ⟨q0, q1, q2⟩ := tri_cells (HA.out.below hSw.below (Nat.le_refl _)) hm1.out; rw [hT1.out] at q0 q1 q2; simp only at q0 q1 q2; have hmn : ((m1 : Int)) < n := (by have := hm1.out; rw [HN.out] at this; omega); go_simp; (try with_reducible rfl))
      try simp only [Act.put, List.setIfInBounds_toArray, List.set_cons_zero, List.set_cons_succ]
      refine wpAnyH_take (i := 12) (oi := ?o12) (v := ?v12) ?hi12 (by kernel_rfl) (by kernel_rfl) (by kernel_rfl) ?hQ12 ?hy12 (by assumption) ?rest12
      case hi12 => (simp only [List.getElem?_toArray, List.getElem?_cons_succ, List.getElem?_cons_zero]; rfl)
      case hQ12 => exact fun _ _ _ h => h
      case hy12 => (refine Or.inl ⟨by rfl, ?_⟩; intro w' hSw; obtain ⟨q0, q1, q2⟩ := tri_cells (HA.out.below hSw.below (Nat.le_refl _)) hm1.out; rw [hT1.out] at q0 q1 q2; simp only at q0 q1 q2; have hmn : ((m1 : Int)) < n := (by have := hm1.out; rw [HN.out] at this; omega); go_simp; (try with_reducible rfl))
      try simp only [Act.put, List.setIfInBounds_toArray, List.set_cons_zero, List.set_cons_succ]
      refine wpAnyH_take (i := 14) (oi := ?o13) (v := ?v13) ?hi13 (by kernel_rfl) (by kernel_rfl) (by kernel_rfl) ?hQ13 ?hy13 (by assumption) ?rest13
      case hi13 => (simp only [List.getElem?_toArray, List.getElem?_cons_succ, List.getElem?_cons_zero]; rfl)
      case hQ13 => exact fun _ _ _ h => h
      case hy13 => (refine Or.inl ⟨by rfl, ?_⟩; intro w' hSw; obtain ⟨k0, k1, k2, k3⟩ := cells_4 hSw.head; go_simp; (try with_reducible rfl))
      try simp only [Act.put, List.setIfInBounds_toArray, List.set_cons_zero, List.set_cons_succ]
      refine wpAnyH_take (i := 15) (oi := ?o14) (v := ?v14) ?hi14 (by kernel_rfl) (by kernel_rfl) (by kernel_rfl) ?hQ14 ?hy14 (by assumption) ?rest14
      case hi14 => (simp only [List.getElem?_toArray, List.getElem?_cons_succ, List.getElem?_cons_zero]; rfl)
      case hQ14 => exact fun _ _ _ h => h
      case hy14 => (refine Or.inl ⟨by rfl, ?_⟩; intro w' hSw; obtain ⟨k0, k1, k2, k3⟩ := cells_4 hSw.head; go_simp; (try with_reducible rfl))
      try simp only [Act.put, List.setIfInBounds_toArray, List.set_cons_zero, List.set_cons_succ]
      refine wpAnyH_take (i := 16) (oi := ?o15) (v := ?v15) ?hi15 (by kernel_rfl) (by kernel_rfl) (by kernel_rfl) ?hQ15 ?hy15 (by assumption) ?rest15
      case hi15 => (simp only [List.getElem?_toArray, List.getElem?_cons_succ, List.getElem?_cons_zero]; rfl)
      case hQ15 => exact fun _ _ _ h => h
      case hy15 => (refine Or.inl ⟨by rfl, ?_⟩; intro w' hSw; obtain ⟨k0, k1, k2, k3⟩ := cells_4 hSw.head; go_simp; (try with_reducible rfl))
      try simp only [Act.put, List.setIfInBounds_toArray, List.set_cons_zero, List.set_cons_succ]
      refine wpAnyH_take (i := 17) (oi := ?o16) (v := ?v16) ?hi16 (by kernel_rfl) (by kernel_rfl) (by kernel_rfl) ?hQ16 ?hy16 (by assumption) ?rest16
      case hi16 => (simp only [List.getElem?_toArray, List.getElem?_cons_succ, List.getElem?_cons_zero]; rfl)
      case hQ16 => exact fun _ _ _ h => h
      case hy16 => (refine Or.inl ⟨by rfl, ?_⟩; intro w' hSw; obtain ⟨k0, k1, k2, k3⟩ := cells_4 hSw.head; go_simp; (try with_reducible rfl))
      try simp only [Act.put, List.setIfInBounds_toArray, List.set_cons_zero, List.set_cons_succ]
      refine wpAnyH_take (i := 18) (oi := ?o17) (v := ?v17) ?hi17 (by kernel_rfl) (by kernel_rfl) (by kernel_rfl) ?hQ17 ?hy17 (by assumption) ?rest17
      case hi17 => (simp only [List.getElem?_toArray, List.getElem?_cons_succ, List.getElem?_cons_zero]; rfl)
      case hQ17 => exact fun _ _ _ h => h
      case hy17 => (refine Or.inl ⟨by rfl, ?_⟩; intro w' hSw; obtain ⟨q0, q1, q2⟩ := tri_cells (HA.out.below hSw.below (Nat.le_refl _)) hm2.out; rw [hT2.out] at q0 q1 q2; simp only at q0 q1 q2; have hmn : ((m2 : Int)) < n := (by have := hm2.out; rw [HN.out] at this; omega); go_simp; (try with_reducible rfl))
      try simp only [Act.put, List.setIfInBounds_toArray, List.set_cons_zero, List.set_cons_succ]
      refine wpAnyH_take (i := 19) (oi := ?o18) (v := ?v18) ?hi18 (by kernel_rfl) (by kernel_rfl) (by kernel_rfl) ?hQ18 ?hy18 (by assumption) ?rest18
      case hi18 => (simp only [List.getElem?_toArray, List.getElem?_cons_succ, List.getElem?_cons_zero]; rfl)
      case hQ18 => exact fun _ _ _ h => h
      case hy18 => (refine Or.inl ⟨by rfl, ?_⟩; intro w' hSw; obtain ⟨q0, q1, q2⟩ := tri_cells (HA.out.below hSw.below (Nat.le_refl _)) hm2.out; rw [hT2.out] at q0 q1 q2; simp only at q0 q1 q2; have hmn : ((m2 : Int)) < n := (by have := hm2.out; rw [HN.out] at this; omega); go_simp; (try with_reducible rfl))
      try simp only [Act.put, List.setIfInBounds_toArray, List.set_cons_zero, List.set_cons_succ]
      refine wpAnyH_take (i := 21) (oi := ?o19) (v := ?v19) ?hi19 (by kernel_rfl) (by kernel_rfl) (by kernel_rfl) ?hQ19 ?hy19 (by assumption) ?rest19
      case hi19 => (simp only [List.getElem?_toArray, List.getElem?_cons_succ, List.getElem?_cons_zero]; rfl)
      case hQ19 => exact fun _ _ _ h => h
      case hy19 => (refine Or.inl ⟨by rfl, ?_⟩; intro w' hSw; obtain ⟨k0, k1, k2, k3⟩ := cells_4 hSw.head; go_simp; (try with_reducible rfl))
      try simp only [Act.put, List.setIfInBounds_toArray, List.set_cons_zero, List.set_cons_succ]
      refine wpAnyH_take (i := 22) (oi := ?o20) (v := ?v20) ?hi20 (by kernel_rfl) (by kernel_rfl) (by kernel_rfl) ?hQ20 ?hy20 (by assumption) ?rest20
      case hi20 => (simp only [List.getElem?_toArray, List.getElem?_cons_succ, List.getElem?_cons_zero]; rfl)
      case hQ20 => exact fun _ _ _ h => h
      case hy20 => (refine Or.inl ⟨by rfl, ?_⟩; intro w' hSw; obtain ⟨k0, k1, k2, k3⟩ := cells_4 hSw.head; go_simp; (try with_reducible rfl))
      try simp only [Act.put, List.setIfInBounds_toArray, List.set_cons_zero, List.set_cons_succ]
      refine wpAnyH_take (i := 23) (oi := ?o21) (v := ?v21) ?hi21 (by kernel_rfl) (by kernel_rfl) (by kernel_rfl) ?hQ21 ?hy21 (by assumption) ?rest21
      case hi21 => (simp only [List.getElem?_toArray, List.getElem?_cons_succ, List.getElem?_cons_zero]; rfl)
      case hQ21 => exact fun _ _ _ h => h
      case hy21 => (refine Or.inl ⟨by rfl, ?_⟩; intro w' hSw; obtain ⟨k0, k1, k2, k3⟩ := cells_4 hSw.head; go_simp; (try with_reducible rfl))
      try simp only [Act.put, List.setIfInBounds_toArray, List.set_cons_zero, List.set_cons_succ]
      refine wpAnyH_take (i := 24) (oi := ?o22) (v := ?v22) ?hi22 (by kernel_rfl) (by kernel_rfl) (by kernel_rfl) ?hQ22 ?hy22 (by assumption) ?rest22
      case hi22 => (simp only [List.getElem?_toArray, List.getElem?_cons_succ, List.getElem?_cons_zero]; rfl)
      case hQ22 => exact fun _ _ _ h => h
      case hy22 => (refine Or.inl ⟨by rfl, ?_⟩; intro w' hSw; obtain ⟨k0, k1, k2, k3⟩ := cells_4 hSw.head; go_simp; (try with_reducible rfl))
      try simp only [Act.put, List.setIfInBounds_toArray, List.set_cons_zero, List.set_cons_succ]
      refine wpAnyH_take (i := 25) (oi := ?o23) (v := ?v23) ?hi23 (by kernel_rfl) (by kernel_rfl) (by kernel_rfl) ?hQ23 ?hy23 (by assumption) ?rest23
      case hi23 => (simp only [List.getElem?_toArray, List.getElem?_cons_succ, List.getElem?_cons_zero]; rfl)
      case hQ23 => exact fun _ _ _ h => h
      case hy23 => (refine Or.inl ⟨by rfl, ?_⟩; intro w' hSw; obtain ⟨q0, q1, q2⟩ := tri_cells (HA.out.below hSw.below (Nat.le_refl _)) hm3.out; rw [hT3.out] at q0 q1 q2; simp only at q0 q1 q2; have hmn : ((m3 : Int)) < n := (by have := hm3.out; rw [HN.out] at this; omega); go_simp; (try with_reducible rfl))
      try simp only [Act.put, List.setIfInBounds_toArray, List.set_cons_zero, List.set_cons_succ]
      refine wpAnyH_take (i := 26) (oi := ?o24) (v := ?v24) ?hi24 (by kernel_rfl) (by kernel_rfl) (by kernel_rfl) ?hQ24 ?hy24 (by assumption) ?rest24
      case hi24 => (simp only [List.getElem?_toArray, List.getElem?_cons_succ, List.getElem?_cons_zero]; rfl)
      case hQ24 => exact fun _ _ _ h => h
      case hy24 => (refine Or.inl ⟨by rfl, ?_⟩; intro w' hSw; obtain ⟨q0, q1, q2⟩ := tri_cells (HA.out.below hSw.below (Nat.le_refl _)) hm3.out; rw [hT3.out] at q0 q1 q2; simp only at q0 q1 q2; have hmn : ((m3 : Int)) < n := (by have := hm3.out; rw [HN.out] at this; omega); go_simp; (try with_reducible rfl))
      try simp only [Act.put, List.setIfInBounds_toArray, List.set_cons_zero, List.set_cons_succ]
      refine wpAnyH_ready (rs := [6]) (by kernel_rfl) (by simp) ?_
      refine AllReadyH.cons (o := ?o26) ?hi26 (fun K hK => ?rest26) AllReadyH.nil
      case hi26 => (simp only [List.getElem?_toArray, List.getElem?_cons_succ, List.getElem?_cons_zero]; rfl)
      go_simp
      go_at_call 164
      refine (krow.out p0 p1 p2 _).mono ?_
      rintro e wn ⟨rfl, hbn⟩
      replace MB := Lib.hid (MB.out.next hbn)
      clear hbn
      refine hK.out _ _ MB.out (fun hHeld => ?_)
      clear hK K
      try simp only [Act.put, List.setIfInBounds_toArray, List.set_cons_zero, List.set_cons_succ]
      refine wpAnyH_ready (rs := [13]) (by kernel_rfl) (by simp) ?_
      refine AllReadyH.cons (o := ?o28) ?hi28 (fun K hK => ?rest28) AllReadyH.nil
      case hi28 => (simp only [List.getElem?_toArray, List.getElem?_cons_succ, List.getElem?_cons_zero]; rfl)
      go_simp
      go_at_call 164
      refine (krow.out p3 p4 p5 _).mono ?_
      rintro e wn ⟨rfl, hbn⟩
      replace MB := Lib.hid (MB.out.next hbn)
      clear hbn
      refine hK.out _ _ MB.out (fun hHeld => ?_)
      clear hK K
      try simp only [Act.put, List.setIfInBounds_toArray, List.set_cons_zero, List.set_cons_succ]
      refine wpAnyH_ready (rs := [20]) (by kernel_rfl) (by simp) ?_
      refine AllReadyH.cons (o := ?o30) ?hi30 (fun K hK => ?rest30) AllReadyH.nil
      case hi30 => (simp only [List.getElem?_toArray, List.getElem?_cons_succ, List.getElem?_cons_zero]; rfl)
      go_simp
      go_at_call 164
      refine (krow.out p6 p7 p8 _).mono ?_
      rintro e wn ⟨rfl, hbn⟩
      replace MB := Lib.hid (MB.out.next hbn)
      clear hbn
      refine hK.out _ _ MB.out (fun hHeld => ?_)
      clear hK K
      try simp only [Act.put, List.setIfInBounds_toArray, List.set_cons_zero, List.set_cons_succ]
      refine wpAnyH_ready (rs := [27]) (by kernel_rfl) (by simp) ?_
      refine AllReadyH.cons (o := ?o32) ?hi32 (fun K hK => ?rest32) AllReadyH.nil
      case hi32 => (simp only [List.getElem?_toArray, List.getElem?_cons_succ, List.getElem?_cons_zero]; rfl)
      go_simp
      go_at_call 164
      refine (krow.out p9 p10 p11 _).mono ?_
      rintro e wn ⟨rfl, hbn⟩
      replace MB := Lib.hid (MB.out.next hbn)
      clear hbn
      refine hK.out _ _ MB.out (fun hHeld => ?_)
      clear hK K
      try simp only [Act.put, List.setIfInBounds_toArray, List.set_cons_zero, List.set_cons_succ]
      refine wpAnyH_ready (rs := [28]) (by kernel_rfl) (by simp) ?_
      refine AllReadyH.cons (o := ?o34) ?hi34 (fun K hK => ?rest34) AllReadyH.nil
      case hi34 => (simp only [List.getElem?_toArray, List.getElem?_cons_succ, List.getElem?_cons_zero]; rfl)
      go_simp
      have LE := Lib.hid MB.out.above
      replace MB := Lib.hid (MB.out.add (.cells #[.int .i64 p0, .int .i64 p1, .int .i64 p2, .int .i64 1, .int .i64 p3, .int .i64 p4, .int .i64 p5, .int .i64 1, .int .i64 p6, .int .i64 p7, .int .i64 p8, .int .i64 1, .int .i64 p9, .int .i64 p10, .int .i64 p11, .int .i64 1] 168 (0, 0)))
      refine hK.out _ _ MB.out.tail (fun hHeld => ?_)
      clear hK K
      try simp only [Act.put, List.setIfInBounds_toArray, List.set_cons_zero, List.set_cons_succ]
      generalize hAA : World.heap wn = hp at *
      generalize hp.size = RB at *
      generalize World.alloc wn (.cells #[.int .i64 p0, .int .i64 p1, .int .i64 p2, .int .i64 1, .int .i64 p3, .int .i64 p4, .int .i64 p5, .int .i64 1, .int .i64 p6, .int .i64 p7, .int .i64 p8, .int .i64 1, .int .i64 p9, .int .i64 p10, .int .i64 p11, .int .i64 1] 168 (0, 0)) = wa at *
      clear hAA
      refine wpAnyH_take (i := 29) (oi := ?o35) (v := ?v35) ?hi35 (by kernel_rfl) (by kernel_rfl) (by kernel_rfl) ?hQ35 ?hy35 (by assumption) ?rest35
      case hi35 => (simp only [List.getElem?_toArray, List.getElem?_cons_succ, List.getElem?_cons_zero]; rfl)
      case hQ35 => exact fun _ _ _ h => h
      case hy35 => (refine Or.inl ⟨by rfl, ?_⟩; intro w' hSw; go_simp; (try with_reducible rfl))
      try simp only [Act.put, List.setIfInBounds_toArray, List.set_cons_zero, List.set_cons_succ]
      refine wpAnyH_done (by kernel_rfl) ?_ _
      have MB2 : Mem w [(RB, oI [p0, p1, p2, 1, p3, p4, p5, 1, p6, p7, p8, 1, p9, p10, p11, 1] 168)] wa := MB.out.sub (l' := [(RB, (.cells #[.int .i64 p0, .int .i64 p1, .int .i64 p2, .int .i64 1, .int .i64 p3, .int .i64 p4, .int .i64 p5, .int .i64 1, .int .i64 p6, .int .i64 p7, .int .i64 p8, .int .i64 1, .int .i64 p9, .int .i64 p10, .int .i64 p11, .int .i64 1] 168 (0, 0)))]) (fun p hp => by simp at hp ⊢; simp [hp])
      replace MB := Lib.hid MB2
      have FA : Hid (∀ x ∈ [p0, p1, p2, 1, p3, p4, p5, 1, p6, p7, p8, 1, p9, p10, p11, 1], FitI x) := Lib.hid (by
        have F0 := F0.out
        have F1 := F1.out
        have F2 := F2.out
        have F3 := F3.out
        try simp only at F0 F1 F2 F3
        intro x hx
        simp only [List.mem_cons, List.not_mem_nil, or_false] at hx
        rcases hx with rfl | rfl | rfl | rfl | rfl | rfl | rfl | rfl | rfl | rfl | rfl | rfl | rfl | rfl | rfl | rfl <;> omega)
      have hc : Hid (∀ m : Nat, m < 85 → (chgR m [p0, p1, p2, 1, p3, p4, p5, 1, p6, p7, p8, 1, p9, p10, p11, 1] 4).map (fun s => s.1) = (stR [p0, p1, p2, p3, p4, p5, p6, p7, p8, p9, p10, p11] m 4).map (fun s => s.1)) := Lib.hid (chg_same p0 p1 p2 p3 p4 p5 p6 p7 p8 p9 p10 p11)
      have hlast : Hid (movedV [p0, p1, p2, p3, p4, p5, p6, p7, p8, p9, p10, p11] 84 = (1, true)) := Lib.hid (moved_last p0 p1 p2 p3 p4 p5 p6 p7 p8 p9 p10 p11)
      have LR : Hid ([p0, p1, p2, 1, p3, p4, p5, 1, p6, p7, p8, 1, p9, p10, p11, 1].length = 16) := Lib.hid rfl
      clear MB2 F0 F1 F2 F3 hP hT0 hT1 hT2 hT3
      generalize [p0, p1, p2, 1, p3, p4, p5, 1, p6, p7, p8, 1, p9, p10, p11, 1] = A0 at *
      generalize [p0, p1, p2, p3, p4, p5, p6, p7, p8, p9, p10, p11] = P at *
      go_wp2_with fail
      go_loopw [16] (fun i wx => ∃ m : Nat, m ≤ 84 ∧ i = .int .i64 m ∧ Hid (maskV P 85 0 = maskV P (85 - m) m) ∧ Hid (Mem w [(RB, oI A0 168)] wx)) (fun i _ => 85 - (intOf i).toNat)
      case atStart => exact ⟨0, by omega, rfl, rfl, MB.out⟩
      case round =>
        clear MB
        obtain ⟨m, hm, rfl, hM, MB⟩ := hrel
        replace hM := Lib.hid hM.out
        replace MB := Lib.hid MB.out
        have hstep : Hid (maskV P (85 - m) m = if (movedV P m).2 = true ∧ (movedV P m).1 ≠ 0 then (movedV P m).1 else maskV P (85 - (m + 1)) (m + 1)) := Lib.hid (by
          rw [show 85 - m = (85 - (m + 1)) + 1 by omega, maskV])
        have kch := refChg_any RB A0 LR.out m (by omega) wr MB.out.head
        have hcm := hc.out m (by omega)
        cases hcR : chgR m A0 4 with
        | none =>
          rw [hcR] at kch hcm
          have hmv : movedV P m = (0, false) := by
            unfold movedV
            cases hs : stR P m 4 with
            | none => rfl
            | some s => rw [hs] at hcm; cases hcm
          have hm84 : m ≠ 84 := fun e => by rw [e, hlast.out] at hmv; cases hmv
          have hM2 : Hid (maskV P 85 0 = maskV P (85 - (m + 1)) (m + 1)) := Lib.hid (by rw [hM.out, hstep.out, hmv]; simp)
          clear hcR hcm hmv
          replace kch := Lib.hid kch
          go_wp2_with fail
          refine kch.out.mono ?_
          rintro e w1 ⟨he, _, hb⟩
          obtain rfl := he (by first | rfl | trivial)
          replace MB := Lib.hid (MB.out.next hb)
          clear hb he kch
          go_wp2_with fail
          go_roundw
          case rel => exact ⟨m + 1, by omega, by go_num, hM2.out, MB.out⟩
          case measure => simp [intOf]; omega
        | some s =>
          rw [hcR] at kch hcm
          have hmv : movedV P m = (sgZ (sum4 s.1 4), true) := by
            unfold movedV
            cases hs : stR P m 4 with
            | none => rw [hs] at hcm; cases hcm
            | some s' => rw [hs] at hcm; simp only [Option.map_some, Option.some.injEq] at hcm; rw [hcm]
          have ls : Hid (s.1.length = 16) := Lib.hid ((chgR_len hcR).trans LR.out)
          have fs := Lib.hid (fit_at (chgR_fit FA.out hcR))
          clear hcR hcm
          replace kch := Lib.hid kch
          go_wp2_with fail
          refine kch.out.mono ?_
          rintro e w1 ⟨_, he, hb⟩
          obtain ⟨b', rfl, hb', hle⟩ := he s rfl
          have kfo := Lib.hid (refFour_any b' s.1 w1 hb' ls.out fs.out)
          replace MB := Lib.hid (MB.out.next hb)
          clear hb he kch hb' hle
          go_wp2_with fail
          refine kfo.out.mono ?_
          rintro e w2 ⟨rfl, hb⟩
          replace MB := Lib.hid (MB.out.next hb)
          clear hb kfo
          go_wp2_with fail
          refine (refSign_any _ _).mono ?_
          rintro e w3 ⟨rfl, hb⟩
          replace MB := Lib.hid (MB.out.next hb)
          clear hb
          have h3 := sgZ_three (sum4 s.1 4)
          generalize sgZ (sum4 s.1 4) = z at *
          by_cases hz : z = 0
          · have e1 : (z != 0) = false := by simpa using hz
            have hm84 : m ≠ 84 := fun e => by rw [e, hlast.out] at hmv; injection hmv with h1 _; omega
            have hM2 : Hid (maskV P 85 0 = maskV P (85 - (m + 1)) (m + 1)) := Lib.hid (by rw [hM.out, hstep.out, hmv, hz]; simp)
            clear hz hmv h3
            go_wp2_with fail
            go_roundw
            case rel => exact ⟨m + 1, by omega, by go_num, hM2.out, MB.out⟩
            case measure => simp [intOf]; omega
          · have e1 : (z != 0) = true := by simpa using hz
            have eg := wrap_two hg.out (show z = 1 ∨ z = -1 by omega)
            have hv2 : Hid (signR xs n [x0, x1, x2, x3] = (g * z, 0)) := Lib.hid (by rw [hv.out, hM.out, hstep.out, hmv]; simp [hz])
            clear hz hmv h3
            go_wp2
            go_ret
            exact ⟨by rw [hv2.out]; show Ending.returned (.int .i64 (wrap64 _)) = _; rw [eg], MB.out.below⟩
end Go.Proofs.Ytojecaeblgghjaa
