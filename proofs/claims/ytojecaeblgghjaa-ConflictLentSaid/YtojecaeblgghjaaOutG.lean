/-
  Merged: RefOut, RefOutW.
-/
import Derived.Test.YtojecaeblgghjaaRefSign
import Derived.Test.YtojecaeblgghjaaOutW
import Derived.Test.YtojecaeblgghjaaReads
import Derived.Deep.LoopGhost

/-
  THE DOCUMENT's Fit, Places, Sees, Outward.
-/
set_option linter.unusedVariables false
set_option linter.unusedSimpArgs false
namespace Go.Proofs.Ytojecaeblgghjaa
open Go.RowKit Go.Sort LsP

theorem refFit1_any (n : Int) (w : World) :
    Calls Try.prog 127 #[.int .i64 n] w fun e w' => e = .returned (.bool (fitC n)) ∧ w' = w := by
  by_cases h1 : n ≥ -1073741824
  · have d1 : decide (n ≥ -1073741824) = true := by simpa using h1
    by_cases h2 : n ≤ 1073741824
    · have d2 : decide (n ≤ 1073741824) = true := by simpa using h2
      have hf : fitC n = true := by simp [fitC]; omega
      rw [hf]; clear hf
      go_enter Try.func127, Try.ntmps127
      go_wp2
      go_ret
      exact ⟨rfl, rfl⟩
    · have hf : fitC n = false := by simp [fitC]; omega
      have d2 : decide (n ≤ 1073741824) = false := by simpa using h2
      rw [hf]; clear hf
      go_enter Try.func127, Try.ntmps127
      go_wp2
      go_ret
      exact ⟨rfl, rfl⟩
  · have hf : fitC n = false := by simp [fitC]; omega
    have d1 : decide (n ≥ -1073741824) = false := by simpa using h1
    rw [hf]; clear hf
    go_enter Try.func127, Try.ntmps127
    go_wp2
    go_ret
    exact ⟨rfl, rfl⟩

set_option maxHeartbeats 4000000 in
set_option maxRecDepth 100000 in
theorem refFit_any (a b c : Int) (w : World) :
    Calls Try.prog 99 #[.agg #[.int .i64 a, .int .i64 b, .int .i64 c]] w fun e w' => e = .returned (.bool (fitT ⟨a, b, c⟩)) ∧ Below w.heap.size w w' := by
  show Calls Try.prog _ _ w fun e w' => e = .returned (.bool (fitC a && fitC b && fitC c)) ∧ Below w.heap.size w w'
  have K1 := Lib.hid (fun W => refFit1_any a W)
  have K2 := Lib.hid (fun W => refFit1_any b W)
  have K3 := Lib.hid (fun W => refFit1_any c W)
  generalize fitC a = f1 at *
  generalize fitC b = f2 at *
  generalize fitC c = f3 at *
  cases f1
  · go_enter Try.func99, Try.ntmps99
    go_wp2_with fail
    refine (K1.out _).mono ?_
    rintro e w' ⟨rfl, rfl⟩
    go_wp2
    go_ret
    exact ⟨rfl, by (repeat (first | exact Below.refl _ _ | refine Below.alloc ?_ (by first | omega | (simp; done) | (simp; omega)) _ | refine Below.setCell ?_ (by first | omega | (simp; done) | (simp; omega)) _ | refine Below.drew ?_))⟩
  · cases f2
    · go_enter Try.func99, Try.ntmps99
      go_wp2_with fail
      refine (K1.out _).mono ?_
      rintro e w' ⟨rfl, rfl⟩
      go_wp2_with fail
      refine (K2.out _).mono ?_
      rintro e w' ⟨rfl, rfl⟩
      go_wp2
      go_ret
      exact ⟨rfl, by (repeat (first | exact Below.refl _ _ | refine Below.alloc ?_ (by first | omega | (simp; done) | (simp; omega)) _ | refine Below.setCell ?_ (by first | omega | (simp; done) | (simp; omega)) _ | refine Below.drew ?_))⟩
    · go_enter Try.func99, Try.ntmps99
      go_wp2_with fail
      refine (K1.out _).mono ?_
      rintro e w' ⟨rfl, rfl⟩
      go_wp2_with fail
      refine (K2.out _).mono ?_
      rintro e w' ⟨rfl, rfl⟩
      go_wp2_with fail
      refine (K3.out _).mono ?_
      rintro e w' ⟨rfl, rfl⟩
      go_wp2
      go_ret
      exact ⟨rfl, by (repeat (first | exact Below.refl _ _ | refine Below.alloc ?_ (by first | omega | (simp; done) | (simp; omega)) _ | refine Below.setCell ?_ (by first | omega | (simp; done) | (simp; omega)) _ | refine Below.drew ?_))⟩

open Classical in
/-- What Places says. -/
noncomputable def placesR (n : Nat) (ys : List Int) : Int := if ∀ a, a < ys.length → goodP n ys a then 0 else 21
theorem placesR_bad {n : Nat} {ys : List Int} {a : Nat} (ha : a < ys.length) (h : ¬ goodP n ys a) : placesR n ys = 21 := by
  unfold placesR
  exact if_neg (fun h' => h (h' a ha))

set_option maxHeartbeats 8000000 in
set_option maxRecDepth 100000 in
theorem refPlaces_any (A B : Option Addr) (n c d : Nat) (ys : List Int) (w : World) (hb : Rd encI 0 w B ys) (hk : ys.length ≤ 1000) :
    Calls Try.prog 98 #[.slice A n c, .slice B ys.length d] w fun e w' => e = .returned (.int .i64 (placesR n ys)) ∧ ∃ q, w' = w.drewN q := by
  generalize hN : ys.length = k at hk ⊢
  have HN := Lib.hid hN
  have HB := Lib.hid hb
  clear hN hb
  go_enter Try.func98, Try.ntmps98
  go_wp2_with fail
  go_loopw [5] (fun i wr => ∃ a q : Nat, a ≤ k ∧ i = .int .i64 a ∧ Hid (∀ a', a' < a → goodP n ys a') ∧ Hid (wr = w.drewN q)) (fun i _ => k - (intOf i).toNat)
  case atStart => exact ⟨0, 0, Nat.zero_le _, rfl, fun a' h => absurd h (by omega), rfl⟩
  case round =>
    obtain ⟨a, q, ha, rfl, hG, hW⟩ := hrel
    replace hG := Lib.hid hG.out
    replace hW := Lib.hid hW.out
    by_cases hlt : a < k
    · have HR : Hid (Rd encI 0 wr B ys) := Lib.hid (by rw [hW.out]; exact HB.out.drewN q)
      obtain ⟨b, off, rfl, hbw, ca⟩ := HR.out.at_ (k := a) (by rw [HN.out]; exact hlt)
      obtain ⟨x, hx⟩ : ∃ x, ys[a]! = x := ⟨_, rfl⟩
      rw [hx] at ca
      replace hx := Lib.hid hx
      simp only [encI] at ca
      by_cases h0 : x < 0
      · have hv : Hid (placesR n ys = 21) := Lib.hid (placesR_bad (a := a) (by rw [HN.out]; exact hlt) (fun h => by have := h.1; rw [hx.out] at this; omega))
        have d0 : decide (x < 0) = true := by simpa using h0
        clear h0
        go_wp2
        go_ret
        exact ⟨by rw [hv.out]; rfl, q, hW.out⟩
      · have d0 : decide (x < 0) = false := by simpa using h0
        by_cases h1 : x ≥ (n : Int)
        · have hv : Hid (placesR n ys = 21) := Lib.hid (placesR_bad (a := a) (by rw [HN.out]; exact hlt) (fun h => by have := h.2.1; rw [hx.out] at this; omega))
          have d1 : decide (x ≥ (n : Int)) = true := by simpa using h1
          clear h0 h1
          go_wp2
          go_ret
          exact ⟨by rw [hv.out]; rfl, q, hW.out⟩
        · have d1 : decide (x ≥ (n : Int)) = false := by simpa using h1
          have hx0 : Hid (0 ≤ x ∧ x < n) := Lib.hid (by omega)
          clear h0 h1
          go_wp2_with fail
          clear ca hbw
          go_loopw [6] (fun i wr => ∃ b' q : Nat, b' ≤ a ∧ i = .int .i64 b' ∧ Hid (∀ b'', b'' < b' → ys[b'']! ≠ x) ∧ Hid (wr = w.drewN q)) (fun i _ => a - (intOf i).toNat)
          case atStart => exact ⟨0, q, Nat.zero_le _, rfl, fun a' h => absurd h (by omega), hW.out⟩
          case round =>
            clear hW HR
            obtain ⟨b', q, hb', rfl, hE, hW⟩ := hrel
            replace hE := Lib.hid hE.out
            replace hW := Lib.hid hW.out
            by_cases hlb : b' < a
            · have HR : Hid (Rd encI 0 wr (some ⟨b, off, none⟩) ys) := Lib.hid (by rw [hW.out]; exact HB.out.drewN q)
              obtain ⟨b1, off1, e1, _, ca⟩ := HR.out.at_ (k := a) (by rw [HN.out]; exact hlt)
              injection e1 with e1
              injection e1 with e1 e2
              subst e1 e2
              obtain ⟨b1, off1, e1, _, cb⟩ := HR.out.at_ (k := b') (by rw [HN.out]; omega)
              injection e1 with e1
              injection e1 with e1 e2
              subst e1 e2
              obtain ⟨y, hy⟩ : ∃ y, ys[b']! = y := ⟨_, rfl⟩
              rw [hx.out] at ca
              rw [hy] at cb
              replace hy := Lib.hid hy
              simp only [encI] at ca cb
              clear HR
              by_cases hxy : x = y
              · have hv : Hid (placesR n ys = 21) := Lib.hid (placesR_bad (a := a) (by rw [HN.out]; exact hlt) (fun h => h.2.2 b' hlb (by rw [hx.out, hy.out, hxy])))
                have d2 : (x == y) = true := by simpa using hxy
                clear hxy
                go_wp2_with fail
                go_quiet (fail)
                go_wp2
                go_ret
                exact ⟨by rw [hv.out]; rfl, q + nq, by rw [hW.out, World.drewN_drewN]⟩
              · have d2 : (x == y) = false := by simpa using hxy
                have hE2 : Hid (∀ b'', b'' < b' + 1 → ys[b'']! ≠ x) := Lib.hid (fun b'' h => by
                  by_cases e : b'' = b'
                  · rw [e, hy.out]; exact fun e' => hxy e'.symm
                  · exact hE.out b'' (by omega))
                clear hxy
                go_wp2_with fail
                go_quiet (fail)
                go_wp2_with fail
                go_roundw
                case rel => exact ⟨b' + 1, q + nq, by omega, by go_num, hE2.out, Lib.hid (by rw [hW.out, World.drewN_drewN])⟩
                case measure => simp [intOf]; omega
            · obtain rfl : b' = a := by omega
              have hG2 : Hid (∀ a', a' < b' + 1 → goodP n ys a') := Lib.hid (fun a' h => by
                by_cases e : a' = b'
                · subst e
                  exact ⟨by rw [hx.out]; exact hx0.out.1, by rw [hx.out]; exact hx0.out.2, fun b'' h' => by rw [hx.out]; exact hE.out b'' h'⟩
                · exact hG.out a' (by omega))
              go_wp2_with fail
              go_roundw
              case rel => exact ⟨b' + 1, q, by omega, by go_num, hG2.out, hW.out⟩
              case measure => simp [intOf]; omega
    · obtain rfl : a = k := by omega
      have hv : Hid (placesR n ys = 0) := Lib.hid (by
        unfold placesR
        exact if_pos (fun a' h => hG.out a' (by rw [HN.out] at h; exact h)))
      go_wp2
      go_ret
      exact ⟨by rw [hv.out]; rfl, q, hW.out⟩

set_option maxHeartbeats 4000000 in
set_option maxRecDepth 100000 in
theorem refSees_any (A : Option Addr) (n c : Nat) (xs : List T3) (x0 x1 x2 x3 : Int) (w : World) (ha : RdT 0 w A xs) (hn : xs.length = n) (hn2 : n ≤ 9223372036854775807)
    (hG : ∀ a, a < 4 → goodP n [x0, x1, x2, x3] a) (hF : ∀ x ∈ [x0, x1, x2, x3], fitT xs[x.toNat]! = true) :
    Calls Try.prog 100 #[.slice A n c, .agg #[.int .i64 x0, .int .i64 x1, .int .i64 x2], .int .i64 x3] w fun e w' => e = .returned (.bool (decide ((signR xs n [x0, x1, x2, x3]).1 < 0))) ∧ Below w.heap.size w w' := by
  have MB := Lib.hid (one_start w (o3 x0 x1 x2 50))
  have kS := Lib.hid (refSign2_any A n c xs x0 x1 x2 x3 (w.alloc (o3 x0 x1 x2 50)) (ha.below MB.out.below (Nat.le_refl _)) hn hn2 hG hF)
  clear ha hn hG hF
  obtain ⟨d0, d1, d2, e0, e1, e2⟩ := row3 MB.out.head
  go_enter Try.func100, Try.ntmps100
  go_wp2_with fail
  refine kS.out.mono ?_
  rintro e w' ⟨rfl, hb⟩
  replace MB := Lib.hid (MB.out.next hb)
  clear hb d0 d1 d2 e0 e1 e2
  go_wp2
  go_ret
  exact ⟨rfl, MB.out.below⟩

theorem good3 {n : Nat} {x y z v : Int} (h : ∀ a, a < 3 → goodP n [x, y, z] a) (hv : 0 ≤ v ∧ v < n) (h0 : v ≠ x) (h1 : v ≠ y) (h2 : v ≠ z) : ∀ a, a < 4 → goodP n [x, y, z, v] a := by
  intro a ha
  rcases (by omega : a = 0 ∨ a = 1 ∨ a = 2 ∨ a = 3) with rfl | rfl | rfl | rfl
  · have := h 0 (by omega)
    exact ⟨this.1, this.2.1, fun b hb => by omega⟩
  · have := h 1 (by omega)
    refine ⟨this.1, this.2.1, fun b hb => ?_⟩
    obtain rfl : b = 0 := by omega
    exact this.2.2 0 (by omega)
  · have := h 2 (by omega)
    refine ⟨this.1, this.2.1, fun b hb => ?_⟩
    rcases (by omega : b = 0 ∨ b = 1) with rfl | rfl
    · exact this.2.2 0 (by omega)
    · exact this.2.2 1 (by omega)
  · refine ⟨hv.1, hv.2, fun b hb => ?_⟩
    rcases (by omega : b = 0 ∨ b = 1 ∨ b = 2) with rfl | rfl | rfl
    · exact fun e => h0 e.symm
    · exact fun e => h1 e.symm
    · exact fun e => h2 e.symm
theorem bad3 {n : Nat} {x y z v : Int} (h : ¬ ∀ a, a < 3 → goodP n [x, y, z] a) : ¬ ∀ a, a < 4 → goodP n [x, y, z, v] a := by
  intro h'
  refine h (fun a ha => ?_)
  have := h' a (by omega)
  rcases (by omega : a = 0 ∨ a = 1 ∨ a = 2) with rfl | rfl | rfl
  · exact ⟨this.1, this.2.1, fun b hb => by omega⟩
  · refine ⟨this.1, this.2.1, fun b hb => ?_⟩
    obtain rfl : b = 0 := by omega
    exact this.2.2 0 (by omega)
  · refine ⟨this.1, this.2.1, fun b hb => ?_⟩
    rcases (by omega : b = 0 ∨ b = 1) with rfl | rfl
    · exact this.2.2 0 (by omega)
    · exact this.2.2 1 (by omega)
theorem signR_good {xs : List T3} {n : Nat} {L : List Int} (hG : ∀ a, a < 4 → goodP n L a) (hf : ∀ x ∈ L, fitT xs[x.toNat]! = true) : (signR xs n L).2 = 0 := by
  unfold signR
  rw [if_pos hG, if_pos hf]
theorem signR_nofit {xs : List T3} {n : Nat} {L : List Int} (hG : ∀ a, a < 4 → goodP n L a) (hf : ¬ ∀ x ∈ L, fitT xs[x.toNat]! = true) : signR xs n L = (0, 20) := by
  unfold signR
  rw [if_pos hG, if_neg hf]
end Go.Proofs.Ytojecaeblgghjaa

/-
  carapaceref5.Outward. (Printed by mkrefout2.py.)
-/
set_option linter.unusedVariables false
set_option linter.unusedSimpArgs false
namespace Go.Proofs.Ytojecaeblgghjaa
open Go.RowKit Go.Sort LsP

set_option maxHeartbeats 16000000 in
set_option maxRecDepth 100000 in
theorem refOut_any (A : Option Addr) (n c : Nat) (xs : List T3) (x y z : Int) (w : World) (ha : RdT 0 w A xs) (hn : xs.length = n) (hn2 : n ≤ 9223372036854775807) :
    Calls Try.prog 49 #[.slice A n c, .int .i64 x, .int .i64 y, .int .i64 z] w fun e w' => e = .returned (.tuple #[encT (outR xs n x y z).1, .int .i64 (outR xs n x y z).2]) ∧ Below w.heap.size w w' := by
  have hF1 := free3_le x y z
  have hF2 := free3_no x y z
  have hF3 : ∀ k : Nat, k < free3 x y z → ((k : Int) = x ∨ (k : Int) = y ∨ (k : Int) = z) := fun k h => free3_lt h
  have hO : Hid (outR xs n x y z = if n < 4 then (⟨0, 0, 0⟩, 21) else if (signR xs n [x, y, z, (free3 x y z : Nat)]).2 ≠ 0 then (⟨0, 0, 0⟩, (signR xs n [x, y, z, (free3 x y z : Nat)]).2) else
      if (signR xs n [x, y, z, (free3 x y z : Nat)]).1 < 0 then (canon ⟨x, z, y⟩, 0) else (canon ⟨x, y, z⟩, 0)) := Lib.hid rfl
  have HA := Lib.hid ha
  have HN := Lib.hid hn
  clear ha hn
  generalize free3 x y z = F at *
  replace hF2 := Lib.hid hF2
  replace hF3 := Lib.hid hF3
  have MB : Hid (Mem w [(w.heap.size, o3 0 0 0 50)] (w.alloc (o3 0 0 0 50))) := Lib.hid ((Mem.nil w).add _)
  by_cases hn4 : n < 4
  · have hv : Hid (outR xs n x y z = (⟨0, 0, 0⟩, 21)) := Lib.hid (by rw [hO.out, if_pos hn4])
    have e1 : decide ((n : Int) < 4) = true := by simp; omega
    clear hn4
    go_enter Try.func49, Try.ntmps49
    go_wp2
    exact bodyPost_ret (v := .tuple #[encT ⟨0, 0, 0⟩, .int .i64 21]) (by simp [results, Try.results49, go_sem, encT]) rfl ⟨by rw [hv.out], by (repeat (first | exact Below.refl _ _ | refine Below.alloc ?_ (by first | omega | (simp; done) | (simp; omega)) _ | refine Below.setCell ?_ (by first | omega | (simp; done) | (simp; omega)) _ | refine Below.drew ?_))⟩
  · have e1 : decide ((n : Int) < 4) = false := by simp; omega
    replace hO := Lib.hid (hO.out.trans (if_neg hn4))
    have hn4' : Hid (4 ≤ n) := Lib.hid (by omega)
    have MB1 := Lib.hid (MB.out.add (oI [x, y, z] 3)).tail
    have kP : Hid (Calls Try.prog 98 #[.slice A n c, .slice (some ⟨w.heap.size + 1, 0, none⟩) 3 3] ((w.alloc (o3 0 0 0 50)).alloc (oI [x, y, z] 3)) fun e w' => e = .returned (.int .i64 (placesR n [x, y, z])) ∧ ∃ q, w' = ((w.alloc (o3 0 0 0 50)).alloc (oI [x, y, z] 3)).drewN q) :=
      Lib.hid (by
        have h := refPlaces_any A (some ⟨w.heap.size + 1, 0, none⟩) n c 3 [x, y, z] ((w.alloc (o3 0 0 0 50)).alloc (oI [x, y, z] 3)) ?_ (by simp)
        · exact h
        · have := Rd.lit (enc := encI) (w := w.alloc (o3 0 0 0 50)) (t := 3) [x, y, z]
          simp only [World.size_alloc] at this
          exact this.low (Nat.zero_le _))
    clear hn4
    go_enter Try.func49, Try.ntmps49
    go_wp2_with fail
    refine kP.out.mono ?_
    rintro e w1 ⟨rfl, q, hq⟩
    have MB2 : Mem w [(w.heap.size, o3 0 0 0 50)] w1 := by rw [hq]; exact MB1.out.drewN q
    replace MB := Lib.hid MB2
    clear MB1 MB2 hq kP
    by_cases hp : ∀ a, a < 3 → goodP n [x, y, z] a
    · rw [show placesR n [x, y, z] = 0 from by unfold placesR; exact if_pos hp]
      replace hp := Lib.hid hp
      go_wp2_with fail
      go_loopw [11] (fun v wr => ∃ k : Nat, k ≤ F ∧ v = .int .i64 k ∧ wr = w1) (fun v _ => F - (intOf v).toNat)
      case atStart => exact ⟨0, by omega, rfl, rfl⟩
      case round =>
        obtain ⟨k, hk, rfl, rfl⟩ := hrel
        by_cases hlt : k < F
        · have h3 := hF3.out k hlt
          by_cases h0 : (k : Int) = x
          · have q0 : ((k : Int) == x) = true := by simpa using h0
            clear h3 h0
            go_wp2_with fail
            go_roundw
            case rel => exact ⟨k + 1, by omega, by go_num, trivial⟩
            case measure => simp [intOf]; omega
          · have q0 : ((k : Int) == x) = false := by simpa using h0
            by_cases h1 : (k : Int) = y
            · have q1 : ((k : Int) == y) = true := by simpa using h1
              clear h3 h0 h1
              go_wp2_with fail
              go_roundw
              case rel => exact ⟨k + 1, by omega, by go_num, trivial⟩
              case measure => simp [intOf]; omega
            · have q1 : ((k : Int) == y) = false := by simpa using h1
              have q2 : ((k : Int) == z) = true := by simp; omega
              clear h3 h0 h1
              go_wp2_with fail
              go_roundw
              case rel => exact ⟨k + 1, by omega, by go_num, trivial⟩
              case measure => simp [intOf]; omega
        · obtain rfl : F = k := by omega
          have q0 : ((F : Int) == x) = false := by simpa using hF2.out.1
          have q1 : ((F : Int) == y) = false := by simpa using hF2.out.2.1
          have q2 : ((F : Int) == z) = false := by simpa using hF2.out.2.2
          have hG : Hid (∀ a, a < 4 → goodP n [x, y, z, (F : Int)] a) := Lib.hid (good3 hp.out ⟨by omega, by have := hn4'.out; omega⟩ hF2.out.1 hF2.out.2.1 hF2.out.2.2)
          obtain ⟨m0, rfl⟩ := Int.eq_ofNat_of_zero_le (hG.out 0 (by omega)).1
          obtain ⟨m1, rfl⟩ := Int.eq_ofNat_of_zero_le (hG.out 1 (by omega)).1
          obtain ⟨m2, rfl⟩ := Int.eq_ofNat_of_zero_le (hG.out 2 (by omega)).1
          have hm0 : Hid (m0 < xs.length) := Lib.hid (by have := (hG.out 0 (by omega)).2.1; rw [HN.out]; simp at this; omega)
          have hm1 : Hid (m1 < xs.length) := Lib.hid (by have := (hG.out 1 (by omega)).2.1; rw [HN.out]; simp at this; omega)
          have hm2 : Hid (m2 < xs.length) := Lib.hid (by have := (hG.out 2 (by omega)).2.1; rw [HN.out]; simp at this; omega)
          have hm3 : Hid (F < xs.length) := Lib.hid (by have := (hG.out 3 (by omega)).2.1; rw [HN.out]; simp at this; omega)
          obtain ⟨b, off, rfl, _⟩ := HA.out.at3 hm0.out
          obtain ⟨⟨p0, p1, p2⟩, hT0⟩ : ∃ t, xs[m0]! = t := ⟨_, rfl⟩
          replace hT0 := Lib.hid hT0
          obtain ⟨⟨p3, p4, p5⟩, hT1⟩ : ∃ t, xs[m1]! = t := ⟨_, rfl⟩
          replace hT1 := Lib.hid hT1
          obtain ⟨⟨p6, p7, p8⟩, hT2⟩ : ∃ t, xs[m2]! = t := ⟨_, rfl⟩
          replace hT2 := Lib.hid hT2
          obtain ⟨⟨p9, p10, p11⟩, hT3⟩ : ∃ t, xs[F]! = t := ⟨_, rfl⟩
          replace hT3 := Lib.hid hT3
          clear hp hF1 hF2 hF3
          rename World => W
          obtain ⟨q0, q1, q2⟩ := tri_cells (HA.out.below MB.out.below (Nat.le_refl _)) hm0.out
          rw [hT0.out] at q0 q1 q2
          simp only at q0 q1 q2
          have hmn : ((m0 : Int)) < n := by have := hm0.out; rw [HN.out] at this; omega
          have kf := refFit_any p0 p1 p2
          cases ef : fitT ⟨p0, p1, p2⟩
          · rw [ef] at kf
            have hnf : ¬ ∀ x ∈ [(m0 : Int), (m1 : Int), (m2 : Int), (F : Int)], fitT xs[x.toNat]! = true := fun h => by
              have := h (m0 : Int) (by simp)
              rw [Int.toNat_natCast, hT0.out, ef] at this
              cases this
            have hsR := signR_nofit hG.out hnf
            have hv : Hid (outR xs n m0 m1 m2 = (⟨0, 0, 0⟩, 20)) := Lib.hid (by rw [hO.out, hsR]; rfl)
            clear hnf hsR ef
            go_wp2_with fail
            refine (kf _).mono ?_
            rintro e w' ⟨rfl, hb⟩
            replace MB := Lib.hid (MB.out.next hb)
            clear q0 q1 q2 hb hmn kf
            obtain ⟨d0, d1, d2, e0, e1, e2⟩ := row3 MB.out.head
            have MF : Mem w [(w.heap.size, o3 0 0 0 50)] _ := ((MB.out.set (fun _ h => by cases h) (Nat.le_refl _) 0 (.int .i64 0)).set (fun _ h => by cases h) (Nat.le_refl _) 1 (.int .i64 0)).set (fun _ h => by cases h) (Nat.le_refl _) 2 (.int .i64 0)
            replace MB := Lib.hid MF
            clear MF
            go_wp2
            obtain ⟨d0, d1, d2, _⟩ := row3 MB.out.head
            exact bodyPost_ret (v := .tuple #[encT ⟨0, 0, 0⟩, .int .i64 20]) (by simp [results, Try.results49, go_sem, encT, d0, d1, d2]) rfl ⟨by rw [hv.out], MB.out.below⟩
          · rw [ef] at kf
            have ef0 := Lib.hid ef
            clear ef
            go_wp2_with fail
            refine (kf _).mono ?_
            rintro e w' ⟨rfl, hb⟩
            replace MB := Lib.hid (MB.out.next hb)
            clear q0 q1 q2 hb hmn kf
            rename World => W
            obtain ⟨q0, q1, q2⟩ := tri_cells (HA.out.below MB.out.below (Nat.le_refl _)) hm1.out
            rw [hT1.out] at q0 q1 q2
            simp only at q0 q1 q2
            have hmn : ((m1 : Int)) < n := by have := hm1.out; rw [HN.out] at this; omega
            have kf := refFit_any p3 p4 p5
            cases ef : fitT ⟨p3, p4, p5⟩
            · rw [ef] at kf
              have hnf : ¬ ∀ x ∈ [(m0 : Int), (m1 : Int), (m2 : Int), (F : Int)], fitT xs[x.toNat]! = true := fun h => by
                have := h (m1 : Int) (by simp)
                rw [Int.toNat_natCast, hT1.out, ef] at this
                cases this
              have hsR := signR_nofit hG.out hnf
              have hv : Hid (outR xs n m0 m1 m2 = (⟨0, 0, 0⟩, 20)) := Lib.hid (by rw [hO.out, hsR]; rfl)
              clear hnf hsR ef
              go_wp2_with fail
              refine (kf _).mono ?_
              rintro e w' ⟨rfl, hb⟩
              replace MB := Lib.hid (MB.out.next hb)
              clear q0 q1 q2 hb hmn kf
              obtain ⟨d0, d1, d2, e0, e1, e2⟩ := row3 MB.out.head
              have MF : Mem w [(w.heap.size, o3 0 0 0 50)] _ := ((MB.out.set (fun _ h => by cases h) (Nat.le_refl _) 0 (.int .i64 0)).set (fun _ h => by cases h) (Nat.le_refl _) 1 (.int .i64 0)).set (fun _ h => by cases h) (Nat.le_refl _) 2 (.int .i64 0)
              replace MB := Lib.hid MF
              clear MF
              go_wp2
              obtain ⟨d0, d1, d2, _⟩ := row3 MB.out.head
              exact bodyPost_ret (v := .tuple #[encT ⟨0, 0, 0⟩, .int .i64 20]) (by simp [results, Try.results49, go_sem, encT, d0, d1, d2]) rfl ⟨by rw [hv.out], MB.out.below⟩
            · rw [ef] at kf
              have ef1 := Lib.hid ef
              clear ef
              go_wp2_with fail
              refine (kf _).mono ?_
              rintro e w' ⟨rfl, hb⟩
              replace MB := Lib.hid (MB.out.next hb)
              clear q0 q1 q2 hb hmn kf
              rename World => W
              obtain ⟨q0, q1, q2⟩ := tri_cells (HA.out.below MB.out.below (Nat.le_refl _)) hm2.out
              rw [hT2.out] at q0 q1 q2
              simp only at q0 q1 q2
              have hmn : ((m2 : Int)) < n := by have := hm2.out; rw [HN.out] at this; omega
              have kf := refFit_any p6 p7 p8
              cases ef : fitT ⟨p6, p7, p8⟩
              · rw [ef] at kf
                have hnf : ¬ ∀ x ∈ [(m0 : Int), (m1 : Int), (m2 : Int), (F : Int)], fitT xs[x.toNat]! = true := fun h => by
                  have := h (m2 : Int) (by simp)
                  rw [Int.toNat_natCast, hT2.out, ef] at this
                  cases this
                have hsR := signR_nofit hG.out hnf
                have hv : Hid (outR xs n m0 m1 m2 = (⟨0, 0, 0⟩, 20)) := Lib.hid (by rw [hO.out, hsR]; rfl)
                clear hnf hsR ef
                go_wp2_with fail
                refine (kf _).mono ?_
                rintro e w' ⟨rfl, hb⟩
                replace MB := Lib.hid (MB.out.next hb)
                clear q0 q1 q2 hb hmn kf
                obtain ⟨d0, d1, d2, e0, e1, e2⟩ := row3 MB.out.head
                have MF : Mem w [(w.heap.size, o3 0 0 0 50)] _ := ((MB.out.set (fun _ h => by cases h) (Nat.le_refl _) 0 (.int .i64 0)).set (fun _ h => by cases h) (Nat.le_refl _) 1 (.int .i64 0)).set (fun _ h => by cases h) (Nat.le_refl _) 2 (.int .i64 0)
                replace MB := Lib.hid MF
                clear MF
                go_wp2
                obtain ⟨d0, d1, d2, _⟩ := row3 MB.out.head
                exact bodyPost_ret (v := .tuple #[encT ⟨0, 0, 0⟩, .int .i64 20]) (by simp [results, Try.results49, go_sem, encT, d0, d1, d2]) rfl ⟨by rw [hv.out], MB.out.below⟩
              · rw [ef] at kf
                have ef2 := Lib.hid ef
                clear ef
                go_wp2_with fail
                refine (kf _).mono ?_
                rintro e w' ⟨rfl, hb⟩
                replace MB := Lib.hid (MB.out.next hb)
                clear q0 q1 q2 hb hmn kf
                rename World => W
                obtain ⟨q0, q1, q2⟩ := tri_cells (HA.out.below MB.out.below (Nat.le_refl _)) hm3.out
                rw [hT3.out] at q0 q1 q2
                simp only at q0 q1 q2
                have hmn : ((F : Int)) < n := by have := hm3.out; rw [HN.out] at this; omega
                have kf := refFit_any p9 p10 p11
                cases ef : fitT ⟨p9, p10, p11⟩
                · rw [ef] at kf
                  have hnf : ¬ ∀ x ∈ [(m0 : Int), (m1 : Int), (m2 : Int), (F : Int)], fitT xs[x.toNat]! = true := fun h => by
                    have := h (F : Int) (by simp)
                    rw [Int.toNat_natCast, hT3.out, ef] at this
                    cases this
                  have hsR := signR_nofit hG.out hnf
                  have hv : Hid (outR xs n m0 m1 m2 = (⟨0, 0, 0⟩, 20)) := Lib.hid (by rw [hO.out, hsR]; rfl)
                  clear hnf hsR ef
                  go_wp2_with fail
                  refine (kf _).mono ?_
                  rintro e w' ⟨rfl, hb⟩
                  replace MB := Lib.hid (MB.out.next hb)
                  clear q0 q1 q2 hb hmn kf
                  obtain ⟨d0, d1, d2, e0, e1, e2⟩ := row3 MB.out.head
                  have MF : Mem w [(w.heap.size, o3 0 0 0 50)] _ := ((MB.out.set (fun _ h => by cases h) (Nat.le_refl _) 0 (.int .i64 0)).set (fun _ h => by cases h) (Nat.le_refl _) 1 (.int .i64 0)).set (fun _ h => by cases h) (Nat.le_refl _) 2 (.int .i64 0)
                  replace MB := Lib.hid MF
                  clear MF
                  go_wp2
                  obtain ⟨d0, d1, d2, _⟩ := row3 MB.out.head
                  exact bodyPost_ret (v := .tuple #[encT ⟨0, 0, 0⟩, .int .i64 20]) (by simp [results, Try.results49, go_sem, encT, d0, d1, d2]) rfl ⟨by rw [hv.out], MB.out.below⟩
                · rw [ef] at kf
                  have ef3 := Lib.hid ef
                  clear ef
                  go_wp2_with fail
                  refine (kf _).mono ?_
                  rintro e w' ⟨rfl, hb⟩
                  replace MB := Lib.hid (MB.out.next hb)
                  clear q0 q1 q2 hb hmn kf
                  rename World => W
                  have hf : ∀ x ∈ [(m0 : Int), (m1 : Int), (m2 : Int), (F : Int)], fitT xs[x.toNat]! = true := by
                    intro x hx
                    simp only [List.mem_cons, List.not_mem_nil, or_false] at hx
                    rcases hx with rfl | rfl | rfl | rfl <;> rw [Int.toNat_natCast]
                    · rw [hT0.out]; exact ef0.out
                    · rw [hT1.out]; exact ef1.out
                    · rw [hT2.out]; exact ef2.out
                    · rw [hT3.out]; exact ef3.out
                  have hs0 := signR_good hG.out hf
                  have kS : Hid (∀ W, Below w.heap.size w W → Calls Try.prog 100 #[.slice (some ⟨b, off, none⟩) n c, .agg #[.int .i64 (m0 : Int), .int .i64 (m1 : Int), .int .i64 (m2 : Int)], .int .i64 (F : Int)] W fun e w' => e = .returned (.bool (decide ((signR xs n [(m0 : Int), (m1 : Int), (m2 : Int), (F : Int)]).1 < 0))) ∧ Below W.heap.size W w') :=
                    Lib.hid (fun W hW => refSees_any (some ⟨b, off, none⟩) n c xs m0 m1 m2 F W (HA.out.below hW (Nat.le_refl _)) HN.out hn2 hG.out hf)
                  replace hO := Lib.hid (hO.out.trans (if_neg (by simpa using hs0)))
                  clear hf hs0
                  generalize (signR xs n [(m0 : Int), (m1 : Int), (m2 : Int), (F : Int)]).1 = s at *
                  have MB1 : Mem w [(W.heap.size, o3 m0 m1 m2 50), (w.heap.size, o3 0 0 0 50)] (W.alloc (o3 m0 m1 m2 50)) := MB.out.add _
                  have hAB : Hid (¬ w.heap.size = W.heap.size) := Lib.hid (fun e => MB.out.apart (w.heap.size, o3 0 0 0 50) (by simp) e)
                  have MB1 := Lib.hid MB1
                  go_wp2_with fail
                  replace MB := MB1
                  clear MB1
                  generalize W.alloc (o3 (m0 : Int) (m1 : Int) (m2 : Int) 50) = W2 at *
                  generalize W.heap.size = TB at *
                  skip
                  rename World => W
                  obtain ⟨d0, d1, d2, e0, e1, e2⟩ := row3 MB.out.head
                  go_wp2_with fail
                  refine (kS.out _ MB.out.below).mono ?_
                  rintro e w' ⟨rfl, hb⟩
                  replace MB := Lib.hid (MB.out.next hb)
                  clear hb d0 d1 d2 e0 e1 e2
                  obtain ⟨d0, d1, d2, e0, e1, e2⟩ := row3 MB.out.head
                  by_cases hs : s < 0
                  · have f2 : decide (s < 0) = true := by simpa using hs
                    have hv : Hid (outR xs n m0 m1 m2 = (canon ⟨m0, m2, m1⟩, 0)) := Lib.hid (hO.out.trans (if_pos hs))
                    clear hs
                    go_wp2_with fail
                    refine (refTurn_any _ _ _ _).mono ?_
                    rintro e w2 ⟨rfl, hb⟩
                    replace MB := Lib.hid (MB.out.next hb).tail
                    clear hb d0 d1 d2 e0 e1 e2
                    generalize canon ⟨m0, m2, m1⟩ = t at *
                    obtain ⟨d0, d1, d2, e0, e1, e2⟩ := row3 MB.out.head
                    have MF : Mem w [(w.heap.size, o3 t.a t.b t.c 50)] _ := ((MB.out.set (fun _ h => by cases h) (Nat.le_refl _) 0 (.int .i64 t.a)).set (fun _ h => by cases h) (Nat.le_refl _) 1 (.int .i64 t.b)).set (fun _ h => by cases h) (Nat.le_refl _) 2 (.int .i64 t.c)
                    replace MB := Lib.hid MF
                    clear MF
                    go_wp2
                    obtain ⟨d0, d1, d2, _⟩ := row3 MB.out.head
                    exact bodyPost_ret (v := .tuple #[encT ⟨t.a, t.b, t.c⟩, .int .i64 0]) (by simp [results, Try.results49, go_sem, encT, d0, d1, d2]) rfl ⟨by rw [hv.out], MB.out.below⟩
                  · have f2 : decide (s < 0) = false := by simpa using hs
                    have hv : Hid (outR xs n m0 m1 m2 = (canon ⟨m0, m1, m2⟩, 0)) := Lib.hid (hO.out.trans (if_neg hs))
                    clear hs
                    go_wp2_with fail
                    refine (refCanon_any _ _ _ _).mono ?_
                    rintro e w2 ⟨rfl, hb⟩
                    replace MB := Lib.hid (MB.out.next hb).tail
                    clear hb d0 d1 d2 e0 e1 e2
                    generalize canon ⟨m0, m1, m2⟩ = t at *
                    obtain ⟨d0, d1, d2, e0, e1, e2⟩ := row3 MB.out.head
                    have MF : Mem w [(w.heap.size, o3 t.a t.b t.c 50)] _ := ((MB.out.set (fun _ h => by cases h) (Nat.le_refl _) 0 (.int .i64 t.a)).set (fun _ h => by cases h) (Nat.le_refl _) 1 (.int .i64 t.b)).set (fun _ h => by cases h) (Nat.le_refl _) 2 (.int .i64 t.c)
                    replace MB := Lib.hid MF
                    clear MF
                    go_wp2
                    obtain ⟨d0, d1, d2, _⟩ := row3 MB.out.head
                    exact bodyPost_ret (v := .tuple #[encT ⟨t.a, t.b, t.c⟩, .int .i64 0]) (by simp [results, Try.results49, go_sem, encT, d0, d1, d2]) rfl ⟨by rw [hv.out], MB.out.below⟩
    · have hpv : placesR n [x, y, z] = 21 := by unfold placesR; exact if_neg hp
      rw [hpv]
      have hsb := signR_bad (xs := xs) (bad3 (v := (F : Int)) hp)
      have hv : Hid (outR xs n x y z = (⟨0, 0, 0⟩, 21)) := Lib.hid (by rw [hO.out, hsb]; rfl)
      clear hp hpv hsb
      obtain ⟨d0, d1, d2, e0, e1, e2⟩ := row3 MB.out.head
      have MF : Mem w [(w.heap.size, o3 0 0 0 50)] _ := ((MB.out.set (fun _ h => by cases h) (Nat.le_refl _) 0 (.int .i64 0)).set (fun _ h => by cases h) (Nat.le_refl _) 1 (.int .i64 0)).set (fun _ h => by cases h) (Nat.le_refl _) 2 (.int .i64 0)
      replace MB := Lib.hid MF
      clear MF
      go_wp2
      obtain ⟨d0, d1, d2, _⟩ := row3 MB.out.head
      exact bodyPost_ret (v := .tuple #[encT ⟨0, 0, 0⟩, .int .i64 21]) (by simp [results, Try.results49, go_sem, encT, d0, d1, d2]) rfl ⟨by rw [hv.out], MB.out.below⟩

end Go.Proofs.Ytojecaeblgghjaa
