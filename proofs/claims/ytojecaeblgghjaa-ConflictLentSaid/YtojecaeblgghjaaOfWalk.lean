/-
  ConflictOf: the walk.
-/
import Derived.Test.YtojecaeblgghjaaConf6
set_option linter.unusedVariables false
set_option linter.unusedSimpArgs false
namespace Go.Proofs.Ytojecaeblgghjaa
open Go.RowKit Go.Sort LsP

theorem ofR_len {xs : List T3} {n : Nat} (hn : xs.length = n) (a b c : Int) : (ofR xs n a b c).1.length ≤ 1000000 := by
  unfold ofR
  split
  · simp
  · rename_i h
    have h0 : checkR xs n a b c = 0 := by simpa using h
    obtain ⟨h512, _⟩ := loadsR_fit (checkR_good h0).1
    have hge := mx4_ge a b c
    have := filter_upto_len (mx4 a b c + 1) (cntL n a b c) (seesB xs n a b c)
    have hc : cntL n a b c ≤ 512 := by unfold cntL; omega
    show (ofL xs n a b c).length ≤ 1000000
    unfold ofL
    omega

set_option maxHeartbeats 4000000 in
set_option maxRecDepth 100000 in
theorem of_walk (A : Option Addr) (n c' : Nat) (xs : List T3) (a b c : Int) (w : World) (ha : RdT 0 w A xs) (hn : xs.length = n) (hn2 : n ≤ 9223372036854775807) :
    Calls Try.prog 16 #[.slice A n c', .agg #[.int .i64 a, .int .i64 b, .int .i64 c]] w fun e w' => e = .returned (.bool true) ∧ Below w.heap.size w w' := by
  have MB := Lib.hid (one_start w (o3 a b c 50))
  by_cases hs : n > 60 ∧ n ≤ 512
  · have e1 : decide ((n : Int) > 60) = true := by simp; omega
    have e2 : decide ((n : Int) ≤ 512) = true := by simp; omega
    clear hs ha hn
    go_enter Try.func16, Try.ntmps16
    go_wp2_with fail
    refine (awake6_any _).mono ?_
    rintro e w' ⟨rfl, hb⟩
    replace MB := Lib.hid (MB.out.next hb)
    clear hb
    go_wp2
    go_ret
    exact ⟨rfl, MB.out.below⟩
  · have k1 := Lib.hid (fun W (hW : Below w.heap.size w W) => of_any A n c' xs a b c W (ha.below hW (Nat.le_refl _)) hn hn2)
    have k2 := Lib.hid (fun W (hW : Below w.heap.size w W) => refConfOf_any A n c' xs a b c W (ha.below hW (Nat.le_refl _)) hn hn2)
    have k3 := Lib.hid (fun W (hW : Below w.heap.size w W) => facet_any A n c' xs a b c W (ha.below hW (Nat.le_refl _)) hn hn2)
    have k4 := Lib.hid (fun W (hW : Below w.heap.size w W) => refFacet_any A n c' xs a b c W (ha.below hW (Nat.le_refl _)) hn hn2)
    have hl := Lib.hid (ofR_len hn a b c)
    clear ha hn
    generalize (ofR xs n a b c).1 = l at *
    generalize (ofR xs n a b c).2 = er at *
    generalize facetT xs n a b c = t at *
    have q1 : (er == er) = true := by simp
    by_cases h60 : n > 60
    · have e1 : decide ((n : Int) > 60) = true := by simp; omega
      have e2 : decide ((n : Int) ≤ 512) = false := by simp; omega
      clear hs h60
      go_enter Try.func16, Try.ntmps16
      obtain ⟨d0, d1, d2, _⟩ := row3 MB.out.head
      go_wp2_with fail
      refine (k1.out _ MB.out.below).mono ?_
      rintro e w1 ⟨A1, c1, rfl, h1, h2, h3, h4, h5⟩
      have R1 := Lib.hid (h3.low (Nat.zero_le _))
      replace MB := Lib.hid (MB.out.next h5)
      clear h1 h2 h3 h4 h5 k1 d0 d1 d2
      obtain ⟨d0, d1, d2, _⟩ := row3 MB.out.head
      go_wp2_with fail
      refine (k2.out _ MB.out.below).mono ?_
      rintro e w2 ⟨A2, c2, rfl, h1, h2, h3, h4, h5⟩
      replace R1 := Lib.hid (R1.out.below h5 (Nat.le_refl _))
      have R2 := Lib.hid (h3.low (Nat.zero_le _))
      replace MB := Lib.hid (MB.out.next h5)
      clear h1 h2 h3 h4 h5 k2 d0 d1 d2
      obtain ⟨d0, d1, d2, _⟩ := row3 MB.out.head
      go_wp2_with fail
      refine (k3.out _ MB.out.below).mono ?_
      rintro e w3 ⟨A3, c3, rfl, h1, h2, h3, h4, h5⟩
      replace R1 := Lib.hid (R1.out.below h5 (Nat.le_refl _))
      replace R2 := Lib.hid (R2.out.below h5 (Nat.le_refl _))
      have R3 := Lib.hid (h3.low (Nat.zero_le _))
      replace MB := Lib.hid (MB.out.next h5)
      clear h1 h2 h3 h4 h5 k3 d0 d1 d2
      have MC := Lib.hid (MB.out.add (oF t (.slice A3 l.length c3)))
      have bb : Hid (Below w3.heap.size w3 (w3.alloc (oF t (.slice A3 l.length c3)))) := Lib.hid ((Below.refl _ _).alloc (Nat.le_refl _) _)
      replace R1 := Lib.hid (R1.out.below bb.out (Nat.le_refl _))
      replace R2 := Lib.hid (R2.out.below bb.out (Nat.le_refl _))
      replace R3 := Lib.hid (R3.out.below bb.out (Nat.le_refl _))
      obtain ⟨d0, d1, d2, _⟩ := row3 MC.out.tail.head
      obtain ⟨g0, g1, g2, g3, _⟩ := row3 MB.out.head
      go_wp2_with fail
      clear bb MB g0 g1 g2 g3
      generalize w3.alloc (oF t (.slice A3 l.length c3)) = W at *
      generalize w3.heap.size = FB at *
      refine (k4.out _ MC.out.below).mono ?_
      rintro e w4 ⟨A4, c4, rfl, h1, h2, h3, h4, h5⟩
      replace R1 := Lib.hid (R1.out.below h5 (Nat.le_refl _))
      replace R2 := Lib.hid (R2.out.below h5 (Nat.le_refl _))
      replace R3 := Lib.hid (R3.out.below h5 (Nat.le_refl _))
      have R4 := Lib.hid (h3.low (Nat.zero_le _))
      replace MB := Lib.hid (MC.out.next h5)
      clear h1 h2 h3 h4 h5 k4 d0 d1 d2 MC
      have MC := Lib.hid (MB.out.add (oF t (.slice A4 l.length c4)))
      have bb : Hid (Below w4.heap.size w4 (w4.alloc (oF t (.slice A4 l.length c4)))) := Lib.hid ((Below.refl _ _).alloc (Nat.le_refl _) _)
      replace R1 := Lib.hid (R1.out.below bb.out (Nat.le_refl _))
      replace R2 := Lib.hid (R2.out.below bb.out (Nat.le_refl _))
      replace R3 := Lib.hid (R3.out.below bb.out (Nat.le_refl _))
      replace R4 := Lib.hid (R4.out.below bb.out (Nat.le_refl _))
      have ks := Lib.hid (refSame_any A1 A2 c1 c2 l l _ 0 0 R1.out R2.out hl.out hl.out)
      simp only [decide_true] at ks
      go_wp2_with fail
      clear bb MB
      generalize w4.alloc (oF t (.slice A4 l.length c4)) = W at *
      generalize w4.heap.size = GB at *
      refine ks.out.mono ?_
      rintro e w5 ⟨rfl, q, hq⟩
      have MD : Hid (Mem w _ w5) := Lib.hid (by rw [hq]; exact MC.out.drewN q)
      have RC : Hid (Rd encI 0 w5 A3 l) := Lib.hid (by rw [hq]; exact R3.out.drewN q)
      have RD : Hid (Rd encI 0 w5 A4 l) := Lib.hid (by rw [hq]; exact R4.out.drewN q)
      clear hq MC R1 R2 R3 R4 ks
      obtain ⟨a0, a1, a2, a3, _⟩ := cellsF MD.out.head
      obtain ⟨b0, b1, b2, b3, _⟩ := cellsF MD.out.tail.head
      have kf := Lib.hid (sameFacet_any A3 A4 c3 c4 t l w5 RC.out RD.out hl.out)
      go_wp2_with fail
      refine kf.out.mono ?_
      rintro e w6 ⟨rfl, hb⟩
      replace MB := Lib.hid (MD.out.next hb)
      clear hb kf a0 a1 a2 a3 b0 b1 b2 b3 MD
      go_wp2_with fail
      refine (awake6_any _).mono ?_
      rintro e w7 ⟨rfl, hb⟩
      replace MB := Lib.hid (MB.out.next hb)
      clear hb
      go_wp2
      go_ret
      exact ⟨rfl, MB.out.below⟩
    · have e1 : decide ((n : Int) > 60) = false := by simp; omega
      clear hs h60
      go_enter Try.func16, Try.ntmps16
      obtain ⟨d0, d1, d2, _⟩ := row3 MB.out.head
      go_wp2_with fail
      refine (k1.out _ MB.out.below).mono ?_
      rintro e w1 ⟨A1, c1, rfl, h1, h2, h3, h4, h5⟩
      have R1 := Lib.hid (h3.low (Nat.zero_le _))
      replace MB := Lib.hid (MB.out.next h5)
      clear h1 h2 h3 h4 h5 k1 d0 d1 d2
      obtain ⟨d0, d1, d2, _⟩ := row3 MB.out.head
      go_wp2_with fail
      refine (k2.out _ MB.out.below).mono ?_
      rintro e w2 ⟨A2, c2, rfl, h1, h2, h3, h4, h5⟩
      replace R1 := Lib.hid (R1.out.below h5 (Nat.le_refl _))
      have R2 := Lib.hid (h3.low (Nat.zero_le _))
      replace MB := Lib.hid (MB.out.next h5)
      clear h1 h2 h3 h4 h5 k2 d0 d1 d2
      obtain ⟨d0, d1, d2, _⟩ := row3 MB.out.head
      go_wp2_with fail
      refine (k3.out _ MB.out.below).mono ?_
      rintro e w3 ⟨A3, c3, rfl, h1, h2, h3, h4, h5⟩
      replace R1 := Lib.hid (R1.out.below h5 (Nat.le_refl _))
      replace R2 := Lib.hid (R2.out.below h5 (Nat.le_refl _))
      have R3 := Lib.hid (h3.low (Nat.zero_le _))
      replace MB := Lib.hid (MB.out.next h5)
      clear h1 h2 h3 h4 h5 k3 d0 d1 d2
      have MC := Lib.hid (MB.out.add (oF t (.slice A3 l.length c3)))
      have bb : Hid (Below w3.heap.size w3 (w3.alloc (oF t (.slice A3 l.length c3)))) := Lib.hid ((Below.refl _ _).alloc (Nat.le_refl _) _)
      replace R1 := Lib.hid (R1.out.below bb.out (Nat.le_refl _))
      replace R2 := Lib.hid (R2.out.below bb.out (Nat.le_refl _))
      replace R3 := Lib.hid (R3.out.below bb.out (Nat.le_refl _))
      obtain ⟨d0, d1, d2, _⟩ := row3 MC.out.tail.head
      obtain ⟨g0, g1, g2, g3, _⟩ := row3 MB.out.head
      go_wp2_with fail
      clear bb MB g0 g1 g2 g3
      generalize w3.alloc (oF t (.slice A3 l.length c3)) = W at *
      generalize w3.heap.size = FB at *
      refine (k4.out _ MC.out.below).mono ?_
      rintro e w4 ⟨A4, c4, rfl, h1, h2, h3, h4, h5⟩
      replace R1 := Lib.hid (R1.out.below h5 (Nat.le_refl _))
      replace R2 := Lib.hid (R2.out.below h5 (Nat.le_refl _))
      replace R3 := Lib.hid (R3.out.below h5 (Nat.le_refl _))
      have R4 := Lib.hid (h3.low (Nat.zero_le _))
      replace MB := Lib.hid (MC.out.next h5)
      clear h1 h2 h3 h4 h5 k4 d0 d1 d2 MC
      have MC := Lib.hid (MB.out.add (oF t (.slice A4 l.length c4)))
      have bb : Hid (Below w4.heap.size w4 (w4.alloc (oF t (.slice A4 l.length c4)))) := Lib.hid ((Below.refl _ _).alloc (Nat.le_refl _) _)
      replace R1 := Lib.hid (R1.out.below bb.out (Nat.le_refl _))
      replace R2 := Lib.hid (R2.out.below bb.out (Nat.le_refl _))
      replace R3 := Lib.hid (R3.out.below bb.out (Nat.le_refl _))
      replace R4 := Lib.hid (R4.out.below bb.out (Nat.le_refl _))
      have ks := Lib.hid (refSame_any A1 A2 c1 c2 l l _ 0 0 R1.out R2.out hl.out hl.out)
      simp only [decide_true] at ks
      go_wp2_with fail
      clear bb MB
      generalize w4.alloc (oF t (.slice A4 l.length c4)) = W at *
      generalize w4.heap.size = GB at *
      refine ks.out.mono ?_
      rintro e w5 ⟨rfl, q, hq⟩
      have MD : Hid (Mem w _ w5) := Lib.hid (by rw [hq]; exact MC.out.drewN q)
      have RC : Hid (Rd encI 0 w5 A3 l) := Lib.hid (by rw [hq]; exact R3.out.drewN q)
      have RD : Hid (Rd encI 0 w5 A4 l) := Lib.hid (by rw [hq]; exact R4.out.drewN q)
      clear hq MC R1 R2 R3 R4 ks
      obtain ⟨a0, a1, a2, a3, _⟩ := cellsF MD.out.head
      obtain ⟨b0, b1, b2, b3, _⟩ := cellsF MD.out.tail.head
      have kf := Lib.hid (sameFacet_any A3 A4 c3 c4 t l w5 RC.out RD.out hl.out)
      go_wp2_with fail
      refine kf.out.mono ?_
      rintro e w6 ⟨rfl, hb⟩
      replace MB := Lib.hid (MD.out.next hb)
      clear hb kf a0 a1 a2 a3 b0 b1 b2 b3 MD
      go_wp2_with fail
      refine (awake6_any _).mono ?_
      rintro e w7 ⟨rfl, hb⟩
      replace MB := Lib.hid (MB.out.next hb)
      clear hb
      go_wp2
      go_ret
      exact ⟨rfl, MB.out.below⟩
end Go.Proofs.Ytojecaeblgghjaa
