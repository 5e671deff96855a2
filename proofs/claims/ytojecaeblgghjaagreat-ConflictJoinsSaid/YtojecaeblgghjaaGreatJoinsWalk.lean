/-
  ConflictJoins: the walk. (Printed by mkjoins.py; for the Z seat.)
-/
import Derived.Test.YtojecaeblgghjaaGreatConf10
import Derived.Test.YtojecaeblgghjaaGreatReads
set_option linter.unusedVariables false
set_option linter.unusedSimpArgs false
namespace Go.Proofs.YtojecaeblgghjaaGreat
open Go.RowKit Go.Sort LsP

set_option maxHeartbeats 4000000 in
set_option maxRecDepth 100000 in
theorem refPivot_any (A B : Option Addr) (c d : Nat) (s t : T3) (xs ys : List Int) (w : World) (ha : Rd encI 0 w A xs) (hb : Rd encI 0 w B ys) (hx : xs.length ≤ 400000) (hy : ys.length ≤ 400000) :
    Calls Tryz.prog 9 #[encF s A xs.length c, encF t B ys.length d] w fun e w' => e = .returned (.tuple #[.int .i64 (minL (sset (xs ++ ys))), .bool (decide (0 < (sset (xs ++ ys)).length))]) ∧ Below w.heap.size w w' := by
  have MB := Lib.hid (two_start w (oF s (.slice A xs.length c)) (oF t (.slice B ys.length d)))
  have km := Lib.hid (refMerge_any A B c d xs ys ((w.alloc (oF s (.slice A xs.length c))).alloc (oF t (.slice B ys.length d))) (ha.below MB.out.below (Nat.le_refl _)) (hb.below MB.out.below (Nat.le_refl _)) (by omega) (by omega))
  have hlen : Hid ((sset (xs ++ ys)).length ≤ 1000000) := Lib.hid (by have := sset_len (xs ++ ys); rw [List.length_append] at this; omega)
  clear ha hb hx hy
  generalize sset (xs ++ ys) = m at *
  obtain ⟨a0, a1, a2, a3, _⟩ := cellsF MB.out.head
  obtain ⟨b0, b1, b2, b3, _⟩ := cellsF MB.out.tail.head
  go_enter Tryz.func9, Tryz.ntmps9
  go_wp2_with fail
  refine km.out.mono ?_
  rintro e w' ⟨A', c', rfl, h1, h2, h3, h4, h5⟩
  have kl := Lib.hid (refLeast_any A' c' m w' 0 (h3.low (Nat.zero_le _)) hlen.out)
  replace MB := Lib.hid (MB.out.next h5)
  clear h1 h2 h3 h4 h5 km a0 a1 a2 a3 b0 b1 b2 b3
  go_wp2_with fail
  refine kl.out.mono ?_
  rintro e w2 ⟨rfl, rfl⟩
  go_wp2
  go_ret2
  exact ⟨rfl, MB.out.below⟩

theorem joinR_len {xs : List T3} {n : Nat} (av bv : List Int) (a b c p : Int) (h1 : av.length ≤ 1000) (h2 : bv.length ≤ 1000) : (joinR xs n av bv a b c p).2.1.length ≤ 1000000 := by
  unfold joinR
  split
  · simp
  · split
    · have g1 := List.length_filter_le (seesB xs n a b c) ((sset (av ++ bv)).filter (fun v => v != p))
      have g2 := List.length_filter_le (fun v => v != p) (sset (av ++ bv))
      have g3 := sset_len (av ++ bv)
      rw [List.length_append] at g3
      show (((sset (av ++ bv)).filter (fun v => v != p)).filter (seesB xs n a b c)).length ≤ 1000000
      omega
    · simp

theorem tri_start (w : World) (o1 o2 o3' : Obj) : Mem w [(w.heap.size + 1 + 1, o3'), (w.heap.size + 1, o2), (w.heap.size, o1)] (((w.alloc o1).alloc o2).alloc o3') := by
  have h := (((Mem.nil w).add o1).add o2).add o3'
  simp only [World.size_alloc] at h
  exact h

set_option maxHeartbeats 8000000 in
set_option maxRecDepth 100000 in
theorem joins_walk (L A B : Option Addr) (n c' na nb dA dB : Nat) (xs : List T3) (tA tB : T3) (av bv : List Int) (a b c p : Int) (w : World) (hp : InI p) (ha : RdT 0 w L xs) (hn : xs.length = n) (hn2 : n ≤ 9223372036854775807)
    (hA : Rd encI 0 w A av) (hB : Rd encI 0 w B bv) (hla : av.length = na) (hlb : bv.length = nb) :
    Calls Tryz.prog 3 #[.slice L n c', encF tA A na dA, encF tB B nb dB, .agg #[.int .i64 a, .int .i64 b, .int .i64 c], .int .i64 p] w fun e w' => e = .returned (.bool true) ∧ Below w.heap.size w w' := by
  have MB := Lib.hid (tri_start w (oF tA (.slice A na dA)) (oF tB (.slice B nb dB)) (o3 a b c 24))
  by_cases h60 : n > 60
  · have e1 : decide ((n : Int) > 60) = true := by simp; omega
    clear h60 ha hn hA hB hla hlb
    go_enter Tryz.func3, Tryz.ntmps3
    go_wp2_with fail
    refine (awake6_any _).mono ?_
    rintro e w' ⟨rfl, hb⟩
    replace MB := Lib.hid (MB.out.next hb)
    clear hb
    go_wp2
    go_ret
    exact ⟨rfl, MB.out.below⟩
  · have e1 : decide ((n : Int) > 60) = false := by simp; omega
    by_cases ha60 : na > 60
    · have e2 : decide ((na : Int) > 60) = true := by simp; omega
      clear h60 ha60 ha hn hA hB hla hlb
      obtain ⟨a0, a1, a2, a3, _⟩ := cellsF MB.out.tail.tail.head
      go_enter Tryz.func3, Tryz.ntmps3
      go_wp2_with fail
      refine (awake6_any _).mono ?_
      rintro e w' ⟨rfl, hb⟩
      replace MB := Lib.hid (MB.out.next hb)
      clear hb
      go_wp2
      go_ret
      exact ⟨rfl, MB.out.below⟩
    · have e2 : decide ((na : Int) > 60) = false := by simp; omega
      by_cases hb60 : nb > 60
      · have e3 : decide ((nb : Int) > 60) = true := by simp; omega
        clear h60 ha60 hb60 ha hn hA hB hla hlb
        obtain ⟨b0, b1, b2, b3, _⟩ := cellsF MB.out.tail.head
        obtain ⟨a0, a1, a2, a3, _⟩ := cellsF MB.out.tail.tail.head
        go_enter Tryz.func3, Tryz.ntmps3
        go_wp2_with fail
        refine (awake6_any _).mono ?_
        rintro e w' ⟨rfl, hb⟩
        replace MB := Lib.hid (MB.out.next hb)
        clear hb
        go_wp2
        go_ret
        exact ⟨rfl, MB.out.below⟩
      · have e3 : decide ((nb : Int) > 60) = false := by simp; omega
        have k1 : Hid (∀ W, Below w.heap.size w W → _) := Lib.hid (fun W hW => join_any L A B n c' na nb dA dB xs tA tB av bv a b c p W hp (ha.below hW (Nat.le_refl _)) hn hn2 (hA.below hW (Nat.le_refl _)) (hB.below hW (Nat.le_refl _)) hla hlb (by omega) (by omega))
        have k2 : Hid (∀ W, Below w.heap.size w W → _) := Lib.hid (fun W hW => refJoin_any L A B n c' na nb dA dB xs tA tB av bv a b c p W (ha.below hW (Nat.le_refl _)) hn hn2 (hA.below hW (Nat.le_refl _)) (hB.below hW (Nat.le_refl _)) hla hlb (by omega) (by omega))
        have k3 : Hid (∀ W, Below w.heap.size w W → Calls Tryz.prog 8 #[encF tA A na dA, encF tB B nb dB] W fun e w' => e = .returned (.tuple #[.int .i64 (minL (sset (av ++ bv))), .bool (decide (0 < (sset (av ++ bv)).length))]) ∧ Below W.heap.size W w') := Lib.hid (fun W hW => by
          have h := pivot_any A B dA dB tA tB av bv W (hA.below hW (Nat.le_refl _)) (hB.below hW (Nat.le_refl _)) (by omega) (by omega)
          rw [hla, hlb] at h
          exact h)
        have k4 : Hid (∀ W, Below w.heap.size w W → Calls Tryz.prog 9 #[encF tA A na dA, encF tB B nb dB] W fun e w' => e = .returned (.tuple #[.int .i64 (minL (sset (av ++ bv))), .bool (decide (0 < (sset (av ++ bv)).length))]) ∧ Below W.heap.size W w') := Lib.hid (fun W hW => by
          have h := refPivot_any A B dA dB tA tB av bv W (hA.below hW (Nat.le_refl _)) (hB.below hW (Nat.le_refl _)) (by omega) (by omega)
          rw [hla, hlb] at h
          exact h)
        have hl := Lib.hid (joinR_len (xs := xs) (n := n) av bv a b c p (by omega) (by omega))
        clear h60 ha60 hb60 ha hn hA hB hla hlb
        generalize (joinR xs n av bv a b c p).1 = t at *
        generalize (joinR xs n av bv a b c p).2.1 = l at *
        generalize (joinR xs n av bv a b c p).2.2 = er at *
        generalize minL (sset (av ++ bv)) = mn at *
        generalize decide (0 < (sset (av ++ bv)).length) = mb at *
        have q1 : (er == er) = true := by simp
        have q2 : (mn == mn) = true := by simp
        have q3 : (mb == mb) = true := by simp
        obtain ⟨d0, d1, d2, _⟩ := row3 MB.out.head
        obtain ⟨b0, b1, b2, b3, _⟩ := cellsF MB.out.tail.head
        obtain ⟨a0, a1, a2, a3, _⟩ := cellsF MB.out.tail.tail.head
        go_enter Tryz.func3, Tryz.ntmps3
        go_wp2_with fail
        refine (k1.out _ MB.out.below).mono ?_
        rintro e w1 ⟨A1, c1, rfl, h1, h2, h3, h4, h5⟩
        have R1 := Lib.hid (h3.low (Nat.zero_le _))
        replace MB := Lib.hid (MB.out.next h5)
        clear h1 h2 h3 h4 h5 k1
        clear d0 d1 d2 b0 b1 b2 b3 a0 a1 a2 a3
        have bb : Hid (Below w1.heap.size w1 (w1.alloc (oF t (.slice A1 l.length c1)))) := Lib.hid ((Below.refl _ _).alloc (Nat.le_refl _) _)
        replace R1 := Lib.hid (R1.out.below bb.out (Nat.le_refl _))
        have MC := Lib.hid (MB.out.add (oF t (.slice A1 l.length c1)))
        replace MB := MC
        clear MC bb
        obtain ⟨d0, d1, d2, _⟩ := row3 MB.out.tail.head
        obtain ⟨b0, b1, b2, b3, _⟩ := cellsF MB.out.tail.tail.head
        obtain ⟨a0, a1, a2, a3, _⟩ := cellsF MB.out.tail.tail.tail.head
        go_wp2_with fail
        generalize w1.alloc (oF t (.slice A1 l.length c1)) = W at *
        generalize w1.heap.size = BX at *
        refine (k2.out _ MB.out.below).mono ?_
        rintro e w2 ⟨A2, c2, rfl, h1, h2, h3, h4, h5⟩
        replace R1 := Lib.hid (R1.out.below h5 (Nat.le_refl _))
        have R2 := Lib.hid (h3.low (Nat.zero_le _))
        replace MB := Lib.hid (MB.out.next h5)
        clear h1 h2 h3 h4 h5 k2
        clear d0 d1 d2 b0 b1 b2 b3 a0 a1 a2 a3
        have bb : Hid (Below w2.heap.size w2 (w2.alloc (oF t (.slice A2 l.length c2)))) := Lib.hid ((Below.refl _ _).alloc (Nat.le_refl _) _)
        replace R1 := Lib.hid (R1.out.below bb.out (Nat.le_refl _))
        replace R2 := Lib.hid (R2.out.below bb.out (Nat.le_refl _))
        have MC := Lib.hid (MB.out.add (oF t (.slice A2 l.length c2)))
        replace MB := MC
        clear MC bb
        obtain ⟨d0, d1, d2, _⟩ := row3 MB.out.tail.tail.head
        obtain ⟨b0, b1, b2, b3, _⟩ := cellsF MB.out.tail.tail.tail.head
        obtain ⟨a0, a1, a2, a3, _⟩ := cellsF MB.out.tail.tail.tail.tail.head
        go_wp2_with fail
        generalize w2.alloc (oF t (.slice A2 l.length c2)) = W at *
        generalize w2.heap.size = BY at *
        refine (k3.out _ MB.out.below).mono ?_
        rintro e w3 ⟨rfl, hb⟩
        replace R1 := Lib.hid (R1.out.below hb (Nat.le_refl _))
        replace R2 := Lib.hid (R2.out.below hb (Nat.le_refl _))
        replace MB := Lib.hid (MB.out.next hb)
        clear hb k3
        clear d0 d1 d2 b0 b1 b2 b3 a0 a1 a2 a3
        obtain ⟨d0, d1, d2, _⟩ := row3 MB.out.tail.tail.head
        obtain ⟨b0, b1, b2, b3, _⟩ := cellsF MB.out.tail.tail.tail.head
        obtain ⟨a0, a1, a2, a3, _⟩ := cellsF MB.out.tail.tail.tail.tail.head
        go_wp2_with fail
        refine (k4.out _ MB.out.below).mono ?_
        rintro e w4 ⟨rfl, hb⟩
        replace R1 := Lib.hid (R1.out.below hb (Nat.le_refl _))
        replace R2 := Lib.hid (R2.out.below hb (Nat.le_refl _))
        replace MB := Lib.hid (MB.out.next hb)
        clear hb k4
        clear d0 d1 d2 b0 b1 b2 b3 a0 a1 a2 a3
        obtain ⟨y0, y1, y2, y3, _⟩ := cellsF MB.out.head
        obtain ⟨x0, x1, x2, x3, _⟩ := cellsF MB.out.tail.head
        have kf := Lib.hid (sameFacet_any A1 A2 c1 c2 t l w4 R1.out R2.out hl.out)
        go_wp2_with fail
        refine kf.out.mono ?_
        rintro e w5 ⟨rfl, hb⟩
        replace MB := Lib.hid (MB.out.next hb)
        clear hb kf x0 x1 x2 x3 y0 y1 y2 y3 R1 R2
        go_wp2_with fail
        refine (awake6_any _).mono ?_
        rintro e w6 ⟨rfl, hb⟩
        replace MB := Lib.hid (MB.out.next hb)
        clear hb
        go_wp2
        go_ret
        exact ⟨rfl, MB.out.below⟩
end Go.Proofs.YtojecaeblgghjaaGreat
