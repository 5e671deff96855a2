/-
  ConflictLent: the walk. (Printed by mklent6.py.)
-/
import Derived.Test.YtojecaeblgghjaaConf12
import Derived.Test.YtojecaeblgghjaaOfWalk
import Derived.Deep.RegionHeld3
set_option linter.unusedVariables false
set_option linter.unusedSimpArgs false
namespace Go.Proofs.Ytojecaeblgghjaa
open Go.RowKit Go.Sort LsP

theorem wrap64_in6 (n : Int) (h : -9223372036854775808 ≤ n ∧ n ≤ 9223372036854775807) : wrap64 n = n := by unfold wrap64; omega
theorem meas6 (i n : Nat) (h : i + 1 ≤ n ∧ n ≤ 1000000) : n - (intOf (.int .i64 (wrap64 ((i : Int) + 1)))).toNat < n - (intOf (.int .i64 (i : Int))).toNat := by
  rw [wrap64_in6 ((i : Int) + 1) (by omega)]
  simp only [intOf]
  omega
theorem joinR_len6 {xs : List T3} {n : Nat} (av bv : List Int) (a b c p : Int) (h1 : av.length ≤ 1000) (h2 : bv.length ≤ 1000) : (joinR xs n av bv a b c p).2.1.length ≤ 1000000 := by
  unfold joinR
  split
  · simp
  · split
    · have g1 := List.length_filter_le (seesB xs n a b c) ((sset (av ++ bv)).filter (fun v => v != p))
      have g2 := List.length_filter_le (fun v => v != p) (sset (av ++ bv))
      have g3 := sset_len (av ++ bv)
      rw [List.length_append] at g3
      show (((sset (av ++ bv)).filter (fun v => v != p)).filter (seesB xs n a b c)).length ≤ 1000000
      omega
    · simp

theorem three_st (w : World) (o1 o2 o3' : Obj) : Mem w [(w.heap.size + 1 + 1, o3'), (w.heap.size + 1, o2), (w.heap.size, o1)] (((w.alloc o1).alloc o2).alloc o3') := by
  have h := (((Mem.nil w).add o1).add o2).add o3'
  simp only [World.size_alloc] at h
  exact h

set_option maxHeartbeats 16000000 in
set_option maxRecDepth 100000 in
theorem lent6_walk (L A B : Option Addr) (n c' na nb dA dB : Nat) (xs : List T3) (tA tB : T3) (av bv : List Int) (a b c p : Int) (w : World) (hp : InI p) (ha : RdT 0 w L xs) (hn : xs.length = n) (hn2 : n ≤ 9223372036854775807)
    (hA : Rd encI 0 w A av) (hB : Rd encI 0 w B bv) (hlA : av.length = na) (hlB : bv.length = nb) :
    Calls Try.prog 17 #[.slice L n c', encF tA A na dA, encF tB B nb dB, .agg #[.int .i64 a, .int .i64 b, .int .i64 c], .int .i64 p] w fun e w' => e = .returned (.bool true) ∧ Below w.heap.size w w' := by
  have MB := Lib.hid (three_st w (oF tA (.slice A na dA)) (oF tB (.slice B nb dB)) (o3 a b c 50))
  by_cases h60 : n > 40
  · have e1 : decide ((n : Int) > 40) = true := by simp; omega
    clear h60 ha hn hA hB hlA hlB
    go_enter Try.func17, Try.ntmps17
    go_wp2_with fail
    refine (awake6_any _).mono ?_
    rintro e w' ⟨rfl, hb⟩
    replace MB := Lib.hid (MB.out.next hb)
    clear hb
    go_wp2
    go_ret
    exact ⟨rfl, MB.out.below⟩
  · have e1 : decide ((n : Int) > 40) = false := by simp; omega
    by_cases ha60 : na > 40
    · have e2 : decide ((na : Int) > 40) = true := by simp; omega
      clear h60 ha60 ha hn hA hB hlA hlB
      obtain ⟨a0, a1, a2, a3, _⟩ := cellsF MB.out.tail.tail.head
      go_enter Try.func17, Try.ntmps17
      go_wp2_with fail
      refine (awake6_any _).mono ?_
      rintro e w' ⟨rfl, hb⟩
      replace MB := Lib.hid (MB.out.next hb)
      clear hb
      go_wp2
      go_ret
      exact ⟨rfl, MB.out.below⟩
    · have e2 : decide ((na : Int) > 40) = false := by simp; omega
      by_cases hb60 : nb > 40
      · have e3 : decide ((nb : Int) > 40) = true := by simp; omega
        clear h60 ha60 hb60 ha hn hA hB hlA hlB
        obtain ⟨b0, b1, b2, b3, _⟩ := cellsF MB.out.tail.head
        obtain ⟨a0, a1, a2, a3, _⟩ := cellsF MB.out.tail.tail.head
        go_enter Try.func17, Try.ntmps17
        go_wp2_with fail
        refine (awake6_any _).mono ?_
        rintro e w' ⟨rfl, hb⟩
        replace MB := Lib.hid (MB.out.next hb)
        clear hb
        go_wp2
        go_ret
        exact ⟨rfl, MB.out.below⟩
      · have e3 : decide ((nb : Int) > 40) = false := by simp; omega
        obtain ⟨a0, a1, a2, a3, _⟩ := cellsF MB.out.tail.tail.head
        obtain ⟨b0, b1, b2, b3, _⟩ := cellsF MB.out.tail.head
        have RA0 := Lib.hid hA
        have RB0 := Lib.hid hB
        have RX0 := Lib.hid ha
        clear hA hB ha
        go_enter Try.func17, Try.ntmps17
        go_upto_region 3 with fail
        generalize ((w.alloc (oF tA (.slice A na dA))).alloc (oF tB (.slice B nb dB))).alloc (o3 a b c 50) = W0 at *
        clear a0 a1 a2 a3 b0 b1 b2 b3
        have MB1 := (MB.out.add (.cells #[] 3 (0, 0))).tail
        have oE1 := own_lit (enc := encI) (w := W0) (t := 3) [] (by decide)
        have rE1 := RA0.out.below MB1.below (Nat.le_refl _)
        obtain ⟨P1, pc1, Wa1, runA, Ma, ownA, hBa⟩ := appA_step (c := dA) ((Mem.nil W0).add (.cells #[] 3 (0, 0))).tail (fun p hp => by cases hp) (Nat.le_refl _) oE1 (by simp) rE1 (by rw [hlA]; simp only [List.length_nil]; omega)
        rw [hlA] at runA ownA
        obtain ⟨U1, cu1, Wb1, runB, Mb, ownB, hBb⟩ := ap1_step Ma (fun p hp => by cases hp) (Nat.le_refl _) ownA hBa 7701 (by first | omega | (simp only [List.length_nil]; omega))
        simp only [Nat.zero_add, List.nil_append, List.length_nil] at runA runB ownB
        obtain ⟨x0, x1, x2, x3, _⟩ := cellsF MB1.tail.tail.head
        have runA := Lib.hid runA
        have runB := Lib.hid runB
        have Mb := Lib.hid Mb
        obtain ⟨q1, q2, q3, q4⟩ := Rd.own ownB
        have RU1 : Hid (Rd encI 0 Wb1 U1 (av ++ [7701])) := Lib.hid (q1.low (Nat.zero_le _))
        have hcu1 : Hid (na + 1 ≤ cu1 ∧ cu1 ≤ maxLen) := Lib.hid ⟨q3, q4⟩
        obtain ⟨g1, hg1⟩ : ∃ g, U1 = some ⟨g, 0, none⟩ := own_some ownB (by omega)
        clear oE1 rE1 Ma ownA hBa hBb ownB q1 q2 q3 q4 MB1
        go_upto_region 4 with (first
          | (at_builtin; refine wpList_append_run (o := ⟨some 48, _, _, _, _, _⟩) rfl _ _ _ rfl rfl rfl runA.out ?_)
          | (at_builtin; refine wpList_append_run (o := ⟨some 50, _, _, _, _, _⟩) rfl _ _ _ rfl rfl rfl runB.out ?_))
        clear runA runB x0 x1 x2 x3
        subst hg1
        replace MB := Lib.hid (MB.out.next Mb.out.below)
        clear Mb
        have MB2 := (MB.out.add (.cells #[] 3 (0, 0))).tail
        have oE2 := own_lit (enc := encI) (w := Wb1) (t := 3) [] (by decide)
        have rE2 := RB0.out.below MB2.below (Nat.le_refl _)
        obtain ⟨P2, pc2, Wa2, runA, Ma, ownA, hBa⟩ := appA_step (c := dB) ((Mem.nil Wb1).add (.cells #[] 3 (0, 0))).tail (fun p hp => by cases hp) (Nat.le_refl _) oE2 (by simp) rE2 (by rw [hlB]; simp only [List.length_nil]; omega)
        rw [hlB] at runA ownA
        obtain ⟨U2, cu2, Wb2, runB, Mb, ownB, hBb⟩ := ap1_step Ma (fun p hp => by cases hp) (Nat.le_refl _) ownA hBa 7702 (by first | omega | (simp only [List.length_nil]; omega))
        simp only [Nat.zero_add, List.nil_append, List.length_nil] at runA runB ownB
        obtain ⟨x0, x1, x2, x3, _⟩ := cellsF MB2.tail.head
        have runA := Lib.hid runA
        have runB := Lib.hid runB
        have Mb := Lib.hid Mb
        obtain ⟨q1, q2, q3, q4⟩ := Rd.own ownB
        have RU2 : Hid (Rd encI 0 Wb2 U2 (bv ++ [7702])) := Lib.hid (q1.low (Nat.zero_le _))
        have hcu2 : Hid (nb + 1 ≤ cu2 ∧ cu2 ≤ maxLen) := Lib.hid ⟨q3, q4⟩
        obtain ⟨g2, hg2⟩ : ∃ g, U2 = some ⟨g, 0, none⟩ := own_some ownB (by omega)
        clear oE2 rE2 Ma ownA hBa hBb ownB q1 q2 q3 q4 MB2
        go_wp2_with (first
          | (at_builtin; refine wpList_append_run (o := ⟨some 54, _, _, _, _, _⟩) rfl _ _ _ rfl rfl rfl runA.out ?_)
          | (at_builtin; refine wpList_append_run (o := ⟨some 56, _, _, _, _, _⟩) rfl _ _ _ rfl rfl rfl runB.out ?_))
        clear runA runB x0 x1 x2 x3
        subst hg2
        replace RU1 : Hid (Rd encI 0 Wb2 (some ⟨g1, 0, none⟩) (av ++ [7701])) := Lib.hid (RU1.out.below Mb.out.below (Nat.le_refl _))
        replace MB := Lib.hid (MB.out.next Mb.out.below)
        clear Mb
        rename World => Q
        have HBw := Lib.hid MB.out.below
        have RA : Hid (Rd encI 0 Q A av) := Lib.hid (RA0.out.below HBw.out (Nat.le_refl _))
        have RB : Hid (Rd encI 0 Q B bv) := Lib.hid (RB0.out.below HBw.out (Nat.le_refl _))
        have RX : Hid (RdT 0 Q L xs) := Lib.hid (RX0.out.below HBw.out (Nat.le_refl _))
        have MQ : Hid (Mem Q [(w.heap.size + 1 + 1, o3 a b c 50), (w.heap.size + 1, oF tB (.slice B nb dB)), (w.heap.size, oF tA (.slice A na dA))] Q) := Lib.hid ((((Mem.nil Q).cons MB.out.tail.tail.head).cons MB.out.tail.head).cons MB.out.head)
        have HQ3 := Lib.hid (MB.out.lt (p := (w.heap.size + 1 + 1, o3 a b c 50)) (by simp))
        simp only at HQ3
        replace MB := MQ
        clear MQ RA0 RB0 RX0
        have hcu1' := hcu1.out
        have hcu2' := hcu2.out
        unfold maxLen at hcu1' hcu2'
        have hcb1 : na ≤ cu1 := by omega
        have hcb2 : nb ≤ cu2 := by omega
        have k1 : Hid (∀ W, Below Q.heap.size Q W → Calls Try.prog 74 #[.slice L n c', encF tA (some ⟨g1, 0, none⟩) na cu1, encF tB (some ⟨g2, 0, none⟩) nb cu2, .agg #[.int .i64 a, .int .i64 b, .int .i64 c], .int .i64 p] W (ToldF W (joinR xs n av bv a b c p).1 (joinR xs n av bv a b c p).2.1 (joinR xs n av bv a b c p).2.2)) := Lib.hid (fun W hW => by
          have h1 := (RU1.out.below hW (Nat.le_refl _)).take na
          have h2 := (RU2.out.below hW (Nat.le_refl _)).take nb
          rw [List.take_left' hlA] at h1
          rw [List.take_left' hlB] at h2
          exact join_any L (some ⟨g1, 0, none⟩) (some ⟨g2, 0, none⟩) n c' na nb cu1 cu2 xs tA tB av bv a b c p W hp (RX.out.below hW (Nat.le_refl _)) hn hn2 h1 h2 hlA hlB (by omega) (by omega))
        have k3 : Hid (∀ W, Below Q.heap.size Q W → Calls Try.prog 69 #[.slice L n c', .agg #[.int .i64 a, .int .i64 b, .int .i64 c]] W (Told2 W (ofR xs n a b c).1 (ofR xs n a b c).2)) := Lib.hid (fun W hW => of_any L n c' xs a b c W (RX.out.below hW (Nat.le_refl _)) hn hn2)
        have k5 : Hid (∀ W, Below Q.heap.size Q W → Calls Try.prog 75 #[.slice L n c', encF tA A na dA, encF tB B nb dB, .agg #[.int .i64 a, .int .i64 b, .int .i64 c], .int .i64 p] W (ToldF W (joinR xs n av bv a b c p).1 (joinR xs n av bv a b c p).2.1 (joinR xs n av bv a b c p).2.2)) := Lib.hid (fun W hW => refJoin_any L A B n c' na nb dA dB xs tA tB av bv a b c p W (RX.out.below hW (Nat.le_refl _)) hn hn2 (RA.out.below hW (Nat.le_refl _)) (RB.out.below hW (Nat.le_refl _)) hlA hlB (by omega) (by omega))
        have k6 : Hid (∀ W, Below Q.heap.size Q W → Calls Try.prog 70 #[.slice L n c', .agg #[.int .i64 a, .int .i64 b, .int .i64 c]] W (Told2 W (ofR xs n a b c).1 (ofR xs n a b c).2)) := Lib.hid (fun W hW => refConfOf_any L n c' xs a b c W (RX.out.below hW (Nat.le_refl _)) hn hn2)
        have hll := Lib.hid (joinR_len6 (xs := xs) (n := n) av bv a b c p (by omega) (by omega))
        have hllo := Lib.hid (ofR_len hn a b c)
        generalize (joinR xs n av bv a b c p).1 = t at *
        generalize (joinR xs n av bv a b c p).2.1 = l at *
        generalize (joinR xs n av bv a b c p).2.2 = er at *
        generalize (ofR xs n a b c).1 = lo at *
        generalize (ofR xs n a b c).2 = er2 at *
        have q1 : (er == er) = true := by simp
        have q2 : (er2 == er2) = true := by simp
        refine wp_region_held_drew (S := fun w' => Mem Q [(w.heap.size + 1 + 1, o3 a b c 50), (w.heap.size + 1, oF tB (.slice B nb dB)), (w.heap.size, oF tA (.slice A na dA))] w') (by kernel_rfl) MB.out.drew (fun hHeld => ?_)
        replace MB := Lib.hid MB.out.drew
        generalize World.drew Q = wd at *
        refine wpAnyH_take (i := 0) (oi := ?o1) (v := ?v1) ?hi1 (by kernel_rfl) (by kernel_rfl) (by kernel_rfl) ?hQ1 ?hy1 (by assumption) ?rest1
        case hi1 => (simp only [List.getElem?_toArray, List.getElem?_cons_succ, List.getElem?_cons_zero]; rfl)
        case hQ1 => exact fun _ _ _ h => h
        case hy1 => (refine Or.inl ⟨by rfl, ?_⟩; intro w' hSw; obtain ⟨b0, b1, b2, b3, _⟩ := cellsF hSw.tail.head; obtain ⟨a0, a1, a2, a3, _⟩ := cellsF hSw.tail.tail.head; go_simp; (try with_reducible rfl))
        try simp only [Act.put, List.setIfInBounds_toArray, List.set_cons_zero, List.set_cons_succ]
        refine wpAnyH_take (i := 1) (oi := ?o2) (v := ?v2) ?hi2 (by kernel_rfl) (by kernel_rfl) (by kernel_rfl) ?hQ2 ?hy2 (by assumption) ?rest2
        case hi2 => (simp only [List.getElem?_toArray, List.getElem?_cons_succ, List.getElem?_cons_zero]; rfl)
        case hQ2 => exact fun _ _ _ h => h
        case hy2 => (refine Or.inl ⟨by rfl, ?_⟩; intro w' hSw; obtain ⟨b0, b1, b2, b3, _⟩ := cellsF hSw.tail.head; obtain ⟨a0, a1, a2, a3, _⟩ := cellsF hSw.tail.tail.head; go_simp; (try with_reducible rfl))
        try simp only [Act.put, List.setIfInBounds_toArray, List.set_cons_zero, List.set_cons_succ]
        refine wpAnyH_take (i := 2) (oi := ?o3) (v := ?v3) ?hi3 (by kernel_rfl) (by kernel_rfl) (by kernel_rfl) ?hQ3 ?hy3 (by assumption) ?rest3
        case hi3 => (simp only [List.getElem?_toArray, List.getElem?_cons_succ, List.getElem?_cons_zero]; rfl)
        case hQ3 => exact fun _ _ _ h => h
        case hy3 => (refine Or.inl ⟨by rfl, ?_⟩; intro w' hSw; obtain ⟨b0, b1, b2, b3, _⟩ := cellsF hSw.tail.head; obtain ⟨a0, a1, a2, a3, _⟩ := cellsF hSw.tail.tail.head; go_simp; (try with_reducible rfl))
        try simp only [Act.put, List.setIfInBounds_toArray, List.set_cons_zero, List.set_cons_succ]
        refine wpAnyH_take (i := 3) (oi := ?o4) (v := ?v4) ?hi4 (by kernel_rfl) (by kernel_rfl) (by kernel_rfl) ?hQ4 ?hy4 (by assumption) ?rest4
        case hi4 => (simp only [List.getElem?_toArray, List.getElem?_cons_succ, List.getElem?_cons_zero]; rfl)
        case hQ4 => exact fun _ _ _ h => h
        case hy4 => (refine Or.inl ⟨by rfl, ?_⟩; intro w' hSw; obtain ⟨b0, b1, b2, b3, _⟩ := cellsF hSw.tail.head; obtain ⟨a0, a1, a2, a3, _⟩ := cellsF hSw.tail.tail.head; go_simp; (try with_reducible rfl))
        try simp only [Act.put, List.setIfInBounds_toArray, List.set_cons_zero, List.set_cons_succ]
        refine wpAnyH_take (i := 4) (oi := ?o5) (v := ?v5) ?hi5 (by kernel_rfl) (by kernel_rfl) (by kernel_rfl) ?hQ5 ?hy5 (by assumption) ?rest5
        case hi5 => (simp only [List.getElem?_toArray, List.getElem?_cons_succ, List.getElem?_cons_zero]; rfl)
        case hQ5 => exact fun _ _ _ h => h
        case hy5 => (refine Or.inl ⟨by rfl, ?_⟩; intro w' hSw; obtain ⟨b0, b1, b2, b3, _⟩ := cellsF hSw.tail.head; obtain ⟨a0, a1, a2, a3, _⟩ := cellsF hSw.tail.tail.head; go_simp; (try with_reducible rfl))
        try simp only [Act.put, List.setIfInBounds_toArray, List.set_cons_zero, List.set_cons_succ]
        refine wpAnyH_take (i := 5) (oi := ?o6) (v := ?v6) ?hi6 (by kernel_rfl) (by kernel_rfl) (by kernel_rfl) ?hQ6 ?hy6 (by assumption) ?rest6
        case hi6 => (simp only [List.getElem?_toArray, List.getElem?_cons_succ, List.getElem?_cons_zero]; rfl)
        case hQ6 => exact fun _ _ _ h => h
        case hy6 => (refine Or.inl ⟨by rfl, ?_⟩; intro w' hSw; obtain ⟨b0, b1, b2, b3, _⟩ := cellsF hSw.tail.head; obtain ⟨a0, a1, a2, a3, _⟩ := cellsF hSw.tail.tail.head; go_simp; (try with_reducible rfl))
        try simp only [Act.put, List.setIfInBounds_toArray, List.set_cons_zero, List.set_cons_succ]
        refine wpAnyH_take (i := 6) (oi := ?o7) (v := ?v7) ?hi7 (by kernel_rfl) (by kernel_rfl) (by kernel_rfl) ?hQ7 ?hy7 (by assumption) ?rest7
        case hi7 => (simp only [List.getElem?_toArray, List.getElem?_cons_succ, List.getElem?_cons_zero]; rfl)
        case hQ7 => exact fun _ _ _ h => h
        case hy7 => (refine Or.inl ⟨by rfl, ?_⟩; intro w' hSw; obtain ⟨b0, b1, b2, b3, _⟩ := cellsF hSw.tail.head; obtain ⟨a0, a1, a2, a3, _⟩ := cellsF hSw.tail.tail.head; go_simp; (try with_reducible rfl))
        try simp only [Act.put, List.setIfInBounds_toArray, List.set_cons_zero, List.set_cons_succ]
        refine wpAnyH_take (i := 7) (oi := ?o8) (v := ?v8) ?hi8 (by kernel_rfl) (by kernel_rfl) (by kernel_rfl) ?hQ8 ?hy8 (by assumption) ?rest8
        case hi8 => (simp only [List.getElem?_toArray, List.getElem?_cons_succ, List.getElem?_cons_zero]; rfl)
        case hQ8 => exact fun _ _ _ h => h
        case hy8 => (refine Or.inl ⟨by rfl, ?_⟩; intro w' hSw; obtain ⟨b0, b1, b2, b3, _⟩ := cellsF hSw.tail.head; obtain ⟨a0, a1, a2, a3, _⟩ := cellsF hSw.tail.tail.head; go_simp; (try with_reducible rfl))
        try simp only [Act.put, List.setIfInBounds_toArray, List.set_cons_zero, List.set_cons_succ]
        refine wpAnyH_ready (rs := [8]) (by kernel_rfl) (by simp) ?_
        refine AllReadyH.cons (o := ?o10) ?hi10 (fun K hK => ?rest10) AllReadyH.nil
        case hi10 => (simp only [List.getElem?_toArray, List.getElem?_cons_succ, List.getElem?_cons_zero]; rfl)
        go_simp
        have AP := Lib.hid MB.out.apart
        have LE := Lib.hid MB.out.above
        replace MB := Lib.hid (MB.out.add (oF ⟨0, 0, 0⟩ (.slice none 0 0)))
        refine hK.out _ _ MB.out.tail (fun hHeld => ?_)
        clear hK K
        try simp only [Act.put, List.setIfInBounds_toArray, List.set_cons_zero, List.set_cons_succ]
        generalize hAA : World.heap wd = hp' at *
        generalize hp'.size = BC at *
        generalize World.alloc wd (oF ⟨0, 0, 0⟩ (.slice none 0 0)) = wa at *
        clear hAA
        refine wpAnyH_ready (rs := [9]) (by kernel_rfl) (by simp) ?_
        refine AllReadyH.cons (o := ?o12) ?hi12 (fun K hK => ?rest12) AllReadyH.nil
        case hi12 => (simp only [List.getElem?_toArray, List.getElem?_cons_succ, List.getElem?_cons_zero]; rfl)
        obtain ⟨g0, g1, g2, g3, f0, f1, f2, f3⟩ := cellsF MB.out.head
        go_simp
        clear g0 g1 g2 g3 f0 f1 f2 f3
        have MC : Mem Q [(BC, oF tA (.slice (some ⟨g1, 0, none⟩) na cu1)), (w.heap.size + 1 + 1, o3 a b c 50), (w.heap.size + 1, oF tB (.slice B nb dB)), (w.heap.size, oF tA (.slice A na dA))] _ := (((MB.out.set AP.out LE.out 0 (.int .i64 tA.a)).set AP.out LE.out 1 (.int .i64 tA.b)).set AP.out LE.out 2 (.int .i64 tA.c)).set AP.out LE.out 3 (.slice (some ⟨g1, 0, none⟩) na cu1)
        replace MB := Lib.hid MC
        clear MC
        refine hK.out _ _ MB.out.tail (fun hHeld => ?_)
        clear hK K
        try simp only [Act.put, List.setIfInBounds_toArray, List.set_cons_zero, List.set_cons_succ]
        refine wpAnyH_done (by kernel_rfl) ?_ _
        have LEBC := LE
        clear LE AP
        generalize hWX : World.setCell _ ⟨BC, 3, none⟩ _ = WBC at *
        clear hWX
        go_wp2_with fail
        refine wp_region_held_drew (S := fun w' => Mem Q [(BC, oF tA (.slice (some ⟨g1, 0, none⟩) na cu1)), (w.heap.size + 1 + 1, o3 a b c 50), (w.heap.size + 1, oF tB (.slice B nb dB)), (w.heap.size, oF tA (.slice A na dA))] w') (by kernel_rfl) MB.out.drew (fun hHeld => ?_)
        replace MB := Lib.hid MB.out.drew
        generalize World.drew WBC = wd at *
        refine wpAnyH_take (i := 0) (oi := ?o13) (v := ?v13) ?hi13 (by kernel_rfl) (by kernel_rfl) (by kernel_rfl) ?hQ13 ?hy13 (by assumption) ?rest13
        case hi13 => (simp only [List.getElem?_toArray, List.getElem?_cons_succ, List.getElem?_cons_zero]; rfl)
        case hQ13 => exact fun _ _ _ h => h
        case hy13 => (refine Or.inl ⟨by rfl, ?_⟩; intro w' hSw; obtain ⟨b0, b1, b2, b3, _⟩ := cellsF hSw.tail.tail.head; obtain ⟨a0, a1, a2, a3, _⟩ := cellsF hSw.tail.tail.tail.head; go_simp; (try with_reducible rfl))
        try simp only [Act.put, List.setIfInBounds_toArray, List.set_cons_zero, List.set_cons_succ]
        refine wpAnyH_take (i := 1) (oi := ?o14) (v := ?v14) ?hi14 (by kernel_rfl) (by kernel_rfl) (by kernel_rfl) ?hQ14 ?hy14 (by assumption) ?rest14
        case hi14 => (simp only [List.getElem?_toArray, List.getElem?_cons_succ, List.getElem?_cons_zero]; rfl)
        case hQ14 => exact fun _ _ _ h => h
        case hy14 => (refine Or.inl ⟨by rfl, ?_⟩; intro w' hSw; obtain ⟨b0, b1, b2, b3, _⟩ := cellsF hSw.tail.tail.head; obtain ⟨a0, a1, a2, a3, _⟩ := cellsF hSw.tail.tail.tail.head; go_simp; (try with_reducible rfl))
        try simp only [Act.put, List.setIfInBounds_toArray, List.set_cons_zero, List.set_cons_succ]
        refine wpAnyH_take (i := 2) (oi := ?o15) (v := ?v15) ?hi15 (by kernel_rfl) (by kernel_rfl) (by kernel_rfl) ?hQ15 ?hy15 (by assumption) ?rest15
        case hi15 => (simp only [List.getElem?_toArray, List.getElem?_cons_succ, List.getElem?_cons_zero]; rfl)
        case hQ15 => exact fun _ _ _ h => h
        case hy15 => (refine Or.inl ⟨by rfl, ?_⟩; intro w' hSw; obtain ⟨b0, b1, b2, b3, _⟩ := cellsF hSw.tail.tail.head; obtain ⟨a0, a1, a2, a3, _⟩ := cellsF hSw.tail.tail.tail.head; go_simp; (try with_reducible rfl))
        try simp only [Act.put, List.setIfInBounds_toArray, List.set_cons_zero, List.set_cons_succ]
        refine wpAnyH_take (i := 3) (oi := ?o16) (v := ?v16) ?hi16 (by kernel_rfl) (by kernel_rfl) (by kernel_rfl) ?hQ16 ?hy16 (by assumption) ?rest16
        case hi16 => (simp only [List.getElem?_toArray, List.getElem?_cons_succ, List.getElem?_cons_zero]; rfl)
        case hQ16 => exact fun _ _ _ h => h
        case hy16 => (refine Or.inl ⟨by rfl, ?_⟩; intro w' hSw; obtain ⟨b0, b1, b2, b3, _⟩ := cellsF hSw.tail.tail.head; obtain ⟨a0, a1, a2, a3, _⟩ := cellsF hSw.tail.tail.tail.head; go_simp; (try with_reducible rfl))
        try simp only [Act.put, List.setIfInBounds_toArray, List.set_cons_zero, List.set_cons_succ]
        refine wpAnyH_take (i := 4) (oi := ?o17) (v := ?v17) ?hi17 (by kernel_rfl) (by kernel_rfl) (by kernel_rfl) ?hQ17 ?hy17 (by assumption) ?rest17
        case hi17 => (simp only [List.getElem?_toArray, List.getElem?_cons_succ, List.getElem?_cons_zero]; rfl)
        case hQ17 => exact fun _ _ _ h => h
        case hy17 => (refine Or.inl ⟨by rfl, ?_⟩; intro w' hSw; obtain ⟨b0, b1, b2, b3, _⟩ := cellsF hSw.tail.tail.head; obtain ⟨a0, a1, a2, a3, _⟩ := cellsF hSw.tail.tail.tail.head; go_simp; (try with_reducible rfl))
        try simp only [Act.put, List.setIfInBounds_toArray, List.set_cons_zero, List.set_cons_succ]
        refine wpAnyH_take (i := 5) (oi := ?o18) (v := ?v18) ?hi18 (by kernel_rfl) (by kernel_rfl) (by kernel_rfl) ?hQ18 ?hy18 (by assumption) ?rest18
        case hi18 => (simp only [List.getElem?_toArray, List.getElem?_cons_succ, List.getElem?_cons_zero]; rfl)
        case hQ18 => exact fun _ _ _ h => h
        case hy18 => (refine Or.inl ⟨by rfl, ?_⟩; intro w' hSw; obtain ⟨b0, b1, b2, b3, _⟩ := cellsF hSw.tail.tail.head; obtain ⟨a0, a1, a2, a3, _⟩ := cellsF hSw.tail.tail.tail.head; go_simp; (try with_reducible rfl))
        try simp only [Act.put, List.setIfInBounds_toArray, List.set_cons_zero, List.set_cons_succ]
        refine wpAnyH_take (i := 6) (oi := ?o19) (v := ?v19) ?hi19 (by kernel_rfl) (by kernel_rfl) (by kernel_rfl) ?hQ19 ?hy19 (by assumption) ?rest19
        case hi19 => (simp only [List.getElem?_toArray, List.getElem?_cons_succ, List.getElem?_cons_zero]; rfl)
        case hQ19 => exact fun _ _ _ h => h
        case hy19 => (refine Or.inl ⟨by rfl, ?_⟩; intro w' hSw; obtain ⟨b0, b1, b2, b3, _⟩ := cellsF hSw.tail.tail.head; obtain ⟨a0, a1, a2, a3, _⟩ := cellsF hSw.tail.tail.tail.head; go_simp; (try with_reducible rfl))
        try simp only [Act.put, List.setIfInBounds_toArray, List.set_cons_zero, List.set_cons_succ]
        refine wpAnyH_take (i := 7) (oi := ?o20) (v := ?v20) ?hi20 (by kernel_rfl) (by kernel_rfl) (by kernel_rfl) ?hQ20 ?hy20 (by assumption) ?rest20
        case hi20 => (simp only [List.getElem?_toArray, List.getElem?_cons_succ, List.getElem?_cons_zero]; rfl)
        case hQ20 => exact fun _ _ _ h => h
        case hy20 => (refine Or.inl ⟨by rfl, ?_⟩; intro w' hSw; obtain ⟨b0, b1, b2, b3, _⟩ := cellsF hSw.tail.tail.head; obtain ⟨a0, a1, a2, a3, _⟩ := cellsF hSw.tail.tail.tail.head; go_simp; (try with_reducible rfl))
        try simp only [Act.put, List.setIfInBounds_toArray, List.set_cons_zero, List.set_cons_succ]
        refine wpAnyH_ready (rs := [8]) (by kernel_rfl) (by simp) ?_
        refine AllReadyH.cons (o := ?o22) ?hi22 (fun K hK => ?rest22) AllReadyH.nil
        case hi22 => (simp only [List.getElem?_toArray, List.getElem?_cons_succ, List.getElem?_cons_zero]; rfl)
        go_simp
        have AP := Lib.hid MB.out.apart
        have LE := Lib.hid MB.out.above
        replace MB := Lib.hid (MB.out.add (oF ⟨0, 0, 0⟩ (.slice none 0 0)))
        refine hK.out _ _ MB.out.tail (fun hHeld => ?_)
        clear hK K
        try simp only [Act.put, List.setIfInBounds_toArray, List.set_cons_zero, List.set_cons_succ]
        generalize hAA : World.heap wd = hp' at *
        generalize hp'.size = BD at *
        generalize World.alloc wd (oF ⟨0, 0, 0⟩ (.slice none 0 0)) = wa at *
        clear hAA
        refine wpAnyH_ready (rs := [9]) (by kernel_rfl) (by simp) ?_
        refine AllReadyH.cons (o := ?o24) ?hi24 (fun K hK => ?rest24) AllReadyH.nil
        case hi24 => (simp only [List.getElem?_toArray, List.getElem?_cons_succ, List.getElem?_cons_zero]; rfl)
        obtain ⟨g0, g1, g2, g3, f0, f1, f2, f3⟩ := cellsF MB.out.head
        go_simp
        clear g0 g1 g2 g3 f0 f1 f2 f3
        have MC : Mem Q [(BD, oF tB (.slice (some ⟨g2, 0, none⟩) nb cu2)), (BC, oF tA (.slice (some ⟨g1, 0, none⟩) na cu1)), (w.heap.size + 1 + 1, o3 a b c 50), (w.heap.size + 1, oF tB (.slice B nb dB)), (w.heap.size, oF tA (.slice A na dA))] _ := (((MB.out.set AP.out LE.out 0 (.int .i64 tB.a)).set AP.out LE.out 1 (.int .i64 tB.b)).set AP.out LE.out 2 (.int .i64 tB.c)).set AP.out LE.out 3 (.slice (some ⟨g2, 0, none⟩) nb cu2)
        replace MB := Lib.hid MC
        clear MC
        refine hK.out _ _ MB.out.tail (fun hHeld => ?_)
        clear hK K
        try simp only [Act.put, List.setIfInBounds_toArray, List.set_cons_zero, List.set_cons_succ]
        refine wpAnyH_done (by kernel_rfl) ?_ _
        have LEBD := LE
        clear LE AP
        generalize hWX : World.setCell _ ⟨BD, 3, none⟩ _ = WBD at *
        clear hWX
        obtain ⟨v0, v1, v2, v3, _⟩ := cellsF MB.out.head
        obtain ⟨u0, u1, u2, u3, _⟩ := cellsF MB.out.tail.head
        obtain ⟨d0, d1, d2, _⟩ := row3 MB.out.tail.tail.head
        obtain ⟨b0, b1, b2, b3, _⟩ := cellsF MB.out.tail.tail.tail.head
        obtain ⟨a0, a1, a2, a3, _⟩ := cellsF MB.out.tail.tail.tail.tail.head
        go_wp2_with fail
        refine (k1.out _ MB.out.below).mono ?_
        rintro e w1 ⟨A1, c1, rfl, h1, h2, h3, h4, h5⟩
        have hb1 : Hid (∀ g o, A1 = some ⟨g, o, none⟩ → 0 < l.length → WBD.heap.size ≤ g ∧ g < w1.heap.size) := Lib.hid (fun g o e hl => by
          obtain ⟨b', off', e', q1, q2, _⟩ := h3 hl
          rw [e] at e'
          injection e' with e'
          injection e' with e1 _
          subst e1
          exact ⟨q1, q2⟩)
        have V1 := Lib.hid (Wr.of h3 h4)
        have hzD : Hid (BC < WBD.heap.size ∧ BD < WBD.heap.size ∧ Q.heap.size ≤ WBD.heap.size) := Lib.hid ⟨MB.out.lt (p := (BC, oF tA (.slice (some ⟨g1, 0, none⟩) na cu1))) (by simp), MB.out.lt (p := (BD, oF tB (.slice (some ⟨g2, 0, none⟩) nb cu2))) (by simp), MB.out.above⟩
        have hz1 : Hid (WBD.heap.size ≤ w1.heap.size) := Lib.hid h5.size
        replace MB := Lib.hid (MB.out.next h5)
        clear h1 h2 h3 h4 h5
        clear v0 v1 v2 v3 u0 u1 u2 u3 d0 d1 d2 b0 b1 b2 b3 a0 a1 a2 a3
        have bb : Hid (Below w1.heap.size w1 (w1.alloc (oF t (.slice A1 l.length c1)))) := Lib.hid ((Below.refl _ _).alloc (Nat.le_refl _) _)
        replace V1 := Lib.hid (V1.out.below bb.out)
        have MC := Lib.hid (MB.out.add (oF t (.slice A1 l.length c1)))
        replace MB := MC
        clear MC
        obtain ⟨v0, v1, v2, v3, _⟩ := cellsF MB.out.tail.head
        obtain ⟨u0, u1, u2, u3, _⟩ := cellsF MB.out.tail.tail.head
        obtain ⟨d0, d1, d2, _⟩ := row3 MB.out.tail.tail.tail.head
        obtain ⟨b0, b1, b2, b3, _⟩ := cellsF MB.out.tail.tail.tail.tail.head
        obtain ⟨a0, a1, a2, a3, _⟩ := cellsF MB.out.tail.tail.tail.tail.tail.head
        go_wp2_with fail
        generalize hX : w1.alloc (oF t (.slice A1 l.length c1)) = W at *
        generalize hBX : w1.heap.size = BX at *
        have hWs : Hid (W.heap.size = BX + 1) := Lib.hid (by rw [← hX, ← hBX]; simp)
        clear hX bb
        refine (k1.out _ MB.out.below).mono ?_
        rintro e w2 ⟨A2, c2, rfl, h1, h2, h3, h4, h5⟩
        have hb2 : Hid (∀ g o, A2 = some ⟨g, o, none⟩ → 0 < l.length → W.heap.size ≤ g ∧ g < w2.heap.size) := Lib.hid (fun g o e hl => by
          obtain ⟨b', off', e', q1, q2, _⟩ := h3 hl
          rw [e] at e'
          injection e' with e'
          injection e' with e1 _
          subst e1
          exact ⟨q1, q2⟩)
        have R2 := Lib.hid (h3.low (Nat.zero_le _))
        have hXY : Hid (BX + 1 ≤ w2.heap.size) := Lib.hid (by rw [← hWs.out]; exact h5.size)
        replace V1 := Lib.hid (V1.out.below h5)
        replace MB := Lib.hid (MB.out.next h5)
        clear h1 h2 h3 h4 h5 k1 hBX
        clear v0 v1 v2 v3 u0 u1 u2 u3 d0 d1 d2 b0 b1 b2 b3 a0 a1 a2 a3
        have bb : Hid (Below w2.heap.size w2 (w2.alloc (oF t (.slice A2 l.length c2)))) := Lib.hid ((Below.refl _ _).alloc (Nat.le_refl _) _)
        replace V1 := Lib.hid (V1.out.below bb.out)
        replace R2 := Lib.hid (R2.out.below bb.out (Nat.le_refl _))
        have MC := Lib.hid (MB.out.add (oF t (.slice A2 l.length c2)))
        replace MB := MC
        clear MC
        obtain ⟨v0, v1, v2, v3, _⟩ := cellsF MB.out.tail.tail.head
        obtain ⟨u0, u1, u2, u3, _⟩ := cellsF MB.out.tail.tail.tail.head
        obtain ⟨d0, d1, d2, _⟩ := row3 MB.out.tail.tail.tail.tail.head
        obtain ⟨b0, b1, b2, b3, _⟩ := cellsF MB.out.tail.tail.tail.tail.tail.head
        obtain ⟨a0, a1, a2, a3, _⟩ := cellsF MB.out.tail.tail.tail.tail.tail.tail.head
        go_wp2_with fail
        generalize hY : w2.alloc (oF t (.slice A2 l.length c2)) = WY at *
        generalize hBY : w2.heap.size = BY at *
        have hWs2 : Hid (WY.heap.size = BY + 1) := Lib.hid (by rw [← hY, ← hBY]; simp)
        clear hY bb hBY
        refine (k3.out _ MB.out.below).mono ?_
        rintro e w3 ⟨A3, c3, rfl, h1, h2, h3, h4, h5⟩
        have hb3 : Hid (∀ g o, A3 = some ⟨g, o, none⟩ → 0 < lo.length → WY.heap.size ≤ g ∧ g < w3.heap.size) := Lib.hid (fun g o e hl => by
          obtain ⟨b', off', e', q1, q2, _⟩ := h3 hl
          rw [e] at e'
          injection e' with e'
          injection e' with e1 _
          subst e1
          exact ⟨q1, q2⟩)
        have V3 := Lib.hid (Wr.of h3 (fun _ => h4))
        replace V1 := Lib.hid (V1.out.below h5)
        replace R2 := Lib.hid (R2.out.below h5 (Nat.le_refl _))
        replace MB := Lib.hid (MB.out.next h5)
        have hz3 : Hid (WY.heap.size ≤ w3.heap.size) := Lib.hid h5.size
        clear h1 h2 h3 h4 h5
        clear v0 v1 v2 v3 u0 u1 u2 u3 d0 d1 d2 b0 b1 b2 b3 a0 a1 a2 a3
        obtain ⟨v0, v1, v2, v3, _⟩ := cellsF MB.out.tail.tail.head
        obtain ⟨u0, u1, u2, u3, _⟩ := cellsF MB.out.tail.tail.tail.head
        obtain ⟨d0, d1, d2, _⟩ := row3 MB.out.tail.tail.tail.tail.head
        obtain ⟨b0, b1, b2, b3, _⟩ := cellsF MB.out.tail.tail.tail.tail.tail.head
        obtain ⟨a0, a1, a2, a3, _⟩ := cellsF MB.out.tail.tail.tail.tail.tail.tail.head
        go_wp2_with fail
        refine (k3.out _ MB.out.below).mono ?_
        rintro e w4 ⟨A4, c4, rfl, h1, h2, h3, h4, h5⟩
        have hb4 : Hid (∀ g o, A4 = some ⟨g, o, none⟩ → 0 < lo.length → w3.heap.size ≤ g ∧ g < w4.heap.size) := Lib.hid (fun g o e hl => by
          obtain ⟨b', off', e', q1, q2, _⟩ := h3 hl
          rw [e] at e'
          injection e' with e'
          injection e' with e1 _
          subst e1
          exact ⟨q1, q2⟩)
        have R4 := Lib.hid (h3.low (Nat.zero_le _))
        replace V1 := Lib.hid (V1.out.below h5)
        replace V3 := Lib.hid (V3.out.below h5)
        replace R2 := Lib.hid (R2.out.below h5 (Nat.le_refl _))
        replace MB := Lib.hid (MB.out.next h5)
        clear h1 h2 h3 h4 h5 k3
        clear v0 v1 v2 v3 u0 u1 u2 u3 d0 d1 d2 b0 b1 b2 b3 a0 a1 a2 a3
        have hzz := HQ3
        obtain ⟨bad, hbadE⟩ : ∃ bad : Nat → Prop, bad = fun g => (∃ o, A1 = some ⟨g, o, none⟩ ∧ 0 < l.length) ∨ (∃ o, A3 = some ⟨g, o, none⟩ ∧ 0 < lo.length) := ⟨_, rfl⟩
        have hbr : ∀ g, bad g → (WBD.heap.size ≤ g ∧ g < BX) ∨ (BY + 1 ≤ g ∧ g < w3.heap.size) := fun g hg => by
          rw [hbadE] at hg
          rcases hg with ⟨o, e, hl⟩ | ⟨o, e, hl⟩
          · exact .inl (hb1.out g o e hl)
          · have := hb3.out g o e hl
            rw [hWs2.out] at this
            exact .inr this
        have hbq : Hid (∀ g, bad g → Q.heap.size ≤ g) := Lib.hid (fun g hg => by have h1 := hzD.out; have h2 := hbr g hg; have h7 := hXY.out; have h8 := hz1.out; omega)
        have hLY : Hid (∀ q, q ∈ [(BY, oF t (.slice A2 l.length c2)), (BX, oF t (.slice A1 l.length c1)), (BD, oF tB (.slice (some ⟨g2, 0, none⟩) nb cu2)), (BC, oF tA (.slice (some ⟨g1, 0, none⟩) na cu1)), (w.heap.size + 1 + 1, o3 a b c 50), (w.heap.size + 1, oF tB (.slice B nb dB)), (w.heap.size, oF tA (.slice A na dA))] → ¬ bad q.1) := Lib.hid (fun q hq hb => by
          have h1 := hbr q.1 hb
          have h2 := hzD.out
          have h3 := hzz.out
          have h4 := hXY.out
          have h8 := hz1.out
          have h5 := LEBC.out
          have h6 := LEBD.out
          simp only [List.mem_cons, List.not_mem_nil, or_false] at hq
          rcases hq with rfl | rfl | rfl | rfl | rfl | rfl | rfl <;> simp only at h1 <;> omega)
        have hn2' : RdN bad w4 A2 l := ⟨R2.out, fun g o e hl hb => by
          have h1 := hb2.out g o e hl
          have h2 := hbr g hb
          rw [hWs.out] at h1
          omega⟩
        have hn4' : RdN bad w4 A4 lo := ⟨R4.out, fun g o e hl hb => by
          have h1 := hb4.out g o e hl
          have h2 := hbr g hb
          have h3 := hz3.out
          have h7 := hXY.out
          rw [hWs2.out] at h3
          omega⟩
        have IV : Hid (LentI bad Q [(BY, oF t (.slice A2 l.length c2)), (BX, oF t (.slice A1 l.length c1)), (BD, oF tB (.slice (some ⟨g2, 0, none⟩) nb cu2)), (BC, oF tA (.slice (some ⟨g1, 0, none⟩) na cu1)), (w.heap.size + 1 + 1, o3 a b c 50), (w.heap.size + 1, oF tB (.slice B nb dB)), (w.heap.size, oF tA (.slice A na dA))] [(A2, l), (A4, lo)] [(A1, l.length), (A3, lo.length)] w4) := Lib.hid ⟨MB.out, fun r hr => by
          simp only [List.mem_cons, List.not_mem_nil, or_false] at hr
          rcases hr with rfl | rfl
          · exact hn2'
          · exact hn4', fun x hx => by
          simp only [List.mem_cons, List.not_mem_nil, or_false] at hx
          rcases hx with rfl | rfl
          · exact V1.out
          · exact V3.out⟩
        have hbad1 : Hid (∀ g o, A1 = some ⟨g, o, none⟩ → 0 < l.length → bad g) := Lib.hid (fun g o e hl => by rw [hbadE]; exact Or.inl ⟨o, e, hl⟩)
        have hbad3 : Hid (∀ g o, A3 = some ⟨g, o, none⟩ → 0 < lo.length → bad g) := Lib.hid (fun g o e hl => by rw [hbadE]; exact Or.inr ⟨o, e, hl⟩)
        clear hbr hbadE hn2' hn4' hb1 hb2 hb3 hb4 V1 V3 R2 R4 MB hzD hzz hWs hWs2 hz3 hXY
        go_wp2_with fail
        go_loopw [23] (fun iv wr => ∃ i : Nat, i ≤ l.length ∧ iv = .int .i64 i ∧ Hid (LentI bad Q [(BY, oF t (.slice A2 l.length c2)), (BX, oF t (.slice A1 l.length c1)), (BD, oF tB (.slice (some ⟨g2, 0, none⟩) nb cu2)), (BC, oF tA (.slice (some ⟨g1, 0, none⟩) na cu1)), (w.heap.size + 1 + 1, o3 a b c 50), (w.heap.size + 1, oF tB (.slice B nb dB)), (w.heap.size, oF tA (.slice A na dA))] [(A2, l), (A4, lo)] [(A1, l.length), (A3, lo.length)] wr)) (fun iv _ => l.length - (intOf iv).toNat)
        case atStart => exact ⟨0, Nat.zero_le _, rfl, IV.out⟩
        case round =>
          clear IV
          obtain ⟨i, hi, rfl, IV⟩ := hrel
          replace IV := Lib.hid IV.out
          obtain ⟨x0, x1, x2, x3, _⟩ := cellsF IV.out.1.tail.head
          by_cases hlt : i < l.length
          · obtain ⟨gb, off, eA, hgb, hcs⟩ := IV.out.2.2 (A1, l.length) (by simp) (by simp only; omega)
            simp only at eA
            have hbd : bad gb := hbad1.out gb off eA (by omega)
            obtain ⟨⟨uo, huo⟩, hfz⟩ := hcs i hlt
            have IV2 := Lib.hid (IV.out.set hLY.out hbq.out hbd (off + i) (.int .i64 (-1)))
            clear hcs hbd
            subst eA
            have hi2 : Hid (i + 1 ≤ l.length ∧ l.length ≤ 1000000) := Lib.hid (by have h1 := hll.out; have h2 := hllo.out; exact ⟨by omega, by omega⟩)
            go_wp2_with fail
            go_roundw
            case rel =>
              have hi3 := hi2.out
              have h4 := wrap64_in6 ((i : Int) + 1) (by omega)
              exact ⟨i + 1, hi3.1, by rw [h4]; rfl, IV2.out⟩
            case measure => exact meas6 _ _ hi2.out
          · obtain rfl : i = l.length := by omega
            go_wp2_with fail
            clear x0 x1 x2 x3
            go_loopw [24] (fun iv wr => ∃ i : Nat, i ≤ lo.length ∧ iv = .int .i64 i ∧ Hid (LentI bad Q [(BY, oF t (.slice A2 l.length c2)), (BX, oF t (.slice A1 l.length c1)), (BD, oF tB (.slice (some ⟨g2, 0, none⟩) nb cu2)), (BC, oF tA (.slice (some ⟨g1, 0, none⟩) na cu1)), (w.heap.size + 1 + 1, o3 a b c 50), (w.heap.size + 1, oF tB (.slice B nb dB)), (w.heap.size, oF tA (.slice A na dA))] [(A2, l), (A4, lo)] [(A1, l.length), (A3, lo.length)] wr)) (fun iv _ => lo.length - (intOf iv).toNat)
            case atStart => exact ⟨0, Nat.zero_le _, rfl, IV.out⟩
            case round =>
              clear IV
              obtain ⟨i, hi, rfl, IV⟩ := hrel
              replace IV := Lib.hid IV.out
              by_cases hlt : i < lo.length
              · obtain ⟨gb, off, eA, hgb, hcs⟩ := IV.out.2.2 (A3, lo.length) (by simp) (by simp only; omega)
                simp only at eA
                have hbd : bad gb := hbad3.out gb off eA (by omega)
                obtain ⟨⟨uo, huo⟩, hfz⟩ := hcs i hlt
                have IV2 := Lib.hid (IV.out.set hLY.out hbq.out hbd (off + i) (.int .i64 (-1)))
                clear hcs hbd
                subst eA
                have hi2 : Hid (i + 1 ≤ lo.length ∧ lo.length ≤ 1000000) := Lib.hid (by have h1 := hll.out; have h2 := hllo.out; exact ⟨by omega, by omega⟩)
                go_wp2_with fail
                go_roundw
                case rel =>
                  have hi3 := hi2.out
                  have h4 := wrap64_in6 ((i : Int) + 1) (by omega)
                  exact ⟨i + 1, hi3.1, by rw [h4]; rfl, IV2.out⟩
                case measure => exact meas6 _ _ hi2.out
              · obtain rfl : i = lo.length := by omega
                have MB := Lib.hid IV.out.1
                have N2 := Lib.hid (IV.out.2.1 (A2, l) (by simp)).1
                have N4 := Lib.hid (IV.out.2.1 (A4, lo) (by simp)).1
                simp only at N2 N4
                clear IV hLY hbq
                obtain ⟨v0, v1, v2, v3, _⟩ := cellsF MB.out.tail.tail.head
                obtain ⟨u0, u1, u2, u3, _⟩ := cellsF MB.out.tail.tail.tail.head
                obtain ⟨d0, d1, d2, _⟩ := row3 MB.out.tail.tail.tail.tail.head
                obtain ⟨b0, b1, b2, b3, _⟩ := cellsF MB.out.tail.tail.tail.tail.tail.head
                obtain ⟨a0, a1, a2, a3, _⟩ := cellsF MB.out.tail.tail.tail.tail.tail.tail.head
                go_wp2_with fail
                refine (k5.out _ MB.out.below).mono ?_
                rintro e w5 ⟨A5, c5, rfl, h1, h2, h3, h4, h5⟩
                have N5 := Lib.hid (h3.low (Nat.zero_le _))
                replace N2 := Lib.hid (N2.out.below h5 (Nat.le_refl _))
                replace N4 := Lib.hid (N4.out.below h5 (Nat.le_refl _))
                replace MB := Lib.hid (MB.out.next h5)
                clear h1 h2 h3 h4 h5 k5
                clear v0 v1 v2 v3 u0 u1 u2 u3 d0 d1 d2 b0 b1 b2 b3 a0 a1 a2 a3
                have bb : Hid (Below w5.heap.size w5 (w5.alloc (oF t (.slice A5 l.length c5)))) := Lib.hid ((Below.refl _ _).alloc (Nat.le_refl _) _)
                replace N2 := Lib.hid (N2.out.below bb.out (Nat.le_refl _))
                replace N4 := Lib.hid (N4.out.below bb.out (Nat.le_refl _))
                replace N5 := Lib.hid (N5.out.below bb.out (Nat.le_refl _))
                have MC := Lib.hid (MB.out.add (oF t (.slice A5 l.length c5)))
                replace MB := MC
                clear MC bb
                obtain ⟨v0, v1, v2, v3, _⟩ := cellsF MB.out.tail.tail.tail.head
                obtain ⟨u0, u1, u2, u3, _⟩ := cellsF MB.out.tail.tail.tail.tail.head
                obtain ⟨d0, d1, d2, _⟩ := row3 MB.out.tail.tail.tail.tail.tail.head
                obtain ⟨b0, b1, b2, b3, _⟩ := cellsF MB.out.tail.tail.tail.tail.tail.tail.head
                obtain ⟨a0, a1, a2, a3, _⟩ := cellsF MB.out.tail.tail.tail.tail.tail.tail.tail.head
                go_wp2_with fail
                generalize w5.alloc (oF t (.slice A5 l.length c5)) = W at *
                generalize w5.heap.size = BW at *
                refine (k6.out _ MB.out.below).mono ?_
                rintro e w6 ⟨A6, c6, rfl, h1, h2, h3, h4, h5⟩
                have N6 := Lib.hid (h3.low (Nat.zero_le _))
                replace N2 := Lib.hid (N2.out.below h5 (Nat.le_refl _))
                replace N4 := Lib.hid (N4.out.below h5 (Nat.le_refl _))
                replace N5 := Lib.hid (N5.out.below h5 (Nat.le_refl _))
                replace MB := Lib.hid (MB.out.next h5)
                clear h1 h2 h3 h4 h5 k6
                clear v0 v1 v2 v3 u0 u1 u2 u3 d0 d1 d2 b0 b1 b2 b3 a0 a1 a2 a3
                obtain ⟨m0, m1, m2, m3, _⟩ := cellsF MB.out.head
                obtain ⟨y0, y1, y2, y3, _⟩ := cellsF MB.out.tail.head
                have kf := Lib.hid (sameFacet_any A2 A5 c2 c5 t l w6 N2.out N5.out hll.out)
                go_wp2_with fail
                refine kf.out.mono ?_
                rintro e w7 ⟨rfl, hb⟩
                replace N4 := Lib.hid (N4.out.below hb (Nat.le_refl _))
                replace N6 := Lib.hid (N6.out.below hb (Nat.le_refl _))
                replace MB := Lib.hid (MB.out.next hb)
                clear hb kf m0 m1 m2 m3 y0 y1 y2 y3 N2 N5
                have ks := Lib.hid (refSame_any A4 A6 c4 c6 lo lo w7 0 0 N4.out N6.out hllo.out hllo.out)
                simp only [decide_true] at ks
                go_wp2_with fail
                refine ks.out.mono ?_
                rintro e w8 ⟨rfl, qn, hq⟩
                replace MB := Lib.hid (show Mem Q _ w8 by rw [hq]; exact MB.out.drewN qn)
                clear hq ks N4 N6
                obtain ⟨v0, v1, v2, v3, _⟩ := cellsF MB.out.tail.tail.tail.head
                obtain ⟨u0, u1, u2, u3, _⟩ := cellsF MB.out.tail.tail.tail.tail.head
                obtain ⟨d0, d1, d2, _⟩ := row3 MB.out.tail.tail.tail.tail.tail.head
                obtain ⟨b0, b1, b2, b3, _⟩ := cellsF MB.out.tail.tail.tail.tail.tail.tail.head
                obtain ⟨a0, a1, a2, a3, _⟩ := cellsF MB.out.tail.tail.tail.tail.tail.tail.tail.head
                have rA := RA.out.below MB.out.below (Nat.le_refl _)
                have rU := RU1.out.below MB.out.below (Nat.le_refl _)
                have rV := RU2.out.below MB.out.below (Nat.le_refl _)
                obtain ⟨_, _, eU, _, cU⟩ := rU.at_ (k := na) (by simp; omega)
                injection eU with eU
                injection eU with eU1 eU2
                subst eU1 eU2
                obtain ⟨_, _, eV, _, cV⟩ := rV.at_ (k := nb) (by simp; omega)
                injection eV with eV
                injection eV with eV1 eV2
                subst eV1 eV2
                rw [show (av ++ [7701])[na]! = 7701 from by rw [← hlA]; simp] at cU
                rw [show (bv ++ [7702])[nb]! = 7702 from by rw [← hlB]; simp] at cV
                simp only [encI, Nat.zero_add] at cU cV
                have kca : Hid (∀ W, Below Q.heap.size Q W → Calls Try.prog 73 #[encF tA (some ⟨g1, 0, none⟩) na cu1, encF tA A na dA] W fun e w' => e = .returned (.bool true) ∧ Below W.heap.size W w') := Lib.hid (fun W hW => by
                  have h1 := (RU1.out.below hW (Nat.le_refl _)).take na
                  rw [List.take_left' hlA] at h1
                  have h := sameFacet_any (some ⟨g1, 0, none⟩) A cu1 dA tA av W h1 (RA.out.below hW (Nat.le_refl _)) (by omega)
                  rw [hlA] at h
                  exact h)
                have kdb : Hid (∀ W, Below Q.heap.size Q W → Calls Try.prog 73 #[encF tB (some ⟨g2, 0, none⟩) nb cu2, encF tB B nb dB] W fun e w' => e = .returned (.bool true) ∧ Below W.heap.size W w') := Lib.hid (fun W hW => by
                  have h1 := (RU2.out.below hW (Nat.le_refl _)).take nb
                  rw [List.take_left' hlB] at h1
                  have h := sameFacet_any (some ⟨g2, 0, none⟩) B cu2 dB tB bv W h1 (RB.out.below hW (Nat.le_refl _)) (by omega)
                  rw [hlB] at h
                  exact h)
                clear rA rU rV
                go_wp2_with fail
                refine (kca.out _ MB.out.below).mono ?_
                rintro e w9 ⟨rfl, hb⟩
                replace MB := Lib.hid (MB.out.next hb)
                clear hb kca cU cV
                clear v0 v1 v2 v3 u0 u1 u2 u3 d0 d1 d2 b0 b1 b2 b3 a0 a1 a2 a3
                obtain ⟨v0, v1, v2, v3, _⟩ := cellsF MB.out.tail.tail.tail.head
                obtain ⟨u0, u1, u2, u3, _⟩ := cellsF MB.out.tail.tail.tail.tail.head
                obtain ⟨d0, d1, d2, _⟩ := row3 MB.out.tail.tail.tail.tail.tail.head
                obtain ⟨b0, b1, b2, b3, _⟩ := cellsF MB.out.tail.tail.tail.tail.tail.tail.head
                obtain ⟨a0, a1, a2, a3, _⟩ := cellsF MB.out.tail.tail.tail.tail.tail.tail.tail.head
                go_wp2_with fail
                refine (kdb.out _ MB.out.below).mono ?_
                rintro e w10 ⟨rfl, hb⟩
                replace MB := Lib.hid (MB.out.next hb)
                clear hb kdb
                clear v0 v1 v2 v3 u0 u1 u2 u3 d0 d1 d2 b0 b1 b2 b3 a0 a1 a2 a3
                go_wp2_with fail
                refine (awake6_any _).mono ?_
                rintro e w11 ⟨rfl, hb⟩
                replace MB := Lib.hid (MB.out.next hb)
                clear hb
                go_wp2
                go_ret
                exact ⟨rfl, below_up HBw.out MB.out.below⟩
end Go.Proofs.Ytojecaeblgghjaa
