/-
  SameFacet, Pivot; carapacelaw6.awake: true.
-/
import Derived.Test.YtojecaeblgghjaaConf5
import Derived.Test.YtojecaeblgghjaaMerge
set_option linter.unusedVariables false
set_option linter.unusedSimpArgs false
namespace Go.Proofs.Ytojecaeblgghjaa
open Go.RowKit Go.Sort LsP

abbrev encF (t : T3) (A : Option Addr) (n c : Nat) : Value := .agg #[.int .i64 t.a, .int .i64 t.b, .int .i64 t.c, .slice A n c]

theorem two_start (w : World) (a b : Obj) : Mem w [(w.heap.size + 1, b), (w.heap.size, a)] ((w.alloc a).alloc b) := by
  have h := ((Mem.nil w).add a).add b
  simp only [World.size_alloc] at h
  exact h

set_option maxHeartbeats 4000000 in
set_option maxRecDepth 100000 in
theorem sameFacet_any (A B : Option Addr) (c d : Nat) (t : T3) (l : List Int) (w : World) (ha : Rd encI 0 w A l) (hb : Rd encI 0 w B l) (hl : l.length ≤ 1000000) :
    Calls Try.prog 73 #[encF t A l.length c, encF t B l.length d] w fun e w' => e = .returned (.bool true) ∧ Below w.heap.size w w' := by
  have MB := Lib.hid (two_start w (oF t (.slice A l.length c)) (oF t (.slice B l.length d)))
  have q := eqT_run t t
  simp only [encT, decide_true] at q
  have ks := Lib.hid (fun W (hW : Below w.heap.size w W) => refSame_any A B c d l l W 0 0 (ha.below hW (Nat.le_refl _)) (hb.below hW (Nat.le_refl _)) hl hl)
  simp only [decide_true] at ks
  clear ha hb
  generalize l.length = n at *
  obtain ⟨a0, a1, a2, a3, _⟩ := cellsF MB.out.head
  obtain ⟨b0, b1, b2, b3, _⟩ := cellsF MB.out.tail.head
  go_enter Try.func73, Try.ntmps73
  go_wp2_with fail
  refine (ks.out _ MB.out.below).mono ?_
  rintro e w' ⟨rfl, qn, hq⟩
  have HB : Hid (Below w.heap.size w w') := Lib.hid (by rw [hq]; exact below_drewN MB.out.below qn)
  clear hq a0 a1 a2 a3 b0 b1 b2 b3
  go_wp2
  go_ret
  exact ⟨rfl, HB.out⟩

set_option maxHeartbeats 4000000 in
set_option maxRecDepth 100000 in
theorem pivot_any (A B : Option Addr) (c d : Nat) (s t : T3) (xs ys : List Int) (w : World) (ha : Rd encI 0 w A xs) (hb : Rd encI 0 w B ys) (hx : xs.length ≤ 400000) (hy : ys.length ≤ 400000) :
    Calls Try.prog 108 #[encF s A xs.length c, encF t B ys.length d] w fun e w' => e = .returned (.tuple #[.int .i64 (minL (sset (xs ++ ys))), .bool (decide (0 < (sset (xs ++ ys)).length))]) ∧ Below w.heap.size w w' := by
  have MB := Lib.hid (two_start w (oF s (.slice A xs.length c)) (oF t (.slice B ys.length d)))
  have km := Lib.hid (merge_any A B c d xs ys ((w.alloc (oF s (.slice A xs.length c))).alloc (oF t (.slice B ys.length d))) (ha.below MB.out.below (Nat.le_refl _)) (hb.below MB.out.below (Nat.le_refl _)) (by omega) (by omega))
  have hlen : Hid ((sset (xs ++ ys)).length ≤ 1000000) := Lib.hid (by have := sset_len (xs ++ ys); rw [List.length_append] at this; omega)
  clear ha hb hx hy
  generalize sset (xs ++ ys) = m at *
  obtain ⟨a0, a1, a2, a3, _⟩ := cellsF MB.out.head
  obtain ⟨b0, b1, b2, b3, _⟩ := cellsF MB.out.tail.head
  go_enter Try.func108, Try.ntmps108
  go_wp2_with fail
  refine km.out.mono ?_
  rintro e w' ⟨A', c', rfl, h1, h2, h3, h4, h5⟩
  have kl := Lib.hid (least_any A' c' m w' 0 (h3.low (Nat.zero_le _)) hlen.out)
  replace MB := Lib.hid (MB.out.next h5)
  clear h1 h2 h3 h4 h5 km a0 a1 a2 a3 b0 b1 b2 b3
  go_wp2_with fail
  refine kl.out.mono ?_
  rintro e w2 ⟨rfl, rfl⟩
  go_wp2
  go_ret2
  exact ⟨rfl, MB.out.below⟩

def pts6 : List T3 := [⟨0, 0, 0⟩, ⟨4, 0, 0⟩, ⟨0, 4, 0⟩, ⟨0, 0, 4⟩, ⟨4, 4, 4⟩, ⟨1, 1, 1⟩]

theorem fit_small {x : Int} (h : -1000 ≤ x ∧ x ≤ 1000) : FitI x := ⟨by omega, by omega⟩
theorem check6 : checkR pts6 6 1 2 3 = 0 := checkR_ok (by decide) (by
  intro i hi
  rcases (by omega : i = 0 ∨ i = 1 ∨ i = 2) with rfl | rfl | rfl
  · exact ⟨by decide, by decide, fun b hb => by omega⟩
  · refine ⟨by decide, by decide, fun b hb => ?_⟩
    obtain rfl : b = 0 := by omega
    decide
  · refine ⟨by decide, by decide, fun b hb => ?_⟩
    rcases (by omega : b = 0 ∨ b = 1) with rfl | rfl <;> decide)
theorem good6 (v : Nat) (hv : v = 4 ∨ v = 5) : ∀ i, i < 4 → goodP 6 [1, 2, 3, (v : Int)] i :=
  good3 (checkR_good check6).2 (by rcases hv with rfl | rfl <;> simp) (by rcases hv with rfl | rfl <;> simp) (by rcases hv with rfl | rfl <;> simp) (by rcases hv with rfl | rfl <;> simp)
theorem sees64 : seesB pts6 6 1 2 3 4 = true := by
  have h := signR_fit (xs := pts6) (n := 6) (L := [1, 2, 3, 4]) (Y := [1, 2, 3, 4]) (g := 1) rfl (good6 4 (.inl rfl)) (by decide) (by decide)
  unfold seesB
  rw [h]
  have e : ptsOf pts6 [1, 2, 3, 4] = [4, 0, 0, 0, 4, 0, 0, 0, 4, 4, 4, 4] := by decide
  rw [e, signV_mask 4 0 0 0 4 0 0 0 4 4 4 4 (by decide) (by decide) (by decide) (by decide) (by decide) (by decide) (by decide) (by decide) (by decide) (by decide) (by decide) (by decide)]
  rw [show maskV [4, 0, 0, 0, 4, 0, 0, 0, 4, 4, 4, 4] 85 0 = -1 from by kernel_rfl]
  decide
theorem sees65 : seesB pts6 6 1 2 3 5 = false := by
  have h := signR_fit (xs := pts6) (n := 6) (L := [1, 2, 3, 5]) (Y := [1, 2, 3, 5]) (g := 1) rfl (good6 5 (.inr rfl)) (by decide) (by decide)
  unfold seesB
  rw [h]
  have e : ptsOf pts6 [1, 2, 3, 5] = [4, 0, 0, 0, 4, 0, 0, 0, 4, 1, 1, 1] := by decide
  rw [e, signV_mask 4 0 0 0 4 0 0 0 4 1 1 1 (by decide) (by decide) (by decide) (by decide) (by decide) (by decide) (by decide) (by decide) (by decide) (by decide) (by decide) (by decide)]
  rw [show maskV [4, 0, 0, 0, 4, 0, 0, 0, 4, 1, 1, 1] 85 0 = 1 from by kernel_rfl]
  decide
theorem of6 : ofR pts6 6 1 2 3 = ([4], 0) := by
  unfold ofR
  rw [if_neg (by simpa using check6)]
  have e : ofL pts6 6 1 2 3 = [4] := by
    unfold ofL
    rw [show upto (mx4 1 2 3 + 1) (cntL 6 1 2 3) = [4, 5] from by decide]
    simp only [List.filter_cons, List.filter_nil, sees64, sees65]
    rfl
  rw [e]

set_option maxHeartbeats 4000000 in
set_option maxRecDepth 100000 in
theorem list6_any (w : World) : Calls Try.prog 107 #[] w fun e w' => e = .returned (.slice (some ⟨w.heap.size, 0, none⟩) 6 6) ∧ w' = w.alloc (oI (flat pts6) 109) := by
  go_enter Try.func107, Try.ntmps107
  go_wp2
  go_ret
  exact ⟨rfl, rfl⟩

set_option maxHeartbeats 4000000 in
set_option maxRecDepth 100000 in
theorem awake6_any (w : World) : Calls Try.prog 66 #[] w fun e w' => e = .returned (.bool true) ∧ Below w.heap.size w w' := by
  have MB := Lib.hid (one_start w (oI (flat pts6) 109))
  have hr : RdT 0 (w.alloc (oI (flat pts6) 109)) (some ⟨w.heap.size, 0, none⟩) pts6 := (Rd.lit (enc := encI) (flat pts6)).low (Nat.zero_le _)
  have ko := Lib.hid (of_any (some ⟨w.heap.size, 0, none⟩) 6 6 pts6 1 2 3 _ hr rfl (by omega))
  rw [of6] at ko
  clear hr
  go_enter Try.func66, Try.ntmps66
  go_wp2_with fail
  refine (list6_any _).mono ?_
  rintro e w1 ⟨rfl, rfl⟩
  go_wp2_with fail
  refine ko.out.mono ?_
  rintro e w2 ⟨A2, c2, rfl, h1, h2, h3, h4, h5⟩
  have R0 := Lib.hid h3
  have hc2 : Hid (1 ≤ c2 ∧ c2 ≤ maxLen) := Lib.hid ⟨h1, h2⟩
  replace MB := Lib.hid (MB.out.next h5)
  clear h1 h2 h3 h4 h5 ko
  have MC := Lib.hid ((MB.out.add (oI [4, 5] 3)).add (oI [3] 3))
  have ra : Rd encI 0 ((w2.alloc (oI [4, 5] 3)).alloc (oI [3] 3)) (some ⟨w2.heap.size, 0, none⟩) [4, 5] :=
    ((Rd.lit (enc := encI) (w := w2) (t := 3) [4, 5]).low (Nat.zero_le _)).below ((Below.refl _ _).alloc (Nat.le_refl _) _) (by simp)
  have rb : Rd encI 0 ((w2.alloc (oI [4, 5] 3)).alloc (oI [3] 3)) (some ⟨w2.heap.size + 1, 0, none⟩) [3] := by
    have := (Rd.lit (enc := encI) (w := w2.alloc (oI [4, 5] 3)) (t := 3) [3]).low (Nat.zero_le _)
    simp only [World.size_alloc] at this
    exact this
  have kp := Lib.hid (pivot_any _ _ 2 1 ⟨0, 0, 0⟩ ⟨0, 0, 0⟩ [4, 5] [3] _ ra rb (by simp) (by simp))
  rw [show sset ([4, 5] ++ [3] : List Int) = [3, 4, 5] from sset_eq ⟨by decide, fun x => by simp; omega⟩] at kp
  clear ra rb
  rw [show minL ([3, 4, 5] : List Int) = 3 from by decide] at kp
  have hb2 : Hid (Below w2.heap.size w2 ((w2.alloc (oI [4, 5] 3)).alloc (oI [3] 3))) := Lib.hid (((Below.refl _ _).alloc (Nat.le_refl _) _).alloc (by simp) _)
  go_wp2_with fail
  refine kp.out.mono ?_
  rintro e w3 ⟨rfl, hb⟩
  have hb3 := Lib.hid (below_up hb2.out hb)
  obtain ⟨g, off, rfl, hg1, hg2⟩ := (R0.out.below hb3.out (Nat.le_refl _)).at_ (k := 0) (by simp)
  have hg2 : w3.cell? ⟨g, off, none⟩ = some (.int .i64 4) := hg2
  have HB := Lib.hid (below_up MB.out.below hb3.out)
  have hc := hc2.out
  unfold maxLen at hc
  clear hb kp
  go_wp2
  go_ret
  exact ⟨rfl, HB.out⟩
end Go.Proofs.Ytojecaeblgghjaa
