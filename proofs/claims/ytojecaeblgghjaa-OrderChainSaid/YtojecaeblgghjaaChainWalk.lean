/-
  THE WALK of OrderChain.
-/
import Derived.Test.YtojecaeblgghjaaIn3
import Derived.Test.YtojecaeblgghjaaApp
set_option linter.unusedVariables false
set_option linter.unusedSimpArgs false
namespace Go.Proofs.Ytojecaeblgghjaa
open Go.RowKit Go.Sort LsP

set_option maxHeartbeats 1000000 in
set_option maxRecDepth 100000 in
theorem chain_walk (A B C : Option Addr) (c d e' : Nat) (xs ys zs : List Int) (w : World) (ha : Rd encI 0 w A xs) (hb : Rd encI 0 w B ys) (hc : Rd encI 0 w C zs) (hm : xs.length ≤ maxLen) (hm' : ys.length ≤ maxLen) (hm'' : zs.length ≤ maxLen) :
    Calls Try.prog 4 #[.slice A xs.length c, .slice B ys.length d, .slice C zs.length e'] w fun e w' => e = .returned (.bool true) ∧ Below w.heap.size w w' := by
  unfold maxLen at hm hm' hm''
  by_cases h0 : xs.length ≤ 60 ∧ ys.length ≤ 60 ∧ zs.length ≤ 60
  · obtain ⟨h1, h2, h3⟩ := h0
    have g1 : decide ((xs.length : Int) > 60) = false := by simp; omega
    have g2 : decide ((ys.length : Int) > 60) = false := by simp; omega
    have g3 : decide ((zs.length : Int) > 60) = false := by simp; omega
    have k1 := orderCompare_any A B c d xs ys w 0 0 ha hb (by omega) (by omega)
    have k2 := orderCompare_any B C d e' ys zs w 0 0 hb hc (by omega) (by omega)
    have k3 := orderCompare_any A C c e' xs zs w 0 0 ha hc (by omega) (by omega)
    have k4 := orderCompare_any A A c c xs xs w 0 0 ha ha (by omega) (by omega)
    rw [cmpL_self] at k4
    have htr := cmpL_tr (a := xs) (b := ys) (c := zs)
    -- the copy, and one item more
    have hr1 : Rd encI 0 (w.alloc (.cells #[] 3)) A xs := ha.below ((Below.refl w.heap.size w).alloc (Nat.le_refl _) _) (Nat.le_refl _)
    obtain ⟨A1, c1, w1, run1, own1, gr1, at1⟩ := appI_run (w.alloc (.cells #[] 3)) w.heap.size 22 (.slice (some ⟨w.heap.size, 0, none⟩) 0 0) 0 [] (own_lit (enc := encI) (t := 3) [] (by decide)) 0 A c xs hr1 (by omega) (by simp)
    have b1 : Below w.heap.size w w1 := ((Below.refl w.heap.size w).alloc (Nat.le_refl _) _).grown gr1 (by simp) (fun k hk => by simp [Value.ownBlock] at hk; omega)
    simp only [Nat.zero_add, List.nil_append] at run1 own1
    obtain ⟨A2, c2, w2, run2, own2, gr2, at2⟩ := appI_run (w1.alloc (.cells #[.int .i64 0] 3)) w.heap.size 22 (.slice A1 xs.length c1) xs.length xs (own1.alloc _) w1.heap.size (some ⟨w1.heap.size, 0, none⟩) 1 [0] (Rd.lit (enc := encI) [0]) (by simp; omega) (by have := b1.size; simp; omega)
    have b2 : Below w.heap.size w w2 := (b1.alloc b1.size _).grown gr2 (by have := b1.size; simp; omega) (fun k hk => ((own1.alloc (.cells #[.int .i64 0] 3)).lt k hk).1)
    have k5 := orderCompare_any A A2 c c2 xs (xs ++ [0]) w2 0 w.heap.size (ha.below b2 (Nat.le_refl _)) (Rd.own (by simpa using own2)).1 (by omega) (by simp; omega)
    rw [cmpL_snoc, List.length_append, List.length_singleton] at k5
    have rr1 := Lib.hid run1; have rr2 := Lib.hid run2
    have K1 := Lib.hid k1; have K2 := Lib.hid k2; have K3 := Lib.hid k3; have K4 := Lib.hid k4; have K5 := Lib.hid k5
    have B2 := Lib.hid b2
    clear k1 k2 k3 k4 k5 ha hb hc hr1 own1 gr1 own2 gr2 at1 at2 b1 b2 run1 run2
    generalize cmpL xs ys = r1 at *
    generalize cmpL ys zs = r2 at *
    generalize cmpL xs zs = r3 at *
    have RR2 := rr2
    rw [List.length_singleton] at RR2
    clear rr2
    have fin : ∀ w5, Below w2.heap.size w2 w5 → Below w.heap.size w w5 := fun w5 h => below_up B2.out h
    have FIN := Lib.hid fin
    clear fin
    by_cases t1 : r1 > 0
    · have e1 : decide (r1 > 0) = true := by simpa using t1
      have HT := Lib.hid htr
      clear htr t1
      go_enter Try.func4, Try.ntmps4
      go_wp2_with fail
      refine K1.out.mono ?_; rintro e w' ⟨rfl, rfl⟩
      go_wp2_with fail
      refine K2.out.mono ?_; rintro e w' ⟨rfl, rfl⟩
      go_wp2_with fail
      refine K4.out.mono ?_; rintro e w' ⟨rfl, rfl⟩
      go_wp2_with (first | (at_builtin; refine wpList_append_run (o := ⟨some 51, _, _, _, _, _⟩) rfl _ _ _ rfl rfl rfl rr1.out ?_) | (at_builtin; refine wpList_append_run (o := ⟨some 53, _, _, _, _, _⟩) rfl _ _ _ rfl rfl rfl RR2.out ?_))
      refine K5.out.mono ?_; rintro e w' ⟨rfl, rfl⟩
      go_wp2_with fail
      refine (awake3_any _).mono ?_; rintro e w5 ⟨rfl, hb5⟩
      go_wp2
      go_ret
      exact ⟨rfl, FIN.out _ hb5⟩
    · have e1 : decide (r1 > 0) = false := by simpa using t1
      by_cases t2 : r2 > 0
      · have e2 : decide (r2 > 0) = true := by simpa using t2
        have HT := Lib.hid htr
        clear htr t1 t2
        go_enter Try.func4, Try.ntmps4
        go_wp2_with fail
        refine K1.out.mono ?_; rintro e w' ⟨rfl, rfl⟩
        go_wp2_with fail
        refine K2.out.mono ?_; rintro e w' ⟨rfl, rfl⟩
        go_wp2_with fail
        refine K4.out.mono ?_; rintro e w' ⟨rfl, rfl⟩
        go_wp2_with (first | (at_builtin; refine wpList_append_run (o := ⟨some 51, _, _, _, _, _⟩) rfl _ _ _ rfl rfl rfl rr1.out ?_) | (at_builtin; refine wpList_append_run (o := ⟨some 53, _, _, _, _, _⟩) rfl _ _ _ rfl rfl rfl RR2.out ?_))
        refine K5.out.mono ?_; rintro e w' ⟨rfl, rfl⟩
        go_wp2_with fail
        refine (awake3_any _).mono ?_; rintro e w5 ⟨rfl, hb5⟩
        go_wp2
        go_ret
        exact ⟨rfl, FIN.out _ hb5⟩
      · have e2 : decide (r2 > 0) = false := by simpa using t2
        have t3 := htr (by omega) (by omega)
        have e3 : decide (r3 ≤ 0) = true := by simpa using t3
        clear htr t1 t2 t3
        go_enter Try.func4, Try.ntmps4
        go_wp2_with fail
        refine K1.out.mono ?_; rintro e w' ⟨rfl, rfl⟩
        go_wp2_with fail
        refine K2.out.mono ?_; rintro e w' ⟨rfl, rfl⟩
        go_wp2_with fail
        refine K3.out.mono ?_; rintro e w' ⟨rfl, rfl⟩
        go_wp2_with fail
        refine K4.out.mono ?_; rintro e w' ⟨rfl, rfl⟩
        go_wp2_with (first | (at_builtin; refine wpList_append_run (o := ⟨some 51, _, _, _, _, _⟩) rfl _ _ _ rfl rfl rfl rr1.out ?_) | (at_builtin; refine wpList_append_run (o := ⟨some 53, _, _, _, _, _⟩) rfl _ _ _ rfl rfl rfl RR2.out ?_))
        refine K5.out.mono ?_; rintro e w' ⟨rfl, rfl⟩
        go_wp2_with fail
        refine (awake3_any _).mono ?_; rintro e w5 ⟨rfl, hb5⟩
        go_wp2
        go_ret
        exact ⟨rfl, FIN.out _ hb5⟩
  · by_cases h1 : xs.length ≤ 60
    · have g1 : decide ((xs.length : Int) > 60) = false := by simp; omega
      by_cases h2 : ys.length ≤ 60
      · have g2 : decide ((ys.length : Int) > 60) = false := by simp; omega
        have g3 : decide ((zs.length : Int) > 60) = true := by simp; omega
        clear h0
        go_enter Try.func4, Try.ntmps4
        go_wp2_with (go_at_call 18; refine (awake3_any _).mono ?_; rintro e w5 ⟨rfl, hb5⟩)
        go_ret
        exact ⟨rfl, hb5⟩
      · have g2 : decide ((ys.length : Int) > 60) = true := by simp; omega
        clear h0
        go_enter Try.func4, Try.ntmps4
        go_wp2_with (go_at_call 18; refine (awake3_any _).mono ?_; rintro e w5 ⟨rfl, hb5⟩)
        go_ret
        exact ⟨rfl, hb5⟩
    · have g1 : decide ((xs.length : Int) > 60) = true := by simp; omega
      clear h0
      go_enter Try.func4, Try.ntmps4
      go_wp2_with (go_at_call 18; refine (awake3_any _).mono ?_; rintro e w5 ⟨rfl, hb5⟩)
      go_ret
      exact ⟨rfl, hb5⟩
end Go.Proofs.Ytojecaeblgghjaa
