/-
  The document's Of; facets with their conflicts, on both sides; SameFacet.
-/
import Derived.Test.YtojecaeblgghjaaConf3
import Derived.Test.YtojecaeblgghjaaTriCompact
set_option linter.unusedVariables false
set_option linter.unusedSimpArgs false
namespace Go.Proofs.Ytojecaeblgghjaa
open Go.RowKit Go.Sort LsP

theorem sees_lt {xs : List T3} {n : Nat} {a b c v : Int} (hG : ∀ i, i < 4 → goodP n [a, b, c, v] i) (hf : ∀ x ∈ [a, b, c, v], fitT xs[x.toNat]! = true) : decide ((signR xs n [a, b, c, v]).1 < 0) = seesB xs n a b c v := by
  unfold seesB
  rcases signR_two hG hf with h | h <;> rw [h] <;> decide

theorem filter_upto (s : Int) (k : Nat) (p : Int → Bool) : (upto s (k + 1)).filter p = (upto s k).filter p ++ (if p (s + (k : Int)) = true then [s + (k : Int)] else []) := by
  rw [upto_succ, List.filter_append]
  simp only [List.filter_cons, List.filter_nil]
theorem filter_upto_len (s : Int) (k : Nat) (p : Int → Bool) : ((upto s k).filter p).length ≤ k := by
  have := List.length_filter_le p (upto s k)
  rwa [upto_len] at this

set_option maxHeartbeats 8000000 in
set_option maxRecDepth 100000 in
theorem refConfOf_any (A : Option Addr) (n c' : Nat) (xs : List T3) (a b c : Int) (w : World) (ha : RdT 0 w A xs) (hn : xs.length = n) (hn2 : n ≤ 9223372036854775807) :
    Calls Try.prog 70 #[.slice A n c', .agg #[.int .i64 a, .int .i64 b, .int .i64 c]] w (Told2 w (ofR xs n a b c).1 (ofR xs n a b c).2) := by
  have MB := Lib.hid (one_start w (o3 a b c 50))
  have kc := Lib.hid (refAsked_any A n c' xs a b c (w.alloc (o3 a b c 50)) (ha.below MB.out.below (Nat.le_refl _)) hn hn2)
  have HA := Lib.hid ha
  clear ha
  obtain ⟨d0, d1, d2, _⟩ := row3 MB.out.head
  by_cases hk : checkR xs n a b c = 0
  · obtain ⟨hl, hg⟩ := checkR_good hk
    obtain ⟨h512, hfit⟩ := loadsR_fit hl
    obtain ⟨ia, ib, ic, a0, b0, c0⟩ := good_in hn2 hg
    have hR : Hid (ofR xs n a b c = (ofL xs n a b c, 0)) := Lib.hid (by unfold ofR; rw [if_neg (by simpa using hk)])
    have hge := mx4_ge a b c
    have hle := mx4_le (a := a) (b := b) (c := c) (m := 515) (by omega) (by omega) (by omega) (by omega)
    have hmx := fun W => run_mx4 (P := Try.prog) #[3, 3, 3, 3] 3 a b c W
    have hcnt : Hid (cntL n a b c = ((n : Int) - (mx4 a b c + 1)).toNat) := Lib.hid rfl
    have hofl : Hid (ofL xs n a b c = (upto (mx4 a b c + 1) (cntL n a b c)).filter (seesB xs n a b c)) := Lib.hid rfl
    have hw2 : wrap64 (mx4 a b c + 1) = mx4 a b c + 1 := IntWalk.wrap64_in _ (by omega)
    have kS : Hid (∀ v : Int, mx4 a b c + 1 ≤ v → v < n → ∀ W, Below w.heap.size w W → Calls Try.prog 100 #[.slice A n c', .agg #[.int .i64 a, .int .i64 b, .int .i64 c], .int .i64 v] W fun e w' => e = .returned (.bool (seesB xs n a b c v)) ∧ Below W.heap.size W w') := Lib.hid (fun v h1 h2 W hW => by
      have hG : ∀ i, i < 4 → goodP n [a, b, c, v] i := good3 hg ⟨by omega, h2⟩ (by omega) (by omega) (by omega)
      have hF : ∀ x ∈ [a, b, c, v], fitT xs[x.toNat]! = true := all_fit hn hfit (fun x hx => by
        simp only [List.mem_cons, List.not_mem_nil, or_false] at hx
        rcases hx with rfl | rfl | rfl | rfl <;> omega)
      have h := refSees_any A n c' xs a b c v W (HA.out.below hW (Nat.le_refl _)) hn hn2 hG hF
      rw [sees_lt hG hF] at h
      exact h)
    rw [hk] at kc
    clear hk hl hg hfit
    generalize cntL n a b c = cnt at *
    go_enter Try.func70, Try.ntmps70
    go_wp2_with fail
    refine kc.out.mono ?_
    rintro e w1 ⟨rfl, hb⟩
    replace MB := Lib.hid (MB.out.next hb)
    clear hb kc d0 d1 d2
    obtain ⟨d0, d1, d2, _⟩ := row3 MB.out.head
    generalize hm : mx4 a b c = m at *
    generalize hp : seesB xs n a b c = p at *
    have own0 : Hid (w1.ownsRow w1.heap.size 3 1 (.slice none 0 0) 0 (((upto (m + 1) 0).filter p).map encI)) := Lib.hid (by rw [show upto (m + 1) 0 = [] from rfl]; exact World.ownsRow_nil w1 w1.heap.size 3 1)
    have hL : Hid (∀ p, p ∈ [(w.heap.size, o3 a b c 50)] → p.1 < w1.heap.size) := Lib.hid (fun p hp => MB.out.lt hp)
    have hw0 : Hid (w.heap.size ≤ w1.heap.size) := Lib.hid MB.out.above
    go_wp2_with fail
    go_loopw [8, 7] (fun v pv wr => ∃ k : Nat, k ≤ cnt ∧ v = .int .i64 (m + 1 + (k : Int)) ∧ Hid (wr.ownsRow w1.heap.size 3 1 pv ((upto (m + 1) k).filter p).length (((upto (m + 1) k).filter p).map encI)) ∧ Hid (Mem w [(w.heap.size, o3 a b c 50)] wr) ∧ Hid (w1.heap.size ≤ wr.heap.size)) (fun v _ _ => (m + 1 + (cnt : Int) - intOf v).toNat)
    case atStart => exact ⟨0, Nat.zero_le _, by simp, own0.out, MB.out, Nat.le_refl _⟩
    case round =>
      clear MB own0 d0 d1 d2
      obtain ⟨k, hkc, rfl, own, MB, hB⟩ := hrel
      replace own := Lib.hid own.out
      replace MB := Lib.hid MB.out
      replace hB := Lib.hid hB.out
      obtain ⟨d0, d1, d2, _⟩ := row3 MB.out.head
      by_cases hlt : k < cnt
      · have e1 : decide (m + 1 + (k : Int) < (n : Int)) = true := by have := hcnt.out; simp; omega
        have ks := Lib.hid (kS.out (m + 1 + (k : Int)) (by omega) (by have := hcnt.out; omega) wr MB.out.below)
        have hfu := Lib.hid (filter_upto (m + 1) k p)
        have hfl := Lib.hid (filter_upto_len (m + 1) k p)
        have hw3 : wrap64 (m + 1 + (k : Int) + 1) = m + 1 + (k : Int) + 1 := IntWalk.wrap64_in _ (by have := hcnt.out; omega)
        cases hpv : p (m + 1 + (k : Int))
        · rw [hpv] at ks hfu
          replace hfu := Lib.hid (hfu.out.trans (List.append_nil _))
          go_wp2_with fail
          refine ks.out.mono ?_
          rintro e w2 ⟨rfl, hb⟩
          have own2 := Lib.hid (own_updK (F := fun _ => False) own.out (Upd.of_below hb) (fun _ _ => id))
          rw [← hfu.out] at own2
          replace MB := Lib.hid (MB.out.next hb)
          replace hB := Lib.hid (Nat.le_trans hB.out hb.size)
          clear hb ks d0 d1 d2
          go_wp2_with fail
          go_roundw
          case rel => exact ⟨k + 1, by omega, by rw [hw3, show m + 1 + (k : Int) + 1 = m + 1 + ((k + 1 : Nat) : Int) by omega], own2.out, MB.out, hB.out⟩
          case measure => simp [intOf]; omega
        · rw [hpv] at ks hfu
          go_wp2_with fail
          refine ks.out.mono ?_
          rintro e w2 ⟨rfl, hb⟩
          have own2 := own_updK (F := fun _ => False) own.out (Upd.of_below hb) (fun _ _ => id)
          replace MB := Lib.hid (MB.out.next hb)
          replace hB := Lib.hid (Nat.le_trans hB.out hb.size)
          clear hb ks d0 d1 d2
          obtain ⟨A', cc, W', run, MB', own', hB'⟩ := ap1_step MB.out hL.out hw0.out own2 hB.out (m + 1 + (k : Int)) (by have := hcnt.out; have := hfl.out; omega)
          have hlen : ((upto (m + 1) k).filter p).length + 1 = ((upto (m + 1) (k + 1)).filter p).length := by rw [hfu.out]; simp
          rw [hlen, show (upto (m + 1) k).filter p ++ [m + 1 + (k : Int)] = (upto (m + 1) (k + 1)).filter p from hfu.out.symm] at own'
          rw [hlen] at run
          have run := Lib.hid run
          replace own' := Lib.hid own'
          replace hB' := Lib.hid hB'
          replace MB' := Lib.hid MB'
          clear own2 hlen
          go_wp2_with (first | (at_builtin; refine wpList_append_run (o := ⟨some 36, _, _, _, _, _⟩) rfl _ _ _ rfl rfl rfl run.out ?_))
          go_roundw
          case rel => exact ⟨k + 1, by omega, by rw [hw3, show m + 1 + (k : Int) + 1 = m + 1 + ((k + 1 : Nat) : Int) by omega], own'.out, MB'.out, hB'.out⟩
          case measure => simp [intOf]; omega
      · obtain rfl : k = cnt := by omega
        have e1 : decide (m + 1 + (k : Int) < (n : Int)) = false := by have := hcnt.out; simp; omega
        rw [← hofl.out] at own
        obtain ⟨A', cc, rfl, hc1, hc2, _⟩ := own_value own.out
        obtain ⟨hrd, hfr, _⟩ := Rd.own own.out
        have fin : Hid (Told2 w (ofR xs n a b c).1 (ofR xs n a b c).2 (.returned (.tuple #[.slice A' (ofL xs n a b c).length cc, .int .i64 0])) wr) := Lib.hid (by
          rw [hR.out]
          exact ⟨A', cc, rfl, hc1, hc2, hrd.low hw0.out, hfr, MB.out.below⟩)
        clear own hrd hfr hc1 hc2
        go_wp2
        go_ret2
        exact fin.out
  · have hR : Hid (ofR xs n a b c = ([], checkR xs n a b c)) := Lib.hid (by unfold ofR; rw [if_pos hk])
    have e1 : (checkR xs n a b c != 0) = true := by simpa using hk
    generalize checkR xs n a b c = r at *
    clear hk
    go_enter Try.func70, Try.ntmps70
    go_wp2_with fail
    refine kc.out.mono ?_
    rintro e w1 ⟨rfl, hb⟩
    replace MB := Lib.hid (MB.out.next hb)
    clear hb kc d0 d1 d2
    go_wp2
    go_ret2
    rw [hR.out]
    exact ⟨none, 0, rfl, Nat.le_refl _, by decide, Rd.nil, fun _ _ e => (by cases e), MB.out.below⟩
end Go.Proofs.Ytojecaeblgghjaa
