/-
  carapaceref6.in, Among. (Printed by mkconf8.py.)
-/
import Derived.Test.YtojecaeblgghjaaConf7
set_option linter.unusedVariables false
set_option linter.unusedSimpArgs false
namespace Go.Proofs.Ytojecaeblgghjaa
open Go.RowKit Go.Sort LsP

theorem refIn_any (a b c x : Int) (w : World) :
    Calls Try.prog 114 #[.agg #[.int .i64 a, .int .i64 b, .int .i64 c], .int .i64 x] w fun e w' => e = .returned (.bool (inT a b c x)) ∧ Below w.heap.size w w' := by
  have MB := Lib.hid (one_start w (o3 a b c 50))
  obtain ⟨d0, d1, d2, e0, e1, e2⟩ := row3 MB.out.head
  by_cases h0 : a = x
  · have q0 : (a == x) = true := by simpa using h0
    rw [show inT a b c x = true from decide_eq_true (.inl h0.symm)]
    clear h0
    go_enter Try.func114, Try.ntmps114
    go_wp2
    go_ret
    exact ⟨rfl, MB.out.below⟩
  · have q0 : (a == x) = false := by simpa using h0
    by_cases h1 : b = x
    · have q1 : (b == x) = true := by simpa using h1
      rw [show inT a b c x = true from decide_eq_true (.inr (.inl h1.symm))]
      clear h0 h1
      go_enter Try.func114, Try.ntmps114
      go_wp2
      go_ret
      exact ⟨rfl, MB.out.below⟩
    · have q1 : (b == x) = false := by simpa using h1
      by_cases h2 : c = x
      · have q2 : (c == x) = true := by simpa using h2
        rw [show inT a b c x = true from decide_eq_true (.inr (.inr h2.symm))]
        clear h0 h1 h2
        go_enter Try.func114, Try.ntmps114
        go_wp2
        go_ret
        exact ⟨rfl, MB.out.below⟩
      · have q2 : (c == x) = false := by simpa using h2
        rw [show inT a b c x = false from decide_eq_false (by omega)]
        clear h0 h1 h2
        go_enter Try.func114, Try.ntmps114
        go_wp2
        go_ret
        exact ⟨rfl, MB.out.below⟩

theorem take_filterI (S : List Int) (k : Nat) (hk : k < S.length) (p : Int → Bool) : (S.take (k + 1)).filter p = (S.take k).filter p ++ (if p S[k]! = true then [S[k]!] else []) := by
  rw [List.take_succ_eq_append_getElem hk, List.filter_append, getElem!_pos S k hk]
  simp only [List.filter_cons, List.filter_nil]

set_option maxHeartbeats 16000000 in
set_option maxRecDepth 100000 in
theorem refAmong_any (A B : Option Addr) (n c' d : Nat) (xs : List T3) (a b c : Int) (ys : List Int) (w : World) (ha : RdT 0 w A xs) (hn : xs.length = n) (hn2 : n ≤ 9223372036854775807) (hb : Rd encI 0 w B ys) (hy : ys.length ≤ 1000000) :
    Calls Try.prog 68 #[.slice A n c', .agg #[.int .i64 a, .int .i64 b, .int .i64 c], .slice B ys.length d] w (Told2 w (amR xs n a b c ys).1 (amR xs n a b c ys).2) := by
  have MB := Lib.hid (one_start w (o3 a b c 50))
  have kc := Lib.hid (refAsked_any A n c' xs a b c (w.alloc (o3 a b c 50)) (ha.below MB.out.below (Nat.le_refl _)) hn hn2)
  have HA := Lib.hid ha
  have HBd := Lib.hid hb
  clear ha hb
  obtain ⟨d0, d1, d2, _⟩ := row3 MB.out.head
  by_cases hk : checkR xs n a b c = 0
  · obtain ⟨hl, hg⟩ := checkR_good hk
    obtain ⟨h512, hfit⟩ := loadsR_fit hl
    obtain ⟨ia, ib, ic, a0, b0, c0⟩ := good_in hn2 hg
    have kS : Hid (∀ v : Int, askB n a b c v = true → ∀ W, Below w.heap.size w W → Calls Try.prog 100 #[.slice A n c', .agg #[.int .i64 a, .int .i64 b, .int .i64 c], .int .i64 v] W fun e w' => e = .returned (.bool (seesB xs n a b c v)) ∧ Below W.heap.size W w') := Lib.hid (fun v hv W hW => by
      obtain ⟨_, h1, h2, h3, h4, h5⟩ := ask_in h512 hv
      have hG : ∀ i, i < 4 → goodP n [a, b, c, v] i := good3 hg ⟨h1, h2⟩ h3 h4 h5
      have hF : ∀ x ∈ [a, b, c, v], fitT xs[x.toNat]! = true := all_fit hn hfit (fun x hx => by
        simp only [List.mem_cons, List.not_mem_nil, or_false] at hx
        rcases hx with rfl | rfl | rfl | rfl <;> omega)
      have h := refSees_any A n c' xs a b c v W (HA.out.below hW (Nat.le_refl _)) hn hn2 hG hF
      rw [sees_lt hG hF] at h
      exact h)
    rw [hk] at kc
    have hbad : Hid (∀ y, y ∈ sset ys → askB n a b c y = false → amR xs n a b c ys = ([], 21)) := Lib.hid (fun y h1 h2 => amR_bad hk (mem_sset.1 h1) h2)
    have hgood : Hid ((∀ j, j < (sset ys).length → askB n a b c (sset ys)[j]! = true) → amR xs n a b c ys = ((sset ys).filter (seesB xs n a b c), 0)) := Lib.hid (fun h => amR_ok hk (fun y hy => by
      obtain ⟨j, hj, rfl⟩ := List.getElem_of_mem (mem_sset.2 hy)
      have := h j hj
      rwa [getElem!_pos _ j hj] at this))
    have hsl : Hid ((sset ys).length ≤ 1000000) := Lib.hid (by have h1 := sset_len ys; omega)
    have kset : Hid (∀ W, Below w.heap.size w W → Calls Try.prog 29 #[.slice B ys.length d] W (Told encI W (sset ys))) := Lib.hid (fun W hW => refSet_any B d ys W (HBd.out.below hW (Nat.le_refl _)) hy)
    clear hk hl hg hfit HBd hy
    generalize ys.length = k0 at *
    generalize sset ys = S at *
    generalize amR xs n a b c ys = R at *
    generalize hp : seesB xs n a b c = p at *
    clear hp
    go_enter Try.func68, Try.ntmps68
    go_wp2_with fail
    refine kc.out.mono ?_
    rintro e w1 ⟨rfl, hb⟩
    replace MB := Lib.hid (MB.out.next hb)
    clear hb kc d0 d1 d2
    go_wp2_with fail
    refine (kset.out _ MB.out.below).mono ?_
    rintro e w2 ⟨A3, c3, rfl, h1, h2, h3, h4, h5⟩
    have RS0 := Lib.hid (h3.low (Nat.zero_le _))
    replace MB := Lib.hid (MB.out.next h5)
    have hc3 : S.length ≤ c3 ∧ c3 ≤ maxLen := ⟨h1, h2⟩
    unfold maxLen at hc3
    clear h1 h2 h3 h4 h5 kset
    obtain ⟨N, hN⟩ : ∃ N, S.length = N := ⟨_, rfl⟩
    have HN := Lib.hid hN
    rw [hN] at hc3 hsl
    rw [hN]
    clear hN
    go_wp2_with fail
    go_loopw [11] (fun i wr => ∃ k : Nat, k ≤ N ∧ i = .int .i64 k ∧ Hid (∀ j, j < k → askB n a b c S[j]! = true) ∧ Hid (Mem w [(w.heap.size, o3 a b c 50)] wr) ∧ Hid (Rd encI 0 wr A3 S)) (fun i _ => N - (intOf i).toNat)
    case atStart => exact ⟨0, Nat.zero_le _, rfl, fun j h => by omega, MB.out, RS0.out⟩
    case round =>
      clear MB RS0
      obtain ⟨k, hkk, rfl, hok, MB, RS⟩ := hrel
      replace hok := Lib.hid hok.out
      replace MB := Lib.hid MB.out
      replace RS := Lib.hid RS.out
      by_cases hlt : k < N
      · obtain ⟨g, off, rfl, hgb, cy⟩ := RS.out.at_ (k := k) (by rw [HN.out]; exact hlt)
        obtain ⟨y, hyv⟩ : ∃ y, S[k]! = y := ⟨_, rfl⟩
        have hmem : Hid (y ∈ S) := Lib.hid (by rw [← hyv, getElem!_pos S k (by rw [HN.out]; exact hlt)]; exact List.getElem_mem _)
        rw [hyv] at cy
        replace hyv := Lib.hid hyv
        simp only [encI] at cy
        have hgd : Hid (g < wr.drew.heap.size) := Lib.hid hgb
        clear hgb
        have kin := Lib.hid (refIn_any a b c y)
        by_cases l0 : y < 0
        · have dl : decide (y < 0) = true := by simpa using l0
          have hv := Lib.hid (hbad.out y hmem.out (by unfold askB; rw [decide_eq_false (by omega)]; rfl))
          clear l0
          go_wp2_with fail
          refine wp_region_held_drew (S := fun w' => Mem w [(w.heap.size, o3 a b c 50)] w' ∧ w'.cell? ⟨g, off + k, none⟩ = some (.int .i64 y)) (by kernel_rfl) ⟨MB.out.drew, cy⟩ (fun hHeld => ?_)
          replace MB := Lib.hid MB.out.drew
          replace cy : (World.drew wr).cell? ⟨g, off + k, none⟩ = some (.int .i64 y) := cy
          replace RS : Hid (Rd encI 0 (World.drew wr) (some ⟨g, off, none⟩) S) := Lib.hid RS.out
          generalize World.drew wr = wd at *
          refine wpAnyH_take (i := 0) (oi := ?o1) (v := ?v1) ?hi1 (by kernel_rfl) (by kernel_rfl) (by kernel_rfl) ?hQ1 ?hy1 (by assumption) ?rest1
          case hi1 => (simp only [List.getElem?_toArray, List.getElem?_cons_succ, List.getElem?_cons_zero]; rfl)
          case hQ1 => exact fun _ _ _ h => h
          case hy1 => (refine Or.inl ⟨by rfl, ?_⟩; intro w' hSw; obtain ⟨hM, cy⟩ := hSw; obtain ⟨k0, k1, k2, _⟩ := row3 hM.head; go_simp; (try with_reducible rfl))
          try simp only [Act.put, List.setIfInBounds_toArray, List.set_cons_zero, List.set_cons_succ]
          refine wpAnyH_take (i := 1) (oi := ?o2) (v := ?v2) ?hi2 (by kernel_rfl) (by kernel_rfl) (by kernel_rfl) ?hQ2 ?hy2 (by assumption) ?rest2
          case hi2 => (simp only [List.getElem?_toArray, List.getElem?_cons_succ, List.getElem?_cons_zero]; rfl)
          case hQ2 => exact fun _ _ _ h => h
          case hy2 => (refine Or.inl ⟨by rfl, ?_⟩; intro w' hSw; obtain ⟨hM, cy⟩ := hSw; obtain ⟨k0, k1, k2, _⟩ := row3 hM.head; go_simp; (try with_reducible rfl))
          try simp only [Act.put, List.setIfInBounds_toArray, List.set_cons_zero, List.set_cons_succ]
          refine wpAnyH_take (i := 2) (oi := ?o3) (v := ?v3) ?hi3 (by kernel_rfl) (by kernel_rfl) (by kernel_rfl) ?hQ3 ?hy3 (by assumption) ?rest3
          case hi3 => (simp only [List.getElem?_toArray, List.getElem?_cons_succ, List.getElem?_cons_zero]; rfl)
          case hQ3 => exact fun _ _ _ h => h
          case hy3 => (refine Or.inl ⟨by rfl, ?_⟩; intro w' hSw; obtain ⟨hM, cy⟩ := hSw; obtain ⟨k0, k1, k2, _⟩ := row3 hM.head; go_simp; (try with_reducible rfl))
          try simp only [Act.put, List.setIfInBounds_toArray, List.set_cons_zero, List.set_cons_succ]
          refine wpAnyH_take (i := 3) (oi := ?o4) (v := ?v4) ?hi4 (by kernel_rfl) (by kernel_rfl) (by kernel_rfl) ?hQ4 ?hy4 (by assumption) ?rest4
          case hi4 => (simp only [List.getElem?_toArray, List.getElem?_cons_succ, List.getElem?_cons_zero]; rfl)
          case hQ4 => exact fun _ _ _ h => h
          case hy4 => (refine Or.inl ⟨by rfl, ?_⟩; intro w' hSw; obtain ⟨hM, cy⟩ := hSw; obtain ⟨k0, k1, k2, _⟩ := row3 hM.head; go_simp; (try with_reducible rfl))
          try simp only [Act.put, List.setIfInBounds_toArray, List.set_cons_zero, List.set_cons_succ]
          refine wpAnyH_take (i := 4) (oi := ?o5) (v := ?v5) ?hi5 (by kernel_rfl) (by kernel_rfl) (by kernel_rfl) ?hQ5 ?hy5 (by assumption) ?rest5
          case hi5 => (simp only [List.getElem?_toArray, List.getElem?_cons_succ, List.getElem?_cons_zero]; rfl)
          case hQ5 => exact fun _ _ _ h => h
          case hy5 => (refine Or.inl ⟨by rfl, ?_⟩; intro w' hSw; obtain ⟨hM, cy⟩ := hSw; obtain ⟨k0, k1, k2, _⟩ := row3 hM.head; go_simp; (try with_reducible rfl))
          try simp only [Act.put, List.setIfInBounds_toArray, List.set_cons_zero, List.set_cons_succ]
          refine wpAnyH_take (i := 5) (oi := ?o6) (v := ?v6) ?hi6 (by kernel_rfl) (by kernel_rfl) (by kernel_rfl) ?hQ6 ?hy6 (by assumption) ?rest6
          case hi6 => (simp only [List.getElem?_toArray, List.getElem?_cons_succ, List.getElem?_cons_zero]; rfl)
          case hQ6 => exact fun _ _ _ h => h
          case hy6 => (refine Or.inl ⟨by rfl, ?_⟩; intro w' hSw; obtain ⟨hM, cy⟩ := hSw; obtain ⟨k0, k1, k2, _⟩ := row3 hM.head; go_simp; (try with_reducible rfl))
          try simp only [Act.put, List.setIfInBounds_toArray, List.set_cons_zero, List.set_cons_succ]
          refine wpAnyH_take (i := 6) (oi := ?o7) (v := undef) ?hi7 (by kernel_rfl) (by kernel_rfl) (by kernel_rfl) ?hQ7 ?hy7 (by assumption) ?rest7
          case hi7 => (simp only [List.getElem?_toArray, List.getElem?_cons_succ, List.getElem?_cons_zero]; rfl)
          case hQ7 => exact fun _ _ _ h => h
          case hy7 => exact Or.inr ⟨by rfl, rfl⟩
          try simp only [Act.put, List.setIfInBounds_toArray, List.set_cons_zero, List.set_cons_succ]
          refine wpAnyH_take (i := 7) (oi := ?o8) (v := undef) ?hi8 (by kernel_rfl) (by kernel_rfl) (by kernel_rfl) ?hQ8 ?hy8 (by assumption) ?rest8
          case hi8 => (simp only [List.getElem?_toArray, List.getElem?_cons_succ, List.getElem?_cons_zero]; rfl)
          case hQ8 => exact fun _ _ _ h => h
          case hy8 => exact Or.inr ⟨by rfl, rfl⟩
          try simp only [Act.put, List.setIfInBounds_toArray, List.set_cons_zero, List.set_cons_succ]
          refine wpAnyH_take (i := 8) (oi := ?o9) (v := undef) ?hi9 (by kernel_rfl) (by kernel_rfl) (by kernel_rfl) ?hQ9 ?hy9 (by assumption) ?rest9
          case hi9 => (simp only [List.getElem?_toArray, List.getElem?_cons_succ, List.getElem?_cons_zero]; rfl)
          case hQ9 => exact fun _ _ _ h => h
          case hy9 => exact Or.inr ⟨by rfl, rfl⟩
          try simp only [Act.put, List.setIfInBounds_toArray, List.set_cons_zero, List.set_cons_succ]
          refine wpAnyH_take (i := 9) (oi := ?o10) (v := undef) ?hi10 (by kernel_rfl) (by kernel_rfl) (by kernel_rfl) ?hQ10 ?hy10 (by assumption) ?rest10
          case hi10 => (simp only [List.getElem?_toArray, List.getElem?_cons_succ, List.getElem?_cons_zero]; rfl)
          case hQ10 => exact fun _ _ _ h => h
          case hy10 => exact Or.inr ⟨by rfl, rfl⟩
          try simp only [Act.put, List.setIfInBounds_toArray, List.set_cons_zero, List.set_cons_succ]
          refine wpAnyH_take (i := 10) (oi := ?o11) (v := undef) ?hi11 (by kernel_rfl) (by kernel_rfl) (by kernel_rfl) ?hQ11 ?hy11 (by assumption) ?rest11
          case hi11 => (simp only [List.getElem?_toArray, List.getElem?_cons_succ, List.getElem?_cons_zero]; rfl)
          case hQ11 => exact fun _ _ _ h => h
          case hy11 => exact Or.inr ⟨by rfl, rfl⟩
          try simp only [Act.put, List.setIfInBounds_toArray, List.set_cons_zero, List.set_cons_succ]
          refine wpAnyH_take (i := 11) (oi := ?o12) (v := undef) ?hi12 (by kernel_rfl) (by kernel_rfl) (by kernel_rfl) ?hQ12 ?hy12 (by assumption) ?rest12
          case hi12 => (simp only [List.getElem?_toArray, List.getElem?_cons_succ, List.getElem?_cons_zero]; rfl)
          case hQ12 => exact fun _ _ _ h => h
          case hy12 => exact Or.inr ⟨by rfl, rfl⟩
          try simp only [Act.put, List.setIfInBounds_toArray, List.set_cons_zero, List.set_cons_succ]
          refine wpAnyH_take (i := 12) (oi := ?o13) (v := undef) ?hi13 (by kernel_rfl) (by kernel_rfl) (by kernel_rfl) ?hQ13 ?hy13 (by assumption) ?rest13
          case hi13 => (simp only [List.getElem?_toArray, List.getElem?_cons_succ, List.getElem?_cons_zero]; rfl)
          case hQ13 => exact fun _ _ _ h => h
          case hy13 => exact Or.inr ⟨by rfl, rfl⟩
          try simp only [Act.put, List.setIfInBounds_toArray, List.set_cons_zero, List.set_cons_succ]
          refine wpAnyH_take (i := 13) (oi := ?o14) (v := ?v14) ?hi14 (by kernel_rfl) (by kernel_rfl) (by kernel_rfl) ?hQ14 ?hy14 (by assumption) ?rest14
          case hi14 => (simp only [List.getElem?_toArray, List.getElem?_cons_succ, List.getElem?_cons_zero]; rfl)
          case hQ14 => exact fun _ _ _ h => h
          case hy14 => (refine Or.inl ⟨by rfl, ?_⟩; intro w' hSw; go_simp; (try with_reducible rfl))
          try simp only [Act.put, List.setIfInBounds_toArray, List.set_cons_zero, List.set_cons_succ]
          refine wpAnyH_take (i := 14) (oi := ?o15) (v := ?v15) ?hi15 (by kernel_rfl) (by kernel_rfl) (by kernel_rfl) ?hQ15 ?hy15 (by assumption) ?rest15
          case hi15 => (simp only [List.getElem?_toArray, List.getElem?_cons_succ, List.getElem?_cons_zero]; rfl)
          case hQ15 => exact fun _ _ _ h => h
          case hy15 => (refine Or.inl ⟨by rfl, ?_⟩; intro w' hSw; go_simp; (try with_reducible rfl))
          try simp only [Act.put, List.setIfInBounds_toArray, List.set_cons_zero, List.set_cons_succ]
          refine wpAnyH_take (i := 15) (oi := ?o16) (v := undef) ?hi16 (by kernel_rfl) (by kernel_rfl) (by kernel_rfl) ?hQ16 ?hy16 (by assumption) ?rest16
          case hi16 => (simp only [List.getElem?_toArray, List.getElem?_cons_succ, List.getElem?_cons_zero]; rfl)
          case hQ16 => exact fun _ _ _ h => h
          case hy16 => exact Or.inr ⟨by rfl, rfl⟩
          try simp only [Act.put, List.setIfInBounds_toArray, List.set_cons_zero, List.set_cons_succ]
          refine wpAnyH_take (i := 16) (oi := ?o17) (v := undef) ?hi17 (by kernel_rfl) (by kernel_rfl) (by kernel_rfl) ?hQ17 ?hy17 (by assumption) ?rest17
          case hi17 => (simp only [List.getElem?_toArray, List.getElem?_cons_succ, List.getElem?_cons_zero]; rfl)
          case hQ17 => exact fun _ _ _ h => h
          case hy17 => exact Or.inr ⟨by rfl, rfl⟩
          try simp only [Act.put, List.setIfInBounds_toArray, List.set_cons_zero, List.set_cons_succ]
          refine wpAnyH_take (i := 17) (oi := ?o18) (v := undef) ?hi18 (by kernel_rfl) (by kernel_rfl) (by kernel_rfl) ?hQ18 ?hy18 (by assumption) ?rest18
          case hi18 => (simp only [List.getElem?_toArray, List.getElem?_cons_succ, List.getElem?_cons_zero]; rfl)
          case hQ18 => exact fun _ _ _ h => h
          case hy18 => exact Or.inr ⟨by rfl, rfl⟩
          try simp only [Act.put, List.setIfInBounds_toArray, List.set_cons_zero, List.set_cons_succ]
          refine wpAnyH_take (i := 18) (oi := ?o19) (v := undef) ?hi19 (by kernel_rfl) (by kernel_rfl) (by kernel_rfl) ?hQ19 ?hy19 (by assumption) ?rest19
          case hi19 => (simp only [List.getElem?_toArray, List.getElem?_cons_succ, List.getElem?_cons_zero]; rfl)
          case hQ19 => exact fun _ _ _ h => h
          case hy19 => exact Or.inr ⟨by rfl, rfl⟩
          try simp only [Act.put, List.setIfInBounds_toArray, List.set_cons_zero, List.set_cons_succ]
          refine wpAnyH_take (i := 19) (oi := ?o20) (v := undef) ?hi20 (by kernel_rfl) (by kernel_rfl) (by kernel_rfl) ?hQ20 ?hy20 (by assumption) ?rest20
          case hi20 => (simp only [List.getElem?_toArray, List.getElem?_cons_succ, List.getElem?_cons_zero]; rfl)
          case hQ20 => exact fun _ _ _ h => h
          case hy20 => exact Or.inr ⟨by rfl, rfl⟩
          try simp only [Act.put, List.setIfInBounds_toArray, List.set_cons_zero, List.set_cons_succ]
          refine wpAnyH_take (i := 20) (oi := ?o21) (v := undef) ?hi21 (by kernel_rfl) (by kernel_rfl) (by kernel_rfl) ?hQ21 ?hy21 (by assumption) ?rest21
          case hi21 => (simp only [List.getElem?_toArray, List.getElem?_cons_succ, List.getElem?_cons_zero]; rfl)
          case hQ21 => exact fun _ _ _ h => h
          case hy21 => exact Or.inr ⟨by rfl, rfl⟩
          try simp only [Act.put, List.setIfInBounds_toArray, List.set_cons_zero, List.set_cons_succ]
          refine wpAnyH_take (i := 21) (oi := ?o22) (v := ?v22) ?hi22 (by kernel_rfl) (by kernel_rfl) (by kernel_rfl) ?hQ22 ?hy22 (by assumption) ?rest22
          case hi22 => (simp only [List.getElem?_toArray, List.getElem?_cons_succ, List.getElem?_cons_zero]; rfl)
          case hQ22 => exact fun _ _ _ h => h
          case hy22 => (refine Or.inl ⟨by rfl, ?_⟩; intro w' hSw; go_simp; (try with_reducible rfl))
          try simp only [Act.put, List.setIfInBounds_toArray, List.set_cons_zero, List.set_cons_succ]
          refine wpAnyH_done (by kernel_rfl) ?_ _
          go_wp2
          go_ret2
          rw [hv.out]
          exact ⟨none, 0, rfl, Nat.le_refl _, by decide, Rd.nil, fun _ _ e => (by cases e), MB.out.below⟩
        · have dl : decide (y < 0) = false := by simpa using l0
          by_cases l1 : y ≥ (n : Int)
          · have du : decide (y ≥ (n : Int)) = true := by simpa using l1
            have hv := Lib.hid (hbad.out y hmem.out (by unfold askB; rw [decide_eq_false (show ¬ y < (n : Int) by omega)]; simp))
            clear l0 l1
            go_wp2_with fail
            refine wp_region_held_drew (S := fun w' => Mem w [(w.heap.size, o3 a b c 50)] w' ∧ w'.cell? ⟨g, off + k, none⟩ = some (.int .i64 y)) (by kernel_rfl) ⟨MB.out.drew, cy⟩ (fun hHeld => ?_)
            replace MB := Lib.hid MB.out.drew
            replace cy : (World.drew wr).cell? ⟨g, off + k, none⟩ = some (.int .i64 y) := cy
            replace RS : Hid (Rd encI 0 (World.drew wr) (some ⟨g, off, none⟩) S) := Lib.hid RS.out
            generalize World.drew wr = wd at *
            refine wpAnyH_take (i := 0) (oi := ?o23) (v := ?v23) ?hi23 (by kernel_rfl) (by kernel_rfl) (by kernel_rfl) ?hQ23 ?hy23 (by assumption) ?rest23
            case hi23 => (simp only [List.getElem?_toArray, List.getElem?_cons_succ, List.getElem?_cons_zero]; rfl)
            case hQ23 => exact fun _ _ _ h => h
            case hy23 => (refine Or.inl ⟨by rfl, ?_⟩; intro w' hSw; obtain ⟨hM, cy⟩ := hSw; obtain ⟨k0, k1, k2, _⟩ := row3 hM.head; go_simp; (try with_reducible rfl))
            try simp only [Act.put, List.setIfInBounds_toArray, List.set_cons_zero, List.set_cons_succ]
            refine wpAnyH_take (i := 1) (oi := ?o24) (v := ?v24) ?hi24 (by kernel_rfl) (by kernel_rfl) (by kernel_rfl) ?hQ24 ?hy24 (by assumption) ?rest24
            case hi24 => (simp only [List.getElem?_toArray, List.getElem?_cons_succ, List.getElem?_cons_zero]; rfl)
            case hQ24 => exact fun _ _ _ h => h
            case hy24 => (refine Or.inl ⟨by rfl, ?_⟩; intro w' hSw; obtain ⟨hM, cy⟩ := hSw; obtain ⟨k0, k1, k2, _⟩ := row3 hM.head; go_simp; (try with_reducible rfl))
            try simp only [Act.put, List.setIfInBounds_toArray, List.set_cons_zero, List.set_cons_succ]
            refine wpAnyH_take (i := 2) (oi := ?o25) (v := ?v25) ?hi25 (by kernel_rfl) (by kernel_rfl) (by kernel_rfl) ?hQ25 ?hy25 (by assumption) ?rest25
            case hi25 => (simp only [List.getElem?_toArray, List.getElem?_cons_succ, List.getElem?_cons_zero]; rfl)
            case hQ25 => exact fun _ _ _ h => h
            case hy25 => (refine Or.inl ⟨by rfl, ?_⟩; intro w' hSw; obtain ⟨hM, cy⟩ := hSw; obtain ⟨k0, k1, k2, _⟩ := row3 hM.head; go_simp; (try with_reducible rfl))
            try simp only [Act.put, List.setIfInBounds_toArray, List.set_cons_zero, List.set_cons_succ]
            refine wpAnyH_take (i := 3) (oi := ?o26) (v := ?v26) ?hi26 (by kernel_rfl) (by kernel_rfl) (by kernel_rfl) ?hQ26 ?hy26 (by assumption) ?rest26
            case hi26 => (simp only [List.getElem?_toArray, List.getElem?_cons_succ, List.getElem?_cons_zero]; rfl)
            case hQ26 => exact fun _ _ _ h => h
            case hy26 => (refine Or.inl ⟨by rfl, ?_⟩; intro w' hSw; obtain ⟨hM, cy⟩ := hSw; obtain ⟨k0, k1, k2, _⟩ := row3 hM.head; go_simp; (try with_reducible rfl))
            try simp only [Act.put, List.setIfInBounds_toArray, List.set_cons_zero, List.set_cons_succ]
            refine wpAnyH_take (i := 4) (oi := ?o27) (v := ?v27) ?hi27 (by kernel_rfl) (by kernel_rfl) (by kernel_rfl) ?hQ27 ?hy27 (by assumption) ?rest27
            case hi27 => (simp only [List.getElem?_toArray, List.getElem?_cons_succ, List.getElem?_cons_zero]; rfl)
            case hQ27 => exact fun _ _ _ h => h
            case hy27 => (refine Or.inl ⟨by rfl, ?_⟩; intro w' hSw; obtain ⟨hM, cy⟩ := hSw; obtain ⟨k0, k1, k2, _⟩ := row3 hM.head; go_simp; (try with_reducible rfl))
            try simp only [Act.put, List.setIfInBounds_toArray, List.set_cons_zero, List.set_cons_succ]
            refine wpAnyH_take (i := 5) (oi := ?o28) (v := ?v28) ?hi28 (by kernel_rfl) (by kernel_rfl) (by kernel_rfl) ?hQ28 ?hy28 (by assumption) ?rest28
            case hi28 => (simp only [List.getElem?_toArray, List.getElem?_cons_succ, List.getElem?_cons_zero]; rfl)
            case hQ28 => exact fun _ _ _ h => h
            case hy28 => (refine Or.inl ⟨by rfl, ?_⟩; intro w' hSw; obtain ⟨hM, cy⟩ := hSw; obtain ⟨k0, k1, k2, _⟩ := row3 hM.head; go_simp; (try with_reducible rfl))
            try simp only [Act.put, List.setIfInBounds_toArray, List.set_cons_zero, List.set_cons_succ]
            refine wpAnyH_take (i := 6) (oi := ?o29) (v := ?v29) ?hi29 (by kernel_rfl) (by kernel_rfl) (by kernel_rfl) ?hQ29 ?hy29 (by assumption) ?rest29
            case hi29 => (simp only [List.getElem?_toArray, List.getElem?_cons_succ, List.getElem?_cons_zero]; rfl)
            case hQ29 => exact fun _ _ _ h => h
            case hy29 => (refine Or.inl ⟨by rfl, ?_⟩; intro w' hSw; obtain ⟨hM, cy⟩ := hSw; obtain ⟨k0, k1, k2, _⟩ := row3 hM.head; go_simp; (try with_reducible rfl))
            try simp only [Act.put, List.setIfInBounds_toArray, List.set_cons_zero, List.set_cons_succ]
            refine wpAnyH_take (i := 7) (oi := ?o30) (v := ?v30) ?hi30 (by kernel_rfl) (by kernel_rfl) (by kernel_rfl) ?hQ30 ?hy30 (by assumption) ?rest30
            case hi30 => (simp only [List.getElem?_toArray, List.getElem?_cons_succ, List.getElem?_cons_zero]; rfl)
            case hQ30 => exact fun _ _ _ h => h
            case hy30 => (refine Or.inl ⟨by rfl, ?_⟩; intro w' hSw; obtain ⟨hM, cy⟩ := hSw; obtain ⟨k0, k1, k2, _⟩ := row3 hM.head; go_simp; (try with_reducible rfl))
            try simp only [Act.put, List.setIfInBounds_toArray, List.set_cons_zero, List.set_cons_succ]
            refine wpAnyH_take (i := 8) (oi := ?o31) (v := ?v31) ?hi31 (by kernel_rfl) (by kernel_rfl) (by kernel_rfl) ?hQ31 ?hy31 (by assumption) ?rest31
            case hi31 => (simp only [List.getElem?_toArray, List.getElem?_cons_succ, List.getElem?_cons_zero]; rfl)
            case hQ31 => exact fun _ _ _ h => h
            case hy31 => (refine Or.inl ⟨by rfl, ?_⟩; intro w' hSw; obtain ⟨hM, cy⟩ := hSw; obtain ⟨k0, k1, k2, _⟩ := row3 hM.head; go_simp; (try with_reducible rfl))
            try simp only [Act.put, List.setIfInBounds_toArray, List.set_cons_zero, List.set_cons_succ]
            refine wpAnyH_take (i := 9) (oi := ?o32) (v := ?v32) ?hi32 (by kernel_rfl) (by kernel_rfl) (by kernel_rfl) ?hQ32 ?hy32 (by assumption) ?rest32
            case hi32 => (simp only [List.getElem?_toArray, List.getElem?_cons_succ, List.getElem?_cons_zero]; rfl)
            case hQ32 => exact fun _ _ _ h => h
            case hy32 => (refine Or.inl ⟨by rfl, ?_⟩; intro w' hSw; obtain ⟨hM, cy⟩ := hSw; obtain ⟨k0, k1, k2, _⟩ := row3 hM.head; go_simp; (try with_reducible rfl))
            try simp only [Act.put, List.setIfInBounds_toArray, List.set_cons_zero, List.set_cons_succ]
            refine wpAnyH_take (i := 10) (oi := ?o33) (v := ?v33) ?hi33 (by kernel_rfl) (by kernel_rfl) (by kernel_rfl) ?hQ33 ?hy33 (by assumption) ?rest33
            case hi33 => (simp only [List.getElem?_toArray, List.getElem?_cons_succ, List.getElem?_cons_zero]; rfl)
            case hQ33 => exact fun _ _ _ h => h
            case hy33 => (refine Or.inl ⟨by rfl, ?_⟩; intro w' hSw; obtain ⟨hM, cy⟩ := hSw; obtain ⟨k0, k1, k2, _⟩ := row3 hM.head; go_simp; (try with_reducible rfl))
            try simp only [Act.put, List.setIfInBounds_toArray, List.set_cons_zero, List.set_cons_succ]
            refine wpAnyH_take (i := 11) (oi := ?o34) (v := ?v34) ?hi34 (by kernel_rfl) (by kernel_rfl) (by kernel_rfl) ?hQ34 ?hy34 (by assumption) ?rest34
            case hi34 => (simp only [List.getElem?_toArray, List.getElem?_cons_succ, List.getElem?_cons_zero]; rfl)
            case hQ34 => exact fun _ _ _ h => h
            case hy34 => (refine Or.inl ⟨by rfl, ?_⟩; intro w' hSw; obtain ⟨hM, cy⟩ := hSw; obtain ⟨k0, k1, k2, _⟩ := row3 hM.head; go_simp; (try with_reducible rfl))
            try simp only [Act.put, List.setIfInBounds_toArray, List.set_cons_zero, List.set_cons_succ]
            refine wpAnyH_take (i := 12) (oi := ?o35) (v := ?v35) ?hi35 (by kernel_rfl) (by kernel_rfl) (by kernel_rfl) ?hQ35 ?hy35 (by assumption) ?rest35
            case hi35 => (simp only [List.getElem?_toArray, List.getElem?_cons_succ, List.getElem?_cons_zero]; rfl)
            case hQ35 => exact fun _ _ _ h => h
            case hy35 => (refine Or.inl ⟨by rfl, ?_⟩; intro w' hSw; obtain ⟨hM, cy⟩ := hSw; obtain ⟨k0, k1, k2, _⟩ := row3 hM.head; go_simp; (try with_reducible rfl))
            try simp only [Act.put, List.setIfInBounds_toArray, List.set_cons_zero, List.set_cons_succ]
            refine wpAnyH_take (i := 13) (oi := ?o36) (v := ?v36) ?hi36 (by kernel_rfl) (by kernel_rfl) (by kernel_rfl) ?hQ36 ?hy36 (by assumption) ?rest36
            case hi36 => (simp only [List.getElem?_toArray, List.getElem?_cons_succ, List.getElem?_cons_zero]; rfl)
            case hQ36 => exact fun _ _ _ h => h
            case hy36 => (refine Or.inl ⟨by rfl, ?_⟩; intro w' hSw; obtain ⟨hM, cy⟩ := hSw; obtain ⟨k0, k1, k2, _⟩ := row3 hM.head; go_simp; (try with_reducible rfl))
            try simp only [Act.put, List.setIfInBounds_toArray, List.set_cons_zero, List.set_cons_succ]
            refine wpAnyH_take (i := 14) (oi := ?o37) (v := ?v37) ?hi37 (by kernel_rfl) (by kernel_rfl) (by kernel_rfl) ?hQ37 ?hy37 (by assumption) ?rest37
            case hi37 => (simp only [List.getElem?_toArray, List.getElem?_cons_succ, List.getElem?_cons_zero]; rfl)
            case hQ37 => exact fun _ _ _ h => h
            case hy37 => (refine Or.inl ⟨by rfl, ?_⟩; intro w' hSw; obtain ⟨hM, cy⟩ := hSw; obtain ⟨k0, k1, k2, _⟩ := row3 hM.head; go_simp; (try with_reducible rfl))
            try simp only [Act.put, List.setIfInBounds_toArray, List.set_cons_zero, List.set_cons_succ]
            refine wpAnyH_take (i := 15) (oi := ?o38) (v := undef) ?hi38 (by kernel_rfl) (by kernel_rfl) (by kernel_rfl) ?hQ38 ?hy38 (by assumption) ?rest38
            case hi38 => (simp only [List.getElem?_toArray, List.getElem?_cons_succ, List.getElem?_cons_zero]; rfl)
            case hQ38 => exact fun _ _ _ h => h
            case hy38 => exact Or.inr ⟨by rfl, rfl⟩
            try simp only [Act.put, List.setIfInBounds_toArray, List.set_cons_zero, List.set_cons_succ]
            refine wpAnyH_take (i := 16) (oi := ?o39) (v := undef) ?hi39 (by kernel_rfl) (by kernel_rfl) (by kernel_rfl) ?hQ39 ?hy39 (by assumption) ?rest39
            case hi39 => (simp only [List.getElem?_toArray, List.getElem?_cons_succ, List.getElem?_cons_zero]; rfl)
            case hQ39 => exact fun _ _ _ h => h
            case hy39 => exact Or.inr ⟨by rfl, rfl⟩
            try simp only [Act.put, List.setIfInBounds_toArray, List.set_cons_zero, List.set_cons_succ]
            refine wpAnyH_take (i := 17) (oi := ?o40) (v := undef) ?hi40 (by kernel_rfl) (by kernel_rfl) (by kernel_rfl) ?hQ40 ?hy40 (by assumption) ?rest40
            case hi40 => (simp only [List.getElem?_toArray, List.getElem?_cons_succ, List.getElem?_cons_zero]; rfl)
            case hQ40 => exact fun _ _ _ h => h
            case hy40 => exact Or.inr ⟨by rfl, rfl⟩
            try simp only [Act.put, List.setIfInBounds_toArray, List.set_cons_zero, List.set_cons_succ]
            refine wpAnyH_take (i := 18) (oi := ?o41) (v := undef) ?hi41 (by kernel_rfl) (by kernel_rfl) (by kernel_rfl) ?hQ41 ?hy41 (by assumption) ?rest41
            case hi41 => (simp only [List.getElem?_toArray, List.getElem?_cons_succ, List.getElem?_cons_zero]; rfl)
            case hQ41 => exact fun _ _ _ h => h
            case hy41 => exact Or.inr ⟨by rfl, rfl⟩
            try simp only [Act.put, List.setIfInBounds_toArray, List.set_cons_zero, List.set_cons_succ]
            refine wpAnyH_take (i := 19) (oi := ?o42) (v := undef) ?hi42 (by kernel_rfl) (by kernel_rfl) (by kernel_rfl) ?hQ42 ?hy42 (by assumption) ?rest42
            case hi42 => (simp only [List.getElem?_toArray, List.getElem?_cons_succ, List.getElem?_cons_zero]; rfl)
            case hQ42 => exact fun _ _ _ h => h
            case hy42 => exact Or.inr ⟨by rfl, rfl⟩
            try simp only [Act.put, List.setIfInBounds_toArray, List.set_cons_zero, List.set_cons_succ]
            refine wpAnyH_take (i := 20) (oi := ?o43) (v := undef) ?hi43 (by kernel_rfl) (by kernel_rfl) (by kernel_rfl) ?hQ43 ?hy43 (by assumption) ?rest43
            case hi43 => (simp only [List.getElem?_toArray, List.getElem?_cons_succ, List.getElem?_cons_zero]; rfl)
            case hQ43 => exact fun _ _ _ h => h
            case hy43 => exact Or.inr ⟨by rfl, rfl⟩
            try simp only [Act.put, List.setIfInBounds_toArray, List.set_cons_zero, List.set_cons_succ]
            refine wpAnyH_take (i := 21) (oi := ?o44) (v := ?v44) ?hi44 (by kernel_rfl) (by kernel_rfl) (by kernel_rfl) ?hQ44 ?hy44 (by assumption) ?rest44
            case hi44 => (simp only [List.getElem?_toArray, List.getElem?_cons_succ, List.getElem?_cons_zero]; rfl)
            case hQ44 => exact fun _ _ _ h => h
            case hy44 => (refine Or.inl ⟨by rfl, ?_⟩; intro w' hSw; go_simp; (try with_reducible rfl))
            try simp only [Act.put, List.setIfInBounds_toArray, List.set_cons_zero, List.set_cons_succ]
            refine wpAnyH_done (by kernel_rfl) ?_ _
            go_wp2
            go_ret2
            rw [hv.out]
            exact ⟨none, 0, rfl, Nat.le_refl _, by decide, Rd.nil, fun _ _ e => (by cases e), MB.out.below⟩
          · have du : decide (y ≥ (n : Int)) = false := by simpa using l1
            cases hin : inT a b c y
            · rw [hin] at kin
              have hok2 : Hid (∀ j, j < k + 1 → askB n a b c S[j]! = true) := Lib.hid (fun j hj => by
                by_cases e : j = k
                · rw [e, hyv.out]; unfold askB; rw [hin, decide_eq_true (show 0 ≤ y by omega), decide_eq_true (show y < (n : Int) by omega)]; rfl
                · exact hok.out j (by omega))
              clear l0 l1 hin
              go_wp2_with fail
              refine wp_region_held_drew (S := fun w' => Mem w [(w.heap.size, o3 a b c 50)] w' ∧ w'.cell? ⟨g, off + k, none⟩ = some (.int .i64 y)) (by kernel_rfl) ⟨MB.out.drew, cy⟩ (fun hHeld => ?_)
              replace MB := Lib.hid MB.out.drew
              replace cy : (World.drew wr).cell? ⟨g, off + k, none⟩ = some (.int .i64 y) := cy
              replace RS : Hid (Rd encI 0 (World.drew wr) (some ⟨g, off, none⟩) S) := Lib.hid RS.out
              generalize World.drew wr = wd at *
              refine wpAnyH_take (i := 0) (oi := ?o45) (v := ?v45) ?hi45 (by kernel_rfl) (by kernel_rfl) (by kernel_rfl) ?hQ45 ?hy45 (by assumption) ?rest45
              case hi45 => (simp only [List.getElem?_toArray, List.getElem?_cons_succ, List.getElem?_cons_zero]; rfl)
              case hQ45 => exact fun _ _ _ h => h
              case hy45 => (refine Or.inl ⟨by rfl, ?_⟩; intro w' hSw; obtain ⟨hM, cy⟩ := hSw; obtain ⟨k0, k1, k2, _⟩ := row3 hM.head; go_simp; (try with_reducible rfl))
              try simp only [Act.put, List.setIfInBounds_toArray, List.set_cons_zero, List.set_cons_succ]
              refine wpAnyH_take (i := 1) (oi := ?o46) (v := ?v46) ?hi46 (by kernel_rfl) (by kernel_rfl) (by kernel_rfl) ?hQ46 ?hy46 (by assumption) ?rest46
              case hi46 => (simp only [List.getElem?_toArray, List.getElem?_cons_succ, List.getElem?_cons_zero]; rfl)
              case hQ46 => exact fun _ _ _ h => h
              case hy46 => (refine Or.inl ⟨by rfl, ?_⟩; intro w' hSw; obtain ⟨hM, cy⟩ := hSw; obtain ⟨k0, k1, k2, _⟩ := row3 hM.head; go_simp; (try with_reducible rfl))
              try simp only [Act.put, List.setIfInBounds_toArray, List.set_cons_zero, List.set_cons_succ]
              refine wpAnyH_take (i := 2) (oi := ?o47) (v := ?v47) ?hi47 (by kernel_rfl) (by kernel_rfl) (by kernel_rfl) ?hQ47 ?hy47 (by assumption) ?rest47
              case hi47 => (simp only [List.getElem?_toArray, List.getElem?_cons_succ, List.getElem?_cons_zero]; rfl)
              case hQ47 => exact fun _ _ _ h => h
              case hy47 => (refine Or.inl ⟨by rfl, ?_⟩; intro w' hSw; obtain ⟨hM, cy⟩ := hSw; obtain ⟨k0, k1, k2, _⟩ := row3 hM.head; go_simp; (try with_reducible rfl))
              try simp only [Act.put, List.setIfInBounds_toArray, List.set_cons_zero, List.set_cons_succ]
              refine wpAnyH_take (i := 3) (oi := ?o48) (v := ?v48) ?hi48 (by kernel_rfl) (by kernel_rfl) (by kernel_rfl) ?hQ48 ?hy48 (by assumption) ?rest48
              case hi48 => (simp only [List.getElem?_toArray, List.getElem?_cons_succ, List.getElem?_cons_zero]; rfl)
              case hQ48 => exact fun _ _ _ h => h
              case hy48 => (refine Or.inl ⟨by rfl, ?_⟩; intro w' hSw; obtain ⟨hM, cy⟩ := hSw; obtain ⟨k0, k1, k2, _⟩ := row3 hM.head; go_simp; (try with_reducible rfl))
              try simp only [Act.put, List.setIfInBounds_toArray, List.set_cons_zero, List.set_cons_succ]
              refine wpAnyH_take (i := 4) (oi := ?o49) (v := ?v49) ?hi49 (by kernel_rfl) (by kernel_rfl) (by kernel_rfl) ?hQ49 ?hy49 (by assumption) ?rest49
              case hi49 => (simp only [List.getElem?_toArray, List.getElem?_cons_succ, List.getElem?_cons_zero]; rfl)
              case hQ49 => exact fun _ _ _ h => h
              case hy49 => (refine Or.inl ⟨by rfl, ?_⟩; intro w' hSw; obtain ⟨hM, cy⟩ := hSw; obtain ⟨k0, k1, k2, _⟩ := row3 hM.head; go_simp; (try with_reducible rfl))
              try simp only [Act.put, List.setIfInBounds_toArray, List.set_cons_zero, List.set_cons_succ]
              refine wpAnyH_take (i := 5) (oi := ?o50) (v := ?v50) ?hi50 (by kernel_rfl) (by kernel_rfl) (by kernel_rfl) ?hQ50 ?hy50 (by assumption) ?rest50
              case hi50 => (simp only [List.getElem?_toArray, List.getElem?_cons_succ, List.getElem?_cons_zero]; rfl)
              case hQ50 => exact fun _ _ _ h => h
              case hy50 => (refine Or.inl ⟨by rfl, ?_⟩; intro w' hSw; obtain ⟨hM, cy⟩ := hSw; obtain ⟨k0, k1, k2, _⟩ := row3 hM.head; go_simp; (try with_reducible rfl))
              try simp only [Act.put, List.setIfInBounds_toArray, List.set_cons_zero, List.set_cons_succ]
              refine wpAnyH_take (i := 6) (oi := ?o51) (v := ?v51) ?hi51 (by kernel_rfl) (by kernel_rfl) (by kernel_rfl) ?hQ51 ?hy51 (by assumption) ?rest51
              case hi51 => (simp only [List.getElem?_toArray, List.getElem?_cons_succ, List.getElem?_cons_zero]; rfl)
              case hQ51 => exact fun _ _ _ h => h
              case hy51 => (refine Or.inl ⟨by rfl, ?_⟩; intro w' hSw; obtain ⟨hM, cy⟩ := hSw; obtain ⟨k0, k1, k2, _⟩ := row3 hM.head; go_simp; (try with_reducible rfl))
              try simp only [Act.put, List.setIfInBounds_toArray, List.set_cons_zero, List.set_cons_succ]
              refine wpAnyH_take (i := 7) (oi := ?o52) (v := ?v52) ?hi52 (by kernel_rfl) (by kernel_rfl) (by kernel_rfl) ?hQ52 ?hy52 (by assumption) ?rest52
              case hi52 => (simp only [List.getElem?_toArray, List.getElem?_cons_succ, List.getElem?_cons_zero]; rfl)
              case hQ52 => exact fun _ _ _ h => h
              case hy52 => (refine Or.inl ⟨by rfl, ?_⟩; intro w' hSw; obtain ⟨hM, cy⟩ := hSw; obtain ⟨k0, k1, k2, _⟩ := row3 hM.head; go_simp; (try with_reducible rfl))
              try simp only [Act.put, List.setIfInBounds_toArray, List.set_cons_zero, List.set_cons_succ]
              refine wpAnyH_take (i := 8) (oi := ?o53) (v := ?v53) ?hi53 (by kernel_rfl) (by kernel_rfl) (by kernel_rfl) ?hQ53 ?hy53 (by assumption) ?rest53
              case hi53 => (simp only [List.getElem?_toArray, List.getElem?_cons_succ, List.getElem?_cons_zero]; rfl)
              case hQ53 => exact fun _ _ _ h => h
              case hy53 => (refine Or.inl ⟨by rfl, ?_⟩; intro w' hSw; obtain ⟨hM, cy⟩ := hSw; obtain ⟨k0, k1, k2, _⟩ := row3 hM.head; go_simp; (try with_reducible rfl))
              try simp only [Act.put, List.setIfInBounds_toArray, List.set_cons_zero, List.set_cons_succ]
              refine wpAnyH_take (i := 9) (oi := ?o54) (v := ?v54) ?hi54 (by kernel_rfl) (by kernel_rfl) (by kernel_rfl) ?hQ54 ?hy54 (by assumption) ?rest54
              case hi54 => (simp only [List.getElem?_toArray, List.getElem?_cons_succ, List.getElem?_cons_zero]; rfl)
              case hQ54 => exact fun _ _ _ h => h
              case hy54 => (refine Or.inl ⟨by rfl, ?_⟩; intro w' hSw; obtain ⟨hM, cy⟩ := hSw; obtain ⟨k0, k1, k2, _⟩ := row3 hM.head; go_simp; (try with_reducible rfl))
              try simp only [Act.put, List.setIfInBounds_toArray, List.set_cons_zero, List.set_cons_succ]
              refine wpAnyH_take (i := 10) (oi := ?o55) (v := ?v55) ?hi55 (by kernel_rfl) (by kernel_rfl) (by kernel_rfl) ?hQ55 ?hy55 (by assumption) ?rest55
              case hi55 => (simp only [List.getElem?_toArray, List.getElem?_cons_succ, List.getElem?_cons_zero]; rfl)
              case hQ55 => exact fun _ _ _ h => h
              case hy55 => (refine Or.inl ⟨by rfl, ?_⟩; intro w' hSw; obtain ⟨hM, cy⟩ := hSw; obtain ⟨k0, k1, k2, _⟩ := row3 hM.head; go_simp; (try with_reducible rfl))
              try simp only [Act.put, List.setIfInBounds_toArray, List.set_cons_zero, List.set_cons_succ]
              refine wpAnyH_take (i := 11) (oi := ?o56) (v := ?v56) ?hi56 (by kernel_rfl) (by kernel_rfl) (by kernel_rfl) ?hQ56 ?hy56 (by assumption) ?rest56
              case hi56 => (simp only [List.getElem?_toArray, List.getElem?_cons_succ, List.getElem?_cons_zero]; rfl)
              case hQ56 => exact fun _ _ _ h => h
              case hy56 => (refine Or.inl ⟨by rfl, ?_⟩; intro w' hSw; obtain ⟨hM, cy⟩ := hSw; obtain ⟨k0, k1, k2, _⟩ := row3 hM.head; go_simp; (try with_reducible rfl))
              try simp only [Act.put, List.setIfInBounds_toArray, List.set_cons_zero, List.set_cons_succ]
              refine wpAnyH_take (i := 12) (oi := ?o57) (v := ?v57) ?hi57 (by kernel_rfl) (by kernel_rfl) (by kernel_rfl) ?hQ57 ?hy57 (by assumption) ?rest57
              case hi57 => (simp only [List.getElem?_toArray, List.getElem?_cons_succ, List.getElem?_cons_zero]; rfl)
              case hQ57 => exact fun _ _ _ h => h
              case hy57 => (refine Or.inl ⟨by rfl, ?_⟩; intro w' hSw; obtain ⟨hM, cy⟩ := hSw; obtain ⟨k0, k1, k2, _⟩ := row3 hM.head; go_simp; (try with_reducible rfl))
              try simp only [Act.put, List.setIfInBounds_toArray, List.set_cons_zero, List.set_cons_succ]
              refine wpAnyH_take (i := 13) (oi := ?o58) (v := ?v58) ?hi58 (by kernel_rfl) (by kernel_rfl) (by kernel_rfl) ?hQ58 ?hy58 (by assumption) ?rest58
              case hi58 => (simp only [List.getElem?_toArray, List.getElem?_cons_succ, List.getElem?_cons_zero]; rfl)
              case hQ58 => exact fun _ _ _ h => h
              case hy58 => (refine Or.inl ⟨by rfl, ?_⟩; intro w' hSw; obtain ⟨hM, cy⟩ := hSw; obtain ⟨k0, k1, k2, _⟩ := row3 hM.head; go_simp; (try with_reducible rfl))
              try simp only [Act.put, List.setIfInBounds_toArray, List.set_cons_zero, List.set_cons_succ]
              refine wpAnyH_take (i := 14) (oi := ?o59) (v := ?v59) ?hi59 (by kernel_rfl) (by kernel_rfl) (by kernel_rfl) ?hQ59 ?hy59 (by assumption) ?rest59
              case hi59 => (simp only [List.getElem?_toArray, List.getElem?_cons_succ, List.getElem?_cons_zero]; rfl)
              case hQ59 => exact fun _ _ _ h => h
              case hy59 => (refine Or.inl ⟨by rfl, ?_⟩; intro w' hSw; obtain ⟨hM, cy⟩ := hSw; obtain ⟨k0, k1, k2, _⟩ := row3 hM.head; go_simp; (try with_reducible rfl))
              try simp only [Act.put, List.setIfInBounds_toArray, List.set_cons_zero, List.set_cons_succ]
              refine wpAnyH_take (i := 15) (oi := ?o60) (v := ?v60) ?hi60 (by kernel_rfl) (by kernel_rfl) (by kernel_rfl) ?hQ60 ?hy60 (by assumption) ?rest60
              case hi60 => (simp only [List.getElem?_toArray, List.getElem?_cons_succ, List.getElem?_cons_zero]; rfl)
              case hQ60 => exact fun _ _ _ h => h
              case hy60 => (refine Or.inl ⟨by rfl, ?_⟩; intro w' hSw; obtain ⟨hM, cy⟩ := hSw; obtain ⟨k0, k1, k2, _⟩ := row3 hM.head; go_simp; (try with_reducible rfl))
              try simp only [Act.put, List.setIfInBounds_toArray, List.set_cons_zero, List.set_cons_succ]
              refine wpAnyH_take (i := 16) (oi := ?o61) (v := ?v61) ?hi61 (by kernel_rfl) (by kernel_rfl) (by kernel_rfl) ?hQ61 ?hy61 (by assumption) ?rest61
              case hi61 => (simp only [List.getElem?_toArray, List.getElem?_cons_succ, List.getElem?_cons_zero]; rfl)
              case hQ61 => exact fun _ _ _ h => h
              case hy61 => (refine Or.inl ⟨by rfl, ?_⟩; intro w' hSw; obtain ⟨hM, cy⟩ := hSw; obtain ⟨k0, k1, k2, _⟩ := row3 hM.head; go_simp; (try with_reducible rfl))
              try simp only [Act.put, List.setIfInBounds_toArray, List.set_cons_zero, List.set_cons_succ]
              refine wpAnyH_take (i := 17) (oi := ?o62) (v := ?v62) ?hi62 (by kernel_rfl) (by kernel_rfl) (by kernel_rfl) ?hQ62 ?hy62 (by assumption) ?rest62
              case hi62 => (simp only [List.getElem?_toArray, List.getElem?_cons_succ, List.getElem?_cons_zero]; rfl)
              case hQ62 => exact fun _ _ _ h => h
              case hy62 => (refine Or.inl ⟨by rfl, ?_⟩; intro w' hSw; obtain ⟨hM, cy⟩ := hSw; obtain ⟨k0, k1, k2, _⟩ := row3 hM.head; go_simp; (try with_reducible rfl))
              try simp only [Act.put, List.setIfInBounds_toArray, List.set_cons_zero, List.set_cons_succ]
              refine wpAnyH_take (i := 18) (oi := ?o63) (v := ?v63) ?hi63 (by kernel_rfl) (by kernel_rfl) (by kernel_rfl) ?hQ63 ?hy63 (by assumption) ?rest63
              case hi63 => (simp only [List.getElem?_toArray, List.getElem?_cons_succ, List.getElem?_cons_zero]; rfl)
              case hQ63 => exact fun _ _ _ h => h
              case hy63 => (refine Or.inl ⟨by rfl, ?_⟩; intro w' hSw; obtain ⟨hM, cy⟩ := hSw; obtain ⟨k0, k1, k2, _⟩ := row3 hM.head; go_simp; (try with_reducible rfl))
              try simp only [Act.put, List.setIfInBounds_toArray, List.set_cons_zero, List.set_cons_succ]
              refine wpAnyH_take (i := 19) (oi := ?o64) (v := ?v64) ?hi64 (by kernel_rfl) (by kernel_rfl) (by kernel_rfl) ?hQ64 ?hy64 (by assumption) ?rest64
              case hi64 => (simp only [List.getElem?_toArray, List.getElem?_cons_succ, List.getElem?_cons_zero]; rfl)
              case hQ64 => exact fun _ _ _ h => h
              case hy64 => (refine Or.inl ⟨by rfl, ?_⟩; intro w' hSw; obtain ⟨hM, cy⟩ := hSw; obtain ⟨k0, k1, k2, _⟩ := row3 hM.head; go_simp; (try with_reducible rfl))
              try simp only [Act.put, List.setIfInBounds_toArray, List.set_cons_zero, List.set_cons_succ]
              refine wpAnyH_ready (rs := [20]) (by kernel_rfl) (by simp) ?_
              refine AllReadyH.cons (o := ?o66) ?hi66 (fun K hK => ?rest66) AllReadyH.nil
              case hi66 => (simp only [List.getElem?_toArray, List.getElem?_cons_succ, List.getElem?_cons_zero]; rfl)
              go_simp
              go_at_call 114
              refine (kin.out _).mono ?_
              rintro e wn ⟨rfl, hbn⟩
              replace cy : wn.cell? ⟨g, off + k, none⟩ = some (.int .i64 y) := (hbn.cell (p := ⟨g, off + k, none⟩) hgd.out).trans cy
              replace MB := Lib.hid (MB.out.next hbn)
              replace RS := Lib.hid (RS.out.below hbn (Nat.le_refl _))
              clear hbn
              refine hK.out _ _ ⟨MB.out, cy⟩ (fun hHeld => ?_)
              clear hK K
              try simp only [Act.put, List.setIfInBounds_toArray, List.set_cons_zero, List.set_cons_succ]
              refine wpAnyH_take (i := 21) (oi := ?o67) (v := ?v67) ?hi67 (by kernel_rfl) (by kernel_rfl) (by kernel_rfl) ?hQ67 ?hy67 (by assumption) ?rest67
              case hi67 => (simp only [List.getElem?_toArray, List.getElem?_cons_succ, List.getElem?_cons_zero]; rfl)
              case hQ67 => exact fun _ _ _ h => h
              case hy67 => (refine Or.inl ⟨by rfl, ?_⟩; intro w' hSw; go_simp; (try with_reducible rfl))
              try simp only [Act.put, List.setIfInBounds_toArray, List.set_cons_zero, List.set_cons_succ]
              refine wpAnyH_done (by kernel_rfl) ?_ _
              go_wp2_with fail
              go_roundw
              case rel => exact ⟨k + 1, by omega, by go_num, hok2.out, MB.out, RS.out⟩
              case measure => simp [intOf]; omega
            · rw [hin] at kin
              have hv := Lib.hid (hbad.out y hmem.out (by unfold askB; rw [hin]; simp))
              clear l0 l1 hin
              go_wp2_with fail
              refine wp_region_held_drew (S := fun w' => Mem w [(w.heap.size, o3 a b c 50)] w' ∧ w'.cell? ⟨g, off + k, none⟩ = some (.int .i64 y)) (by kernel_rfl) ⟨MB.out.drew, cy⟩ (fun hHeld => ?_)
              replace MB := Lib.hid MB.out.drew
              replace cy : (World.drew wr).cell? ⟨g, off + k, none⟩ = some (.int .i64 y) := cy
              replace RS : Hid (Rd encI 0 (World.drew wr) (some ⟨g, off, none⟩) S) := Lib.hid RS.out
              generalize World.drew wr = wd at *
              refine wpAnyH_take (i := 0) (oi := ?o68) (v := ?v68) ?hi68 (by kernel_rfl) (by kernel_rfl) (by kernel_rfl) ?hQ68 ?hy68 (by assumption) ?rest68
              case hi68 => (simp only [List.getElem?_toArray, List.getElem?_cons_succ, List.getElem?_cons_zero]; rfl)
              case hQ68 => exact fun _ _ _ h => h
              case hy68 => (refine Or.inl ⟨by rfl, ?_⟩; intro w' hSw; obtain ⟨hM, cy⟩ := hSw; obtain ⟨k0, k1, k2, _⟩ := row3 hM.head; go_simp; (try with_reducible rfl))
              try simp only [Act.put, List.setIfInBounds_toArray, List.set_cons_zero, List.set_cons_succ]
              refine wpAnyH_take (i := 1) (oi := ?o69) (v := ?v69) ?hi69 (by kernel_rfl) (by kernel_rfl) (by kernel_rfl) ?hQ69 ?hy69 (by assumption) ?rest69
              case hi69 => (simp only [List.getElem?_toArray, List.getElem?_cons_succ, List.getElem?_cons_zero]; rfl)
              case hQ69 => exact fun _ _ _ h => h
              case hy69 => (refine Or.inl ⟨by rfl, ?_⟩; intro w' hSw; obtain ⟨hM, cy⟩ := hSw; obtain ⟨k0, k1, k2, _⟩ := row3 hM.head; go_simp; (try with_reducible rfl))
              try simp only [Act.put, List.setIfInBounds_toArray, List.set_cons_zero, List.set_cons_succ]
              refine wpAnyH_take (i := 2) (oi := ?o70) (v := ?v70) ?hi70 (by kernel_rfl) (by kernel_rfl) (by kernel_rfl) ?hQ70 ?hy70 (by assumption) ?rest70
              case hi70 => (simp only [List.getElem?_toArray, List.getElem?_cons_succ, List.getElem?_cons_zero]; rfl)
              case hQ70 => exact fun _ _ _ h => h
              case hy70 => (refine Or.inl ⟨by rfl, ?_⟩; intro w' hSw; obtain ⟨hM, cy⟩ := hSw; obtain ⟨k0, k1, k2, _⟩ := row3 hM.head; go_simp; (try with_reducible rfl))
              try simp only [Act.put, List.setIfInBounds_toArray, List.set_cons_zero, List.set_cons_succ]
              refine wpAnyH_take (i := 3) (oi := ?o71) (v := ?v71) ?hi71 (by kernel_rfl) (by kernel_rfl) (by kernel_rfl) ?hQ71 ?hy71 (by assumption) ?rest71
              case hi71 => (simp only [List.getElem?_toArray, List.getElem?_cons_succ, List.getElem?_cons_zero]; rfl)
              case hQ71 => exact fun _ _ _ h => h
              case hy71 => (refine Or.inl ⟨by rfl, ?_⟩; intro w' hSw; obtain ⟨hM, cy⟩ := hSw; obtain ⟨k0, k1, k2, _⟩ := row3 hM.head; go_simp; (try with_reducible rfl))
              try simp only [Act.put, List.setIfInBounds_toArray, List.set_cons_zero, List.set_cons_succ]
              refine wpAnyH_take (i := 4) (oi := ?o72) (v := ?v72) ?hi72 (by kernel_rfl) (by kernel_rfl) (by kernel_rfl) ?hQ72 ?hy72 (by assumption) ?rest72
              case hi72 => (simp only [List.getElem?_toArray, List.getElem?_cons_succ, List.getElem?_cons_zero]; rfl)
              case hQ72 => exact fun _ _ _ h => h
              case hy72 => (refine Or.inl ⟨by rfl, ?_⟩; intro w' hSw; obtain ⟨hM, cy⟩ := hSw; obtain ⟨k0, k1, k2, _⟩ := row3 hM.head; go_simp; (try with_reducible rfl))
              try simp only [Act.put, List.setIfInBounds_toArray, List.set_cons_zero, List.set_cons_succ]
              refine wpAnyH_take (i := 5) (oi := ?o73) (v := ?v73) ?hi73 (by kernel_rfl) (by kernel_rfl) (by kernel_rfl) ?hQ73 ?hy73 (by assumption) ?rest73
              case hi73 => (simp only [List.getElem?_toArray, List.getElem?_cons_succ, List.getElem?_cons_zero]; rfl)
              case hQ73 => exact fun _ _ _ h => h
              case hy73 => (refine Or.inl ⟨by rfl, ?_⟩; intro w' hSw; obtain ⟨hM, cy⟩ := hSw; obtain ⟨k0, k1, k2, _⟩ := row3 hM.head; go_simp; (try with_reducible rfl))
              try simp only [Act.put, List.setIfInBounds_toArray, List.set_cons_zero, List.set_cons_succ]
              refine wpAnyH_take (i := 6) (oi := ?o74) (v := ?v74) ?hi74 (by kernel_rfl) (by kernel_rfl) (by kernel_rfl) ?hQ74 ?hy74 (by assumption) ?rest74
              case hi74 => (simp only [List.getElem?_toArray, List.getElem?_cons_succ, List.getElem?_cons_zero]; rfl)
              case hQ74 => exact fun _ _ _ h => h
              case hy74 => (refine Or.inl ⟨by rfl, ?_⟩; intro w' hSw; obtain ⟨hM, cy⟩ := hSw; obtain ⟨k0, k1, k2, _⟩ := row3 hM.head; go_simp; (try with_reducible rfl))
              try simp only [Act.put, List.setIfInBounds_toArray, List.set_cons_zero, List.set_cons_succ]
              refine wpAnyH_take (i := 7) (oi := ?o75) (v := ?v75) ?hi75 (by kernel_rfl) (by kernel_rfl) (by kernel_rfl) ?hQ75 ?hy75 (by assumption) ?rest75
              case hi75 => (simp only [List.getElem?_toArray, List.getElem?_cons_succ, List.getElem?_cons_zero]; rfl)
              case hQ75 => exact fun _ _ _ h => h
              case hy75 => (refine Or.inl ⟨by rfl, ?_⟩; intro w' hSw; obtain ⟨hM, cy⟩ := hSw; obtain ⟨k0, k1, k2, _⟩ := row3 hM.head; go_simp; (try with_reducible rfl))
              try simp only [Act.put, List.setIfInBounds_toArray, List.set_cons_zero, List.set_cons_succ]
              refine wpAnyH_take (i := 8) (oi := ?o76) (v := ?v76) ?hi76 (by kernel_rfl) (by kernel_rfl) (by kernel_rfl) ?hQ76 ?hy76 (by assumption) ?rest76
              case hi76 => (simp only [List.getElem?_toArray, List.getElem?_cons_succ, List.getElem?_cons_zero]; rfl)
              case hQ76 => exact fun _ _ _ h => h
              case hy76 => (refine Or.inl ⟨by rfl, ?_⟩; intro w' hSw; obtain ⟨hM, cy⟩ := hSw; obtain ⟨k0, k1, k2, _⟩ := row3 hM.head; go_simp; (try with_reducible rfl))
              try simp only [Act.put, List.setIfInBounds_toArray, List.set_cons_zero, List.set_cons_succ]
              refine wpAnyH_take (i := 9) (oi := ?o77) (v := ?v77) ?hi77 (by kernel_rfl) (by kernel_rfl) (by kernel_rfl) ?hQ77 ?hy77 (by assumption) ?rest77
              case hi77 => (simp only [List.getElem?_toArray, List.getElem?_cons_succ, List.getElem?_cons_zero]; rfl)
              case hQ77 => exact fun _ _ _ h => h
              case hy77 => (refine Or.inl ⟨by rfl, ?_⟩; intro w' hSw; obtain ⟨hM, cy⟩ := hSw; obtain ⟨k0, k1, k2, _⟩ := row3 hM.head; go_simp; (try with_reducible rfl))
              try simp only [Act.put, List.setIfInBounds_toArray, List.set_cons_zero, List.set_cons_succ]
              refine wpAnyH_take (i := 10) (oi := ?o78) (v := ?v78) ?hi78 (by kernel_rfl) (by kernel_rfl) (by kernel_rfl) ?hQ78 ?hy78 (by assumption) ?rest78
              case hi78 => (simp only [List.getElem?_toArray, List.getElem?_cons_succ, List.getElem?_cons_zero]; rfl)
              case hQ78 => exact fun _ _ _ h => h
              case hy78 => (refine Or.inl ⟨by rfl, ?_⟩; intro w' hSw; obtain ⟨hM, cy⟩ := hSw; obtain ⟨k0, k1, k2, _⟩ := row3 hM.head; go_simp; (try with_reducible rfl))
              try simp only [Act.put, List.setIfInBounds_toArray, List.set_cons_zero, List.set_cons_succ]
              refine wpAnyH_take (i := 11) (oi := ?o79) (v := ?v79) ?hi79 (by kernel_rfl) (by kernel_rfl) (by kernel_rfl) ?hQ79 ?hy79 (by assumption) ?rest79
              case hi79 => (simp only [List.getElem?_toArray, List.getElem?_cons_succ, List.getElem?_cons_zero]; rfl)
              case hQ79 => exact fun _ _ _ h => h
              case hy79 => (refine Or.inl ⟨by rfl, ?_⟩; intro w' hSw; obtain ⟨hM, cy⟩ := hSw; obtain ⟨k0, k1, k2, _⟩ := row3 hM.head; go_simp; (try with_reducible rfl))
              try simp only [Act.put, List.setIfInBounds_toArray, List.set_cons_zero, List.set_cons_succ]
              refine wpAnyH_take (i := 12) (oi := ?o80) (v := ?v80) ?hi80 (by kernel_rfl) (by kernel_rfl) (by kernel_rfl) ?hQ80 ?hy80 (by assumption) ?rest80
              case hi80 => (simp only [List.getElem?_toArray, List.getElem?_cons_succ, List.getElem?_cons_zero]; rfl)
              case hQ80 => exact fun _ _ _ h => h
              case hy80 => (refine Or.inl ⟨by rfl, ?_⟩; intro w' hSw; obtain ⟨hM, cy⟩ := hSw; obtain ⟨k0, k1, k2, _⟩ := row3 hM.head; go_simp; (try with_reducible rfl))
              try simp only [Act.put, List.setIfInBounds_toArray, List.set_cons_zero, List.set_cons_succ]
              refine wpAnyH_take (i := 13) (oi := ?o81) (v := ?v81) ?hi81 (by kernel_rfl) (by kernel_rfl) (by kernel_rfl) ?hQ81 ?hy81 (by assumption) ?rest81
              case hi81 => (simp only [List.getElem?_toArray, List.getElem?_cons_succ, List.getElem?_cons_zero]; rfl)
              case hQ81 => exact fun _ _ _ h => h
              case hy81 => (refine Or.inl ⟨by rfl, ?_⟩; intro w' hSw; obtain ⟨hM, cy⟩ := hSw; obtain ⟨k0, k1, k2, _⟩ := row3 hM.head; go_simp; (try with_reducible rfl))
              try simp only [Act.put, List.setIfInBounds_toArray, List.set_cons_zero, List.set_cons_succ]
              refine wpAnyH_take (i := 14) (oi := ?o82) (v := ?v82) ?hi82 (by kernel_rfl) (by kernel_rfl) (by kernel_rfl) ?hQ82 ?hy82 (by assumption) ?rest82
              case hi82 => (simp only [List.getElem?_toArray, List.getElem?_cons_succ, List.getElem?_cons_zero]; rfl)
              case hQ82 => exact fun _ _ _ h => h
              case hy82 => (refine Or.inl ⟨by rfl, ?_⟩; intro w' hSw; obtain ⟨hM, cy⟩ := hSw; obtain ⟨k0, k1, k2, _⟩ := row3 hM.head; go_simp; (try with_reducible rfl))
              try simp only [Act.put, List.setIfInBounds_toArray, List.set_cons_zero, List.set_cons_succ]
              refine wpAnyH_take (i := 15) (oi := ?o83) (v := ?v83) ?hi83 (by kernel_rfl) (by kernel_rfl) (by kernel_rfl) ?hQ83 ?hy83 (by assumption) ?rest83
              case hi83 => (simp only [List.getElem?_toArray, List.getElem?_cons_succ, List.getElem?_cons_zero]; rfl)
              case hQ83 => exact fun _ _ _ h => h
              case hy83 => (refine Or.inl ⟨by rfl, ?_⟩; intro w' hSw; obtain ⟨hM, cy⟩ := hSw; obtain ⟨k0, k1, k2, _⟩ := row3 hM.head; go_simp; (try with_reducible rfl))
              try simp only [Act.put, List.setIfInBounds_toArray, List.set_cons_zero, List.set_cons_succ]
              refine wpAnyH_take (i := 16) (oi := ?o84) (v := ?v84) ?hi84 (by kernel_rfl) (by kernel_rfl) (by kernel_rfl) ?hQ84 ?hy84 (by assumption) ?rest84
              case hi84 => (simp only [List.getElem?_toArray, List.getElem?_cons_succ, List.getElem?_cons_zero]; rfl)
              case hQ84 => exact fun _ _ _ h => h
              case hy84 => (refine Or.inl ⟨by rfl, ?_⟩; intro w' hSw; obtain ⟨hM, cy⟩ := hSw; obtain ⟨k0, k1, k2, _⟩ := row3 hM.head; go_simp; (try with_reducible rfl))
              try simp only [Act.put, List.setIfInBounds_toArray, List.set_cons_zero, List.set_cons_succ]
              refine wpAnyH_take (i := 17) (oi := ?o85) (v := ?v85) ?hi85 (by kernel_rfl) (by kernel_rfl) (by kernel_rfl) ?hQ85 ?hy85 (by assumption) ?rest85
              case hi85 => (simp only [List.getElem?_toArray, List.getElem?_cons_succ, List.getElem?_cons_zero]; rfl)
              case hQ85 => exact fun _ _ _ h => h
              case hy85 => (refine Or.inl ⟨by rfl, ?_⟩; intro w' hSw; obtain ⟨hM, cy⟩ := hSw; obtain ⟨k0, k1, k2, _⟩ := row3 hM.head; go_simp; (try with_reducible rfl))
              try simp only [Act.put, List.setIfInBounds_toArray, List.set_cons_zero, List.set_cons_succ]
              refine wpAnyH_take (i := 18) (oi := ?o86) (v := ?v86) ?hi86 (by kernel_rfl) (by kernel_rfl) (by kernel_rfl) ?hQ86 ?hy86 (by assumption) ?rest86
              case hi86 => (simp only [List.getElem?_toArray, List.getElem?_cons_succ, List.getElem?_cons_zero]; rfl)
              case hQ86 => exact fun _ _ _ h => h
              case hy86 => (refine Or.inl ⟨by rfl, ?_⟩; intro w' hSw; obtain ⟨hM, cy⟩ := hSw; obtain ⟨k0, k1, k2, _⟩ := row3 hM.head; go_simp; (try with_reducible rfl))
              try simp only [Act.put, List.setIfInBounds_toArray, List.set_cons_zero, List.set_cons_succ]
              refine wpAnyH_take (i := 19) (oi := ?o87) (v := ?v87) ?hi87 (by kernel_rfl) (by kernel_rfl) (by kernel_rfl) ?hQ87 ?hy87 (by assumption) ?rest87
              case hi87 => (simp only [List.getElem?_toArray, List.getElem?_cons_succ, List.getElem?_cons_zero]; rfl)
              case hQ87 => exact fun _ _ _ h => h
              case hy87 => (refine Or.inl ⟨by rfl, ?_⟩; intro w' hSw; obtain ⟨hM, cy⟩ := hSw; obtain ⟨k0, k1, k2, _⟩ := row3 hM.head; go_simp; (try with_reducible rfl))
              try simp only [Act.put, List.setIfInBounds_toArray, List.set_cons_zero, List.set_cons_succ]
              refine wpAnyH_ready (rs := [20]) (by kernel_rfl) (by simp) ?_
              refine AllReadyH.cons (o := ?o89) ?hi89 (fun K hK => ?rest89) AllReadyH.nil
              case hi89 => (simp only [List.getElem?_toArray, List.getElem?_cons_succ, List.getElem?_cons_zero]; rfl)
              go_simp
              go_at_call 114
              refine (kin.out _).mono ?_
              rintro e wn ⟨rfl, hbn⟩
              replace cy : wn.cell? ⟨g, off + k, none⟩ = some (.int .i64 y) := (hbn.cell (p := ⟨g, off + k, none⟩) hgd.out).trans cy
              replace MB := Lib.hid (MB.out.next hbn)
              replace RS := Lib.hid (RS.out.below hbn (Nat.le_refl _))
              clear hbn
              refine hK.out _ _ ⟨MB.out, cy⟩ (fun hHeld => ?_)
              clear hK K
              try simp only [Act.put, List.setIfInBounds_toArray, List.set_cons_zero, List.set_cons_succ]
              refine wpAnyH_take (i := 21) (oi := ?o90) (v := ?v90) ?hi90 (by kernel_rfl) (by kernel_rfl) (by kernel_rfl) ?hQ90 ?hy90 (by assumption) ?rest90
              case hi90 => (simp only [List.getElem?_toArray, List.getElem?_cons_succ, List.getElem?_cons_zero]; rfl)
              case hQ90 => exact fun _ _ _ h => h
              case hy90 => (refine Or.inl ⟨by rfl, ?_⟩; intro w' hSw; go_simp; (try with_reducible rfl))
              try simp only [Act.put, List.setIfInBounds_toArray, List.set_cons_zero, List.set_cons_succ]
              refine wpAnyH_done (by kernel_rfl) ?_ _
              go_wp2
              go_ret2
              rw [hv.out]
              exact ⟨none, 0, rfl, Nat.le_refl _, by decide, Rd.nil, fun _ _ e => (by cases e), MB.out.below⟩
      · obtain rfl : N = k := by omega
        have hR := Lib.hid (hgood.out (fun j hj => hok.out j (by rw [HN.out] at hj; exact hj)))
        have hokS : Hid (∀ j, j < N → askB n a b c S[j]! = true) := hok
        have own0 : Hid (wr.ownsRow wr.heap.size 3 1 (.slice none 0 0) ((S.take 0).filter p).length (((S.take 0).filter p).map encI)) := Lib.hid (World.ownsRow_nil wr wr.heap.size 3 1)
        have hL : Hid (∀ q, q ∈ [(w.heap.size, o3 a b c 50)] → q.1 < wr.heap.size) := Lib.hid (fun q hq => MB.out.lt hq)
        have HBw := Lib.hid MB.out.below
        have MB2 := Lib.hid ((Mem.nil wr).cons MB.out.head)
        obtain ⟨B0, hBB⟩ : ∃ B0, wr.heap.size = B0 := ⟨_, rfl⟩
        have hw0 : Hid (wr.heap.size ≤ B0) := Lib.hid (by rw [hBB]; exact Nat.le_refl _)
        have hB0' : Hid (B0 ≤ wr.heap.size) := Lib.hid (by rw [hBB]; exact Nat.le_refl _)
        have hwB : Hid (w.heap.size ≤ B0) := Lib.hid (by rw [← hBB]; exact MB.out.above)
        rw [hBB] at hL own0
        clear hBB hbad hgood hok
        rename World => wB
        go_wp2_with fail
        go_loopw [12, 10] (fun i pv wr => ∃ j : Nat, j ≤ N ∧ i = .int .i64 j ∧ Hid (wr.ownsRow B0 3 1 pv ((S.take j).filter p).length (((S.take j).filter p).map encI)) ∧ Hid (Mem wB [(w.heap.size, o3 a b c 50)] wr) ∧ Hid (B0 ≤ wr.heap.size)) (fun i _ _ => N - (intOf i).toNat)
        case atStart => exact ⟨0, Nat.zero_le _, rfl, own0.out, MB2.out, hB0'.out⟩
        case round =>
          clear MB MB2 own0 hB0'
          obtain ⟨k, hkk, rfl, own, MB, hB⟩ := hrel
          replace own := Lib.hid own.out
          replace MB := Lib.hid MB.out
          replace hB := Lib.hid hB.out
          by_cases hlt : k < N
          · obtain ⟨g, off, rfl, hgb, cy⟩ := (RS.out.below MB.out.below (Nat.le_refl _)).at_ (k := k) (by rw [HN.out]; exact hlt)
            have hask := hokS.out k hlt
            have hfu := take_filterI S k (by rw [HN.out]; exact hlt) p
            obtain ⟨y, hyv⟩ : ∃ y, S[k]! = y := ⟨_, rfl⟩
            rw [hyv] at cy hask hfu
            simp only [encI] at cy
            have hgd : Hid (g < wr.drew.heap.size) := Lib.hid hgb
            have ks := Lib.hid (kS.out y hask)
            have hfl : Hid (((S.take k).filter p).length ≤ 1000000) := Lib.hid (by
              have h1 := List.length_filter_le p (S.take k)
              have h2 := List.length_take_le k S
              have h3 := hsl.out
              omega)
            clear hgb hyv hask
            cases hpy : p y
            · rw [hpy] at ks hfu
              replace hfu := Lib.hid (hfu.trans (List.append_nil _))
              go_wp2_with fail
              refine wp_region_held_drew (S := fun w' => Mem wB [(w.heap.size, o3 a b c 50)] w' ∧ w'.cell? ⟨g, off + k, none⟩ = some (.int .i64 y)) (by kernel_rfl) ⟨MB.out.drew, cy⟩ (fun hHeld => ?_)
              replace MB := Lib.hid MB.out.drew
              replace cy : (World.drew wr).cell? ⟨g, off + k, none⟩ = some (.int .i64 y) := cy
              replace own : Hid ((World.drew wr).ownsRow B0 3 1 u10 ((S.take k).filter p).length (((S.take k).filter p).map encI)) := Lib.hid own.out
              replace hB : Hid (B0 ≤ (World.drew wr).heap.size) := Lib.hid hB.out
              generalize World.drew wr = wd at *
              refine wpAnyH_take (i := 0) (oi := ?o91) (v := ?v91) ?hi91 (by kernel_rfl) (by kernel_rfl) (by kernel_rfl) ?hQ91 ?hy91 (by assumption) ?rest91
              case hi91 => (simp only [List.getElem?_toArray, List.getElem?_cons_succ, List.getElem?_cons_zero]; rfl)
              case hQ91 => exact fun _ _ _ h => h
              case hy91 => (refine Or.inl ⟨by rfl, ?_⟩; intro w' hSw; obtain ⟨hM, cy⟩ := hSw; obtain ⟨k0, k1, k2, _⟩ := row3 hM.head; go_simp; (try with_reducible rfl))
              try simp only [Act.put, List.setIfInBounds_toArray, List.set_cons_zero, List.set_cons_succ]
              refine wpAnyH_take (i := 1) (oi := ?o92) (v := ?v92) ?hi92 (by kernel_rfl) (by kernel_rfl) (by kernel_rfl) ?hQ92 ?hy92 (by assumption) ?rest92
              case hi92 => (simp only [List.getElem?_toArray, List.getElem?_cons_succ, List.getElem?_cons_zero]; rfl)
              case hQ92 => exact fun _ _ _ h => h
              case hy92 => (refine Or.inl ⟨by rfl, ?_⟩; intro w' hSw; obtain ⟨hM, cy⟩ := hSw; obtain ⟨k0, k1, k2, _⟩ := row3 hM.head; go_simp; (try with_reducible rfl))
              try simp only [Act.put, List.setIfInBounds_toArray, List.set_cons_zero, List.set_cons_succ]
              refine wpAnyH_take (i := 2) (oi := ?o93) (v := ?v93) ?hi93 (by kernel_rfl) (by kernel_rfl) (by kernel_rfl) ?hQ93 ?hy93 (by assumption) ?rest93
              case hi93 => (simp only [List.getElem?_toArray, List.getElem?_cons_succ, List.getElem?_cons_zero]; rfl)
              case hQ93 => exact fun _ _ _ h => h
              case hy93 => (refine Or.inl ⟨by rfl, ?_⟩; intro w' hSw; obtain ⟨hM, cy⟩ := hSw; obtain ⟨k0, k1, k2, _⟩ := row3 hM.head; go_simp; (try with_reducible rfl))
              try simp only [Act.put, List.setIfInBounds_toArray, List.set_cons_zero, List.set_cons_succ]
              refine wpAnyH_take (i := 3) (oi := ?o94) (v := ?v94) ?hi94 (by kernel_rfl) (by kernel_rfl) (by kernel_rfl) ?hQ94 ?hy94 (by assumption) ?rest94
              case hi94 => (simp only [List.getElem?_toArray, List.getElem?_cons_succ, List.getElem?_cons_zero]; rfl)
              case hQ94 => exact fun _ _ _ h => h
              case hy94 => (refine Or.inl ⟨by rfl, ?_⟩; intro w' hSw; obtain ⟨hM, cy⟩ := hSw; obtain ⟨k0, k1, k2, _⟩ := row3 hM.head; go_simp; (try with_reducible rfl))
              try simp only [Act.put, List.setIfInBounds_toArray, List.set_cons_zero, List.set_cons_succ]
              refine wpAnyH_take (i := 4) (oi := ?o95) (v := ?v95) ?hi95 (by kernel_rfl) (by kernel_rfl) (by kernel_rfl) ?hQ95 ?hy95 (by assumption) ?rest95
              case hi95 => (simp only [List.getElem?_toArray, List.getElem?_cons_succ, List.getElem?_cons_zero]; rfl)
              case hQ95 => exact fun _ _ _ h => h
              case hy95 => (refine Or.inl ⟨by rfl, ?_⟩; intro w' hSw; obtain ⟨hM, cy⟩ := hSw; obtain ⟨k0, k1, k2, _⟩ := row3 hM.head; go_simp; (try with_reducible rfl))
              try simp only [Act.put, List.setIfInBounds_toArray, List.set_cons_zero, List.set_cons_succ]
              refine wpAnyH_take (i := 5) (oi := ?o96) (v := ?v96) ?hi96 (by kernel_rfl) (by kernel_rfl) (by kernel_rfl) ?hQ96 ?hy96 (by assumption) ?rest96
              case hi96 => (simp only [List.getElem?_toArray, List.getElem?_cons_succ, List.getElem?_cons_zero]; rfl)
              case hQ96 => exact fun _ _ _ h => h
              case hy96 => (refine Or.inl ⟨by rfl, ?_⟩; intro w' hSw; obtain ⟨hM, cy⟩ := hSw; obtain ⟨k0, k1, k2, _⟩ := row3 hM.head; go_simp; (try with_reducible rfl))
              try simp only [Act.put, List.setIfInBounds_toArray, List.set_cons_zero, List.set_cons_succ]
              refine wpAnyH_ready (rs := [6]) (by kernel_rfl) (by simp) ?_
              refine AllReadyH.cons (o := ?o98) ?hi98 (fun K hK => ?rest98) AllReadyH.nil
              case hi98 => (simp only [List.getElem?_toArray, List.getElem?_cons_succ, List.getElem?_cons_zero]; rfl)
              go_simp
              go_at_call 100
              refine (ks.out _ (below_up HBw.out MB.out.below)).mono ?_
              rintro e wn ⟨rfl, hbn⟩
              have own2 := own_updK (F := fun _ => False) own.out (Upd.of_below hbn) (fun _ _ => id)
              replace cy : wn.cell? ⟨g, off + k, none⟩ = some (.int .i64 y) := (hbn.cell (p := ⟨g, off + k, none⟩) hgd.out).trans cy
              replace MB := Lib.hid (MB.out.next hbn)
              replace hB := Lib.hid (Nat.le_trans hB.out hbn.size)
              replace own := Lib.hid own2
              clear hbn own2 ks
              refine hK.out _ _ ⟨MB.out, cy⟩ (fun hHeld => ?_)
              clear hK K
              try simp only [Act.put, List.setIfInBounds_toArray, List.set_cons_zero, List.set_cons_succ]
              refine wpAnyH_done (by kernel_rfl) ?_ _
              rw [← hfu.out] at own
              go_wp2_with fail
              go_roundw
              case rel => exact ⟨k + 1, by omega, by go_num, own.out, MB.out, hB.out⟩
              case measure => simp [intOf]; omega
            · rw [hpy] at ks hfu
              replace hfu := Lib.hid hfu
              go_wp2_with fail
              refine wp_region_held_drew (S := fun w' => Mem wB [(w.heap.size, o3 a b c 50)] w' ∧ w'.cell? ⟨g, off + k, none⟩ = some (.int .i64 y)) (by kernel_rfl) ⟨MB.out.drew, cy⟩ (fun hHeld => ?_)
              replace MB := Lib.hid MB.out.drew
              replace cy : (World.drew wr).cell? ⟨g, off + k, none⟩ = some (.int .i64 y) := cy
              replace own : Hid ((World.drew wr).ownsRow B0 3 1 u10 ((S.take k).filter p).length (((S.take k).filter p).map encI)) := Lib.hid own.out
              replace hB : Hid (B0 ≤ (World.drew wr).heap.size) := Lib.hid hB.out
              generalize World.drew wr = wd at *
              refine wpAnyH_take (i := 0) (oi := ?o99) (v := ?v99) ?hi99 (by kernel_rfl) (by kernel_rfl) (by kernel_rfl) ?hQ99 ?hy99 (by assumption) ?rest99
              case hi99 => (simp only [List.getElem?_toArray, List.getElem?_cons_succ, List.getElem?_cons_zero]; rfl)
              case hQ99 => exact fun _ _ _ h => h
              case hy99 => (refine Or.inl ⟨by rfl, ?_⟩; intro w' hSw; obtain ⟨hM, cy⟩ := hSw; obtain ⟨k0, k1, k2, _⟩ := row3 hM.head; go_simp; (try with_reducible rfl))
              try simp only [Act.put, List.setIfInBounds_toArray, List.set_cons_zero, List.set_cons_succ]
              refine wpAnyH_take (i := 1) (oi := ?o100) (v := ?v100) ?hi100 (by kernel_rfl) (by kernel_rfl) (by kernel_rfl) ?hQ100 ?hy100 (by assumption) ?rest100
              case hi100 => (simp only [List.getElem?_toArray, List.getElem?_cons_succ, List.getElem?_cons_zero]; rfl)
              case hQ100 => exact fun _ _ _ h => h
              case hy100 => (refine Or.inl ⟨by rfl, ?_⟩; intro w' hSw; obtain ⟨hM, cy⟩ := hSw; obtain ⟨k0, k1, k2, _⟩ := row3 hM.head; go_simp; (try with_reducible rfl))
              try simp only [Act.put, List.setIfInBounds_toArray, List.set_cons_zero, List.set_cons_succ]
              refine wpAnyH_take (i := 2) (oi := ?o101) (v := ?v101) ?hi101 (by kernel_rfl) (by kernel_rfl) (by kernel_rfl) ?hQ101 ?hy101 (by assumption) ?rest101
              case hi101 => (simp only [List.getElem?_toArray, List.getElem?_cons_succ, List.getElem?_cons_zero]; rfl)
              case hQ101 => exact fun _ _ _ h => h
              case hy101 => (refine Or.inl ⟨by rfl, ?_⟩; intro w' hSw; obtain ⟨hM, cy⟩ := hSw; obtain ⟨k0, k1, k2, _⟩ := row3 hM.head; go_simp; (try with_reducible rfl))
              try simp only [Act.put, List.setIfInBounds_toArray, List.set_cons_zero, List.set_cons_succ]
              refine wpAnyH_take (i := 3) (oi := ?o102) (v := ?v102) ?hi102 (by kernel_rfl) (by kernel_rfl) (by kernel_rfl) ?hQ102 ?hy102 (by assumption) ?rest102
              case hi102 => (simp only [List.getElem?_toArray, List.getElem?_cons_succ, List.getElem?_cons_zero]; rfl)
              case hQ102 => exact fun _ _ _ h => h
              case hy102 => (refine Or.inl ⟨by rfl, ?_⟩; intro w' hSw; obtain ⟨hM, cy⟩ := hSw; obtain ⟨k0, k1, k2, _⟩ := row3 hM.head; go_simp; (try with_reducible rfl))
              try simp only [Act.put, List.setIfInBounds_toArray, List.set_cons_zero, List.set_cons_succ]
              refine wpAnyH_take (i := 4) (oi := ?o103) (v := ?v103) ?hi103 (by kernel_rfl) (by kernel_rfl) (by kernel_rfl) ?hQ103 ?hy103 (by assumption) ?rest103
              case hi103 => (simp only [List.getElem?_toArray, List.getElem?_cons_succ, List.getElem?_cons_zero]; rfl)
              case hQ103 => exact fun _ _ _ h => h
              case hy103 => (refine Or.inl ⟨by rfl, ?_⟩; intro w' hSw; obtain ⟨hM, cy⟩ := hSw; obtain ⟨k0, k1, k2, _⟩ := row3 hM.head; go_simp; (try with_reducible rfl))
              try simp only [Act.put, List.setIfInBounds_toArray, List.set_cons_zero, List.set_cons_succ]
              refine wpAnyH_take (i := 5) (oi := ?o104) (v := ?v104) ?hi104 (by kernel_rfl) (by kernel_rfl) (by kernel_rfl) ?hQ104 ?hy104 (by assumption) ?rest104
              case hi104 => (simp only [List.getElem?_toArray, List.getElem?_cons_succ, List.getElem?_cons_zero]; rfl)
              case hQ104 => exact fun _ _ _ h => h
              case hy104 => (refine Or.inl ⟨by rfl, ?_⟩; intro w' hSw; obtain ⟨hM, cy⟩ := hSw; obtain ⟨k0, k1, k2, _⟩ := row3 hM.head; go_simp; (try with_reducible rfl))
              try simp only [Act.put, List.setIfInBounds_toArray, List.set_cons_zero, List.set_cons_succ]
              refine wpAnyH_ready (rs := [6]) (by kernel_rfl) (by simp) ?_
              refine AllReadyH.cons (o := ?o106) ?hi106 (fun K hK => ?rest106) AllReadyH.nil
              case hi106 => (simp only [List.getElem?_toArray, List.getElem?_cons_succ, List.getElem?_cons_zero]; rfl)
              go_simp
              go_at_call 100
              refine (ks.out _ (below_up HBw.out MB.out.below)).mono ?_
              rintro e wn ⟨rfl, hbn⟩
              have own2 := own_updK (F := fun _ => False) own.out (Upd.of_below hbn) (fun _ _ => id)
              replace cy : wn.cell? ⟨g, off + k, none⟩ = some (.int .i64 y) := (hbn.cell (p := ⟨g, off + k, none⟩) hgd.out).trans cy
              replace MB := Lib.hid (MB.out.next hbn)
              replace hB := Lib.hid (Nat.le_trans hB.out hbn.size)
              replace own := Lib.hid own2
              clear hbn own2 ks
              refine hK.out _ _ ⟨MB.out, cy⟩ (fun hHeld => ?_)
              clear hK K
              try simp only [Act.put, List.setIfInBounds_toArray, List.set_cons_zero, List.set_cons_succ]
              refine wpAnyH_done (by kernel_rfl) ?_ _
              obtain ⟨A', cc, W', run, MB', own', hB'⟩ := ap1_step MB.out hL.out hw0.out own.out hB.out y hfl.out
              have hlen : ((S.take k).filter p).length + 1 = ((S.take (k + 1)).filter p).length := by rw [hfu.out]; simp
              rw [hlen, show (S.take k).filter p ++ [y] = (S.take (k + 1)).filter p from hfu.out.symm] at own'
              rw [hlen] at run
              have run := Lib.hid run
              replace own' := Lib.hid own'
              replace hB' := Lib.hid hB'
              replace MB' := Lib.hid MB'
              clear hlen
              go_wp2_with (first | (at_builtin; refine wpList_append_run (o := ⟨some 68, _, _, _, _, _⟩) rfl _ _ _ rfl rfl rfl run.out ?_))
              go_roundw
              case rel => exact ⟨k + 1, by omega, by go_num, own'.out, MB'.out, hB'.out⟩
              case measure => simp [intOf]; omega
          · obtain rfl : k = N := by omega
            rw [List.take_of_length_le (by rw [HN.out]; exact Nat.le_refl _)] at own
            obtain ⟨A', cc, rfl, hc1, hc2, _⟩ := own_value own.out
            obtain ⟨hrd, hfr, _⟩ := Rd.own own.out
            have fin : Hid (Told2 w R.1 R.2 (.returned (.tuple #[.slice A' (S.filter p).length cc, .int .i64 0])) wr) := Lib.hid (by
              rw [hR.out]
              exact ⟨A', cc, rfl, hc1, hc2, hrd.low hwB.out, hfr, below_up HBw.out MB.out.below⟩)
            clear own hrd hfr hc1 hc2
            go_wp2
            go_ret2
            exact fin.out
  · have hR : Hid (amR xs n a b c ys = ([], checkR xs n a b c)) := Lib.hid (amR_err ys hk)
    have e1 : (checkR xs n a b c != 0) = true := by simpa using hk
    generalize checkR xs n a b c = r at *
    clear hk
    go_enter Try.func68, Try.ntmps68
    go_wp2_with fail
    refine kc.out.mono ?_
    rintro e w1 ⟨rfl, hb⟩
    replace MB := Lib.hid (MB.out.next hb)
    clear hb kc d0 d1 d2
    go_wp2
    go_ret2
    rw [hR.out]
    exact ⟨none, 0, rfl, Nat.le_refl _, by decide, Rd.nil, fun _ _ e => (by cases e), MB.out.below⟩
end Go.Proofs.Ytojecaeblgghjaa
