/-
  carapaceref6.Join. (Printed by mkconf10.py.)
-/
import Derived.Test.YtojecaeblgghjaaConf9
set_option linter.unusedVariables false
set_option linter.unusedSimpArgs false
namespace Go.Proofs.Ytojecaeblgghjaa
open Go.RowKit Go.Sort LsP

theorem fourB_start (w : World) (o1 o2 o3' o4' : Obj) : Mem w [(w.heap.size + 1 + 1 + 1, o4'), (w.heap.size + 1 + 1, o3'), (w.heap.size + 1, o2), (w.heap.size, o1)] ((((w.alloc o1).alloc o2).alloc o3').alloc o4') := by
  have h := ((((Mem.nil w).add o1).add o2).add o3').add o4'
  simp only [World.size_alloc] at h
  exact h

theorem sset_sset (l : List Int) : sset (sset l) = sset l := sset_eq ⟨sset_rise l, fun _ => Iff.rfl⟩
theorem sset_filter (l : List Int) (p : Int → Bool) : sset ((sset l).filter p) = (sset l).filter p := sset_eq ⟨(sset_rise l).filter _, fun _ => Iff.rfl⟩
theorem less_one (l : List Int) (p : Int) : (sset (sset l)).filter (fun x => !decide (x ∈ sset [p])) = (sset l).filter (fun v => v != p) := by
  rw [sset_sset]
  refine List.filter_congr fun x _ => ?_
  have h : x ∈ sset [p] ↔ x = p := by rw [mem_sset]; simp
  by_cases e : x = p
  · rw [decide_eq_true (h.2 e)]; simp [e]
  · rw [decide_eq_false (fun h' => e (h.1 h'))]; simp [e]

set_option maxHeartbeats 16000000 in
set_option maxRecDepth 100000 in
theorem refJoin_any (L A B : Option Addr) (n c' na nb dA dB : Nat) (xs : List T3) (tA tB : T3) (av bv : List Int) (a b c p : Int) (w : World) (ha : RdT 0 w L xs) (hn : xs.length = n) (hn2 : n ≤ 9223372036854775807)
    (hA : Rd encI 0 w A av) (hB : Rd encI 0 w B bv) (hla : av.length = na) (hlb : bv.length = nb) (hx : na ≤ 400000) (hy : nb ≤ 400000) :
    Calls Try.prog 75 #[.slice L n c', encF tA A na dA, encF tB B nb dB, .agg #[.int .i64 a, .int .i64 b, .int .i64 c], .int .i64 p] w (ToldF w (joinR xs n av bv a b c p).1 (joinR xs n av bv a b c p).2.1 (joinR xs n av bv a b c p).2.2) := by
  have M0 := fourB_start w (oF tA (.slice A na dA)) (oF tB (.slice B nb dB)) (o3 a b c 50) (oF ⟨0, 0, 0⟩ (.slice none 0 0))
  have MB := Lib.hid M0
  have kc := Lib.hid (refAsked_any L n c' xs a b c _ (ha.below M0.below (Nat.le_refl _)) hn hn2)
  have HA := Lib.hid ha
  have hAp : Hid (Apart (w.heap.size + 1 + 1 + 1) [(w.heap.size + 1 + 1, o3 a b c 50), (w.heap.size + 1, oF tB (.slice B nb dB)), (w.heap.size, oF tA (.slice A na dA))]) := Lib.hid (fun q hq => by simp at hq; rcases hq with rfl | rfl | rfl <;> simp only <;> omega)
  clear M0 ha
  obtain ⟨d0, d1, d2, _⟩ := row3 MB.out.tail.head
  by_cases hk : checkR xs n a b c = 0
  · have km : Hid (∀ W, Below w.heap.size w W → Calls Try.prog 31 #[.slice A na dA, .slice B nb dB] W (Told encI W (sset (av ++ bv)))) := Lib.hid (fun W hW => by
      have h := refMerge_any A B dA dB av bv W (hA.below hW (Nat.le_refl _)) (hB.below hW (Nat.le_refl _)) (by omega) (by omega)
      rw [hla, hlb] at h
      exact h)
    have hsl : (sset (av ++ bv)).length ≤ 1000000 := by have h1 := sset_len (av ++ bv); rw [List.length_append] at h1; omega
    have kless : Hid (∀ (W : World) (A' P : Option Addr) (cc : Nat), Rd encI 0 W A' (sset (av ++ bv)) → Rd encI 0 W P [p] → Calls Try.prog 35 #[.slice A' (sset (av ++ bv)).length cc, .slice P 1 1] W (Told encI W ((sset (av ++ bv)).filter (fun v => v != p)))) := Lib.hid (fun W A' P cc h1 h2 => by
      have h := refLess_any A' P cc 1 (sset (av ++ bv)) [p] W h1 h2 hsl (by simp)
      rw [less_one] at h
      exact h)
    have hgl : ((sset (av ++ bv)).filter (fun v => v != p)).length ≤ 1000000 := by have h1 := List.length_filter_le (fun v => v != p) (sset (av ++ bv)); omega
    have kam : Hid (∀ (W : World) (A' : Option Addr) (cc : Nat), Below w.heap.size w W → Rd encI 0 W A' ((sset (av ++ bv)).filter (fun v => v != p)) → Calls Try.prog 68 #[.slice L n c', .agg #[.int .i64 a, .int .i64 b, .int .i64 c], .slice A' ((sset (av ++ bv)).filter (fun v => v != p)).length cc] W
        (Told2 W (amR xs n a b c ((sset (av ++ bv)).filter (fun v => v != p))).1 (amR xs n a b c ((sset (av ++ bv)).filter (fun v => v != p))).2)) := Lib.hid (fun W A' cc hW hR => refAmong_any L A' n c' cc xs a b c _ W (HA.out.below hW (Nat.le_refl _)) hn hn2 hR hgl)
    have khA : Hid (∀ W, Below w.heap.size w W → Calls Try.prog 37 #[.slice A na dA, .int .i64 p] W fun e w' => e = .returned (.bool (decide (p ∈ av))) ∧ w' = W) := Lib.hid (fun W hW => by
      have h := refHas_any A dA av p W 0 (hA.below hW (Nat.le_refl _)) (by omega)
      rw [hla] at h
      exact h)
    have khB : Hid (∀ W, Below w.heap.size w W → Calls Try.prog 37 #[.slice B nb dB, .int .i64 p] W fun e w' => e = .returned (.bool (decide (p ∈ bv))) ∧ w' = W) := Lib.hid (fun W hW => by
      have h := refHas_any B dB bv p W 0 (hB.below hW (Nat.le_refl _)) (by omega)
      rw [hlb] at h
      exact h)
    have hmemS : Hid (p ∈ av ∨ p ∈ bv → p ∈ sset (av ++ bv)) := Lib.hid (fun h => mem_sset.2 (List.mem_append.2 h))
    have hnot : Hid (p ∉ av → p ∉ bv → p ∉ sset (av ++ bv)) := Lib.hid (fun h1 h2 h => (List.mem_append.1 (mem_sset.1 h)).elim h1 h2)
    have hout : Hid (p ∈ sset (av ++ bv) → ¬ (0 ≤ p ∧ p < (n : Int)) → joinR xs n av bv a b c p = (⟨0, 0, 0⟩, [], 21)) := Lib.hid (fun h1 h2 => joinR_bad hk h1 (by
      unfold okJ
      by_cases h3 : 0 ≤ p
      · rw [decide_eq_false (show ¬ p < (n : Int) from fun h4 => h2 ⟨h3, h4⟩)]; simp
      · rw [decide_eq_false h3]; rfl))
    rw [hk] at kc
    by_cases hG : ∀ y ∈ (sset (av ++ bv)).filter (fun v => v != p), askB n a b c y = true
    · have ham := amR_ok hk hG
      rw [sset_filter] at ham
      have hin : Hid ((p ∈ sset (av ++ bv) → 0 ≤ p ∧ p < (n : Int)) → joinR xs n av bv a b c p = (canon ⟨a, b, c⟩, ((sset (av ++ bv)).filter (fun v => v != p)).filter (seesB xs n a b c), 0)) := Lib.hid (fun h => joinR_ok hk (fun y hy => by
        unfold okJ
        by_cases e : y = p
        · have := h (e ▸ hy)
          rw [decide_eq_true e, decide_eq_true (show 0 ≤ y by omega), decide_eq_true (show y < (n : Int) by omega)]
          rfl
        · have := hG y (List.mem_filter.2 ⟨hy, by simpa using e⟩)
          unfold askB at this
          simp only [Bool.and_eq_true] at this
          rw [this.1.1, this.1.2]
          simpa using Or.inr this.2))
      rw [ham] at kam
      clear hk hG ham hsl hgl hA hB hla hlb
      generalize hSS : sset (av ++ bv) = S at *
      clear hSS
      generalize S.filter (fun v => v != p) = K at *
      generalize K.filter (seesB xs n a b c) = lA at *
      go_enter Try.func75, Try.ntmps75
      go_wp2_with fail
      refine kc.out.mono ?_
      rintro e w1 ⟨rfl, hb⟩
      replace MB := Lib.hid (MB.out.next hb)
      clear hb kc d0 d1 d2
      go_wp2_with fail
      refine wp_region_held_drew (S := fun w' => Mem w [(w.heap.size + 1 + 1 + 1, oF ⟨0, 0, 0⟩ (.slice none 0 0)), (w.heap.size + 1 + 1, o3 a b c 50), (w.heap.size + 1, oF tB (.slice B nb dB)), (w.heap.size, oF tA (.slice A na dA))] w') (by kernel_rfl) MB.out.drew (fun hHeld => ?_)
      replace MB := Lib.hid MB.out.drew
      generalize World.drew w1 = wd at *
      refine wpAnyH_take (i := 0) (oi := ?o1) (v := ?v1) ?hi1 (by kernel_rfl) (by kernel_rfl) (by kernel_rfl) ?hQ1 ?hy1 (by assumption) ?rest1
      case hi1 => (simp only [List.getElem?_toArray, List.getElem?_cons_succ, List.getElem?_cons_zero]; rfl)
      case hQ1 => exact fun _ _ _ h => h
      case hy1 => (refine Or.inl ⟨by rfl, ?_⟩; intro w' hSw; obtain ⟨k0, k1, k2, _⟩ := row3 hSw.tail.head; obtain ⟨_, _, _, x3, _⟩ := cellsF hSw.tail.tail.tail.head; obtain ⟨_, _, _, y3, _⟩ := cellsF hSw.tail.tail.head; go_simp; (try with_reducible rfl))
      try simp only [Act.put, List.setIfInBounds_toArray, List.set_cons_zero, List.set_cons_succ]
      refine wpAnyH_take (i := 1) (oi := ?o2) (v := ?v2) ?hi2 (by kernel_rfl) (by kernel_rfl) (by kernel_rfl) ?hQ2 ?hy2 (by assumption) ?rest2
      case hi2 => (simp only [List.getElem?_toArray, List.getElem?_cons_succ, List.getElem?_cons_zero]; rfl)
      case hQ2 => exact fun _ _ _ h => h
      case hy2 => (refine Or.inl ⟨by rfl, ?_⟩; intro w' hSw; obtain ⟨k0, k1, k2, _⟩ := row3 hSw.tail.head; obtain ⟨_, _, _, x3, _⟩ := cellsF hSw.tail.tail.tail.head; obtain ⟨_, _, _, y3, _⟩ := cellsF hSw.tail.tail.head; go_simp; (try with_reducible rfl))
      try simp only [Act.put, List.setIfInBounds_toArray, List.set_cons_zero, List.set_cons_succ]
      refine wpAnyH_take (i := 2) (oi := ?o3) (v := ?v3) ?hi3 (by kernel_rfl) (by kernel_rfl) (by kernel_rfl) ?hQ3 ?hy3 (by assumption) ?rest3
      case hi3 => (simp only [List.getElem?_toArray, List.getElem?_cons_succ, List.getElem?_cons_zero]; rfl)
      case hQ3 => exact fun _ _ _ h => h
      case hy3 => (refine Or.inl ⟨by rfl, ?_⟩; intro w' hSw; obtain ⟨k0, k1, k2, _⟩ := row3 hSw.tail.head; obtain ⟨_, _, _, x3, _⟩ := cellsF hSw.tail.tail.tail.head; obtain ⟨_, _, _, y3, _⟩ := cellsF hSw.tail.tail.head; go_simp; (try with_reducible rfl))
      try simp only [Act.put, List.setIfInBounds_toArray, List.set_cons_zero, List.set_cons_succ]
      refine wpAnyH_take (i := 3) (oi := ?o4) (v := ?v4) ?hi4 (by kernel_rfl) (by kernel_rfl) (by kernel_rfl) ?hQ4 ?hy4 (by assumption) ?rest4
      case hi4 => (simp only [List.getElem?_toArray, List.getElem?_cons_succ, List.getElem?_cons_zero]; rfl)
      case hQ4 => exact fun _ _ _ h => h
      case hy4 => (refine Or.inl ⟨by rfl, ?_⟩; intro w' hSw; obtain ⟨k0, k1, k2, _⟩ := row3 hSw.tail.head; obtain ⟨_, _, _, x3, _⟩ := cellsF hSw.tail.tail.tail.head; obtain ⟨_, _, _, y3, _⟩ := cellsF hSw.tail.tail.head; go_simp; (try with_reducible rfl))
      try simp only [Act.put, List.setIfInBounds_toArray, List.set_cons_zero, List.set_cons_succ]
      refine wpAnyH_take (i := 4) (oi := ?o5) (v := ?v5) ?hi5 (by kernel_rfl) (by kernel_rfl) (by kernel_rfl) ?hQ5 ?hy5 (by assumption) ?rest5
      case hi5 => (simp only [List.getElem?_toArray, List.getElem?_cons_succ, List.getElem?_cons_zero]; rfl)
      case hQ5 => exact fun _ _ _ h => h
      case hy5 => (refine Or.inl ⟨by rfl, ?_⟩; intro w' hSw; obtain ⟨k0, k1, k2, _⟩ := row3 hSw.tail.head; obtain ⟨_, _, _, x3, _⟩ := cellsF hSw.tail.tail.tail.head; obtain ⟨_, _, _, y3, _⟩ := cellsF hSw.tail.tail.head; go_simp; (try with_reducible rfl))
      try simp only [Act.put, List.setIfInBounds_toArray, List.set_cons_zero, List.set_cons_succ]
      refine wpAnyH_take (i := 5) (oi := ?o6) (v := ?v6) ?hi6 (by kernel_rfl) (by kernel_rfl) (by kernel_rfl) ?hQ6 ?hy6 (by assumption) ?rest6
      case hi6 => (simp only [List.getElem?_toArray, List.getElem?_cons_succ, List.getElem?_cons_zero]; rfl)
      case hQ6 => exact fun _ _ _ h => h
      case hy6 => (refine Or.inl ⟨by rfl, ?_⟩; intro w' hSw; obtain ⟨k0, k1, k2, _⟩ := row3 hSw.tail.head; obtain ⟨_, _, _, x3, _⟩ := cellsF hSw.tail.tail.tail.head; obtain ⟨_, _, _, y3, _⟩ := cellsF hSw.tail.tail.head; go_simp; (try with_reducible rfl))
      try simp only [Act.put, List.setIfInBounds_toArray, List.set_cons_zero, List.set_cons_succ]
      refine wpAnyH_take (i := 7) (oi := ?o7) (v := ?v7) ?hi7 (by kernel_rfl) (by kernel_rfl) (by kernel_rfl) ?hQ7 ?hy7 (by assumption) ?rest7
      case hi7 => (simp only [List.getElem?_toArray, List.getElem?_cons_succ, List.getElem?_cons_zero]; rfl)
      case hQ7 => exact fun _ _ _ h => h
      case hy7 => (refine Or.inl ⟨by rfl, ?_⟩; intro w' hSw; obtain ⟨k0, k1, k2, _⟩ := row3 hSw.tail.head; obtain ⟨_, _, _, x3, _⟩ := cellsF hSw.tail.tail.tail.head; obtain ⟨_, _, _, y3, _⟩ := cellsF hSw.tail.tail.head; go_simp; (try with_reducible rfl))
      try simp only [Act.put, List.setIfInBounds_toArray, List.set_cons_zero, List.set_cons_succ]
      refine wpAnyH_ready (rs := [6, 8]) (by kernel_rfl) (by simp) ?_
      refine AllReadyH.cons (o := ?o31) ?hi31 (fun K hK => ?rest31) ?more31
      case hi31 => (simp only [List.getElem?_toArray, List.getElem?_cons_succ, List.getElem?_cons_zero]; rfl)
      case rest31 =>
        go_simp
        go_at_call 31
        refine (km.out _ MB.out.below).mono ?_
        rintro e wm ⟨A3, c3, rfl, h1, h2, h3, h4, h5⟩
        have RS := Lib.hid (h3.low (Nat.zero_le _))
        replace MB := Lib.hid (MB.out.next h5)
        clear h1 h2 h3 h4 h5
        refine hK.out _ _ MB.out (fun hHeld => ?_)
        clear hK K
        try simp only [Act.put, List.setIfInBounds_toArray, List.set_cons_zero, List.set_cons_succ]
        refine wpAnyH_ready (rs := [8]) (by kernel_rfl) (by simp) ?_
        refine AllReadyH.cons (o := ?o18) ?hi18 (fun K hK => ?rest18) AllReadyH.nil
        case hi18 => (simp only [List.getElem?_toArray, List.getElem?_cons_succ, List.getElem?_cons_zero]; rfl)
        go_simp
        have RP : Hid (Rd encI 0 (World.alloc wm (.cells #[.int .i64 p] 3 (0, 0))) (some ⟨(World.heap wm).size, 0, none⟩) [p]) := Lib.hid ((Rd.lit (enc := encI) [p]).low (Nat.zero_le _))
        have bA : Below (World.heap wm).size wm (World.alloc wm (.cells #[.int .i64 p] 3 (0, 0))) := (Below.refl _ _).alloc (Nat.le_refl _) _
        replace RS := Lib.hid (RS.out.below bA (Nat.le_refl _))
        replace MB := Lib.hid (MB.out.add (.cells #[.int .i64 p] 3 (0, 0))).tail
        clear bA
        refine hK.out _ _ MB.out (fun hHeld => ?_)
        clear hK K
        try simp only [Act.put, List.setIfInBounds_toArray, List.set_cons_zero, List.set_cons_succ]
        generalize hAA : World.heap wm = hp at *
        generalize hp.size = PB at *
        generalize World.alloc wm (.cells #[.int .i64 p] 3 (0, 0)) = wa at *
        clear hAA
        refine wpAnyH_ready (rs := [9]) (by kernel_rfl) (by simp) ?_
        refine AllReadyH.cons (o := ?o16) ?hi16 (fun K hK => ?rest16) AllReadyH.nil
        case hi16 => (simp only [List.getElem?_toArray, List.getElem?_cons_succ, List.getElem?_cons_zero]; rfl)
        go_simp
        go_at_call 35
        refine (kless.out _ _ _ _ RS.out RP.out).mono ?_
        rintro e wl ⟨A4, c4, rfl, h1, h2, h3, h4, h5⟩
        have RG := Lib.hid (h3.low (Nat.zero_le _))
        replace MB := Lib.hid (MB.out.next h5)
        clear h1 h2 h3 h4 h5
        refine hK.out _ _ MB.out (fun hHeld => ?_)
        clear hK K
        try simp only [Act.put, List.setIfInBounds_toArray, List.set_cons_zero, List.set_cons_succ]
        refine wpAnyH_ready (rs := [10]) (by kernel_rfl) (by simp) ?_
        refine AllReadyH.cons (o := ?o9) ?hi9 (fun K hK => ?rest9) AllReadyH.nil
        case hi9 => (simp only [List.getElem?_toArray, List.getElem?_cons_succ, List.getElem?_cons_zero]; rfl)
        go_simp
        go_at_call 68
        refine (kam.out _ _ _ MB.out.below RG.out).mono ?_
        rintro e wz ⟨A5, c5, rfl, h1, h2, h3, h4, h5⟩
        have FT := Lib.hid (And.intro h1 (And.intro h2 (And.intro (h3.low MB.out.above) (fun (_ : 0 < lA.length) => h4))))
        have hbig := MB.out.lt (p := (w.heap.size + 1 + 1 + 1, oF ⟨0, 0, 0⟩ (.slice none 0 0))) (by simp)
        have hA5 : Hid (∀ g o, A5 = some ⟨g, o, none⟩ → 0 < lA.length → g ≠ w.heap.size + 1 + 1 + 1 ∧ g < wz.heap.size) := Lib.hid (fun g o e hl => by
          obtain ⟨b', off', e', q1, q2, _⟩ := h3 hl
          rw [e] at e'
          injection e' with e'
          injection e' with e1 _
          subst e1
          simp only at hbig
          exact ⟨by omega, q2⟩)
        replace MB := Lib.hid (MB.out.next h5)
        clear h1 h2 h3 h4 h5 RS RP RG hbig
        refine hK.out _ _ MB.out (fun hHeld => ?_)
        clear hK K
        try simp only [Act.put, List.setIfInBounds_toArray, List.set_cons_zero, List.set_cons_succ]
        refine wpAnyH_take (i := 11) (oi := ?o10) (v := ?v10) ?hi10 (by kernel_rfl) (by kernel_rfl) (by kernel_rfl) ?hQ10 ?hy10 (by assumption) ?rest10
        case hi10 => (simp only [List.getElem?_toArray, List.getElem?_cons_succ, List.getElem?_cons_zero]; rfl)
        case hQ10 => exact fun _ _ _ h => h
        case hy10 => (refine Or.inl ⟨by rfl, ?_⟩; intro w' hSw; go_simp; (try with_reducible rfl))
        try simp only [Act.put, List.setIfInBounds_toArray, List.set_cons_zero, List.set_cons_succ]
        refine wpAnyH_take (i := 12) (oi := ?o11) (v := ?v11) ?hi11 (by kernel_rfl) (by kernel_rfl) (by kernel_rfl) ?hQ11 ?hy11 (by assumption) ?rest11
        case hi11 => (simp only [List.getElem?_toArray, List.getElem?_cons_succ, List.getElem?_cons_zero]; rfl)
        case hQ11 => exact fun _ _ _ h => h
        case hy11 => (refine Or.inl ⟨by rfl, ?_⟩; intro w' hSw; go_simp; (try with_reducible rfl))
        try simp only [Act.put, List.setIfInBounds_toArray, List.set_cons_zero, List.set_cons_succ]
        refine wpAnyH_take (i := 13) (oi := ?o12) (v := ?v12) ?hi12 (by kernel_rfl) (by kernel_rfl) (by kernel_rfl) ?hQ12 ?hy12 (by assumption) ?rest12
        case hi12 => (simp only [List.getElem?_toArray, List.getElem?_cons_succ, List.getElem?_cons_zero]; rfl)
        case hQ12 => exact fun _ _ _ h => h
        case hy12 => (refine Or.inl ⟨by rfl, ?_⟩; intro w' hSw; go_simp; (try with_reducible rfl))
        try simp only [Act.put, List.setIfInBounds_toArray, List.set_cons_zero, List.set_cons_succ]
        refine wpAnyH_take (i := 14) (oi := ?o13) (v := ?v13) ?hi13 (by kernel_rfl) (by kernel_rfl) (by kernel_rfl) ?hQ13 ?hy13 (by assumption) ?rest13
        case hi13 => (simp only [List.getElem?_toArray, List.getElem?_cons_succ, List.getElem?_cons_zero]; rfl)
        case hQ13 => exact fun _ _ _ h => h
        case hy13 => (refine Or.inl ⟨by rfl, ?_⟩; intro w' hSw; go_simp; (try with_reducible rfl))
        try simp only [Act.put, List.setIfInBounds_toArray, List.set_cons_zero, List.set_cons_succ]
        refine wpAnyH_take (i := 15) (oi := ?o14) (v := ?v14) ?hi14 (by kernel_rfl) (by kernel_rfl) (by kernel_rfl) ?hQ14 ?hy14 (by assumption) ?rest14
        case hi14 => (simp only [List.getElem?_toArray, List.getElem?_cons_succ, List.getElem?_cons_zero]; rfl)
        case hQ14 => exact fun _ _ _ h => h
        case hy14 => (refine Or.inl ⟨by rfl, ?_⟩; intro w' hSw; go_simp; (try with_reducible rfl))
        try simp only [Act.put, List.setIfInBounds_toArray, List.set_cons_zero, List.set_cons_succ]
        refine wpAnyH_done (by kernel_rfl) ?_ _
        obtain ⟨_, _, _, x3, _⟩ := cellsF MB.out.tail.tail.tail.head
        obtain ⟨_, _, _, y3, _⟩ := cellsF MB.out.tail.tail.head
        have kA := Lib.hid (khA.out wz MB.out.below)
        have kB := Lib.hid (khB.out wz MB.out.below)
        by_cases pA : p ∈ av
        · rw [decide_eq_true pA] at kA
          go_wp2_with fail
          refine kA.out.mono ?_
          rintro e wy ⟨rfl, rfl⟩
          have hpS : Hid (p ∈ S) := Lib.hid (hmemS.out (.inl pA))
          by_cases l0 : p < 0
          · have dl : decide (p < 0) = true := by simpa using l0
            have hv := Lib.hid (hout.out hpS.out (fun h => by omega))
            clear l0
            obtain ⟨g0, g1, g2, g3, f0, f1, f2, f3⟩ := cellsF MB.out.head
            have MF : Hid (Mem w [(w.heap.size + 1 + 1 + 1, oF ⟨0, 0, 0⟩ (.slice none 0 0)), (w.heap.size + 1 + 1, o3 a b c 50), (w.heap.size + 1, oF tB (.slice B nb dB)), (w.heap.size, oF tA (.slice A na dA))] _) := Lib.hid ((((MB.out.set hAp.out (by omega) 0 (.int .i64 0)).set hAp.out (by omega) 1 (.int .i64 0)).set hAp.out (by omega) 2 (.int .i64 0)).set hAp.out (by omega) 3 (.slice none 0 0))
            replace MB := MF
            clear MF
            go_wp2
            obtain ⟨d0, d1, d2, d3, _⟩ := cellsF MB.out.head
            refine bodyPost_ret (v := .tuple #[.agg #[.int .i64 0, .int .i64 0, .int .i64 0, .slice none 0 0], .int .i64 21]) ?_ rfl ?_
            · simp [results, Try.results75, go_sem, d0, d1, d2, d3]
            · rw [hv.out]
              exact ⟨none, 0, rfl, Nat.le_refl _, by decide, Rd.nil, fun h => absurd h (by simp), MB.out.below⟩
          · have dl : decide (p < 0) = false := by simpa using l0
            by_cases l1 : p ≥ (n : Int)
            · have du : decide (p ≥ (n : Int)) = true := by simpa using l1
              have hv := Lib.hid (hout.out hpS.out (fun h => by omega))
              clear l0 l1
              obtain ⟨g0, g1, g2, g3, f0, f1, f2, f3⟩ := cellsF MB.out.head
              have MF : Hid (Mem w [(w.heap.size + 1 + 1 + 1, oF ⟨0, 0, 0⟩ (.slice none 0 0)), (w.heap.size + 1 + 1, o3 a b c 50), (w.heap.size + 1, oF tB (.slice B nb dB)), (w.heap.size, oF tA (.slice A na dA))] _) := Lib.hid ((((MB.out.set hAp.out (by omega) 0 (.int .i64 0)).set hAp.out (by omega) 1 (.int .i64 0)).set hAp.out (by omega) 2 (.int .i64 0)).set hAp.out (by omega) 3 (.slice none 0 0))
              replace MB := MF
              clear MF
              go_wp2
              obtain ⟨d0, d1, d2, d3, _⟩ := cellsF MB.out.head
              refine bodyPost_ret (v := .tuple #[.agg #[.int .i64 0, .int .i64 0, .int .i64 0, .slice none 0 0], .int .i64 21]) ?_ rfl ?_
              · simp [results, Try.results75, go_sem, d0, d1, d2, d3]
              · rw [hv.out]
                exact ⟨none, 0, rfl, Nat.le_refl _, by decide, Rd.nil, fun h => absurd h (by simp), MB.out.below⟩
            · have du : decide (p ≥ (n : Int)) = false := by simpa using l1
              have hR := Lib.hid (hin.out (fun _ => ⟨by omega, by omega⟩))
              clear l0 l1
              obtain ⟨d0, d1, d2, _⟩ := row3 MB.out.tail.head
              go_wp2_with fail
              refine (refCanon_any a b c _).mono ?_
              rintro e wc ⟨rfl, hb⟩
              have FT2 : Hid (lA.length ≤ c5 ∧ c5 ≤ maxLen ∧ Rd encI w.heap.size wc A5 lA ∧ (0 < lA.length → Fr wc A5 lA.length)) := Lib.hid ⟨FT.out.1, FT.out.2.1, FT.out.2.2.1.below hb (Nat.le_refl _), fun hl => (FT.out.2.2.2 hl).below hb (fun g o e => (hA5.out g o e hl).2)⟩
              replace MB := Lib.hid (MB.out.next hb)
              clear hb FT
              (try clear d0 d1 d2)
              generalize canon ⟨a, b, c⟩ = t at *
              obtain ⟨e0, e1', e2', e3, f0, f1, f2, f3⟩ := cellsF MB.out.head
              have MC : Mem w [(w.heap.size + 1 + 1 + 1, oF t (.slice A5 lA.length c5)), (w.heap.size + 1 + 1, o3 a b c 50), (w.heap.size + 1, oF tB (.slice B nb dB)), (w.heap.size, oF tA (.slice A na dA))] _ := (((MB.out.set hAp.out (by omega) 0 (.int .i64 t.a)).set hAp.out (by omega) 1 (.int .i64 t.b)).set hAp.out (by omega) 2 (.int .i64 t.c)).set hAp.out (by omega) 3 (.slice A5 lA.length c5)
              have fin := told_set4' (t := t) (er := 0) (w.heap.size + 1 + 1 + 1) A5 c5 FT2.out (fun g o e hl => (hA5.out g o e hl).1) MC.below
              replace fin := Lib.hid fin
              replace MB := Lib.hid MC
              clear MC FT2 hA5
              go_wp2
              obtain ⟨d0, d1, d2, d3, _⟩ := cellsF MB.out.head
              refine bodyPost_ret (v := .tuple #[.agg #[.int .i64 t.a, .int .i64 t.b, .int .i64 t.c, .slice A5 lA.length c5], .int .i64 0]) ?_ rfl ?_
              · simp [results, Try.results75, go_sem, d0, d1, d2, d3]
              · rw [hR.out]
                exact fin.out
        · rw [decide_eq_false pA] at kA
          by_cases pB : p ∈ bv
          · rw [decide_eq_true pB] at kB
            go_wp2_with fail
            refine kA.out.mono ?_
            rintro e wy ⟨rfl, rfl⟩
            go_wp2_with fail
            refine kB.out.mono ?_
            rintro e wy ⟨rfl, rfl⟩
            have hpS : Hid (p ∈ S) := Lib.hid (hmemS.out (.inr pB))
            by_cases l0 : p < 0
            · have dl : decide (p < 0) = true := by simpa using l0
              have hv := Lib.hid (hout.out hpS.out (fun h => by omega))
              clear l0
              obtain ⟨g0, g1, g2, g3, f0, f1, f2, f3⟩ := cellsF MB.out.head
              have MF : Hid (Mem w [(w.heap.size + 1 + 1 + 1, oF ⟨0, 0, 0⟩ (.slice none 0 0)), (w.heap.size + 1 + 1, o3 a b c 50), (w.heap.size + 1, oF tB (.slice B nb dB)), (w.heap.size, oF tA (.slice A na dA))] _) := Lib.hid ((((MB.out.set hAp.out (by omega) 0 (.int .i64 0)).set hAp.out (by omega) 1 (.int .i64 0)).set hAp.out (by omega) 2 (.int .i64 0)).set hAp.out (by omega) 3 (.slice none 0 0))
              replace MB := MF
              clear MF
              go_wp2
              obtain ⟨d0, d1, d2, d3, _⟩ := cellsF MB.out.head
              refine bodyPost_ret (v := .tuple #[.agg #[.int .i64 0, .int .i64 0, .int .i64 0, .slice none 0 0], .int .i64 21]) ?_ rfl ?_
              · simp [results, Try.results75, go_sem, d0, d1, d2, d3]
              · rw [hv.out]
                exact ⟨none, 0, rfl, Nat.le_refl _, by decide, Rd.nil, fun h => absurd h (by simp), MB.out.below⟩
            · have dl : decide (p < 0) = false := by simpa using l0
              by_cases l1 : p ≥ (n : Int)
              · have du : decide (p ≥ (n : Int)) = true := by simpa using l1
                have hv := Lib.hid (hout.out hpS.out (fun h => by omega))
                clear l0 l1
                obtain ⟨g0, g1, g2, g3, f0, f1, f2, f3⟩ := cellsF MB.out.head
                have MF : Hid (Mem w [(w.heap.size + 1 + 1 + 1, oF ⟨0, 0, 0⟩ (.slice none 0 0)), (w.heap.size + 1 + 1, o3 a b c 50), (w.heap.size + 1, oF tB (.slice B nb dB)), (w.heap.size, oF tA (.slice A na dA))] _) := Lib.hid ((((MB.out.set hAp.out (by omega) 0 (.int .i64 0)).set hAp.out (by omega) 1 (.int .i64 0)).set hAp.out (by omega) 2 (.int .i64 0)).set hAp.out (by omega) 3 (.slice none 0 0))
                replace MB := MF
                clear MF
                go_wp2
                obtain ⟨d0, d1, d2, d3, _⟩ := cellsF MB.out.head
                refine bodyPost_ret (v := .tuple #[.agg #[.int .i64 0, .int .i64 0, .int .i64 0, .slice none 0 0], .int .i64 21]) ?_ rfl ?_
                · simp [results, Try.results75, go_sem, d0, d1, d2, d3]
                · rw [hv.out]
                  exact ⟨none, 0, rfl, Nat.le_refl _, by decide, Rd.nil, fun h => absurd h (by simp), MB.out.below⟩
              · have du : decide (p ≥ (n : Int)) = false := by simpa using l1
                have hR := Lib.hid (hin.out (fun _ => ⟨by omega, by omega⟩))
                clear l0 l1
                obtain ⟨d0, d1, d2, _⟩ := row3 MB.out.tail.head
                go_wp2_with fail
                refine (refCanon_any a b c _).mono ?_
                rintro e wc ⟨rfl, hb⟩
                have FT2 : Hid (lA.length ≤ c5 ∧ c5 ≤ maxLen ∧ Rd encI w.heap.size wc A5 lA ∧ (0 < lA.length → Fr wc A5 lA.length)) := Lib.hid ⟨FT.out.1, FT.out.2.1, FT.out.2.2.1.below hb (Nat.le_refl _), fun hl => (FT.out.2.2.2 hl).below hb (fun g o e => (hA5.out g o e hl).2)⟩
                replace MB := Lib.hid (MB.out.next hb)
                clear hb FT
                (try clear d0 d1 d2)
                generalize canon ⟨a, b, c⟩ = t at *
                obtain ⟨e0, e1', e2', e3, f0, f1, f2, f3⟩ := cellsF MB.out.head
                have MC : Mem w [(w.heap.size + 1 + 1 + 1, oF t (.slice A5 lA.length c5)), (w.heap.size + 1 + 1, o3 a b c 50), (w.heap.size + 1, oF tB (.slice B nb dB)), (w.heap.size, oF tA (.slice A na dA))] _ := (((MB.out.set hAp.out (by omega) 0 (.int .i64 t.a)).set hAp.out (by omega) 1 (.int .i64 t.b)).set hAp.out (by omega) 2 (.int .i64 t.c)).set hAp.out (by omega) 3 (.slice A5 lA.length c5)
                have fin := told_set4' (t := t) (er := 0) (w.heap.size + 1 + 1 + 1) A5 c5 FT2.out (fun g o e hl => (hA5.out g o e hl).1) MC.below
                replace fin := Lib.hid fin
                replace MB := Lib.hid MC
                clear MC FT2 hA5
                go_wp2
                obtain ⟨d0, d1, d2, d3, _⟩ := cellsF MB.out.head
                refine bodyPost_ret (v := .tuple #[.agg #[.int .i64 t.a, .int .i64 t.b, .int .i64 t.c, .slice A5 lA.length c5], .int .i64 0]) ?_ rfl ?_
                · simp [results, Try.results75, go_sem, d0, d1, d2, d3]
                · rw [hR.out]
                  exact fin.out
          · rw [decide_eq_false pB] at kB
            have hR := Lib.hid (hin.out (fun h => absurd h (hnot.out pA pB)))
            go_wp2_with fail
            refine kA.out.mono ?_
            rintro e wy ⟨rfl, rfl⟩
            go_wp2_with fail
            refine kB.out.mono ?_
            rintro e wy ⟨rfl, rfl⟩
            obtain ⟨d0, d1, d2, _⟩ := row3 MB.out.tail.head
            go_wp2_with fail
            refine (refCanon_any a b c _).mono ?_
            rintro e wc ⟨rfl, hb⟩
            have FT2 : Hid (lA.length ≤ c5 ∧ c5 ≤ maxLen ∧ Rd encI w.heap.size wc A5 lA ∧ (0 < lA.length → Fr wc A5 lA.length)) := Lib.hid ⟨FT.out.1, FT.out.2.1, FT.out.2.2.1.below hb (Nat.le_refl _), fun hl => (FT.out.2.2.2 hl).below hb (fun g o e => (hA5.out g o e hl).2)⟩
            replace MB := Lib.hid (MB.out.next hb)
            clear hb FT
            (try clear d0 d1 d2)
            generalize canon ⟨a, b, c⟩ = t at *
            obtain ⟨e0, e1', e2', e3, f0, f1, f2, f3⟩ := cellsF MB.out.head
            have MC : Mem w [(w.heap.size + 1 + 1 + 1, oF t (.slice A5 lA.length c5)), (w.heap.size + 1 + 1, o3 a b c 50), (w.heap.size + 1, oF tB (.slice B nb dB)), (w.heap.size, oF tA (.slice A na dA))] _ := (((MB.out.set hAp.out (by omega) 0 (.int .i64 t.a)).set hAp.out (by omega) 1 (.int .i64 t.b)).set hAp.out (by omega) 2 (.int .i64 t.c)).set hAp.out (by omega) 3 (.slice A5 lA.length c5)
            have fin := told_set4' (t := t) (er := 0) (w.heap.size + 1 + 1 + 1) A5 c5 FT2.out (fun g o e hl => (hA5.out g o e hl).1) MC.below
            replace fin := Lib.hid fin
            replace MB := Lib.hid MC
            clear MC FT2 hA5
            go_wp2
            obtain ⟨d0, d1, d2, d3, _⟩ := cellsF MB.out.head
            refine bodyPost_ret (v := .tuple #[.agg #[.int .i64 t.a, .int .i64 t.b, .int .i64 t.c, .slice A5 lA.length c5], .int .i64 0]) ?_ rfl ?_
            · simp [results, Try.results75, go_sem, d0, d1, d2, d3]
            · rw [hR.out]
              exact fin.out
      refine AllReadyH.cons (o := ?o32) ?hi32 (fun K hK => ?rest32) AllReadyH.nil
      case hi32 => (simp only [List.getElem?_toArray, List.getElem?_cons_succ, List.getElem?_cons_zero]; rfl)
      go_simp
      have RP : Hid (Rd encI 0 (World.alloc wd (.cells #[.int .i64 p] 3 (0, 0))) (some ⟨(World.heap wd).size, 0, none⟩) [p]) := Lib.hid ((Rd.lit (enc := encI) [p]).low (Nat.zero_le _))
      have bA : Below (World.heap wd).size wd (World.alloc wd (.cells #[.int .i64 p] 3 (0, 0))) := (Below.refl _ _).alloc (Nat.le_refl _) _
      replace MB := Lib.hid (MB.out.add (.cells #[.int .i64 p] 3 (0, 0))).tail
      clear bA
      refine hK.out _ _ MB.out (fun hHeld => ?_)
      clear hK K
      try simp only [Act.put, List.setIfInBounds_toArray, List.set_cons_zero, List.set_cons_succ]
      generalize hAA : World.heap wd = hp at *
      generalize hp.size = PB at *
      generalize World.alloc wd (.cells #[.int .i64 p] 3 (0, 0)) = wa at *
      clear hAA
      refine wpAnyH_ready (rs := [6]) (by kernel_rfl) (by simp) ?_
      refine AllReadyH.cons (o := ?o29) ?hi29 (fun K hK => ?rest29) AllReadyH.nil
      case hi29 => (simp only [List.getElem?_toArray, List.getElem?_cons_succ, List.getElem?_cons_zero]; rfl)
      go_simp
      go_at_call 31
      refine (km.out _ MB.out.below).mono ?_
      rintro e wm ⟨A3, c3, rfl, h1, h2, h3, h4, h5⟩
      have RS := Lib.hid (h3.low (Nat.zero_le _))
      replace RP := Lib.hid (RP.out.below h5 (Nat.le_refl _))
      replace MB := Lib.hid (MB.out.next h5)
      clear h1 h2 h3 h4 h5
      refine hK.out _ _ MB.out (fun hHeld => ?_)
      clear hK K
      try simp only [Act.put, List.setIfInBounds_toArray, List.set_cons_zero, List.set_cons_succ]
      refine wpAnyH_ready (rs := [9]) (by kernel_rfl) (by simp) ?_
      refine AllReadyH.cons (o := ?o27) ?hi27 (fun K hK => ?rest27) AllReadyH.nil
      case hi27 => (simp only [List.getElem?_toArray, List.getElem?_cons_succ, List.getElem?_cons_zero]; rfl)
      go_simp
      go_at_call 35
      refine (kless.out _ _ _ _ RS.out RP.out).mono ?_
      rintro e wl ⟨A4, c4, rfl, h1, h2, h3, h4, h5⟩
      have RG := Lib.hid (h3.low (Nat.zero_le _))
      replace MB := Lib.hid (MB.out.next h5)
      clear h1 h2 h3 h4 h5
      refine hK.out _ _ MB.out (fun hHeld => ?_)
      clear hK K
      try simp only [Act.put, List.setIfInBounds_toArray, List.set_cons_zero, List.set_cons_succ]
      refine wpAnyH_ready (rs := [10]) (by kernel_rfl) (by simp) ?_
      refine AllReadyH.cons (o := ?o20) ?hi20 (fun K hK => ?rest20) AllReadyH.nil
      case hi20 => (simp only [List.getElem?_toArray, List.getElem?_cons_succ, List.getElem?_cons_zero]; rfl)
      go_simp
      go_at_call 68
      refine (kam.out _ _ _ MB.out.below RG.out).mono ?_
      rintro e wz ⟨A5, c5, rfl, h1, h2, h3, h4, h5⟩
      have FT := Lib.hid (And.intro h1 (And.intro h2 (And.intro (h3.low MB.out.above) (fun (_ : 0 < lA.length) => h4))))
      have hbig := MB.out.lt (p := (w.heap.size + 1 + 1 + 1, oF ⟨0, 0, 0⟩ (.slice none 0 0))) (by simp)
      have hA5 : Hid (∀ g o, A5 = some ⟨g, o, none⟩ → 0 < lA.length → g ≠ w.heap.size + 1 + 1 + 1 ∧ g < wz.heap.size) := Lib.hid (fun g o e hl => by
        obtain ⟨b', off', e', q1, q2, _⟩ := h3 hl
        rw [e] at e'
        injection e' with e'
        injection e' with e1 _
        subst e1
        simp only at hbig
        exact ⟨by omega, q2⟩)
      replace MB := Lib.hid (MB.out.next h5)
      clear h1 h2 h3 h4 h5 RS RP RG hbig
      refine hK.out _ _ MB.out (fun hHeld => ?_)
      clear hK K
      try simp only [Act.put, List.setIfInBounds_toArray, List.set_cons_zero, List.set_cons_succ]
      refine wpAnyH_take (i := 11) (oi := ?o21) (v := ?v21) ?hi21 (by kernel_rfl) (by kernel_rfl) (by kernel_rfl) ?hQ21 ?hy21 (by assumption) ?rest21
      case hi21 => (simp only [List.getElem?_toArray, List.getElem?_cons_succ, List.getElem?_cons_zero]; rfl)
      case hQ21 => exact fun _ _ _ h => h
      case hy21 => (refine Or.inl ⟨by rfl, ?_⟩; intro w' hSw; go_simp; (try with_reducible rfl))
      try simp only [Act.put, List.setIfInBounds_toArray, List.set_cons_zero, List.set_cons_succ]
      refine wpAnyH_take (i := 12) (oi := ?o22) (v := ?v22) ?hi22 (by kernel_rfl) (by kernel_rfl) (by kernel_rfl) ?hQ22 ?hy22 (by assumption) ?rest22
      case hi22 => (simp only [List.getElem?_toArray, List.getElem?_cons_succ, List.getElem?_cons_zero]; rfl)
      case hQ22 => exact fun _ _ _ h => h
      case hy22 => (refine Or.inl ⟨by rfl, ?_⟩; intro w' hSw; go_simp; (try with_reducible rfl))
      try simp only [Act.put, List.setIfInBounds_toArray, List.set_cons_zero, List.set_cons_succ]
      refine wpAnyH_take (i := 13) (oi := ?o23) (v := ?v23) ?hi23 (by kernel_rfl) (by kernel_rfl) (by kernel_rfl) ?hQ23 ?hy23 (by assumption) ?rest23
      case hi23 => (simp only [List.getElem?_toArray, List.getElem?_cons_succ, List.getElem?_cons_zero]; rfl)
      case hQ23 => exact fun _ _ _ h => h
      case hy23 => (refine Or.inl ⟨by rfl, ?_⟩; intro w' hSw; go_simp; (try with_reducible rfl))
      try simp only [Act.put, List.setIfInBounds_toArray, List.set_cons_zero, List.set_cons_succ]
      refine wpAnyH_take (i := 14) (oi := ?o24) (v := ?v24) ?hi24 (by kernel_rfl) (by kernel_rfl) (by kernel_rfl) ?hQ24 ?hy24 (by assumption) ?rest24
      case hi24 => (simp only [List.getElem?_toArray, List.getElem?_cons_succ, List.getElem?_cons_zero]; rfl)
      case hQ24 => exact fun _ _ _ h => h
      case hy24 => (refine Or.inl ⟨by rfl, ?_⟩; intro w' hSw; go_simp; (try with_reducible rfl))
      try simp only [Act.put, List.setIfInBounds_toArray, List.set_cons_zero, List.set_cons_succ]
      refine wpAnyH_take (i := 15) (oi := ?o25) (v := ?v25) ?hi25 (by kernel_rfl) (by kernel_rfl) (by kernel_rfl) ?hQ25 ?hy25 (by assumption) ?rest25
      case hi25 => (simp only [List.getElem?_toArray, List.getElem?_cons_succ, List.getElem?_cons_zero]; rfl)
      case hQ25 => exact fun _ _ _ h => h
      case hy25 => (refine Or.inl ⟨by rfl, ?_⟩; intro w' hSw; go_simp; (try with_reducible rfl))
      try simp only [Act.put, List.setIfInBounds_toArray, List.set_cons_zero, List.set_cons_succ]
      refine wpAnyH_done (by kernel_rfl) ?_ _
      obtain ⟨_, _, _, x3, _⟩ := cellsF MB.out.tail.tail.tail.head
      obtain ⟨_, _, _, y3, _⟩ := cellsF MB.out.tail.tail.head
      have kA := Lib.hid (khA.out wz MB.out.below)
      have kB := Lib.hid (khB.out wz MB.out.below)
      by_cases pA : p ∈ av
      · rw [decide_eq_true pA] at kA
        go_wp2_with fail
        refine kA.out.mono ?_
        rintro e wy ⟨rfl, rfl⟩
        have hpS : Hid (p ∈ S) := Lib.hid (hmemS.out (.inl pA))
        by_cases l0 : p < 0
        · have dl : decide (p < 0) = true := by simpa using l0
          have hv := Lib.hid (hout.out hpS.out (fun h => by omega))
          clear l0
          obtain ⟨g0, g1, g2, g3, f0, f1, f2, f3⟩ := cellsF MB.out.head
          have MF : Hid (Mem w [(w.heap.size + 1 + 1 + 1, oF ⟨0, 0, 0⟩ (.slice none 0 0)), (w.heap.size + 1 + 1, o3 a b c 50), (w.heap.size + 1, oF tB (.slice B nb dB)), (w.heap.size, oF tA (.slice A na dA))] _) := Lib.hid ((((MB.out.set hAp.out (by omega) 0 (.int .i64 0)).set hAp.out (by omega) 1 (.int .i64 0)).set hAp.out (by omega) 2 (.int .i64 0)).set hAp.out (by omega) 3 (.slice none 0 0))
          replace MB := MF
          clear MF
          go_wp2
          obtain ⟨d0, d1, d2, d3, _⟩ := cellsF MB.out.head
          refine bodyPost_ret (v := .tuple #[.agg #[.int .i64 0, .int .i64 0, .int .i64 0, .slice none 0 0], .int .i64 21]) ?_ rfl ?_
          · simp [results, Try.results75, go_sem, d0, d1, d2, d3]
          · rw [hv.out]
            exact ⟨none, 0, rfl, Nat.le_refl _, by decide, Rd.nil, fun h => absurd h (by simp), MB.out.below⟩
        · have dl : decide (p < 0) = false := by simpa using l0
          by_cases l1 : p ≥ (n : Int)
          · have du : decide (p ≥ (n : Int)) = true := by simpa using l1
            have hv := Lib.hid (hout.out hpS.out (fun h => by omega))
            clear l0 l1
            obtain ⟨g0, g1, g2, g3, f0, f1, f2, f3⟩ := cellsF MB.out.head
            have MF : Hid (Mem w [(w.heap.size + 1 + 1 + 1, oF ⟨0, 0, 0⟩ (.slice none 0 0)), (w.heap.size + 1 + 1, o3 a b c 50), (w.heap.size + 1, oF tB (.slice B nb dB)), (w.heap.size, oF tA (.slice A na dA))] _) := Lib.hid ((((MB.out.set hAp.out (by omega) 0 (.int .i64 0)).set hAp.out (by omega) 1 (.int .i64 0)).set hAp.out (by omega) 2 (.int .i64 0)).set hAp.out (by omega) 3 (.slice none 0 0))
            replace MB := MF
            clear MF
            go_wp2
            obtain ⟨d0, d1, d2, d3, _⟩ := cellsF MB.out.head
            refine bodyPost_ret (v := .tuple #[.agg #[.int .i64 0, .int .i64 0, .int .i64 0, .slice none 0 0], .int .i64 21]) ?_ rfl ?_
            · simp [results, Try.results75, go_sem, d0, d1, d2, d3]
            · rw [hv.out]
              exact ⟨none, 0, rfl, Nat.le_refl _, by decide, Rd.nil, fun h => absurd h (by simp), MB.out.below⟩
          · have du : decide (p ≥ (n : Int)) = false := by simpa using l1
            have hR := Lib.hid (hin.out (fun _ => ⟨by omega, by omega⟩))
            clear l0 l1
            obtain ⟨d0, d1, d2, _⟩ := row3 MB.out.tail.head
            go_wp2_with fail
            refine (refCanon_any a b c _).mono ?_
            rintro e wc ⟨rfl, hb⟩
            have FT2 : Hid (lA.length ≤ c5 ∧ c5 ≤ maxLen ∧ Rd encI w.heap.size wc A5 lA ∧ (0 < lA.length → Fr wc A5 lA.length)) := Lib.hid ⟨FT.out.1, FT.out.2.1, FT.out.2.2.1.below hb (Nat.le_refl _), fun hl => (FT.out.2.2.2 hl).below hb (fun g o e => (hA5.out g o e hl).2)⟩
            replace MB := Lib.hid (MB.out.next hb)
            clear hb FT
            (try clear d0 d1 d2)
            generalize canon ⟨a, b, c⟩ = t at *
            obtain ⟨e0, e1', e2', e3, f0, f1, f2, f3⟩ := cellsF MB.out.head
            have MC : Mem w [(w.heap.size + 1 + 1 + 1, oF t (.slice A5 lA.length c5)), (w.heap.size + 1 + 1, o3 a b c 50), (w.heap.size + 1, oF tB (.slice B nb dB)), (w.heap.size, oF tA (.slice A na dA))] _ := (((MB.out.set hAp.out (by omega) 0 (.int .i64 t.a)).set hAp.out (by omega) 1 (.int .i64 t.b)).set hAp.out (by omega) 2 (.int .i64 t.c)).set hAp.out (by omega) 3 (.slice A5 lA.length c5)
            have fin := told_set4' (t := t) (er := 0) (w.heap.size + 1 + 1 + 1) A5 c5 FT2.out (fun g o e hl => (hA5.out g o e hl).1) MC.below
            replace fin := Lib.hid fin
            replace MB := Lib.hid MC
            clear MC FT2 hA5
            go_wp2
            obtain ⟨d0, d1, d2, d3, _⟩ := cellsF MB.out.head
            refine bodyPost_ret (v := .tuple #[.agg #[.int .i64 t.a, .int .i64 t.b, .int .i64 t.c, .slice A5 lA.length c5], .int .i64 0]) ?_ rfl ?_
            · simp [results, Try.results75, go_sem, d0, d1, d2, d3]
            · rw [hR.out]
              exact fin.out
      · rw [decide_eq_false pA] at kA
        by_cases pB : p ∈ bv
        · rw [decide_eq_true pB] at kB
          go_wp2_with fail
          refine kA.out.mono ?_
          rintro e wy ⟨rfl, rfl⟩
          go_wp2_with fail
          refine kB.out.mono ?_
          rintro e wy ⟨rfl, rfl⟩
          have hpS : Hid (p ∈ S) := Lib.hid (hmemS.out (.inr pB))
          by_cases l0 : p < 0
          · have dl : decide (p < 0) = true := by simpa using l0
            have hv := Lib.hid (hout.out hpS.out (fun h => by omega))
            clear l0
            obtain ⟨g0, g1, g2, g3, f0, f1, f2, f3⟩ := cellsF MB.out.head
            have MF : Hid (Mem w [(w.heap.size + 1 + 1 + 1, oF ⟨0, 0, 0⟩ (.slice none 0 0)), (w.heap.size + 1 + 1, o3 a b c 50), (w.heap.size + 1, oF tB (.slice B nb dB)), (w.heap.size, oF tA (.slice A na dA))] _) := Lib.hid ((((MB.out.set hAp.out (by omega) 0 (.int .i64 0)).set hAp.out (by omega) 1 (.int .i64 0)).set hAp.out (by omega) 2 (.int .i64 0)).set hAp.out (by omega) 3 (.slice none 0 0))
            replace MB := MF
            clear MF
            go_wp2
            obtain ⟨d0, d1, d2, d3, _⟩ := cellsF MB.out.head
            refine bodyPost_ret (v := .tuple #[.agg #[.int .i64 0, .int .i64 0, .int .i64 0, .slice none 0 0], .int .i64 21]) ?_ rfl ?_
            · simp [results, Try.results75, go_sem, d0, d1, d2, d3]
            · rw [hv.out]
              exact ⟨none, 0, rfl, Nat.le_refl _, by decide, Rd.nil, fun h => absurd h (by simp), MB.out.below⟩
          · have dl : decide (p < 0) = false := by simpa using l0
            by_cases l1 : p ≥ (n : Int)
            · have du : decide (p ≥ (n : Int)) = true := by simpa using l1
              have hv := Lib.hid (hout.out hpS.out (fun h => by omega))
              clear l0 l1
              obtain ⟨g0, g1, g2, g3, f0, f1, f2, f3⟩ := cellsF MB.out.head
              have MF : Hid (Mem w [(w.heap.size + 1 + 1 + 1, oF ⟨0, 0, 0⟩ (.slice none 0 0)), (w.heap.size + 1 + 1, o3 a b c 50), (w.heap.size + 1, oF tB (.slice B nb dB)), (w.heap.size, oF tA (.slice A na dA))] _) := Lib.hid ((((MB.out.set hAp.out (by omega) 0 (.int .i64 0)).set hAp.out (by omega) 1 (.int .i64 0)).set hAp.out (by omega) 2 (.int .i64 0)).set hAp.out (by omega) 3 (.slice none 0 0))
              replace MB := MF
              clear MF
              go_wp2
              obtain ⟨d0, d1, d2, d3, _⟩ := cellsF MB.out.head
              refine bodyPost_ret (v := .tuple #[.agg #[.int .i64 0, .int .i64 0, .int .i64 0, .slice none 0 0], .int .i64 21]) ?_ rfl ?_
              · simp [results, Try.results75, go_sem, d0, d1, d2, d3]
              · rw [hv.out]
                exact ⟨none, 0, rfl, Nat.le_refl _, by decide, Rd.nil, fun h => absurd h (by simp), MB.out.below⟩
            · have du : decide (p ≥ (n : Int)) = false := by simpa using l1
              have hR := Lib.hid (hin.out (fun _ => ⟨by omega, by omega⟩))
              clear l0 l1
              obtain ⟨d0, d1, d2, _⟩ := row3 MB.out.tail.head
              go_wp2_with fail
              refine (refCanon_any a b c _).mono ?_
              rintro e wc ⟨rfl, hb⟩
              have FT2 : Hid (lA.length ≤ c5 ∧ c5 ≤ maxLen ∧ Rd encI w.heap.size wc A5 lA ∧ (0 < lA.length → Fr wc A5 lA.length)) := Lib.hid ⟨FT.out.1, FT.out.2.1, FT.out.2.2.1.below hb (Nat.le_refl _), fun hl => (FT.out.2.2.2 hl).below hb (fun g o e => (hA5.out g o e hl).2)⟩
              replace MB := Lib.hid (MB.out.next hb)
              clear hb FT
              (try clear d0 d1 d2)
              generalize canon ⟨a, b, c⟩ = t at *
              obtain ⟨e0, e1', e2', e3, f0, f1, f2, f3⟩ := cellsF MB.out.head
              have MC : Mem w [(w.heap.size + 1 + 1 + 1, oF t (.slice A5 lA.length c5)), (w.heap.size + 1 + 1, o3 a b c 50), (w.heap.size + 1, oF tB (.slice B nb dB)), (w.heap.size, oF tA (.slice A na dA))] _ := (((MB.out.set hAp.out (by omega) 0 (.int .i64 t.a)).set hAp.out (by omega) 1 (.int .i64 t.b)).set hAp.out (by omega) 2 (.int .i64 t.c)).set hAp.out (by omega) 3 (.slice A5 lA.length c5)
              have fin := told_set4' (t := t) (er := 0) (w.heap.size + 1 + 1 + 1) A5 c5 FT2.out (fun g o e hl => (hA5.out g o e hl).1) MC.below
              replace fin := Lib.hid fin
              replace MB := Lib.hid MC
              clear MC FT2 hA5
              go_wp2
              obtain ⟨d0, d1, d2, d3, _⟩ := cellsF MB.out.head
              refine bodyPost_ret (v := .tuple #[.agg #[.int .i64 t.a, .int .i64 t.b, .int .i64 t.c, .slice A5 lA.length c5], .int .i64 0]) ?_ rfl ?_
              · simp [results, Try.results75, go_sem, d0, d1, d2, d3]
              · rw [hR.out]
                exact fin.out
        · rw [decide_eq_false pB] at kB
          have hR := Lib.hid (hin.out (fun h => absurd h (hnot.out pA pB)))
          go_wp2_with fail
          refine kA.out.mono ?_
          rintro e wy ⟨rfl, rfl⟩
          go_wp2_with fail
          refine kB.out.mono ?_
          rintro e wy ⟨rfl, rfl⟩
          obtain ⟨d0, d1, d2, _⟩ := row3 MB.out.tail.head
          go_wp2_with fail
          refine (refCanon_any a b c _).mono ?_
          rintro e wc ⟨rfl, hb⟩
          have FT2 : Hid (lA.length ≤ c5 ∧ c5 ≤ maxLen ∧ Rd encI w.heap.size wc A5 lA ∧ (0 < lA.length → Fr wc A5 lA.length)) := Lib.hid ⟨FT.out.1, FT.out.2.1, FT.out.2.2.1.below hb (Nat.le_refl _), fun hl => (FT.out.2.2.2 hl).below hb (fun g o e => (hA5.out g o e hl).2)⟩
          replace MB := Lib.hid (MB.out.next hb)
          clear hb FT
          (try clear d0 d1 d2)
          generalize canon ⟨a, b, c⟩ = t at *
          obtain ⟨e0, e1', e2', e3, f0, f1, f2, f3⟩ := cellsF MB.out.head
          have MC : Mem w [(w.heap.size + 1 + 1 + 1, oF t (.slice A5 lA.length c5)), (w.heap.size + 1 + 1, o3 a b c 50), (w.heap.size + 1, oF tB (.slice B nb dB)), (w.heap.size, oF tA (.slice A na dA))] _ := (((MB.out.set hAp.out (by omega) 0 (.int .i64 t.a)).set hAp.out (by omega) 1 (.int .i64 t.b)).set hAp.out (by omega) 2 (.int .i64 t.c)).set hAp.out (by omega) 3 (.slice A5 lA.length c5)
          have fin := told_set4' (t := t) (er := 0) (w.heap.size + 1 + 1 + 1) A5 c5 FT2.out (fun g o e hl => (hA5.out g o e hl).1) MC.below
          replace fin := Lib.hid fin
          replace MB := Lib.hid MC
          clear MC FT2 hA5
          go_wp2
          obtain ⟨d0, d1, d2, d3, _⟩ := cellsF MB.out.head
          refine bodyPost_ret (v := .tuple #[.agg #[.int .i64 t.a, .int .i64 t.b, .int .i64 t.c, .slice A5 lA.length c5], .int .i64 0]) ?_ rfl ?_
          · simp [results, Try.results75, go_sem, d0, d1, d2, d3]
          · rw [hR.out]
            exact fin.out
    · obtain ⟨y, hy, hb⟩ : ∃ y, y ∈ (sset (av ++ bv)).filter (fun v => v != p) ∧ askB n a b c y = false := Classical.byContradiction fun h => hG (fun y hy => by
        cases e : askB n a b c y
        · exact absurd ⟨y, hy, e⟩ h
        · rfl)
      have ham := amR_bad hk hy hb
      have hv : Hid (joinR xs n av bv a b c p = (⟨0, 0, 0⟩, [], 21)) := Lib.hid (by
        have hm := List.mem_filter.1 hy
        refine joinR_bad hk hm.1 ?_
        have hne : y ≠ p := by simpa using hm.2
        unfold okJ
        rw [decide_eq_false hne]
        unfold askB at hb
        simpa using hb)
      rw [ham] at kam
      clear hk hG ham hsl hgl hA hB hla hlb hy hb
      generalize hSS : sset (av ++ bv) = S at *
      clear hSS
      generalize S.filter (fun v => v != p) = K at *
      generalize hlA : ([] : List Int) = lA at kam
      go_enter Try.func75, Try.ntmps75
      go_wp2_with fail
      refine kc.out.mono ?_
      rintro e w1 ⟨rfl, hb⟩
      replace MB := Lib.hid (MB.out.next hb)
      clear hb kc d0 d1 d2
      go_wp2_with fail
      refine wp_region_held_drew (S := fun w' => Mem w [(w.heap.size + 1 + 1 + 1, oF ⟨0, 0, 0⟩ (.slice none 0 0)), (w.heap.size + 1 + 1, o3 a b c 50), (w.heap.size + 1, oF tB (.slice B nb dB)), (w.heap.size, oF tA (.slice A na dA))] w') (by kernel_rfl) MB.out.drew (fun hHeld => ?_)
      replace MB := Lib.hid MB.out.drew
      generalize World.drew w1 = wd at *
      refine wpAnyH_take (i := 0) (oi := ?o33) (v := ?v33) ?hi33 (by kernel_rfl) (by kernel_rfl) (by kernel_rfl) ?hQ33 ?hy33 (by assumption) ?rest33
      case hi33 => (simp only [List.getElem?_toArray, List.getElem?_cons_succ, List.getElem?_cons_zero]; rfl)
      case hQ33 => exact fun _ _ _ h => h
      case hy33 => (refine Or.inl ⟨by rfl, ?_⟩; intro w' hSw; obtain ⟨k0, k1, k2, _⟩ := row3 hSw.tail.head; obtain ⟨_, _, _, x3, _⟩ := cellsF hSw.tail.tail.tail.head; obtain ⟨_, _, _, y3, _⟩ := cellsF hSw.tail.tail.head; go_simp; (try with_reducible rfl))
      try simp only [Act.put, List.setIfInBounds_toArray, List.set_cons_zero, List.set_cons_succ]
      refine wpAnyH_take (i := 1) (oi := ?o34) (v := ?v34) ?hi34 (by kernel_rfl) (by kernel_rfl) (by kernel_rfl) ?hQ34 ?hy34 (by assumption) ?rest34
      case hi34 => (simp only [List.getElem?_toArray, List.getElem?_cons_succ, List.getElem?_cons_zero]; rfl)
      case hQ34 => exact fun _ _ _ h => h
      case hy34 => (refine Or.inl ⟨by rfl, ?_⟩; intro w' hSw; obtain ⟨k0, k1, k2, _⟩ := row3 hSw.tail.head; obtain ⟨_, _, _, x3, _⟩ := cellsF hSw.tail.tail.tail.head; obtain ⟨_, _, _, y3, _⟩ := cellsF hSw.tail.tail.head; go_simp; (try with_reducible rfl))
      try simp only [Act.put, List.setIfInBounds_toArray, List.set_cons_zero, List.set_cons_succ]
      refine wpAnyH_take (i := 2) (oi := ?o35) (v := ?v35) ?hi35 (by kernel_rfl) (by kernel_rfl) (by kernel_rfl) ?hQ35 ?hy35 (by assumption) ?rest35
      case hi35 => (simp only [List.getElem?_toArray, List.getElem?_cons_succ, List.getElem?_cons_zero]; rfl)
      case hQ35 => exact fun _ _ _ h => h
      case hy35 => (refine Or.inl ⟨by rfl, ?_⟩; intro w' hSw; obtain ⟨k0, k1, k2, _⟩ := row3 hSw.tail.head; obtain ⟨_, _, _, x3, _⟩ := cellsF hSw.tail.tail.tail.head; obtain ⟨_, _, _, y3, _⟩ := cellsF hSw.tail.tail.head; go_simp; (try with_reducible rfl))
      try simp only [Act.put, List.setIfInBounds_toArray, List.set_cons_zero, List.set_cons_succ]
      refine wpAnyH_take (i := 3) (oi := ?o36) (v := ?v36) ?hi36 (by kernel_rfl) (by kernel_rfl) (by kernel_rfl) ?hQ36 ?hy36 (by assumption) ?rest36
      case hi36 => (simp only [List.getElem?_toArray, List.getElem?_cons_succ, List.getElem?_cons_zero]; rfl)
      case hQ36 => exact fun _ _ _ h => h
      case hy36 => (refine Or.inl ⟨by rfl, ?_⟩; intro w' hSw; obtain ⟨k0, k1, k2, _⟩ := row3 hSw.tail.head; obtain ⟨_, _, _, x3, _⟩ := cellsF hSw.tail.tail.tail.head; obtain ⟨_, _, _, y3, _⟩ := cellsF hSw.tail.tail.head; go_simp; (try with_reducible rfl))
      try simp only [Act.put, List.setIfInBounds_toArray, List.set_cons_zero, List.set_cons_succ]
      refine wpAnyH_take (i := 4) (oi := ?o37) (v := ?v37) ?hi37 (by kernel_rfl) (by kernel_rfl) (by kernel_rfl) ?hQ37 ?hy37 (by assumption) ?rest37
      case hi37 => (simp only [List.getElem?_toArray, List.getElem?_cons_succ, List.getElem?_cons_zero]; rfl)
      case hQ37 => exact fun _ _ _ h => h
      case hy37 => (refine Or.inl ⟨by rfl, ?_⟩; intro w' hSw; obtain ⟨k0, k1, k2, _⟩ := row3 hSw.tail.head; obtain ⟨_, _, _, x3, _⟩ := cellsF hSw.tail.tail.tail.head; obtain ⟨_, _, _, y3, _⟩ := cellsF hSw.tail.tail.head; go_simp; (try with_reducible rfl))
      try simp only [Act.put, List.setIfInBounds_toArray, List.set_cons_zero, List.set_cons_succ]
      refine wpAnyH_take (i := 5) (oi := ?o38) (v := ?v38) ?hi38 (by kernel_rfl) (by kernel_rfl) (by kernel_rfl) ?hQ38 ?hy38 (by assumption) ?rest38
      case hi38 => (simp only [List.getElem?_toArray, List.getElem?_cons_succ, List.getElem?_cons_zero]; rfl)
      case hQ38 => exact fun _ _ _ h => h
      case hy38 => (refine Or.inl ⟨by rfl, ?_⟩; intro w' hSw; obtain ⟨k0, k1, k2, _⟩ := row3 hSw.tail.head; obtain ⟨_, _, _, x3, _⟩ := cellsF hSw.tail.tail.tail.head; obtain ⟨_, _, _, y3, _⟩ := cellsF hSw.tail.tail.head; go_simp; (try with_reducible rfl))
      try simp only [Act.put, List.setIfInBounds_toArray, List.set_cons_zero, List.set_cons_succ]
      refine wpAnyH_take (i := 7) (oi := ?o39) (v := ?v39) ?hi39 (by kernel_rfl) (by kernel_rfl) (by kernel_rfl) ?hQ39 ?hy39 (by assumption) ?rest39
      case hi39 => (simp only [List.getElem?_toArray, List.getElem?_cons_succ, List.getElem?_cons_zero]; rfl)
      case hQ39 => exact fun _ _ _ h => h
      case hy39 => (refine Or.inl ⟨by rfl, ?_⟩; intro w' hSw; obtain ⟨k0, k1, k2, _⟩ := row3 hSw.tail.head; obtain ⟨_, _, _, x3, _⟩ := cellsF hSw.tail.tail.tail.head; obtain ⟨_, _, _, y3, _⟩ := cellsF hSw.tail.tail.head; go_simp; (try with_reducible rfl))
      try simp only [Act.put, List.setIfInBounds_toArray, List.set_cons_zero, List.set_cons_succ]
      refine wpAnyH_ready (rs := [6, 8]) (by kernel_rfl) (by simp) ?_
      refine AllReadyH.cons (o := ?o63) ?hi63 (fun K hK => ?rest63) ?more63
      case hi63 => (simp only [List.getElem?_toArray, List.getElem?_cons_succ, List.getElem?_cons_zero]; rfl)
      case rest63 =>
        go_simp
        go_at_call 31
        refine (km.out _ MB.out.below).mono ?_
        rintro e wm ⟨A3, c3, rfl, h1, h2, h3, h4, h5⟩
        have RS := Lib.hid (h3.low (Nat.zero_le _))
        replace MB := Lib.hid (MB.out.next h5)
        clear h1 h2 h3 h4 h5
        refine hK.out _ _ MB.out (fun hHeld => ?_)
        clear hK K
        try simp only [Act.put, List.setIfInBounds_toArray, List.set_cons_zero, List.set_cons_succ]
        refine wpAnyH_ready (rs := [8]) (by kernel_rfl) (by simp) ?_
        refine AllReadyH.cons (o := ?o50) ?hi50 (fun K hK => ?rest50) AllReadyH.nil
        case hi50 => (simp only [List.getElem?_toArray, List.getElem?_cons_succ, List.getElem?_cons_zero]; rfl)
        go_simp
        have RP : Hid (Rd encI 0 (World.alloc wm (.cells #[.int .i64 p] 3 (0, 0))) (some ⟨(World.heap wm).size, 0, none⟩) [p]) := Lib.hid ((Rd.lit (enc := encI) [p]).low (Nat.zero_le _))
        have bA : Below (World.heap wm).size wm (World.alloc wm (.cells #[.int .i64 p] 3 (0, 0))) := (Below.refl _ _).alloc (Nat.le_refl _) _
        replace RS := Lib.hid (RS.out.below bA (Nat.le_refl _))
        replace MB := Lib.hid (MB.out.add (.cells #[.int .i64 p] 3 (0, 0))).tail
        clear bA
        refine hK.out _ _ MB.out (fun hHeld => ?_)
        clear hK K
        try simp only [Act.put, List.setIfInBounds_toArray, List.set_cons_zero, List.set_cons_succ]
        generalize hAA : World.heap wm = hp at *
        generalize hp.size = PB at *
        generalize World.alloc wm (.cells #[.int .i64 p] 3 (0, 0)) = wa at *
        clear hAA
        refine wpAnyH_ready (rs := [9]) (by kernel_rfl) (by simp) ?_
        refine AllReadyH.cons (o := ?o48) ?hi48 (fun K hK => ?rest48) AllReadyH.nil
        case hi48 => (simp only [List.getElem?_toArray, List.getElem?_cons_succ, List.getElem?_cons_zero]; rfl)
        go_simp
        go_at_call 35
        refine (kless.out _ _ _ _ RS.out RP.out).mono ?_
        rintro e wl ⟨A4, c4, rfl, h1, h2, h3, h4, h5⟩
        have RG := Lib.hid (h3.low (Nat.zero_le _))
        replace MB := Lib.hid (MB.out.next h5)
        clear h1 h2 h3 h4 h5
        refine hK.out _ _ MB.out (fun hHeld => ?_)
        clear hK K
        try simp only [Act.put, List.setIfInBounds_toArray, List.set_cons_zero, List.set_cons_succ]
        refine wpAnyH_ready (rs := [10]) (by kernel_rfl) (by simp) ?_
        refine AllReadyH.cons (o := ?o41) ?hi41 (fun K hK => ?rest41) AllReadyH.nil
        case hi41 => (simp only [List.getElem?_toArray, List.getElem?_cons_succ, List.getElem?_cons_zero]; rfl)
        go_simp
        go_at_call 68
        refine (kam.out _ _ _ MB.out.below RG.out).mono ?_
        rintro e wz ⟨A5, c5, rfl, h1, h2, h3, h4, h5⟩
        have FT := Lib.hid (And.intro h1 (And.intro h2 (And.intro (h3.low MB.out.above) (fun (_ : 0 < lA.length) => h4))))
        have hbig := MB.out.lt (p := (w.heap.size + 1 + 1 + 1, oF ⟨0, 0, 0⟩ (.slice none 0 0))) (by simp)
        have hA5 : Hid (∀ g o, A5 = some ⟨g, o, none⟩ → 0 < lA.length → g ≠ w.heap.size + 1 + 1 + 1 ∧ g < wz.heap.size) := Lib.hid (fun g o e hl => by
          obtain ⟨b', off', e', q1, q2, _⟩ := h3 hl
          rw [e] at e'
          injection e' with e'
          injection e' with e1 _
          subst e1
          simp only at hbig
          exact ⟨by omega, q2⟩)
        replace MB := Lib.hid (MB.out.next h5)
        clear h1 h2 h3 h4 h5 RS RP RG hbig
        refine hK.out _ _ MB.out (fun hHeld => ?_)
        clear hK K
        try simp only [Act.put, List.setIfInBounds_toArray, List.set_cons_zero, List.set_cons_succ]
        refine wpAnyH_take (i := 11) (oi := ?o42) (v := ?v42) ?hi42 (by kernel_rfl) (by kernel_rfl) (by kernel_rfl) ?hQ42 ?hy42 (by assumption) ?rest42
        case hi42 => (simp only [List.getElem?_toArray, List.getElem?_cons_succ, List.getElem?_cons_zero]; rfl)
        case hQ42 => exact fun _ _ _ h => h
        case hy42 => (refine Or.inl ⟨by rfl, ?_⟩; intro w' hSw; go_simp; (try with_reducible rfl))
        try simp only [Act.put, List.setIfInBounds_toArray, List.set_cons_zero, List.set_cons_succ]
        refine wpAnyH_take (i := 12) (oi := ?o43) (v := ?v43) ?hi43 (by kernel_rfl) (by kernel_rfl) (by kernel_rfl) ?hQ43 ?hy43 (by assumption) ?rest43
        case hi43 => (simp only [List.getElem?_toArray, List.getElem?_cons_succ, List.getElem?_cons_zero]; rfl)
        case hQ43 => exact fun _ _ _ h => h
        case hy43 => (refine Or.inl ⟨by rfl, ?_⟩; intro w' hSw; go_simp; (try with_reducible rfl))
        try simp only [Act.put, List.setIfInBounds_toArray, List.set_cons_zero, List.set_cons_succ]
        refine wpAnyH_take (i := 13) (oi := ?o44) (v := ?v44) ?hi44 (by kernel_rfl) (by kernel_rfl) (by kernel_rfl) ?hQ44 ?hy44 (by assumption) ?rest44
        case hi44 => (simp only [List.getElem?_toArray, List.getElem?_cons_succ, List.getElem?_cons_zero]; rfl)
        case hQ44 => exact fun _ _ _ h => h
        case hy44 => (refine Or.inl ⟨by rfl, ?_⟩; intro w' hSw; go_simp; (try with_reducible rfl))
        try simp only [Act.put, List.setIfInBounds_toArray, List.set_cons_zero, List.set_cons_succ]
        refine wpAnyH_take (i := 14) (oi := ?o45) (v := ?v45) ?hi45 (by kernel_rfl) (by kernel_rfl) (by kernel_rfl) ?hQ45 ?hy45 (by assumption) ?rest45
        case hi45 => (simp only [List.getElem?_toArray, List.getElem?_cons_succ, List.getElem?_cons_zero]; rfl)
        case hQ45 => exact fun _ _ _ h => h
        case hy45 => (refine Or.inl ⟨by rfl, ?_⟩; intro w' hSw; go_simp; (try with_reducible rfl))
        try simp only [Act.put, List.setIfInBounds_toArray, List.set_cons_zero, List.set_cons_succ]
        refine wpAnyH_take (i := 15) (oi := ?o46) (v := ?v46) ?hi46 (by kernel_rfl) (by kernel_rfl) (by kernel_rfl) ?hQ46 ?hy46 (by assumption) ?rest46
        case hi46 => (simp only [List.getElem?_toArray, List.getElem?_cons_succ, List.getElem?_cons_zero]; rfl)
        case hQ46 => exact fun _ _ _ h => h
        case hy46 => (refine Or.inl ⟨by rfl, ?_⟩; intro w' hSw; go_simp; (try with_reducible rfl))
        try simp only [Act.put, List.setIfInBounds_toArray, List.set_cons_zero, List.set_cons_succ]
        refine wpAnyH_done (by kernel_rfl) ?_ _
        have e3 : ((21 : Int) != 0) = true := by decide
        obtain ⟨g0, g1, g2, g3, f0, f1, f2, f3⟩ := cellsF MB.out.head
        have MF : Hid (Mem w [(w.heap.size + 1 + 1 + 1, oF ⟨0, 0, 0⟩ (.slice none 0 0)), (w.heap.size + 1 + 1, o3 a b c 50), (w.heap.size + 1, oF tB (.slice B nb dB)), (w.heap.size, oF tA (.slice A na dA))] _) := Lib.hid ((((MB.out.set hAp.out (by omega) 0 (.int .i64 0)).set hAp.out (by omega) 1 (.int .i64 0)).set hAp.out (by omega) 2 (.int .i64 0)).set hAp.out (by omega) 3 (.slice none 0 0))
        replace MB := MF
        clear MF
        go_wp2
        obtain ⟨d0, d1, d2, d3, _⟩ := cellsF MB.out.head
        refine bodyPost_ret (v := .tuple #[.agg #[.int .i64 0, .int .i64 0, .int .i64 0, .slice none 0 0], .int .i64 21]) ?_ rfl ?_
        · simp [results, Try.results75, go_sem, d0, d1, d2, d3]
        · rw [hv.out]
          exact ⟨none, 0, rfl, Nat.le_refl _, by decide, Rd.nil, fun h => absurd h (by simp), MB.out.below⟩
      refine AllReadyH.cons (o := ?o64) ?hi64 (fun K hK => ?rest64) AllReadyH.nil
      case hi64 => (simp only [List.getElem?_toArray, List.getElem?_cons_succ, List.getElem?_cons_zero]; rfl)
      go_simp
      have RP : Hid (Rd encI 0 (World.alloc wd (.cells #[.int .i64 p] 3 (0, 0))) (some ⟨(World.heap wd).size, 0, none⟩) [p]) := Lib.hid ((Rd.lit (enc := encI) [p]).low (Nat.zero_le _))
      have bA : Below (World.heap wd).size wd (World.alloc wd (.cells #[.int .i64 p] 3 (0, 0))) := (Below.refl _ _).alloc (Nat.le_refl _) _
      replace MB := Lib.hid (MB.out.add (.cells #[.int .i64 p] 3 (0, 0))).tail
      clear bA
      refine hK.out _ _ MB.out (fun hHeld => ?_)
      clear hK K
      try simp only [Act.put, List.setIfInBounds_toArray, List.set_cons_zero, List.set_cons_succ]
      generalize hAA : World.heap wd = hp at *
      generalize hp.size = PB at *
      generalize World.alloc wd (.cells #[.int .i64 p] 3 (0, 0)) = wa at *
      clear hAA
      refine wpAnyH_ready (rs := [6]) (by kernel_rfl) (by simp) ?_
      refine AllReadyH.cons (o := ?o61) ?hi61 (fun K hK => ?rest61) AllReadyH.nil
      case hi61 => (simp only [List.getElem?_toArray, List.getElem?_cons_succ, List.getElem?_cons_zero]; rfl)
      go_simp
      go_at_call 31
      refine (km.out _ MB.out.below).mono ?_
      rintro e wm ⟨A3, c3, rfl, h1, h2, h3, h4, h5⟩
      have RS := Lib.hid (h3.low (Nat.zero_le _))
      replace RP := Lib.hid (RP.out.below h5 (Nat.le_refl _))
      replace MB := Lib.hid (MB.out.next h5)
      clear h1 h2 h3 h4 h5
      refine hK.out _ _ MB.out (fun hHeld => ?_)
      clear hK K
      try simp only [Act.put, List.setIfInBounds_toArray, List.set_cons_zero, List.set_cons_succ]
      refine wpAnyH_ready (rs := [9]) (by kernel_rfl) (by simp) ?_
      refine AllReadyH.cons (o := ?o59) ?hi59 (fun K hK => ?rest59) AllReadyH.nil
      case hi59 => (simp only [List.getElem?_toArray, List.getElem?_cons_succ, List.getElem?_cons_zero]; rfl)
      go_simp
      go_at_call 35
      refine (kless.out _ _ _ _ RS.out RP.out).mono ?_
      rintro e wl ⟨A4, c4, rfl, h1, h2, h3, h4, h5⟩
      have RG := Lib.hid (h3.low (Nat.zero_le _))
      replace MB := Lib.hid (MB.out.next h5)
      clear h1 h2 h3 h4 h5
      refine hK.out _ _ MB.out (fun hHeld => ?_)
      clear hK K
      try simp only [Act.put, List.setIfInBounds_toArray, List.set_cons_zero, List.set_cons_succ]
      refine wpAnyH_ready (rs := [10]) (by kernel_rfl) (by simp) ?_
      refine AllReadyH.cons (o := ?o52) ?hi52 (fun K hK => ?rest52) AllReadyH.nil
      case hi52 => (simp only [List.getElem?_toArray, List.getElem?_cons_succ, List.getElem?_cons_zero]; rfl)
      go_simp
      go_at_call 68
      refine (kam.out _ _ _ MB.out.below RG.out).mono ?_
      rintro e wz ⟨A5, c5, rfl, h1, h2, h3, h4, h5⟩
      have FT := Lib.hid (And.intro h1 (And.intro h2 (And.intro (h3.low MB.out.above) (fun (_ : 0 < lA.length) => h4))))
      have hbig := MB.out.lt (p := (w.heap.size + 1 + 1 + 1, oF ⟨0, 0, 0⟩ (.slice none 0 0))) (by simp)
      have hA5 : Hid (∀ g o, A5 = some ⟨g, o, none⟩ → 0 < lA.length → g ≠ w.heap.size + 1 + 1 + 1 ∧ g < wz.heap.size) := Lib.hid (fun g o e hl => by
        obtain ⟨b', off', e', q1, q2, _⟩ := h3 hl
        rw [e] at e'
        injection e' with e'
        injection e' with e1 _
        subst e1
        simp only at hbig
        exact ⟨by omega, q2⟩)
      replace MB := Lib.hid (MB.out.next h5)
      clear h1 h2 h3 h4 h5 RS RP RG hbig
      refine hK.out _ _ MB.out (fun hHeld => ?_)
      clear hK K
      try simp only [Act.put, List.setIfInBounds_toArray, List.set_cons_zero, List.set_cons_succ]
      refine wpAnyH_take (i := 11) (oi := ?o53) (v := ?v53) ?hi53 (by kernel_rfl) (by kernel_rfl) (by kernel_rfl) ?hQ53 ?hy53 (by assumption) ?rest53
      case hi53 => (simp only [List.getElem?_toArray, List.getElem?_cons_succ, List.getElem?_cons_zero]; rfl)
      case hQ53 => exact fun _ _ _ h => h
      case hy53 => (refine Or.inl ⟨by rfl, ?_⟩; intro w' hSw; go_simp; (try with_reducible rfl))
      try simp only [Act.put, List.setIfInBounds_toArray, List.set_cons_zero, List.set_cons_succ]
      refine wpAnyH_take (i := 12) (oi := ?o54) (v := ?v54) ?hi54 (by kernel_rfl) (by kernel_rfl) (by kernel_rfl) ?hQ54 ?hy54 (by assumption) ?rest54
      case hi54 => (simp only [List.getElem?_toArray, List.getElem?_cons_succ, List.getElem?_cons_zero]; rfl)
      case hQ54 => exact fun _ _ _ h => h
      case hy54 => (refine Or.inl ⟨by rfl, ?_⟩; intro w' hSw; go_simp; (try with_reducible rfl))
      try simp only [Act.put, List.setIfInBounds_toArray, List.set_cons_zero, List.set_cons_succ]
      refine wpAnyH_take (i := 13) (oi := ?o55) (v := ?v55) ?hi55 (by kernel_rfl) (by kernel_rfl) (by kernel_rfl) ?hQ55 ?hy55 (by assumption) ?rest55
      case hi55 => (simp only [List.getElem?_toArray, List.getElem?_cons_succ, List.getElem?_cons_zero]; rfl)
      case hQ55 => exact fun _ _ _ h => h
      case hy55 => (refine Or.inl ⟨by rfl, ?_⟩; intro w' hSw; go_simp; (try with_reducible rfl))
      try simp only [Act.put, List.setIfInBounds_toArray, List.set_cons_zero, List.set_cons_succ]
      refine wpAnyH_take (i := 14) (oi := ?o56) (v := ?v56) ?hi56 (by kernel_rfl) (by kernel_rfl) (by kernel_rfl) ?hQ56 ?hy56 (by assumption) ?rest56
      case hi56 => (simp only [List.getElem?_toArray, List.getElem?_cons_succ, List.getElem?_cons_zero]; rfl)
      case hQ56 => exact fun _ _ _ h => h
      case hy56 => (refine Or.inl ⟨by rfl, ?_⟩; intro w' hSw; go_simp; (try with_reducible rfl))
      try simp only [Act.put, List.setIfInBounds_toArray, List.set_cons_zero, List.set_cons_succ]
      refine wpAnyH_take (i := 15) (oi := ?o57) (v := ?v57) ?hi57 (by kernel_rfl) (by kernel_rfl) (by kernel_rfl) ?hQ57 ?hy57 (by assumption) ?rest57
      case hi57 => (simp only [List.getElem?_toArray, List.getElem?_cons_succ, List.getElem?_cons_zero]; rfl)
      case hQ57 => exact fun _ _ _ h => h
      case hy57 => (refine Or.inl ⟨by rfl, ?_⟩; intro w' hSw; go_simp; (try with_reducible rfl))
      try simp only [Act.put, List.setIfInBounds_toArray, List.set_cons_zero, List.set_cons_succ]
      refine wpAnyH_done (by kernel_rfl) ?_ _
      have e3 : ((21 : Int) != 0) = true := by decide
      obtain ⟨g0, g1, g2, g3, f0, f1, f2, f3⟩ := cellsF MB.out.head
      have MF : Hid (Mem w [(w.heap.size + 1 + 1 + 1, oF ⟨0, 0, 0⟩ (.slice none 0 0)), (w.heap.size + 1 + 1, o3 a b c 50), (w.heap.size + 1, oF tB (.slice B nb dB)), (w.heap.size, oF tA (.slice A na dA))] _) := Lib.hid ((((MB.out.set hAp.out (by omega) 0 (.int .i64 0)).set hAp.out (by omega) 1 (.int .i64 0)).set hAp.out (by omega) 2 (.int .i64 0)).set hAp.out (by omega) 3 (.slice none 0 0))
      replace MB := MF
      clear MF
      go_wp2
      obtain ⟨d0, d1, d2, d3, _⟩ := cellsF MB.out.head
      refine bodyPost_ret (v := .tuple #[.agg #[.int .i64 0, .int .i64 0, .int .i64 0, .slice none 0 0], .int .i64 21]) ?_ rfl ?_
      · simp [results, Try.results75, go_sem, d0, d1, d2, d3]
      · rw [hv.out]
        exact ⟨none, 0, rfl, Nat.le_refl _, by decide, Rd.nil, fun h => absurd h (by simp), MB.out.below⟩
  · have hv := Lib.hid (joinR_err (av := av) (bv := bv) (p := p) hk)
    have e1 : (checkR xs n a b c != 0) = true := by simpa using hk
    generalize checkR xs n a b c = r at *
    clear hk
    go_enter Try.func75, Try.ntmps75
    go_wp2_with fail
    refine kc.out.mono ?_
    rintro e w1 ⟨rfl, hb⟩
    replace MB := Lib.hid (MB.out.next hb)
    clear hb kc d0 d1 d2
    obtain ⟨g0, g1, g2, g3, f0, f1, f2, f3⟩ := cellsF MB.out.head
    have MF : Hid (Mem w [(w.heap.size + 1 + 1 + 1, oF ⟨0, 0, 0⟩ (.slice none 0 0)), (w.heap.size + 1 + 1, o3 a b c 50), (w.heap.size + 1, oF tB (.slice B nb dB)), (w.heap.size, oF tA (.slice A na dA))] _) := Lib.hid ((((MB.out.set hAp.out (by omega) 0 (.int .i64 0)).set hAp.out (by omega) 1 (.int .i64 0)).set hAp.out (by omega) 2 (.int .i64 0)).set hAp.out (by omega) 3 (.slice none 0 0))
    replace MB := MF
    clear MF
    go_wp2
    obtain ⟨d0, d1, d2, d3, _⟩ := cellsF MB.out.head
    refine bodyPost_ret (v := .tuple #[.agg #[.int .i64 0, .int .i64 0, .int .i64 0, .slice none 0 0], .int .i64 r]) ?_ rfl ?_
    · simp [results, Try.results75, go_sem, d0, d1, d2, d3]
    · rw [hv.out]
      exact ⟨none, 0, rfl, Nat.le_refl _, by decide, Rd.nil, fun h => absurd h (by simp), MB.out.below⟩
end Go.Proofs.Ytojecaeblgghjaa
