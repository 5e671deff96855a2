/-
  FacetSorts: the walk. (Printed by mksorts.py.)
-/
import Derived.Test.YtojecaeblgghjaaAwake5
import Derived.Test.YtojecaeblgghjaaRefSort
set_option linter.unusedVariables false
set_option linter.unusedSimpArgs false
namespace Go.Proofs.Ytojecaeblgghjaa
open Go.RowKit Go.Sort LsP

/-- The law's own two triples. -/
structure Pair (w0 : World) (a1 b1 c1 a2 b2 c2 : Int) (w : World) : Prop where
  below : Below w0.heap.size w0 w
  s3 : w.heap[w0.heap.size]? = some (.cells #[.int .i64 a1, .int .i64 b1, .int .i64 c1] 50 (0, 0))
  t3 : w.heap[w0.heap.size + 1]? = some (.cells #[.int .i64 a2, .int .i64 b2, .int .i64 c2] 50 (0, 0))

theorem Pair.next {w0 w w' : World} {a1 b1 c1 a2 b2 c2 : Int} (k : Pair w0 a1 b1 c1 a2 b2 c2 w) (hb : Below w.heap.size w w') : Pair w0 a1 b1 c1 a2 b2 c2 w' :=
  ⟨below_up k.below hb, (hb.block _ (Array.getElem?_eq_some_iff.1 k.s3).1).trans k.s3, (hb.block _ (Array.getElem?_eq_some_iff.1 k.t3).1).trans k.t3⟩

theorem Pair.drew {w0 w : World} {a1 b1 c1 a2 b2 c2 : Int} (k : Pair w0 a1 b1 c1 a2 b2 c2 w) : Pair w0 a1 b1 c1 a2 b2 c2 w.drew := ⟨k.below.drew, k.s3, k.t3⟩

theorem Pair.cells {w w' : World} {a1 b1 c1 a2 b2 c2 : Int} (k : Pair w a1 b1 c1 a2 b2 c2 w') : w'.cell? ⟨w.heap.size, 0, none⟩ = some (.int .i64 a1) ∧ w'.cell? ⟨w.heap.size, 1, none⟩ = some (.int .i64 b1) ∧ w'.cell? ⟨w.heap.size, 2, none⟩ = some (.int .i64 c1) ∧ w'.cell? ⟨w.heap.size + 1, 0, none⟩ = some (.int .i64 a2) ∧ w'.cell? ⟨w.heap.size + 1, 1, none⟩ = some (.int .i64 b2) ∧ w'.cell? ⟨w.heap.size + 1, 2, none⟩ = some (.int .i64 c2) := by
  obtain ⟨x0, x1, x2, _⟩ := row3 k.s3
  obtain ⟨y0, y1, y2, _⟩ := row3 k.t3
  exact ⟨x0, x1, x2, y0, y1, y2⟩

theorem RdT.low0 {lo : Nat} {w : World} {A : Option Addr} {xs : List T3} (h : RdT lo w A xs) : RdT 0 w A xs := Rd.low h (Nat.zero_le _)

theorem sameTrisS (A B : Option Addr) (c d : Nat) (xs : List T3) (w : World) (ha : RdT 0 w A xs) (hb : RdT 0 w B xs) (hn : xs.length ≤ 1000000) :
    Calls Try.prog 52 #[.slice A xs.length c, .slice B xs.length d] w fun e w' => e = .returned (.bool true) ∧ Below w.heap.size w w' :=
  (sameTris_any A B c d xs w ha hb hn).mono fun e w' ⟨h, q, hq⟩ => ⟨h, by rw [hq]; exact below_drewN (Below.refl _ _) q⟩

theorem triLessS (a1 b1 c1 a2 b2 c2 : Int) (W : World) : Calls Try.prog 56 #[.agg #[.int .i64 a1, .int .i64 b1, .int .i64 c1], .agg #[.int .i64 a2, .int .i64 b2, .int .i64 c2]] W fun e w' => e = .returned (.bool (ltT ⟨a1, b1, c1⟩ ⟨a2, b2, c2⟩)) ∧ Below W.heap.size W w' := by
  have := triLess_any ⟨a1, b1, c1⟩ ⟨a2, b2, c2⟩ W
  rwa [ltT_cmp] at this

set_option maxHeartbeats 8000000 in
set_option maxRecDepth 100000 in
theorem sorts_walk (A : Option Addr) (c : Nat) (xs : List T3) (a1 b1 c1 a2 b2 c2 : Int) (w : World) (ha : RdT 0 w A xs) (hl : xs.length ≤ 9223372036854775807) :
    Calls Try.prog 13 #[.slice A xs.length c, .agg #[.int .i64 a1, .int .i64 b1, .int .i64 c1], .agg #[.int .i64 a2, .int .i64 b2, .int .i64 c2]] w fun e w' => e = .returned (.bool true) ∧ Below w.heap.size w w' := by
  have P0 : Pair w a1 b1 c1 a2 b2 c2 ((w.alloc (.cells #[.int .i64 a1, .int .i64 b1, .int .i64 c1] 50)).alloc (.cells #[.int .i64 a2, .int .i64 b2, .int .i64 c2] 50)) :=
    ⟨((Below.refl w.heap.size w).alloc (Nat.le_refl _) _).alloc (by simp) _, (Below.heap_alloc _ _ _ (by simp)).trans (heap_alloc_new _ _), new1 _ _ _⟩
  have HB := Lib.hid P0
  have HA := Lib.hid ha
  clear P0 ha
  by_cases h100 : xs.length > 100
  · have i1 : (xs.length : Int) > 100 := by omega
    clear h100
    go_enter Try.func13, Try.ntmps13
    go_wp2_with fail
    refine (awake5_any _).mono ?_
    rintro e wn ⟨rfl, hbn⟩
    replace HB := Lib.hid (HB.out.next hbn)
    clear hbn
    go_wp2
    go_ret
    exact ⟨rfl, HB.out.below⟩
  · have hn : xs.length ≤ 100000 := by omega
    have i1 : ¬ (xs.length : Int) > 100 := by omega
    have LS : Hid ((sset (xs.map canon)).length ≤ 1000000) := Lib.hid (by have := sset_len (xs.map canon); rw [List.length_map] at this; omega)
    have kl0 := fun W => triLessS a1 b1 c1 a2 b2 c2 W
    have kl20 := fun W => refTriLess_any a1 b1 c1 a2 b2 c2 W
    generalize ltT ⟨a1, b1, c1⟩ ⟨a2, b2, c2⟩ = l at *
    have kl := Lib.hid kl0
    have kl2 := Lib.hid kl20
    clear kl0 kl20 h100
    go_enter Try.func13, Try.ntmps13
    go_wp2_with fail
    replace HB := Lib.hid HB.out.drew
    obtain ⟨k0, k1, k2, k3, k4, k5⟩ := HB.out.cells
    refine wp_region_held_drew (S := fun w' => w'.cell? ⟨w.heap.size, 0, none⟩ = some (.int .i64 a1) ∧ w'.cell? ⟨w.heap.size, 1, none⟩ = some (.int .i64 b1) ∧ w'.cell? ⟨w.heap.size, 2, none⟩ = some (.int .i64 c1) ∧ w'.cell? ⟨w.heap.size + 1, 0, none⟩ = some (.int .i64 a2) ∧ w'.cell? ⟨w.heap.size + 1, 1, none⟩ = some (.int .i64 b2) ∧ w'.cell? ⟨w.heap.size + 1, 2, none⟩ = some (.int .i64 c2)) (by kernel_rfl) ⟨k0, k1, k2, k3, k4, k5⟩ (fun hHeld => ?_)
    refine wpAnyH_take (i := 0) (oi := ?o1) (v := ?v1) ?hi1 (by kernel_rfl) (by kernel_rfl) (by kernel_rfl) ?hQ1 ?hy1 (by assumption) ?rest1
    case hi1 => (simp only [List.getElem?_toArray, List.getElem?_cons_succ, List.getElem?_cons_zero]; rfl)
    case hQ1 => exact fun _ _ _ h => h
    case hy1 => (refine Or.inl ⟨by rfl, ?_⟩; intro w hSw; (try dsimp only at hSw); go_simp; (try with_reducible rfl))
    try simp only [Act.put, List.setIfInBounds_toArray, List.set_cons_zero, List.set_cons_succ]
    refine wpAnyH_take (i := 1) (oi := ?o2) (v := ?v2) ?hi2 (by kernel_rfl) (by kernel_rfl) (by kernel_rfl) ?hQ2 ?hy2 (by assumption) ?rest2
    case hi2 => (simp only [List.getElem?_toArray, List.getElem?_cons_succ, List.getElem?_cons_zero]; rfl)
    case hQ2 => exact fun _ _ _ h => h
    case hy2 => (refine Or.inl ⟨by rfl, ?_⟩; intro w hSw; (try dsimp only at hSw); go_simp; (try with_reducible rfl))
    try simp only [Act.put, List.setIfInBounds_toArray, List.set_cons_zero, List.set_cons_succ]
    refine wpAnyH_take (i := 3) (oi := ?o3) (v := ?v3) ?hi3 (by kernel_rfl) (by kernel_rfl) (by kernel_rfl) ?hQ3 ?hy3 (by assumption) ?rest3
    case hi3 => (simp only [List.getElem?_toArray, List.getElem?_cons_succ, List.getElem?_cons_zero]; rfl)
    case hQ3 => exact fun _ _ _ h => h
    case hy3 => (refine Or.inl ⟨by rfl, ?_⟩; intro w hSw; (try dsimp only at hSw); go_simp; (try with_reducible rfl))
    try simp only [Act.put, List.setIfInBounds_toArray, List.set_cons_zero, List.set_cons_succ]
    refine wpAnyH_take (i := 4) (oi := ?o4) (v := ?v4) ?hi4 (by kernel_rfl) (by kernel_rfl) (by kernel_rfl) ?hQ4 ?hy4 (by assumption) ?rest4
    case hi4 => (simp only [List.getElem?_toArray, List.getElem?_cons_succ, List.getElem?_cons_zero]; rfl)
    case hQ4 => exact fun _ _ _ h => h
    case hy4 => (refine Or.inl ⟨by rfl, ?_⟩; intro w hSw; (try dsimp only at hSw); go_simp; (try with_reducible rfl))
    try simp only [Act.put, List.setIfInBounds_toArray, List.set_cons_zero, List.set_cons_succ]
    refine wpAnyH_ready (rs := [2]) (by kernel_rfl) (by simp) ?_
    refine AllReadyH.cons (o := ?o5) ?hi5 (fun K hK => ?rest5) AllReadyH.nil
    case hi5 => (simp only [List.getElem?_toArray, List.getElem?_cons_succ, List.getElem?_cons_zero]; rfl)
    go_simp
    go_at_call 56
    refine (kl.out _).mono ?_
    rintro e wn ⟨rfl, hbn⟩
    replace HB := Lib.hid (HB.out.next hbn)
    clear k0 k1 k2 k3 k4 k5 hbn
    obtain ⟨k0, k1, k2, k3, k4, k5⟩ := HB.out.cells
    refine hK.out _ _ ⟨k0, k1, k2, k3, k4, k5⟩ (fun hHeld => ?_)
    clear hK K
    try simp only [Act.put, List.setIfInBounds_toArray, List.set_cons_zero, List.set_cons_succ]
    refine wpAnyH_ready (rs := [5]) (by kernel_rfl) (by simp) ?_
    refine AllReadyH.cons (o := ?o6) ?hi6 (fun K hK => ?rest6) AllReadyH.nil
    case hi6 => (simp only [List.getElem?_toArray, List.getElem?_cons_succ, List.getElem?_cons_zero]; rfl)
    go_simp
    go_at_call 57
    refine (kl2.out _).mono ?_
    rintro e wn ⟨rfl, hbn⟩
    replace HB := Lib.hid (HB.out.next hbn)
    clear k0 k1 k2 k3 k4 k5 hbn
    obtain ⟨k0, k1, k2, k3, k4, k5⟩ := HB.out.cells
    refine hK.out _ _ ⟨k0, k1, k2, k3, k4, k5⟩ (fun hHeld => ?_)
    clear hK K
    try simp only [Act.put, List.setIfInBounds_toArray, List.set_cons_zero, List.set_cons_succ]
    refine wpAnyH_take (i := 6) (oi := ?o7) (v := ?v7) ?hi7 (by kernel_rfl) (by kernel_rfl) (by kernel_rfl) ?hQ7 ?hy7 (by assumption) ?rest7
    case hi7 => (simp only [List.getElem?_toArray, List.getElem?_cons_succ, List.getElem?_cons_zero]; rfl)
    case hQ7 => exact fun _ _ _ h => h
    case hy7 => (refine Or.inl ⟨by rfl, ?_⟩; intro w hSw; (try dsimp only at hSw); go_simp; (try with_reducible rfl))
    try simp only [Act.put, List.setIfInBounds_toArray, List.set_cons_zero, List.set_cons_succ]
    refine wpAnyH_take (i := 7) (oi := ?o8) (v := ?v8) ?hi8 (by kernel_rfl) (by kernel_rfl) (by kernel_rfl) ?hQ8 ?hy8 (by assumption) ?rest8
    case hi8 => (simp only [List.getElem?_toArray, List.getElem?_cons_succ, List.getElem?_cons_zero]; rfl)
    case hQ8 => exact fun _ _ _ h => h
    case hy8 => (refine Or.inl ⟨by rfl, ?_⟩; intro w hSw; (try dsimp only at hSw); go_simp; (try with_reducible rfl))
    try simp only [Act.put, List.setIfInBounds_toArray, List.set_cons_zero, List.set_cons_succ]
    refine wpAnyH_take (i := 8) (oi := ?o9) (v := ?v9) ?hi9 (by kernel_rfl) (by kernel_rfl) (by kernel_rfl) ?hQ9 ?hy9 (by assumption) ?rest9
    case hi9 => (simp only [List.getElem?_toArray, List.getElem?_cons_succ, List.getElem?_cons_zero]; rfl)
    case hQ9 => exact fun _ _ _ h => h
    case hy9 => (refine Or.inl ⟨by rfl, ?_⟩; intro w hSw; (try dsimp only at hSw); go_simp; (try with_reducible rfl))
    try simp only [Act.put, List.setIfInBounds_toArray, List.set_cons_zero, List.set_cons_succ]
    refine wpAnyH_take (i := 10) (oi := ?o10) (v := ?v10) ?hi10 (by kernel_rfl) (by kernel_rfl) (by kernel_rfl) ?hQ10 ?hy10 (by assumption) ?rest10
    case hi10 => (simp only [List.getElem?_toArray, List.getElem?_cons_succ, List.getElem?_cons_zero]; rfl)
    case hQ10 => exact fun _ _ _ h => h
    case hy10 => (refine Or.inl ⟨by rfl, ?_⟩; intro w hSw; (try dsimp only at hSw); go_simp; (try with_reducible rfl))
    try simp only [Act.put, List.setIfInBounds_toArray, List.set_cons_zero, List.set_cons_succ]
    refine wpAnyH_ready (rs := [9]) (by kernel_rfl) (by simp) ?_
    refine AllReadyH.cons (o := ?o11) ?hi11 (fun K hK => ?rest11) AllReadyH.nil
    case hi11 => (simp only [List.getElem?_toArray, List.getElem?_cons_succ, List.getElem?_cons_zero]; rfl)
    go_simp
    go_at_call 58
    refine (triSort_any A c xs _ (HA.out.below HB.out.below (Nat.le_refl _)) hn).mono ?_
    rintro e wn ⟨A1, rfl, rd1, hbn⟩
    have RD1 := Lib.hid (RdT.low0 rd1)
    clear rd1
    replace HB := Lib.hid (HB.out.next hbn)
    clear k0 k1 k2 k3 k4 k5 hbn
    obtain ⟨k0, k1, k2, k3, k4, k5⟩ := HB.out.cells
    refine hK.out _ _ ⟨k0, k1, k2, k3, k4, k5⟩ (fun hHeld => ?_)
    clear hK K
    try simp only [Act.put, List.setIfInBounds_toArray, List.set_cons_zero, List.set_cons_succ]
    refine wpAnyH_ready (rs := [11]) (by kernel_rfl) (by simp) ?_
    refine AllReadyH.cons (o := ?o12) ?hi12 (fun K hK => ?rest12) AllReadyH.nil
    case hi12 => (simp only [List.getElem?_toArray, List.getElem?_cons_succ, List.getElem?_cons_zero]; rfl)
    go_simp
    go_at_call 59
    refine (refSortTri_any A c xs _ (HA.out.below HB.out.below (Nat.le_refl _)) hn).mono ?_
    rintro e wn ⟨A2, cc2, rfl, rd2, hbn⟩
    replace RD1 := Lib.hid (RD1.out.below hbn (Nat.le_refl _))
    have RD2 := Lib.hid (RdT.low0 rd2)
    clear rd2
    replace HB := Lib.hid (HB.out.next hbn)
    clear k0 k1 k2 k3 k4 k5 hbn
    obtain ⟨k0, k1, k2, k3, k4, k5⟩ := HB.out.cells
    refine hK.out _ _ ⟨k0, k1, k2, k3, k4, k5⟩ (fun hHeld => ?_)
    clear hK K
    try simp only [Act.put, List.setIfInBounds_toArray, List.set_cons_zero, List.set_cons_succ]
    refine wpAnyH_ready (rs := [12]) (by kernel_rfl) (by simp) ?_
    refine AllReadyH.cons (o := ?o13) ?hi13 (fun K hK => ?rest13) AllReadyH.nil
    case hi13 => (simp only [List.getElem?_toArray, List.getElem?_cons_succ, List.getElem?_cons_zero]; rfl)
    go_simp
    go_at_call 52
    refine (sameTrisS A1 A2 _ cc2 (sset (xs.map canon)) _ RD1.out RD2.out LS.out).mono ?_
    rintro e wn ⟨rfl, hbn⟩
    replace HB := Lib.hid (HB.out.next hbn)
    clear k0 k1 k2 k3 k4 k5 hbn
    obtain ⟨k0, k1, k2, k3, k4, k5⟩ := HB.out.cells
    refine hK.out _ _ ⟨k0, k1, k2, k3, k4, k5⟩ (fun hHeld => ?_)
    clear hK K
    try simp only [Act.put, List.setIfInBounds_toArray, List.set_cons_zero, List.set_cons_succ]
    refine wpAnyH_take (i := 13) (oi := ?o14) (v := ?v14) ?hi14 (by kernel_rfl) (by kernel_rfl) (by kernel_rfl) ?hQ14 ?hy14 (by assumption) ?rest14
    case hi14 => (simp only [List.getElem?_toArray, List.getElem?_cons_succ, List.getElem?_cons_zero]; rfl)
    case hQ14 => exact fun _ _ _ h => h
    case hy14 => (refine Or.inl ⟨by rfl, ?_⟩; intro w hSw; (try dsimp only at hSw); go_simp; (try with_reducible rfl))
    try simp only [Act.put, List.setIfInBounds_toArray, List.set_cons_zero, List.set_cons_succ]
    refine wpAnyH_take (i := 14) (oi := ?o15) (v := ?v15) ?hi15 (by kernel_rfl) (by kernel_rfl) (by kernel_rfl) ?hQ15 ?hy15 (by assumption) ?rest15
    case hi15 => (simp only [List.getElem?_toArray, List.getElem?_cons_succ, List.getElem?_cons_zero]; rfl)
    case hQ15 => exact fun _ _ _ h => h
    case hy15 => (refine Or.inl ⟨by rfl, ?_⟩; intro w hSw; (try dsimp only at hSw); go_simp; (try with_reducible rfl))
    try simp only [Act.put, List.setIfInBounds_toArray, List.set_cons_zero, List.set_cons_succ]
    refine wpAnyH_ready (rs := [15]) (by kernel_rfl) (by simp) ?_
    refine AllReadyH.cons (o := ?o16) ?hi16 (fun K hK => ?rest16) AllReadyH.nil
    case hi16 => (simp only [List.getElem?_toArray, List.getElem?_cons_succ, List.getElem?_cons_zero]; rfl)
    go_simp
    go_at_call 47
    refine (awake5_any _).mono ?_
    rintro e wn ⟨rfl, hbn⟩
    replace HB := Lib.hid (HB.out.next hbn)
    clear k0 k1 k2 k3 k4 k5 hbn
    obtain ⟨k0, k1, k2, k3, k4, k5⟩ := HB.out.cells
    refine hK.out _ _ ⟨k0, k1, k2, k3, k4, k5⟩ (fun hHeld => ?_)
    clear hK K
    try simp only [Act.put, List.setIfInBounds_toArray, List.set_cons_zero, List.set_cons_succ]
    refine wpAnyH_take (i := 16) (oi := ?o17) (v := ?v17) ?hi17 (by kernel_rfl) (by kernel_rfl) (by kernel_rfl) ?hQ17 ?hy17 (by assumption) ?rest17
    case hi17 => (simp only [List.getElem?_toArray, List.getElem?_cons_succ, List.getElem?_cons_zero]; rfl)
    case hQ17 => exact fun _ _ _ h => h
    case hy17 => (refine Or.inl ⟨by rfl, ?_⟩; intro w hSw; (try dsimp only at hSw); go_simp; (try with_reducible rfl))
    try simp only [Act.put, List.setIfInBounds_toArray, List.set_cons_zero, List.set_cons_succ]
    refine wpAnyH_take (i := 17) (oi := ?o18) (v := ?v18) ?hi18 (by kernel_rfl) (by kernel_rfl) (by kernel_rfl) ?hQ18 ?hy18 (by assumption) ?rest18
    case hi18 => (simp only [List.getElem?_toArray, List.getElem?_cons_succ, List.getElem?_cons_zero]; rfl)
    case hQ18 => exact fun _ _ _ h => h
    case hy18 => (refine Or.inl ⟨by rfl, ?_⟩; intro w hSw; (try dsimp only at hSw); go_simp; (try with_reducible rfl))
    try simp only [Act.put, List.setIfInBounds_toArray, List.set_cons_zero, List.set_cons_succ]
    refine wpAnyH_done (by kernel_rfl) ?_ _
    go_wp2
    go_ret
    exact ⟨rfl, HB.out.below⟩
end Go.Proofs.Ytojecaeblgghjaa
