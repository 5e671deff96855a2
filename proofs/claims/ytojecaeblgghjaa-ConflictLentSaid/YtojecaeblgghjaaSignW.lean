/-
  orient.sign. (Printed by mksignw.py.)
-/
import Derived.Test.YtojecaeblgghjaaMoved
import Derived.Test.YtojecaeblgghjaaFilterW
import Derived.Deep.RegionHeld3
set_option linter.unusedVariables false
set_option linter.unusedSimpArgs false
namespace Go.Proofs.Ytojecaeblgghjaa
open Go.RowKit Go.Sort LsP Flt

theorem cells_12 {w : World} {b : Nat} {v0 v1 v2 v3 v4 v5 v6 v7 v8 v9 v10 v11 : Value} {t : TypeId} (h : w.heap[b]? = some (.cells #[v0, v1, v2, v3, v4, v5, v6, v7, v8, v9, v10, v11] t (0, 0))) :
    w.cell? ⟨b, 0, none⟩ = some v0 ∧ w.cell? ⟨b, 1, none⟩ = some v1 ∧ w.cell? ⟨b, 2, none⟩ = some v2 ∧ w.cell? ⟨b, 3, none⟩ = some v3 ∧ w.cell? ⟨b, 4, none⟩ = some v4 ∧ w.cell? ⟨b, 5, none⟩ = some v5 ∧ w.cell? ⟨b, 6, none⟩ = some v6 ∧ w.cell? ⟨b, 7, none⟩ = some v7 ∧ w.cell? ⟨b, 8, none⟩ = some v8 ∧ w.cell? ⟨b, 9, none⟩ = some v9 ∧ w.cell? ⟨b, 10, none⟩ = some v10 ∧ w.cell? ⟨b, 11, none⟩ = some v11 := by
  simp [World.cell?, h]

/-- The determinant of four points' differences. -/
def detV (P : List Int) : Int :=
  (P[0]! - P[9]!) * ((P[4]! - P[10]!) * (P[8]! - P[11]!) - (P[5]! - P[11]!) * (P[7]! - P[10]!)) + (P[1]! - P[10]!) * ((P[5]! - P[11]!) * (P[6]! - P[9]!) - (P[3]! - P[9]!) * (P[8]! - P[11]!)) + (P[2]! - P[11]!) * ((P[3]! - P[9]!) * (P[7]! - P[10]!) - (P[4]! - P[10]!) * (P[6]! - P[9]!))
def filtP (P : List Int) : Int := filt (P[0]! - P[9]!) (P[1]! - P[10]!) (P[2]! - P[11]!) (P[3]! - P[9]!) (P[4]! - P[10]!) (P[5]! - P[11]!) (P[6]! - P[9]!) (P[7]! - P[10]!) (P[8]! - P[11]!)

/-- The masks from m on, n of them. -/
def maskV (P : List Int) : (n m : Nat) → Int
  | 0, _ => 1
  | n + 1, m => if (movedV P m).2 = true ∧ (movedV P m).1 ≠ 0 then (movedV P m).1 else maskV P n (m + 1)
/-- What orient.sign says of four points. -/
def signV (P : List Int) : Int := if filtP P ≠ 0 then filtP P else if sgZ (detV P) ≠ 0 then sgZ (detV P) else maskV P 85 0

theorem big_dif {x y : Int} (hx : FitI x) (hy : FitI y) : Big (x - y) := by constructor <;> omega

set_option maxHeartbeats 16000000 in
set_option maxRecDepth 100000 in
theorem sign_any (p0 p1 p2 p3 p4 p5 p6 p7 p8 p9 p10 p11 : Int) (Fp0 : FitI p0) (Fp1 : FitI p1) (Fp2 : FitI p2) (Fp3 : FitI p3) (Fp4 : FitI p4) (Fp5 : FitI p5) (Fp6 : FitI p6) (Fp7 : FitI p7) (Fp8 : FitI p8) (Fp9 : FitI p9) (Fp10 : FitI p10) (Fp11 : FitI p11) (w : World) :
    Calls Try.prog 126 #[.agg #[.int .i64 p0, .int .i64 p1, .int .i64 p2, .int .i64 p3, .int .i64 p4, .int .i64 p5, .int .i64 p6, .int .i64 p7, .int .i64 p8, .int .i64 p9, .int .i64 p10, .int .i64 p11]] w fun e w' => e = .returned (.int .i64 (signV [p0, p1, p2, p3, p4, p5, p6, p7, p8, p9, p10, p11])) ∧ Below w.heap.size w w' := by
  have kle := Lib.hid ptLess_any
  have kfi : Hid (∀ W : World, Calls Try.prog 159 #[.agg #[.int .i64 (p0 - p9), .int .i64 (p1 - p10), .int .i64 (p2 - p11)], .agg #[.int .i64 (p3 - p9), .int .i64 (p4 - p10), .int .i64 (p5 - p11)], .agg #[.int .i64 (p6 - p9), .int .i64 (p7 - p10), .int .i64 (p8 - p11)]] W fun e w' => e = .returned (.int .i64 (filtP [p0, p1, p2, p3, p4, p5, p6, p7, p8, p9, p10, p11])) ∧ Below W.heap.size W w') :=
    Lib.hid (fun W => filter_any (p0 - p9) (p1 - p10) (p2 - p11) (p3 - p9) (p4 - p10) (p5 - p11) (p6 - p9) (p7 - p10) (p8 - p11) (big_dif Fp0 Fp9) (big_dif Fp1 Fp10) (big_dif Fp2 Fp11) (big_dif Fp3 Fp9) (big_dif Fp4 Fp10) (big_dif Fp5 Fp11) (big_dif Fp6 Fp9) (big_dif Fp7 Fp10) (big_dif Fp8 Fp11) W)
  have kde : Hid (∀ W : World, Calls Try.prog 162 #[.agg #[.int .i64 p0, .int .i64 p1, .int .i64 p2], .agg #[.int .i64 p3, .int .i64 p4, .int .i64 p5], .agg #[.int .i64 p6, .int .i64 p7, .int .i64 p8], .agg #[.int .i64 p9, .int .i64 p10, .int .i64 p11]] W fun e w' => e = .returned (encZ (detV [p0, p1, p2, p3, p4, p5, p6, p7, p8, p9, p10, p11])) ∧ Below W.heap.size W w') :=
    Lib.hid (fun W => det_any p0 p1 p2 p3 p4 p5 p6 p7 p8 p9 p10 p11 ⟨Fp0, Fp1, Fp2⟩ ⟨Fp3, Fp4, Fp5⟩ ⟨Fp6, Fp7, Fp8⟩ ⟨Fp9, Fp10, Fp11⟩ W)
  have kse : Hid (∀ W : World, Calls Try.prog 161 #[encZ (detV [p0, p1, p2, p3, p4, p5, p6, p7, p8, p9, p10, p11])] W fun e w' => e = .returned (.int .i64 (sgZ (detV [p0, p1, p2, p3, p4, p5, p6, p7, p8, p9, p10, p11]))) ∧ Below W.heap.size W w') := Lib.hid (fun W => limbSign_any _ W)
  have kmo : Hid (∀ m : Nat, m < 85 → ∀ W : World, Calls Try.prog 163 #[.agg #[.int .i64 p0, .int .i64 p1, .int .i64 p2, .int .i64 p3, .int .i64 p4, .int .i64 p5, .int .i64 p6, .int .i64 p7, .int .i64 p8, .int .i64 p9, .int .i64 p10, .int .i64 p11], .int .i64 m] W fun e w' => e = .returned (.tuple #[.int .i64 (movedV [p0, p1, p2, p3, p4, p5, p6, p7, p8, p9, p10, p11] m).1, .bool (movedV [p0, p1, p2, p3, p4, p5, p6, p7, p8, p9, p10, p11] m).2]) ∧ Below W.heap.size W w') :=
    Lib.hid (fun m hm W => moved_any p0 p1 p2 p3 p4 p5 p6 p7 p8 p9 p10 p11 m hm (by
      intro x hx
      simp only [List.mem_cons, List.not_mem_nil, or_false] at hx
      rcases hx with rfl | rfl | rfl | rfl | rfl | rfl | rfl | rfl | rfl | rfl | rfl | rfl <;> (constructor <;> omega)) W)
  replace Fp0 := Lib.hid Fp0
  replace Fp1 := Lib.hid Fp1
  replace Fp2 := Lib.hid Fp2
  replace Fp3 := Lib.hid Fp3
  replace Fp4 := Lib.hid Fp4
  replace Fp5 := Lib.hid Fp5
  replace Fp6 := Lib.hid Fp6
  replace Fp7 := Lib.hid Fp7
  replace Fp8 := Lib.hid Fp8
  replace Fp9 := Lib.hid Fp9
  replace Fp10 := Lib.hid Fp10
  replace Fp11 := Lib.hid Fp11
  have hS : Hid (signV [p0, p1, p2, p3, p4, p5, p6, p7, p8, p9, p10, p11] = if filtP [p0, p1, p2, p3, p4, p5, p6, p7, p8, p9, p10, p11] ≠ 0 then filtP [p0, p1, p2, p3, p4, p5, p6, p7, p8, p9, p10, p11] else if sgZ (detV [p0, p1, p2, p3, p4, p5, p6, p7, p8, p9, p10, p11]) ≠ 0 then sgZ (detV [p0, p1, p2, p3, p4, p5, p6, p7, p8, p9, p10, p11]) else maskV [p0, p1, p2, p3, p4, p5, p6, p7, p8, p9, p10, p11] 85 0) := Lib.hid rfl
  have MA : Mem w [(w.heap.size, .cells #[.int .i64 p0, .int .i64 p1, .int .i64 p2, .int .i64 p3, .int .i64 p4, .int .i64 p5, .int .i64 p6, .int .i64 p7, .int .i64 p8, .int .i64 p9, .int .i64 p10, .int .i64 p11] 134 (0, 0))] (w.alloc (.cells #[.int .i64 p0, .int .i64 p1, .int .i64 p2, .int .i64 p3, .int .i64 p4, .int .i64 p5, .int .i64 p6, .int .i64 p7, .int .i64 p8, .int .i64 p9, .int .i64 p10, .int .i64 p11] 134 (0, 0))) := (Mem.nil w).add _
  have MB := Lib.hid MA
  clear MA
  generalize filtP [p0, p1, p2, p3, p4, p5, p6, p7, p8, p9, p10, p11] = f at *
  generalize sgZ (detV [p0, p1, p2, p3, p4, p5, p6, p7, p8, p9, p10, p11]) = d at *
  generalize detV [p0, p1, p2, p3, p4, p5, p6, p7, p8, p9, p10, p11] = dz at *
  go_enter Try.func126, Try.ntmps126
  go_wp2_with fail
  generalize w.alloc (.cells #[.int .i64 p0, .int .i64 p1, .int .i64 p2, .int .i64 p3, .int .i64 p4, .int .i64 p5, .int .i64 p6, .int .i64 p7, .int .i64 p8, .int .i64 p9, .int .i64 p10, .int .i64 p11] 134 (0, 0)) = W0 at *
  refine wp_region_held_drew (S := fun w' => Mem w [(w.heap.size, .cells #[.int .i64 p0, .int .i64 p1, .int .i64 p2, .int .i64 p3, .int .i64 p4, .int .i64 p5, .int .i64 p6, .int .i64 p7, .int .i64 p8, .int .i64 p9, .int .i64 p10, .int .i64 p11] 134 (0, 0))] w') (by kernel_rfl) MB.out.drew (fun hHeld => ?_)
  replace MB := Lib.hid MB.out.drew
  generalize World.drew W0 = wd at *
  refine wpAnyH_take (i := 0) (oi := ?o1) (v := ?v1) ?hi1 (by kernel_rfl) (by kernel_rfl) (by kernel_rfl) ?hQ1 ?hy1 (by assumption) ?rest1
  case hi1 => (simp only [List.getElem?_toArray, List.getElem?_cons_succ, List.getElem?_cons_zero]; rfl)
  case hQ1 => exact fun _ _ _ h => h
  case hy1 => (refine Or.inl ⟨by rfl, ?_⟩; intro w' hSw; obtain ⟨k0, k1, k2, k3, k4, k5, k6, k7, k8, k9, k10, k11⟩ := cells_12 hSw.head; go_simp; (try with_reducible rfl))
  try simp only [Act.put, List.setIfInBounds_toArray, List.set_cons_zero, List.set_cons_succ]
  refine wpAnyH_take (i := 1) (oi := ?o2) (v := ?v2) ?hi2 (by kernel_rfl) (by kernel_rfl) (by kernel_rfl) ?hQ2 ?hy2 (by assumption) ?rest2
  case hi2 => (simp only [List.getElem?_toArray, List.getElem?_cons_succ, List.getElem?_cons_zero]; rfl)
  case hQ2 => exact fun _ _ _ h => h
  case hy2 => (refine Or.inl ⟨by rfl, ?_⟩; intro w' hSw; obtain ⟨k0, k1, k2, k3, k4, k5, k6, k7, k8, k9, k10, k11⟩ := cells_12 hSw.head; go_simp; (try with_reducible rfl))
  try simp only [Act.put, List.setIfInBounds_toArray, List.set_cons_zero, List.set_cons_succ]
  refine wpAnyH_take (i := 2) (oi := ?o3) (v := ?v3) ?hi3 (by kernel_rfl) (by kernel_rfl) (by kernel_rfl) ?hQ3 ?hy3 (by assumption) ?rest3
  case hi3 => (simp only [List.getElem?_toArray, List.getElem?_cons_succ, List.getElem?_cons_zero]; rfl)
  case hQ3 => exact fun _ _ _ h => h
  case hy3 => (refine Or.inl ⟨by rfl, ?_⟩; intro w' hSw; obtain ⟨k0, k1, k2, k3, k4, k5, k6, k7, k8, k9, k10, k11⟩ := cells_12 hSw.head; go_simp; (try with_reducible rfl))
  try simp only [Act.put, List.setIfInBounds_toArray, List.set_cons_zero, List.set_cons_succ]
  refine wpAnyH_take (i := 3) (oi := ?o4) (v := ?v4) ?hi4 (by kernel_rfl) (by kernel_rfl) (by kernel_rfl) ?hQ4 ?hy4 (by assumption) ?rest4
  case hi4 => (simp only [List.getElem?_toArray, List.getElem?_cons_succ, List.getElem?_cons_zero]; rfl)
  case hQ4 => exact fun _ _ _ h => h
  case hy4 => (refine Or.inl ⟨by rfl, ?_⟩; intro w' hSw; obtain ⟨k0, k1, k2, k3, k4, k5, k6, k7, k8, k9, k10, k11⟩ := cells_12 hSw.head; go_simp; (try with_reducible rfl))
  try simp only [Act.put, List.setIfInBounds_toArray, List.set_cons_zero, List.set_cons_succ]
  refine wpAnyH_take (i := 5) (oi := ?o5) (v := ?v5) ?hi5 (by kernel_rfl) (by kernel_rfl) (by kernel_rfl) ?hQ5 ?hy5 (by assumption) ?rest5
  case hi5 => (simp only [List.getElem?_toArray, List.getElem?_cons_succ, List.getElem?_cons_zero]; rfl)
  case hQ5 => exact fun _ _ _ h => h
  case hy5 => (refine Or.inl ⟨by rfl, ?_⟩; intro w' hSw; obtain ⟨k0, k1, k2, k3, k4, k5, k6, k7, k8, k9, k10, k11⟩ := cells_12 hSw.head; go_simp; (try with_reducible rfl))
  try simp only [Act.put, List.setIfInBounds_toArray, List.set_cons_zero, List.set_cons_succ]
  refine wpAnyH_take (i := 6) (oi := ?o6) (v := ?v6) ?hi6 (by kernel_rfl) (by kernel_rfl) (by kernel_rfl) ?hQ6 ?hy6 (by assumption) ?rest6
  case hi6 => (simp only [List.getElem?_toArray, List.getElem?_cons_succ, List.getElem?_cons_zero]; rfl)
  case hQ6 => exact fun _ _ _ h => h
  case hy6 => (refine Or.inl ⟨by rfl, ?_⟩; intro w' hSw; obtain ⟨k0, k1, k2, k3, k4, k5, k6, k7, k8, k9, k10, k11⟩ := cells_12 hSw.head; go_simp; (try with_reducible rfl))
  try simp only [Act.put, List.setIfInBounds_toArray, List.set_cons_zero, List.set_cons_succ]
  refine wpAnyH_take (i := 7) (oi := ?o7) (v := ?v7) ?hi7 (by kernel_rfl) (by kernel_rfl) (by kernel_rfl) ?hQ7 ?hy7 (by assumption) ?rest7
  case hi7 => (simp only [List.getElem?_toArray, List.getElem?_cons_succ, List.getElem?_cons_zero]; rfl)
  case hQ7 => exact fun _ _ _ h => h
  case hy7 => (refine Or.inl ⟨by rfl, ?_⟩; intro w' hSw; obtain ⟨k0, k1, k2, k3, k4, k5, k6, k7, k8, k9, k10, k11⟩ := cells_12 hSw.head; go_simp; (try with_reducible rfl))
  try simp only [Act.put, List.setIfInBounds_toArray, List.set_cons_zero, List.set_cons_succ]
  refine wpAnyH_take (i := 8) (oi := ?o8) (v := ?v8) ?hi8 (by kernel_rfl) (by kernel_rfl) (by kernel_rfl) ?hQ8 ?hy8 (by assumption) ?rest8
  case hi8 => (simp only [List.getElem?_toArray, List.getElem?_cons_succ, List.getElem?_cons_zero]; rfl)
  case hQ8 => exact fun _ _ _ h => h
  case hy8 => (refine Or.inl ⟨by rfl, ?_⟩; intro w' hSw; obtain ⟨k0, k1, k2, k3, k4, k5, k6, k7, k8, k9, k10, k11⟩ := cells_12 hSw.head; go_simp; (try with_reducible rfl))
  try simp only [Act.put, List.setIfInBounds_toArray, List.set_cons_zero, List.set_cons_succ]
  refine wpAnyH_take (i := 10) (oi := ?o9) (v := ?v9) ?hi9 (by kernel_rfl) (by kernel_rfl) (by kernel_rfl) ?hQ9 ?hy9 (by assumption) ?rest9
  case hi9 => (simp only [List.getElem?_toArray, List.getElem?_cons_succ, List.getElem?_cons_zero]; rfl)
  case hQ9 => exact fun _ _ _ h => h
  case hy9 => (refine Or.inl ⟨by rfl, ?_⟩; intro w' hSw; obtain ⟨k0, k1, k2, k3, k4, k5, k6, k7, k8, k9, k10, k11⟩ := cells_12 hSw.head; go_simp; (try with_reducible rfl))
  try simp only [Act.put, List.setIfInBounds_toArray, List.set_cons_zero, List.set_cons_succ]
  refine wpAnyH_take (i := 11) (oi := ?o10) (v := ?v10) ?hi10 (by kernel_rfl) (by kernel_rfl) (by kernel_rfl) ?hQ10 ?hy10 (by assumption) ?rest10
  case hi10 => (simp only [List.getElem?_toArray, List.getElem?_cons_succ, List.getElem?_cons_zero]; rfl)
  case hQ10 => exact fun _ _ _ h => h
  case hy10 => (refine Or.inl ⟨by rfl, ?_⟩; intro w' hSw; obtain ⟨k0, k1, k2, k3, k4, k5, k6, k7, k8, k9, k10, k11⟩ := cells_12 hSw.head; go_simp; (try with_reducible rfl))
  try simp only [Act.put, List.setIfInBounds_toArray, List.set_cons_zero, List.set_cons_succ]
  refine wpAnyH_take (i := 12) (oi := ?o11) (v := ?v11) ?hi11 (by kernel_rfl) (by kernel_rfl) (by kernel_rfl) ?hQ11 ?hy11 (by assumption) ?rest11
  case hi11 => (simp only [List.getElem?_toArray, List.getElem?_cons_succ, List.getElem?_cons_zero]; rfl)
  case hQ11 => exact fun _ _ _ h => h
  case hy11 => (refine Or.inl ⟨by rfl, ?_⟩; intro w' hSw; obtain ⟨k0, k1, k2, k3, k4, k5, k6, k7, k8, k9, k10, k11⟩ := cells_12 hSw.head; go_simp; (try with_reducible rfl))
  try simp only [Act.put, List.setIfInBounds_toArray, List.set_cons_zero, List.set_cons_succ]
  refine wpAnyH_take (i := 13) (oi := ?o12) (v := ?v12) ?hi12 (by kernel_rfl) (by kernel_rfl) (by kernel_rfl) ?hQ12 ?hy12 (by assumption) ?rest12
  case hi12 => (simp only [List.getElem?_toArray, List.getElem?_cons_succ, List.getElem?_cons_zero]; rfl)
  case hQ12 => exact fun _ _ _ h => h
  case hy12 => (refine Or.inl ⟨by rfl, ?_⟩; intro w' hSw; obtain ⟨k0, k1, k2, k3, k4, k5, k6, k7, k8, k9, k10, k11⟩ := cells_12 hSw.head; go_simp; (try with_reducible rfl))
  try simp only [Act.put, List.setIfInBounds_toArray, List.set_cons_zero, List.set_cons_succ]
  refine wpAnyH_ready (rs := [4]) (by kernel_rfl) (by simp) ?_
  refine AllReadyH.cons (o := ?o21) ?hi21 (fun K hK => ?rest21) AllReadyH.nil
  case hi21 => (simp only [List.getElem?_toArray, List.getElem?_cons_succ, List.getElem?_cons_zero]; rfl)
  go_simp
  go_at_call 160
  refine (kle.out p0 p1 p2 p9 p10 p11 _ Fp0.out Fp1.out Fp2.out Fp9.out Fp10.out Fp11.out).mono ?_
  rintro e wn ⟨rfl, hbn⟩
  replace MB := Lib.hid (MB.out.next hbn)
  clear hbn
  refine hK.out _ _ MB.out (fun hHeld => ?_)
  clear hK K
  try simp only [Act.put, List.setIfInBounds_toArray, List.set_cons_zero, List.set_cons_succ]
  refine wpAnyH_ready (rs := [9]) (by kernel_rfl) (by simp) ?_
  refine AllReadyH.cons (o := ?o19) ?hi19 (fun K hK => ?rest19) AllReadyH.nil
  case hi19 => (simp only [List.getElem?_toArray, List.getElem?_cons_succ, List.getElem?_cons_zero]; rfl)
  go_simp
  go_at_call 160
  refine (kle.out p3 p4 p5 p9 p10 p11 _ Fp3.out Fp4.out Fp5.out Fp9.out Fp10.out Fp11.out).mono ?_
  rintro e wn ⟨rfl, hbn⟩
  replace MB := Lib.hid (MB.out.next hbn)
  clear hbn
  refine hK.out _ _ MB.out (fun hHeld => ?_)
  clear hK K
  try simp only [Act.put, List.setIfInBounds_toArray, List.set_cons_zero, List.set_cons_succ]
  refine wpAnyH_ready (rs := [14]) (by kernel_rfl) (by simp) ?_
  refine AllReadyH.cons (o := ?o17) ?hi17 (fun K hK => ?rest17) AllReadyH.nil
  case hi17 => (simp only [List.getElem?_toArray, List.getElem?_cons_succ, List.getElem?_cons_zero]; rfl)
  go_simp
  go_at_call 160
  refine (kle.out p6 p7 p8 p9 p10 p11 _ Fp6.out Fp7.out Fp8.out Fp9.out Fp10.out Fp11.out).mono ?_
  rintro e wn ⟨rfl, hbn⟩
  replace MB := Lib.hid (MB.out.next hbn)
  clear hbn
  refine hK.out _ _ MB.out (fun hHeld => ?_)
  clear hK K
  try simp only [Act.put, List.setIfInBounds_toArray, List.set_cons_zero, List.set_cons_succ]
  refine wpAnyH_ready (rs := [15]) (by kernel_rfl) (by simp) ?_
  refine AllReadyH.cons (o := ?o15) ?hi15 (fun K hK => ?rest15) AllReadyH.nil
  case hi15 => (simp only [List.getElem?_toArray, List.getElem?_cons_succ, List.getElem?_cons_zero]; rfl)
  go_simp
  go_at_call 159
  refine (kfi.out _).mono ?_
  rintro e wn ⟨rfl, hbn⟩
  replace MB := Lib.hid (MB.out.next hbn)
  clear hbn
  refine hK.out _ _ MB.out (fun hHeld => ?_)
  clear hK K
  try simp only [Act.put, List.setIfInBounds_toArray, List.set_cons_zero, List.set_cons_succ]
  refine wpAnyH_take (i := 16) (oi := ?o13) (v := ?v13) ?hi13 (by kernel_rfl) (by kernel_rfl) (by kernel_rfl) ?hQ13 ?hy13 (by assumption) ?rest13
  case hi13 => (simp only [List.getElem?_toArray, List.getElem?_cons_succ, List.getElem?_cons_zero]; rfl)
  case hQ13 => exact fun _ _ _ h => h
  case hy13 => (refine Or.inl ⟨by rfl, ?_⟩; intro w' hSw; go_simp; (try with_reducible rfl))
  try simp only [Act.put, List.setIfInBounds_toArray, List.set_cons_zero, List.set_cons_succ]
  refine wpAnyH_done (by kernel_rfl) ?_ _
  by_cases hf : f = 0
  · have f1 : (f != 0) = false := by simpa using hf
    replace hS := Lib.hid (hS.out.trans (if_neg (by simpa using hf)))
    clear hf
    obtain ⟨k0, k1, k2, k3, k4, k5, k6, k7, k8, k9, k10, k11⟩ := cells_12 MB.out.head
    go_wp2_with fail
    refine (kde.out _).mono ?_
    rintro e wa ⟨rfl, hb⟩
    replace MB := Lib.hid (MB.out.next hb)
    clear hb k0 k1 k2 k3 k4 k5 k6 k7 k8 k9 k10 k11
    go_wp2_with fail
    refine (kse.out _).mono ?_
    rintro e wb ⟨rfl, hb⟩
    replace MB := Lib.hid (MB.out.next hb)
    clear hb kde kse kfi
    by_cases hd : d = 0
    · have d1 : (d != 0) = false := by simpa using hd
      replace hS := Lib.hid (hS.out.trans (if_neg (by simpa using hd)))
      clear hd
      have hS2 : Hid (signV [p0, p1, p2, p3, p4, p5, p6, p7, p8, p9, p10, p11] = maskV [p0, p1, p2, p3, p4, p5, p6, p7, p8, p9, p10, p11] 85 0) := hS
      go_wp2_with fail
      go_loopw [40] (fun i wx => ∃ m : Nat, m ≤ 85 ∧ i = .int .i64 m ∧ Hid (maskV [p0, p1, p2, p3, p4, p5, p6, p7, p8, p9, p10, p11] 85 0 = maskV [p0, p1, p2, p3, p4, p5, p6, p7, p8, p9, p10, p11] (85 - m) m) ∧ Hid (Mem w [(w.heap.size, .cells #[.int .i64 p0, .int .i64 p1, .int .i64 p2, .int .i64 p3, .int .i64 p4, .int .i64 p5, .int .i64 p6, .int .i64 p7, .int .i64 p8, .int .i64 p9, .int .i64 p10, .int .i64 p11] 134 (0, 0))] wx)) (fun i _ => 85 - (intOf i).toNat)
      case atStart => exact ⟨0, by omega, rfl, rfl, MB.out⟩
      case round =>
        clear MB
        obtain ⟨m, hm, rfl, hM, MB⟩ := hrel
        replace hM := Lib.hid hM
        replace MB := Lib.hid MB
        by_cases hm85 : m < 85
        · obtain ⟨k0, k1, k2, k3, k4, k5, k6, k7, k8, k9, k10, k11⟩ := cells_12 MB.out.head
          have km := kmo.out m hm85
          have hstep : Hid (maskV [p0, p1, p2, p3, p4, p5, p6, p7, p8, p9, p10, p11] (85 - m) m = if (movedV [p0, p1, p2, p3, p4, p5, p6, p7, p8, p9, p10, p11] m).2 = true ∧ (movedV [p0, p1, p2, p3, p4, p5, p6, p7, p8, p9, p10, p11] m).1 ≠ 0 then (movedV [p0, p1, p2, p3, p4, p5, p6, p7, p8, p9, p10, p11] m).1 else maskV [p0, p1, p2, p3, p4, p5, p6, p7, p8, p9, p10, p11] (85 - (m + 1)) (m + 1)) := by
            show maskV _ _ _ = _
            rw [show 85 - m = (85 - (m + 1)) + 1 by omega, maskV]
          generalize (movedV [p0, p1, p2, p3, p4, p5, p6, p7, p8, p9, p10, p11] m).1 = v at *
          generalize (movedV [p0, p1, p2, p3, p4, p5, p6, p7, p8, p9, p10, p11] m).2 = ok at *
          replace km := Lib.hid km
          go_wp2_with fail
          refine (km.out _).mono ?_
          rintro e wc ⟨rfl, hb⟩
          replace MB := Lib.hid (MB.out.next hb)
          clear hb k0 k1 k2 k3 k4 k5 k6 k7 k8 k9 k10 k11 km
          cases ok
          · have hn : Hid (maskV [p0, p1, p2, p3, p4, p5, p6, p7, p8, p9, p10, p11] 85 0 = maskV [p0, p1, p2, p3, p4, p5, p6, p7, p8, p9, p10, p11] (85 - (m + 1)) (m + 1)) := by
              show maskV _ _ _ = _
              rw [hM.out, hstep.out, if_neg (fun h => by cases h.1)]
            clear hstep
            go_wp2_with fail
            go_roundw
            case rel => exact ⟨m + 1, by omega, by go_num, hn.out, MB.out⟩
            case measure => simp [intOf]; omega
          · by_cases hv : v = 0
            · have v1 : (v != 0) = false := by simpa using hv
              have hn : Hid (maskV [p0, p1, p2, p3, p4, p5, p6, p7, p8, p9, p10, p11] 85 0 = maskV [p0, p1, p2, p3, p4, p5, p6, p7, p8, p9, p10, p11] (85 - (m + 1)) (m + 1)) := by
                show maskV _ _ _ = _
                rw [hM.out, hstep.out, if_neg (fun h => h.2 hv)]
              clear hstep hv
              go_wp2_with fail
              go_roundw
              case rel => exact ⟨m + 1, by omega, by go_num, hn.out, MB.out⟩
              case measure => simp [intOf]; omega
            · have v1 : (v != 0) = true := by simpa using hv
              have hn : Hid (signV [p0, p1, p2, p3, p4, p5, p6, p7, p8, p9, p10, p11] = v) := by
                show signV _ = _
                rw [hS2.out, hM.out, hstep.out, if_pos ⟨rfl, hv⟩]
              clear hstep hv
              go_wp2
              go_ret
              rw [hn.out]
              exact ⟨rfl, MB.out.below⟩
        · obtain rfl : m = 85 := by omega
          have hn : Hid (signV [p0, p1, p2, p3, p4, p5, p6, p7, p8, p9, p10, p11] = 1) := by
            show signV _ = _
            rw [hS2.out, hM.out]
            rfl
          go_wp2
          go_ret
          rw [hn.out]
          exact ⟨rfl, MB.out.below⟩
    · have d1 : (d != 0) = true := by simpa using hd
      replace hS := Lib.hid (hS.out.trans (if_pos hd))
      clear hd
      replace hS := Lib.hid hS
      go_wp2
      go_ret
      rw [hS.out]
      exact ⟨rfl, MB.out.below⟩
  · have f1 : (f != 0) = true := by simpa using hf
    replace hS := Lib.hid (hS.out.trans (if_pos hf))
    clear hf
    replace hS := Lib.hid hS
    go_wp2
    go_ret
    rw [hS.out]
    exact ⟨rfl, MB.out.below⟩
end Go.Proofs.Ytojecaeblgghjaa
