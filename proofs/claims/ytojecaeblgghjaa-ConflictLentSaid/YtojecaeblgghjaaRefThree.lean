/-
  carapaceref2.three. (Printed by mkrefthree.py.)
-/
import Derived.Test.YtojecaeblgghjaaMemG
set_option linter.unusedVariables false
set_option linter.unusedSimpArgs false
namespace Go.Proofs.Ytojecaeblgghjaa
open Go.RowKit Go.Sort LsP

abbrev o4 (a b c d : Int) (t : TypeId) : Obj := .cells #[.int .i64 a, .int .i64 b, .int .i64 c, .int .i64 d] t (0, 0)

theorem ref3_cells {w0 w : World} {b0 b1 b2 b3 : Nat} {p0 p1 p2 p3 q0 q1 q2 q3 r0 r1 r2 r3 : Int} {t : TypeId} {d : Obj} (h : Mem w0 [(b0, o4 p0 p1 p2 p3 t), (b1, o4 q0 q1 q2 q3 t), (b2, o4 r0 r1 r2 r3 t), (b3, d)] w) :
    w.cell? ⟨b0, 0, none⟩ = some (.int .i64 p0) ∧ w.cell? ⟨b0, 1, none⟩ = some (.int .i64 p1) ∧ w.cell? ⟨b0, 2, none⟩ = some (.int .i64 p2) ∧
    w.cell? ⟨b1, 0, none⟩ = some (.int .i64 q0) ∧ w.cell? ⟨b1, 1, none⟩ = some (.int .i64 q1) ∧ w.cell? ⟨b1, 2, none⟩ = some (.int .i64 q2) ∧
    w.cell? ⟨b2, 0, none⟩ = some (.int .i64 r0) ∧ w.cell? ⟨b2, 1, none⟩ = some (.int .i64 r1) ∧ w.cell? ⟨b2, 2, none⟩ = some (.int .i64 r2) := by
  have x := h.has (b0, o4 p0 p1 p2 p3 t) (by simp)
  have y := h.has (b1, o4 q0 q1 q2 q3 t) (by simp)
  have z := h.has (b2, o4 r0 r1 r2 r3 t) (by simp)
  refine ⟨?_, ?_, ?_, ?_, ?_, ?_, ?_, ?_, ?_⟩ <;> first | exact cell_of_row _ _ _ _ _ _ x | exact cell_of_row _ _ _ _ _ _ y | exact cell_of_row _ _ _ _ _ _ z

theorem three_r {w0 w : World} {a b c : Nat} {x y z : Int} {l : List (Nat × Obj)} (h : Mem w0 ((c, oR z) :: (b, oR y) :: (a, oR x) :: l) w) :
    w.cell? ⟨a, 0, none⟩ = some (.int .u64 (hiR x)) ∧ w.cell? ⟨a, 1, none⟩ = some (.int .u64 (loZ x)) ∧ w.cell? ⟨b, 0, none⟩ = some (.int .u64 (hiR y)) ∧ w.cell? ⟨b, 1, none⟩ = some (.int .u64 (loZ y)) ∧
    w.cell? ⟨c, 0, none⟩ = some (.int .u64 (hiR z)) ∧ w.cell? ⟨c, 1, none⟩ = some (.int .u64 (loZ z)) := by
  obtain ⟨x0, x1, _⟩ := row2 h.head
  obtain ⟨y0, y1, _⟩ := row2 h.tail.head
  obtain ⟨z0, z1, _⟩ := row2 h.tail.tail.head
  exact ⟨z0, z1, y0, y1, x0, x1⟩

theorem prod_in {x y : Int} (hx : FitI x) (hy : FitI y) : -1152921504606846976 ≤ x * y ∧ x * y ≤ 1152921504606846976 := by
  have h1 : x.natAbs ≤ 1073741824 := by omega
  have h2 : y.natAbs ≤ 1073741824 := by omega
  have h3 := Nat.mul_le_mul h1 h2
  rw [← Int.natAbs_mul] at h3
  omega
theorem prod_sub {a b c d : Int} (ha : FitI a) (hb : FitI b) (hc : FitI c) (hd : FitI d) : InI (a * b - c * d) := by
  have h1 := prod_in ha hb
  have h2 := prod_in hc hd
  constructor <;> omega

set_option maxHeartbeats 8000000 in
set_option maxRecDepth 100000 in
theorem refThree_any (p0 p1 p2 p3 q0 q1 q2 q3 r0 r1 r2 r3 : Int) (Fp0 : FitI p0) (Fp1 : FitI p1) (Fp2 : FitI p2) (Fq0 : FitI q0) (Fq1 : FitI q1) (Fq2 : FitI q2) (Fr0 : FitI r0) (Fr1 : FitI r1) (Fr2 : FitI r2) (w : World) :
    Calls Try.prog 191 #[.agg #[.int .i64 p0, .int .i64 p1, .int .i64 p2, .int .i64 p3], .agg #[.int .i64 q0, .int .i64 q1, .int .i64 q2, .int .i64 q3], .agg #[.int .i64 r0, .int .i64 r1, .int .i64 r2, .int .i64 r3]] w fun e w' =>
      e = .returned (encR (p0 * (q1 * r2 - q2 * r1) + p1 * (q2 * r0 - q0 * r2) + p2 * (q0 * r1 - q1 * r0))) ∧ Below w.heap.size w w' := by
  have kp0 : Hid (∀ W : World, Calls Try.prog 206 #[.int .i64 p0, .int .i64 (wrap64 (wrap64 (q1 * r2) - wrap64 (q2 * r1)))] W fun e w' => e = .returned (encR (p0 * (q1 * r2 - q2 * r1))) ∧ Below W.heap.size W w') := Lib.hid (fun W => by
    have h := prod_sub Fq1 Fr2 Fq2 Fr1
    have h1 := prod_in Fq1 Fr2
    have h2 := prod_in Fq2 Fr1
    rw [IntWalk.wrap64_in (q1 * r2) (by omega), IntWalk.wrap64_in (q2 * r1) (by omega), IntWalk.wrap64_in (q1 * r2 - q2 * r1) (by omega)]
    exact refProd_any _ _ ⟨by omega, by omega⟩ h W)
  have kp1 : Hid (∀ W : World, Calls Try.prog 206 #[.int .i64 p1, .int .i64 (wrap64 (wrap64 (q2 * r0) - wrap64 (q0 * r2)))] W fun e w' => e = .returned (encR (p1 * (q2 * r0 - q0 * r2))) ∧ Below W.heap.size W w') := Lib.hid (fun W => by
    have h := prod_sub Fq2 Fr0 Fq0 Fr2
    have h1 := prod_in Fq2 Fr0
    have h2 := prod_in Fq0 Fr2
    rw [IntWalk.wrap64_in (q2 * r0) (by omega), IntWalk.wrap64_in (q0 * r2) (by omega), IntWalk.wrap64_in (q2 * r0 - q0 * r2) (by omega)]
    exact refProd_any _ _ ⟨by omega, by omega⟩ h W)
  have kp2 : Hid (∀ W : World, Calls Try.prog 206 #[.int .i64 p2, .int .i64 (wrap64 (wrap64 (q0 * r1) - wrap64 (q1 * r0)))] W fun e w' => e = .returned (encR (p2 * (q0 * r1 - q1 * r0))) ∧ Below W.heap.size W w') := Lib.hid (fun W => by
    have h := prod_sub Fq0 Fr1 Fq1 Fr0
    have h1 := prod_in Fq0 Fr1
    have h2 := prod_in Fq1 Fr0
    rw [IntWalk.wrap64_in (q0 * r1) (by omega), IntWalk.wrap64_in (q1 * r0) (by omega), IntWalk.wrap64_in (q0 * r1 - q1 * r0) (by omega)]
    exact refProd_any _ _ ⟨by omega, by omega⟩ h W)
  clear Fp0 Fp1 Fp2 Fq0 Fq1 Fq2 Fr0 Fr1 Fr2
  have kad := Lib.hid refAdd_any
  have MB := Lib.hid (three_start w (o4 p0 p1 p2 p3 168) (o4 q0 q1 q2 q3 168) (o4 r0 r1 r2 r3 168) (.cells #[.int .u64 0, .int .u64 0] 175 (0, 0)))
  go_enter Try.func191, Try.ntmps191
  go_upto_region 1 with fail
  generalize (((w.alloc (o4 p0 p1 p2 p3 168)).alloc (o4 q0 q1 q2 q3 168)).alloc (o4 r0 r1 r2 r3 168)).alloc (.cells #[.int .u64 0, .int .u64 0] 175 (0, 0)) = W0 at *
  obtain ⟨k0, k1, k2, k3, k4, k5, k6, k7, k8⟩ := ref3_cells MB.out
  go_wp2_with fail
  refine (kp0.out _).mono ?_
  rintro e wn ⟨rfl, hbn⟩
  clear k0 k1 k2 k3 k4 k5 k6 k7 k8
  replace MB := Lib.hid (MB.out.next hbn)
  clear hbn
  go_upto_region 2 with fail
  have hA1 : Hid (Apart wn.heap.size [(w.heap.size, o4 p0 p1 p2 p3 168), (w.heap.size + 1, o4 q0 q1 q2 q3 168), (w.heap.size + 1 + 1, o4 r0 r1 r2 r3 168), (w.heap.size + 1 + 1 + 1, (.cells #[.int .u64 0, .int .u64 0] 175 (0, 0)))]) := Lib.hid MB.out.apart
  replace MB := Lib.hid (MB.out.add (oR (p0 * (q1 * r2 - q2 * r1))))
  generalize World.alloc wn (oR (p0 * (q1 * r2 - q2 * r1))) = W1 at *
  generalize wn.heap.size = A1 at *
  obtain ⟨k0, k1, k2, k3, k4, k5, k6, k7, k8⟩ := ref3_cells MB.out.tail
  go_wp2_with fail
  refine (kp1.out _).mono ?_
  rintro e wn ⟨rfl, hbn⟩
  clear k0 k1 k2 k3 k4 k5 k6 k7 k8
  replace MB := Lib.hid (MB.out.next hbn)
  clear hbn
  go_upto_region 3 with fail
  have hA2 : Hid (Apart wn.heap.size [(A1, oR (p0 * (q1 * r2 - q2 * r1))), (w.heap.size, o4 p0 p1 p2 p3 168), (w.heap.size + 1, o4 q0 q1 q2 q3 168), (w.heap.size + 1 + 1, o4 r0 r1 r2 r3 168), (w.heap.size + 1 + 1 + 1, (.cells #[.int .u64 0, .int .u64 0] 175 (0, 0)))]) := Lib.hid MB.out.apart
  replace MB := Lib.hid (MB.out.add (oR (p1 * (q2 * r0 - q0 * r2))))
  generalize World.alloc wn (oR (p1 * (q2 * r0 - q0 * r2))) = W2 at *
  generalize wn.heap.size = A2 at *
  obtain ⟨k0, k1, k2, k3, k4, k5, k6, k7, k8⟩ := ref3_cells MB.out.tail.tail
  go_wp2_with fail
  refine (kp2.out _).mono ?_
  rintro e wn ⟨rfl, hbn⟩
  clear k0 k1 k2 k3 k4 k5 k6 k7 k8
  replace MB := Lib.hid (MB.out.next hbn)
  clear hbn
  go_upto_region 4 with fail
  have hA3 : Hid (Apart wn.heap.size [(A2, oR (p1 * (q2 * r0 - q0 * r2))), (A1, oR (p0 * (q1 * r2 - q2 * r1))), (w.heap.size, o4 p0 p1 p2 p3 168), (w.heap.size + 1, o4 q0 q1 q2 q3 168), (w.heap.size + 1 + 1, o4 r0 r1 r2 r3 168), (w.heap.size + 1 + 1 + 1, (.cells #[.int .u64 0, .int .u64 0] 175 (0, 0)))]) := Lib.hid MB.out.apart
  replace MB := Lib.hid (MB.out.add (oR (p2 * (q0 * r1 - q1 * r0))))
  generalize World.alloc wn (oR (p2 * (q0 * r1 - q1 * r0))) = W3 at *
  generalize wn.heap.size = A3 at *
  replace MB := Lib.hid (MB.out.sub (l' := (w.heap.size + 1 + 1 + 1, (.cells #[.int .u64 0, .int .u64 0] 175 (0, 0))) :: [(A3, oR (p2 * (q0 * r1 - q1 * r0))), (A2, oR (p1 * (q2 * r0 - q0 * r2))), (A1, oR (p0 * (q1 * r2 - q2 * r1)))]) (fun p hp => by
    rcases List.mem_cons.1 hp with h | h
    · rw [h]; simp
    · simp at h ⊢
      rcases h with h | h | h <;> simp [h]))
  have AP : Apart (w.heap.size + 1 + 1 + 1) [(A3, oR (p2 * (q0 * r1 - q1 * r0))), (A2, oR (p1 * (q2 * r0 - q0 * r2))), (A1, oR (p0 * (q1 * r2 - q2 * r1)))] := fun p hp => by
    simp at hp
    rcases hp with rfl | rfl | rfl
    · exact fun e => hA3.out (w.heap.size + 1 + 1 + 1, (.cells #[.int .u64 0, .int .u64 0] 175 (0, 0))) (by simp) e.symm
    · exact fun e => hA2.out (w.heap.size + 1 + 1 + 1, (.cells #[.int .u64 0, .int .u64 0] 175 (0, 0))) (by simp) e.symm
    · exact fun e => hA1.out (w.heap.size + 1 + 1 + 1, (.cells #[.int .u64 0, .int .u64 0] 175 (0, 0))) (by simp) e.symm
  replace AP := Lib.hid AP
  refine wp_region_held_drew (S := fun w' => Mem w [(A3, oR (p2 * (q0 * r1 - q1 * r0))), (A2, oR (p1 * (q2 * r0 - q0 * r2))), (A1, oR (p0 * (q1 * r2 - q2 * r1)))] w') (by kernel_rfl) MB.out.drew.tail (fun hHeld => ?_)
  replace MB := Lib.hid MB.out.drew
  generalize World.drew W3 = wd at *
  refine wpAnyH_take (i := 0) (oi := ?o1) (v := ?v1) ?hi1 (by kernel_rfl) (by kernel_rfl) (by kernel_rfl) ?hQ1 ?hy1 (by assumption) ?rest1
  case hi1 => (simp only [List.getElem?_toArray, List.getElem?_cons_succ, List.getElem?_cons_zero]; rfl)
  case hQ1 => exact fun _ _ _ h => h
  case hy1 => (refine Or.inl ⟨by rfl, ?_⟩; intro w' hSw; obtain ⟨k0, k1, k2, k3, k4, k5⟩ := three_r hSw; go_simp; (try with_reducible rfl))
  try simp only [Act.put, List.setIfInBounds_toArray, List.set_cons_zero, List.set_cons_succ]
  refine wpAnyH_take (i := 1) (oi := ?o2) (v := ?v2) ?hi2 (by kernel_rfl) (by kernel_rfl) (by kernel_rfl) ?hQ2 ?hy2 (by assumption) ?rest2
  case hi2 => (simp only [List.getElem?_toArray, List.getElem?_cons_succ, List.getElem?_cons_zero]; rfl)
  case hQ2 => exact fun _ _ _ h => h
  case hy2 => (refine Or.inl ⟨by rfl, ?_⟩; intro w' hSw; obtain ⟨k0, k1, k2, k3, k4, k5⟩ := three_r hSw; go_simp; (try with_reducible rfl))
  try simp only [Act.put, List.setIfInBounds_toArray, List.set_cons_zero, List.set_cons_succ]
  refine wpAnyH_take (i := 3) (oi := ?o3) (v := ?v3) ?hi3 (by kernel_rfl) (by kernel_rfl) (by kernel_rfl) ?hQ3 ?hy3 (by assumption) ?rest3
  case hi3 => (simp only [List.getElem?_toArray, List.getElem?_cons_succ, List.getElem?_cons_zero]; rfl)
  case hQ3 => exact fun _ _ _ h => h
  case hy3 => (refine Or.inl ⟨by rfl, ?_⟩; intro w' hSw; obtain ⟨k0, k1, k2, k3, k4, k5⟩ := three_r hSw; go_simp; (try with_reducible rfl))
  try simp only [Act.put, List.setIfInBounds_toArray, List.set_cons_zero, List.set_cons_succ]
  refine wpAnyH_ready (rs := [2]) (by kernel_rfl) (by simp) ?_
  refine AllReadyH.cons (o := ?o9) ?hi9 (fun K hK => ?rest9) AllReadyH.nil
  case hi9 => (simp only [List.getElem?_toArray, List.getElem?_cons_succ, List.getElem?_cons_zero]; rfl)
  go_simp
  go_at_call 193
  refine (kad.out _ _ _).mono ?_
  rintro e wn ⟨rfl, hbn⟩
  replace MB := Lib.hid (MB.out.next hbn)
  clear hbn
  refine hK.out _ _ MB.out.tail (fun hHeld => ?_)
  clear hK K
  try simp only [Act.put, List.setIfInBounds_toArray, List.set_cons_zero, List.set_cons_succ]
  refine wpAnyH_ready (rs := [4]) (by kernel_rfl) (by simp) ?_
  refine AllReadyH.cons (o := ?o7) ?hi7 (fun K hK => ?rest7) AllReadyH.nil
  case hi7 => (simp only [List.getElem?_toArray, List.getElem?_cons_succ, List.getElem?_cons_zero]; rfl)
  go_simp
  go_at_call 193
  refine (kad.out _ _ _).mono ?_
  rintro e wn ⟨rfl, hbn⟩
  replace MB := Lib.hid (MB.out.next hbn)
  clear hbn
  refine hK.out _ _ MB.out.tail (fun hHeld => ?_)
  clear hK K
  try simp only [Act.put, List.setIfInBounds_toArray, List.set_cons_zero, List.set_cons_succ]
  refine wpAnyH_ready (rs := [5]) (by kernel_rfl) (by simp) ?_
  refine AllReadyH.cons (o := ?o5) ?hi5 (fun K hK => ?rest5) AllReadyH.nil
  case hi5 => (simp only [List.getElem?_toArray, List.getElem?_cons_succ, List.getElem?_cons_zero]; rfl)
  obtain ⟨c0, c1, f0, f1⟩ := row2 MB.out.head
  go_simp
  clear c0 c1 f0 f1
  have MC : Mem w ((w.heap.size + 1 + 1 + 1, oR (p0 * (q1 * r2 - q2 * r1) + p1 * (q2 * r0 - q0 * r2) + p2 * (q0 * r1 - q1 * r0))) :: [(A3, oR (p2 * (q0 * r1 - q1 * r0))), (A2, oR (p1 * (q2 * r0 - q0 * r2))), (A1, oR (p0 * (q1 * r2 - q2 * r1)))]) _ := (MB.out.set AP.out (by omega) 0 (.int .u64 (hiR (p0 * (q1 * r2 - q2 * r1) + p1 * (q2 * r0 - q0 * r2) + p2 * (q0 * r1 - q1 * r0))))).set AP.out (by omega) 1 (.int .u64 (loZ (p0 * (q1 * r2 - q2 * r1) + p1 * (q2 * r0 - q0 * r2) + p2 * (q0 * r1 - q1 * r0))))
  replace MB := Lib.hid MC
  clear MC
  refine hK.out _ _ MB.out.tail (fun hHeld => ?_)
  clear hK K
  try simp only [Act.put, List.setIfInBounds_toArray, List.set_cons_zero, List.set_cons_succ]
  refine wpAnyH_done (by kernel_rfl) ?_ _
  obtain ⟨c0, c1, f0, f1⟩ := row2 MB.out.head
  go_wp2
  exact bodyPost_ret (v := encR (p0 * (q1 * r2 - q2 * r1) + p1 * (q2 * r0 - q0 * r2) + p2 * (q0 * r1 - q1 * r0))) (by simp [results, Try.results191, go_sem, c0, c1]) rfl ⟨rfl, MB.out.below⟩
end Go.Proofs.Ytojecaeblgghjaa
