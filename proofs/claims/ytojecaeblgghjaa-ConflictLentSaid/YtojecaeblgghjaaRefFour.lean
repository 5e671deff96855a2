/-
  carapaceref2.four. (Printed by mkreffour.py.)
-/
import Derived.Test.YtojecaeblgghjaaMovG
import Derived.Test.YtojecaeblgghjaaRefThree
import Derived.Deep.LoopGhost
import Derived.Deep.RegionHeld3
import Derived.Deep.CutBlock
set_option linter.unusedVariables false
set_option linter.unusedSimpArgs false
namespace Go.Proofs.Ytojecaeblgghjaa
open Go.RowKit Go.Sort LsP

theorem info_row4 : (Try.prog.info? 168).map (fun i => (i.zero, i.size, i.bytes)) = some (some (.agg #[.int .i64 0, .int .i64 0, .int .i64 0, .int .i64 0]), 4, 32) := by kernel_rfl

theorem appRow4_step {w W : World} {L : List (Nat × Obj)} {B0 k : Nat} {v : Value} {xs : List Int} (MB : Mem w L W) (hL : ∀ p, p ∈ L → p.1 < B0) (hw : w.heap.size ≤ B0) (own : W.ownsRow B0 168 4 v k (xs.map encI))
    (hB : B0 ≤ W.heap.size) (a b c d : Int) (hk : k ≤ 1000) :
    ∃ A' c' W', (Builtin.append_ #[170, 170] 170 #[v, .slice (some ⟨W.heap.size, 0, none⟩) 1 1]).run Try.prog (W.alloc (o4 a b c d 168)) = .ok (.slice A' (k + 1) c') W' ∧ Mem w L W' ∧
      W'.ownsRow B0 168 4 (.slice A' (k + 1) c') (k + 1) ((xs ++ [a, b, c, d]).map encI) ∧ B0 ≤ W'.heap.size := by
  obtain ⟨i0, hi0, hz0, hz1, hz2⟩ := info_parts info_row4
  have own2 := own_updK (F := fun _ => False) own (Upd.of_below ((Below.refl _ _).alloc (Nat.le_refl _) (o4 a b c d 168))) (fun _ _ => id)
  obtain ⟨v', w', hrun, h2, h3, _, h5⟩ := run_append_own_at (P := Try.prog) (W.alloc (o4 a b c d 168)) B0 170 170 168 i0 _ 4 32 Try.underlying170 hi0 hz0 hz1 hz2 rfl (by omega) v k _ own2 ⟨W.heap.size, 0, none⟩ 1 1 [.int .i64 a, .int .i64 b, .int .i64 c, .int .i64 d] rfl
    (fun j u hu => by
      have : (⟨W.heap.size, 0, none⟩ : Addr).add j = ⟨W.heap.size, j, none⟩ := by unfold Addr.add; split <;> simp_all
      rw [this, cell_of_row _ _ _ _ _ _ (heap_alloc_new W (o4 a b c d 168))]
      simpa using hu)
    (fun u hu => by simp at hu; rcases hu with rfl | rfl | rfl | rfl <;> rfl) (by unfold maxLen; omega) (by omega) (by simp; omega)
  obtain ⟨A', c', rfl, _⟩ := own_value h2
  have MA : Mem w L (W.alloc (o4 a b c d 168)) := (MB.add _).tail
  refine ⟨A', c', w', hrun, MA.grown h3 (fun b hb => ?_), by rw [List.map_append]; exact h2, Nat.le_trans (by simp; omega) h3.size⟩
  have hb0 := (own2.lt b hb).1
  exact ⟨by omega, fun p hp => by have := hL p hp; omega⟩

theorem memR_eq {w0 w : World} {l : List (Nat × Obj)} {b : Nat} {z z' : Int} (e : z' = z) (h : Mem w0 ((b, oR z) :: l) w) : Mem w0 ((b, oR z') :: l) w := by rw [e]; exact h

theorem own12 {W : World} {B0 : Nat} {V : Option Addr} {c : Nat} {x0 x1 x2 x3 x4 x5 x6 x7 x8 x9 x10 x11 : Int} (h : W.ownsRow B0 168 4 (.slice V 3 c) 3 (([] ++ [x0, x1, x2, x3] ++ [x4, x5, x6, x7] ++ [x8, x9, x10, x11] : List Int).map encI)) :
    ∃ g cur, V = some ⟨g, 0, none⟩ ∧ 3 ≤ c ∧ c ≤ maxLen ∧ W.heap[g]? = some (.cells cur 168 (0, 0)) ∧ B0 ≤ g ∧
      (cur[0]? = some (.int .i64 x0) ∧ cur[1]? = some (.int .i64 x1) ∧ cur[2]? = some (.int .i64 x2) ∧ cur[3]? = some (.int .i64 x3) ∧ cur[4]? = some (.int .i64 x4) ∧ cur[5]? = some (.int .i64 x5) ∧ cur[6]? = some (.int .i64 x6) ∧ cur[7]? = some (.int .i64 x7) ∧ cur[8]? = some (.int .i64 x8) ∧ cur[9]? = some (.int .i64 x9) ∧ cur[10]? = some (.int .i64 x10) ∧ cur[11]? = some (.int .i64 x11)) := by
  rcases h.2 with ⟨_, e0⟩ | ⟨g, cap, cur, e, hb, hg, hn, hm, hs, hx⟩
  · omega
  · injection e with e1 _ e3
    subst e1 e3
    refine ⟨g, cur, rfl, hn, hm, hg, hb, ?_⟩
    have at_ : ∀ i, i < 12 → cur[i]? = (([] ++ [x0, x1, x2, x3] ++ [x4, x5, x6, x7] ++ [x8, x9, x10, x11] : List Int).map encI)[i]? := fun i hi => by
      rw [← hx, List.getElem?_take, if_pos (by omega), Array.getElem?_toList]
    exact ⟨at_ 0 (by omega), at_ 1 (by omega), at_ 2 (by omega), at_ 3 (by omega), at_ 4 (by omega), at_ 5 (by omega), at_ 6 (by omega), at_ 7 (by omega), at_ 8 (by omega), at_ 9 (by omega), at_ 10 (by omega), at_ 11 (by omega)⟩

theorem cellsR12 {w0 w : World} {l : List (Nat × Obj)} {g : Nat} {cur : Array Value} {t : TypeId} {v0 v1 v2 v3 v4 v5 v6 v7 v8 v9 v10 v11 : Value} (h : Mem w0 ((g, .cells cur t (0, 0)) :: l) w)
    (hc : cur[0]? = some v0 ∧ cur[1]? = some v1 ∧ cur[2]? = some v2 ∧ cur[3]? = some v3 ∧ cur[4]? = some v4 ∧ cur[5]? = some v5 ∧ cur[6]? = some v6 ∧ cur[7]? = some v7 ∧ cur[8]? = some v8 ∧ cur[9]? = some v9 ∧ cur[10]? = some v10 ∧ cur[11]? = some v11) :
    w.cell? ⟨g, 0, none⟩ = some v0 ∧ w.cell? ⟨g, 1, none⟩ = some v1 ∧ w.cell? ⟨g, 2, none⟩ = some v2 ∧ w.cell? ⟨g, 3, none⟩ = some v3 ∧ w.cell? ⟨g, 4, none⟩ = some v4 ∧ w.cell? ⟨g, 5, none⟩ = some v5 ∧ w.cell? ⟨g, 6, none⟩ = some v6 ∧ w.cell? ⟨g, 7, none⟩ = some v7 ∧ w.cell? ⟨g, 8, none⟩ = some v8 ∧ w.cell? ⟨g, 9, none⟩ = some v9 ∧ w.cell? ⟨g, 10, none⟩ = some v10 ∧ w.cell? ⟨g, 11, none⟩ = some v11 := by
  have e : ∀ i, w.cell? ⟨g, i, none⟩ = cur[i]? := fun i => cell_of_row _ _ _ _ _ _ h.head
  simp only [e]
  exact hc

theorem fourR_start (w : World) (a b : Obj) {g : Nat} {o : Obj} (h : w.heap[g]? = some o) : Mem w [(w.heap.size + 1, b), (w.heap.size, a), (g, o)] ((w.alloc a).alloc b) := by
  have h := ((((Mem.nil w).cons h).add a).add b)
  simp only [World.size_alloc] at h
  exact h

set_option maxHeartbeats 16000000 in
set_option maxRecDepth 100000 in
theorem refFour_any (b : Nat) (A : List Int) (w : World) (hb : w.heap[b]? = some (oI A 168)) (hA : A.length = 16) (hF : ∀ o : Nat, FitI A[o]!) :
    Calls Try.prog 167 #[.slice (some ⟨b, 0, none⟩) 4 4] w fun e w' => e = .returned (encR (sum4 A 4)) ∧ Below w.heap.size w w' := by
  have hbl : b < w.heap.size := (Array.getElem?_eq_some_iff.1 hb).1
  have LA := Lib.hid hA
  have FA := Lib.hid hF
  have MB0 := Lib.hid (show Mem w [(w.heap.size + 1, oR (sum4 A 0)), (w.heap.size, (.cells #[.int .u64 0, .int .u64 0] 175 (0, 0))), (b, oI A 168)] ((w.alloc (.cells #[.int .u64 0, .int .u64 0] 175 (0, 0))).alloc (.cells #[.int .u64 0, .int .u64 0] 175 (0, 0))) from fourR_start w (.cells #[.int .u64 0, .int .u64 0] 175 (0, 0)) (.cells #[.int .u64 0, .int .u64 0] 175 (0, 0)) hb)
  have APS : Hid (Apart (w.heap.size + 1) [(w.heap.size, (.cells #[.int .u64 0, .int .u64 0] 175 (0, 0))), (b, oI A 168)]) := Lib.hid (fun p hp => by simp at hp; rcases hp with rfl | rfl <;> simp only <;> omega)
  clear hb hA hF
  go_enter Try.func167, Try.ntmps167
  go_wp2_with fail
  go_loopw [4] (fun i wx => ∃ r : Nat, r ≤ 4 ∧ i = .int .i64 r ∧ Hid (Mem w [(w.heap.size + 1, oR (sum4 A r)), (w.heap.size, (.cells #[.int .u64 0, .int .u64 0] 175 (0, 0))), (b, oI A 168)] wx)) (fun i _ => 4 - (intOf i).toNat)
  case atStart => exact ⟨0, by omega, rfl, MB0.out⟩
  case round =>
    clear MB0
    obtain ⟨r, hr, rfl, MB⟩ := hrel
    replace MB := Lib.hid MB.out
    by_cases hr4 : r < 4
    · rcases (by omega : r = 0 ∨ r = 1 ∨ r = 2 ∨ r = 3) with rfl | rfl | rfl | rfl
      · have cW := cellI MB.out.tail.tail.head (o := 3) (by rw [LA.out]; omega)
        by_cases e0 : A[3]! = 0
        · have hT : Hid (sum4 A 1 = sum4 A 0) := by
            show sum4 _ _ = _
            rw [show sum4 A 1 = sum4 A 0 + term4 A 0 from rfl, term4_z (r := 0) e0, Int.add_zero]
          have e1 : (A[3]! == 0) = true := by simpa using e0
          clear e0
          generalize A[3]! = vW at *
          go_wp2_with fail
          go_roundw
          case rel => exact ⟨1, by omega, by go_num, by rw [hT.out]; exact MB.out⟩
          case measure => simp [intOf]
        · have hT : Hid (sum4 A 1 = sum4 A 0 + -d3 A 1 2 3) := by
            show sum4 _ _ = _
            rw [show sum4 A 1 = sum4 A 0 + term4 A 0 from rfl, term4_0 e0]
          have e1 : (A[3]! == 0) = false := by simpa using e0
          clear e0
          have kth : ∀ W, Calls Try.prog 191 #[.agg #[.int .i64 A[4]!, .int .i64 A[5]!, .int .i64 A[6]!, .int .i64 A[7]!], .agg #[.int .i64 A[8]!, .int .i64 A[9]!, .int .i64 A[10]!, .int .i64 A[11]!], .agg #[.int .i64 A[12]!, .int .i64 A[13]!, .int .i64 A[14]!, .int .i64 A[15]!]] W fun e w' => e = .returned (encR (d3 A 1 2 3)) ∧ Below W.heap.size W w' := fun W => refThree_any _ _ _ _ _ _ _ _ _ _ _ _ (FA.out _) (FA.out _) (FA.out _) (FA.out _) (FA.out _) (FA.out _) (FA.out _) (FA.out _) (FA.out _) W
          replace kth := Lib.hid kth
          have KC : Hid ((∀ W : World, W.heap[b]? = some (oI A 168) → W.cell? ⟨b, 4, none⟩ = some (.int .i64 A[4]!)) ∧ (∀ W : World, W.heap[b]? = some (oI A 168) → W.cell? ⟨b, 5, none⟩ = some (.int .i64 A[5]!)) ∧ (∀ W : World, W.heap[b]? = some (oI A 168) → W.cell? ⟨b, 6, none⟩ = some (.int .i64 A[6]!)) ∧ (∀ W : World, W.heap[b]? = some (oI A 168) → W.cell? ⟨b, 7, none⟩ = some (.int .i64 A[7]!)) ∧ (∀ W : World, W.heap[b]? = some (oI A 168) → W.cell? ⟨b, 8, none⟩ = some (.int .i64 A[8]!)) ∧ (∀ W : World, W.heap[b]? = some (oI A 168) → W.cell? ⟨b, 9, none⟩ = some (.int .i64 A[9]!)) ∧ (∀ W : World, W.heap[b]? = some (oI A 168) → W.cell? ⟨b, 10, none⟩ = some (.int .i64 A[10]!)) ∧ (∀ W : World, W.heap[b]? = some (oI A 168) → W.cell? ⟨b, 11, none⟩ = some (.int .i64 A[11]!)) ∧ (∀ W : World, W.heap[b]? = some (oI A 168) → W.cell? ⟨b, 12, none⟩ = some (.int .i64 A[12]!)) ∧ (∀ W : World, W.heap[b]? = some (oI A 168) → W.cell? ⟨b, 13, none⟩ = some (.int .i64 A[13]!)) ∧ (∀ W : World, W.heap[b]? = some (oI A 168) → W.cell? ⟨b, 14, none⟩ = some (.int .i64 A[14]!)) ∧ (∀ W : World, W.heap[b]? = some (oI A 168) → W.cell? ⟨b, 15, none⟩ = some (.int .i64 A[15]!))) := Lib.hid ⟨fun W h => cellI h (by rw [LA.out]; omega), fun W h => cellI h (by rw [LA.out]; omega), fun W h => cellI h (by rw [LA.out]; omega), fun W h => cellI h (by rw [LA.out]; omega), fun W h => cellI h (by rw [LA.out]; omega), fun W h => cellI h (by rw [LA.out]; omega), fun W h => cellI h (by rw [LA.out]; omega), fun W h => cellI h (by rw [LA.out]; omega), fun W h => cellI h (by rw [LA.out]; omega), fun W h => cellI h (by rw [LA.out]; omega), fun W h => cellI h (by rw [LA.out]; omega), fun W h => cellI h (by rw [LA.out]; omega)⟩
          generalize A[3]! = vW at *
          generalize A[4]! = v4 at *
          generalize A[5]! = v5 at *
          generalize A[6]! = v6 at *
          generalize A[7]! = v7 at *
          generalize A[8]! = v8 at *
          generalize A[9]! = v9 at *
          generalize A[10]! = v10 at *
          generalize A[11]! = v11 at *
          generalize A[12]! = v12 at *
          generalize A[13]! = v13 at *
          generalize A[14]! = v14 at *
          generalize A[15]! = v15 at *
          have hL : Hid (∀ p, p ∈ [(w.heap.size + 1, oR (sum4 A 0)), (w.heap.size, (.cells #[.int .u64 0, .int .u64 0] 175 (0, 0))), (b, oI A 168)] → p.1 < wr.heap.size) := Lib.hid (fun p hp => MB.out.lt hp)
          have hw0 : Hid (w.heap.size ≤ wr.heap.size) := Lib.hid MB.out.above
          have own0 : Hid (wr.ownsRow wr.heap.size 168 4 (.slice none 0 0) 0 (([] : List Int).map encI)) := Lib.hid (World.ownsRow_nil wr wr.heap.size 168 4)
          have hB0 : Hid (wr.heap.size ≤ wr.heap.size) := Lib.hid (Nat.le_refl _)
          generalize hBB : wr.heap.size = B0 at hL hw0 own0 hB0
          have hB0' : Hid (B0 ≤ wr.heap.size) := Lib.hid (by rw [hBB]; exact Nat.le_refl _)
          clear hBB hB0
          go_wp2_with fail
          refine wp_loop_rounds 5 ?_
          rw [rounds_succ]
          go_wp2_with fail
          rw [rounds_succ]
          obtain ⟨V1, c1, W1, run1, MB1, own1, hB1⟩ := appRow4_step MB.out hL.out hw0.out own0.out hB0'.out v4 v5 v6 v7 (by omega)
          have k0 := KC.out.1 _ MB.out.tail.tail.head
          have k1 := KC.out.2.1 _ MB.out.tail.tail.head
          have k2 := KC.out.2.2.1 _ MB.out.tail.tail.head
          have k3 := KC.out.2.2.2.1 _ MB.out.tail.tail.head
          have lsb := MB.out.lt (p := (b, oI A 168)) (by simp)
          simp only at lsb
          replace run1 := Lib.hid run1
          replace own1 := Lib.hid own1
          replace hB1 := Lib.hid hB1
          go_wp2_with (first | (at_builtin; refine wpList_append_run (o := ⟨some 31, _, _, _, _, _⟩) rfl _ _ _ rfl rfl rfl run1.out ?_))
          clear k0 k1 k2 k3 lsb run1 MB own0 hB0'
          have MB := Lib.hid MB1
          clear MB1
          rw [rounds_succ]
          obtain ⟨V2, c2, W2, run2, MB2, own2, hB2⟩ := appRow4_step MB.out hL.out hw0.out own1.out hB1.out v8 v9 v10 v11 (by omega)
          have k0 := KC.out.2.2.2.2.1 _ MB.out.tail.tail.head
          have k1 := KC.out.2.2.2.2.2.1 _ MB.out.tail.tail.head
          have k2 := KC.out.2.2.2.2.2.2.1 _ MB.out.tail.tail.head
          have k3 := KC.out.2.2.2.2.2.2.2.1 _ MB.out.tail.tail.head
          have lsb := MB.out.lt (p := (b, oI A 168)) (by simp)
          simp only at lsb
          replace run2 := Lib.hid run2
          replace own2 := Lib.hid own2
          replace hB2 := Lib.hid hB2
          go_wp2_with (first | (at_builtin; refine wpList_append_run (o := ⟨some 31, _, _, _, _, _⟩) rfl _ _ _ rfl rfl rfl run2.out ?_))
          clear k0 k1 k2 k3 lsb run2 MB own1 hB1
          have MB := Lib.hid MB2
          clear MB2
          rw [rounds_succ]
          obtain ⟨V3, c3, W3, run3, MB3, own3, hB3⟩ := appRow4_step MB.out hL.out hw0.out own2.out hB2.out v12 v13 v14 v15 (by omega)
          have k0 := KC.out.2.2.2.2.2.2.2.2.1 _ MB.out.tail.tail.head
          have k1 := KC.out.2.2.2.2.2.2.2.2.2.1 _ MB.out.tail.tail.head
          have k2 := KC.out.2.2.2.2.2.2.2.2.2.2.1 _ MB.out.tail.tail.head
          have k3 := KC.out.2.2.2.2.2.2.2.2.2.2.2 _ MB.out.tail.tail.head
          have lsb := MB.out.lt (p := (b, oI A 168)) (by simp)
          simp only at lsb
          replace run3 := Lib.hid run3
          replace own3 := Lib.hid own3
          replace hB3 := Lib.hid hB3
          go_wp2_with (first | (at_builtin; refine wpList_append_run (o := ⟨some 31, _, _, _, _, _⟩) rfl _ _ _ rfl rfl rfl run3.out ?_))
          clear k0 k1 k2 k3 lsb run3 MB own2 hB2
          have MB := Lib.hid MB3
          clear MB3
          rw [rounds_succ]
          obtain ⟨g, cur, eV, hc3, hcm, hg, hbg, HC⟩ := own12 own3.out
          subst eV
          replace HC := Lib.hid HC
          have MG : Mem w [(g, .cells cur 168 (0, 0)), (w.heap.size + 1, oR (sum4 A 0)), (w.heap.size, (.cells #[.int .u64 0, .int .u64 0] 175 (0, 0))), (b, oI A 168)] W3 := MB.out.cons hg
          replace MB := Lib.hid MG
          unfold maxLen at hcm
          clear MG hg own3 KC
          go_wp2_with fail
          refine wp_region_held_drew (S := fun w' => Mem w [(g, .cells cur 168 (0, 0)), (w.heap.size + 1, oR (sum4 A 0)), (w.heap.size, (.cells #[.int .u64 0, .int .u64 0] 175 (0, 0))), (b, oI A 168)] w') (by kernel_rfl) MB.out.drew (fun hHeld => ?_)
          replace MB := Lib.hid MB.out.drew
          generalize World.drew W3 = wd at *
          refine wpAnyH_take (i := 0) (oi := ?o1) (v := ?v1) ?hi1 (by kernel_rfl) (by kernel_rfl) (by kernel_rfl) ?hQ1 ?hy1 (by assumption) ?rest1
          case hi1 => (simp only [List.getElem?_toArray, List.getElem?_cons_succ, List.getElem?_cons_zero]; rfl)
          case hQ1 => exact fun _ _ _ h => h
          case hy1 => (refine Or.inl ⟨by rfl, ?_⟩; intro w' hSw; obtain ⟨k0, k1, k2, k3, k4, k5, k6, k7, k8, k9, k10, k11⟩ := cellsR12 hSw HC.out; go_simp; (try with_reducible rfl))
          try simp only [Act.put, List.setIfInBounds_toArray, List.set_cons_zero, List.set_cons_succ]
          refine wpAnyH_take (i := 1) (oi := ?o2) (v := ?v2) ?hi2 (by kernel_rfl) (by kernel_rfl) (by kernel_rfl) ?hQ2 ?hy2 (by assumption) ?rest2
          case hi2 => (simp only [List.getElem?_toArray, List.getElem?_cons_succ, List.getElem?_cons_zero]; rfl)
          case hQ2 => exact fun _ _ _ h => h
          case hy2 => (refine Or.inl ⟨by rfl, ?_⟩; intro w' hSw; obtain ⟨k0, k1, k2, k3, k4, k5, k6, k7, k8, k9, k10, k11⟩ := cellsR12 hSw HC.out; go_simp; (try with_reducible rfl))
          try simp only [Act.put, List.setIfInBounds_toArray, List.set_cons_zero, List.set_cons_succ]
          refine wpAnyH_take (i := 2) (oi := ?o3) (v := ?v3) ?hi3 (by kernel_rfl) (by kernel_rfl) (by kernel_rfl) ?hQ3 ?hy3 (by assumption) ?rest3
          case hi3 => (simp only [List.getElem?_toArray, List.getElem?_cons_succ, List.getElem?_cons_zero]; rfl)
          case hQ3 => exact fun _ _ _ h => h
          case hy3 => (refine Or.inl ⟨by rfl, ?_⟩; intro w' hSw; obtain ⟨k0, k1, k2, k3, k4, k5, k6, k7, k8, k9, k10, k11⟩ := cellsR12 hSw HC.out; go_simp; (try with_reducible rfl))
          try simp only [Act.put, List.setIfInBounds_toArray, List.set_cons_zero, List.set_cons_succ]
          refine wpAnyH_take (i := 3) (oi := ?o4) (v := ?v4) ?hi4 (by kernel_rfl) (by kernel_rfl) (by kernel_rfl) ?hQ4 ?hy4 (by assumption) ?rest4
          case hi4 => (simp only [List.getElem?_toArray, List.getElem?_cons_succ, List.getElem?_cons_zero]; rfl)
          case hQ4 => exact fun _ _ _ h => h
          case hy4 => (refine Or.inl ⟨by rfl, ?_⟩; intro w' hSw; obtain ⟨k0, k1, k2, k3, k4, k5, k6, k7, k8, k9, k10, k11⟩ := cellsR12 hSw HC.out; go_simp; (try with_reducible rfl))
          try simp only [Act.put, List.setIfInBounds_toArray, List.set_cons_zero, List.set_cons_succ]
          refine wpAnyH_take (i := 4) (oi := ?o5) (v := ?v5) ?hi5 (by kernel_rfl) (by kernel_rfl) (by kernel_rfl) ?hQ5 ?hy5 (by assumption) ?rest5
          case hi5 => (simp only [List.getElem?_toArray, List.getElem?_cons_succ, List.getElem?_cons_zero]; rfl)
          case hQ5 => exact fun _ _ _ h => h
          case hy5 => (refine Or.inl ⟨by rfl, ?_⟩; intro w' hSw; obtain ⟨k0, k1, k2, k3, k4, k5, k6, k7, k8, k9, k10, k11⟩ := cellsR12 hSw HC.out; go_simp; (try with_reducible rfl))
          try simp only [Act.put, List.setIfInBounds_toArray, List.set_cons_zero, List.set_cons_succ]
          refine wpAnyH_take (i := 5) (oi := ?o6) (v := ?v6) ?hi6 (by kernel_rfl) (by kernel_rfl) (by kernel_rfl) ?hQ6 ?hy6 (by assumption) ?rest6
          case hi6 => (simp only [List.getElem?_toArray, List.getElem?_cons_succ, List.getElem?_cons_zero]; rfl)
          case hQ6 => exact fun _ _ _ h => h
          case hy6 => (refine Or.inl ⟨by rfl, ?_⟩; intro w' hSw; obtain ⟨k0, k1, k2, k3, k4, k5, k6, k7, k8, k9, k10, k11⟩ := cellsR12 hSw HC.out; go_simp; (try with_reducible rfl))
          try simp only [Act.put, List.setIfInBounds_toArray, List.set_cons_zero, List.set_cons_succ]
          refine wpAnyH_take (i := 6) (oi := ?o7) (v := ?v7) ?hi7 (by kernel_rfl) (by kernel_rfl) (by kernel_rfl) ?hQ7 ?hy7 (by assumption) ?rest7
          case hi7 => (simp only [List.getElem?_toArray, List.getElem?_cons_succ, List.getElem?_cons_zero]; rfl)
          case hQ7 => exact fun _ _ _ h => h
          case hy7 => (refine Or.inl ⟨by rfl, ?_⟩; intro w' hSw; obtain ⟨k0, k1, k2, k3, k4, k5, k6, k7, k8, k9, k10, k11⟩ := cellsR12 hSw HC.out; go_simp; (try with_reducible rfl))
          try simp only [Act.put, List.setIfInBounds_toArray, List.set_cons_zero, List.set_cons_succ]
          refine wpAnyH_take (i := 7) (oi := ?o8) (v := ?v8) ?hi8 (by kernel_rfl) (by kernel_rfl) (by kernel_rfl) ?hQ8 ?hy8 (by assumption) ?rest8
          case hi8 => (simp only [List.getElem?_toArray, List.getElem?_cons_succ, List.getElem?_cons_zero]; rfl)
          case hQ8 => exact fun _ _ _ h => h
          case hy8 => (refine Or.inl ⟨by rfl, ?_⟩; intro w' hSw; obtain ⟨k0, k1, k2, k3, k4, k5, k6, k7, k8, k9, k10, k11⟩ := cellsR12 hSw HC.out; go_simp; (try with_reducible rfl))
          try simp only [Act.put, List.setIfInBounds_toArray, List.set_cons_zero, List.set_cons_succ]
          refine wpAnyH_take (i := 8) (oi := ?o9) (v := ?v9) ?hi9 (by kernel_rfl) (by kernel_rfl) (by kernel_rfl) ?hQ9 ?hy9 (by assumption) ?rest9
          case hi9 => (simp only [List.getElem?_toArray, List.getElem?_cons_succ, List.getElem?_cons_zero]; rfl)
          case hQ9 => exact fun _ _ _ h => h
          case hy9 => (refine Or.inl ⟨by rfl, ?_⟩; intro w' hSw; obtain ⟨k0, k1, k2, k3, k4, k5, k6, k7, k8, k9, k10, k11⟩ := cellsR12 hSw HC.out; go_simp; (try with_reducible rfl))
          try simp only [Act.put, List.setIfInBounds_toArray, List.set_cons_zero, List.set_cons_succ]
          refine wpAnyH_ready (rs := [9, 10]) (by kernel_rfl) (by simp) ?_
          refine AllReadyH.cons (o := ?o19) ?hi19 (fun K hK => ?rest19) ?more19
          case hi19 => (simp only [List.getElem?_toArray, List.getElem?_cons_succ, List.getElem?_cons_zero]; rfl)
          case rest19 =>
            go_simp
            go_at_call 191
            refine (kth.out _).mono ?_
            rintro e wn ⟨rfl, hbn⟩
            replace MB := Lib.hid (MB.out.next hbn)
            clear hbn
            refine hK.out _ _ MB.out (fun hHeld => ?_)
            clear hK K
            try simp only [Act.put, List.setIfInBounds_toArray, List.set_cons_zero, List.set_cons_succ]
            refine wpAnyH_ready (rs := [10]) (by kernel_rfl) (by simp) ?_
            refine AllReadyH.cons (o := ?o13) ?hi13 (fun K hK => ?rest13) AllReadyH.nil
            case hi13 => (simp only [List.getElem?_toArray, List.getElem?_cons_succ, List.getElem?_cons_zero]; rfl)
            go_simp
            have AP := Lib.hid MB.out.apart
            have LE := Lib.hid MB.out.above
            replace MB := Lib.hid (MB.out.add (.cells #[.int .u64 0, .int .u64 0] 175 (0, 0)))
            refine hK.out _ _ MB.out.tail (fun hHeld => ?_)
            clear hK K
            try simp only [Act.put, List.setIfInBounds_toArray, List.set_cons_zero, List.set_cons_succ]
            generalize hAA : World.heap wn = hp at *
            generalize hp.size = A1 at *
            generalize World.alloc wn (.cells #[.int .u64 0, .int .u64 0] 175 (0, 0)) = wa at *
            clear hAA
            refine wpAnyH_ready (rs := [11]) (by kernel_rfl) (by simp) ?_
            refine AllReadyH.cons (o := ?o11) ?hi11 (fun K hK => ?rest11) AllReadyH.nil
            case hi11 => (simp only [List.getElem?_toArray, List.getElem?_cons_succ, List.getElem?_cons_zero]; rfl)
            obtain ⟨c0, c1, f0, f1⟩ := row2 MB.out.head
            go_simp
            clear c0 c1 f0 f1
            have MC : Mem w ((A1, oR (d3 A 1 2 3)) :: [(g, .cells cur 168 (0, 0)), (w.heap.size + 1, oR (sum4 A 0)), (w.heap.size, (.cells #[.int .u64 0, .int .u64 0] 175 (0, 0))), (b, oI A 168)]) _ := (MB.out.set AP.out LE.out 0 (.int .u64 (hiR (d3 A 1 2 3)))).set AP.out LE.out 1 (.int .u64 (loZ (d3 A 1 2 3)))
            replace MB := Lib.hid MC
            clear MC
            refine hK.out _ _ MB.out.tail (fun hHeld => ?_)
            clear hK K
            try simp only [Act.put, List.setIfInBounds_toArray, List.set_cons_zero, List.set_cons_succ]
            refine wpAnyH_done (by kernel_rfl) ?_ _
            obtain ⟨c0, c1, f0, f1⟩ := row2 MB.out.head
            go_wp2_with fail
            refine (refNeg_any _ _).mono ?_
            rintro e wn2 ⟨rfl, hbn2⟩
            replace MB := Lib.hid (MB.out.next hbn2)
            clear c0 c1 f0 f1 hbn2
            obtain ⟨c0, c1, f0, f1⟩ := row2 MB.out.head
            have hne : ¬ w.heap.size + 1 = A1 := AP.out (w.heap.size + 1, oR (sum4 A 0)) (by simp)
            have hne2 : ¬ A1 = w.heap.size + 1 := fun h => hne h.symm
            obtain ⟨s0, s1, t0, t1⟩ := row2 MB.out.tail.tail.head
            replace MB := Lib.hid (MB.out.setR AP.out LE.out (-(d3 A 1 2 3)))
            go_wp2_with fail
            refine (refAdd_any _ _ _).mono ?_
            rintro e wm ⟨rfl, hbm⟩
            replace MB := Lib.hid (MB.out.next hbm)
            clear c0 c1 f0 f1 s0 s1 t0 t1 hbm
            obtain ⟨s0, s1, t0, t1⟩ := row2 MB.out.tail.tail.head
            have MF : Mem w ((w.heap.size + 1, oR (sum4 A 0 + (-(d3 A 1 2 3)))) :: [(w.heap.size, (.cells #[.int .u64 0, .int .u64 0] 175 (0, 0))), (b, oI A 168)]) _ := (MB.out.tail.tail).setR APS.out (by omega) _
            have MF2 := memR_eq hT.out MF
            replace MB := Lib.hid MF2
            clear MF MF2
            go_wp2_with fail
            go_roundw
            case rel => exact ⟨1, by omega, by go_num, MB.out⟩
            case measure => simp [intOf]
          refine AllReadyH.cons (o := ?o20) ?hi20 (fun K hK => ?rest20) AllReadyH.nil
          case hi20 => (simp only [List.getElem?_toArray, List.getElem?_cons_succ, List.getElem?_cons_zero]; rfl)
          go_simp
          have AP := Lib.hid MB.out.apart
          have LE := Lib.hid MB.out.above
          replace MB := Lib.hid (MB.out.add (.cells #[.int .u64 0, .int .u64 0] 175 (0, 0)))
          refine hK.out _ _ MB.out.tail (fun hHeld => ?_)
          clear hK K
          try simp only [Act.put, List.setIfInBounds_toArray, List.set_cons_zero, List.set_cons_succ]
          generalize hAA : World.heap wd = hp at *
          generalize hp.size = A1 at *
          generalize World.alloc wd (.cells #[.int .u64 0, .int .u64 0] 175 (0, 0)) = wa at *
          clear hAA
          refine wpAnyH_ready (rs := [9]) (by kernel_rfl) (by simp) ?_
          refine AllReadyH.cons (o := ?o17) ?hi17 (fun K hK => ?rest17) AllReadyH.nil
          case hi17 => (simp only [List.getElem?_toArray, List.getElem?_cons_succ, List.getElem?_cons_zero]; rfl)
          go_simp
          go_at_call 191
          refine (kth.out _).mono ?_
          rintro e wn ⟨rfl, hbn⟩
          replace MB := Lib.hid (MB.out.next hbn)
          clear hbn
          refine hK.out _ _ MB.out.tail (fun hHeld => ?_)
          clear hK K
          try simp only [Act.put, List.setIfInBounds_toArray, List.set_cons_zero, List.set_cons_succ]
          refine wpAnyH_ready (rs := [11]) (by kernel_rfl) (by simp) ?_
          refine AllReadyH.cons (o := ?o15) ?hi15 (fun K hK => ?rest15) AllReadyH.nil
          case hi15 => (simp only [List.getElem?_toArray, List.getElem?_cons_succ, List.getElem?_cons_zero]; rfl)
          obtain ⟨c0, c1, f0, f1⟩ := row2 MB.out.head
          go_simp
          clear c0 c1 f0 f1
          have MC : Mem w ((A1, oR (d3 A 1 2 3)) :: [(g, .cells cur 168 (0, 0)), (w.heap.size + 1, oR (sum4 A 0)), (w.heap.size, (.cells #[.int .u64 0, .int .u64 0] 175 (0, 0))), (b, oI A 168)]) _ := (MB.out.set AP.out LE.out 0 (.int .u64 (hiR (d3 A 1 2 3)))).set AP.out LE.out 1 (.int .u64 (loZ (d3 A 1 2 3)))
          replace MB := Lib.hid MC
          clear MC
          refine hK.out _ _ MB.out.tail (fun hHeld => ?_)
          clear hK K
          try simp only [Act.put, List.setIfInBounds_toArray, List.set_cons_zero, List.set_cons_succ]
          refine wpAnyH_done (by kernel_rfl) ?_ _
          obtain ⟨c0, c1, f0, f1⟩ := row2 MB.out.head
          go_wp2_with fail
          refine (refNeg_any _ _).mono ?_
          rintro e wn2 ⟨rfl, hbn2⟩
          replace MB := Lib.hid (MB.out.next hbn2)
          clear c0 c1 f0 f1 hbn2
          obtain ⟨c0, c1, f0, f1⟩ := row2 MB.out.head
          have hne : ¬ w.heap.size + 1 = A1 := AP.out (w.heap.size + 1, oR (sum4 A 0)) (by simp)
          have hne2 : ¬ A1 = w.heap.size + 1 := fun h => hne h.symm
          obtain ⟨s0, s1, t0, t1⟩ := row2 MB.out.tail.tail.head
          replace MB := Lib.hid (MB.out.setR AP.out LE.out (-(d3 A 1 2 3)))
          go_wp2_with fail
          refine (refAdd_any _ _ _).mono ?_
          rintro e wm ⟨rfl, hbm⟩
          replace MB := Lib.hid (MB.out.next hbm)
          clear c0 c1 f0 f1 s0 s1 t0 t1 hbm
          obtain ⟨s0, s1, t0, t1⟩ := row2 MB.out.tail.tail.head
          have MF : Mem w ((w.heap.size + 1, oR (sum4 A 0 + (-(d3 A 1 2 3)))) :: [(w.heap.size, (.cells #[.int .u64 0, .int .u64 0] 175 (0, 0))), (b, oI A 168)]) _ := (MB.out.tail.tail).setR APS.out (by omega) _
          have MF2 := memR_eq hT.out MF
          replace MB := Lib.hid MF2
          clear MF MF2
          go_wp2_with fail
          go_roundw
          case rel => exact ⟨1, by omega, by go_num, MB.out⟩
          case measure => simp [intOf]
      · have cW := cellI MB.out.tail.tail.head (o := 7) (by rw [LA.out]; omega)
        by_cases e0 : A[7]! = 0
        · have hT : Hid (sum4 A 2 = sum4 A 1) := by
            show sum4 _ _ = _
            rw [show sum4 A 2 = sum4 A 1 + term4 A 1 from rfl, term4_z (r := 1) e0, Int.add_zero]
          have e1 : (A[7]! == 0) = true := by simpa using e0
          clear e0
          generalize A[7]! = vW at *
          go_wp2_with fail
          go_roundw
          case rel => exact ⟨2, by omega, by go_num, by rw [hT.out]; exact MB.out⟩
          case measure => simp [intOf]
        · have hT : Hid (sum4 A 2 = sum4 A 1 + d3 A 0 2 3) := by
            show sum4 _ _ = _
            rw [show sum4 A 2 = sum4 A 1 + term4 A 1 from rfl, term4_1 e0]
          have e1 : (A[7]! == 0) = false := by simpa using e0
          clear e0
          have kth : ∀ W, Calls Try.prog 191 #[.agg #[.int .i64 A[0]!, .int .i64 A[1]!, .int .i64 A[2]!, .int .i64 A[3]!], .agg #[.int .i64 A[8]!, .int .i64 A[9]!, .int .i64 A[10]!, .int .i64 A[11]!], .agg #[.int .i64 A[12]!, .int .i64 A[13]!, .int .i64 A[14]!, .int .i64 A[15]!]] W fun e w' => e = .returned (encR (d3 A 0 2 3)) ∧ Below W.heap.size W w' := fun W => refThree_any _ _ _ _ _ _ _ _ _ _ _ _ (FA.out _) (FA.out _) (FA.out _) (FA.out _) (FA.out _) (FA.out _) (FA.out _) (FA.out _) (FA.out _) W
          replace kth := Lib.hid kth
          have KC : Hid ((∀ W : World, W.heap[b]? = some (oI A 168) → W.cell? ⟨b, 0, none⟩ = some (.int .i64 A[0]!)) ∧ (∀ W : World, W.heap[b]? = some (oI A 168) → W.cell? ⟨b, 1, none⟩ = some (.int .i64 A[1]!)) ∧ (∀ W : World, W.heap[b]? = some (oI A 168) → W.cell? ⟨b, 2, none⟩ = some (.int .i64 A[2]!)) ∧ (∀ W : World, W.heap[b]? = some (oI A 168) → W.cell? ⟨b, 3, none⟩ = some (.int .i64 A[3]!)) ∧ (∀ W : World, W.heap[b]? = some (oI A 168) → W.cell? ⟨b, 8, none⟩ = some (.int .i64 A[8]!)) ∧ (∀ W : World, W.heap[b]? = some (oI A 168) → W.cell? ⟨b, 9, none⟩ = some (.int .i64 A[9]!)) ∧ (∀ W : World, W.heap[b]? = some (oI A 168) → W.cell? ⟨b, 10, none⟩ = some (.int .i64 A[10]!)) ∧ (∀ W : World, W.heap[b]? = some (oI A 168) → W.cell? ⟨b, 11, none⟩ = some (.int .i64 A[11]!)) ∧ (∀ W : World, W.heap[b]? = some (oI A 168) → W.cell? ⟨b, 12, none⟩ = some (.int .i64 A[12]!)) ∧ (∀ W : World, W.heap[b]? = some (oI A 168) → W.cell? ⟨b, 13, none⟩ = some (.int .i64 A[13]!)) ∧ (∀ W : World, W.heap[b]? = some (oI A 168) → W.cell? ⟨b, 14, none⟩ = some (.int .i64 A[14]!)) ∧ (∀ W : World, W.heap[b]? = some (oI A 168) → W.cell? ⟨b, 15, none⟩ = some (.int .i64 A[15]!))) := Lib.hid ⟨fun W h => cellI h (by rw [LA.out]; omega), fun W h => cellI h (by rw [LA.out]; omega), fun W h => cellI h (by rw [LA.out]; omega), fun W h => cellI h (by rw [LA.out]; omega), fun W h => cellI h (by rw [LA.out]; omega), fun W h => cellI h (by rw [LA.out]; omega), fun W h => cellI h (by rw [LA.out]; omega), fun W h => cellI h (by rw [LA.out]; omega), fun W h => cellI h (by rw [LA.out]; omega), fun W h => cellI h (by rw [LA.out]; omega), fun W h => cellI h (by rw [LA.out]; omega), fun W h => cellI h (by rw [LA.out]; omega)⟩
          generalize A[7]! = vW at *
          generalize A[0]! = v0 at *
          generalize A[1]! = v1 at *
          generalize A[2]! = v2 at *
          generalize A[3]! = v3 at *
          generalize A[8]! = v8 at *
          generalize A[9]! = v9 at *
          generalize A[10]! = v10 at *
          generalize A[11]! = v11 at *
          generalize A[12]! = v12 at *
          generalize A[13]! = v13 at *
          generalize A[14]! = v14 at *
          generalize A[15]! = v15 at *
          have hL : Hid (∀ p, p ∈ [(w.heap.size + 1, oR (sum4 A 1)), (w.heap.size, (.cells #[.int .u64 0, .int .u64 0] 175 (0, 0))), (b, oI A 168)] → p.1 < wr.heap.size) := Lib.hid (fun p hp => MB.out.lt hp)
          have hw0 : Hid (w.heap.size ≤ wr.heap.size) := Lib.hid MB.out.above
          have own0 : Hid (wr.ownsRow wr.heap.size 168 4 (.slice none 0 0) 0 (([] : List Int).map encI)) := Lib.hid (World.ownsRow_nil wr wr.heap.size 168 4)
          have hB0 : Hid (wr.heap.size ≤ wr.heap.size) := Lib.hid (Nat.le_refl _)
          generalize hBB : wr.heap.size = B0 at hL hw0 own0 hB0
          have hB0' : Hid (B0 ≤ wr.heap.size) := Lib.hid (by rw [hBB]; exact Nat.le_refl _)
          clear hBB hB0
          go_wp2_with fail
          refine wp_loop_rounds 5 ?_
          rw [rounds_succ]
          obtain ⟨V1, c1, W1, run1, MB1, own1, hB1⟩ := appRow4_step MB.out hL.out hw0.out own0.out hB0'.out v0 v1 v2 v3 (by omega)
          have k0 := KC.out.1 _ MB.out.tail.tail.head
          have k1 := KC.out.2.1 _ MB.out.tail.tail.head
          have k2 := KC.out.2.2.1 _ MB.out.tail.tail.head
          have k3 := KC.out.2.2.2.1 _ MB.out.tail.tail.head
          have lsb := MB.out.lt (p := (b, oI A 168)) (by simp)
          simp only at lsb
          replace run1 := Lib.hid run1
          replace own1 := Lib.hid own1
          replace hB1 := Lib.hid hB1
          go_wp2_with (first | (at_builtin; refine wpList_append_run (o := ⟨some 31, _, _, _, _, _⟩) rfl _ _ _ rfl rfl rfl run1.out ?_))
          clear k0 k1 k2 k3 lsb run1 MB own0 hB0'
          have MB := Lib.hid MB1
          clear MB1
          rw [rounds_succ]
          go_wp2_with fail
          rw [rounds_succ]
          obtain ⟨V2, c2, W2, run2, MB2, own2, hB2⟩ := appRow4_step MB.out hL.out hw0.out own1.out hB1.out v8 v9 v10 v11 (by omega)
          have k0 := KC.out.2.2.2.2.1 _ MB.out.tail.tail.head
          have k1 := KC.out.2.2.2.2.2.1 _ MB.out.tail.tail.head
          have k2 := KC.out.2.2.2.2.2.2.1 _ MB.out.tail.tail.head
          have k3 := KC.out.2.2.2.2.2.2.2.1 _ MB.out.tail.tail.head
          have lsb := MB.out.lt (p := (b, oI A 168)) (by simp)
          simp only at lsb
          replace run2 := Lib.hid run2
          replace own2 := Lib.hid own2
          replace hB2 := Lib.hid hB2
          go_wp2_with (first | (at_builtin; refine wpList_append_run (o := ⟨some 31, _, _, _, _, _⟩) rfl _ _ _ rfl rfl rfl run2.out ?_))
          clear k0 k1 k2 k3 lsb run2 MB own1 hB1
          have MB := Lib.hid MB2
          clear MB2
          rw [rounds_succ]
          obtain ⟨V3, c3, W3, run3, MB3, own3, hB3⟩ := appRow4_step MB.out hL.out hw0.out own2.out hB2.out v12 v13 v14 v15 (by omega)
          have k0 := KC.out.2.2.2.2.2.2.2.2.1 _ MB.out.tail.tail.head
          have k1 := KC.out.2.2.2.2.2.2.2.2.2.1 _ MB.out.tail.tail.head
          have k2 := KC.out.2.2.2.2.2.2.2.2.2.2.1 _ MB.out.tail.tail.head
          have k3 := KC.out.2.2.2.2.2.2.2.2.2.2.2 _ MB.out.tail.tail.head
          have lsb := MB.out.lt (p := (b, oI A 168)) (by simp)
          simp only at lsb
          replace run3 := Lib.hid run3
          replace own3 := Lib.hid own3
          replace hB3 := Lib.hid hB3
          go_wp2_with (first | (at_builtin; refine wpList_append_run (o := ⟨some 31, _, _, _, _, _⟩) rfl _ _ _ rfl rfl rfl run3.out ?_))
          clear k0 k1 k2 k3 lsb run3 MB own2 hB2
          have MB := Lib.hid MB3
          clear MB3
          rw [rounds_succ]
          obtain ⟨g, cur, eV, hc3, hcm, hg, hbg, HC⟩ := own12 own3.out
          subst eV
          replace HC := Lib.hid HC
          have MG : Mem w [(g, .cells cur 168 (0, 0)), (w.heap.size + 1, oR (sum4 A 1)), (w.heap.size, (.cells #[.int .u64 0, .int .u64 0] 175 (0, 0))), (b, oI A 168)] W3 := MB.out.cons hg
          replace MB := Lib.hid MG
          unfold maxLen at hcm
          clear MG hg own3 KC
          go_wp2_with fail
          refine wp_region_held_drew (S := fun w' => Mem w [(g, .cells cur 168 (0, 0)), (w.heap.size + 1, oR (sum4 A 1)), (w.heap.size, (.cells #[.int .u64 0, .int .u64 0] 175 (0, 0))), (b, oI A 168)] w') (by kernel_rfl) MB.out.drew (fun hHeld => ?_)
          replace MB := Lib.hid MB.out.drew
          generalize World.drew W3 = wd at *
          refine wpAnyH_take (i := 0) (oi := ?o21) (v := ?v21) ?hi21 (by kernel_rfl) (by kernel_rfl) (by kernel_rfl) ?hQ21 ?hy21 (by assumption) ?rest21
          case hi21 => (simp only [List.getElem?_toArray, List.getElem?_cons_succ, List.getElem?_cons_zero]; rfl)
          case hQ21 => exact fun _ _ _ h => h
          case hy21 => (refine Or.inl ⟨by rfl, ?_⟩; intro w' hSw; obtain ⟨k0, k1, k2, k3, k4, k5, k6, k7, k8, k9, k10, k11⟩ := cellsR12 hSw HC.out; go_simp; (try with_reducible rfl))
          try simp only [Act.put, List.setIfInBounds_toArray, List.set_cons_zero, List.set_cons_succ]
          refine wpAnyH_take (i := 1) (oi := ?o22) (v := ?v22) ?hi22 (by kernel_rfl) (by kernel_rfl) (by kernel_rfl) ?hQ22 ?hy22 (by assumption) ?rest22
          case hi22 => (simp only [List.getElem?_toArray, List.getElem?_cons_succ, List.getElem?_cons_zero]; rfl)
          case hQ22 => exact fun _ _ _ h => h
          case hy22 => (refine Or.inl ⟨by rfl, ?_⟩; intro w' hSw; obtain ⟨k0, k1, k2, k3, k4, k5, k6, k7, k8, k9, k10, k11⟩ := cellsR12 hSw HC.out; go_simp; (try with_reducible rfl))
          try simp only [Act.put, List.setIfInBounds_toArray, List.set_cons_zero, List.set_cons_succ]
          refine wpAnyH_take (i := 2) (oi := ?o23) (v := ?v23) ?hi23 (by kernel_rfl) (by kernel_rfl) (by kernel_rfl) ?hQ23 ?hy23 (by assumption) ?rest23
          case hi23 => (simp only [List.getElem?_toArray, List.getElem?_cons_succ, List.getElem?_cons_zero]; rfl)
          case hQ23 => exact fun _ _ _ h => h
          case hy23 => (refine Or.inl ⟨by rfl, ?_⟩; intro w' hSw; obtain ⟨k0, k1, k2, k3, k4, k5, k6, k7, k8, k9, k10, k11⟩ := cellsR12 hSw HC.out; go_simp; (try with_reducible rfl))
          try simp only [Act.put, List.setIfInBounds_toArray, List.set_cons_zero, List.set_cons_succ]
          refine wpAnyH_take (i := 3) (oi := ?o24) (v := ?v24) ?hi24 (by kernel_rfl) (by kernel_rfl) (by kernel_rfl) ?hQ24 ?hy24 (by assumption) ?rest24
          case hi24 => (simp only [List.getElem?_toArray, List.getElem?_cons_succ, List.getElem?_cons_zero]; rfl)
          case hQ24 => exact fun _ _ _ h => h
          case hy24 => (refine Or.inl ⟨by rfl, ?_⟩; intro w' hSw; obtain ⟨k0, k1, k2, k3, k4, k5, k6, k7, k8, k9, k10, k11⟩ := cellsR12 hSw HC.out; go_simp; (try with_reducible rfl))
          try simp only [Act.put, List.setIfInBounds_toArray, List.set_cons_zero, List.set_cons_succ]
          refine wpAnyH_take (i := 4) (oi := ?o25) (v := ?v25) ?hi25 (by kernel_rfl) (by kernel_rfl) (by kernel_rfl) ?hQ25 ?hy25 (by assumption) ?rest25
          case hi25 => (simp only [List.getElem?_toArray, List.getElem?_cons_succ, List.getElem?_cons_zero]; rfl)
          case hQ25 => exact fun _ _ _ h => h
          case hy25 => (refine Or.inl ⟨by rfl, ?_⟩; intro w' hSw; obtain ⟨k0, k1, k2, k3, k4, k5, k6, k7, k8, k9, k10, k11⟩ := cellsR12 hSw HC.out; go_simp; (try with_reducible rfl))
          try simp only [Act.put, List.setIfInBounds_toArray, List.set_cons_zero, List.set_cons_succ]
          refine wpAnyH_take (i := 5) (oi := ?o26) (v := ?v26) ?hi26 (by kernel_rfl) (by kernel_rfl) (by kernel_rfl) ?hQ26 ?hy26 (by assumption) ?rest26
          case hi26 => (simp only [List.getElem?_toArray, List.getElem?_cons_succ, List.getElem?_cons_zero]; rfl)
          case hQ26 => exact fun _ _ _ h => h
          case hy26 => (refine Or.inl ⟨by rfl, ?_⟩; intro w' hSw; obtain ⟨k0, k1, k2, k3, k4, k5, k6, k7, k8, k9, k10, k11⟩ := cellsR12 hSw HC.out; go_simp; (try with_reducible rfl))
          try simp only [Act.put, List.setIfInBounds_toArray, List.set_cons_zero, List.set_cons_succ]
          refine wpAnyH_take (i := 6) (oi := ?o27) (v := ?v27) ?hi27 (by kernel_rfl) (by kernel_rfl) (by kernel_rfl) ?hQ27 ?hy27 (by assumption) ?rest27
          case hi27 => (simp only [List.getElem?_toArray, List.getElem?_cons_succ, List.getElem?_cons_zero]; rfl)
          case hQ27 => exact fun _ _ _ h => h
          case hy27 => (refine Or.inl ⟨by rfl, ?_⟩; intro w' hSw; obtain ⟨k0, k1, k2, k3, k4, k5, k6, k7, k8, k9, k10, k11⟩ := cellsR12 hSw HC.out; go_simp; (try with_reducible rfl))
          try simp only [Act.put, List.setIfInBounds_toArray, List.set_cons_zero, List.set_cons_succ]
          refine wpAnyH_take (i := 7) (oi := ?o28) (v := ?v28) ?hi28 (by kernel_rfl) (by kernel_rfl) (by kernel_rfl) ?hQ28 ?hy28 (by assumption) ?rest28
          case hi28 => (simp only [List.getElem?_toArray, List.getElem?_cons_succ, List.getElem?_cons_zero]; rfl)
          case hQ28 => exact fun _ _ _ h => h
          case hy28 => (refine Or.inl ⟨by rfl, ?_⟩; intro w' hSw; obtain ⟨k0, k1, k2, k3, k4, k5, k6, k7, k8, k9, k10, k11⟩ := cellsR12 hSw HC.out; go_simp; (try with_reducible rfl))
          try simp only [Act.put, List.setIfInBounds_toArray, List.set_cons_zero, List.set_cons_succ]
          refine wpAnyH_take (i := 8) (oi := ?o29) (v := ?v29) ?hi29 (by kernel_rfl) (by kernel_rfl) (by kernel_rfl) ?hQ29 ?hy29 (by assumption) ?rest29
          case hi29 => (simp only [List.getElem?_toArray, List.getElem?_cons_succ, List.getElem?_cons_zero]; rfl)
          case hQ29 => exact fun _ _ _ h => h
          case hy29 => (refine Or.inl ⟨by rfl, ?_⟩; intro w' hSw; obtain ⟨k0, k1, k2, k3, k4, k5, k6, k7, k8, k9, k10, k11⟩ := cellsR12 hSw HC.out; go_simp; (try with_reducible rfl))
          try simp only [Act.put, List.setIfInBounds_toArray, List.set_cons_zero, List.set_cons_succ]
          refine wpAnyH_ready (rs := [9, 10]) (by kernel_rfl) (by simp) ?_
          refine AllReadyH.cons (o := ?o39) ?hi39 (fun K hK => ?rest39) ?more39
          case hi39 => (simp only [List.getElem?_toArray, List.getElem?_cons_succ, List.getElem?_cons_zero]; rfl)
          case rest39 =>
            go_simp
            go_at_call 191
            refine (kth.out _).mono ?_
            rintro e wn ⟨rfl, hbn⟩
            replace MB := Lib.hid (MB.out.next hbn)
            clear hbn
            refine hK.out _ _ MB.out (fun hHeld => ?_)
            clear hK K
            try simp only [Act.put, List.setIfInBounds_toArray, List.set_cons_zero, List.set_cons_succ]
            refine wpAnyH_ready (rs := [10]) (by kernel_rfl) (by simp) ?_
            refine AllReadyH.cons (o := ?o33) ?hi33 (fun K hK => ?rest33) AllReadyH.nil
            case hi33 => (simp only [List.getElem?_toArray, List.getElem?_cons_succ, List.getElem?_cons_zero]; rfl)
            go_simp
            have AP := Lib.hid MB.out.apart
            have LE := Lib.hid MB.out.above
            replace MB := Lib.hid (MB.out.add (.cells #[.int .u64 0, .int .u64 0] 175 (0, 0)))
            refine hK.out _ _ MB.out.tail (fun hHeld => ?_)
            clear hK K
            try simp only [Act.put, List.setIfInBounds_toArray, List.set_cons_zero, List.set_cons_succ]
            generalize hAA : World.heap wn = hp at *
            generalize hp.size = A1 at *
            generalize World.alloc wn (.cells #[.int .u64 0, .int .u64 0] 175 (0, 0)) = wa at *
            clear hAA
            refine wpAnyH_ready (rs := [11]) (by kernel_rfl) (by simp) ?_
            refine AllReadyH.cons (o := ?o31) ?hi31 (fun K hK => ?rest31) AllReadyH.nil
            case hi31 => (simp only [List.getElem?_toArray, List.getElem?_cons_succ, List.getElem?_cons_zero]; rfl)
            obtain ⟨c0, c1, f0, f1⟩ := row2 MB.out.head
            go_simp
            clear c0 c1 f0 f1
            have MC : Mem w ((A1, oR (d3 A 0 2 3)) :: [(g, .cells cur 168 (0, 0)), (w.heap.size + 1, oR (sum4 A 1)), (w.heap.size, (.cells #[.int .u64 0, .int .u64 0] 175 (0, 0))), (b, oI A 168)]) _ := (MB.out.set AP.out LE.out 0 (.int .u64 (hiR (d3 A 0 2 3)))).set AP.out LE.out 1 (.int .u64 (loZ (d3 A 0 2 3)))
            replace MB := Lib.hid MC
            clear MC
            refine hK.out _ _ MB.out.tail (fun hHeld => ?_)
            clear hK K
            try simp only [Act.put, List.setIfInBounds_toArray, List.set_cons_zero, List.set_cons_succ]
            refine wpAnyH_done (by kernel_rfl) ?_ _
            obtain ⟨c0, c1, f0, f1⟩ := row2 MB.out.head
            obtain ⟨s0, s1, t0, t1⟩ := row2 MB.out.tail.tail.head
            go_wp2_with fail
            refine (refAdd_any _ _ _).mono ?_
            rintro e wm ⟨rfl, hbm⟩
            replace MB := Lib.hid (MB.out.next hbm)
            clear c0 c1 f0 f1 s0 s1 t0 t1 hbm
            obtain ⟨s0, s1, t0, t1⟩ := row2 MB.out.tail.tail.head
            have MF : Mem w ((w.heap.size + 1, oR (sum4 A 1 + (d3 A 0 2 3))) :: [(w.heap.size, (.cells #[.int .u64 0, .int .u64 0] 175 (0, 0))), (b, oI A 168)]) _ := (MB.out.tail.tail).setR APS.out (by omega) _
            have MF2 := memR_eq hT.out MF
            replace MB := Lib.hid MF2
            clear MF MF2
            go_wp2_with fail
            go_roundw
            case rel => exact ⟨2, by omega, by go_num, MB.out⟩
            case measure => simp [intOf]
          refine AllReadyH.cons (o := ?o40) ?hi40 (fun K hK => ?rest40) AllReadyH.nil
          case hi40 => (simp only [List.getElem?_toArray, List.getElem?_cons_succ, List.getElem?_cons_zero]; rfl)
          go_simp
          have AP := Lib.hid MB.out.apart
          have LE := Lib.hid MB.out.above
          replace MB := Lib.hid (MB.out.add (.cells #[.int .u64 0, .int .u64 0] 175 (0, 0)))
          refine hK.out _ _ MB.out.tail (fun hHeld => ?_)
          clear hK K
          try simp only [Act.put, List.setIfInBounds_toArray, List.set_cons_zero, List.set_cons_succ]
          generalize hAA : World.heap wd = hp at *
          generalize hp.size = A1 at *
          generalize World.alloc wd (.cells #[.int .u64 0, .int .u64 0] 175 (0, 0)) = wa at *
          clear hAA
          refine wpAnyH_ready (rs := [9]) (by kernel_rfl) (by simp) ?_
          refine AllReadyH.cons (o := ?o37) ?hi37 (fun K hK => ?rest37) AllReadyH.nil
          case hi37 => (simp only [List.getElem?_toArray, List.getElem?_cons_succ, List.getElem?_cons_zero]; rfl)
          go_simp
          go_at_call 191
          refine (kth.out _).mono ?_
          rintro e wn ⟨rfl, hbn⟩
          replace MB := Lib.hid (MB.out.next hbn)
          clear hbn
          refine hK.out _ _ MB.out.tail (fun hHeld => ?_)
          clear hK K
          try simp only [Act.put, List.setIfInBounds_toArray, List.set_cons_zero, List.set_cons_succ]
          refine wpAnyH_ready (rs := [11]) (by kernel_rfl) (by simp) ?_
          refine AllReadyH.cons (o := ?o35) ?hi35 (fun K hK => ?rest35) AllReadyH.nil
          case hi35 => (simp only [List.getElem?_toArray, List.getElem?_cons_succ, List.getElem?_cons_zero]; rfl)
          obtain ⟨c0, c1, f0, f1⟩ := row2 MB.out.head
          go_simp
          clear c0 c1 f0 f1
          have MC : Mem w ((A1, oR (d3 A 0 2 3)) :: [(g, .cells cur 168 (0, 0)), (w.heap.size + 1, oR (sum4 A 1)), (w.heap.size, (.cells #[.int .u64 0, .int .u64 0] 175 (0, 0))), (b, oI A 168)]) _ := (MB.out.set AP.out LE.out 0 (.int .u64 (hiR (d3 A 0 2 3)))).set AP.out LE.out 1 (.int .u64 (loZ (d3 A 0 2 3)))
          replace MB := Lib.hid MC
          clear MC
          refine hK.out _ _ MB.out.tail (fun hHeld => ?_)
          clear hK K
          try simp only [Act.put, List.setIfInBounds_toArray, List.set_cons_zero, List.set_cons_succ]
          refine wpAnyH_done (by kernel_rfl) ?_ _
          obtain ⟨c0, c1, f0, f1⟩ := row2 MB.out.head
          obtain ⟨s0, s1, t0, t1⟩ := row2 MB.out.tail.tail.head
          go_wp2_with fail
          refine (refAdd_any _ _ _).mono ?_
          rintro e wm ⟨rfl, hbm⟩
          replace MB := Lib.hid (MB.out.next hbm)
          clear c0 c1 f0 f1 s0 s1 t0 t1 hbm
          obtain ⟨s0, s1, t0, t1⟩ := row2 MB.out.tail.tail.head
          have MF : Mem w ((w.heap.size + 1, oR (sum4 A 1 + (d3 A 0 2 3))) :: [(w.heap.size, (.cells #[.int .u64 0, .int .u64 0] 175 (0, 0))), (b, oI A 168)]) _ := (MB.out.tail.tail).setR APS.out (by omega) _
          have MF2 := memR_eq hT.out MF
          replace MB := Lib.hid MF2
          clear MF MF2
          go_wp2_with fail
          go_roundw
          case rel => exact ⟨2, by omega, by go_num, MB.out⟩
          case measure => simp [intOf]
      · have cW := cellI MB.out.tail.tail.head (o := 11) (by rw [LA.out]; omega)
        by_cases e0 : A[11]! = 0
        · have hT : Hid (sum4 A 3 = sum4 A 2) := by
            show sum4 _ _ = _
            rw [show sum4 A 3 = sum4 A 2 + term4 A 2 from rfl, term4_z (r := 2) e0, Int.add_zero]
          have e1 : (A[11]! == 0) = true := by simpa using e0
          clear e0
          generalize A[11]! = vW at *
          go_wp2_with fail
          go_roundw
          case rel => exact ⟨3, by omega, by go_num, by rw [hT.out]; exact MB.out⟩
          case measure => simp [intOf]
        · have hT : Hid (sum4 A 3 = sum4 A 2 + -d3 A 0 1 3) := by
            show sum4 _ _ = _
            rw [show sum4 A 3 = sum4 A 2 + term4 A 2 from rfl, term4_2 e0]
          have e1 : (A[11]! == 0) = false := by simpa using e0
          clear e0
          have kth : ∀ W, Calls Try.prog 191 #[.agg #[.int .i64 A[0]!, .int .i64 A[1]!, .int .i64 A[2]!, .int .i64 A[3]!], .agg #[.int .i64 A[4]!, .int .i64 A[5]!, .int .i64 A[6]!, .int .i64 A[7]!], .agg #[.int .i64 A[12]!, .int .i64 A[13]!, .int .i64 A[14]!, .int .i64 A[15]!]] W fun e w' => e = .returned (encR (d3 A 0 1 3)) ∧ Below W.heap.size W w' := fun W => refThree_any _ _ _ _ _ _ _ _ _ _ _ _ (FA.out _) (FA.out _) (FA.out _) (FA.out _) (FA.out _) (FA.out _) (FA.out _) (FA.out _) (FA.out _) W
          replace kth := Lib.hid kth
          have KC : Hid ((∀ W : World, W.heap[b]? = some (oI A 168) → W.cell? ⟨b, 0, none⟩ = some (.int .i64 A[0]!)) ∧ (∀ W : World, W.heap[b]? = some (oI A 168) → W.cell? ⟨b, 1, none⟩ = some (.int .i64 A[1]!)) ∧ (∀ W : World, W.heap[b]? = some (oI A 168) → W.cell? ⟨b, 2, none⟩ = some (.int .i64 A[2]!)) ∧ (∀ W : World, W.heap[b]? = some (oI A 168) → W.cell? ⟨b, 3, none⟩ = some (.int .i64 A[3]!)) ∧ (∀ W : World, W.heap[b]? = some (oI A 168) → W.cell? ⟨b, 4, none⟩ = some (.int .i64 A[4]!)) ∧ (∀ W : World, W.heap[b]? = some (oI A 168) → W.cell? ⟨b, 5, none⟩ = some (.int .i64 A[5]!)) ∧ (∀ W : World, W.heap[b]? = some (oI A 168) → W.cell? ⟨b, 6, none⟩ = some (.int .i64 A[6]!)) ∧ (∀ W : World, W.heap[b]? = some (oI A 168) → W.cell? ⟨b, 7, none⟩ = some (.int .i64 A[7]!)) ∧ (∀ W : World, W.heap[b]? = some (oI A 168) → W.cell? ⟨b, 12, none⟩ = some (.int .i64 A[12]!)) ∧ (∀ W : World, W.heap[b]? = some (oI A 168) → W.cell? ⟨b, 13, none⟩ = some (.int .i64 A[13]!)) ∧ (∀ W : World, W.heap[b]? = some (oI A 168) → W.cell? ⟨b, 14, none⟩ = some (.int .i64 A[14]!)) ∧ (∀ W : World, W.heap[b]? = some (oI A 168) → W.cell? ⟨b, 15, none⟩ = some (.int .i64 A[15]!))) := Lib.hid ⟨fun W h => cellI h (by rw [LA.out]; omega), fun W h => cellI h (by rw [LA.out]; omega), fun W h => cellI h (by rw [LA.out]; omega), fun W h => cellI h (by rw [LA.out]; omega), fun W h => cellI h (by rw [LA.out]; omega), fun W h => cellI h (by rw [LA.out]; omega), fun W h => cellI h (by rw [LA.out]; omega), fun W h => cellI h (by rw [LA.out]; omega), fun W h => cellI h (by rw [LA.out]; omega), fun W h => cellI h (by rw [LA.out]; omega), fun W h => cellI h (by rw [LA.out]; omega), fun W h => cellI h (by rw [LA.out]; omega)⟩
          generalize A[11]! = vW at *
          generalize A[0]! = v0 at *
          generalize A[1]! = v1 at *
          generalize A[2]! = v2 at *
          generalize A[3]! = v3 at *
          generalize A[4]! = v4 at *
          generalize A[5]! = v5 at *
          generalize A[6]! = v6 at *
          generalize A[7]! = v7 at *
          generalize A[12]! = v12 at *
          generalize A[13]! = v13 at *
          generalize A[14]! = v14 at *
          generalize A[15]! = v15 at *
          have hL : Hid (∀ p, p ∈ [(w.heap.size + 1, oR (sum4 A 2)), (w.heap.size, (.cells #[.int .u64 0, .int .u64 0] 175 (0, 0))), (b, oI A 168)] → p.1 < wr.heap.size) := Lib.hid (fun p hp => MB.out.lt hp)
          have hw0 : Hid (w.heap.size ≤ wr.heap.size) := Lib.hid MB.out.above
          have own0 : Hid (wr.ownsRow wr.heap.size 168 4 (.slice none 0 0) 0 (([] : List Int).map encI)) := Lib.hid (World.ownsRow_nil wr wr.heap.size 168 4)
          have hB0 : Hid (wr.heap.size ≤ wr.heap.size) := Lib.hid (Nat.le_refl _)
          generalize hBB : wr.heap.size = B0 at hL hw0 own0 hB0
          have hB0' : Hid (B0 ≤ wr.heap.size) := Lib.hid (by rw [hBB]; exact Nat.le_refl _)
          clear hBB hB0
          go_wp2_with fail
          refine wp_loop_rounds 5 ?_
          rw [rounds_succ]
          obtain ⟨V1, c1, W1, run1, MB1, own1, hB1⟩ := appRow4_step MB.out hL.out hw0.out own0.out hB0'.out v0 v1 v2 v3 (by omega)
          have k0 := KC.out.1 _ MB.out.tail.tail.head
          have k1 := KC.out.2.1 _ MB.out.tail.tail.head
          have k2 := KC.out.2.2.1 _ MB.out.tail.tail.head
          have k3 := KC.out.2.2.2.1 _ MB.out.tail.tail.head
          have lsb := MB.out.lt (p := (b, oI A 168)) (by simp)
          simp only at lsb
          replace run1 := Lib.hid run1
          replace own1 := Lib.hid own1
          replace hB1 := Lib.hid hB1
          go_wp2_with (first | (at_builtin; refine wpList_append_run (o := ⟨some 31, _, _, _, _, _⟩) rfl _ _ _ rfl rfl rfl run1.out ?_))
          clear k0 k1 k2 k3 lsb run1 MB own0 hB0'
          have MB := Lib.hid MB1
          clear MB1
          rw [rounds_succ]
          obtain ⟨V2, c2, W2, run2, MB2, own2, hB2⟩ := appRow4_step MB.out hL.out hw0.out own1.out hB1.out v4 v5 v6 v7 (by omega)
          have k0 := KC.out.2.2.2.2.1 _ MB.out.tail.tail.head
          have k1 := KC.out.2.2.2.2.2.1 _ MB.out.tail.tail.head
          have k2 := KC.out.2.2.2.2.2.2.1 _ MB.out.tail.tail.head
          have k3 := KC.out.2.2.2.2.2.2.2.1 _ MB.out.tail.tail.head
          have lsb := MB.out.lt (p := (b, oI A 168)) (by simp)
          simp only at lsb
          replace run2 := Lib.hid run2
          replace own2 := Lib.hid own2
          replace hB2 := Lib.hid hB2
          go_wp2_with (first | (at_builtin; refine wpList_append_run (o := ⟨some 31, _, _, _, _, _⟩) rfl _ _ _ rfl rfl rfl run2.out ?_))
          clear k0 k1 k2 k3 lsb run2 MB own1 hB1
          have MB := Lib.hid MB2
          clear MB2
          rw [rounds_succ]
          go_wp2_with fail
          rw [rounds_succ]
          obtain ⟨V3, c3, W3, run3, MB3, own3, hB3⟩ := appRow4_step MB.out hL.out hw0.out own2.out hB2.out v12 v13 v14 v15 (by omega)
          have k0 := KC.out.2.2.2.2.2.2.2.2.1 _ MB.out.tail.tail.head
          have k1 := KC.out.2.2.2.2.2.2.2.2.2.1 _ MB.out.tail.tail.head
          have k2 := KC.out.2.2.2.2.2.2.2.2.2.2.1 _ MB.out.tail.tail.head
          have k3 := KC.out.2.2.2.2.2.2.2.2.2.2.2 _ MB.out.tail.tail.head
          have lsb := MB.out.lt (p := (b, oI A 168)) (by simp)
          simp only at lsb
          replace run3 := Lib.hid run3
          replace own3 := Lib.hid own3
          replace hB3 := Lib.hid hB3
          go_wp2_with (first | (at_builtin; refine wpList_append_run (o := ⟨some 31, _, _, _, _, _⟩) rfl _ _ _ rfl rfl rfl run3.out ?_))
          clear k0 k1 k2 k3 lsb run3 MB own2 hB2
          have MB := Lib.hid MB3
          clear MB3
          rw [rounds_succ]
          obtain ⟨g, cur, eV, hc3, hcm, hg, hbg, HC⟩ := own12 own3.out
          subst eV
          replace HC := Lib.hid HC
          have MG : Mem w [(g, .cells cur 168 (0, 0)), (w.heap.size + 1, oR (sum4 A 2)), (w.heap.size, (.cells #[.int .u64 0, .int .u64 0] 175 (0, 0))), (b, oI A 168)] W3 := MB.out.cons hg
          replace MB := Lib.hid MG
          unfold maxLen at hcm
          clear MG hg own3 KC
          go_wp2_with fail
          refine wp_region_held_drew (S := fun w' => Mem w [(g, .cells cur 168 (0, 0)), (w.heap.size + 1, oR (sum4 A 2)), (w.heap.size, (.cells #[.int .u64 0, .int .u64 0] 175 (0, 0))), (b, oI A 168)] w') (by kernel_rfl) MB.out.drew (fun hHeld => ?_)
          replace MB := Lib.hid MB.out.drew
          generalize World.drew W3 = wd at *
          refine wpAnyH_take (i := 0) (oi := ?o41) (v := ?v41) ?hi41 (by kernel_rfl) (by kernel_rfl) (by kernel_rfl) ?hQ41 ?hy41 (by assumption) ?rest41
          case hi41 => (simp only [List.getElem?_toArray, List.getElem?_cons_succ, List.getElem?_cons_zero]; rfl)
          case hQ41 => exact fun _ _ _ h => h
          case hy41 => (refine Or.inl ⟨by rfl, ?_⟩; intro w' hSw; obtain ⟨k0, k1, k2, k3, k4, k5, k6, k7, k8, k9, k10, k11⟩ := cellsR12 hSw HC.out; go_simp; (try with_reducible rfl))
          try simp only [Act.put, List.setIfInBounds_toArray, List.set_cons_zero, List.set_cons_succ]
          refine wpAnyH_take (i := 1) (oi := ?o42) (v := ?v42) ?hi42 (by kernel_rfl) (by kernel_rfl) (by kernel_rfl) ?hQ42 ?hy42 (by assumption) ?rest42
          case hi42 => (simp only [List.getElem?_toArray, List.getElem?_cons_succ, List.getElem?_cons_zero]; rfl)
          case hQ42 => exact fun _ _ _ h => h
          case hy42 => (refine Or.inl ⟨by rfl, ?_⟩; intro w' hSw; obtain ⟨k0, k1, k2, k3, k4, k5, k6, k7, k8, k9, k10, k11⟩ := cellsR12 hSw HC.out; go_simp; (try with_reducible rfl))
          try simp only [Act.put, List.setIfInBounds_toArray, List.set_cons_zero, List.set_cons_succ]
          refine wpAnyH_take (i := 2) (oi := ?o43) (v := ?v43) ?hi43 (by kernel_rfl) (by kernel_rfl) (by kernel_rfl) ?hQ43 ?hy43 (by assumption) ?rest43
          case hi43 => (simp only [List.getElem?_toArray, List.getElem?_cons_succ, List.getElem?_cons_zero]; rfl)
          case hQ43 => exact fun _ _ _ h => h
          case hy43 => (refine Or.inl ⟨by rfl, ?_⟩; intro w' hSw; obtain ⟨k0, k1, k2, k3, k4, k5, k6, k7, k8, k9, k10, k11⟩ := cellsR12 hSw HC.out; go_simp; (try with_reducible rfl))
          try simp only [Act.put, List.setIfInBounds_toArray, List.set_cons_zero, List.set_cons_succ]
          refine wpAnyH_take (i := 3) (oi := ?o44) (v := ?v44) ?hi44 (by kernel_rfl) (by kernel_rfl) (by kernel_rfl) ?hQ44 ?hy44 (by assumption) ?rest44
          case hi44 => (simp only [List.getElem?_toArray, List.getElem?_cons_succ, List.getElem?_cons_zero]; rfl)
          case hQ44 => exact fun _ _ _ h => h
          case hy44 => (refine Or.inl ⟨by rfl, ?_⟩; intro w' hSw; obtain ⟨k0, k1, k2, k3, k4, k5, k6, k7, k8, k9, k10, k11⟩ := cellsR12 hSw HC.out; go_simp; (try with_reducible rfl))
          try simp only [Act.put, List.setIfInBounds_toArray, List.set_cons_zero, List.set_cons_succ]
          refine wpAnyH_take (i := 4) (oi := ?o45) (v := ?v45) ?hi45 (by kernel_rfl) (by kernel_rfl) (by kernel_rfl) ?hQ45 ?hy45 (by assumption) ?rest45
          case hi45 => (simp only [List.getElem?_toArray, List.getElem?_cons_succ, List.getElem?_cons_zero]; rfl)
          case hQ45 => exact fun _ _ _ h => h
          case hy45 => (refine Or.inl ⟨by rfl, ?_⟩; intro w' hSw; obtain ⟨k0, k1, k2, k3, k4, k5, k6, k7, k8, k9, k10, k11⟩ := cellsR12 hSw HC.out; go_simp; (try with_reducible rfl))
          try simp only [Act.put, List.setIfInBounds_toArray, List.set_cons_zero, List.set_cons_succ]
          refine wpAnyH_take (i := 5) (oi := ?o46) (v := ?v46) ?hi46 (by kernel_rfl) (by kernel_rfl) (by kernel_rfl) ?hQ46 ?hy46 (by assumption) ?rest46
          case hi46 => (simp only [List.getElem?_toArray, List.getElem?_cons_succ, List.getElem?_cons_zero]; rfl)
          case hQ46 => exact fun _ _ _ h => h
          case hy46 => (refine Or.inl ⟨by rfl, ?_⟩; intro w' hSw; obtain ⟨k0, k1, k2, k3, k4, k5, k6, k7, k8, k9, k10, k11⟩ := cellsR12 hSw HC.out; go_simp; (try with_reducible rfl))
          try simp only [Act.put, List.setIfInBounds_toArray, List.set_cons_zero, List.set_cons_succ]
          refine wpAnyH_take (i := 6) (oi := ?o47) (v := ?v47) ?hi47 (by kernel_rfl) (by kernel_rfl) (by kernel_rfl) ?hQ47 ?hy47 (by assumption) ?rest47
          case hi47 => (simp only [List.getElem?_toArray, List.getElem?_cons_succ, List.getElem?_cons_zero]; rfl)
          case hQ47 => exact fun _ _ _ h => h
          case hy47 => (refine Or.inl ⟨by rfl, ?_⟩; intro w' hSw; obtain ⟨k0, k1, k2, k3, k4, k5, k6, k7, k8, k9, k10, k11⟩ := cellsR12 hSw HC.out; go_simp; (try with_reducible rfl))
          try simp only [Act.put, List.setIfInBounds_toArray, List.set_cons_zero, List.set_cons_succ]
          refine wpAnyH_take (i := 7) (oi := ?o48) (v := ?v48) ?hi48 (by kernel_rfl) (by kernel_rfl) (by kernel_rfl) ?hQ48 ?hy48 (by assumption) ?rest48
          case hi48 => (simp only [List.getElem?_toArray, List.getElem?_cons_succ, List.getElem?_cons_zero]; rfl)
          case hQ48 => exact fun _ _ _ h => h
          case hy48 => (refine Or.inl ⟨by rfl, ?_⟩; intro w' hSw; obtain ⟨k0, k1, k2, k3, k4, k5, k6, k7, k8, k9, k10, k11⟩ := cellsR12 hSw HC.out; go_simp; (try with_reducible rfl))
          try simp only [Act.put, List.setIfInBounds_toArray, List.set_cons_zero, List.set_cons_succ]
          refine wpAnyH_take (i := 8) (oi := ?o49) (v := ?v49) ?hi49 (by kernel_rfl) (by kernel_rfl) (by kernel_rfl) ?hQ49 ?hy49 (by assumption) ?rest49
          case hi49 => (simp only [List.getElem?_toArray, List.getElem?_cons_succ, List.getElem?_cons_zero]; rfl)
          case hQ49 => exact fun _ _ _ h => h
          case hy49 => (refine Or.inl ⟨by rfl, ?_⟩; intro w' hSw; obtain ⟨k0, k1, k2, k3, k4, k5, k6, k7, k8, k9, k10, k11⟩ := cellsR12 hSw HC.out; go_simp; (try with_reducible rfl))
          try simp only [Act.put, List.setIfInBounds_toArray, List.set_cons_zero, List.set_cons_succ]
          refine wpAnyH_ready (rs := [9, 10]) (by kernel_rfl) (by simp) ?_
          refine AllReadyH.cons (o := ?o59) ?hi59 (fun K hK => ?rest59) ?more59
          case hi59 => (simp only [List.getElem?_toArray, List.getElem?_cons_succ, List.getElem?_cons_zero]; rfl)
          case rest59 =>
            go_simp
            go_at_call 191
            refine (kth.out _).mono ?_
            rintro e wn ⟨rfl, hbn⟩
            replace MB := Lib.hid (MB.out.next hbn)
            clear hbn
            refine hK.out _ _ MB.out (fun hHeld => ?_)
            clear hK K
            try simp only [Act.put, List.setIfInBounds_toArray, List.set_cons_zero, List.set_cons_succ]
            refine wpAnyH_ready (rs := [10]) (by kernel_rfl) (by simp) ?_
            refine AllReadyH.cons (o := ?o53) ?hi53 (fun K hK => ?rest53) AllReadyH.nil
            case hi53 => (simp only [List.getElem?_toArray, List.getElem?_cons_succ, List.getElem?_cons_zero]; rfl)
            go_simp
            have AP := Lib.hid MB.out.apart
            have LE := Lib.hid MB.out.above
            replace MB := Lib.hid (MB.out.add (.cells #[.int .u64 0, .int .u64 0] 175 (0, 0)))
            refine hK.out _ _ MB.out.tail (fun hHeld => ?_)
            clear hK K
            try simp only [Act.put, List.setIfInBounds_toArray, List.set_cons_zero, List.set_cons_succ]
            generalize hAA : World.heap wn = hp at *
            generalize hp.size = A1 at *
            generalize World.alloc wn (.cells #[.int .u64 0, .int .u64 0] 175 (0, 0)) = wa at *
            clear hAA
            refine wpAnyH_ready (rs := [11]) (by kernel_rfl) (by simp) ?_
            refine AllReadyH.cons (o := ?o51) ?hi51 (fun K hK => ?rest51) AllReadyH.nil
            case hi51 => (simp only [List.getElem?_toArray, List.getElem?_cons_succ, List.getElem?_cons_zero]; rfl)
            obtain ⟨c0, c1, f0, f1⟩ := row2 MB.out.head
            go_simp
            clear c0 c1 f0 f1
            have MC : Mem w ((A1, oR (d3 A 0 1 3)) :: [(g, .cells cur 168 (0, 0)), (w.heap.size + 1, oR (sum4 A 2)), (w.heap.size, (.cells #[.int .u64 0, .int .u64 0] 175 (0, 0))), (b, oI A 168)]) _ := (MB.out.set AP.out LE.out 0 (.int .u64 (hiR (d3 A 0 1 3)))).set AP.out LE.out 1 (.int .u64 (loZ (d3 A 0 1 3)))
            replace MB := Lib.hid MC
            clear MC
            refine hK.out _ _ MB.out.tail (fun hHeld => ?_)
            clear hK K
            try simp only [Act.put, List.setIfInBounds_toArray, List.set_cons_zero, List.set_cons_succ]
            refine wpAnyH_done (by kernel_rfl) ?_ _
            obtain ⟨c0, c1, f0, f1⟩ := row2 MB.out.head
            go_wp2_with fail
            refine (refNeg_any _ _).mono ?_
            rintro e wn2 ⟨rfl, hbn2⟩
            replace MB := Lib.hid (MB.out.next hbn2)
            clear c0 c1 f0 f1 hbn2
            obtain ⟨c0, c1, f0, f1⟩ := row2 MB.out.head
            have hne : ¬ w.heap.size + 1 = A1 := AP.out (w.heap.size + 1, oR (sum4 A 2)) (by simp)
            have hne2 : ¬ A1 = w.heap.size + 1 := fun h => hne h.symm
            obtain ⟨s0, s1, t0, t1⟩ := row2 MB.out.tail.tail.head
            replace MB := Lib.hid (MB.out.setR AP.out LE.out (-(d3 A 0 1 3)))
            go_wp2_with fail
            refine (refAdd_any _ _ _).mono ?_
            rintro e wm ⟨rfl, hbm⟩
            replace MB := Lib.hid (MB.out.next hbm)
            clear c0 c1 f0 f1 s0 s1 t0 t1 hbm
            obtain ⟨s0, s1, t0, t1⟩ := row2 MB.out.tail.tail.head
            have MF : Mem w ((w.heap.size + 1, oR (sum4 A 2 + (-(d3 A 0 1 3)))) :: [(w.heap.size, (.cells #[.int .u64 0, .int .u64 0] 175 (0, 0))), (b, oI A 168)]) _ := (MB.out.tail.tail).setR APS.out (by omega) _
            have MF2 := memR_eq hT.out MF
            replace MB := Lib.hid MF2
            clear MF MF2
            go_wp2_with fail
            go_roundw
            case rel => exact ⟨3, by omega, by go_num, MB.out⟩
            case measure => simp [intOf]
          refine AllReadyH.cons (o := ?o60) ?hi60 (fun K hK => ?rest60) AllReadyH.nil
          case hi60 => (simp only [List.getElem?_toArray, List.getElem?_cons_succ, List.getElem?_cons_zero]; rfl)
          go_simp
          have AP := Lib.hid MB.out.apart
          have LE := Lib.hid MB.out.above
          replace MB := Lib.hid (MB.out.add (.cells #[.int .u64 0, .int .u64 0] 175 (0, 0)))
          refine hK.out _ _ MB.out.tail (fun hHeld => ?_)
          clear hK K
          try simp only [Act.put, List.setIfInBounds_toArray, List.set_cons_zero, List.set_cons_succ]
          generalize hAA : World.heap wd = hp at *
          generalize hp.size = A1 at *
          generalize World.alloc wd (.cells #[.int .u64 0, .int .u64 0] 175 (0, 0)) = wa at *
          clear hAA
          refine wpAnyH_ready (rs := [9]) (by kernel_rfl) (by simp) ?_
          refine AllReadyH.cons (o := ?o57) ?hi57 (fun K hK => ?rest57) AllReadyH.nil
          case hi57 => (simp only [List.getElem?_toArray, List.getElem?_cons_succ, List.getElem?_cons_zero]; rfl)
          go_simp
          go_at_call 191
          refine (kth.out _).mono ?_
          rintro e wn ⟨rfl, hbn⟩
          replace MB := Lib.hid (MB.out.next hbn)
          clear hbn
          refine hK.out _ _ MB.out.tail (fun hHeld => ?_)
          clear hK K
          try simp only [Act.put, List.setIfInBounds_toArray, List.set_cons_zero, List.set_cons_succ]
          refine wpAnyH_ready (rs := [11]) (by kernel_rfl) (by simp) ?_
          refine AllReadyH.cons (o := ?o55) ?hi55 (fun K hK => ?rest55) AllReadyH.nil
          case hi55 => (simp only [List.getElem?_toArray, List.getElem?_cons_succ, List.getElem?_cons_zero]; rfl)
          obtain ⟨c0, c1, f0, f1⟩ := row2 MB.out.head
          go_simp
          clear c0 c1 f0 f1
          have MC : Mem w ((A1, oR (d3 A 0 1 3)) :: [(g, .cells cur 168 (0, 0)), (w.heap.size + 1, oR (sum4 A 2)), (w.heap.size, (.cells #[.int .u64 0, .int .u64 0] 175 (0, 0))), (b, oI A 168)]) _ := (MB.out.set AP.out LE.out 0 (.int .u64 (hiR (d3 A 0 1 3)))).set AP.out LE.out 1 (.int .u64 (loZ (d3 A 0 1 3)))
          replace MB := Lib.hid MC
          clear MC
          refine hK.out _ _ MB.out.tail (fun hHeld => ?_)
          clear hK K
          try simp only [Act.put, List.setIfInBounds_toArray, List.set_cons_zero, List.set_cons_succ]
          refine wpAnyH_done (by kernel_rfl) ?_ _
          obtain ⟨c0, c1, f0, f1⟩ := row2 MB.out.head
          go_wp2_with fail
          refine (refNeg_any _ _).mono ?_
          rintro e wn2 ⟨rfl, hbn2⟩
          replace MB := Lib.hid (MB.out.next hbn2)
          clear c0 c1 f0 f1 hbn2
          obtain ⟨c0, c1, f0, f1⟩ := row2 MB.out.head
          have hne : ¬ w.heap.size + 1 = A1 := AP.out (w.heap.size + 1, oR (sum4 A 2)) (by simp)
          have hne2 : ¬ A1 = w.heap.size + 1 := fun h => hne h.symm
          obtain ⟨s0, s1, t0, t1⟩ := row2 MB.out.tail.tail.head
          replace MB := Lib.hid (MB.out.setR AP.out LE.out (-(d3 A 0 1 3)))
          go_wp2_with fail
          refine (refAdd_any _ _ _).mono ?_
          rintro e wm ⟨rfl, hbm⟩
          replace MB := Lib.hid (MB.out.next hbm)
          clear c0 c1 f0 f1 s0 s1 t0 t1 hbm
          obtain ⟨s0, s1, t0, t1⟩ := row2 MB.out.tail.tail.head
          have MF : Mem w ((w.heap.size + 1, oR (sum4 A 2 + (-(d3 A 0 1 3)))) :: [(w.heap.size, (.cells #[.int .u64 0, .int .u64 0] 175 (0, 0))), (b, oI A 168)]) _ := (MB.out.tail.tail).setR APS.out (by omega) _
          have MF2 := memR_eq hT.out MF
          replace MB := Lib.hid MF2
          clear MF MF2
          go_wp2_with fail
          go_roundw
          case rel => exact ⟨3, by omega, by go_num, MB.out⟩
          case measure => simp [intOf]
      · have cW := cellI MB.out.tail.tail.head (o := 15) (by rw [LA.out]; omega)
        by_cases e0 : A[15]! = 0
        · have hT : Hid (sum4 A 4 = sum4 A 3) := by
            show sum4 _ _ = _
            rw [show sum4 A 4 = sum4 A 3 + term4 A 3 from rfl, term4_z (r := 3) e0, Int.add_zero]
          have e1 : (A[15]! == 0) = true := by simpa using e0
          clear e0
          generalize A[15]! = vW at *
          go_wp2_with fail
          go_roundw
          case rel => exact ⟨4, by omega, by go_num, by rw [hT.out]; exact MB.out⟩
          case measure => simp [intOf]
        · have hT : Hid (sum4 A 4 = sum4 A 3 + d3 A 0 1 2) := by
            show sum4 _ _ = _
            rw [show sum4 A 4 = sum4 A 3 + term4 A 3 from rfl, term4_3 e0]
          have e1 : (A[15]! == 0) = false := by simpa using e0
          clear e0
          have kth : ∀ W, Calls Try.prog 191 #[.agg #[.int .i64 A[0]!, .int .i64 A[1]!, .int .i64 A[2]!, .int .i64 A[3]!], .agg #[.int .i64 A[4]!, .int .i64 A[5]!, .int .i64 A[6]!, .int .i64 A[7]!], .agg #[.int .i64 A[8]!, .int .i64 A[9]!, .int .i64 A[10]!, .int .i64 A[11]!]] W fun e w' => e = .returned (encR (d3 A 0 1 2)) ∧ Below W.heap.size W w' := fun W => refThree_any _ _ _ _ _ _ _ _ _ _ _ _ (FA.out _) (FA.out _) (FA.out _) (FA.out _) (FA.out _) (FA.out _) (FA.out _) (FA.out _) (FA.out _) W
          replace kth := Lib.hid kth
          have KC : Hid ((∀ W : World, W.heap[b]? = some (oI A 168) → W.cell? ⟨b, 0, none⟩ = some (.int .i64 A[0]!)) ∧ (∀ W : World, W.heap[b]? = some (oI A 168) → W.cell? ⟨b, 1, none⟩ = some (.int .i64 A[1]!)) ∧ (∀ W : World, W.heap[b]? = some (oI A 168) → W.cell? ⟨b, 2, none⟩ = some (.int .i64 A[2]!)) ∧ (∀ W : World, W.heap[b]? = some (oI A 168) → W.cell? ⟨b, 3, none⟩ = some (.int .i64 A[3]!)) ∧ (∀ W : World, W.heap[b]? = some (oI A 168) → W.cell? ⟨b, 4, none⟩ = some (.int .i64 A[4]!)) ∧ (∀ W : World, W.heap[b]? = some (oI A 168) → W.cell? ⟨b, 5, none⟩ = some (.int .i64 A[5]!)) ∧ (∀ W : World, W.heap[b]? = some (oI A 168) → W.cell? ⟨b, 6, none⟩ = some (.int .i64 A[6]!)) ∧ (∀ W : World, W.heap[b]? = some (oI A 168) → W.cell? ⟨b, 7, none⟩ = some (.int .i64 A[7]!)) ∧ (∀ W : World, W.heap[b]? = some (oI A 168) → W.cell? ⟨b, 8, none⟩ = some (.int .i64 A[8]!)) ∧ (∀ W : World, W.heap[b]? = some (oI A 168) → W.cell? ⟨b, 9, none⟩ = some (.int .i64 A[9]!)) ∧ (∀ W : World, W.heap[b]? = some (oI A 168) → W.cell? ⟨b, 10, none⟩ = some (.int .i64 A[10]!)) ∧ (∀ W : World, W.heap[b]? = some (oI A 168) → W.cell? ⟨b, 11, none⟩ = some (.int .i64 A[11]!))) := Lib.hid ⟨fun W h => cellI h (by rw [LA.out]; omega), fun W h => cellI h (by rw [LA.out]; omega), fun W h => cellI h (by rw [LA.out]; omega), fun W h => cellI h (by rw [LA.out]; omega), fun W h => cellI h (by rw [LA.out]; omega), fun W h => cellI h (by rw [LA.out]; omega), fun W h => cellI h (by rw [LA.out]; omega), fun W h => cellI h (by rw [LA.out]; omega), fun W h => cellI h (by rw [LA.out]; omega), fun W h => cellI h (by rw [LA.out]; omega), fun W h => cellI h (by rw [LA.out]; omega), fun W h => cellI h (by rw [LA.out]; omega)⟩
          generalize A[15]! = vW at *
          generalize A[0]! = v0 at *
          generalize A[1]! = v1 at *
          generalize A[2]! = v2 at *
          generalize A[3]! = v3 at *
          generalize A[4]! = v4 at *
          generalize A[5]! = v5 at *
          generalize A[6]! = v6 at *
          generalize A[7]! = v7 at *
          generalize A[8]! = v8 at *
          generalize A[9]! = v9 at *
          generalize A[10]! = v10 at *
          generalize A[11]! = v11 at *
          have hL : Hid (∀ p, p ∈ [(w.heap.size + 1, oR (sum4 A 3)), (w.heap.size, (.cells #[.int .u64 0, .int .u64 0] 175 (0, 0))), (b, oI A 168)] → p.1 < wr.heap.size) := Lib.hid (fun p hp => MB.out.lt hp)
          have hw0 : Hid (w.heap.size ≤ wr.heap.size) := Lib.hid MB.out.above
          have own0 : Hid (wr.ownsRow wr.heap.size 168 4 (.slice none 0 0) 0 (([] : List Int).map encI)) := Lib.hid (World.ownsRow_nil wr wr.heap.size 168 4)
          have hB0 : Hid (wr.heap.size ≤ wr.heap.size) := Lib.hid (Nat.le_refl _)
          generalize hBB : wr.heap.size = B0 at hL hw0 own0 hB0
          have hB0' : Hid (B0 ≤ wr.heap.size) := Lib.hid (by rw [hBB]; exact Nat.le_refl _)
          clear hBB hB0
          go_wp2_with fail
          refine wp_loop_rounds 5 ?_
          rw [rounds_succ]
          obtain ⟨V1, c1, W1, run1, MB1, own1, hB1⟩ := appRow4_step MB.out hL.out hw0.out own0.out hB0'.out v0 v1 v2 v3 (by omega)
          have k0 := KC.out.1 _ MB.out.tail.tail.head
          have k1 := KC.out.2.1 _ MB.out.tail.tail.head
          have k2 := KC.out.2.2.1 _ MB.out.tail.tail.head
          have k3 := KC.out.2.2.2.1 _ MB.out.tail.tail.head
          have lsb := MB.out.lt (p := (b, oI A 168)) (by simp)
          simp only at lsb
          replace run1 := Lib.hid run1
          replace own1 := Lib.hid own1
          replace hB1 := Lib.hid hB1
          go_wp2_with (first | (at_builtin; refine wpList_append_run (o := ⟨some 31, _, _, _, _, _⟩) rfl _ _ _ rfl rfl rfl run1.out ?_))
          clear k0 k1 k2 k3 lsb run1 MB own0 hB0'
          have MB := Lib.hid MB1
          clear MB1
          rw [rounds_succ]
          obtain ⟨V2, c2, W2, run2, MB2, own2, hB2⟩ := appRow4_step MB.out hL.out hw0.out own1.out hB1.out v4 v5 v6 v7 (by omega)
          have k0 := KC.out.2.2.2.2.1 _ MB.out.tail.tail.head
          have k1 := KC.out.2.2.2.2.2.1 _ MB.out.tail.tail.head
          have k2 := KC.out.2.2.2.2.2.2.1 _ MB.out.tail.tail.head
          have k3 := KC.out.2.2.2.2.2.2.2.1 _ MB.out.tail.tail.head
          have lsb := MB.out.lt (p := (b, oI A 168)) (by simp)
          simp only at lsb
          replace run2 := Lib.hid run2
          replace own2 := Lib.hid own2
          replace hB2 := Lib.hid hB2
          go_wp2_with (first | (at_builtin; refine wpList_append_run (o := ⟨some 31, _, _, _, _, _⟩) rfl _ _ _ rfl rfl rfl run2.out ?_))
          clear k0 k1 k2 k3 lsb run2 MB own1 hB1
          have MB := Lib.hid MB2
          clear MB2
          rw [rounds_succ]
          obtain ⟨V3, c3, W3, run3, MB3, own3, hB3⟩ := appRow4_step MB.out hL.out hw0.out own2.out hB2.out v8 v9 v10 v11 (by omega)
          have k0 := KC.out.2.2.2.2.2.2.2.2.1 _ MB.out.tail.tail.head
          have k1 := KC.out.2.2.2.2.2.2.2.2.2.1 _ MB.out.tail.tail.head
          have k2 := KC.out.2.2.2.2.2.2.2.2.2.2.1 _ MB.out.tail.tail.head
          have k3 := KC.out.2.2.2.2.2.2.2.2.2.2.2 _ MB.out.tail.tail.head
          have lsb := MB.out.lt (p := (b, oI A 168)) (by simp)
          simp only at lsb
          replace run3 := Lib.hid run3
          replace own3 := Lib.hid own3
          replace hB3 := Lib.hid hB3
          go_wp2_with (first | (at_builtin; refine wpList_append_run (o := ⟨some 31, _, _, _, _, _⟩) rfl _ _ _ rfl rfl rfl run3.out ?_))
          clear k0 k1 k2 k3 lsb run3 MB own2 hB2
          have MB := Lib.hid MB3
          clear MB3
          rw [rounds_succ]
          go_wp2_with fail
          rw [rounds_succ]
          obtain ⟨g, cur, eV, hc3, hcm, hg, hbg, HC⟩ := own12 own3.out
          subst eV
          replace HC := Lib.hid HC
          have MG : Mem w [(g, .cells cur 168 (0, 0)), (w.heap.size + 1, oR (sum4 A 3)), (w.heap.size, (.cells #[.int .u64 0, .int .u64 0] 175 (0, 0))), (b, oI A 168)] W3 := MB.out.cons hg
          replace MB := Lib.hid MG
          unfold maxLen at hcm
          clear MG hg own3 KC
          go_wp2_with fail
          refine wp_region_held_drew (S := fun w' => Mem w [(g, .cells cur 168 (0, 0)), (w.heap.size + 1, oR (sum4 A 3)), (w.heap.size, (.cells #[.int .u64 0, .int .u64 0] 175 (0, 0))), (b, oI A 168)] w') (by kernel_rfl) MB.out.drew (fun hHeld => ?_)
          replace MB := Lib.hid MB.out.drew
          generalize World.drew W3 = wd at *
          refine wpAnyH_take (i := 0) (oi := ?o61) (v := ?v61) ?hi61 (by kernel_rfl) (by kernel_rfl) (by kernel_rfl) ?hQ61 ?hy61 (by assumption) ?rest61
          case hi61 => (simp only [List.getElem?_toArray, List.getElem?_cons_succ, List.getElem?_cons_zero]; rfl)
          case hQ61 => exact fun _ _ _ h => h
          case hy61 => (refine Or.inl ⟨by rfl, ?_⟩; intro w' hSw; obtain ⟨k0, k1, k2, k3, k4, k5, k6, k7, k8, k9, k10, k11⟩ := cellsR12 hSw HC.out; go_simp; (try with_reducible rfl))
          try simp only [Act.put, List.setIfInBounds_toArray, List.set_cons_zero, List.set_cons_succ]
          refine wpAnyH_take (i := 1) (oi := ?o62) (v := ?v62) ?hi62 (by kernel_rfl) (by kernel_rfl) (by kernel_rfl) ?hQ62 ?hy62 (by assumption) ?rest62
          case hi62 => (simp only [List.getElem?_toArray, List.getElem?_cons_succ, List.getElem?_cons_zero]; rfl)
          case hQ62 => exact fun _ _ _ h => h
          case hy62 => (refine Or.inl ⟨by rfl, ?_⟩; intro w' hSw; obtain ⟨k0, k1, k2, k3, k4, k5, k6, k7, k8, k9, k10, k11⟩ := cellsR12 hSw HC.out; go_simp; (try with_reducible rfl))
          try simp only [Act.put, List.setIfInBounds_toArray, List.set_cons_zero, List.set_cons_succ]
          refine wpAnyH_take (i := 2) (oi := ?o63) (v := ?v63) ?hi63 (by kernel_rfl) (by kernel_rfl) (by kernel_rfl) ?hQ63 ?hy63 (by assumption) ?rest63
          case hi63 => (simp only [List.getElem?_toArray, List.getElem?_cons_succ, List.getElem?_cons_zero]; rfl)
          case hQ63 => exact fun _ _ _ h => h
          case hy63 => (refine Or.inl ⟨by rfl, ?_⟩; intro w' hSw; obtain ⟨k0, k1, k2, k3, k4, k5, k6, k7, k8, k9, k10, k11⟩ := cellsR12 hSw HC.out; go_simp; (try with_reducible rfl))
          try simp only [Act.put, List.setIfInBounds_toArray, List.set_cons_zero, List.set_cons_succ]
          refine wpAnyH_take (i := 3) (oi := ?o64) (v := ?v64) ?hi64 (by kernel_rfl) (by kernel_rfl) (by kernel_rfl) ?hQ64 ?hy64 (by assumption) ?rest64
          case hi64 => (simp only [List.getElem?_toArray, List.getElem?_cons_succ, List.getElem?_cons_zero]; rfl)
          case hQ64 => exact fun _ _ _ h => h
          case hy64 => (refine Or.inl ⟨by rfl, ?_⟩; intro w' hSw; obtain ⟨k0, k1, k2, k3, k4, k5, k6, k7, k8, k9, k10, k11⟩ := cellsR12 hSw HC.out; go_simp; (try with_reducible rfl))
          try simp only [Act.put, List.setIfInBounds_toArray, List.set_cons_zero, List.set_cons_succ]
          refine wpAnyH_take (i := 4) (oi := ?o65) (v := ?v65) ?hi65 (by kernel_rfl) (by kernel_rfl) (by kernel_rfl) ?hQ65 ?hy65 (by assumption) ?rest65
          case hi65 => (simp only [List.getElem?_toArray, List.getElem?_cons_succ, List.getElem?_cons_zero]; rfl)
          case hQ65 => exact fun _ _ _ h => h
          case hy65 => (refine Or.inl ⟨by rfl, ?_⟩; intro w' hSw; obtain ⟨k0, k1, k2, k3, k4, k5, k6, k7, k8, k9, k10, k11⟩ := cellsR12 hSw HC.out; go_simp; (try with_reducible rfl))
          try simp only [Act.put, List.setIfInBounds_toArray, List.set_cons_zero, List.set_cons_succ]
          refine wpAnyH_take (i := 5) (oi := ?o66) (v := ?v66) ?hi66 (by kernel_rfl) (by kernel_rfl) (by kernel_rfl) ?hQ66 ?hy66 (by assumption) ?rest66
          case hi66 => (simp only [List.getElem?_toArray, List.getElem?_cons_succ, List.getElem?_cons_zero]; rfl)
          case hQ66 => exact fun _ _ _ h => h
          case hy66 => (refine Or.inl ⟨by rfl, ?_⟩; intro w' hSw; obtain ⟨k0, k1, k2, k3, k4, k5, k6, k7, k8, k9, k10, k11⟩ := cellsR12 hSw HC.out; go_simp; (try with_reducible rfl))
          try simp only [Act.put, List.setIfInBounds_toArray, List.set_cons_zero, List.set_cons_succ]
          refine wpAnyH_take (i := 6) (oi := ?o67) (v := ?v67) ?hi67 (by kernel_rfl) (by kernel_rfl) (by kernel_rfl) ?hQ67 ?hy67 (by assumption) ?rest67
          case hi67 => (simp only [List.getElem?_toArray, List.getElem?_cons_succ, List.getElem?_cons_zero]; rfl)
          case hQ67 => exact fun _ _ _ h => h
          case hy67 => (refine Or.inl ⟨by rfl, ?_⟩; intro w' hSw; obtain ⟨k0, k1, k2, k3, k4, k5, k6, k7, k8, k9, k10, k11⟩ := cellsR12 hSw HC.out; go_simp; (try with_reducible rfl))
          try simp only [Act.put, List.setIfInBounds_toArray, List.set_cons_zero, List.set_cons_succ]
          refine wpAnyH_take (i := 7) (oi := ?o68) (v := ?v68) ?hi68 (by kernel_rfl) (by kernel_rfl) (by kernel_rfl) ?hQ68 ?hy68 (by assumption) ?rest68
          case hi68 => (simp only [List.getElem?_toArray, List.getElem?_cons_succ, List.getElem?_cons_zero]; rfl)
          case hQ68 => exact fun _ _ _ h => h
          case hy68 => (refine Or.inl ⟨by rfl, ?_⟩; intro w' hSw; obtain ⟨k0, k1, k2, k3, k4, k5, k6, k7, k8, k9, k10, k11⟩ := cellsR12 hSw HC.out; go_simp; (try with_reducible rfl))
          try simp only [Act.put, List.setIfInBounds_toArray, List.set_cons_zero, List.set_cons_succ]
          refine wpAnyH_take (i := 8) (oi := ?o69) (v := ?v69) ?hi69 (by kernel_rfl) (by kernel_rfl) (by kernel_rfl) ?hQ69 ?hy69 (by assumption) ?rest69
          case hi69 => (simp only [List.getElem?_toArray, List.getElem?_cons_succ, List.getElem?_cons_zero]; rfl)
          case hQ69 => exact fun _ _ _ h => h
          case hy69 => (refine Or.inl ⟨by rfl, ?_⟩; intro w' hSw; obtain ⟨k0, k1, k2, k3, k4, k5, k6, k7, k8, k9, k10, k11⟩ := cellsR12 hSw HC.out; go_simp; (try with_reducible rfl))
          try simp only [Act.put, List.setIfInBounds_toArray, List.set_cons_zero, List.set_cons_succ]
          refine wpAnyH_ready (rs := [9, 10]) (by kernel_rfl) (by simp) ?_
          refine AllReadyH.cons (o := ?o79) ?hi79 (fun K hK => ?rest79) ?more79
          case hi79 => (simp only [List.getElem?_toArray, List.getElem?_cons_succ, List.getElem?_cons_zero]; rfl)
          case rest79 =>
            go_simp
            go_at_call 191
            refine (kth.out _).mono ?_
            rintro e wn ⟨rfl, hbn⟩
            replace MB := Lib.hid (MB.out.next hbn)
            clear hbn
            refine hK.out _ _ MB.out (fun hHeld => ?_)
            clear hK K
            try simp only [Act.put, List.setIfInBounds_toArray, List.set_cons_zero, List.set_cons_succ]
            refine wpAnyH_ready (rs := [10]) (by kernel_rfl) (by simp) ?_
            refine AllReadyH.cons (o := ?o73) ?hi73 (fun K hK => ?rest73) AllReadyH.nil
            case hi73 => (simp only [List.getElem?_toArray, List.getElem?_cons_succ, List.getElem?_cons_zero]; rfl)
            go_simp
            have AP := Lib.hid MB.out.apart
            have LE := Lib.hid MB.out.above
            replace MB := Lib.hid (MB.out.add (.cells #[.int .u64 0, .int .u64 0] 175 (0, 0)))
            refine hK.out _ _ MB.out.tail (fun hHeld => ?_)
            clear hK K
            try simp only [Act.put, List.setIfInBounds_toArray, List.set_cons_zero, List.set_cons_succ]
            generalize hAA : World.heap wn = hp at *
            generalize hp.size = A1 at *
            generalize World.alloc wn (.cells #[.int .u64 0, .int .u64 0] 175 (0, 0)) = wa at *
            clear hAA
            refine wpAnyH_ready (rs := [11]) (by kernel_rfl) (by simp) ?_
            refine AllReadyH.cons (o := ?o71) ?hi71 (fun K hK => ?rest71) AllReadyH.nil
            case hi71 => (simp only [List.getElem?_toArray, List.getElem?_cons_succ, List.getElem?_cons_zero]; rfl)
            obtain ⟨c0, c1, f0, f1⟩ := row2 MB.out.head
            go_simp
            clear c0 c1 f0 f1
            have MC : Mem w ((A1, oR (d3 A 0 1 2)) :: [(g, .cells cur 168 (0, 0)), (w.heap.size + 1, oR (sum4 A 3)), (w.heap.size, (.cells #[.int .u64 0, .int .u64 0] 175 (0, 0))), (b, oI A 168)]) _ := (MB.out.set AP.out LE.out 0 (.int .u64 (hiR (d3 A 0 1 2)))).set AP.out LE.out 1 (.int .u64 (loZ (d3 A 0 1 2)))
            replace MB := Lib.hid MC
            clear MC
            refine hK.out _ _ MB.out.tail (fun hHeld => ?_)
            clear hK K
            try simp only [Act.put, List.setIfInBounds_toArray, List.set_cons_zero, List.set_cons_succ]
            refine wpAnyH_done (by kernel_rfl) ?_ _
            obtain ⟨c0, c1, f0, f1⟩ := row2 MB.out.head
            obtain ⟨s0, s1, t0, t1⟩ := row2 MB.out.tail.tail.head
            go_wp2_with fail
            refine (refAdd_any _ _ _).mono ?_
            rintro e wm ⟨rfl, hbm⟩
            replace MB := Lib.hid (MB.out.next hbm)
            clear c0 c1 f0 f1 s0 s1 t0 t1 hbm
            obtain ⟨s0, s1, t0, t1⟩ := row2 MB.out.tail.tail.head
            have MF : Mem w ((w.heap.size + 1, oR (sum4 A 3 + (d3 A 0 1 2))) :: [(w.heap.size, (.cells #[.int .u64 0, .int .u64 0] 175 (0, 0))), (b, oI A 168)]) _ := (MB.out.tail.tail).setR APS.out (by omega) _
            have MF2 := memR_eq hT.out MF
            replace MB := Lib.hid MF2
            clear MF MF2
            go_wp2_with fail
            go_roundw
            case rel => exact ⟨4, by omega, by go_num, MB.out⟩
            case measure => simp [intOf]
          refine AllReadyH.cons (o := ?o80) ?hi80 (fun K hK => ?rest80) AllReadyH.nil
          case hi80 => (simp only [List.getElem?_toArray, List.getElem?_cons_succ, List.getElem?_cons_zero]; rfl)
          go_simp
          have AP := Lib.hid MB.out.apart
          have LE := Lib.hid MB.out.above
          replace MB := Lib.hid (MB.out.add (.cells #[.int .u64 0, .int .u64 0] 175 (0, 0)))
          refine hK.out _ _ MB.out.tail (fun hHeld => ?_)
          clear hK K
          try simp only [Act.put, List.setIfInBounds_toArray, List.set_cons_zero, List.set_cons_succ]
          generalize hAA : World.heap wd = hp at *
          generalize hp.size = A1 at *
          generalize World.alloc wd (.cells #[.int .u64 0, .int .u64 0] 175 (0, 0)) = wa at *
          clear hAA
          refine wpAnyH_ready (rs := [9]) (by kernel_rfl) (by simp) ?_
          refine AllReadyH.cons (o := ?o77) ?hi77 (fun K hK => ?rest77) AllReadyH.nil
          case hi77 => (simp only [List.getElem?_toArray, List.getElem?_cons_succ, List.getElem?_cons_zero]; rfl)
          go_simp
          go_at_call 191
          refine (kth.out _).mono ?_
          rintro e wn ⟨rfl, hbn⟩
          replace MB := Lib.hid (MB.out.next hbn)
          clear hbn
          refine hK.out _ _ MB.out.tail (fun hHeld => ?_)
          clear hK K
          try simp only [Act.put, List.setIfInBounds_toArray, List.set_cons_zero, List.set_cons_succ]
          refine wpAnyH_ready (rs := [11]) (by kernel_rfl) (by simp) ?_
          refine AllReadyH.cons (o := ?o75) ?hi75 (fun K hK => ?rest75) AllReadyH.nil
          case hi75 => (simp only [List.getElem?_toArray, List.getElem?_cons_succ, List.getElem?_cons_zero]; rfl)
          obtain ⟨c0, c1, f0, f1⟩ := row2 MB.out.head
          go_simp
          clear c0 c1 f0 f1
          have MC : Mem w ((A1, oR (d3 A 0 1 2)) :: [(g, .cells cur 168 (0, 0)), (w.heap.size + 1, oR (sum4 A 3)), (w.heap.size, (.cells #[.int .u64 0, .int .u64 0] 175 (0, 0))), (b, oI A 168)]) _ := (MB.out.set AP.out LE.out 0 (.int .u64 (hiR (d3 A 0 1 2)))).set AP.out LE.out 1 (.int .u64 (loZ (d3 A 0 1 2)))
          replace MB := Lib.hid MC
          clear MC
          refine hK.out _ _ MB.out.tail (fun hHeld => ?_)
          clear hK K
          try simp only [Act.put, List.setIfInBounds_toArray, List.set_cons_zero, List.set_cons_succ]
          refine wpAnyH_done (by kernel_rfl) ?_ _
          obtain ⟨c0, c1, f0, f1⟩ := row2 MB.out.head
          obtain ⟨s0, s1, t0, t1⟩ := row2 MB.out.tail.tail.head
          go_wp2_with fail
          refine (refAdd_any _ _ _).mono ?_
          rintro e wm ⟨rfl, hbm⟩
          replace MB := Lib.hid (MB.out.next hbm)
          clear c0 c1 f0 f1 s0 s1 t0 t1 hbm
          obtain ⟨s0, s1, t0, t1⟩ := row2 MB.out.tail.tail.head
          have MF : Mem w ((w.heap.size + 1, oR (sum4 A 3 + (d3 A 0 1 2))) :: [(w.heap.size, (.cells #[.int .u64 0, .int .u64 0] 175 (0, 0))), (b, oI A 168)]) _ := (MB.out.tail.tail).setR APS.out (by omega) _
          have MF2 := memR_eq hT.out MF
          replace MB := Lib.hid MF2
          clear MF MF2
          go_wp2_with fail
          go_roundw
          case rel => exact ⟨4, by omega, by go_num, MB.out⟩
          case measure => simp [intOf]
    · obtain rfl : r = 4 := by omega
      obtain ⟨s0, s1, t0, t1⟩ := row2 MB.out.head
      obtain ⟨c0, c1, f0, f1⟩ := row2 MB.out.tail.head
      have MF : Mem w ((w.heap.size, oR (sum4 A 4)) :: [(w.heap.size + 1, oR (sum4 A 4)), (b, oI A 168)]) _ := (MB.out.sub (l' := (w.heap.size, oR 0) :: [(w.heap.size + 1, oR (sum4 A 4)), (b, oI A 168)]) (fun p hp => by simp at hp ⊢; rcases hp with h | h | h <;> simp [h] <;> decide)).setR (fun p hp => by simp at hp; rcases hp with rfl | rfl <;> simp only <;> omega) (Nat.le_refl _) (sum4 A 4)
      replace MB := Lib.hid MF
      clear MF
      go_wp2
      obtain ⟨c0, c1, _, _⟩ := row2 MB.out.head
      exact bodyPost_ret (v := encR (sum4 A 4)) (by simp [results, Try.results167, go_sem, c0, c1]) rfl ⟨rfl, MB.out.below⟩
end Go.Proofs.Ytojecaeblgghjaa
