/-
  CONTRACTS AT TEXTS: Clip, Set, append. (Printed by mktexts.py out of the template at ints.)
-/
import Derived.Test.YtojecaeblgghjaaTWords
import Derived.Test.YtojecaeblgghjaaApp
set_option linter.unusedVariables false
set_option linter.unusedSimpArgs false
namespace Go.Proofs.Ytojecaeblgghjaa
open Go.RowKit Go.Sort LsP

set_option maxHeartbeats 2000000 in
set_option maxRecDepth 100000 in
theorem clipT_any (A : Option Addr) (n c : Nat) (w : World) (h : n ≤ c) (hc : c ≤ maxLen) :
    Calls Try.prog 86 #[.slice A n c] w fun e w' => e = .returned (.slice A n n) ∧ w' = w := by
  unfold maxLen at hc
  go_enter Try.func86, Try.ntmps86
  go_wp2
  go_ret
  exact ⟨rfl, rfl⟩

set_option maxHeartbeats 2000000 in
set_option maxRecDepth 100000 in
theorem setT_any (A : Option Addr) (c : Nat) (xs : List (List UInt8)) (w : World) (lo : Nat) (ha : Rd encStr lo w A xs) (hn : xs.length ≤ 1000000) :
    Calls Try.prog 43 #[.slice A xs.length c] w (Told encStr w (sset xs)) := by
  obtain ⟨i0, hi0, hz0, hz1, hz2⟩ := info_parts info_str
  generalize hN : xs.length = n at hn ⊢
  have hmk := fun W => run_make_rowN (P := Try.prog) 37 9 i0 (.string ByteArray.empty) Try.underlying37 hi0 hz0 .i64 .i64 n n (Nat.le_refl _) (by rw [hz2]; omega) (by omega) W
  have HM := Lib.hid hN
  clear hN
  rw [hz1, Nat.mul_one] at hmk
  have HI := Lib.hid hi0
  have HZ := Lib.hid hz1
  clear hi0 hz0 hz1 hz2
  go_enter Try.func43, Try.ntmps43
  go_wp2_with (first
    | (with_reducible refine wpList_copy_splice rfl (.tmp 7) (.tmp 8) 37 37 rfl 9 Try.underlying37 (by kernel_rfl) (some ⟨w.heap.size, 0, none⟩) A n n n c rfl rfl w.heap.size 0 (madeCells #[Value.string ByteArray.empty] n).toList 9 ?hg (xs.map encStr) ?hn ?hpos ?hfit ?h1 w.heap.size w ?hb (Nat.le_refl _) ?_
       rotate_right
       intro w1 hblk hbel
       have own1 : w1.ownsRow w.heap.size 9 1 (.slice (some ⟨w.heap.size, 0, none⟩) n n) n (xs.map encStr) := by
         refine own_block (Nat.le_refl _) ?_ (by simp [HM.out]) (by unfold maxLen; omega)
         rw [hblk.out, splice_all (by simp [HM.out, size_madeCells])]
       have hsort := Try.slices_Sort_string w.heap.size 0 n xs w1 (own_holds own1) (own_form own1).2.1 (by rw [HM.out]; omega)
       rw [HM.out] at hsort
       have X1 := Lib.hid (And.intro own1 hbel)
       clear own1 hbel hblk)
    | (go_at_call 91
       refine hsort.mono ?_
       rintro e w2 ⟨rfl, nn, os, hw2⟩
       have hl2 : (xs.mergeSort fun x y => decide (x ≤ y)).length = n := by rw [List.length_mergeSort]; exact HM.out
       have own2 : w2.ownsRow w.heap.size 9 1 (.slice (some ⟨w.heap.size, 0, none⟩) n n) n ((xs.mergeSort fun x y => decide (x ≤ y)).map encStr) := by
         rw [hw2]; exact own_grow (own_put X1.out.1 hl2) os
       have hb2 : Below w.heap.size w w2 := by
         rw [hw2]; exact below_grow (Lib.below_putRow X1.out.2 (Nat.le_refl _)) (by simpa [putRow, mapBlock, Sort.ahead] using X1.out.2.size) os
       have hcomp := Try.slices_Compact_string w.heap.size 0 n (xs.mergeSort fun x y => decide (x ≤ y)) w2 (own_holds own2) (by rw [hl2]; omega) (by rw [hl2]; exact Nat.le_refl _)
       rw [hl2] at hcomp
       have hlc : (sset xs).length ≤ n := by rw [← HM.out]; exact sset_len xs
       have X2 := Lib.hid (And.intro own2 (And.intro hb2 hl2))
       have hcomp' := hcomp
       rw [show Lib.compact (xs.mergeSort fun x y => decide (x ≤ y)) = sset xs from rfl] at hcomp'
       clear own2 hb2 hl2 hw2 hsort hcomp)
    | (go_at_call 92
       refine hcomp'.mono ?_
       rintro e w3 ⟨rfl, q, hw3⟩
       have own3 : w3.ownsRow w.heap.size 9 1 (.slice (some ⟨w.heap.size, 0, none⟩) (sset xs).length n) (sset xs).length ((sset xs).map encStr) := by
         rw [hw3]
         have := Lib.ownsRow_putRow (q := q) (k := (sset xs).length) (ys := sset xs ++ List.replicate (n - (sset xs).length) []) X2.out.1 (by simp; omega) hlc
         rwa [List.take_left] at this
       have hb3 : Below w.heap.size w w3 := by rw [hw3]; exact Lib.below_putRow X2.out.2.1 (Nat.le_refl _)
       have X3 := Lib.hid (And.intro own3 hb3)
       clear own3 hb3 hw3 hcomp')
    | (go_at_call 86
       refine (clipT_any _ _ _ _ hlc (by unfold maxLen; omega)).mono ?_
       rintro e w4 ⟨rfl, rfl⟩))
  · go_ret
    obtain ⟨h1, h2, h3, h4⟩ := Rd.own X3.out.1
    exact ⟨_, _, rfl, Nat.le_refl _, by unfold maxLen; omega, h1, h2, X3.out.2⟩
  · rw [heap_alloc_new]
  · simp [HM.out]
  · intro hp
    obtain ⟨ad, e, h⟩ := (ha.below ((Below.refl w.heap.size w).alloc (Nat.le_refl _) (.cells (madeCells #[Value.string ByteArray.empty] n) 9)) (Nat.le_refl _)).news hp
    exact ⟨ad, e, fun j a hj => h j _ (by rw [List.getElem?_map, hj]; rfl)⟩
  · simp [HM.out, size_madeCells]
  · intro v hv
    obtain ⟨x, _, rfl⟩ := List.mem_map.1 hv
    rfl
  · exact (Below.refl w.heap.size w).alloc (Nat.le_refl _) _

set_option maxHeartbeats 2000000 in
set_option maxRecDepth 100000 in
theorem appT_run (w : World) (base ty : Nat) (v : Value) (n : Nat) (xs : List (List UInt8)) (hown : w.ownsRow base 9 1 v n (xs.map encStr))
    (lo : Nat) (A : Option Addr) (c : Nat) (ys : List (List UInt8)) (hr : Rd encStr lo w A ys) (h63 : n + ys.length ≤ 10000000) (hbase : base ≤ w.heap.size) :
    ∃ A' c' w', (Builtin.append_ #[37, 37] ty #[v, .slice A ys.length c]).run Try.prog w = .ok (.slice A' (n + ys.length) c') w' ∧ w'.ownsRow base 9 1 (.slice A' (n + ys.length) c') (n + ys.length) ((xs ++ ys).map encStr) ∧
      w.grownBy w' v.ownBlock ∧ (∀ b o, A' = some ⟨b, o, none⟩ → v.ownBlock = some b ∨ b = w.heap.size) := by
  obtain ⟨i0, hi0, hz0, hz1, hz2⟩ := info_parts info_str
  exact app_run w base 37 ty 9 i0 _ 16 Try.underlying37 hi0 hz0 hz1 hz2 rfl (fun _ => rfl) v n xs hown lo A c ys hr (fun _ => .inr trivial) (by unfold maxLen; omega) (by omega) hbase
end Go.Proofs.Ytojecaeblgghjaa
