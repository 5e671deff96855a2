/-
  CONTRACTS AT INTS: slices.Clip, order.Set: new memory that holds the list's set.
-/
import Derived.Test.YtojecaeblgghjaaRises
import Derived.Laws.CopyOwn
import Derived.Laws.MakeOwn
import Derived.Sort.Grow
import Derived.Maps.AppendAt
set_option linter.unusedVariables false
set_option linter.unusedSimpArgs false
namespace Go.Proofs.Ytojecaeblgghjaa
open Go.RowKit Go.Sort LsP

/-- The call told a list in new memory, and turned nothing that was there. -/
def Told {α : Type} [Inhabited α] (enc : α → Value) (w : World) (l : List α) (e : Ending) (w' : World) : Prop :=
  ∃ A c, e = .returned (.slice A l.length c) ∧ l.length ≤ c ∧ c ≤ maxLen ∧ Rd enc w.heap.size w' A l ∧ Fr w' A l.length ∧ Below w.heap.size w w'

section
variable {α : Type} [Inhabited α] {enc : α → Value}

theorem own_grow {w : World} {base n : Nat} {e : TypeId} {v : Value} {xs : List Value} (h : w.ownsRow base e 1 v n xs) (os : Array Obj) : (grow w os).ownsRow base e 1 v n xs := by
  refine ⟨h.1, ?_⟩
  rcases h.2 with h0 | ⟨g, cap, cur, rfl, hb, hg, rest⟩
  · exact .inl h0
  · exact .inr ⟨g, cap, cur, rfl, hb, by rw [heap_grow_old _ _ (Array.getElem?_eq_some_iff.1 hg).1]; exact hg, rest⟩

theorem below_grow {B : Nat} {w0 w : World} (h : Below B w0 w) (hB : B ≤ w.heap.size) (os : Array Obj) : Below B w0 (grow w os) :=
  h.trans ⟨rfl, rfl, rfl, by simp, fun k hk => heap_grow_old _ _ (by omega)⟩

theorem own_form {w : World} {base n : Nat} {e : TypeId} {g cap : Nat} {xs : List Value} (h : w.ownsRow base e 1 (.slice (some ⟨g, 0, none⟩) n cap) n xs) : base ≤ g ∧ g < w.heap.size ∧ n ≤ cap ∧ cap ≤ maxLen := by
  rcases h.2 with ⟨e0, _⟩ | ⟨g', cap', cur, e0, hb, hg, hn, hm, _⟩
  · cases e0
  · injection e0 with e1 _ e3
    injection e1 with e1
    injection e1 with e1
    subst e1; subst e3
    exact ⟨hb, (Array.getElem?_eq_some_iff.1 hg).1, hn, hm⟩

theorem own_block {w : World} {base g : Nat} {e : TypeId} {n : Nat} {xs : List Value} (hb : base ≤ g) (h : w.heap[g]? = some (.cells xs.toArray e (0, 0))) (hl : xs.length = n) (hn : n ≤ maxLen) :
    w.ownsRow base e 1 (.slice (some ⟨g, 0, none⟩) n n) n xs :=
  ⟨by omega, .inr ⟨g, n, xs.toArray, rfl, hb, h, Nat.le_refl _, hn, by simp; omega, by simp [hl.symm]⟩⟩

theorem splice_all {β : Type} {Z cs : List β} (h : cs.length = Z.length) : splice Z 0 cs = cs := by
  simp [splice, h]

theorem own_put {w : World} {base g n cap q : Nat} {e : TypeId} {zs ys : List α} (h : w.ownsRow base e 1 (.slice (some ⟨g, 0, none⟩) n cap) n (zs.map enc)) (hy : ys.length = n) :
    (putRow enc (Sort.ahead w q) g 0 ys.toArray).ownsRow base e 1 (.slice (some ⟨g, 0, none⟩) n cap) n (ys.map enc) := by
  have := Lib.ownsRow_putRow (q := q) (k := n) h hy (Nat.le_refl _)
  rwa [List.take_of_length_le (by omega)] at this

theorem own_holds {w : World} {base g n cap : Nat} {e : TypeId} {zs : List α} (h : w.ownsRow base e 1 (.slice (some ⟨g, 0, none⟩) n cap) n (zs.map enc)) : Holds enc w g 0 zs.toArray := by
  obtain ⟨g', cap', e0, _, _, _, _, _, hH⟩ := Lib.holds_of_ownsRow h (by simp)
  injection e0 with e1 _ _
  injection e1 with e1
  injection e1 with e1
  subst e1
  exact hH

theorem Told.of_own {w w' : World} {e : TypeId} {v : Value} {l : List α} (h : w'.ownsRow w.heap.size e 1 v l.length (l.map enc)) (hb : Below w.heap.size w w') : Told enc w l (.returned v) w' := by
  have hv : ∃ A c, v = .slice A l.length c := by
    rcases h.2 with ⟨h0, h1⟩ | ⟨g, cap, cur, h0, _⟩
    · exact ⟨none, 0, by rw [h0, h1]⟩
    · exact ⟨_, _, h0⟩
  obtain ⟨A, c, rfl⟩ := hv
  obtain ⟨h1, h2, h3, h4⟩ := Rd.own h
  exact ⟨A, c, rfl, h3, h4, h1, h2, hb⟩
end

theorem clip_any (A : Option Addr) (n c : Nat) (w : World) (h : n ≤ c) (hc : c ≤ maxLen) :
    Calls Try.prog 78 #[.slice A n c] w fun e w' => e = .returned (.slice A n n) ∧ w' = w := by
  unfold maxLen at hc
  go_enter Try.func78, Try.ntmps78
  go_wp2
  go_ret
  exact ⟨rfl, rfl⟩

theorem info_int : (Try.prog.info? 3).map (fun i => (i.zero, i.size, i.bytes)) = some (some (.int .i64 0), 1, 8) := by kernel_rfl

set_option maxHeartbeats 1000000 in
set_option maxRecDepth 100000 in
theorem set_any (A : Option Addr) (c : Nat) (xs : List Int) (w : World) (lo : Nat) (ha : Rd encI lo w A xs) (hn : xs.length ≤ 1000000) :
    Calls Try.prog 28 #[.slice A xs.length c] w (Told encI w (sset xs)) := by
  obtain ⟨i0, hi0, hz0, hz1, hz2⟩ := info_parts info_int
  generalize hN : xs.length = n at hn ⊢
  have hmk := fun W => run_make_rowN (P := Try.prog) 22 3 i0 (.int .i64 0) Try.underlying22 hi0 hz0 .i64 .i64 n n (Nat.le_refl _) (by rw [hz2]; omega) (by omega) W
  have HM := Lib.hid hN
  clear hN
  rw [hz1, Nat.mul_one] at hmk
  have HI := Lib.hid hi0
  have HZ := Lib.hid hz1
  clear hi0 hz0 hz1 hz2
  go_enter Try.func28, Try.ntmps28
  go_wp2_with (first
    | (with_reducible refine wpList_copy_splice rfl (.tmp 7) (.tmp 8) 22 22 rfl 3 Try.underlying22 (by kernel_rfl) (some ⟨w.heap.size, 0, none⟩) A n n n c rfl rfl w.heap.size 0 (madeCells #[Value.int IntKind.i64 0] n).toList 3 ?hg (xs.map encI) ?hn ?hpos ?hfit ?h1 w.heap.size w ?hb (Nat.le_refl _) ?_
       rotate_right
       intro w1 hblk hbel
       have own1 : w1.ownsRow w.heap.size 3 1 (.slice (some ⟨w.heap.size, 0, none⟩) n n) n (xs.map encI) := by
         refine own_block (Nat.le_refl _) ?_ (by simp [HM.out]) (by unfold maxLen; omega)
         rw [hblk.out, splice_all (by simp [HM.out, size_madeCells])]
       have hsort := Try.slices_Sort_int w.heap.size 0 n xs w1 (own_holds own1) (own_form own1).2.1 (by rw [HM.out]; omega)
       rw [HM.out] at hsort
       have X1 := Lib.hid (And.intro own1 hbel)
       clear own1 hbel hblk)
    | (go_at_call 79
       refine hsort.mono ?_
       rintro e w2 ⟨rfl, nn, os, hw2⟩
       have hl2 : (xs.mergeSort fun x y => decide (x ≤ y)).length = n := by rw [List.length_mergeSort]; exact HM.out
       have own2 : w2.ownsRow w.heap.size 3 1 (.slice (some ⟨w.heap.size, 0, none⟩) n n) n ((xs.mergeSort fun x y => decide (x ≤ y)).map encI) := by
         rw [hw2]; exact own_grow (own_put X1.out.1 hl2) os
       have hb2 : Below w.heap.size w w2 := by
         rw [hw2]; exact below_grow (Lib.below_putRow X1.out.2 (Nat.le_refl _)) (by simpa [putRow, mapBlock, Sort.ahead] using X1.out.2.size) os
       have hcomp := Try.slices_Compact_int w.heap.size 0 n (xs.mergeSort fun x y => decide (x ≤ y)) w2 (own_holds own2) (by rw [hl2]; omega) (by rw [hl2]; exact Nat.le_refl _)
       rw [hl2] at hcomp
       have hlc : (sset xs).length ≤ n := by rw [← HM.out]; exact sset_len xs
       have X2 := Lib.hid (And.intro own2 (And.intro hb2 hl2))
       have hcomp' := hcomp
       rw [show Lib.compact (xs.mergeSort fun x y => decide (x ≤ y)) = sset xs from rfl] at hcomp'
       clear own2 hb2 hl2 hw2 hsort hcomp)
    | (go_at_call 80
       refine hcomp'.mono ?_
       rintro e w3 ⟨rfl, q, hw3⟩
       have own3 : w3.ownsRow w.heap.size 3 1 (.slice (some ⟨w.heap.size, 0, none⟩) (sset xs).length n) (sset xs).length ((sset xs).map encI) := by
         rw [hw3]
         have := Lib.ownsRow_putRow (q := q) (k := (sset xs).length) (ys := sset xs ++ List.replicate (n - (sset xs).length) 0) X2.out.1 (by simp; omega) hlc
         rwa [List.take_left] at this
       have hb3 : Below w.heap.size w w3 := by rw [hw3]; exact Lib.below_putRow X2.out.2.1 (Nat.le_refl _)
       have X3 := Lib.hid (And.intro own3 hb3)
       clear own3 hb3 hw3 hcomp')
    | (go_at_call 78
       refine (clip_any _ _ _ _ hlc (by unfold maxLen; omega)).mono ?_
       rintro e w4 ⟨rfl, rfl⟩))
  · go_ret
    obtain ⟨h1, h2, h3, h4⟩ := Rd.own X3.out.1
    exact ⟨_, _, rfl, Nat.le_refl _, by unfold maxLen; omega, h1, h2, X3.out.2⟩
  · rw [heap_alloc_new]
  · simp [HM.out]
  · intro hp
    obtain ⟨ad, e, h⟩ := (ha.below ((Below.refl w.heap.size w).alloc (Nat.le_refl _) (.cells (madeCells #[Value.int IntKind.i64 0] n) 3)) (Nat.le_refl _)).news hp
    exact ⟨ad, e, fun j a hj => h j _ (by rw [List.getElem?_map, hj]; rfl)⟩
  · simp [HM.out, size_madeCells]
  · intro v hv
    obtain ⟨x, _, rfl⟩ := List.mem_map.1 hv
    rfl
  · exact (Below.refl w.heap.size w).alloc (Nat.le_refl _) _
end Go.Proofs.Ytojecaeblgghjaa
