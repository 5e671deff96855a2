/-
  CONTRACTS AT INTS: order.Both, order.Less.
-/
import Derived.Test.YtojecaeblgghjaaMerge
import Derived.OneCell
set_option linter.unusedVariables false
set_option linter.unusedSimpArgs false
namespace Go.Proofs.Ytojecaeblgghjaa
open Go.RowKit Go.Sort LsP

theorem both1_any (B : Option Addr) (c bx : Nat) (ys : List Int) (x : Int) (W : World) (hb : Rd encI 0 W B ys) (hc : W.cell? ⟨bx, 0, none⟩ = some (.slice B ys.length c)) (hm : ys.length ≤ 1000000) (hs : ys.Pairwise (· ≤ ·)) :
    Calls Try.prog 81 #[.int .i64 x, .pointer (some ⟨bx, 0, none⟩)] W fun e W' => e = .returned (.bool (decide (x ∈ ys))) ∧ Below W.heap.size W W' := by
  have k := in_any B c ys x W 0 hb hm hs
  have K := Lib.hid k
  clear k hb hs
  generalize decide (x ∈ ys) = r at *
  generalize ys.length = n at *
  go_enter Try.func81, Try.ntmps81
  go_wp2_with (go_at_call 82; refine K.out.mono ?_; rintro e w' ⟨rfl, q, rfl⟩)
  go_ret
  exact ⟨rfl, below_drewN (Below.refl _ _) q⟩

theorem less1_any (B : Option Addr) (c bx : Nat) (ys : List Int) (x : Int) (W : World) (hb : Rd encI 0 W B ys) (hc : W.cell? ⟨bx, 0, none⟩ = some (.slice B ys.length c)) (hm : ys.length ≤ 1000000) (hs : ys.Pairwise (· ≤ ·)) :
    Calls Try.prog 84 #[.int .i64 x, .pointer (some ⟨bx, 0, none⟩)] W fun e W' => e = .returned (.bool (!decide (x ∈ ys))) ∧ Below W.heap.size W W' := by
  have k := in_any B c ys x W 0 hb hm hs
  have K := Lib.hid k
  clear k hb hs
  generalize decide (x ∈ ys) = r at *
  generalize ys.length = n at *
  go_enter Try.func84, Try.ntmps84
  go_wp2_with (go_at_call 82; refine K.out.mono ?_; rintro e w' ⟨rfl, q, rfl⟩)
  go_ret
  exact ⟨rfl, below_drewN (Below.refl _ _) q⟩

set_option maxHeartbeats 2000000 in
set_option maxRecDepth 100000 in
theorem both_any (A B : Option Addr) (c d : Nat) (xs ys : List Int) (w : World) (ha : Rd encI 0 w A xs) (hb : Rd encI 0 w B ys) (hn : xs.length ≤ 1000000) (hm : ys.length ≤ 1000000) :
    Calls Try.prog 32 #[.slice A xs.length c, .slice B ys.length d] w (Told encI w ((sset xs).filter fun x => decide (x ∈ sset ys))) := by
  have k1 := set_any B d ys (w.alloc (.cells #[.slice B ys.length d] 22)) 0 (hb.below ((Below.refl w.heap.size w).alloc (Nat.le_refl _) _) (Nat.le_refl _)) hm
  have K1 := Lib.hid k1
  have hla := sset_len xs
  have hlb := sset_len ys
  have hsl := sset_le ys
  have eg : ∀ args w, (callFunc 81 args).run Try.prog w = .ok (.enter 81 args) w := enters_of Try.func81 (by kernel_rfl) rfl
  have HSL := Lib.hid hsl
  have EG := Lib.hid eg
  have HA := Lib.hid ha
  clear k1 hb ha hsl eg
  go_enter Try.func32, Try.ntmps32
  go_wp2_with fail
  refine K1.out.mono ?_
  rintro e w1 ⟨B1, d1, rfl, hd1, hdm, hr1, _, hb1⟩
  have s1 := hb1.size
  simp only [World.size_alloc] at s1
  have x1 : w1.heap[w.heap.size]? = some (.cells #[.slice B ys.length d] 22 (0, 0)) := (hb1.block w.heap.size (by simp)).trans (heap_alloc_new w _)
  have d1' := cell_of_one x1
  have f1' := free_of_one x1
  obtain ⟨w2, hw2⟩ : ∃ w2, w2 = w1.setCell ⟨w.heap.size, 0, none⟩ (.slice B1 (sset ys).length d1) := ⟨_, rfl⟩
  have x2 : w2.heap[w.heap.size]? = some (.cells #[.slice B1 (sset ys).length d1] 22 (0, 0)) := by rw [hw2]; exact one_setCell x1
  have hb2 : Below w.heap.size w w2 := by rw [hw2]; exact (below_up ((Below.refl w.heap.size w).alloc (Nat.le_refl _) _) hb1).setCell (Nat.le_refl _) _
  have hr2 : Rd encI 0 w2 B1 (sset ys) := by
    rw [hw2]
    refine (hr1.keep (by simp [World.setCell]) fun b h1 h2 o => ?_).low (Nat.zero_le _)
    refine World.cell?_setCell_other _ _ _ _ fun e => ?_
    have e' := congrArg Addr.block e
    simp at e' h1
    omega
  have s2 : w.heap.size + 1 ≤ w2.heap.size := by rw [hw2]; simpa [World.setCell] using s1
  have k2 := set_any A c xs w2 0 (HA.out.below hb2 (Nat.le_refl _)) hn
  rw [hw2] at k2
  have K2 := Lib.hid k2
  have X := Lib.hid (And.intro x2 (And.intro hb2 (And.intro hr2 s2)))
  have HW := Lib.hid hw2
  clear k2 x2 hb2 hr2 s2 hw2 x1 hr1 hb1 s1
  go_wp2_with fail
  refine K2.out.mono ?_
  rw [← HW.out]
  rintro e w3 ⟨A3, c3, rfl, hc3, hcm3, hr3, _, hb3⟩
  have x3 : w3.heap[w.heap.size]? = some (.cells #[.slice B1 (sset ys).length d1] 22 (0, 0)) := (hb3.block w.heap.size (by have := X.out.2.2.2; omega)).trans X.out.1
  have hr4 : Rd encI 0 w3 B1 (sset ys) := X.out.2.2.1.below hb3 (Nat.le_refl _)
  have hb4 : Below w.heap.size w w3 := below_up X.out.2.1 hb3
  have k4 := keepP_any A3 c3 (sset xs) w3 (hr3.low (Nat.zero_le _)) (by omega) 81 #[.pointer (some ⟨w.heap.size, 0, none⟩)] (fun x => decide (x ∈ sset ys)) EG.out
    (fun k W hk hbW => both1_any B1 d1 w.heap.size (sset ys) (sset xs)[k]! W (hr4.below hbW (Nat.le_refl _)) (cell_of_one ((hbW.block w.heap.size (by have := lt_of_block x3; omega)).trans x3)) (by omega) HSL.out)
  have K4 := Lib.hid k4
  have HB4 := Lib.hid hb4
  clear k4 x3 hr4 hb4 hr3 hb3 d1' f1'
  go_wp2_with fail
  refine K4.out.mono ?_
  rintro e w5 ⟨R, cr, rfl, h1, h2, h3, h4, h5⟩
  have FIN : Hid (Told encI w ((sset xs).filter fun x => decide (x ∈ sset ys)) (.returned (.slice R ((sset xs).filter fun x => decide (x ∈ sset ys)).length cr)) w5) := ⟨R, cr, rfl, h1, h2, h3.low HB4.out.size, h4, below_up HB4.out h5⟩
  clear h1 h2 h3 h4 h5
  go_wp2
  go_ret
  exact FIN.out

set_option maxHeartbeats 2000000 in
set_option maxRecDepth 100000 in
theorem less_any (A B : Option Addr) (c d : Nat) (xs ys : List Int) (w : World) (ha : Rd encI 0 w A xs) (hb : Rd encI 0 w B ys) (hn : xs.length ≤ 1000000) (hm : ys.length ≤ 1000000) :
    Calls Try.prog 34 #[.slice A xs.length c, .slice B ys.length d] w (Told encI w ((sset xs).filter fun x => !decide (x ∈ sset ys))) := by
  have k1 := set_any B d ys (w.alloc (.cells #[.slice B ys.length d] 22)) 0 (hb.below ((Below.refl w.heap.size w).alloc (Nat.le_refl _) _) (Nat.le_refl _)) hm
  have K1 := Lib.hid k1
  have hla := sset_len xs
  have hlb := sset_len ys
  have hsl := sset_le ys
  have eg : ∀ args w, (callFunc 84 args).run Try.prog w = .ok (.enter 84 args) w := enters_of Try.func84 (by kernel_rfl) rfl
  have HSL := Lib.hid hsl
  have EG := Lib.hid eg
  have HA := Lib.hid ha
  clear k1 hb ha hsl eg
  go_enter Try.func34, Try.ntmps34
  go_wp2_with fail
  refine K1.out.mono ?_
  rintro e w1 ⟨B1, d1, rfl, hd1, hdm, hr1, _, hb1⟩
  have s1 := hb1.size
  simp only [World.size_alloc] at s1
  have x1 : w1.heap[w.heap.size]? = some (.cells #[.slice B ys.length d] 22 (0, 0)) := (hb1.block w.heap.size (by simp)).trans (heap_alloc_new w _)
  have d1' := cell_of_one x1
  have f1' := free_of_one x1
  obtain ⟨w2, hw2⟩ : ∃ w2, w2 = w1.setCell ⟨w.heap.size, 0, none⟩ (.slice B1 (sset ys).length d1) := ⟨_, rfl⟩
  have x2 : w2.heap[w.heap.size]? = some (.cells #[.slice B1 (sset ys).length d1] 22 (0, 0)) := by rw [hw2]; exact one_setCell x1
  have hb2 : Below w.heap.size w w2 := by rw [hw2]; exact (below_up ((Below.refl w.heap.size w).alloc (Nat.le_refl _) _) hb1).setCell (Nat.le_refl _) _
  have hr2 : Rd encI 0 w2 B1 (sset ys) := by
    rw [hw2]
    refine (hr1.keep (by simp [World.setCell]) fun b h1 h2 o => ?_).low (Nat.zero_le _)
    refine World.cell?_setCell_other _ _ _ _ fun e => ?_
    have e' := congrArg Addr.block e
    simp at e' h1
    omega
  have s2 : w.heap.size + 1 ≤ w2.heap.size := by rw [hw2]; simpa [World.setCell] using s1
  have k2 := set_any A c xs w2 0 (HA.out.below hb2 (Nat.le_refl _)) hn
  rw [hw2] at k2
  have K2 := Lib.hid k2
  have X := Lib.hid (And.intro x2 (And.intro hb2 (And.intro hr2 s2)))
  have HW := Lib.hid hw2
  clear k2 x2 hb2 hr2 s2 hw2 x1 hr1 hb1 s1
  go_wp2_with fail
  refine K2.out.mono ?_
  rw [← HW.out]
  rintro e w3 ⟨A3, c3, rfl, hc3, hcm3, hr3, _, hb3⟩
  have x3 : w3.heap[w.heap.size]? = some (.cells #[.slice B1 (sset ys).length d1] 22 (0, 0)) := (hb3.block w.heap.size (by have := X.out.2.2.2; omega)).trans X.out.1
  have hr4 : Rd encI 0 w3 B1 (sset ys) := X.out.2.2.1.below hb3 (Nat.le_refl _)
  have hb4 : Below w.heap.size w w3 := below_up X.out.2.1 hb3
  have k4 := keepP_any A3 c3 (sset xs) w3 (hr3.low (Nat.zero_le _)) (by omega) 84 #[.pointer (some ⟨w.heap.size, 0, none⟩)] (fun x => !decide (x ∈ sset ys)) EG.out
    (fun k W hk hbW => less1_any B1 d1 w.heap.size (sset ys) (sset xs)[k]! W (hr4.below hbW (Nat.le_refl _)) (cell_of_one ((hbW.block w.heap.size (by have := lt_of_block x3; omega)).trans x3)) (by omega) HSL.out)
  have K4 := Lib.hid k4
  have HB4 := Lib.hid hb4
  clear k4 x3 hr4 hb4 hr3 hb3 d1' f1'
  go_wp2_with fail
  refine K4.out.mono ?_
  rintro e w5 ⟨R, cr, rfl, h1, h2, h3, h4, h5⟩
  have FIN : Hid (Told encI w ((sset xs).filter fun x => !decide (x ∈ sset ys)) (.returned (.slice R ((sset xs).filter fun x => !decide (x ∈ sset ys)).length cr)) w5) := ⟨R, cr, rfl, h1, h2, h3.low HB4.out.size, h4, below_up HB4.out h5⟩
  clear h1 h2 h3 h4 h5
  go_wp2
  go_ret
  exact FIN.out

end Go.Proofs.Ytojecaeblgghjaa
