/-
  CONTRACTS: order.Least of texts; what the law's own 'awake' answers: true.
-/
import Derived.Test.YtojecaeblgghjaaSetG
import Derived.Test.YtojecaeblgghjaaCmp
import Derived.Sort.EncStr
set_option linter.unusedVariables false
set_option linter.unusedSimpArgs false
namespace Go.Proofs.Ytojecaeblgghjaa
open Go.RowKit Go.Sort LsP

/-- A text of bytes. -/
def bys (l : List UInt8) : ByteArray := ⟨l.toArray⟩

theorem encStr_bys (l : List UInt8) : encStr l = .string (bys l) := rfl

theorem Rd.strs {lo : Nat} {w : World} {b off : Nat} {xs : List (List UInt8)} (h : Rd encStr lo w (some ⟨b, off, none⟩) xs) :
    ∀ j, j < (xs.map bys).length → w.cell? ⟨b, off + j, none⟩ = some (.string ((xs.map bys).getD j ByteArray.empty)) := by
  intro j hj
  rw [List.length_map] at hj
  obtain ⟨b', off', e, _, _, h3⟩ := h (by omega)
  injection e with e
  injection e with e1 e2
  subst e1; subst e2
  rw [h3 j hj, encStr_bys, getElem!_pos xs j hj, List.getD, List.getElem?_map, List.getElem?_eq_getElem hj]
  rfl

/-- The least text, the empty one of none. -/
def minT (l : List (List UInt8)) : ByteArray := if l = [] then ByteArray.empty else Lib.minOfS (l.map bys)

theorem leastT_any (A : Option Addr) (c : Nat) (xs : List (List UInt8)) (w : World) (lo : Nat) (ha : Rd encStr lo w A xs) (hn : xs.length ≤ 1000000) :
    Calls Try.prog 46 #[.slice A xs.length c] w fun e w' => e = .returned (.tuple #[.string (minT xs), .bool (decide (0 < xs.length))]) ∧ w' = w := by
  by_cases h0 : xs.length = 0
  · obtain rfl : xs = [] := List.eq_nil_of_length_eq_zero h0
    go_enter Try.func46, Try.ntmps46
    go_wp2
    go_ret2
    exact ⟨rfl, rfl⟩
  · obtain ⟨b, off, rfl, _, _, _⟩ := ha (by omega)
    have hne : xs ≠ [] := fun e => h0 (by rw [e]; rfl)
    have hcon := Try.slices_Min_string b off xs.length c (xs.map bys) w (by omega) (by simp) (by omega) ha.strs
    rw [List.take_of_length_le (by simp)] at hcon
    have hm : minT xs = Lib.minOfS (xs.map bys) := if_neg hne
    rw [← hm] at hcon
    have hp : 0 < xs.length := by omega
    generalize hN : xs.length = n at *
    clear hm hne hN
    generalize minT xs = m at *
    have hz : ((n : Int) == 0) = false := by simp; omega
    clear h0
    go_enter Try.func46, Try.ntmps46
    go_wp2_with (go_at_call 95; refine hcon.mono ?_; rintro e w' ⟨rfl, rfl⟩)
    go_ret2
    exact ⟨by simp [hp], rfl⟩


theorem ex_set : sset ([3, 1, 3, 2] : List Int) = [1, 2, 3] := sset_eq ⟨by decide, fun x => by simp; omega⟩
theorem ex_min : minT [[98], [97]] = ⟨#[97]⟩ := by decide
theorem ex_rises : risesB ([1, 2] : List Int) = true := by decide
theorem ex_has : decide ((2 : Int) ∈ ([1, 2] : List Int)) = true := by decide
theorem ex_cmp : cmpL ([1, 2] : List Int) [1, 2, 0] = -1 := by decide

set_option maxHeartbeats 1000000 in
set_option maxRecDepth 100000 in
theorem awake3_any (w : World) :
    Calls Try.prog 18 #[] w fun e w' => e = .returned (.bool true) ∧ Below w.heap.size w w' := by
  have c1 := fun W : World => set_any (some ⟨W.heap.size, 0, none⟩) 4 [3, 1, 3, 2] (W.alloc (.cells #[.int .i64 3, .int .i64 1, .int .i64 3, .int .i64 2] 3)) W.heap.size (Rd.lit (enc := encI) [3, 1, 3, 2]) (by decide)
  rw [ex_set] at c1
  have c2 := fun (W : World) (g : Nat) (hg : W.heap.size = g) => leastT_any (some ⟨g, 0, none⟩) 2 [[98], [97]] (W.alloc (.cells #[.string ⟨#[98]⟩, .string ⟨#[97]⟩] 9)) W.heap.size (by rw [← hg]; exact Rd.lit (enc := encStr) [[98], [97]]) (by decide)
  rw [ex_min] at c2
  have c3 := fun (W : World) (g : Nat) (hg : W.heap.size = g) => rises_any (some ⟨g, 0, none⟩) 2 [1, 2] (W.alloc (.cells #[.int .i64 1, .int .i64 2] 3)) W.heap.size (by rw [← hg]; exact Rd.lit (enc := encI) [1, 2]) (by decide)
  rw [ex_rises] at c3
  have c4 := fun (W : World) (g : Nat) (hg : W.heap.size = g) => has_any (some ⟨g, 0, none⟩) 2 [1, 2] 2 (W.alloc (.cells #[.int .i64 1, .int .i64 2] 3)) W.heap.size (by rw [← hg]; exact Rd.lit (enc := encI) [1, 2]) (by decide)
  rw [ex_has] at c4
  have c5 := fun (W : World) (g : Nat) (hg : W.heap.size = g) => orderCompare_any (some ⟨g, 0, none⟩) (some ⟨g + 1, 0, none⟩) 2 3 [1, 2] [1, 2, 0] ((W.alloc (.cells #[.int .i64 1, .int .i64 2] 3)).alloc (.cells #[.int .i64 1, .int .i64 2, .int .i64 0] 3)) W.heap.size (W.heap.size + 1)
    (by rw [← hg]; exact (Rd.lit (enc := encI) [1, 2]).below ((Below.refl (W.heap.size + 1) _).alloc (by simp) _) (by simp))
    (by rw [← hg]; have := Rd.lit (enc := encI) (w := W.alloc (.cells #[.int .i64 1, .int .i64 2] 3)) (t := 3) [1, 2, 0]; simpa using this) (by decide) (by decide)
  rw [ex_cmp] at c5
  have C1 := Lib.hid c1; have C2 := Lib.hid c2; have C3 := Lib.hid c3; have C4 := Lib.hid c4; have C5 := Lib.hid c5
  clear c1 c2 c3 c4 c5
  go_enter Try.func18, Try.ntmps18
  go_wp2_with (first
    | (go_at_call 28
       refine (C1.out _).mono ?_
       rintro e w1 ⟨A, c, rfl, hc, _, hr, _, hb⟩
       obtain ⟨b, off, rfl, hbl, _, hcell⟩ := hr (by decide)
       have d0 : w1.cell? ⟨b, off, none⟩ = some (.int .i64 1) := hcell 0 (by decide)
       have d2 : w1.cell? ⟨b, off + 2, none⟩ = some (.int .i64 3) := hcell 2 (by decide)
       have hb1 := below_up ((Below.refl w.heap.size w).alloc (Nat.le_refl _) _) hb
       clear hb hcell hr)
    | (go_at_call 46
       refine (C2.out _ _ rfl).mono ?_
       rintro e w2 ⟨rfl, rfl⟩)
    | (go_at_call 26
       refine (C3.out _ _ (by simp)).mono ?_
       rintro e w3 ⟨rfl, q, rfl⟩)
    | (go_at_call 36
       refine (C4.out _ _ (by simp)).mono ?_
       rintro e w3 ⟨rfl, rfl⟩)
    | (go_at_call 21
       refine (C5.out _ _ (by simp)).mono ?_
       rintro e w3 ⟨rfl, rfl⟩))
  go_ret
  have hs := hb1.size
  refine ⟨rfl, ?_⟩
  repeat (first | exact hb1 | refine below_drewN ?_ _ | refine Below.alloc ?_ (by first | omega | (simp; omega)) _)
end Go.Proofs.Ytojecaeblgghjaa
