/-
  Merged: Rises, Set, App.
-/
import Derived.Test.YtojecaeblgghjaaReads
import Derived.Laws.CopyOwn
import Derived.Laws.MakeOwn
import Derived.Sort.Grow
import Derived.Maps.AppendAt

/-
  CONTRACTS AT INTS: does a list rise? Of the program and of the document's answer.
-/
set_option linter.unusedVariables false
set_option linter.unusedSimpArgs false
namespace Go.Proofs.Ytojecaeblgghjaa
open Go.RowKit Go.Sort LsP

set_option maxHeartbeats 1000000 in
theorem rises_any (A : Option Addr) (c : Nat) (xs : List Int) (w : World) (lo : Nat) (ha : Rd encI lo w A xs) (hn : xs.length ≤ 1000000) :
    Calls Try.prog 26 #[.slice A xs.length c] w fun e w' => e = .returned (.bool (risesB xs)) ∧ ∃ q, w' = w.drewN q := by
  generalize hN : xs.length = n at *
  have HL := Lib.hid hN
  clear hN
  go_enter Try.func26, Try.ntmps26
  go_wp2
  go_loopw [6] (fun i wr => ∃ k : Nat, k ≤ n ∧ i = .int .i64 k ∧ Hid (∀ j, j + 1 < k → xs[j]! < xs[j + 1]!) ∧ ∃ q, wr = w.drewN q) (fun i _ => n - (intOf i).toNat)
  case atStart => exact ⟨0, Nat.zero_le _, rfl, fun j hj => absurd hj (by omega), 0, rfl⟩
  case round =>
    obtain ⟨k, hk, rfl, HR, q, rfl⟩ := hrel
    by_cases hlt : k < n
    · obtain ⟨b, off, rfl, hbw, hcell⟩ := ha.at_ (k := k) (by rw [HL.out]; exact hlt)
      by_cases h0 : k = 0
      · subst h0
        have hg : decide ((0 : Int) > 0) = false := by simp
        go_wp2
        go_quiet (fail)
        go_wp2
        go_roundw
        case rel => exact ⟨1, by omega, by go_num, fun j hj => absurd hj (by omega), by first | exact ⟨_, rfl⟩ | exact dr1 ..⟩
        case measure => simp [intOf]; omega
      · obtain ⟨m, rfl⟩ : ∃ m, k = m + 1 := ⟨k - 1, by omega⟩
        obtain ⟨b', off', e', _, hcell'⟩ := ha.at_ (k := m) (by rw [HL.out]; omega)
        injection e' with e'
        injection e' with e1 e2
        subst e1; subst e2
        have hs : Hid (xs[m]! < xs[m + 1]! → ∀ j, j + 1 < m + 1 + 1 → xs[j]! < xs[j + 1]!) := fun h j hj => by
          by_cases e : j = m
          · rw [e]; exact h
          · exact HR.out j (by omega)
        have hf : Hid (xs[m + 1]! ≤ xs[m]! → risesB xs = false) := fun h => risesB_not xs m (by rw [HL.out]; omega) (by omega)
        generalize xs[m]! = x at *
        generalize xs[m + 1]! = y at *
        have hsub : ((m + 1 : Nat) : Int) - 1 = (m : Int) := by omega
        have hg : decide (((m + 1 : Nat) : Int) > 0) = true := by simp
        have i1 : ((m : Int) + 1) < (n : Int) := by omega
        have i2 : (0 : Int) ≤ (m : Int) := by omega
        have i3 : (m : Int) < (n : Int) := by omega
        clear h0
        by_cases c1 : x < y
        · have hs' := Lib.hid (hs.out c1)
          go_wp2
          go_quiet (fail)
          go_wp2
          go_roundw
          case rel => exact ⟨m + 1 + 1, by omega, by go_num, hs', by first | exact ⟨_, rfl⟩ | exact dr1 ..⟩
          case measure => simp [intOf]; omega
        · have hf' := Lib.hid (hf.out (by omega))
          have hb : decide (x < y) = false := by simp; omega
          go_wp2
          go_quiet (fail)
          go_wp2
          go_ret
          exact ⟨ret_bool hf'.out.symm, by first | exact ⟨_, rfl⟩ | exact dr1 ..⟩
    · obtain rfl : k = n := by omega
      have HR' := Lib.hid (risesB_of_steps xs fun i hi => HR.out i (by rw [HL.out] at hi; exact hi))
      go_wp2
      go_ret
      exact ⟨ret_bool HR'.out.symm, _, rfl⟩

set_option maxHeartbeats 1000000 in
theorem refRises_any (A : Option Addr) (c : Nat) (xs : List Int) (w : World) (lo : Nat) (ha : Rd encI lo w A xs) (hn : xs.length ≤ 1000000) :
    Calls Try.prog 27 #[.slice A xs.length c] w fun e w' => e = .returned (.bool (risesB xs)) ∧ ∃ q, w' = w.drewN q := by
  generalize hN : xs.length = n at *
  have HL := Lib.hid hN
  clear hN
  go_enter Try.func27, Try.ntmps27
  go_wp2
  go_loopw [3] (fun i wr => ∃ k : Nat, (k ≤ n ∨ k = 1) ∧ 0 < k ∧ i = .int .i64 k ∧ Hid (∀ j, j + 1 < k → xs[j]! < xs[j + 1]!) ∧ ∃ q, wr = w.drewN q) (fun i _ => n - (intOf i).toNat)
  case atStart => exact ⟨1, .inr rfl, Nat.one_pos, rfl, fun j hj => absurd hj (by omega), 0, rfl⟩
  case round =>
    obtain ⟨k, hk, hk0, rfl, HR, q, rfl⟩ := hrel
    by_cases hlt : k < n
    · obtain ⟨b, off, rfl, hbw, hcell⟩ := ha.at_ (k := k) (by rw [HL.out]; exact hlt)
      obtain ⟨m, rfl⟩ : ∃ m, k = m + 1 := ⟨k - 1, by omega⟩
      obtain ⟨b', off', e', _, hcell'⟩ := ha.at_ (k := m) (by rw [HL.out]; omega)
      injection e' with e'
      injection e' with e1 e2
      subst e1; subst e2
      have hs : Hid (xs[m]! < xs[m + 1]! → ∀ j, j + 1 < m + 1 + 1 → xs[j]! < xs[j + 1]!) := fun h j hj => by
        by_cases e : j = m
        · rw [e]; exact h
        · exact HR.out j (by omega)
      have hf : Hid (xs[m + 1]! ≤ xs[m]! → risesB xs = false) := fun h => risesB_not xs m (by rw [HL.out]; omega) (by omega)
      generalize xs[m]! = x at *
      generalize xs[m + 1]! = y at *
      have hsub : ((m + 1 : Nat) : Int) - 1 = (m : Int) := by omega
      have i1 : ((m : Int) + 1) < (n : Int) := by omega
      have i2 : (0 : Int) ≤ (m : Int) := by omega
      have i3 : (m : Int) < (n : Int) := by omega
      by_cases c1 : x < y
      · have hs' := Lib.hid (hs.out c1)
        go_wp2
        go_quiet (fail)
        go_wp2
        go_roundw
        case rel => exact ⟨m + 1 + 1, .inl (by omega), by omega, by go_num, hs', by first | exact ⟨_, rfl⟩ | exact dr1 ..⟩
        case measure => simp [intOf]; omega
      · have hf' := Lib.hid (hf.out (by omega))
        have hb : decide (x < y) = false := by simp; omega
        go_wp2
        go_quiet (fail)
        go_wp2
        go_ret
        exact ⟨ret_bool hf'.out.symm, by first | exact ⟨_, rfl⟩ | exact dr1 ..⟩
    · have HR' := Lib.hid (risesB_of_steps xs fun i hi => HR.out i (by rw [HL.out] at hi; omega))
      go_wp2
      go_ret
      exact ⟨ret_bool HR'.out.symm, _, rfl⟩
end Go.Proofs.Ytojecaeblgghjaa

/-
  CONTRACTS AT INTS: slices.Clip, order.Set: new memory that holds the list's set.
-/
set_option linter.unusedVariables false
set_option linter.unusedSimpArgs false
namespace Go.Proofs.Ytojecaeblgghjaa
open Go.RowKit Go.Sort LsP

/-- The call told a list in new memory, and turned nothing that was there. -/
def Told {α : Type} [Inhabited α] (enc : α → Value) (w : World) (l : List α) (e : Ending) (w' : World) : Prop :=
  ∃ A c, e = .returned (.slice A l.length c) ∧ l.length ≤ c ∧ c ≤ maxLen ∧ Rd enc w.heap.size w' A l ∧ Fr w' A l.length ∧ Below w.heap.size w w'

section
variable {α : Type} [Inhabited α] {enc : α → Value}

theorem own_grow {w : World} {base n : Nat} {e : TypeId} {v : Value} {xs : List Value} (h : w.ownsRow base e 1 v n xs) (os : Array Obj) : (grow w os).ownsRow base e 1 v n xs := by
  refine ⟨h.1, ?_⟩
  rcases h.2 with h0 | ⟨g, cap, cur, rfl, hb, hg, rest⟩
  · exact .inl h0
  · exact .inr ⟨g, cap, cur, rfl, hb, by rw [heap_grow_old _ _ (Array.getElem?_eq_some_iff.1 hg).1]; exact hg, rest⟩

theorem below_grow {B : Nat} {w0 w : World} (h : Below B w0 w) (hB : B ≤ w.heap.size) (os : Array Obj) : Below B w0 (grow w os) :=
  h.trans ⟨rfl, rfl, rfl, by simp, fun k hk => heap_grow_old _ _ (by omega)⟩

theorem own_form {w : World} {base n : Nat} {e : TypeId} {g cap : Nat} {xs : List Value} (h : w.ownsRow base e 1 (.slice (some ⟨g, 0, none⟩) n cap) n xs) : base ≤ g ∧ g < w.heap.size ∧ n ≤ cap ∧ cap ≤ maxLen := by
  rcases h.2 with ⟨e0, _⟩ | ⟨g', cap', cur, e0, hb, hg, hn, hm, _⟩
  · cases e0
  · injection e0 with e1 _ e3
    injection e1 with e1
    injection e1 with e1
    subst e1; subst e3
    exact ⟨hb, (Array.getElem?_eq_some_iff.1 hg).1, hn, hm⟩

theorem own_block {w : World} {base g : Nat} {e : TypeId} {n : Nat} {xs : List Value} (hb : base ≤ g) (h : w.heap[g]? = some (.cells xs.toArray e (0, 0))) (hl : xs.length = n) (hn : n ≤ maxLen) :
    w.ownsRow base e 1 (.slice (some ⟨g, 0, none⟩) n n) n xs :=
  ⟨by omega, .inr ⟨g, n, xs.toArray, rfl, hb, h, Nat.le_refl _, hn, by simp; omega, by simp [hl.symm]⟩⟩

theorem splice_all {β : Type} {Z cs : List β} (h : cs.length = Z.length) : splice Z 0 cs = cs := by
  simp [splice, h]

theorem own_put {w : World} {base g n cap q : Nat} {e : TypeId} {zs ys : List α} (h : w.ownsRow base e 1 (.slice (some ⟨g, 0, none⟩) n cap) n (zs.map enc)) (hy : ys.length = n) :
    (putRow enc (Sort.ahead w q) g 0 ys.toArray).ownsRow base e 1 (.slice (some ⟨g, 0, none⟩) n cap) n (ys.map enc) := by
  have := Lib.ownsRow_putRow (q := q) (k := n) h hy (Nat.le_refl _)
  rwa [List.take_of_length_le (by omega)] at this

theorem own_holds {w : World} {base g n cap : Nat} {e : TypeId} {zs : List α} (h : w.ownsRow base e 1 (.slice (some ⟨g, 0, none⟩) n cap) n (zs.map enc)) : Holds enc w g 0 zs.toArray := by
  obtain ⟨g', cap', e0, _, _, _, _, _, hH⟩ := Lib.holds_of_ownsRow h (by simp)
  injection e0 with e1 _ _
  injection e1 with e1
  injection e1 with e1
  subst e1
  exact hH

theorem Told.of_own {w w' : World} {e : TypeId} {v : Value} {l : List α} (h : w'.ownsRow w.heap.size e 1 v l.length (l.map enc)) (hb : Below w.heap.size w w') : Told enc w l (.returned v) w' := by
  have hv : ∃ A c, v = .slice A l.length c := by
    rcases h.2 with ⟨h0, h1⟩ | ⟨g, cap, cur, h0, _⟩
    · exact ⟨none, 0, by rw [h0, h1]⟩
    · exact ⟨_, _, h0⟩
  obtain ⟨A, c, rfl⟩ := hv
  obtain ⟨h1, h2, h3, h4⟩ := Rd.own h
  exact ⟨A, c, rfl, h3, h4, h1, h2, hb⟩
end

theorem clip_any (A : Option Addr) (n c : Nat) (w : World) (h : n ≤ c) (hc : c ≤ maxLen) :
    Calls Try.prog 78 #[.slice A n c] w fun e w' => e = .returned (.slice A n n) ∧ w' = w := by
  unfold maxLen at hc
  go_enter Try.func78, Try.ntmps78
  go_wp2
  go_ret
  exact ⟨rfl, rfl⟩

theorem info_int : (Try.prog.info? 3).map (fun i => (i.zero, i.size, i.bytes)) = some (some (.int .i64 0), 1, 8) := by kernel_rfl

set_option maxHeartbeats 1000000 in
set_option maxRecDepth 100000 in
theorem set_any (A : Option Addr) (c : Nat) (xs : List Int) (w : World) (lo : Nat) (ha : Rd encI lo w A xs) (hn : xs.length ≤ 1000000) :
    Calls Try.prog 28 #[.slice A xs.length c] w (Told encI w (sset xs)) := by
  obtain ⟨i0, hi0, hz0, hz1, hz2⟩ := info_parts info_int
  generalize hN : xs.length = n at hn ⊢
  have hmk := fun W => run_make_rowN (P := Try.prog) 22 3 i0 (.int .i64 0) Try.underlying22 hi0 hz0 .i64 .i64 n n (Nat.le_refl _) (by rw [hz2]; omega) (by omega) W
  have HM := Lib.hid hN
  clear hN
  rw [hz1, Nat.mul_one] at hmk
  have HI := Lib.hid hi0
  have HZ := Lib.hid hz1
  clear hi0 hz0 hz1 hz2
  go_enter Try.func28, Try.ntmps28
  go_wp2_with (first
    | (with_reducible refine wpList_copy_splice rfl (.tmp 7) (.tmp 8) 22 22 rfl 3 Try.underlying22 (by kernel_rfl) (some ⟨w.heap.size, 0, none⟩) A n n n c rfl rfl w.heap.size 0 (madeCells #[Value.int IntKind.i64 0] n).toList 3 ?hg (xs.map encI) ?hn ?hpos ?hfit ?h1 w.heap.size w ?hb (Nat.le_refl _) ?_
       rotate_right
       intro w1 hblk hbel
       have own1 : w1.ownsRow w.heap.size 3 1 (.slice (some ⟨w.heap.size, 0, none⟩) n n) n (xs.map encI) := by
         refine own_block (Nat.le_refl _) ?_ (by simp [HM.out]) (by unfold maxLen; omega)
         rw [hblk.out, splice_all (by simp [HM.out, size_madeCells])]
       have hsort := Try.slices_Sort_int w.heap.size 0 n xs w1 (own_holds own1) (own_form own1).2.1 (by rw [HM.out]; omega)
       rw [HM.out] at hsort
       have X1 := Lib.hid (And.intro own1 hbel)
       clear own1 hbel hblk)
    | (go_at_call 79
       refine hsort.mono ?_
       rintro e w2 ⟨rfl, nn, os, hw2⟩
       have hl2 : (xs.mergeSort fun x y => decide (x ≤ y)).length = n := by rw [List.length_mergeSort]; exact HM.out
       have own2 : w2.ownsRow w.heap.size 3 1 (.slice (some ⟨w.heap.size, 0, none⟩) n n) n ((xs.mergeSort fun x y => decide (x ≤ y)).map encI) := by
         rw [hw2]; exact own_grow (own_put X1.out.1 hl2) os
       have hb2 : Below w.heap.size w w2 := by
         rw [hw2]; exact below_grow (Lib.below_putRow X1.out.2 (Nat.le_refl _)) (by simpa [putRow, mapBlock, Sort.ahead] using X1.out.2.size) os
       have hcomp := Try.slices_Compact_int w.heap.size 0 n (xs.mergeSort fun x y => decide (x ≤ y)) w2 (own_holds own2) (by rw [hl2]; omega) (by rw [hl2]; exact Nat.le_refl _)
       rw [hl2] at hcomp
       have hlc : (sset xs).length ≤ n := by rw [← HM.out]; exact sset_len xs
       have X2 := Lib.hid (And.intro own2 (And.intro hb2 hl2))
       have hcomp' := hcomp
       rw [show Lib.compact (xs.mergeSort fun x y => decide (x ≤ y)) = sset xs from rfl] at hcomp'
       clear own2 hb2 hl2 hw2 hsort hcomp)
    | (go_at_call 80
       refine hcomp'.mono ?_
       rintro e w3 ⟨rfl, q, hw3⟩
       have own3 : w3.ownsRow w.heap.size 3 1 (.slice (some ⟨w.heap.size, 0, none⟩) (sset xs).length n) (sset xs).length ((sset xs).map encI) := by
         rw [hw3]
         have := Lib.ownsRow_putRow (q := q) (k := (sset xs).length) (ys := sset xs ++ List.replicate (n - (sset xs).length) 0) X2.out.1 (by simp; omega) hlc
         rwa [List.take_left] at this
       have hb3 : Below w.heap.size w w3 := by rw [hw3]; exact Lib.below_putRow X2.out.2.1 (Nat.le_refl _)
       have X3 := Lib.hid (And.intro own3 hb3)
       clear own3 hb3 hw3 hcomp')
    | (go_at_call 78
       refine (clip_any _ _ _ _ hlc (by unfold maxLen; omega)).mono ?_
       rintro e w4 ⟨rfl, rfl⟩))
  · go_ret
    obtain ⟨h1, h2, h3, h4⟩ := Rd.own X3.out.1
    exact ⟨_, _, rfl, Nat.le_refl _, by unfold maxLen; omega, h1, h2, X3.out.2⟩
  · rw [heap_alloc_new]
  · simp [HM.out]
  · intro hp
    obtain ⟨ad, e, h⟩ := (ha.below ((Below.refl w.heap.size w).alloc (Nat.le_refl _) (.cells (madeCells #[Value.int IntKind.i64 0] n) 3)) (Nat.le_refl _)).news hp
    exact ⟨ad, e, fun j a hj => h j _ (by rw [List.getElem?_map, hj]; rfl)⟩
  · simp [HM.out, size_madeCells]
  · intro v hv
    obtain ⟨x, _, rfl⟩ := List.mem_map.1 hv
    rfl
  · exact (Below.refl w.heap.size w).alloc (Nat.le_refl _) _
end Go.Proofs.Ytojecaeblgghjaa

/-
  append ONTO A ROW OF THE CALL's OWN, as an equation of its run; what is appended reads as a list (nil let in).
-/
set_option linter.unusedVariables false
set_option linter.unusedSimpArgs false
namespace Go.Proofs.Ytojecaeblgghjaa
open Go.RowKit Go.Sort LsP

section
variable {α : Type} [Inhabited α] {enc : α → Value}

theorem run_append_of_nil {P : Program} (w : World) (base : Nat) (t ty e : TypeId) (i : TypeInfo) (size : Nat) (ht : P.underlying t = some (.slice e)) (hi : P.info? e = some i)
    (v : Value) (n : Nat) (xs : List Value) (hown : w.ownsRow base e size v n xs) (c : Nat) : (Builtin.append_ #[t, t] ty #[v, .slice none 0 c]).run P w = .ok v w := by
  rcases hown.2 with ⟨rfl, rfl⟩ | ⟨g, cap, cur, rfl, _, _, hnc, _⟩
  · simp [Builtin.append_, run_underlying ht, sizeOf, typeInfo, hi, Builtin.lenOf, Builtin.firstCells]
  · simp [Builtin.append_, run_underlying ht, sizeOf, typeInfo, hi, Builtin.lenOf, Builtin.firstCells, hnc, storeCells]

theorem own_value {w : World} {base n size : Nat} {e : TypeId} {v : Value} {xs : List Value} (h : w.ownsRow base e size v n xs) : ∃ A c, v = .slice A n c ∧ n ≤ c ∧ c ≤ maxLen ∧ ∀ b o, A = some ⟨b, o, none⟩ → base ≤ b ∧ b < w.heap.size := by
  rcases h.2 with ⟨rfl, rfl⟩ | ⟨g, cap, cur, rfl, hb, hg, hn, hm, _⟩
  · exact ⟨none, 0, rfl, Nat.le_refl _, by decide, fun _ _ e => by cases e⟩
  · exact ⟨_, _, rfl, hn, hm, fun b o e => by injection e with e; injection e with e1; subst e1; exact ⟨hb, (Array.getElem?_eq_some_iff.1 hg).1⟩⟩

/-- 'append(v, s...)', one cell an element. -/
theorem app_run {P : Program} (w : World) (base : Nat) (t ty e : TypeId) (i : TypeInfo) (z : Value) (bytes : Nat) (ht : P.underlying t = some (.slice e)) (hi : P.info? e = some i) (hz : i.zero = some z)
    (hsize : i.size = 1) (hby : i.bytes = bytes) (hzs : z.cells.size = 1) (h1 : ∀ x, (enc x).oneCell' = true)
    (v : Value) (n : Nat) (xs : List α) (hown : w.ownsRow base e 1 v n (xs.map enc))
    (lo : Nat) (A : Option Addr) (c : Nat) (ys : List α) (hr : Rd enc lo w A ys) (hc : A = none → c = 0 ∨ True)
    (h63 : n + ys.length ≤ maxLen) (hbytes : (n + ys.length) * bytes ≤ 140737488355328) (hbase : base ≤ w.heap.size) :
    ∃ A' c' w', (Builtin.append_ #[t, t] ty #[v, .slice A ys.length c]).run P w = .ok (.slice A' (n + ys.length) c') w' ∧ w'.ownsRow base e 1 (.slice A' (n + ys.length) c') (n + ys.length) ((xs ++ ys).map enc) ∧
      w.grownBy w' v.ownBlock ∧ (∀ b o, A' = some ⟨b, o, none⟩ → v.ownBlock = some b ∨ b = w.heap.size) := by
  have fin : ∀ (v' : Value) (w' : World), (Builtin.append_ #[t, t] ty #[v, .slice A ys.length c]).run P w = .ok v' w' → w'.ownsRow base e 1 v' (n + ys.length) ((xs ++ ys).map enc) → w.grownBy w' v.ownBlock → (v'.ownBlock = v.ownBlock ∨ v'.ownBlock = some w.heap.size) →
      ∃ A' c' w', (Builtin.append_ #[t, t] ty #[v, .slice A ys.length c]).run P w = .ok (.slice A' (n + ys.length) c') w' ∧ w'.ownsRow base e 1 (.slice A' (n + ys.length) c') (n + ys.length) ((xs ++ ys).map enc) ∧
      w.grownBy w' v.ownBlock ∧ (∀ b o, A' = some ⟨b, o, none⟩ → v.ownBlock = some b ∨ b = w.heap.size) := by
    intro v' w' hrun h2 h3 h4
    obtain ⟨A', c', rfl, _⟩ := own_value h2
    refine ⟨A', c', w', hrun, h2, h3, fun b o e => ?_⟩
    subst e
    rcases h4 with h | h
    · exact .inl (by rw [← h]; rfl)
    · exact .inr (by simpa [Value.ownBlock] using h)
  rcases A with _ | ad
  · have hm : ys.length = 0 := by
      rcases Nat.eq_zero_or_pos ys.length with h0 | h0
      · exact h0
      · obtain ⟨b, off, h, _⟩ := hr h0
        cases h
    have hn : ys = [] := List.eq_nil_of_length_eq_zero hm
    subst hn
    have hrun := run_append_of_nil (P := P) w base t ty e i 1 ht hi v n _ hown c
    exact fin v w (by simpa using hrun) (by simpa using hown) (World.grownBy.refl w _) (.inl rfl)
  · have hcells : ∀ j u, (ys.map enc)[j]? = some u → w.cell? (ad.add j) = some u := by
      intro j u hu
      rcases Nat.eq_zero_or_pos ys.length with h0 | h0
      · have hn : ys = [] := List.eq_nil_of_length_eq_zero h0
        subst hn
        simp at hu
      · obtain ⟨ad', h, hcl⟩ := hr.news h0
        injection h with h
        subst h
        exact hcl j u hu
    obtain ⟨v', w', hrun, h2, h3, _, h5⟩ := run_append_own_at (P := P) w base t ty e i z 1 bytes ht hi hz hsize hby hzs (by omega) v n (xs.map enc) hown ad ys.length c (ys.map enc) (by simp) hcells
      (fun u hu => by obtain ⟨x, _, rfl⟩ := List.mem_map.1 hu; exact h1 x) h63 hbytes hbase
    exact fin v' w' hrun (by simpa using h2) h3 h5

theorem below_own {B : Nat} {w0 w w' : World} {v : Value} (hb : Below B w0 w) (hB : B ≤ w.heap.size) (hg : w.grownBy w' v.ownBlock) (hv : ∀ b, v.ownBlock = some b → B ≤ b) : Below B w0 w' :=
  hb.grown hg hB hv
end

/-- AT THE OPERATION, FOR THE WALK, guarded or not: the append's run by its equation. -/
theorem wpList_append_run {P : Program} {w w' : World} {ops : Array Oper} {rest : List Oper} {o : Oper} {a : Act} {Q : Exit → Act → World → Prop} (hw : Region.wanted o (yielded ops a.tmps) = true) (s x : Operand) (t : TypeId)
    (ho : o.op = .call { callee := .builtin .append, args := #[s, x], argTypes := #[t, t] }) {vs vx v : Value} (hs : a.eval s = vs) (hx : a.eval x = vx)
    (hrun : (Builtin.append_ #[t, t] o.type #[vs, vx]).run P w = .ok v w') (h : wpList P ops Q rest (a.put o.dst v) w') : wpList P ops Q (o :: rest) a w :=
  BigFrame.wpList_want hw fun K hK => by
    unfold Oper.wp execOp
    simp only [ho, resolve, invoke, builtin, Sem.run_bind, Sem.run_pure, Result.andThen_ok, List.map_toArray, List.map_cons, List.map_nil, hs, hx, hrun]
    exact hK _ _ h

/-- The same in a region that draws its order. -/
theorem step_append_run {P : Program} {w w' : World} {ops : Array Oper} {o : Oper} {a : Act} {K : Act → World → Prop} {Q : Exit → Act → World → Prop} {E : Prop} (hw : Region.wanted o (yielded ops a.tmps) = true) (s x : Operand) (t : TypeId)
    (ho : o.op = .call { callee := .builtin .append, args := #[s, x], argTypes := #[t, t] }) {vs vx v : Value} (hs : a.eval s = vs) (hx : a.eval x = vx)
    (hrun : (Builtin.append_ #[t, t] o.type #[vs, vx]).run P w = .ok v w') (h : K (a.put o.dst v) w') : if Region.wanted o (yielded ops a.tmps) = true then Oper.wp P o a w K Q else E := by
  rw [if_pos hw]
  unfold Oper.wp execOp
  simp only [ho, resolve, invoke, builtin, Sem.run_bind, Sem.run_pure, Result.andThen_ok, List.map_toArray, List.map_cons, List.map_nil, hs, hx, hrun]
  exact h

/-- What is left behind the first item, whatever the capacity. -/
theorem Rd.tail {α : Type} [Inhabited α] {enc : α → Value} {lo : Nat} {w : World} {b off c : Nat} {x : α} {t : List α} (h : Rd enc lo w (some ⟨b, off, none⟩) (x :: t)) (hc : (x :: t).length ≤ c) :
    Rd enc lo w (if c = 1 then some ⟨b, off, none⟩ else some ⟨b, off + 1, none⟩) t := by
  by_cases h1 : c = 1
  · obtain rfl : t = [] := List.eq_nil_of_length_eq_zero (by simp at hc; omega)
    exact Rd.nil
  · rw [if_neg h1]
    exact h.drop 1

/-- The same at ints. -/
theorem appI_run (w : World) (base ty : Nat) (v : Value) (n : Nat) (xs : List Int) (hown : w.ownsRow base 3 1 v n (xs.map encI))
    (lo : Nat) (A : Option Addr) (c : Nat) (ys : List Int) (hr : Rd encI lo w A ys) (h63 : n + ys.length ≤ 10000000) (hbase : base ≤ w.heap.size) :
    ∃ A' c' w', (Builtin.append_ #[22, 22] ty #[v, .slice A ys.length c]).run Try.prog w = .ok (.slice A' (n + ys.length) c') w' ∧ w'.ownsRow base 3 1 (.slice A' (n + ys.length) c') (n + ys.length) ((xs ++ ys).map encI) ∧
      w.grownBy w' v.ownBlock ∧ (∀ b o, A' = some ⟨b, o, none⟩ → v.ownBlock = some b ∨ b = w.heap.size) := by
  obtain ⟨i0, hi0, hz0, hz1, hz2⟩ := info_parts info_int
  exact app_run w base 22 ty 3 i0 _ 8 Try.underlying22 hi0 hz0 hz1 hz2 rfl (fun _ => rfl) v n xs hown lo A c ys hr (fun _ => .inr trivial) (by unfold maxLen; omega) (by omega) hbase

/-- A literal of ints owns its row. -/
theorem own_lit {α : Type} {enc : α → Value} {w : World} {t : TypeId} (xs : List α) (h : xs.length ≤ maxLen) : (w.alloc (.cells (xs.map enc).toArray t)).ownsRow w.heap.size t 1 (.slice (some ⟨w.heap.size, 0, none⟩) xs.length xs.length) xs.length (xs.map enc) :=
  own_block (Nat.le_refl _) (heap_alloc_new w _) (by simp) h

end Go.Proofs.Ytojecaeblgghjaa
