/-
  CONTRACTS AT INTS of the document's answer: Set, Merge, sieve, Both, Less.
-/
import Derived.Test.YtojecaeblgghjaaBoth
set_option linter.unusedVariables false
set_option linter.unusedSimpArgs false
set_option linter.unusedSectionVars false
namespace Go.Proofs.Ytojecaeblgghjaa
open Go.RowKit Go.Sort LsP

section
variable {α : Type} [Inhabited α] {enc : α → Value}

theorem own_set {w : World} {base g n c : Nat} {e : TypeId} {l : List α} {k : Nat} (x : α) (h : w.ownsRow base e 1 (.slice (some ⟨g, 0, none⟩) n c) n (l.map enc)) (hk : k < n) :
    (w.setCell ⟨g, k, none⟩ (enc x)).ownsRow base e 1 (.slice (some ⟨g, 0, none⟩) n c) n ((l.set k x).map enc) := by
  have hl : l.length = n := by simpa using h.1
  rcases h.2 with ⟨e0, _⟩ | ⟨g', cap, cur, e0, hb, hg, hn, hm, hs, ht⟩
  · cases e0
  · injection e0 with e1 _ e3
    injection e1 with e1
    injection e1 with e1
    subst e1; subst e3
    refine ⟨by simp [hl], .inr ⟨g, c, cur.setIfInBounds k (enc x), rfl, hb, ?_, hn, hm, by simpa using hs, ?_⟩⟩
    · simp [World.setCell, Array.getElem?_modify, hg]
    · rw [Array.toList_setIfInBounds, List.take_set, ht, ← List.map_set]

theorem own_get {w : World} {base g n c : Nat} {e : TypeId} {l : List α} {k : Nat} (h : w.ownsRow base e 1 (.slice (some ⟨g, 0, none⟩) n c) n (l.map enc)) (hk : k < n) :
    w.cell? ⟨g, k, none⟩ = some (enc l[k]!) ∧ w.frozen? ⟨g, k, none⟩ = false := by
  obtain ⟨h1, h2, _, _⟩ := Rd.own h
  have hl : l.length = n := by simpa using h.1
  obtain ⟨b, off, e0, _, _, h3⟩ := h1 (by omega)
  injection e0 with e0
  injection e0 with e1 e2
  subst e1; subst e2
  have a := h3 k (by omega)
  have b := h2 g 0 rfl k hk
  simp only [Nat.zero_add] at a b
  exact ⟨a, b⟩

theorem own_some {w : World} {base n c : Nat} {e : TypeId} {A : Option Addr} {xs : List Value} (h : w.ownsRow base e 1 (.slice A n c) n xs) (hn : 0 < n) : ∃ g, A = some ⟨g, 0, none⟩ := by
  rcases h.2 with ⟨_, e0⟩ | ⟨g, cap, cur, e0, _⟩
  · omega
  · injection e0 with e1 _ _
    exact ⟨g, e1⟩

/-- A row with a gap at j. -/
def gap (old : List α) (j : Nat) (z : α) : List α := old.take j ++ z :: old.drop j

theorem gap_len (old : List α) (j : Nat) (z : α) (h : j ≤ old.length) : (gap old j z).length = old.length + 1 := by simp [gap]; omega
theorem gap_start (old : List α) (z : α) : old ++ [z] = gap old old.length z := by simp [gap]
theorem gap_get (old : List α) (j : Nat) (z : α) (h : j + 1 ≤ old.length) : (gap old (j + 1) z)[j]! = old[j]! := by
  have : j < (gap old (j + 1) z).length := by rw [gap_len _ _ _ h]; omega
  rw [getElem!_pos _ j this, getElem!_pos old j (by omega)]
  simp only [gap]
  rw [List.getElem_append_left (by simp; omega)]
  simp
theorem gap_fill (old : List α) (j : Nat) (z x : α) (h : j ≤ old.length) : (gap old j z).set j x = gap old j x := by
  unfold gap
  have hj : (old.take j).length = j := by simp; omega
  rw [List.set_append, if_neg (by omega), hj, Nat.sub_self]
  rfl
theorem gap_down (old : List α) (j : Nat) (z : α) (h : j + 1 ≤ old.length) : (gap old (j + 1) z).set (j + 1) old[j]! = gap old j old[j]! := by
  rw [gap_fill _ _ _ _ h]
  unfold gap
  rw [List.take_succ_eq_append_getElem (by omega), getElem!_pos old j (by omega), List.append_assoc]
  rw [List.drop_eq_getElem_cons (i := j) (by omega)]
  rfl
end

/-- The gap stands at the new item's place: the set with the item in it. -/
theorem gap_done (l : List Int) (x : Int) (j : Nat) (h : x ∉ sset l) (hj : j ≤ (sset l).length) (hlo : 0 < j → (sset l)[j - 1]! ≤ x) (hhi : ∀ y, y ∈ (sset l).drop j → x < y) : sset (l ++ [x]) = gap (sset l) j x := by
  refine sset_ins h (fun y hy => ?_) hhi
  obtain ⟨i, hi, rfl⟩ := List.getElem_of_mem hy
  have hi' : i < j := by simp at hi; omega
  rw [List.getElem_take]
  have h1 := hlo (by omega)
  have hs := sset_rise l
  rw [getElem!_pos (sset l) (j - 1) (by omega)] at h1
  have hne : (sset l)[j - 1] ≠ x := fun e => h (by rw [← e]; exact List.getElem_mem _)
  by_cases e : i = j - 1
  · subst e; omega
  · have := List.pairwise_iff_getElem.1 hs i (j - 1) (by omega) (by omega) (by omega)
    omega

theorem gap_next (l : List Int) (x : Int) (j : Nat) (hj : j + 1 ≤ (sset l).length) (hx : x < (sset l)[j]!) (hhi : ∀ y, y ∈ (sset l).drop (j + 1) → x < y) : ∀ y, y ∈ (sset l).drop j → x < y := by
  intro y hy
  rw [List.drop_eq_getElem_cons (by omega)] at hy
  rcases List.mem_cons.1 hy with e | e
  · rw [e, ← getElem!_pos (sset l) j (by omega)]; exact hx
  · exact hhi y e

set_option maxHeartbeats 2000000 in
set_option maxRecDepth 100000 in
theorem refSet_any (A : Option Addr) (c : Nat) (xs : List Int) (w : World) (ha : Rd encI 0 w A xs) (hn : xs.length ≤ 1000000) :
    Calls Try.prog 29 #[.slice A xs.length c] w (Told encI w (sset xs)) := by
  generalize hN : xs.length = n at hn ⊢
  have HN := Lib.hid hN
  clear hN
  go_enter Try.func29, Try.ntmps29
  go_wp2_with fail
  go_loopw [3, 4] (fun v i wr => ∃ k : Nat, k ≤ n ∧ i = .int .i64 k ∧ wr.ownsRow w.heap.size 3 1 v (sset (xs.take k)).length ((sset (xs.take k)).map encI) ∧ Below w.heap.size w wr) (fun _ i _ => n - (intOf i).toNat)
  case atStart =>
    exact ⟨0, Nat.zero_le _, rfl, by simpa [sset_nil] using World.ownsRow_nil w w.heap.size 3 1, Below.refl _ _⟩
  case round =>
    obtain ⟨k, hk, rfl, own1, hb1⟩ := hrel
    obtain ⟨V, cv, rfl, hcv, hmv, _⟩ := own_value own1
    by_cases hlt : k < n
    · obtain ⟨b, off, rfl, hbw, hcell⟩ := ha.at_ (k := k) (by rw [HN.out]; exact hlt)
      have hcell' : wr.cell? ⟨b, off + k, none⟩ = some (.int .i64 xs[k]!) := (hb1.cell (p := ⟨b, off + k, none⟩) hbw).trans hcell
      have htk : xs.take (k + 1) = xs.take k ++ [xs[k]!] := by rw [List.take_succ_eq_append_getElem (by rw [HN.out]; exact hlt), getElem!_pos xs k (by rw [HN.out]; exact hlt)]
      have hsk : (sset (xs.take k)).length ≤ k := Nat.le_trans (sset_len _) (List.length_take_le ..)
      have kh := refHas_any V cv (sset (xs.take k)) xs[k]! wr _ (Rd.own own1).1 (by omega)
      have HT := Lib.hid htk
      have KH := Lib.hid kh
      have HC := Lib.hid hcell
      have X := Lib.hid (And.intro own1 hb1)
      clear htk hcell kh own1 hb1
      generalize xs[k]! = x at *
      by_cases hx : x ∈ sset (xs.take k)
      · have e1 : decide (x ∈ sset (xs.take k)) = true := by simpa using hx
        have hset : Hid (sset (xs.take (k + 1)) = sset (xs.take k)) := by show _ = _; rw [HT.out]; exact sset_in hx
        clear hx
        go_wp2_with fail
        refine KH.out.mono ?_
        rintro e w' ⟨rfl, rfl⟩
        go_wp2
        go_roundw
        case rel => exact ⟨k + 1, by omega, by go_num, by rw [hset.out]; exact X.out.1, X.out.2⟩
        case measure => simp [intOf]; omega
      · have e1 : decide (x ∈ sset (xs.take k)) = false := by simpa using hx
        have hdone := fun j hj hlo hhi => gap_done (xs.take k) x j hx hj hlo hhi
        have hnext := gap_next (xs.take k) x
        rw [← HT.out] at hdone
        have HD := Lib.hid hdone
        have HNX := Lib.hid hnext
        clear hx hdone hnext
        generalize sset (xs.take k) = old at *
        obtain ⟨A1, c1, W1, run1, own2, gr1, at1⟩ := appI_run (wr.alloc (.cells #[.int .i64 x] 3)) w.heap.size 22 (.slice V old.length cv) old.length old (X.out.1.alloc _) wr.heap.size (some ⟨wr.heap.size, 0, none⟩) 1 [x] (Rd.lit (enc := encI) [x]) (by simp; omega) (by have := X.out.2.size; simp; omega)
        have hb2 : Below w.heap.size w W1 := (X.out.2.alloc X.out.2.size _).grown gr1 (by have := X.out.2.size; simp; omega) (fun b hb => ((X.out.1.alloc (.cells #[.int .i64 x] 3)).lt b hb).1)
        obtain ⟨g, rfl⟩ := own_some own2 (by simp)
        rw [List.length_singleton] at run1 own2
        have RR := Lib.hid run1
        have Y := Lib.hid (And.intro own2 hb2)
        have hgb := own_form own2
        clear run1 own2 hb2 gr1 at1
        go_wp2_with fail
        refine KH.out.mono ?_
        rintro e w' ⟨rfl, rfl⟩
        go_wp2_with (first | (at_builtin; refine wpList_append_run (o := ⟨some 26, _, _, _, _, _⟩) rfl _ _ _ rfl rfl rfl RR.out ?_))
        go_loopw [5] (fun kk wx => ∃ (j : Nat) (z : Int), j ≤ old.length ∧ kk = .int .i64 j ∧ wx.ownsRow w.heap.size 3 1 (.slice (some ⟨g, 0, none⟩) (old.length + 1) c1) (old.length + 1) ((gap old j z).map encI) ∧ Below w.heap.size w wx ∧ Hid (∀ y, y ∈ old.drop j → x < y)) (fun kk _ => (intOf kk).toNat)
        case atStart => exact ⟨old.length, x, Nat.le_refl _, rfl, by rw [← gap_start]; exact Y.out.1, Y.out.2, by show ∀ y, _; simp⟩
        case round =>
          obtain ⟨j, z, hj, rfl, ownx, hbx, HH⟩ := hrel
          have cL : wr.cell? ⟨b, off + k, none⟩ = some (.int .i64 x) := (hbx.cell (p := ⟨b, off + k, none⟩) hbw).trans HC.out
          have i1 : (k : Int) < (n : Int) := by omega
          have i2 : (0 : Int) ≤ (k : Int) := by omega
          cases j with
          | zero =>
            have f0 := own_get ownx (k := 0) (by omega)
            obtain ⟨f1, f2⟩ := f0
            have hset := own_set x ownx (k := 0) (by omega)
            rw [gap_fill _ _ _ _ (Nat.zero_le _)] at hset
            have hd := HD.out 0 (Nat.zero_le _) (fun h => absurd h (by omega)) HH.out
            have Z : Hid ((wr.setCell ⟨g, 0, none⟩ (.int .i64 x)).ownsRow w.heap.size 3 1 (.slice (some ⟨g, 0, none⟩) (old.length + 1) c1) (sset (xs.take (k + 1))).length ((sset (xs.take (k + 1))).map encI) ∧ Below w.heap.size w (wr.setCell ⟨g, 0, none⟩ (.int .i64 x))) := by
              refine ⟨?_, hbx.setCell (p := ⟨g, 0, none⟩) hgb.1 _⟩
              rw [hd, gap_len _ _ _ (Nat.zero_le _)]
              exact hset
            have hg0 : decide ((0 : Int) > 0) = false := by simp
            have i3 : (0 : Int) < (old.length : Int) + 1 := by omega
            generalize (gap old 0 z)[0]! = zz at *
            clear hset hd ownx hbx HH
            go_wp2
            go_quiet (fail)
            go_wp2
            go_roundw
            case rel => exact ⟨k + 1, by omega, by go_num, Z.out.1, below_drewN Z.out.2 _⟩
            case measure => simp [intOf]; omega
          | succ i =>
            have f1 := (own_get ownx (k := i) (by omega)).1
            rw [gap_get _ _ _ hj] at f1
            have f2 := own_get ownx (k := i + 1) (by omega)
            obtain ⟨f2, f3⟩ := f2
            have hsub : ((i + 1 : Nat) : Int) - 1 = (i : Int) := by omega
            have hg0 : decide (((i + 1 : Nat) : Int) > 0) = true := by simp
            have i3 : (i : Int) < (old.length : Int) + 1 := by omega
            have i4 : (0 : Int) ≤ (i : Int) := by omega
            have i5 : (i : Int) + 1 < (old.length : Int) + 1 := by omega
            by_cases t1 : x < old[i]!
            · have hnx := HNX.out i hj t1 HH.out
              have hset := own_set old[i]! ownx (k := i + 1) (by omega)
              rw [gap_down _ _ _ hj] at hset
              have Z : Hid ((wr.setCell ⟨g, i + 1, none⟩ (.int .i64 old[i]!)).ownsRow w.heap.size 3 1 (.slice (some ⟨g, 0, none⟩) (old.length + 1) c1) (old.length + 1) ((gap old i old[i]!).map encI) ∧ Below w.heap.size w (wr.setCell ⟨g, i + 1, none⟩ (.int .i64 old[i]!)) ∧ ∀ y, y ∈ old.drop i → x < y) :=
                ⟨hset, hbx.setCell (p := ⟨g, i + 1, none⟩) hgb.1 _, hnx⟩
              clear hset hnx ownx hbx HH
              generalize (gap old (i + 1) z)[i + 1]! = zz at *
              generalize old[i]! = y at *
              have e2 : decide (y > x) = true := by simpa using t1
              go_wp2
              go_quiet (fail)
              go_wp2
              go_roundw
              case rel => exact ⟨i, y, by omega, by go_num, Z.out.1, below_drewN Z.out.2.1 _, Z.out.2.2⟩
              case measure => simp [intOf]
            · have hset := own_set x ownx (k := i + 1) (by omega)
              rw [gap_fill _ _ _ _ hj] at hset
              have hd := HD.out (i + 1) hj (fun _ => by simp only [Nat.add_sub_cancel]; omega) HH.out
              have Z : Hid ((wr.setCell ⟨g, i + 1, none⟩ (.int .i64 x)).ownsRow w.heap.size 3 1 (.slice (some ⟨g, 0, none⟩) (old.length + 1) c1) (sset (xs.take (k + 1))).length ((sset (xs.take (k + 1))).map encI) ∧ Below w.heap.size w (wr.setCell ⟨g, i + 1, none⟩ (.int .i64 x))) := by
                refine ⟨?_, hbx.setCell (p := ⟨g, i + 1, none⟩) hgb.1 _⟩
                rw [hd, gap_len _ _ _ hj]
                exact hset
              clear hset hd ownx hbx HH
              generalize (gap old (i + 1) z)[i + 1]! = zz at *
              generalize old[i]! = y at *
              have e2 : decide (y > x) = false := by simpa using t1
              go_wp2
              go_quiet (fail)
              go_wp2
              go_roundw
              case rel => exact ⟨k + 1, by omega, by go_num, Z.out.1, below_drewN Z.out.2 _⟩
              case measure => simp [intOf]; omega
    · obtain rfl : k = n := by omega
      rw [List.take_of_length_le (by rw [HN.out]; exact Nat.le_refl _)] at own1
      have FIN := Lib.hid (Told.of_own own1 hb1)
      rw [List.take_of_length_le (by rw [HN.out]; exact Nat.le_refl _)]
      go_wp2
      go_ret
      exact FIN.out
set_option maxHeartbeats 1000000 in
set_option maxRecDepth 100000 in
theorem refMerge_any (A B : Option Addr) (c d : Nat) (xs ys : List Int) (w : World) (ha : Rd encI 0 w A xs) (hb : Rd encI 0 w B ys) (hn : xs.length ≤ 500000) (hm : ys.length ≤ 500000) :
    Calls Try.prog 31 #[.slice A xs.length c, .slice B ys.length d] w (Told encI w (sset (xs ++ ys))) := by
  obtain ⟨A1, c1, w1, run1, own1, gr1, at1⟩ := appI_run w w.heap.size 22 (.slice none 0 0) 0 [] (World.ownsRow_nil w w.heap.size 3 1) 0 A c xs ha (by omega) (Nat.le_refl _)
  have b1 : Below w.heap.size w w1 := (Below.refl _ _).grown gr1 (Nat.le_refl _) (fun k hk => by simp [Value.ownBlock] at hk)
  obtain ⟨A2, c2, w2, run2, own2, gr2, at2⟩ := appI_run w1 w.heap.size 22 (.slice A1 (0 + xs.length) c1) (0 + xs.length) ([] ++ xs) own1 0 B d ys (hb.below b1 (Nat.le_refl _)) (by omega) b1.size
  have b2 : Below w.heap.size w w2 := b1.grown gr2 b1.size (fun k hk => (own1.lt k hk).1)
  simp only [Nat.zero_add, List.nil_append] at run1 run2 own2
  have hl : (xs ++ ys).length = xs.length + ys.length := List.length_append
  have k1 := refSet_any A2 c2 (xs ++ ys) w2 ((Rd.own own2).1.low (Nat.zero_le _)) (by omega)
  rw [hl] at k1
  have K1 := Lib.hid k1; have R1 := Lib.hid run1; have R2 := Lib.hid run2; have B2 := Lib.hid b2
  clear k1 run1 run2 own1 own2 gr1 gr2 at1 at2 b1 b2 ha hb hl
  go_enter Try.func31, Try.ntmps31
  go_wp2_with (first
    | (at_builtin; refine wpList_append_run (o := ⟨some 8, _, _, _, _, _⟩) rfl _ _ _ rfl rfl rfl R1.out ?_)
    | (at_builtin; refine wpList_append_run (o := ⟨some 11, _, _, _, _, _⟩) rfl _ _ _ rfl rfl rfl R2.out ?_)
    | (go_at_call 29; refine K1.out.mono ?_; rintro e w3 ⟨A3, c3, rfl, h1, h2, h3, h4, h5⟩))
  go_ret
  exact ⟨A3, c3, rfl, h1, h2, h3.low B2.out.size, h4, below_up B2.out h5⟩

set_option maxHeartbeats 1000000 in
set_option maxRecDepth 100000 in
theorem sieve_any (A B : Option Addr) (c d : Nat) (xs ys : List Int) (has : Bool) (w : World) (ha : Rd encI 0 w A xs) (hb : Rd encI 0 w B ys) (hn : xs.length ≤ 1000000) (hm : ys.length ≤ 1000000) :
    Calls Try.prog 83 #[.slice A xs.length c, .slice B ys.length d, .bool has] w (Told encI w ((sset xs).filter fun x => decide (x ∈ ys) == has)) := by
  have k1 := refSet_any A c xs w ha hn
  have hla := sset_len xs
  generalize sset xs = S at *
  have K1 := Lib.hid k1
  have HB := Lib.hid hb
  clear k1 ha hb
  go_enter Try.func83, Try.ntmps83
  go_wp2_with fail
  refine K1.out.mono ?_
  rintro e w1 ⟨A1, c1, rfl, hc1, hm1, hr1, _, hb1⟩
  have HR := Lib.hid hr1
  have HB1 := Lib.hid hb1
  clear hr1 hb1
  go_wp2_with fail
  go_loopw [7, 9] (fun v i wr => ∃ k : Nat, k ≤ S.length ∧ i = .int .i64 k ∧ wr.ownsRow w1.heap.size 3 1 v ((S.take k).filter fun x => decide (x ∈ ys) == has).length (((S.take k).filter fun x => decide (x ∈ ys) == has).map encI) ∧ Below w1.heap.size w1 wr) (fun _ i _ => S.length - (intOf i).toNat)
  case atStart =>
    exact ⟨0, Nat.zero_le _, rfl, by simpa using World.ownsRow_nil w1 w1.heap.size 3 1, Below.refl _ _⟩
  case round =>
    obtain ⟨k, hk, rfl, own1, hbr⟩ := hrel
    obtain ⟨V, cv, rfl, hcv, hmv, _⟩ := own_value own1
    by_cases hlt : k < S.length
    · obtain ⟨b, off, rfl, hbw, hcell⟩ := HR.out.at_ hlt
      have hcell' : wr.cell? ⟨b, off + k, none⟩ = some (.int .i64 S[k]!) := (hbr.cell (p := ⟨b, off + k, none⟩) hbw).trans hcell
      have htf := Lib.hid (take_filter S (fun x => decide (x ∈ ys) == has) k hlt)
      have hlf : ((S.take k).filter fun x => decide (x ∈ ys) == has).length ≤ k := Nat.le_trans (List.length_filter_le ..) (List.length_take_le ..)
      have kh := refHas_any B d ys S[k]! wr 0 ((HB.out.below HB1.out (Nat.le_refl _)).below hbr (Nat.le_refl _)) hm
      have KH := Lib.hid kh
      have X := Lib.hid (And.intro own1 hbr)
      clear kh own1 hbr hcell
      generalize S[k]! = x at *
      generalize hq : (fun x => decide (x ∈ ys) == has) = q at *
      have hqx : Hid (q x = (decide (x ∈ ys) == has)) := by rw [← hq]; rfl
      clear hq
      by_cases hp : q x = true
      · have e1 : (decide (x ∈ ys) == has) = true := by rw [← hqx.out]; exact hp
        have HT : Hid ((S.take (k + 1)).filter q = (S.take k).filter q ++ [x]) := by show _ = _; rw [htf.out, if_pos e1]
        obtain ⟨A2, c2, W1, run1, own2, gr1, at1⟩ := appI_run (wr.alloc (.cells #[.int .i64 x] 3)) w1.heap.size 22 (.slice V ((S.take k).filter q).length cv) ((S.take k).filter q).length ((S.take k).filter q) (X.out.1.alloc _) wr.heap.size (some ⟨wr.heap.size, 0, none⟩) 1 [x] (Rd.lit (enc := encI) [x]) (by simp; omega) (by have := X.out.2.size; simp; omega)
        have hb2 : Below w1.heap.size w1 W1 := (X.out.2.alloc X.out.2.size _).grown gr1 (by have := X.out.2.size; simp; omega) (fun b hb => ((X.out.1.alloc (.cells #[.int .i64 x] 3)).lt b hb).1)
        rw [List.length_singleton] at run1 own2
        have RR := Lib.hid run1
        have Y : Hid (W1.ownsRow w1.heap.size 3 1 (.slice A2 (((S.take k).filter q).length + 1) c2) ((S.take (k + 1)).filter q).length (((S.take (k + 1)).filter q).map encI) ∧ Below w1.heap.size w1 W1) := ⟨by rw [HT.out, List.length_append]; exact own2, hb2⟩
        clear htf run1 own2 hb2 gr1 at1 hp
        go_wp2_with fail
        refine KH.out.mono ?_
        rintro e w' ⟨rfl, rfl⟩
        go_wp2_with (first | (at_builtin; refine wpList_append_run (o := ⟨some 32, _, _, _, _, _⟩) rfl _ _ _ rfl rfl rfl RR.out ?_))
        go_roundw
        case rel => exact ⟨k + 1, by omega, by go_num, Y.out⟩
        case measure => simp [intOf]; omega
      · have e1 : (decide (x ∈ ys) == has) = false := by rw [← hqx.out]; simpa using hp
        have HT : Hid ((S.take (k + 1)).filter q = (S.take k).filter q) := by show _ = _; rw [htf.out, if_neg (by rw [e1]; simp), List.append_nil]
        clear htf hp
        go_wp2_with fail
        refine KH.out.mono ?_
        rintro e w' ⟨rfl, rfl⟩
        go_wp2
        go_roundw
        case rel => exact ⟨k + 1, by omega, by go_num, by rw [HT.out]; exact X.out⟩
        case measure => simp [intOf]; omega
    · obtain rfl : k = S.length := by omega
      rw [List.take_length] at own1
      have FIN : Hid (Told encI w (S.filter fun x => decide (x ∈ ys) == has) (.returned (.slice V (S.filter fun x => decide (x ∈ ys) == has).length cv)) wr) := by
        obtain ⟨h1, h2, h3, h4⟩ := Rd.own own1
        exact ⟨V, cv, rfl, h3, h4, h1.low HB1.out.size, h2, below_up HB1.out hbr⟩
      rw [List.take_length]
      go_wp2
      go_ret
      exact FIN.out

theorem refBoth_any (A B : Option Addr) (c d : Nat) (xs ys : List Int) (w : World) (ha : Rd encI 0 w A xs) (hb : Rd encI 0 w B ys) (hn : xs.length ≤ 1000000) (hm : ys.length ≤ 1000000) :
    Calls Try.prog 33 #[.slice A xs.length c, .slice B ys.length d] w (Told encI w ((sset xs).filter fun x => decide (x ∈ sset ys))) := by
  have e : (sset xs).filter (fun x => decide (x ∈ sset ys)) = (sset xs).filter fun x => decide (x ∈ ys) == true := List.filter_congr fun x _ => by simp [mem_sset]
  rw [e]
  have K := Lib.hid (sieve_any A B c d xs ys true w ha hb hn hm)
  clear e ha hb
  generalize (sset xs).filter (fun x => decide (x ∈ ys) == true) = l at *
  go_enter Try.func33, Try.ntmps33
  go_wp2_with (go_at_call 83; refine K.out.mono ?_; rintro e w3 ⟨A3, c3, rfl, h1⟩)
  go_ret
  exact ⟨A3, c3, rfl, h1⟩

theorem refLess_any (A B : Option Addr) (c d : Nat) (xs ys : List Int) (w : World) (ha : Rd encI 0 w A xs) (hb : Rd encI 0 w B ys) (hn : xs.length ≤ 1000000) (hm : ys.length ≤ 1000000) :
    Calls Try.prog 35 #[.slice A xs.length c, .slice B ys.length d] w (Told encI w ((sset xs).filter fun x => !decide (x ∈ sset ys))) := by
  have e : (sset xs).filter (fun x => !decide (x ∈ sset ys)) = (sset xs).filter fun x => decide (x ∈ ys) == false := List.filter_congr fun x _ => by simp [mem_sset]
  rw [e]
  have K := Lib.hid (sieve_any A B c d xs ys false w ha hb hn hm)
  clear e ha hb
  generalize (sset xs).filter (fun x => decide (x ∈ ys) == false) = l at *
  go_enter Try.func35, Try.ntmps35
  go_wp2_with (go_at_call 83; refine K.out.mono ?_; rintro e w3 ⟨A3, c3, rfl, h1⟩)
  go_ret
  exact ⟨A3, c3, rfl, h1⟩

end Go.Proofs.Ytojecaeblgghjaa
