/-
  carapacelaw5.Closed: the walk. (Printed by mkclosed.py.)
-/
import Derived.Test.YtojecaeblgghjaaClosed
set_option linter.unusedVariables false
set_option linter.unusedSimpArgs false
namespace Go.Proofs.Ytojecaeblgghjaa
open Go.RowKit Go.Sort LsP

theorem take_pair {xs : List T3} {i k : Nat} {a b : Int} (hi : i < xs.length) (hk : k < 3) (h : (pairs xs)[3 * i + k]! = (a, b)) : (pairs xs).take (3 * i + k) ++ [(a, b)] = (pairs xs).take (3 * i + (k + 1)) := by
  have hl := pairs_len xs
  rw [show 3 * i + (k + 1) = (3 * i + k) + 1 by omega, List.take_succ_eq_append_getElem (by omega), ← getElem!_pos (pairs xs) (3 * i + k) (by omega), h]

set_option maxHeartbeats 8000000 in
set_option maxRecDepth 100000 in
theorem closed_any (A : Option Addr) (n c : Nat) (xs : List T3) (w : World) (ha : RdT 0 w A xs) (hn : xs.length = n) (hn2 : n ≤ 100) (hc : ∀ i, i < 3 * n → cN (pairs xs) i (3 * n) = 1 ∧ cM (pairs xs) i (3 * n) = 1) :
    Calls Try.prog 55 #[.slice A n c] w fun e w' => e = .returned (.bool true) ∧ Below w.heap.size w w' := by
  have HA := Lib.hid ha
  have HN := Lib.hid hn
  replace hc := Lib.hid hc
  clear ha hn
  have LP : Hid ((pairs xs).length = 3 * n) := Lib.hid (by rw [pairs_len, HN.out])
  have own00 : w.ownsRow w.heap.size 70 2 (.slice none 0 0) 0 [] := ⟨rfl, .inl ⟨rfl, rfl⟩⟩
  have OW0 := Lib.hid own00
  clear own00
  go_enter Try.func55, Try.ntmps55
  go_wp2_with fail
  go_loopw [3, 4] (fun v i wr => ∃ k : Nat, k ≤ n ∧ i = .int .i64 k ∧ Hid (wr.ownsRow w.heap.size 70 2 v (3 * k) ((flat2 ((pairs xs).take (3 * k))).map encI)) ∧ Hid (Below w.heap.size w wr)) (fun _ i _ => n - (intOf i).toNat)
  case atStart => exact ⟨0, Nat.zero_le _, rfl, OW0.out, Below.refl _ _⟩
  case round =>
    clear OW0
    obtain ⟨i, hi, rfl, OW, HB⟩ := hrel
    replace OW := Lib.hid OW.out
    replace HB := Lib.hid HB.out
    by_cases hlt : i < n
    · go_wp2_with fail
      go_loopw [3, 5] (fun v kv wr => ∃ k : Nat, k ≤ 3 ∧ kv = .int .i64 k ∧ Hid (wr.ownsRow w.heap.size 70 2 v (3 * i + k) ((flat2 ((pairs xs).take (3 * i + k))).map encI)) ∧ Hid (Below w.heap.size w wr)) (fun _ kv _ => 3 - (intOf kv).toNat)
      case atStart => exact ⟨0, Nat.zero_le _, rfl, OW.out, HB.out⟩
      case round =>
        clear OW HB
        obtain ⟨k, hk, rfl, OW, HB⟩ := hrel
        replace OW := Lib.hid OW.out
        replace HB := Lib.hid HB.out
        by_cases hlk : k < 3
        · obtain ⟨b, off, rfl, hbw, _⟩ := RdT.at3 HA.out (k := i) (by rw [HN.out]; exact hlt)
          obtain ⟨b', off', e, _, k0, k1, k2⟩ := RdT.at3 (HA.out.below HB.out (Nat.le_refl _)) (k := i) (by rw [HN.out]; exact hlt)
          injection e with e
          injection e with e1 e2
          subst e1 e2
          obtain ⟨g0, g1, g2⟩ := pairs_get xs i (by rw [HN.out]; exact hlt)
          rcases hxi : xs[i]! with ⟨x, y, z⟩
          rw [hxi] at k0 k1 k2 g0 g1 g2
          simp only at k0 k1 k2 g0 g1 g2
          have s0 : w.cell? ⟨b, off + i * 3, none⟩ = some (.int .i64 x) := (HB.out.cell (p := ⟨b, off + i * 3, none⟩) hbw).symm.trans k0
          have s1 : w.cell? ⟨b, off + i * 3 + 1, none⟩ = some (.int .i64 y) := (HB.out.cell (p := ⟨b, off + i * 3 + 1, none⟩) hbw).symm.trans k1
          have s2 : w.cell? ⟨b, off + i * 3 + 2, none⟩ = some (.int .i64 z) := (HB.out.cell (p := ⟨b, off + i * 3 + 2, none⟩) hbw).symm.trans k2
          clear hxi
          rcases (by omega : k = 0 ∨ k = 1 ∨ k = 2) with rfl | rfl | rfl
          · have hT := take_pair (k := 0) (by rw [HN.out]; exact hlt) (by omega) g0
            have bX : Below wr.heap.size wr (wr.alloc (.cells #[.int .i64 x, .int .i64 y] 70 (0, 0))).drew := ((Below.refl _ _).alloc (Nat.le_refl _) _).drew
            have own1 := own_updK (F := fun _ => False) OW.out (Upd.of_below bX) (fun _ _ => id)
            have bS : w.heap.size ≤ (wr.alloc (.cells #[.int .i64 x, .int .i64 y] 70 (0, 0))).drew.heap.size := Nat.le_trans HB.out.size bX.size
            obtain ⟨A', c', W', run1, own2, gr1⟩ := appP1_run (W := (wr.alloc (.cells #[.int .i64 x, .int .i64 y] 70 (0, 0))).drew) wr.heap.size (heap_alloc_new wr (.cells #[.int .i64 x, .int .i64 y] 70 (0, 0))) own1 bS (by omega)
            have hb5 : Below w.heap.size w W' := (below_up HB.out bX).grown gr1 bS (fun b hb => (own1.lt b hb).1)
            rw [hT] at own2
            have RR := Lib.hid run1
            have OW2 := Lib.hid own2
            have HB2 := Lib.hid hb5
            have cA : Hid (wr.cell? ⟨b, off + i * 3, none⟩ = some (.int .i64 x) ∧ wr.cell? ⟨b, off + i * 3 + 1, none⟩ = some (.int .i64 y)) := Lib.hid ⟨k0, k1⟩
            have cA0 := cA.out.1
            have cA1 := cA.out.2
            have cF0 : W'.cell? ⟨b, off + i * 3, none⟩ = some (.int .i64 x) := (hb5.cell (p := ⟨b, off + i * 3, none⟩) hbw).trans s0
            have cF1 : W'.cell? ⟨b, off + i * 3 + 1, none⟩ = some (.int .i64 y) := (hb5.cell (p := ⟨b, off + i * 3 + 1, none⟩) hbw).trans s1
            have hw1 : IntKind.i64.wrap 1 = 1 := by decide
            have hr1 : (1 : Int).tmod 3 = 1 := by decide
            clear hT bX own1 bS run1 own2 gr1 hb5 g0 g1 g2 k0 k1 k2 s0 s1 s2
            go_wp2_with fail
            go_region_held3 (fun w' => w'.cell? ⟨b, off + i * 3, none⟩ = some (.int .i64 x) ∧ w'.cell? ⟨b, off + i * 3 + 1, none⟩ = some (.int .i64 y)) (first | go_keep) ((refine step_append_run (o := ⟨some 37, _, _, _, _, _⟩) rfl _ _ _ rfl rfl rfl RR.out ?_))
            go_wp2_with fail
            go_roundw
            case rel => exact ⟨1, by omega, by go_num, OW2.out, HB2.out⟩
            case measure => simp [intOf]
          · have hT := take_pair (k := 1) (by rw [HN.out]; exact hlt) (by omega) g1
            have bX : Below wr.heap.size wr (wr.alloc (.cells #[.int .i64 y, .int .i64 z] 70 (0, 0))).drew := ((Below.refl _ _).alloc (Nat.le_refl _) _).drew
            have own1 := own_updK (F := fun _ => False) OW.out (Upd.of_below bX) (fun _ _ => id)
            have bS : w.heap.size ≤ (wr.alloc (.cells #[.int .i64 y, .int .i64 z] 70 (0, 0))).drew.heap.size := Nat.le_trans HB.out.size bX.size
            obtain ⟨A', c', W', run1, own2, gr1⟩ := appP1_run (W := (wr.alloc (.cells #[.int .i64 y, .int .i64 z] 70 (0, 0))).drew) wr.heap.size (heap_alloc_new wr (.cells #[.int .i64 y, .int .i64 z] 70 (0, 0))) own1 bS (by omega)
            have hb5 : Below w.heap.size w W' := (below_up HB.out bX).grown gr1 bS (fun b hb => (own1.lt b hb).1)
            rw [hT] at own2
            have RR := Lib.hid run1
            have OW2 := Lib.hid own2
            have HB2 := Lib.hid hb5
            have cA : Hid (wr.cell? ⟨b, off + i * 3 + 1, none⟩ = some (.int .i64 y) ∧ wr.cell? ⟨b, off + i * 3 + 2, none⟩ = some (.int .i64 z)) := Lib.hid ⟨k1, k2⟩
            have cA0 := cA.out.1
            have cA1 := cA.out.2
            have cF0 : W'.cell? ⟨b, off + i * 3 + 1, none⟩ = some (.int .i64 y) := (hb5.cell (p := ⟨b, off + i * 3 + 1, none⟩) hbw).trans s1
            have cF1 : W'.cell? ⟨b, off + i * 3 + 2, none⟩ = some (.int .i64 z) := (hb5.cell (p := ⟨b, off + i * 3 + 2, none⟩) hbw).trans s2
            have hw1 : IntKind.i64.wrap 2 = 2 := by decide
            have hr1 : (2 : Int).tmod 3 = 2 := by decide
            clear hT bX own1 bS run1 own2 gr1 hb5 g0 g1 g2 k0 k1 k2 s0 s1 s2
            go_wp2_with fail
            go_region_held3 (fun w' => w'.cell? ⟨b, off + i * 3 + 1, none⟩ = some (.int .i64 y) ∧ w'.cell? ⟨b, off + i * 3 + 2, none⟩ = some (.int .i64 z)) (first | go_keep) ((refine step_append_run (o := ⟨some 37, _, _, _, _, _⟩) rfl _ _ _ rfl rfl rfl RR.out ?_))
            go_wp2_with fail
            go_roundw
            case rel => exact ⟨2, by omega, by go_num, OW2.out, HB2.out⟩
            case measure => simp [intOf]
          · have hT := take_pair (k := 2) (by rw [HN.out]; exact hlt) (by omega) g2
            have bX : Below wr.heap.size wr (wr.alloc (.cells #[.int .i64 z, .int .i64 x] 70 (0, 0))).drew := ((Below.refl _ _).alloc (Nat.le_refl _) _).drew
            have own1 := own_updK (F := fun _ => False) OW.out (Upd.of_below bX) (fun _ _ => id)
            have bS : w.heap.size ≤ (wr.alloc (.cells #[.int .i64 z, .int .i64 x] 70 (0, 0))).drew.heap.size := Nat.le_trans HB.out.size bX.size
            obtain ⟨A', c', W', run1, own2, gr1⟩ := appP1_run (W := (wr.alloc (.cells #[.int .i64 z, .int .i64 x] 70 (0, 0))).drew) wr.heap.size (heap_alloc_new wr (.cells #[.int .i64 z, .int .i64 x] 70 (0, 0))) own1 bS (by omega)
            have hb5 : Below w.heap.size w W' := (below_up HB.out bX).grown gr1 bS (fun b hb => (own1.lt b hb).1)
            rw [hT] at own2
            have RR := Lib.hid run1
            have OW2 := Lib.hid own2
            have HB2 := Lib.hid hb5
            have cA : Hid (wr.cell? ⟨b, off + i * 3 + 2, none⟩ = some (.int .i64 z) ∧ wr.cell? ⟨b, off + i * 3, none⟩ = some (.int .i64 x)) := Lib.hid ⟨k2, k0⟩
            have cA0 := cA.out.1
            have cA1 := cA.out.2
            have cF0 : W'.cell? ⟨b, off + i * 3 + 2, none⟩ = some (.int .i64 z) := (hb5.cell (p := ⟨b, off + i * 3 + 2, none⟩) hbw).trans s2
            have cF1 : W'.cell? ⟨b, off + i * 3, none⟩ = some (.int .i64 x) := (hb5.cell (p := ⟨b, off + i * 3, none⟩) hbw).trans s0
            have hw1 : IntKind.i64.wrap 3 = 3 := by decide
            have hr1 : (3 : Int).tmod 3 = 0 := by decide
            clear hT bX own1 bS run1 own2 gr1 hb5 g0 g1 g2 k0 k1 k2 s0 s1 s2
            go_wp2_with fail
            go_region_held3 (fun w' => w'.cell? ⟨b, off + i * 3 + 2, none⟩ = some (.int .i64 z) ∧ w'.cell? ⟨b, off + i * 3, none⟩ = some (.int .i64 x)) (first | go_keep) ((refine step_append_run (o := ⟨some 37, _, _, _, _, _⟩) rfl _ _ _ rfl rfl rfl RR.out ?_))
            go_wp2_with fail
            go_roundw
            case rel => exact ⟨3, by omega, by go_num, OW2.out, HB2.out⟩
            case measure => simp [intOf]
        · obtain rfl : k = 3 := by omega
          go_wp2_with fail
          go_roundw
          case rel => exact ⟨i + 1, by omega, by go_num, OW.out, HB.out⟩
          case measure => simp [intOf]; omega
    · obtain rfl : i = n := by omega
      by_cases h0 : i = 0
      · subst h0
        obtain ⟨A', c', rfl, _⟩ := own_value OW.out
        go_wp2_with fail
        go_loopw [6] (fun j wx => j = .int .i64 0 ∧ wx = wr) (fun _ _ => 0)
        case atStart => exact ⟨rfl, rfl⟩
        case round =>
          obtain ⟨rfl, rfl⟩ := hrel
          go_wp2
          go_ret
          exact ⟨rfl, HB.out⟩
      rw [List.take_of_length_le (by rw [LP.out]; omega)] at OW
      obtain ⟨g, cap, rfl, hcap, hcm, hcell⟩ := own_pairs OW.out LP.out (by omega)
      unfold maxLen at hcm
      replace hcell := Lib.hid hcell
      generalize pairs xs = ps at *
      generalize hN3 : 3 * i = N at *
      clear OW h0
      rename World => W0
      go_wp2_with fail
      go_loopw [6] (fun jv wx => ∃ j q : Nat, j ≤ N ∧ jv = .int .i64 j ∧ Hid (wx = W0.drewN q)) (fun jv _ => N - (intOf jv).toNat)
      case atStart => exact ⟨0, 0, Nat.zero_le _, rfl, rfl⟩
      case round =>
        obtain ⟨j, q, hj, rfl, hW⟩ := hrel
        replace hW := Lib.hid hW.out
        by_cases hlj : j < N
        · go_wp2_with fail
          go_loopw [7, 8, 9] (fun nv mv kv wx => ∃ k q : Nat, k ≤ N ∧ kv = .int .i64 k ∧ nv = .int .i64 (cN ps j k : Nat) ∧ mv = .int .i64 (cM ps j k : Nat) ∧ Hid (wx = W0.drewN q)) (fun _ _ kv _ => N - (intOf kv).toNat)
          case atStart => exact ⟨0, q, Nat.zero_le _, rfl, rfl, rfl, hW.out⟩
          case round =>
            clear hW
            obtain ⟨k, q, hk, rfl, rfl, rfl, hW⟩ := hrel
            replace hW := Lib.hid hW.out
            by_cases hlk : k < N
            · obtain ⟨a0, a1⟩ := hcell.out j hlj
              obtain ⟨b0, b1⟩ := hcell.out k hlk
              rcases hpj : ps[j]! with ⟨x, y⟩
              rcases hpk : ps[k]! with ⟨u, v⟩
              rw [hpj] at a0 a1
              rw [hpk] at b0 b1
              simp only at a0 a1 b0 b1
              have hcN : Hid (cN ps j (k + 1) = cN ps j k + if u = x ∧ v = y then 1 else 0) := Lib.hid (by
                rw [cN, hpj, hpk]
                simp only [Prod.mk.injEq])
              have hcM : Hid (cM ps j (k + 1) = cM ps j k + if u = y ∧ v = x then 1 else 0) := Lib.hid (by
                rw [cM, hpj, hpk])
              have lN := cN_le ps j k
              have lM := cM_le ps j k
              have c0 : wr.cell? ⟨g, j * 2, none⟩ = some (.int .i64 x) := by rw [hW.out]; exact a0
              have c1 : wr.cell? ⟨g, j * 2 + 1, none⟩ = some (.int .i64 y) := by rw [hW.out]; exact a1
              have d0 : wr.cell? ⟨g, k * 2, none⟩ = some (.int .i64 u) := by rw [hW.out]; exact b0
              have d1 : wr.cell? ⟨g, k * 2 + 1, none⟩ = some (.int .i64 v) := by rw [hW.out]; exact b1
              have qe := eqP_run u v x y
              clear a0 a1 b0 b1 hpj hpk
              by_cases g0 : u = x ∧ v = y
              · rw [decide_eq_true g0] at qe
                replace hcN := Lib.hid (hcN.out.trans (by rw [if_pos g0]))
                clear g0
                go_wp2_with fail
                go_quiet (fail)
                replace c0 : (wr.drewN nq).cell? _ = _ := c0
                replace c1 : (wr.drewN nq).cell? _ = _ := c1
                replace d0 : (wr.drewN nq).cell? _ = _ := d0
                replace d1 : (wr.drewN nq).cell? _ = _ := d1
                have hW2 : Hid (wr.drewN nq = W0.drewN (q + nq)) := Lib.hid (by rw [hW.out, World.drewN_drewN])
                generalize wr.drewN nq = W at *
                go_wp2_with fail
                by_cases g1 : u = y
                · have t1 : (u == y) = true := by simpa using g1
                  by_cases g2 : v = x
                  · have t2 : (v == x) = true := by simpa using g2
                    replace hcM := Lib.hid (hcM.out.trans (by rw [if_pos ⟨g1, g2⟩]))
                    clear g1 g2
                    go_wp2_with fail
                    go_quiet (fail)
                    go_wp2_with fail
                    go_roundw
                    case rel => exact ⟨k + 1, _, by omega, by go_num, by rw [hcN.out]; first | rfl | (simp; done) | go_num, by rw [hcM.out]; first | rfl | (simp; done) | go_num, Lib.hid (by rw [hW2.out, World.drewN_drewN])⟩
                    case measure => simp [intOf]; omega
                  · have t2 : (v == x) = false := by simpa using g2
                    replace hcM := Lib.hid (hcM.out.trans (by rw [if_neg (fun h => g2 h.2)]))
                    clear g1 g2
                    go_wp2_with fail
                    go_quiet (fail)
                    go_wp2_with fail
                    go_roundw
                    case rel => exact ⟨k + 1, _, by omega, by go_num, by rw [hcN.out]; first | rfl | (simp; done) | go_num, by rw [hcM.out]; simp, Lib.hid (by rw [hW2.out, World.drewN_drewN])⟩
                    case measure => simp [intOf]; omega
                · have t1 : (u == y) = false := by simpa using g1
                  replace hcM := Lib.hid (hcM.out.trans (by rw [if_neg (fun h => g1 h.1)]))
                  clear g1
                  go_wp2_with fail
                  go_quiet (fail)
                  go_wp2_with fail
                  go_roundw
                  case rel => exact ⟨k + 1, _, by omega, by go_num, by rw [hcN.out]; first | rfl | (simp; done) | go_num, by rw [hcM.out]; simp, Lib.hid (by rw [hW2.out, World.drewN_drewN])⟩
                  case measure => simp [intOf]; omega
              · rw [decide_eq_false g0] at qe
                replace hcN := Lib.hid (hcN.out.trans (by rw [if_neg g0]))
                clear g0
                go_wp2_with fail
                go_quiet (fail)
                replace c0 : (wr.drewN nq).cell? _ = _ := c0
                replace c1 : (wr.drewN nq).cell? _ = _ := c1
                replace d0 : (wr.drewN nq).cell? _ = _ := d0
                replace d1 : (wr.drewN nq).cell? _ = _ := d1
                have hW2 : Hid (wr.drewN nq = W0.drewN (q + nq)) := Lib.hid (by rw [hW.out, World.drewN_drewN])
                generalize wr.drewN nq = W at *
                go_wp2_with fail
                by_cases g1 : u = y
                · have t1 : (u == y) = true := by simpa using g1
                  by_cases g2 : v = x
                  · have t2 : (v == x) = true := by simpa using g2
                    replace hcM := Lib.hid (hcM.out.trans (by rw [if_pos ⟨g1, g2⟩]))
                    clear g1 g2
                    go_wp2_with fail
                    go_quiet (fail)
                    go_wp2_with fail
                    go_roundw
                    case rel => exact ⟨k + 1, _, by omega, by go_num, by rw [hcN.out]; simp, by rw [hcM.out]; first | rfl | (simp; done) | go_num, Lib.hid (by rw [hW2.out, World.drewN_drewN])⟩
                    case measure => simp [intOf]; omega
                  · have t2 : (v == x) = false := by simpa using g2
                    replace hcM := Lib.hid (hcM.out.trans (by rw [if_neg (fun h => g2 h.2)]))
                    clear g1 g2
                    go_wp2_with fail
                    go_quiet (fail)
                    go_wp2_with fail
                    go_roundw
                    case rel => exact ⟨k + 1, _, by omega, by go_num, by rw [hcN.out]; simp, by rw [hcM.out]; simp, Lib.hid (by rw [hW2.out, World.drewN_drewN])⟩
                    case measure => simp [intOf]; omega
                · have t1 : (u == y) = false := by simpa using g1
                  replace hcM := Lib.hid (hcM.out.trans (by rw [if_neg (fun h => g1 h.1)]))
                  clear g1
                  go_wp2_with fail
                  go_quiet (fail)
                  go_wp2_with fail
                  go_roundw
                  case rel => exact ⟨k + 1, _, by omega, by go_num, by rw [hcN.out]; simp, by rw [hcM.out]; simp, Lib.hid (by rw [hW2.out, World.drewN_drewN])⟩
                  case measure => simp [intOf]; omega
            · obtain rfl : k = N := by omega
              obtain ⟨e1, e2⟩ := hc.out j hlj
              rw [e1, e2]
              go_wp2_with fail
              go_roundw
              case rel => exact ⟨j + 1, q, by omega, by go_num, hW.out⟩
              case measure => simp [intOf]; omega
        · obtain rfl : j = N := by omega
          go_wp2
          go_ret
          exact ⟨rfl, by rw [hW.out]; exact below_drewN HB.out q⟩
end Go.Proofs.Ytojecaeblgghjaa
