/-
  CONTRACTS AT INTS: order.Merge.
-/
import Derived.Test.YtojecaeblgghjaaKeep
import Derived.Deep.RegionHeld3
import Derived.Deep.LoopGhost
set_option linter.unusedVariables false
set_option linter.unusedSimpArgs false
namespace Go.Proofs.Ytojecaeblgghjaa
open Go.RowKit Go.Sort LsP

set_option maxHeartbeats 2000000 in
set_option maxRecDepth 100000 in
theorem merge_any (A B : Option Addr) (c d : Nat) (xs ys : List Int) (w : World) (ha : Rd encI 0 w A xs) (hb : Rd encI 0 w B ys) (hn : xs.length ≤ 1000000) (hm : ys.length ≤ 1000000) :
    Calls Try.prog 30 #[.slice A xs.length c, .slice B ys.length d] w (Told encI w (sset (xs ++ ys))) := by
  have k1 := set_any A c xs w 0 ha hn
  have k2 := fun w1 (hb1 : Below w.heap.size w w1) => set_any B d ys w1 0 (hb.below hb1 (Nat.le_refl _)) hm
  have K1 := Lib.hid k1; have K2 := Lib.hid k2
  clear k1 k2 ha hb
  have hsum : (sset (xs ++ ys)).length ≤ 2000000 := by have := sset_len (xs ++ ys); rw [List.length_append] at this; omega
  have hla := sset_len xs
  have hlb := sset_len ys
  obtain ⟨i0, hi0, hz0, hz1, hz2⟩ := info_parts info_int
  have hmk := fun W => run_make_rowN (P := Try.prog) 22 3 i0 (.int .i64 0) Try.underlying22 hi0 hz0 .i64 .i64 0 ((sset xs).length + (sset ys).length) (Nat.zero_le _) (by rw [hz2]; omega) (by omega) W
  rw [hz1, Nat.mul_one] at hmk
  have HMK := Lib.hid hmk
  clear hi0 hz0 hz1 hz2 hmk
  have hR : mg (sset xs) (sset ys) = sset (xs ++ ys) := mg_sset xs ys
  generalize sset (xs ++ ys) = R at *
  generalize sset xs = sa at *
  generalize sset ys = sb at *
  have HR := Lib.hid hR
  clear hR
  go_enter Try.func30, Try.ntmps30
  go_wp2_with fail
  go_step3
  go_wp2_with fail
  refine K1.out.mono ?_
  rintro e w1 ⟨A1, c1, rfl, hc1, hm1, hr1, _, hb1⟩
  have K3 := Lib.hid (K2.out w1 hb1)
  go_wp2_with fail
  refine K3.out.mono ?_
  rintro e w2 ⟨B1, d1, rfl, hd1, hm2, hr2, _, hb2⟩
  have hra : Rd encI 0 w2 A1 sa := (hr1.below hb2 (Nat.le_refl _)).low (Nat.zero_le _)
  have hrb : Rd encI 0 w2 B1 sb := hr2.low (Nat.zero_le _)
  have BB : Hid (Below w.heap.size w w2) := below_up hb1 hb2
  have hmk0 := HMK.out
  rw [show (((sa.length + sb.length : Nat) : Int)) = (sa.length : Int) + (sb.length : Int) by omega] at hmk0
  have hmk : ∀ W : World, (Instr.makeSlice 22 (.int .i64 0) (.int .i64 ((sa.length : Int) + (sb.length : Int)))).run Try.prog W = .ok (.slice (some ⟨W.heap.size, 0, none⟩) 0 (sa.length + sb.length)) (W.alloc (.cells (madeCells #[Value.int IntKind.i64 0] (sa.length + sb.length)) 3)) := fun W => hmk0 W
  clear hmk0
  clear hr1 hr2 hb1 hb2 K1 K2 K3 HMK
  have own0 : ∀ cur : Array Value, cur.size = sa.length + sb.length → (w2.alloc (.cells cur 3)).ownsRow w2.heap.size 3 1 (.slice (some ⟨w2.heap.size, 0, none⟩) 0 (sa.length + sb.length)) 0 [] := fun cur hc =>
    World.ownsRow_made w2 cur _ (Nat.le_refl _) (by unfold maxLen; omega) (by omega)
  have b20 : ∀ o, Below w2.heap.size w2 (w2.alloc o) := fun o => (Below.refl _ _).alloc (Nat.le_refl _) o
  go_wp2_with fail
  go_step3
  go_wp2_with fail
  clear hmk
  go_loopg [0, 1, 5] (sa.length + sb.length) (fun g s0 s1 s5 wx => ∃ (A : Option Addr) (us : List Int) (ca : Nat) (B : Option Addr) (vs : List Int) (cb : Nat) (out : List Int),
    s0 = .slice A us.length ca ∧ us.length ≤ ca ∧ Rd encI 0 w2 A us ∧ s1 = .slice B vs.length cb ∧ vs.length ≤ cb ∧ Rd encI 0 w2 B vs ∧
    wx.ownsRow w2.heap.size 3 1 s5 out.length (out.map encI) ∧ Hid (out ++ mg us vs = R) ∧ g = us.length + vs.length ∧ ca ≤ maxLen ∧ cb ≤ maxLen ∧ Below w2.heap.size w2 wx)
  case atStart =>
    exact ⟨A1, sa, c1, B1, sb, d1, [], rfl, hc1, hra, rfl, hd1, hrb, own0 _ (by simp [size_madeCells]), HR.out, rfl, hm1, hm2, b20 _⟩
  case round =>
    obtain ⟨A, us, ca, B, vs, cb, out, rfl, hca, hru, rfl, hcb, hrv, own, HO, hg, hma, hmb, hbx⟩ := hrel
    obtain ⟨V, cv, rfl, hcv, hmv, _⟩ := own_value own
    have hlR : out.length + (mg us vs).length ≤ 2000000 := by
      have := HO.out
      rw [← List.length_append, this]; exact hsum
    have X := Lib.hid (And.intro own hbx)
    clear own hbx
    cases us with
    | nil =>
      have hO : out ++ vs = R := by have := HO.out; simpa [mg] using this
      have hlv : out.length + vs.length ≤ 2000000 := by rw [← List.length_append, hO]; exact hsum
      obtain ⟨D, cd', w5, run1, own2, gr1, at1⟩ := appI_run wr w2.heap.size 22 (.slice V out.length cv) out.length out X.out.1 0 B cb vs (hrv.below X.out.2 (Nat.le_refl _)) (by omega) X.out.2.size
      have hb5 : Below w2.heap.size w2 w5 := X.out.2.grown gr1 X.out.2.size (fun b hb => (X.out.1.lt b hb).1)
      obtain ⟨h1, h2, h3, h4⟩ := Rd.own own2
      have hfin : New encI w2 R (.returned (.slice D (out.length + vs.length) (out.length + vs.length))) w5 := by
        have h := own2
        rw [← List.length_append, hO] at h ⊢
        exact New.of_own h
      have FIN : Hid (Told encI w R (.returned (.slice D (out.length + vs.length) (out.length + vs.length))) w5) := by
        obtain ⟨A', c', e1, e2, e3, e4, e5, _⟩ := hfin
        exact ⟨A', c', e1, e2, e3, e4.low BB.out.size, e5, below_up BB.out hb5⟩
      have RR := Lib.hid run1
      have g0 : (((0 : Nat) : Int) == 0) = true := rfl
      clear hO hlv own2 gr1 at1 hb5 hfin h1 h2 run1 hru hrv
      go_wp2_with (first
        | (at_builtin; refine wpList_append_run (o := ⟨some 32, _, _, _, _, _⟩) rfl _ _ _ rfl rfl rfl RR.out ?_)
        | (go_at_call 78; refine (clip_any _ _ _ _ h3 h4).mono ?_; rintro e w4 ⟨rfl, rfl⟩))
      try rw [Exit.noGoto_ret]
      go_ret
      exact FIN.out
    | cons x t =>
      have g1 : (((t.length : Int) + 1) == 0) = false := by simp; omega
      cases vs with
      | nil =>
        have hO : out ++ (x :: t) = R := by have := HO.out; simpa [mg] using this
        have hlv : out.length + (x :: t).length ≤ 2000000 := by rw [← List.length_append, hO]; exact hsum
        obtain ⟨D, cd', w5, run1, own2, gr1, at1⟩ := appI_run wr w2.heap.size 22 (.slice V out.length cv) out.length out X.out.1 0 A ca (x :: t) (hru.below X.out.2 (Nat.le_refl _)) (by omega) X.out.2.size
        have hb5 : Below w2.heap.size w2 w5 := X.out.2.grown gr1 X.out.2.size (fun b hb => (X.out.1.lt b hb).1)
        obtain ⟨h1, h2, h3, h4⟩ := Rd.own own2
        have hfin : New encI w2 R (.returned (.slice D (out.length + (x :: t).length) (out.length + (x :: t).length))) w5 := by
          have h := own2
          rw [← List.length_append, hO] at h ⊢
          exact New.of_own h
        have FIN : Hid (Told encI w R (.returned (.slice D (out.length + (x :: t).length) (out.length + (x :: t).length))) w5) := by
          obtain ⟨A', c', e1, e2, e3, e4, e5, _⟩ := hfin
          exact ⟨A', c', e1, e2, e3, e4.low BB.out.size, e5, below_up BB.out hb5⟩
        have RR := Lib.hid run1
        rw [List.length_cons] at RR h3 FIN
        clear hO hlv own2 gr1 at1 hb5 hfin h1 h2 run1 hru hrv HO hlR
        go_wp2_with (first
          | (at_builtin; refine wpList_append_run (o := ⟨some 39, _, _, _, _, _⟩) rfl _ _ _ rfl rfl rfl RR.out ?_)
          | (go_at_call 78; refine (clip_any _ _ _ _ h3 h4).mono ?_; rintro e w4 ⟨rfl, rfl⟩))
        try rw [Exit.noGoto_ret]
        go_ret
        exact FIN.out
      | cons y u =>
        have g2 : (((u.length : Int) + 1) == 0) = false := by simp; omega
        obtain ⟨b1, o1, rfl, _, hbw1, hcell1⟩ := hru (by simp)
        obtain ⟨b2, o2, rfl, _, hbw2, hcell2⟩ := hrv (by simp)
        have cx2 : w2.cell? ⟨b1, o1, none⟩ = some (.int .i64 x) := hcell1 0 (by simp)
        have cy2 : w2.cell? ⟨b2, o2, none⟩ = some (.int .i64 y) := hcell2 0 (by simp)
        have cx : wr.cell? ⟨b1, o1, none⟩ = some (.int .i64 x) := (X.out.2.cell (p := ⟨b1, o1, none⟩) hbw1).trans cx2
        have cy : wr.cell? ⟨b2, o2, none⟩ = some (.int .i64 y) := (X.out.2.cell (p := ⟨b2, o2, none⟩) hbw2).trans cy2
        have i1 : (0 : Int) < (t.length : Int) + 1 := by omega
        have i2 : (0 : Int) < (u.length : Int) + 1 := by omega
        have j1 : (1 : Int) ≤ (t.length : Int) + 1 := by omega
        have j2 : (1 : Int) ≤ (u.length : Int) + 1 := by omega
        obtain ⟨Z1, hZ1, T1⟩ : ∃ Z1, (if ca = 1 then some (⟨b1, o1, none⟩ : Addr) else some ⟨b1, o1 + 1, none⟩) = Z1 ∧ Hid (Rd encI 0 w2 Z1 t) := ⟨_, rfl, hru.tail hca⟩
        obtain ⟨Z2, hZ2, T2⟩ : ∃ Z2, (if cb = 1 then some (⟨b2, o2, none⟩ : Addr) else some ⟨b2, o2 + 1, none⟩) = Z2 ∧ Hid (Rd encI 0 w2 Z2 u) := ⟨_, rfl, hrv.tail hcb⟩
        have R1 := Lib.hid hru
        have R2 := Lib.hid hrv
        clear hru hrv
        have hlo : out.length ≤ 2000000 := by omega
        rw [List.length_cons] at hca hcb
        have HG := Lib.hid hg
        clear hcell1 hcell2 cx2 cy2 hlR hg
        by_cases t1 : x < y
        · have HO' : Hid ((out ++ [x]) ++ mg t (y :: u) = R) := by
            show _ = _
            rw [← HO.out, mg, if_pos t1, List.append_assoc]; rfl
          clear HO
          go_wp2
          go_quiet (fail)
          go_wp2_with fail
          have oX : (wr.drewN nq).ownsRow w2.heap.size 3 1 (.slice V out.length cv) out.length (out.map encI) := X.out.1
          have bX : Below w2.heap.size w2 (wr.drewN nq) := below_drewN X.out.2 nq
          have cX : (wr.drewN nq).cell? ⟨b1, o1, none⟩ = some (.int .i64 x) := cx
          clear cx cy X
          generalize wr.drewN nq = W at *
          have hr1 : Rd encI W.heap.size ((W.alloc (.cells #[.int .i64 x] 3)).drew) (some ⟨W.heap.size, 0, none⟩) [x] := Rd.lit (enc := encI) [x]
          obtain ⟨D, cd', W1, run1, own2, gr1, at1⟩ := appI_run ((W.alloc (.cells #[.int .i64 x] 3)).drew) w2.heap.size 22 (.slice V out.length cv) out.length out (oX.alloc _) W.heap.size (some ⟨W.heap.size, 0, none⟩) 1 [x] hr1 (by simp; omega) (by have := bX.size; simp; omega)
          have hb5 : Below w2.heap.size w2 W1 := ((bX.alloc bX.size _).drew).grown gr1 (by have := bX.size; simp; omega) (fun b hb => ((oX.alloc (.cells #[.int .i64 x] 3)).lt b hb).1)
          have cX1 : W1.cell? ⟨b1, o1, none⟩ = some (.int .i64 x) := by
            rw [World.cell?_of_block (w := w2) (a := ⟨b1, o1, none⟩) (hb5.block b1 hbw1), ← cX, World.cell?_of_block (w := w2) (a := ⟨b1, o1, none⟩) (bX.block b1 hbw1)]
          have RR := Lib.hid run1
          rw [List.length_singleton] at RR
          have Y : Hid (W1.ownsRow w2.heap.size 3 1 (.slice D (out.length + 1) cd') (out ++ [x]).length ((out ++ [x]).map encI) ∧ Below w2.heap.size w2 W1) := ⟨by rw [List.length_append]; exact own2, hb5⟩
          clear oX hr1 run1 own2 gr1 at1 bX hb5
          go_region_held3 (fun w' => w'.cell? ⟨b1, o1, none⟩ = some (.int .i64 x)) (first | go_keep) ((refine step_append_run (o := ⟨some 53, _, _, _, _, _⟩) rfl _ _ _ rfl rfl rfl RR.out ?_))
          go_wp2
          go_roundg (t.length + (y :: u).length)
          case rel => exact ⟨Z1, t, ca - 1, some ⟨b2, o2, none⟩, y :: u, cb, out ++ [x], rfl, by omega, T1.out, rfl, hcb, R2.out, Y.out.1, HO', rfl, by omega, hmb, Y.out.2⟩
          case measure => have := HG.out; simp only [List.length_cons] at this ⊢; omega
        · by_cases t2 : y < x
          · have HO' : Hid ((out ++ [y]) ++ mg (x :: t) u = R) := by
              show _ = _
              rw [← HO.out, mg, if_neg t1, if_pos t2, List.append_assoc]; rfl
            have hb1 : decide (x < y) = false := by simpa using t1
            clear HO
            go_wp2
            go_quiet (fail)
            go_wp2_with fail
            have cx0 : (wr.drewN nq).cell? ⟨b1, o1, none⟩ = some (.int .i64 x) := cx
            have cy0 : (wr.drewN nq).cell? ⟨b2, o2, none⟩ = some (.int .i64 y) := cy
            have X0 : Hid ((wr.drewN nq).ownsRow w2.heap.size 3 1 (.slice V out.length cv) out.length (out.map encI) ∧ Below w2.heap.size w2 (wr.drewN nq)) := ⟨X.out.1, below_drewN X.out.2 nq⟩
            clear cx cy X
            generalize wr.drewN nq = W0 at *
            go_quiet (fail)
            go_wp2_with fail
            have oX : (W0.drewN nq).ownsRow w2.heap.size 3 1 (.slice V out.length cv) out.length (out.map encI) := X0.out.1
            have bX : Below w2.heap.size w2 (W0.drewN nq) := below_drewN X0.out.2 nq
            have cX : (W0.drewN nq).cell? ⟨b2, o2, none⟩ = some (.int .i64 y) := cy0
            clear cx0 cy0 X0
            generalize W0.drewN nq = W at *
            have hr1 : Rd encI W.heap.size ((W.alloc (.cells #[.int .i64 y] 3)).drew) (some ⟨W.heap.size, 0, none⟩) [y] := Rd.lit (enc := encI) [y]
            obtain ⟨D, cd', W1, run1, own2, gr1, at1⟩ := appI_run ((W.alloc (.cells #[.int .i64 y] 3)).drew) w2.heap.size 22 (.slice V out.length cv) out.length out (oX.alloc _) W.heap.size (some ⟨W.heap.size, 0, none⟩) 1 [y] hr1 (by simp; omega) (by have := bX.size; simp; omega)
            have hb5 : Below w2.heap.size w2 W1 := ((bX.alloc bX.size _).drew).grown gr1 (by have := bX.size; simp; omega) (fun b hb => ((oX.alloc (.cells #[.int .i64 y] 3)).lt b hb).1)
            have cX1 : W1.cell? ⟨b2, o2, none⟩ = some (.int .i64 y) := by
              rw [World.cell?_of_block (w := w2) (a := ⟨b2, o2, none⟩) (hb5.block b2 hbw2), ← cX, World.cell?_of_block (w := w2) (a := ⟨b2, o2, none⟩) (bX.block b2 hbw2)]
            have RR := Lib.hid run1
            rw [List.length_singleton] at RR
            have Y : Hid (W1.ownsRow w2.heap.size 3 1 (.slice D (out.length + 1) cd') (out ++ [y]).length ((out ++ [y]).map encI) ∧ Below w2.heap.size w2 W1) := ⟨by rw [List.length_append]; exact own2, hb5⟩
            clear oX hr1 run1 own2 gr1 at1 bX hb5
            go_region_held3 (fun w' => w'.cell? ⟨b2, o2, none⟩ = some (.int .i64 y)) (first | go_keep) ((refine step_append_run (o := ⟨some 69, _, _, _, _, _⟩) rfl _ _ _ rfl rfl rfl RR.out ?_))
            go_wp2
            go_roundg ((x :: t).length + u.length)
            case rel => exact ⟨some ⟨b1, o1, none⟩, x :: t, ca, Z2, u, cb - 1, out ++ [y], rfl, hca, R1.out, rfl, by omega, T2.out, Y.out.1, HO', rfl, hma, by omega, Y.out.2⟩
            case measure => have := HG.out; simp only [List.length_cons] at this ⊢; omega
          · have hxy : x = y := by omega
            have HO' : Hid ((out ++ [x]) ++ mg t u = R) := by
              show _ = _
              rw [← HO.out, mg, if_neg t1, if_neg t2, List.append_assoc]; rfl
            have hb1 : decide (x < y) = false := by simpa using t1
            have hb2 : decide (y < x) = false := by simpa using t2
            clear HO hxy
            go_wp2
            go_quiet (fail)
            go_wp2_with fail
            have cx0 : (wr.drewN nq).cell? ⟨b1, o1, none⟩ = some (.int .i64 x) := cx
            have cy0 : (wr.drewN nq).cell? ⟨b2, o2, none⟩ = some (.int .i64 y) := cy
            have X0 : Hid ((wr.drewN nq).ownsRow w2.heap.size 3 1 (.slice V out.length cv) out.length (out.map encI) ∧ Below w2.heap.size w2 (wr.drewN nq)) := ⟨X.out.1, below_drewN X.out.2 nq⟩
            clear cx cy X
            generalize wr.drewN nq = W0 at *
            go_quiet (fail)
            go_wp2_with fail
            have oX : (W0.drewN nq).ownsRow w2.heap.size 3 1 (.slice V out.length cv) out.length (out.map encI) := X0.out.1
            have bX : Below w2.heap.size w2 (W0.drewN nq) := below_drewN X0.out.2 nq
            have cX : (W0.drewN nq).cell? ⟨b1, o1, none⟩ = some (.int .i64 x) := cx0
            clear cx0 cy0 X0
            generalize W0.drewN nq = W at *
            have hr1 : Rd encI W.heap.size ((W.alloc (.cells #[.int .i64 x] 3)).drew) (some ⟨W.heap.size, 0, none⟩) [x] := Rd.lit (enc := encI) [x]
            obtain ⟨D, cd', W1, run1, own2, gr1, at1⟩ := appI_run ((W.alloc (.cells #[.int .i64 x] 3)).drew) w2.heap.size 22 (.slice V out.length cv) out.length out (oX.alloc _) W.heap.size (some ⟨W.heap.size, 0, none⟩) 1 [x] hr1 (by simp; omega) (by have := bX.size; simp; omega)
            have hb5 : Below w2.heap.size w2 W1 := ((bX.alloc bX.size _).drew).grown gr1 (by have := bX.size; simp; omega) (fun b hb => ((oX.alloc (.cells #[.int .i64 x] 3)).lt b hb).1)
            have cX1 : W1.cell? ⟨b1, o1, none⟩ = some (.int .i64 x) := by
              rw [World.cell?_of_block (w := w2) (a := ⟨b1, o1, none⟩) (hb5.block b1 hbw1), ← cX, World.cell?_of_block (w := w2) (a := ⟨b1, o1, none⟩) (bX.block b1 hbw1)]
            have RR := Lib.hid run1
            rw [List.length_singleton] at RR
            have Y : Hid (W1.ownsRow w2.heap.size 3 1 (.slice D (out.length + 1) cd') (out ++ [x]).length ((out ++ [x]).map encI) ∧ Below w2.heap.size w2 W1) := ⟨by rw [List.length_append]; exact own2, hb5⟩
            clear oX hr1 run1 own2 gr1 at1 bX hb5
            go_region_held3 (fun w' => w'.cell? ⟨b1, o1, none⟩ = some (.int .i64 x)) (first | go_keep) ((refine step_append_run (o := ⟨some 21, _, _, _, _, _⟩) rfl _ _ _ rfl rfl rfl RR.out ?_))
            go_wp2
            go_roundg (t.length + u.length)
            case rel => exact ⟨Z1, t, ca - 1, Z2, u, cb - 1, out ++ [x], rfl, by omega, T1.out, rfl, by omega, T2.out, Y.out.1, HO', rfl, by omega, by omega, Y.out.2⟩
            case measure => have := HG.out; simp only [List.length_cons] at this ⊢; omega
end Go.Proofs.Ytojecaeblgghjaa
