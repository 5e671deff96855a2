/-
  Merged: Bub, SignBig.
-/
import Derived.Test.YtojecaeblgghjaaSignW
import Derived.Test.YtojecaeblgghjaaFiltG
import Derived.Deep.LoopGhost

/-
  PLAIN: four places put in order by swaps of neighbours.
-/
set_option linter.unusedVariables false
set_option linter.unusedSimpArgs false
namespace Go.Proofs.Ytojecaeblgghjaa
open Go.RowKit Go.Sort LsP

def bub1 (k : Nat) (s : List Int × Int) : List Int × Int := if s.1[k]! > s.1[k + 1]! then ((s.1.set k s.1[k + 1]!).set (k + 1) s.1[k]!, -s.2) else s
def bubK : Nat → List Int × Int → List Int × Int
  | 0, s => s
  | k + 1, s => bub1 k (bubK k s)
def bubR (L : List Int) : Nat → List Int × Int
  | 0 => (L, 1)
  | r + 1 => bubK 3 (bubR L r)

theorem bub1_len (k : Nat) (s : List Int × Int) : (bub1 k s).1.length = s.1.length := by unfold bub1; split <;> simp
theorem bubK_len (s : List Int × Int) : ∀ k, (bubK k s).1.length = s.1.length
  | 0 => rfl
  | k + 1 => by rw [bubK, bub1_len, bubK_len s k]
theorem bubR_len (L : List Int) : ∀ r, (bubR L r).1.length = L.length
  | 0 => rfl
  | r + 1 => by rw [bubR, bubK_len, bubR_len L r]

theorem bub1_perm (k : Nat) (s : List Int × Int) (hk : k + 1 < s.1.length) : (bub1 k s).1.Perm s.1 := by
  unfold bub1
  split
  · have h1 : k < s.1.length := by omega
    rw [getElem!_pos s.1 k h1, getElem!_pos s.1 (k + 1) hk]
    exact List.set_set_perm h1 hk
  · exact List.Perm.refl _
theorem bubK_perm (s : List Int × Int) (h : s.1.length = 4) : ∀ k, k ≤ 3 → (bubK k s).1.Perm s.1
  | 0, _ => List.Perm.refl _
  | k + 1, hk => (bub1_perm k _ (by rw [bubK_len]; omega)).trans (bubK_perm s h k (by omega))
theorem bubR_perm (L : List Int) (h : L.length = 4) : ∀ r, (bubR L r).1.Perm L
  | 0 => List.Perm.refl _
  | r + 1 => (bubK_perm _ (by rw [bubR_len]; exact h) 3 (Nat.le_refl _)).trans (bubR_perm L h r)

theorem bub1_sgn (k : Nat) (s : List Int × Int) (h : s.2 = 1 ∨ s.2 = -1) : (bub1 k s).2 = 1 ∨ (bub1 k s).2 = -1 := by
  unfold bub1
  split
  · rcases h with h | h <;> simp [h]
  · exact h
theorem bubK_sgn (s : List Int × Int) (h : s.2 = 1 ∨ s.2 = -1) : ∀ k, (bubK k s).2 = 1 ∨ (bubK k s).2 = -1
  | 0 => h
  | k + 1 => bub1_sgn k _ (bubK_sgn s h k)
theorem bubR_sgn (L : List Int) : ∀ r, (bubR L r).2 = 1 ∨ (bubR L r).2 = -1
  | 0 => .inl rfl
  | r + 1 => bubK_sgn _ (bubR_sgn L r) 3
end Go.Proofs.Ytojecaeblgghjaa

/-
  orient.Sign. (Printed by mkbig.py.)
-/
set_option linter.unusedVariables false
set_option linter.unusedSimpArgs false
namespace Go.Proofs.Ytojecaeblgghjaa
open Go.RowKit Go.Sort LsP

/-- A place of the four is one of the list's and none of those ahead of it. -/
def goodP (n : Nat) (L : List Int) (a : Nat) : Prop := 0 ≤ L[a]! ∧ L[a]! < n ∧ ∀ b, b < a → L[b]! ≠ L[a]!
def ptsOf (xs : List T3) (L : List Int) : List Int := L.flatMap fun x => (xs[x.toNat]!).l
def fitT (t : T3) : Bool := fitC t.a && fitC t.b && fitC t.c
open Classical in
/-- What orient.Sign says of four places. -/
noncomputable def signR (xs : List T3) (n : Nat) (L : List Int) : Int × Int :=
  if ∀ a, a < 4 → goodP n L a then (if ∀ x ∈ L, fitT xs[x.toNat]! = true then ((bubR L 3).2 * signV (ptsOf xs (bubR L 3).1), 0) else (0, 20)) else (0, 21)
theorem signR_bad {xs : List T3} {n : Nat} {L : List Int} (h : ¬ ∀ a, a < 4 → goodP n L a) : signR xs n L = (0, 21) := by unfold signR; rw [if_neg h]

theorem signR_mem {n : Nat} {L Y : List Int} (hL : L.length = 4) (hG : ∀ a, a < 4 → goodP n L a) (hp : Y.Perm L) (y : Int) (hy : y ∈ Y) : 0 ≤ y ∧ y < n := by
  obtain ⟨i, hi, e⟩ := List.getElem_of_mem (hp.subset hy)
  have h := hG i (by omega)
  unfold goodP at h
  rw [getElem!_pos L i hi, e] at h
  exact ⟨h.1, h.2.1⟩
theorem signR_fit {xs : List T3} {n : Nat} {L Y : List Int} {g : Int} (hL : L.length = 4) (hG : ∀ a, a < 4 → goodP n L a) (hS : bubR L 3 = (Y, g)) (hf : ∀ y ∈ Y, fitT xs[y.toNat]! = true) : signR xs n L = (g * signV (ptsOf xs Y), 0) := by
  have hp := bubR_perm L hL 3
  rw [hS] at hp
  unfold signR
  rw [if_pos hG, if_pos (fun x hx => hf x (hp.symm.subset hx)), hS]
theorem signR_unfit {xs : List T3} {n : Nat} {L Y : List Int} {g : Int} (hL : L.length = 4) (hG : ∀ a, a < 4 → goodP n L a) (hS : bubR L 3 = (Y, g)) (y : Int) (hy : y ∈ Y) (hf : fitT xs[y.toNat]! = false) : signR xs n L = (0, 20) := by
  have hp := bubR_perm L hL 3
  rw [hS] at hp
  unfold signR
  rw [if_pos hG, if_neg (fun h => by have := h y (hp.subset hy); rw [hf] at this; cases this)]
theorem sgZ_three (z : Int) : sgZ z = 1 ∨ sgZ z = -1 ∨ sgZ z = 0 := by
  unfold sgZ
  split
  · simp
  · split <;> simp
theorem maskV_two (P : List Int) : ∀ n m, maskV P n m = 1 ∨ maskV P n m = -1
  | 0, m => .inl rfl
  | n + 1, m => by
    rw [maskV]
    split
    · rename_i h
      have h2 := h.2
      unfold movedV at h2 ⊢
      split
      · rename_i e; rw [e] at h2; exact absurd rfl h2
      · rename_i s e
        rw [e] at h2
        simp only at h2 ⊢
        rcases sgZ_three (sum4 s.1 4) with h | h | h
        · exact .inl h
        · exact .inr h
        · exact absurd h h2
    · exact maskV_two P n (m + 1)
theorem signV_two (P : List Int) : signV P = 1 ∨ signV P = -1 := by
  unfold signV
  split
  · rename_i h
    unfold filtP at h ⊢
    rcases Flt.filt_three (P[0]! - P[9]!) (P[1]! - P[10]!) (P[2]! - P[11]!) (P[3]! - P[9]!) (P[4]! - P[10]!) (P[5]! - P[11]!) (P[6]! - P[9]!) (P[7]! - P[10]!) (P[8]! - P[11]!) with e | e | e
    · exact .inl e
    · exact .inr e
    · exact absurd e h
  · split
    · rename_i h
      rcases sgZ_three (detV P) with e | e | e
      · exact .inl e
      · exact .inr e
      · exact absurd e h
    · exact maskV_two P 85 0
theorem wrap_two {a b : Int} (ha : a = 1 ∨ a = -1) (hb : b = 1 ∨ b = -1) : wrap64 (a * b) = a * b := by rcases ha with rfl | rfl <;> rcases hb with rfl | rfl <;> kernel_rfl
theorem wrap_neg1 {a : Int} (ha : a = 1 ∨ a = -1) : wrap64 (-a) = -a := by rcases ha with rfl | rfl <;> kernel_rfl
theorem ptsOf_four (xs : List T3) (m0 m1 m2 m3 : Nat) : ptsOf xs [(m0 : Int), (m1 : Int), (m2 : Int), (m3 : Int)] = [xs[m0]!.a, xs[m0]!.b, xs[m0]!.c, xs[m1]!.a, xs[m1]!.b, xs[m1]!.c, xs[m2]!.a, xs[m2]!.b, xs[m2]!.c, xs[m3]!.a, xs[m3]!.b, xs[m3]!.c] := by
  simp [ptsOf, T3.l]
theorem tri_cells {lo : Nat} {w : World} {b off : Nat} {xs : List T3} (h : RdT lo w (some ⟨b, off, none⟩) xs) {k : Nat} (hk : k < xs.length) :
    w.cell? ⟨b, off + k * 3, none⟩ = some (.int .i64 xs[k]!.a) ∧ w.cell? ⟨b, off + k * 3 + 1, none⟩ = some (.int .i64 xs[k]!.b) ∧ w.cell? ⟨b, off + k * 3 + 2, none⟩ = some (.int .i64 xs[k]!.c) := by
  obtain ⟨b', off', e, _, h⟩ := h.at3 hk
  injection e with e
  injection e with e1 e2
  subst e1; subst e2
  exact h
theorem fitT_coords {t : T3} (h : fitT t = true) : FitI t.a ∧ FitI t.b ∧ FitI t.c := by
  simp only [fitT, fitC, Bool.and_eq_true, decide_eq_true_eq] at h
  exact ⟨h.1.1, h.1.2, h.2⟩

theorem one_start (w : World) (a : Obj) : Mem w [(w.heap.size, a)] (w.alloc a) := (Mem.nil w).add a

set_option maxHeartbeats 16000000 in
set_option maxRecDepth 100000 in
theorem signBig_any (A : Option Addr) (n c : Nat) (xs : List T3) (x0 x1 x2 x3 : Int) (ix0 : InI x0) (ix1 : InI x1) (ix2 : InI x2) (ix3 : InI x3) (w : World) (ha : RdT 0 w A xs) (hn : xs.length = n) (hn2 : n ≤ 9223372036854775807) :
    Calls Try.prog 97 #[.slice A n c, .int .i64 x0, .int .i64 x1, .int .i64 x2, .int .i64 x3] w fun e w' => e = .returned (.tuple #[.int .i64 (signR xs n [x0, x1, x2, x3]).1, .int .i64 (signR xs n [x0, x1, x2, x3]).2]) ∧ Below w.heap.size w w' := by
  have HA := Lib.hid ha
  have HN := Lib.hid hn
  clear ha hn
  have MB0 := Lib.hid (one_start w (oI [x0, x1, x2, x3] 133))
  go_enter Try.func97, Try.ntmps97
  go_wp2_with fail
  go_loopw [28] (fun i wr => ∃ a : Nat, a ≤ 4 ∧ i = .int .i64 a ∧ Hid (∀ a', a' < a → goodP n [x0, x1, x2, x3] a') ∧ Hid (Mem w [(w.heap.size, oI [x0, x1, x2, x3] 133)] wr)) (fun i _ => 4 - (intOf i).toNat)
  case atStart => exact ⟨0, by omega, rfl, fun a' h => absurd h (by omega), MB0.out⟩
  case round =>
    obtain ⟨a, ha4, rfl, hG, MB⟩ := hrel
    replace hG := Lib.hid hG
    replace MB := Lib.hid MB
    by_cases hlt : a < 4
    · rcases (by omega : a = 0 ∨ a = 1 ∨ a = 2 ∨ a = 3) with rfl | rfl | rfl | rfl
      · have ix : ∀ W : World, (Instr.index 133 (.agg #[.int .i64 x0, .int .i64 x1, .int .i64 x2, .int .i64 x3]) (.int .i64 0)).run Try.prog W = .ok (.int .i64 x0) W := fun _ => by kernel_rfl
        by_cases h0 : x0 < 0
        · have hv : Hid (signR xs n [x0, x1, x2, x3] = (0, 21)) := Lib.hid (signR_bad (fun h => by have := (h 0 (by omega)).1; simp at this; omega))
          have d0 : decide (x0 < 0) = true := by simpa using h0
          clear h0
          go_wp2
          go_ret2
          exact ⟨by rw [hv.out]; rfl, MB.out.below⟩
        · have d0 : decide (x0 < 0) = false := by simpa using h0
          by_cases h1 : x0 ≥ (n : Int)
          · have hv : Hid (signR xs n [x0, x1, x2, x3] = (0, 21)) := Lib.hid (signR_bad (fun h => by have := (h 0 (by omega)).2.1; simp at this; omega))
            have d1 : decide (x0 ≥ (n : Int)) = true := by simpa using h1
            clear h0 h1
            go_wp2
            go_ret2
            exact ⟨by rw [hv.out]; rfl, MB.out.below⟩
          · have d1 : decide (x0 ≥ (n : Int)) = false := by simpa using h1
            have c4 := fun (o : Nat) (ho : o < 4) => cellI MB.out.head (o := o) (by simpa using ho)
            clear c4
            have hG2 : Hid (∀ a', a' < 1 → goodP n [x0, x1, x2, x3] a') := Lib.hid (fun a' ha' => by
              by_cases e : a' = 0
              · subst e
                refine ⟨by simp; omega, by simp; omega, fun b hb => ?_⟩
                exact absurd hb (by omega)
              · exact hG.out a' (by omega))
            clear h0 h1
            go_wp2_with fail
            refine wp_loop_rounds 1 ?_
            rw [rounds_succ]
            go_wp2_with fail
            go_roundw
            case rel => exact ⟨1, by omega, by go_num, hG2.out, MB.out⟩
            case measure => simp [intOf]
      · have ix : ∀ W : World, (Instr.index 133 (.agg #[.int .i64 x0, .int .i64 x1, .int .i64 x2, .int .i64 x3]) (.int .i64 1)).run Try.prog W = .ok (.int .i64 x1) W := fun _ => by kernel_rfl
        by_cases h0 : x1 < 0
        · have hv : Hid (signR xs n [x0, x1, x2, x3] = (0, 21)) := Lib.hid (signR_bad (fun h => by have := (h 1 (by omega)).1; simp at this; omega))
          have d0 : decide (x1 < 0) = true := by simpa using h0
          clear h0
          go_wp2
          go_ret2
          exact ⟨by rw [hv.out]; rfl, MB.out.below⟩
        · have d0 : decide (x1 < 0) = false := by simpa using h0
          by_cases h1 : x1 ≥ (n : Int)
          · have hv : Hid (signR xs n [x0, x1, x2, x3] = (0, 21)) := Lib.hid (signR_bad (fun h => by have := (h 1 (by omega)).2.1; simp at this; omega))
            have d1 : decide (x1 ≥ (n : Int)) = true := by simpa using h1
            clear h0 h1
            go_wp2
            go_ret2
            exact ⟨by rw [hv.out]; rfl, MB.out.below⟩
          · have d1 : decide (x1 ≥ (n : Int)) = false := by simpa using h1
            have c4 := fun (o : Nat) (ho : o < 4) => cellI MB.out.head (o := o) (by simpa using ho)
            have k0 : wr.cell? ⟨w.heap.size, 0, none⟩ = some (.int .i64 x0) := c4 0 (by omega)
            clear c4
            by_cases n0 : x1 = x0
            · have hv : Hid (signR xs n [x0, x1, x2, x3] = (0, 21)) := Lib.hid (signR_bad (fun h => (h 1 (by omega)).2.2 0 (by omega) (by simp; omega)))
              have e0 : (x1 == x0) = true := by simpa using n0
              clear h0 h1 n0
              go_wp2_with fail
              refine wp_loop_rounds 2 ?_
              rw [rounds_succ]
              go_wp2
              go_ret2
              exact ⟨by rw [hv.out]; rfl, MB.out.below⟩
            · have e0 : (x1 == x0) = false := by simpa using n0
              have hG2 : Hid (∀ a', a' < 2 → goodP n [x0, x1, x2, x3] a') := Lib.hid (fun a' ha' => by
                by_cases e : a' = 1
                · subst e
                  refine ⟨by simp; omega, by simp; omega, fun b hb => ?_⟩
                  rcases (by omega : b = 0) with rfl <;> simp <;> omega
                · exact hG.out a' (by omega))
              clear n0 h0 h1
              go_wp2_with fail
              refine wp_loop_rounds 2 ?_
              rw [rounds_succ]
              go_wp2_with fail
              rw [rounds_succ]
              go_wp2_with fail
              go_roundw
              case rel => exact ⟨2, by omega, by go_num, hG2.out, MB.out⟩
              case measure => simp [intOf]
      · have ix : ∀ W : World, (Instr.index 133 (.agg #[.int .i64 x0, .int .i64 x1, .int .i64 x2, .int .i64 x3]) (.int .i64 2)).run Try.prog W = .ok (.int .i64 x2) W := fun _ => by kernel_rfl
        by_cases h0 : x2 < 0
        · have hv : Hid (signR xs n [x0, x1, x2, x3] = (0, 21)) := Lib.hid (signR_bad (fun h => by have := (h 2 (by omega)).1; simp at this; omega))
          have d0 : decide (x2 < 0) = true := by simpa using h0
          clear h0
          go_wp2
          go_ret2
          exact ⟨by rw [hv.out]; rfl, MB.out.below⟩
        · have d0 : decide (x2 < 0) = false := by simpa using h0
          by_cases h1 : x2 ≥ (n : Int)
          · have hv : Hid (signR xs n [x0, x1, x2, x3] = (0, 21)) := Lib.hid (signR_bad (fun h => by have := (h 2 (by omega)).2.1; simp at this; omega))
            have d1 : decide (x2 ≥ (n : Int)) = true := by simpa using h1
            clear h0 h1
            go_wp2
            go_ret2
            exact ⟨by rw [hv.out]; rfl, MB.out.below⟩
          · have d1 : decide (x2 ≥ (n : Int)) = false := by simpa using h1
            have c4 := fun (o : Nat) (ho : o < 4) => cellI MB.out.head (o := o) (by simpa using ho)
            have k0 : wr.cell? ⟨w.heap.size, 0, none⟩ = some (.int .i64 x0) := c4 0 (by omega)
            have k1 : wr.cell? ⟨w.heap.size, 1, none⟩ = some (.int .i64 x1) := c4 1 (by omega)
            clear c4
            by_cases n0 : x2 = x0
            · have hv : Hid (signR xs n [x0, x1, x2, x3] = (0, 21)) := Lib.hid (signR_bad (fun h => (h 2 (by omega)).2.2 0 (by omega) (by simp; omega)))
              have e0 : (x2 == x0) = true := by simpa using n0
              clear h0 h1 n0
              go_wp2_with fail
              refine wp_loop_rounds 3 ?_
              rw [rounds_succ]
              go_wp2
              go_ret2
              exact ⟨by rw [hv.out]; rfl, MB.out.below⟩
            · have e0 : (x2 == x0) = false := by simpa using n0
              by_cases n1 : x2 = x1
              · have hv : Hid (signR xs n [x0, x1, x2, x3] = (0, 21)) := Lib.hid (signR_bad (fun h => (h 2 (by omega)).2.2 1 (by omega) (by simp; omega)))
                have e1 : (x2 == x1) = true := by simpa using n1
                clear h0 h1 n0 n1
                go_wp2_with fail
                refine wp_loop_rounds 3 ?_
                rw [rounds_succ]
                go_wp2_with fail
                rw [rounds_succ]
                go_wp2
                go_ret2
                exact ⟨by rw [hv.out]; rfl, MB.out.below⟩
              · have e1 : (x2 == x1) = false := by simpa using n1
                have hG2 : Hid (∀ a', a' < 3 → goodP n [x0, x1, x2, x3] a') := Lib.hid (fun a' ha' => by
                  by_cases e : a' = 2
                  · subst e
                    refine ⟨by simp; omega, by simp; omega, fun b hb => ?_⟩
                    rcases (by omega : b = 0 ∨ b = 1) with rfl | rfl <;> simp <;> omega
                  · exact hG.out a' (by omega))
                clear n0 n1 h0 h1
                go_wp2_with fail
                refine wp_loop_rounds 3 ?_
                rw [rounds_succ]
                go_wp2_with fail
                rw [rounds_succ]
                go_wp2_with fail
                rw [rounds_succ]
                go_wp2_with fail
                go_roundw
                case rel => exact ⟨3, by omega, by go_num, hG2.out, MB.out⟩
                case measure => simp [intOf]
      · have ix : ∀ W : World, (Instr.index 133 (.agg #[.int .i64 x0, .int .i64 x1, .int .i64 x2, .int .i64 x3]) (.int .i64 3)).run Try.prog W = .ok (.int .i64 x3) W := fun _ => by kernel_rfl
        by_cases h0 : x3 < 0
        · have hv : Hid (signR xs n [x0, x1, x2, x3] = (0, 21)) := Lib.hid (signR_bad (fun h => by have := (h 3 (by omega)).1; simp at this; omega))
          have d0 : decide (x3 < 0) = true := by simpa using h0
          clear h0
          go_wp2
          go_ret2
          exact ⟨by rw [hv.out]; rfl, MB.out.below⟩
        · have d0 : decide (x3 < 0) = false := by simpa using h0
          by_cases h1 : x3 ≥ (n : Int)
          · have hv : Hid (signR xs n [x0, x1, x2, x3] = (0, 21)) := Lib.hid (signR_bad (fun h => by have := (h 3 (by omega)).2.1; simp at this; omega))
            have d1 : decide (x3 ≥ (n : Int)) = true := by simpa using h1
            clear h0 h1
            go_wp2
            go_ret2
            exact ⟨by rw [hv.out]; rfl, MB.out.below⟩
          · have d1 : decide (x3 ≥ (n : Int)) = false := by simpa using h1
            have c4 := fun (o : Nat) (ho : o < 4) => cellI MB.out.head (o := o) (by simpa using ho)
            have k0 : wr.cell? ⟨w.heap.size, 0, none⟩ = some (.int .i64 x0) := c4 0 (by omega)
            have k1 : wr.cell? ⟨w.heap.size, 1, none⟩ = some (.int .i64 x1) := c4 1 (by omega)
            have k2 : wr.cell? ⟨w.heap.size, 2, none⟩ = some (.int .i64 x2) := c4 2 (by omega)
            clear c4
            by_cases n0 : x3 = x0
            · have hv : Hid (signR xs n [x0, x1, x2, x3] = (0, 21)) := Lib.hid (signR_bad (fun h => (h 3 (by omega)).2.2 0 (by omega) (by simp; omega)))
              have e0 : (x3 == x0) = true := by simpa using n0
              clear h0 h1 n0
              go_wp2_with fail
              refine wp_loop_rounds 4 ?_
              rw [rounds_succ]
              go_wp2
              go_ret2
              exact ⟨by rw [hv.out]; rfl, MB.out.below⟩
            · have e0 : (x3 == x0) = false := by simpa using n0
              by_cases n1 : x3 = x1
              · have hv : Hid (signR xs n [x0, x1, x2, x3] = (0, 21)) := Lib.hid (signR_bad (fun h => (h 3 (by omega)).2.2 1 (by omega) (by simp; omega)))
                have e1 : (x3 == x1) = true := by simpa using n1
                clear h0 h1 n0 n1
                go_wp2_with fail
                refine wp_loop_rounds 4 ?_
                rw [rounds_succ]
                go_wp2_with fail
                rw [rounds_succ]
                go_wp2
                go_ret2
                exact ⟨by rw [hv.out]; rfl, MB.out.below⟩
              · have e1 : (x3 == x1) = false := by simpa using n1
                by_cases n2 : x3 = x2
                · have hv : Hid (signR xs n [x0, x1, x2, x3] = (0, 21)) := Lib.hid (signR_bad (fun h => (h 3 (by omega)).2.2 2 (by omega) (by simp; omega)))
                  have e2 : (x3 == x2) = true := by simpa using n2
                  clear h0 h1 n0 n1 n2
                  go_wp2_with fail
                  refine wp_loop_rounds 4 ?_
                  rw [rounds_succ]
                  go_wp2_with fail
                  rw [rounds_succ]
                  go_wp2_with fail
                  rw [rounds_succ]
                  go_wp2
                  go_ret2
                  exact ⟨by rw [hv.out]; rfl, MB.out.below⟩
                · have e2 : (x3 == x2) = false := by simpa using n2
                  have hG2 : Hid (∀ a', a' < 4 → goodP n [x0, x1, x2, x3] a') := Lib.hid (fun a' ha' => by
                    by_cases e : a' = 3
                    · subst e
                      refine ⟨by simp; omega, by simp; omega, fun b hb => ?_⟩
                      rcases (by omega : b = 0 ∨ b = 1 ∨ b = 2) with rfl | rfl | rfl <;> simp <;> omega
                    · exact hG.out a' (by omega))
                  clear n0 n1 n2 h0 h1
                  go_wp2_with fail
                  refine wp_loop_rounds 4 ?_
                  rw [rounds_succ]
                  go_wp2_with fail
                  rw [rounds_succ]
                  go_wp2_with fail
                  rw [rounds_succ]
                  go_wp2_with fail
                  rw [rounds_succ]
                  go_wp2_with fail
                  go_roundw
                  case rel => exact ⟨4, by omega, by go_num, hG2.out, MB.out⟩
                  case measure => simp [intOf]
    · obtain rfl : a = 4 := by omega
      go_wp2_with fail
      replace hG := Lib.hid hG.out
      go_loopw [52, 17] (fun i t wx => ∃ (r : Nat) (y0 y1 y2 y3 g : Int), r ≤ 3 ∧ i = .int .i64 r ∧ t = .int .i64 g ∧ Hid (bubR [x0, x1, x2, x3] r = ([y0, y1, y2, y3], g)) ∧ Hid (Mem w [(w.heap.size, oI [y0, y1, y2, y3] 133)] wx)) (fun i _ _ => 3 - (intOf i).toNat)
      case atStart => exact ⟨0, x0, x1, x2, x3, 1, by omega, rfl, rfl, rfl, MB.out⟩
      case round =>
        clear MB
        obtain ⟨r, y0, y1, y2, y3, g, hr, rfl, rfl, hS, MB⟩ := hrel
        replace hS := Lib.hid hS.out
        replace MB := Lib.hid MB.out
        by_cases hr3 : r < 3
        · go_wp2_with fail
          go_loopw [54, 17] (fun i t wx => ∃ (k : Nat) (y0 y1 y2 y3 g : Int), k ≤ 3 ∧ i = .int .i64 k ∧ t = .int .i64 g ∧ Hid (bubK k (bubR [x0, x1, x2, x3] r) = ([y0, y1, y2, y3], g)) ∧ Hid (Mem w [(w.heap.size, oI [y0, y1, y2, y3] 133)] wx)) (fun i _ _ => 3 - (intOf i).toNat)
          case atStart => exact ⟨0, y0, y1, y2, y3, g, by omega, rfl, rfl, hS.out, MB.out⟩
          case round =>
            clear MB hS
            obtain ⟨k, y0, y1, y2, y3, g, hk, rfl, rfl, hS, MB⟩ := hrel
            replace hS := Lib.hid hS.out
            replace MB := Lib.hid MB.out
            by_cases hk3 : k < 3
            · have c4 := fun (o : Nat) (ho : o < 4) => cellI MB.out.head (o := o) (by simpa using ho)
              have k0 : wr.cell? ⟨w.heap.size, 0, none⟩ = some (.int .i64 y0) := c4 0 (by omega)
              have k1 : wr.cell? ⟨w.heap.size, 1, none⟩ = some (.int .i64 y1) := c4 1 (by omega)
              have k2 : wr.cell? ⟨w.heap.size, 2, none⟩ = some (.int .i64 y2) := c4 2 (by omega)
              have k3 : wr.cell? ⟨w.heap.size, 3, none⟩ = some (.int .i64 y3) := c4 3 (by omega)
              have f0 := freeI MB.out.head 0
              have f1 := freeI MB.out.head 1
              have f2 := freeI MB.out.head 2
              have f3 := freeI MB.out.head 3
              clear c4
              rcases (by omega : k = 0 ∨ k = 1 ∨ k = 2) with rfl | rfl | rfl
              · by_cases hgt : y0 > y1
                · have e0 : decide (y0 > y1) = true := by simpa using hgt
                  have eg : wrap64 (-g) = -g := wrap_neg1 (by have := bubK_sgn (bubR [x0, x1, x2, x3] r) (bubR_sgn [x0, x1, x2, x3] r) 0; rw [hS.out] at this; exact this)
                  have hS2 : Hid (bubK 1 (bubR [x0, x1, x2, x3] r) = ([y1, y0, y2, y3], -g)) := Lib.hid (by rw [bubK, hS.out]; simp [bub1, hgt])
                  clear hgt
                  go_wp2_with fail
                  go_quiet (fail)
                  replace k0 : (wr.drewN nq).cell? _ = _ := k0
                  replace k1 : (wr.drewN nq).cell? _ = _ := k1
                  replace k2 : (wr.drewN nq).cell? _ = _ := k2
                  replace k3 : (wr.drewN nq).cell? _ = _ := k3
                  replace f0 : (wr.drewN nq).frozen? _ = _ := f0
                  replace f1 : (wr.drewN nq).frozen? _ = _ := f1
                  replace f2 : (wr.drewN nq).frozen? _ = _ := f2
                  replace f3 : (wr.drewN nq).frozen? _ = _ := f3
                  replace MB := Lib.hid (MB.out.drewN nq)
                  generalize wr.drewN nq = W at *
                  have hM2 : Hid (Mem w [(w.heap.size, oI [y1, y0, y2, y3] 133)] _) := Lib.hid ((MB.out.setI (fun p hp => by cases hp) (by omega) 0 y1).setI (fun p hp => by cases hp) (by omega) 1 y0)
                  go_wp2_with fail
                  go_region
                  go_wp2_with fail
                  go_roundw
                  case rel => exact ⟨1, y1, y0, y2, y3, -g, by omega, by go_num, by rw [eg], hS2.out, hM2.out.drew⟩
                  case measure => simp [intOf]
                · have e0 : decide (y0 > y1) = false := by simpa using hgt
                  have hS2 : Hid (bubK 1 (bubR [x0, x1, x2, x3] r) = ([y0, y1, y2, y3], g)) := Lib.hid (by rw [bubK, hS.out]; simp [bub1, hgt])
                  clear hgt
                  go_wp2_with fail
                  go_quiet (fail)
                  replace k0 : (wr.drewN nq).cell? _ = _ := k0
                  replace k1 : (wr.drewN nq).cell? _ = _ := k1
                  replace k2 : (wr.drewN nq).cell? _ = _ := k2
                  replace k3 : (wr.drewN nq).cell? _ = _ := k3
                  replace f0 : (wr.drewN nq).frozen? _ = _ := f0
                  replace f1 : (wr.drewN nq).frozen? _ = _ := f1
                  replace f2 : (wr.drewN nq).frozen? _ = _ := f2
                  replace f3 : (wr.drewN nq).frozen? _ = _ := f3
                  replace MB := Lib.hid (MB.out.drewN nq)
                  generalize wr.drewN nq = W at *
                  go_wp2_with fail
                  go_roundw
                  case rel => exact ⟨1, y0, y1, y2, y3, g, by omega, by go_num, rfl, hS2.out, MB.out⟩
                  case measure => simp [intOf]
              · by_cases hgt : y1 > y2
                · have e0 : decide (y1 > y2) = true := by simpa using hgt
                  have eg : wrap64 (-g) = -g := wrap_neg1 (by have := bubK_sgn (bubR [x0, x1, x2, x3] r) (bubR_sgn [x0, x1, x2, x3] r) 1; rw [hS.out] at this; exact this)
                  have hS2 : Hid (bubK 2 (bubR [x0, x1, x2, x3] r) = ([y0, y2, y1, y3], -g)) := Lib.hid (by rw [bubK, hS.out]; simp [bub1, hgt])
                  clear hgt
                  go_wp2_with fail
                  go_quiet (fail)
                  replace k0 : (wr.drewN nq).cell? _ = _ := k0
                  replace k1 : (wr.drewN nq).cell? _ = _ := k1
                  replace k2 : (wr.drewN nq).cell? _ = _ := k2
                  replace k3 : (wr.drewN nq).cell? _ = _ := k3
                  replace f0 : (wr.drewN nq).frozen? _ = _ := f0
                  replace f1 : (wr.drewN nq).frozen? _ = _ := f1
                  replace f2 : (wr.drewN nq).frozen? _ = _ := f2
                  replace f3 : (wr.drewN nq).frozen? _ = _ := f3
                  replace MB := Lib.hid (MB.out.drewN nq)
                  generalize wr.drewN nq = W at *
                  have hM2 : Hid (Mem w [(w.heap.size, oI [y0, y2, y1, y3] 133)] _) := Lib.hid ((MB.out.setI (fun p hp => by cases hp) (by omega) 1 y2).setI (fun p hp => by cases hp) (by omega) 2 y1)
                  go_wp2_with fail
                  go_region
                  go_wp2_with fail
                  go_roundw
                  case rel => exact ⟨2, y0, y2, y1, y3, -g, by omega, by go_num, by rw [eg], hS2.out, hM2.out.drew⟩
                  case measure => simp [intOf]
                · have e0 : decide (y1 > y2) = false := by simpa using hgt
                  have hS2 : Hid (bubK 2 (bubR [x0, x1, x2, x3] r) = ([y0, y1, y2, y3], g)) := Lib.hid (by rw [bubK, hS.out]; simp [bub1, hgt])
                  clear hgt
                  go_wp2_with fail
                  go_quiet (fail)
                  replace k0 : (wr.drewN nq).cell? _ = _ := k0
                  replace k1 : (wr.drewN nq).cell? _ = _ := k1
                  replace k2 : (wr.drewN nq).cell? _ = _ := k2
                  replace k3 : (wr.drewN nq).cell? _ = _ := k3
                  replace f0 : (wr.drewN nq).frozen? _ = _ := f0
                  replace f1 : (wr.drewN nq).frozen? _ = _ := f1
                  replace f2 : (wr.drewN nq).frozen? _ = _ := f2
                  replace f3 : (wr.drewN nq).frozen? _ = _ := f3
                  replace MB := Lib.hid (MB.out.drewN nq)
                  generalize wr.drewN nq = W at *
                  go_wp2_with fail
                  go_roundw
                  case rel => exact ⟨2, y0, y1, y2, y3, g, by omega, by go_num, rfl, hS2.out, MB.out⟩
                  case measure => simp [intOf]
              · by_cases hgt : y2 > y3
                · have e0 : decide (y2 > y3) = true := by simpa using hgt
                  have eg : wrap64 (-g) = -g := wrap_neg1 (by have := bubK_sgn (bubR [x0, x1, x2, x3] r) (bubR_sgn [x0, x1, x2, x3] r) 2; rw [hS.out] at this; exact this)
                  have hS2 : Hid (bubK 3 (bubR [x0, x1, x2, x3] r) = ([y0, y1, y3, y2], -g)) := Lib.hid (by rw [bubK, hS.out]; simp [bub1, hgt])
                  clear hgt
                  go_wp2_with fail
                  go_quiet (fail)
                  replace k0 : (wr.drewN nq).cell? _ = _ := k0
                  replace k1 : (wr.drewN nq).cell? _ = _ := k1
                  replace k2 : (wr.drewN nq).cell? _ = _ := k2
                  replace k3 : (wr.drewN nq).cell? _ = _ := k3
                  replace f0 : (wr.drewN nq).frozen? _ = _ := f0
                  replace f1 : (wr.drewN nq).frozen? _ = _ := f1
                  replace f2 : (wr.drewN nq).frozen? _ = _ := f2
                  replace f3 : (wr.drewN nq).frozen? _ = _ := f3
                  replace MB := Lib.hid (MB.out.drewN nq)
                  generalize wr.drewN nq = W at *
                  have hM2 : Hid (Mem w [(w.heap.size, oI [y0, y1, y3, y2] 133)] _) := Lib.hid ((MB.out.setI (fun p hp => by cases hp) (by omega) 2 y3).setI (fun p hp => by cases hp) (by omega) 3 y2)
                  go_wp2_with fail
                  go_region
                  go_wp2_with fail
                  go_roundw
                  case rel => exact ⟨3, y0, y1, y3, y2, -g, by omega, by go_num, by rw [eg], hS2.out, hM2.out.drew⟩
                  case measure => simp [intOf]
                · have e0 : decide (y2 > y3) = false := by simpa using hgt
                  have hS2 : Hid (bubK 3 (bubR [x0, x1, x2, x3] r) = ([y0, y1, y2, y3], g)) := Lib.hid (by rw [bubK, hS.out]; simp [bub1, hgt])
                  clear hgt
                  go_wp2_with fail
                  go_quiet (fail)
                  replace k0 : (wr.drewN nq).cell? _ = _ := k0
                  replace k1 : (wr.drewN nq).cell? _ = _ := k1
                  replace k2 : (wr.drewN nq).cell? _ = _ := k2
                  replace k3 : (wr.drewN nq).cell? _ = _ := k3
                  replace f0 : (wr.drewN nq).frozen? _ = _ := f0
                  replace f1 : (wr.drewN nq).frozen? _ = _ := f1
                  replace f2 : (wr.drewN nq).frozen? _ = _ := f2
                  replace f3 : (wr.drewN nq).frozen? _ = _ := f3
                  replace MB := Lib.hid (MB.out.drewN nq)
                  generalize wr.drewN nq = W at *
                  go_wp2_with fail
                  go_roundw
                  case rel => exact ⟨3, y0, y1, y2, y3, g, by omega, by go_num, rfl, hS2.out, MB.out⟩
                  case measure => simp [intOf]
            · obtain rfl : k = 3 := by omega
              go_wp2_with fail
              go_roundw
              case rel => exact ⟨r + 1, y0, y1, y2, y3, g, by omega, by go_num, rfl, hS.out, MB.out⟩
              case measure => simp [intOf]; omega
        · obtain rfl : r = 3 := by omega
          have hpm : Hid ([y0, y1, y2, y3].Perm [x0, x1, x2, x3]) := Lib.hid (by have := bubR_perm [x0, x1, x2, x3] rfl 3; rw [hS.out] at this; exact this)
          have hr : Hid (∀ y ∈ [y0, y1, y2, y3], 0 ≤ y ∧ y < (n : Int)) := Lib.hid (signR_mem rfl hG.out hpm.out)
          obtain ⟨m0, rfl⟩ : ∃ m : Nat, y0 = m := ⟨y0.toNat, by have := (hr.out y0 (by simp)).1; omega⟩
          obtain ⟨m1, rfl⟩ : ∃ m : Nat, y1 = m := ⟨y1.toNat, by have := (hr.out y1 (by simp)).1; omega⟩
          obtain ⟨m2, rfl⟩ : ∃ m : Nat, y2 = m := ⟨y2.toNat, by have := (hr.out y2 (by simp)).1; omega⟩
          obtain ⟨m3, rfl⟩ : ∃ m : Nat, y3 = m := ⟨y3.toNat, by have := (hr.out y3 (by simp)).1; omega⟩
          have hm0 : Hid (m0 < xs.length) := Lib.hid (by have := (hr.out (m0 : Int) (by simp)).2; rw [HN.out]; omega)
          have hm1 : Hid (m1 < xs.length) := Lib.hid (by have := (hr.out (m1 : Int) (by simp)).2; rw [HN.out]; omega)
          have hm2 : Hid (m2 < xs.length) := Lib.hid (by have := (hr.out (m2 : Int) (by simp)).2; rw [HN.out]; omega)
          have hm3 : Hid (m3 < xs.length) := Lib.hid (by have := (hr.out (m3 : Int) (by simp)).2; rw [HN.out]; omega)
          clear hr
          obtain ⟨b, off, rfl, _⟩ := HA.out.at3 hm0.out
          have hP := Lib.hid (ptsOf_four xs m0 m1 m2 m3)
          obtain ⟨⟨p0, p1, p2⟩, hT0⟩ : ∃ t, xs[m0]! = t := ⟨_, rfl⟩
          replace hT0 := Lib.hid hT0
          obtain ⟨⟨p3, p4, p5⟩, hT1⟩ : ∃ t, xs[m1]! = t := ⟨_, rfl⟩
          replace hT1 := Lib.hid hT1
          obtain ⟨⟨p6, p7, p8⟩, hT2⟩ : ∃ t, xs[m2]! = t := ⟨_, rfl⟩
          replace hT2 := Lib.hid hT2
          obtain ⟨⟨p9, p10, p11⟩, hT3⟩ : ∃ t, xs[m3]! = t := ⟨_, rfl⟩
          replace hT3 := Lib.hid hT3
          replace hP := Lib.hid (show ptsOf xs [(m0 : Int), (m1 : Int), (m2 : Int), (m3 : Int)] = [p0, p1, p2, p3, p4, p5, p6, p7, p8, p9, p10, p11] by rw [hP.out, hT0.out, hT1.out, hT2.out, hT3.out])
          have c4 := fun (o : Nat) (ho : o < 4) => cellI (MB.out.add (oI [0, 0, 0, 0, 0, 0, 0, 0, 0, 0, 0, 0] 134)).tail.head (o := o) (by simpa using ho)
          have k0 : (wr.alloc (oI [0, 0, 0, 0, 0, 0, 0, 0, 0, 0, 0, 0] 134)).cell? ⟨w.heap.size, 0, none⟩ = some (.int .i64 m0) := c4 0 (by omega)
          have k1 : (wr.alloc (oI [0, 0, 0, 0, 0, 0, 0, 0, 0, 0, 0, 0] 134)).cell? ⟨w.heap.size, 1, none⟩ = some (.int .i64 m1) := c4 1 (by omega)
          have k2 : (wr.alloc (oI [0, 0, 0, 0, 0, 0, 0, 0, 0, 0, 0, 0] 134)).cell? ⟨w.heap.size, 2, none⟩ = some (.int .i64 m2) := c4 2 (by omega)
          have k3 : (wr.alloc (oI [0, 0, 0, 0, 0, 0, 0, 0, 0, 0, 0, 0] 134)).cell? ⟨w.heap.size, 3, none⟩ = some (.int .i64 m3) := c4 3 (by omega)
          have l0 : wr.cell? ⟨w.heap.size, 0, none⟩ = some (.int .i64 m0) := cellI MB.out.head (o := 0) (by simp)
          have l1 : wr.cell? ⟨w.heap.size, 1, none⟩ = some (.int .i64 m1) := cellI MB.out.head (o := 1) (by simp)
          have l2 : wr.cell? ⟨w.heap.size, 2, none⟩ = some (.int .i64 m2) := cellI MB.out.head (o := 2) (by simp)
          have l3 : wr.cell? ⟨w.heap.size, 3, none⟩ = some (.int .i64 m3) := cellI MB.out.head (o := 3) (by simp)
          clear c4
          have hA1 := MB.out.lt (p := (w.heap.size, oI [(m0 : Int), (m1 : Int), (m2 : Int), (m3 : Int)] 133)) (by simp)
          simp only at hA1
          replace MB := Lib.hid (show Mem w [(wr.heap.size, oI [0, 0, 0, 0, 0, 0, 0, 0, 0, 0, 0, 0] 134), (w.heap.size, oI [(m0 : Int), (m1 : Int), (m2 : Int), (m3 : Int)] 133)] (wr.alloc (.cells #[.int .i64 0, .int .i64 0, .int .i64 0, .int .i64 0, .int .i64 0, .int .i64 0, .int .i64 0, .int .i64 0, .int .i64 0, .int .i64 0, .int .i64 0, .int .i64 0] 134)) from MB.out.add (oI [0, 0, 0, 0, 0, 0, 0, 0, 0, 0, 0, 0] 134)) 
          go_wp2_with fail
          clear k0 k1 k2 k3 l0 l1 l2 l3
          generalize wr.alloc (.cells #[.int .i64 0, .int .i64 0, .int .i64 0, .int .i64 0, .int .i64 0, .int .i64 0, .int .i64 0, .int .i64 0, .int .i64 0, .int .i64 0, .int .i64 0, .int .i64 0] 134) = W at *
          generalize wr.heap.size = PB at *
          have hAp : Hid (Apart PB [(w.heap.size, oI [(m0 : Int), (m1 : Int), (m2 : Int), (m3 : Int)] 133)]) := Lib.hid (fun p hp => by simp at hp; rw [hp]; simp only; omega)
          have hAl : w.heap.size ≤ PB := by omega
          refine wp_loop_rounds 5 ?_
          have ix : ∀ W : World, (Instr.index 133 (.agg #[.int .i64 (m0 : Int), .int .i64 (m1 : Int), .int .i64 (m2 : Int), .int .i64 (m3 : Int)]) (.int .i64 0)).run Try.prog W = .ok (.int .i64 (m0 : Int)) W := fun _ => by kernel_rfl
          rw [rounds_succ]
          obtain ⟨q0, q1, q2⟩ := tri_cells (HA.out.below MB.out.below (Nat.le_refl _)) hm0.out
          rw [hT0.out] at q0 q1 q2
          simp only at q0 q1 q2
          have hmn : ((m0 : Int)) < n := by have := hm0.out; rw [HN.out] at this; omega
          cases ef : fitT ⟨p0, p1, p2⟩
          · have hv : Hid (signR xs n [x0, x1, x2, x3] = (0, 20)) := Lib.hid (signR_unfit rfl hG.out hS.out (m0 : Int) (by simp) (by rw [Int.toNat_natCast, hT0.out]; exact ef))
            have km := may_any p0 p1 p2 W
            rw [show (fitC p0 && fitC p1 && fitC p2) = false from ef] at km
            clear ef
            go_wp2_with fail
            refine km.mono ?_
            rintro e w' ⟨rfl, hb⟩
            replace MB := Lib.hid (MB.out.next hb)
            clear q0 q1 q2 hb
            go_wp2
            go_ret2
            exact ⟨by rw [hv.out]; rfl, MB.out.below⟩
          · have km := may_any p0 p1 p2 W
            rw [show (fitC p0 && fitC p1 && fitC p2) = true from ef] at km
            have F0 := Lib.hid (fitT_coords ef)
            have ef0 := Lib.hid ef
            clear ef
            go_wp2_with fail
            refine km.mono ?_
            rintro e w' ⟨rfl, hb⟩
            replace MB := Lib.hid (MB.out.next hb)
            clear q0 q1 q2 hb km W
            rename World => W
            obtain ⟨q0, q1, q2⟩ := tri_cells (HA.out.below MB.out.below (Nat.le_refl _)) hm0.out
            rw [hT0.out] at q0 q1 q2
            simp only at q0 q1 q2
            have f0 := freeI MB.out.head 0
            have f1 := freeI MB.out.head 1
            have f2 := freeI MB.out.head 2
            have c4 := fun (o : Nat) (ho : o < 12) => cellI MB.out.head (o := o) (by simpa using ho)
            have r0 : W.cell? ⟨PB, 0, none⟩ = some (.int .i64 0) := c4 _ (by omega)
            have r1 : W.cell? ⟨PB, 1, none⟩ = some (.int .i64 0) := c4 _ (by omega)
            have r2 : W.cell? ⟨PB, 2, none⟩ = some (.int .i64 0) := c4 _ (by omega)
            clear c4
            have MS : Hid (Mem w [(PB, oI [p0, p1, p2, 0, 0, 0, 0, 0, 0, 0, 0, 0] 134), (w.heap.size, oI [(m0 : Int), (m1 : Int), (m2 : Int), (m3 : Int)] 133)] _) := Lib.hid (((MB.out.setI hAp.out (by omega) 0 p0).setI hAp.out (by omega) 1 p1).setI hAp.out (by omega) 2 p2)
            replace MB := MS
            clear MS
            go_wp2_with fail
            clear q0 q1 q2 f0 f1 f2 r0 r1 r2 hmn ix
            generalize ((W.setCell ⟨PB, 0, none⟩ (.int .i64 p0)).setCell ⟨PB, 1, none⟩ (.int .i64 p1)).setCell ⟨PB, 2, none⟩ (.int .i64 p2) = W2 at *
            rename World => W
            have ix : ∀ W : World, (Instr.index 133 (.agg #[.int .i64 (m0 : Int), .int .i64 (m1 : Int), .int .i64 (m2 : Int), .int .i64 (m3 : Int)]) (.int .i64 1)).run Try.prog W = .ok (.int .i64 (m1 : Int)) W := fun _ => by kernel_rfl
            rw [rounds_succ]
            obtain ⟨q0, q1, q2⟩ := tri_cells (HA.out.below MB.out.below (Nat.le_refl _)) hm1.out
            rw [hT1.out] at q0 q1 q2
            simp only at q0 q1 q2
            have hmn : ((m1 : Int)) < n := by have := hm1.out; rw [HN.out] at this; omega
            cases ef : fitT ⟨p3, p4, p5⟩
            · have hv : Hid (signR xs n [x0, x1, x2, x3] = (0, 20)) := Lib.hid (signR_unfit rfl hG.out hS.out (m1 : Int) (by simp) (by rw [Int.toNat_natCast, hT1.out]; exact ef))
              have km := may_any p3 p4 p5 W
              rw [show (fitC p3 && fitC p4 && fitC p5) = false from ef] at km
              clear ef
              go_wp2_with fail
              refine km.mono ?_
              rintro e w' ⟨rfl, hb⟩
              replace MB := Lib.hid (MB.out.next hb)
              clear q0 q1 q2 hb
              go_wp2
              go_ret2
              exact ⟨by rw [hv.out]; rfl, MB.out.below⟩
            · have km := may_any p3 p4 p5 W
              rw [show (fitC p3 && fitC p4 && fitC p5) = true from ef] at km
              have F1 := Lib.hid (fitT_coords ef)
              have ef1 := Lib.hid ef
              clear ef
              go_wp2_with fail
              refine km.mono ?_
              rintro e w' ⟨rfl, hb⟩
              replace MB := Lib.hid (MB.out.next hb)
              clear q0 q1 q2 hb km W
              rename World => W
              obtain ⟨q0, q1, q2⟩ := tri_cells (HA.out.below MB.out.below (Nat.le_refl _)) hm1.out
              rw [hT1.out] at q0 q1 q2
              simp only at q0 q1 q2
              have f0 := freeI MB.out.head 3
              have f1 := freeI MB.out.head 4
              have f2 := freeI MB.out.head 5
              have c4 := fun (o : Nat) (ho : o < 12) => cellI MB.out.head (o := o) (by simpa using ho)
              have r0 : W.cell? ⟨PB, 3, none⟩ = some (.int .i64 0) := c4 _ (by omega)
              have r1 : W.cell? ⟨PB, 4, none⟩ = some (.int .i64 0) := c4 _ (by omega)
              have r2 : W.cell? ⟨PB, 5, none⟩ = some (.int .i64 0) := c4 _ (by omega)
              clear c4
              have MS : Hid (Mem w [(PB, oI [p0, p1, p2, p3, p4, p5, 0, 0, 0, 0, 0, 0] 134), (w.heap.size, oI [(m0 : Int), (m1 : Int), (m2 : Int), (m3 : Int)] 133)] _) := Lib.hid (((MB.out.setI hAp.out (by omega) 3 p3).setI hAp.out (by omega) 4 p4).setI hAp.out (by omega) 5 p5)
              replace MB := MS
              clear MS
              go_wp2_with fail
              clear q0 q1 q2 f0 f1 f2 r0 r1 r2 hmn ix
              generalize ((W.setCell ⟨PB, 3, none⟩ (.int .i64 p3)).setCell ⟨PB, 4, none⟩ (.int .i64 p4)).setCell ⟨PB, 5, none⟩ (.int .i64 p5) = W2 at *
              rename World => W
              have ix : ∀ W : World, (Instr.index 133 (.agg #[.int .i64 (m0 : Int), .int .i64 (m1 : Int), .int .i64 (m2 : Int), .int .i64 (m3 : Int)]) (.int .i64 2)).run Try.prog W = .ok (.int .i64 (m2 : Int)) W := fun _ => by kernel_rfl
              rw [rounds_succ]
              obtain ⟨q0, q1, q2⟩ := tri_cells (HA.out.below MB.out.below (Nat.le_refl _)) hm2.out
              rw [hT2.out] at q0 q1 q2
              simp only at q0 q1 q2
              have hmn : ((m2 : Int)) < n := by have := hm2.out; rw [HN.out] at this; omega
              cases ef : fitT ⟨p6, p7, p8⟩
              · have hv : Hid (signR xs n [x0, x1, x2, x3] = (0, 20)) := Lib.hid (signR_unfit rfl hG.out hS.out (m2 : Int) (by simp) (by rw [Int.toNat_natCast, hT2.out]; exact ef))
                have km := may_any p6 p7 p8 W
                rw [show (fitC p6 && fitC p7 && fitC p8) = false from ef] at km
                clear ef
                go_wp2_with fail
                refine km.mono ?_
                rintro e w' ⟨rfl, hb⟩
                replace MB := Lib.hid (MB.out.next hb)
                clear q0 q1 q2 hb
                go_wp2
                go_ret2
                exact ⟨by rw [hv.out]; rfl, MB.out.below⟩
              · have km := may_any p6 p7 p8 W
                rw [show (fitC p6 && fitC p7 && fitC p8) = true from ef] at km
                have F2 := Lib.hid (fitT_coords ef)
                have ef2 := Lib.hid ef
                clear ef
                go_wp2_with fail
                refine km.mono ?_
                rintro e w' ⟨rfl, hb⟩
                replace MB := Lib.hid (MB.out.next hb)
                clear q0 q1 q2 hb km W
                rename World => W
                obtain ⟨q0, q1, q2⟩ := tri_cells (HA.out.below MB.out.below (Nat.le_refl _)) hm2.out
                rw [hT2.out] at q0 q1 q2
                simp only at q0 q1 q2
                have f0 := freeI MB.out.head 6
                have f1 := freeI MB.out.head 7
                have f2 := freeI MB.out.head 8
                have c4 := fun (o : Nat) (ho : o < 12) => cellI MB.out.head (o := o) (by simpa using ho)
                have r0 : W.cell? ⟨PB, 6, none⟩ = some (.int .i64 0) := c4 _ (by omega)
                have r1 : W.cell? ⟨PB, 7, none⟩ = some (.int .i64 0) := c4 _ (by omega)
                have r2 : W.cell? ⟨PB, 8, none⟩ = some (.int .i64 0) := c4 _ (by omega)
                clear c4
                have MS : Hid (Mem w [(PB, oI [p0, p1, p2, p3, p4, p5, p6, p7, p8, 0, 0, 0] 134), (w.heap.size, oI [(m0 : Int), (m1 : Int), (m2 : Int), (m3 : Int)] 133)] _) := Lib.hid (((MB.out.setI hAp.out (by omega) 6 p6).setI hAp.out (by omega) 7 p7).setI hAp.out (by omega) 8 p8)
                replace MB := MS
                clear MS
                go_wp2_with fail
                clear q0 q1 q2 f0 f1 f2 r0 r1 r2 hmn ix
                generalize ((W.setCell ⟨PB, 6, none⟩ (.int .i64 p6)).setCell ⟨PB, 7, none⟩ (.int .i64 p7)).setCell ⟨PB, 8, none⟩ (.int .i64 p8) = W2 at *
                rename World => W
                have ix : ∀ W : World, (Instr.index 133 (.agg #[.int .i64 (m0 : Int), .int .i64 (m1 : Int), .int .i64 (m2 : Int), .int .i64 (m3 : Int)]) (.int .i64 3)).run Try.prog W = .ok (.int .i64 (m3 : Int)) W := fun _ => by kernel_rfl
                rw [rounds_succ]
                obtain ⟨q0, q1, q2⟩ := tri_cells (HA.out.below MB.out.below (Nat.le_refl _)) hm3.out
                rw [hT3.out] at q0 q1 q2
                simp only at q0 q1 q2
                have hmn : ((m3 : Int)) < n := by have := hm3.out; rw [HN.out] at this; omega
                cases ef : fitT ⟨p9, p10, p11⟩
                · have hv : Hid (signR xs n [x0, x1, x2, x3] = (0, 20)) := Lib.hid (signR_unfit rfl hG.out hS.out (m3 : Int) (by simp) (by rw [Int.toNat_natCast, hT3.out]; exact ef))
                  have km := may_any p9 p10 p11 W
                  rw [show (fitC p9 && fitC p10 && fitC p11) = false from ef] at km
                  clear ef
                  go_wp2_with fail
                  refine km.mono ?_
                  rintro e w' ⟨rfl, hb⟩
                  replace MB := Lib.hid (MB.out.next hb)
                  clear q0 q1 q2 hb
                  go_wp2
                  go_ret2
                  exact ⟨by rw [hv.out]; rfl, MB.out.below⟩
                · have km := may_any p9 p10 p11 W
                  rw [show (fitC p9 && fitC p10 && fitC p11) = true from ef] at km
                  have F3 := Lib.hid (fitT_coords ef)
                  have ef3 := Lib.hid ef
                  clear ef
                  go_wp2_with fail
                  refine km.mono ?_
                  rintro e w' ⟨rfl, hb⟩
                  replace MB := Lib.hid (MB.out.next hb)
                  clear q0 q1 q2 hb km W
                  rename World => W
                  obtain ⟨q0, q1, q2⟩ := tri_cells (HA.out.below MB.out.below (Nat.le_refl _)) hm3.out
                  rw [hT3.out] at q0 q1 q2
                  simp only at q0 q1 q2
                  have f0 := freeI MB.out.head 9
                  have f1 := freeI MB.out.head 10
                  have f2 := freeI MB.out.head 11
                  have c4 := fun (o : Nat) (ho : o < 12) => cellI MB.out.head (o := o) (by simpa using ho)
                  have r0 : W.cell? ⟨PB, 9, none⟩ = some (.int .i64 0) := c4 _ (by omega)
                  have r1 : W.cell? ⟨PB, 10, none⟩ = some (.int .i64 0) := c4 _ (by omega)
                  have r2 : W.cell? ⟨PB, 11, none⟩ = some (.int .i64 0) := c4 _ (by omega)
                  clear c4
                  have MS : Hid (Mem w [(PB, oI [p0, p1, p2, p3, p4, p5, p6, p7, p8, p9, p10, p11] 134), (w.heap.size, oI [(m0 : Int), (m1 : Int), (m2 : Int), (m3 : Int)] 133)] _) := Lib.hid (((MB.out.setI hAp.out (by omega) 9 p9).setI hAp.out (by omega) 10 p10).setI hAp.out (by omega) 11 p11)
                  replace MB := MS
                  clear MS
                  go_wp2_with fail
                  clear q0 q1 q2 f0 f1 f2 r0 r1 r2 hmn ix
                  generalize ((W.setCell ⟨PB, 9, none⟩ (.int .i64 p9)).setCell ⟨PB, 10, none⟩ (.int .i64 p10)).setCell ⟨PB, 11, none⟩ (.int .i64 p11) = W2 at *
                  rename World => W
                  rw [rounds_succ]
                  have c4 := fun (o : Nat) (ho : o < 12) => cellI MB.out.head (o := o) (by simpa using ho)
                  have k0 : W.cell? ⟨PB, 0, none⟩ = some (.int .i64 p0) := c4 0 (by omega)
                  have k1 : W.cell? ⟨PB, 1, none⟩ = some (.int .i64 p1) := c4 1 (by omega)
                  have k2 : W.cell? ⟨PB, 2, none⟩ = some (.int .i64 p2) := c4 2 (by omega)
                  have k3 : W.cell? ⟨PB, 3, none⟩ = some (.int .i64 p3) := c4 3 (by omega)
                  have k4 : W.cell? ⟨PB, 4, none⟩ = some (.int .i64 p4) := c4 4 (by omega)
                  have k5 : W.cell? ⟨PB, 5, none⟩ = some (.int .i64 p5) := c4 5 (by omega)
                  have k6 : W.cell? ⟨PB, 6, none⟩ = some (.int .i64 p6) := c4 6 (by omega)
                  have k7 : W.cell? ⟨PB, 7, none⟩ = some (.int .i64 p7) := c4 7 (by omega)
                  have k8 : W.cell? ⟨PB, 8, none⟩ = some (.int .i64 p8) := c4 8 (by omega)
                  have k9 : W.cell? ⟨PB, 9, none⟩ = some (.int .i64 p9) := c4 9 (by omega)
                  have k10 : W.cell? ⟨PB, 10, none⟩ = some (.int .i64 p10) := c4 10 (by omega)
                  have k11 : W.cell? ⟨PB, 11, none⟩ = some (.int .i64 p11) := c4 11 (by omega)
                  clear c4
                  have hg : g = 1 ∨ g = -1 := by have := bubR_sgn [x0, x1, x2, x3] 3; rw [hS.out] at this; exact this
                  have eg := wrap_two hg (signV_two [p0, p1, p2, p3, p4, p5, p6, p7, p8, p9, p10, p11])
                  have hv : Hid (signR xs n [x0, x1, x2, x3] = (g * signV [p0, p1, p2, p3, p4, p5, p6, p7, p8, p9, p10, p11], 0)) := Lib.hid (by
                    rw [signR_fit rfl hG.out hS.out (fun y hy => ?_), hP.out]
                    simp only [List.mem_cons, List.not_mem_nil, or_false] at hy
                    rcases hy with rfl | rfl | rfl | rfl <;> rw [Int.toNat_natCast]
                    · rw [hT0.out]; exact ef0.out
                    · rw [hT1.out]; exact ef1.out
                    · rw [hT2.out]; exact ef2.out
                    · rw [hT3.out]; exact ef3.out)
                  clear hg
                  go_wp2_with fail
                  refine (sign_any p0 p1 p2 p3 p4 p5 p6 p7 p8 p9 p10 p11 F0.out.1 F0.out.2.1 F0.out.2.2 F1.out.1 F1.out.2.1 F1.out.2.2 F2.out.1 F2.out.2.1 F2.out.2.2 F3.out.1 F3.out.2.1 F3.out.2.2 W).mono ?_
                  rintro e w' ⟨rfl, hb⟩
                  replace MB := Lib.hid (MB.out.next hb)
                  go_wp2
                  go_ret2
                  exact ⟨by rw [hv.out]; show Ending.returned (.tuple #[.int .i64 (wrap64 _), _]) = _; rw [eg]; rfl, MB.out.below⟩
end Go.Proofs.Ytojecaeblgghjaa
