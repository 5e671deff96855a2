/-
  THE WALK of OrderLent.
-/
import Derived.Test.YtojecaeblgghjaaFive
set_option linter.unusedVariables false
set_option linter.unusedSimpArgs false
namespace Go.Proofs.Ytojecaeblgghjaa
open Go.RowKit Go.Sort LsP

/-- The five lists of the law. -/
def gv (xs ys : List Int) : Nat → List Int := five (sset xs) (sset (xs ++ ys)) ((sset xs).filter fun x => decide (x ∈ sset ys)) ((sset xs).filter fun x => !decide (x ∈ sset ys)) xs

theorem gv_len (xs ys : List Int) (hx : xs.length ≤ 60) (hy : ys.length ≤ 60) (i : Nat) : (gv xs ys i).length ≤ 200 := by
  unfold gv five
  split
  · have := sset_len xs; omega
  · have := sset_len (xs ++ ys); rw [List.length_append] at this; omega
  · have := List.length_filter_le (fun x => decide (x ∈ sset ys)) (sset xs); have := sset_len xs; omega
  · have := List.length_filter_le (fun x => !decide (x ∈ sset ys)) (sset xs); have := sset_len xs; omega
  · omega

/-- The first loop's relation. -/
def Lent1 (G : Nat → List Int) (w2 : World) (k : Nat) (s7 s8 : Value) (wr : World) : Prop :=
  Below w2.heap.size w2 wr ∧ (0 < k → ∃ fb Af cf m, s7 = .slice (some ⟨fb, 0, none⟩) 5 5 ∧ Five G w2.heap.size wr fb Af cf m ∧ (1 < k → ∃ fb2 Af2 cf2 m2, s8 = .slice (some ⟨fb2, 0, none⟩) 5 5 ∧ Five G (fb + 1) wr fb2 Af2 cf2 m2))

set_option maxHeartbeats 4000000 in
set_option maxRecDepth 100000 in
theorem lent_walk (A B : Option Addr) (c d : Nat) (xs ys : List Int) (w : World) (ha : Rd encI 0 w A xs) (hb : Rd encI 0 w B ys) (hm : xs.length ≤ maxLen) (hm' : ys.length ≤ maxLen) :
    Calls Try.prog 8 #[.slice A xs.length c, .slice B ys.length d] w fun e w' => e = .returned (.bool true) ∧ Below w.heap.size w w' := by
  unfold maxLen at hm hm'
  by_cases h1 : xs.length ≤ 60
  · have g1 : decide ((xs.length : Int) > 60) = false := by simp; omega
    by_cases h2 : ys.length ≤ 60
    · have g2 : decide ((ys.length : Int) > 60) = false := by simp; omega
      have hr1 : Rd encI 0 (w.alloc (.cells #[] 3)) A xs := ha.below ((Below.refl w.heap.size w).alloc (Nat.le_refl _) _) (Nat.le_refl _)
      obtain ⟨A1, c1, w1, run1, own1, gr1, at1⟩ := appI_run (w.alloc (.cells #[] 3)) w.heap.size 22 (.slice (some ⟨w.heap.size, 0, none⟩) 0 0) 0 [] (own_lit (enc := encI) (t := 3) [] (by decide)) 0 A c xs hr1 (by omega) (by simp)
      have b1 : Below w.heap.size w w1 := ((Below.refl w.heap.size w).alloc (Nat.le_refl _) _).grown gr1 (by simp) (fun k hk => by simp [Value.ownBlock] at hk; omega)
      simp only [Nat.zero_add, List.nil_append] at run1 own1
      obtain ⟨P, pc, w2, run2, own2, gr2, at2⟩ := appI_run (w1.alloc (.cells #[.int .i64 7701] 3)) w.heap.size 22 (.slice A1 xs.length c1) xs.length xs (own1.alloc _) w1.heap.size (some ⟨w1.heap.size, 0, none⟩) 1 [7701] (Rd.lit (enc := encI) [7701]) (by simp; omega) (by have := b1.size; simp; omega)
      have b2 : Below w.heap.size w w2 := (b1.alloc b1.size _).grown gr2 (by have := b1.size; simp; omega) (fun k hk => ((own1.alloc (.cells #[.int .i64 7701] 3)).lt k hk).1)
      have hr3 : Rd encI 0 (w2.alloc (.cells #[] 3)) B ys := (hb.below b2 (Nat.le_refl _)).below ((Below.refl w2.heap.size w2).alloc (Nat.le_refl _) _) (Nat.le_refl _)
      obtain ⟨A3, c3, w3, run3, own3, gr3, at3⟩ := appI_run (w2.alloc (.cells #[] 3)) w2.heap.size 22 (.slice (some ⟨w2.heap.size, 0, none⟩) 0 0) 0 [] (own_lit (enc := encI) (t := 3) [] (by decide)) 0 B d ys hr3 (by omega) (by simp)
      have b3 : Below w2.heap.size w2 w3 := ((Below.refl w2.heap.size w2).alloc (Nat.le_refl _) _).grown gr3 (by simp) (fun k hk => by simp [Value.ownBlock] at hk; omega)
      simp only [Nat.zero_add, List.nil_append] at run3 own3
      obtain ⟨Q, qc, w4, run4, own4, gr4, at4⟩ := appI_run (w3.alloc (.cells #[.int .i64 7702] 3)) w2.heap.size 22 (.slice A3 ys.length c3) ys.length ys (own3.alloc _) w3.heap.size (some ⟨w3.heap.size, 0, none⟩) 1 [7702] (Rd.lit (enc := encI) [7702]) (by simp; omega) (by have := b3.size; simp; omega)
      have b4 : Below w2.heap.size w2 w4 := (b3.alloc b3.size _).grown gr4 (by have := b3.size; simp; omega) (fun k hk => ((own3.alloc (.cells #[.int .i64 7702] 3)).lt k hk).1)
      obtain ⟨rp, _, hpc, hpm⟩ := Rd.own (by simpa using own2 : w2.ownsRow w.heap.size 3 1 (.slice P (xs.length + 1) pc) (xs.length + 1) ((xs ++ [7701]).map encI))
      obtain ⟨rq, _, hqc, hqm⟩ := Rd.own (by simpa using own4 : w4.ownsRow w2.heap.size 3 1 (.slice Q (ys.length + 1) qc) (ys.length + 1) ((ys ++ [7702]).map encI))
      have RP : Hid (∀ W, Below w4.heap.size w4 W → Rd encI 0 W P (xs ++ [7701])) := fun W h => ((rp.below b4 (Nat.le_refl _)).below h (Nat.le_refl _)).low (Nat.zero_le _)
      have RQ : Hid (∀ W, Below w4.heap.size w4 W → Rd encI 0 W Q (ys ++ [7702])) := fun W h => (rq.below h (Nat.le_refl _)).low (Nat.zero_le _)
      have B4 : Hid (Below w.heap.size w w4) := below_up b2 b4
      have RA : Hid (∀ W, Below w4.heap.size w4 W → Rd encI 0 W A xs) := fun W h => (ha.below B4.out (Nat.le_refl _)).below h (Nat.le_refl _)
      have RB : Hid (∀ W, Below w4.heap.size w4 W → Rd encI 0 W B ys) := fun W h => (hb.below B4.out (Nat.le_refl _)).below h (Nat.le_refl _)
      have E1 := Lib.hid run1; have E2 := Lib.hid run2; have E3 := Lib.hid run3; have E4 := Lib.hid run4
      rw [List.length_singleton] at E2 E4
      clear ha hb hr1 run1 own1 gr1 at1 b1 run2 own2 gr2 at2 b2 hr3 run3 own3 gr3 at3 b3 run4 own4 gr4 at4 b4 rp rq
      have hpc' : xs.length ≤ pc := by omega
      have hqc' : ys.length ≤ qc := by omega
      unfold maxLen at hpm hqm
      obtain ⟨G, hG⟩ : ∃ G, G = gv xs ys := ⟨_, rfl⟩
      have GG := Lib.hid hG
      have LG : Hid (∀ i, (G i).length ≤ 200) := fun i => by rw [hG]; exact gv_len xs ys h1 h2 i
      clear hG
      go_enter Try.func8, Try.ntmps8
      go_wp2_with (first
        | (at_builtin; refine wpList_append_run (o := ⟨some 29, _, _, _, _, _⟩) rfl _ _ _ rfl rfl rfl E1.out ?_)
        | (at_builtin; refine wpList_append_run (o := ⟨some 31, _, _, _, _, _⟩) rfl _ _ _ rfl rfl rfl E2.out ?_)
        | (at_builtin; refine wpList_append_run (o := ⟨some 34, _, _, _, _, _⟩) rfl _ _ _ rfl rfl rfl E3.out ?_)
        | (at_builtin; refine wpList_append_run (o := ⟨some 36, _, _, _, _, _⟩) rfl _ _ _ rfl rfl rfl E4.out ?_))
      go_loopw [7, 8, 9] (fun s7 s8 i wr => ∃ k : Nat, k ≤ 2 ∧ i = .int .i64 k ∧ Lent1 G w4 k s7 s8 wr) (fun _ _ i _ => 2 - (intOf i).toNat)
      case atStart => exact ⟨0, Nat.zero_le _, rfl, Below.refl _ _, fun h => absurd h (by omega)⟩
      case round =>
        obtain ⟨k, hk, rfl, hinv⟩ := hrel
        have HV := Lib.hid hinv
        clear hinv
        by_cases hk0 : k = 0
        · subst hk0
          have bw : Below w4.heap.size w4 wr := HV.out.1
          go_wp2_with fail
          go_quiet (fail)
          go_wp2_with fail
          have bz : Below w4.heap.size w4 (wr.drewN nq) := below_drewN bw nq
          generalize wr.drewN nq = W0 at *
          have BZ := Lib.hid bz
          clear bz bw HV
          have qx : ∀ W, Below w4.heap.size w4 W → Rd encI 0 W P xs := fun W h => by have := (RP.out W h).take xs.length; rwa [List.take_left] at this
          have qy : ∀ W, Below w4.heap.size w4 W → Rd encI 0 W Q ys := fun W h => by have := (RQ.out W h).take ys.length; rwa [List.take_left] at this
          have QX := Lib.hid qx
          have QY := Lib.hid qy
          clear qx qy
          refine (set_any P pc xs W0 0 (QX.out _ BZ.out) (by omega)).mono ?_
          rintro e V0 ⟨A0, n0, rfl, s0, _, r0, f0, y0⟩
          have G0 := Lib.hid (Got.of_told s0 r0 f0 y0)
          have Z0 : Hid (Below w4.heap.size w4 V0) := below_up BZ.out y0
          have Y0 := Lib.hid y0
          clear s0 r0 f0 y0
          go_wp2_with fail
          refine (merge_any P Q pc qc xs ys _ (QX.out _ Z0.out) (QY.out _ Z0.out) (by omega) (by omega)).mono ?_
          rintro e V1 ⟨A1, n1, rfl, s1, _, r1, f1, y1⟩
          have G1 := Lib.hid (And.intro (G0.out.below y1) (Got.of_told s1 r1 f1 y1))
          have Z1 : Hid (Below w4.heap.size w4 V1) := below_up Z0.out y1
          have Y1 : Hid (Below W0.heap.size W0 V1) := below_up Y0.out y1
          clear s1 r1 f1 y1 Z0 G0 Y0
          go_wp2_with fail
          refine (both_any P Q pc qc xs ys _ (QX.out _ Z1.out) (QY.out _ Z1.out) (by omega) (by omega)).mono ?_
          rintro e V2 ⟨A2, n2, rfl, s2, _, r2, f2, y2⟩
          have G2 := Lib.hid (And.intro (G1.out.1.below y2) (And.intro (G1.out.2.below y2) (Got.of_told s2 r2 f2 y2)))
          have Z2 : Hid (Below w4.heap.size w4 V2) := below_up Z1.out y2
          have Y2 : Hid (Below W0.heap.size W0 V2) := below_up Y1.out y2
          clear s2 r2 f2 y2 Z1 G1 Y1
          go_wp2_with fail
          refine (less_any P Q pc qc xs ys _ (QX.out _ Z2.out) (QY.out _ Z2.out) (by omega) (by omega)).mono ?_
          rintro e V3 ⟨A3, n3, rfl, s3, _, r3, f3, y3⟩
          have G3 := Lib.hid (And.intro (G2.out.1.below y3) (And.intro (G2.out.2.1.below y3) (And.intro (G2.out.2.2.below y3) (Got.of_told s3 r3 f3 y3))))
          have Z3 : Hid (Below w4.heap.size w4 V3) := below_up Z2.out y3
          have Y3 : Hid (Below W0.heap.size W0 V3) := below_up Y2.out y3
          clear s3 r3 f3 y3 Z2 G2 Y2
          go_wp2_with fail
          refine (keepNil_any P pc xs _ (QX.out _ Z3.out) (by omega)).mono ?_
          rintro e V4 ⟨A4, n4, rfl, s4, _, r4, f4, y4⟩
          have ff0 := (Five.make (Z := W0.heap.size) (t := 22) (G3.out.1.below y4) (G3.out.2.1.below y4) (G3.out.2.2.1.below y4) (G3.out.2.2.2.below y4) (Got.of_told s4 r4 f4 y4) (Nat.le_refl _))
          have ff1 : Five (gv xs ys) W0.heap.size _ _ _ _ _ := ff0
          rw [← GG.out] at ff1
          have FF := Lib.hid ff1
          clear ff0 ff1
          have Z4 : Hid (Below w4.heap.size w4 V4) := below_up Z3.out y4
          have Y4 : Hid (Below W0.heap.size W0 V4) := below_up Y3.out y4
          clear s4 r4 f4 y4 Z3 G3 Y3
          go_wp2
          go_roundw
          case measure => simp [intOf]
          case rel => exact ⟨1, by omega, by go_num, Z4.out.alloc Z4.out.size _, fun _ => ⟨_, _, _, _, rfl, FF.out.low BZ.out.size, fun h => absurd h (by omega)⟩⟩
        · by_cases hk1 : k = 1
          · subst hk1
            have bw : Below w4.heap.size w4 wr := HV.out.1
            go_wp2_with fail
            go_quiet (fail)
            go_wp2_with fail
            have bz : Below w4.heap.size w4 (wr.drewN nq) := below_drewN bw nq
            have FV : Hid (∃ fb Af cf m, u7 = .slice (some ⟨fb, 0, none⟩) 5 5 ∧ Five G w4.heap.size (wr.drewN nq) fb Af cf m) := by
              obtain ⟨fb, Af, cf, m, h1, h2, _⟩ := HV.out.2 (by omega)
              exact ⟨fb, Af, cf, m, h1, h2.below (below_drewN (Below.refl _ _) nq)⟩
            obtain ⟨fb, Af, cf, m, rfl, hF⟩ := FV.out
            have HF := Lib.hid hF
            clear hF FV
            generalize wr.drewN nq = W0 at *
            have BZ := Lib.hid bz
            clear bz bw HV
            have qx : ∀ W, Below w4.heap.size w4 W → Rd encI 0 W P xs := fun W h => by have := (RP.out W h).take xs.length; rwa [List.take_left] at this
            have qy : ∀ W, Below w4.heap.size w4 W → Rd encI 0 W Q ys := fun W h => by have := (RQ.out W h).take ys.length; rwa [List.take_left] at this
            have QX := Lib.hid qx
            have QY := Lib.hid qy
            clear qx qy
            refine (set_any P pc xs W0 0 (QX.out _ BZ.out) (by omega)).mono ?_
            rintro e V0 ⟨A0, n0, rfl, s0, _, r0, f0, y0⟩
            have G0 := Lib.hid (Got.of_told s0 r0 f0 y0)
            have Z0 : Hid (Below w4.heap.size w4 V0) := below_up BZ.out y0
            have Y0 := Lib.hid y0
            clear s0 r0 f0 y0
            go_wp2_with fail
            refine (merge_any P Q pc qc xs ys _ (QX.out _ Z0.out) (QY.out _ Z0.out) (by omega) (by omega)).mono ?_
            rintro e V1 ⟨A1, n1, rfl, s1, _, r1, f1, y1⟩
            have G1 := Lib.hid (And.intro (G0.out.below y1) (Got.of_told s1 r1 f1 y1))
            have Z1 : Hid (Below w4.heap.size w4 V1) := below_up Z0.out y1
            have Y1 : Hid (Below W0.heap.size W0 V1) := below_up Y0.out y1
            clear s1 r1 f1 y1 Z0 G0 Y0
            go_wp2_with fail
            refine (both_any P Q pc qc xs ys _ (QX.out _ Z1.out) (QY.out _ Z1.out) (by omega) (by omega)).mono ?_
            rintro e V2 ⟨A2, n2, rfl, s2, _, r2, f2, y2⟩
            have G2 := Lib.hid (And.intro (G1.out.1.below y2) (And.intro (G1.out.2.below y2) (Got.of_told s2 r2 f2 y2)))
            have Z2 : Hid (Below w4.heap.size w4 V2) := below_up Z1.out y2
            have Y2 : Hid (Below W0.heap.size W0 V2) := below_up Y1.out y2
            clear s2 r2 f2 y2 Z1 G1 Y1
            go_wp2_with fail
            refine (less_any P Q pc qc xs ys _ (QX.out _ Z2.out) (QY.out _ Z2.out) (by omega) (by omega)).mono ?_
            rintro e V3 ⟨A3, n3, rfl, s3, _, r3, f3, y3⟩
            have G3 := Lib.hid (And.intro (G2.out.1.below y3) (And.intro (G2.out.2.1.below y3) (And.intro (G2.out.2.2.below y3) (Got.of_told s3 r3 f3 y3))))
            have Z3 : Hid (Below w4.heap.size w4 V3) := below_up Z2.out y3
            have Y3 : Hid (Below W0.heap.size W0 V3) := below_up Y2.out y3
            clear s3 r3 f3 y3 Z2 G2 Y2
            go_wp2_with fail
            refine (keepNil_any P pc xs _ (QX.out _ Z3.out) (by omega)).mono ?_
            rintro e V4 ⟨A4, n4, rfl, s4, _, r4, f4, y4⟩
            have ff0 := (Five.make (Z := W0.heap.size) (t := 22) (G3.out.1.below y4) (G3.out.2.1.below y4) (G3.out.2.2.1.below y4) (G3.out.2.2.2.below y4) (Got.of_told s4 r4 f4 y4) (Nat.le_refl _))
            have ff1 : Five (gv xs ys) W0.heap.size _ _ _ _ _ := ff0
            rw [← GG.out] at ff1
            have FF := Lib.hid ff1
            clear ff0 ff1
            have Z4 : Hid (Below w4.heap.size w4 V4) := below_up Z3.out y4
            have Y4 : Hid (Below W0.heap.size W0 V4) := below_up Y3.out y4
            clear s4 r4 f4 y4 Z3 G3 Y3
            go_wp2
            go_roundw
            case measure => simp [intOf]
            case rel => exact ⟨2, by omega, by go_num, Z4.out.alloc Z4.out.size _, fun _ => ⟨fb, Af, cf, m, rfl, HF.out.below (Y4.out.alloc Y4.out.size _), fun _ => ⟨_, _, _, _, rfl, FF.out.low HF.out.lt⟩⟩⟩
          · obtain rfl : k = 2 := by omega
            obtain ⟨bw, hh⟩ := HV.out
            obtain ⟨fb, Af, cf, m, rfl, hF, hh2⟩ := hh (by omega)
            obtain ⟨fb2, Af2, cf2, m2, rfl, hS⟩ := hh2 (by omega)
            have HF := Lib.hid hF
            have HS := Lib.hid hS
            have BW := Lib.hid bw
            clear hF hS bw hh hh2 HV
            obtain ⟨W1, hW1⟩ : ∃ W1, W1 = wr := ⟨_, rfl⟩
            subst hW1
            obtain ⟨F, hFF⟩ : ∃ F : Nat → Prop, F = fun b => m 0 ≤ b ∧ b < m 5 := ⟨_, rfl⟩
            have FIN : Hid (∀ j b, j < 5 → m j ≤ b → b < m (j + 1) → F b) := fun j b hj h3 h4 => by
              rw [hFF]
              have := HF.out.le (i := 0) (j := j) (by omega) (by omega)
              have := HF.out.le (i := j + 1) (j := 5) (by omega) (by omega)
              exact ⟨by omega, by omega⟩
            have FZ : Hid (∀ b, F b → w4.heap.size ≤ b) := fun b h => by rw [hFF] at h; have := HF.out.lo; omega
            have FB : Hid (∀ b, F b → b < fb + 1) := fun b h => by rw [hFF] at h; have := HF.out.last; omega
            have FN : Hid (¬ F fb) := fun h => by rw [hFF] at h; have := HF.out.last; omega
            clear hFF
            have ROW : Hid (∀ W, Upd F W1 W → ∀ j, j < 5 → W.cell? ⟨fb, j, none⟩ = some (.slice (Af j) (G j).length (cf j))) := fun W hU j hj => (World.cell?_of_block (hU.block fb HF.out.lt FN.out)).trans (HF.out.row j hj)
            go_wp2_with fail
            go_loopw [13] (fun i wr => ∃ j : Nat, j ≤ 5 ∧ i = .int .i64 j ∧ Hid (Upd F W1 wr ∧ Cells G Af j 0 wr)) (fun i _ => 5 - (intOf i).toNat)
            case atStart => exact ⟨0, Nat.zero_le _, rfl, Upd.refl _ _, Cells.start HF.out⟩
            case round =>
              obtain ⟨j, hj, rfl, HC⟩ := hrel
              obtain ⟨W2, hW2⟩ : ∃ W2, W2 = wr := ⟨_, rfl⟩
              subst hW2
              by_cases hj5 : j < 5
              · have row0 := ROW.out W2 HC.out.1 j hj5
                have cap0 := (HF.out.got j hj5).cap
                have len0 := LG.out j
                obtain ⟨n, hn⟩ : ∃ n, (G j).length = n := ⟨_, rfl⟩
                have HN := Lib.hid hn
                rw [hn] at row0 cap0 len0
                have ROWj : Hid (∀ W, Upd F W1 W → W.cell? ⟨fb, j, none⟩ = some (.slice (Af j) n (cf j))) := fun W hU => by have := ROW.out W hU j hj5; rwa [HN.out] at this
                clear hn
                go_wp2_with fail
                go_loopw [14] (fun i wr => ∃ q : Nat, q ≤ n ∧ i = .int .i64 q ∧ Hid (Upd F W1 wr ∧ Cells G Af j q wr)) (fun i _ => n - (intOf i).toNat)
                case atStart => exact ⟨0, Nat.zero_le _, rfl, HC.out⟩
                case round =>
                  obtain ⟨q, hq, rfl, HD⟩ := hrel
                  by_cases hqn : q < n
                  · obtain ⟨b, o, hA, hb1, _, _⟩ := (HF.out.got j hj5).rd (by rw [HN.out]; omega)
                    have hb2 := (HF.out.got j hj5).up (by rw [HN.out]; omega) b o hA
                    have row1 := ROWj.out wr HD.out.1
                    rw [hA] at row1
                    have cc := HD.out.2 j q hj5 (by rw [HN.out]; exact hqn) b o hA
                    have c1 := cc.1
                    have c2 := cc.2
                    have fin : Hid (Upd F W1 (wr.setCell ⟨b, o + q, none⟩ (.int .i64 (9000 + (j : Int)))) ∧ Cells G Af j (q + 1) (wr.setCell ⟨b, o + q, none⟩ (.int .i64 (9000 + (j : Int))))) :=
                      ⟨HD.out.1.setCell (FIN.out j b hj5 hb1 hb2) _, Cells.step HF.out HD.out.2 hj5 (by rw [HN.out]; exact hqn) hA⟩
                    generalize (if j < j ∨ j = j ∧ q < q then 9000 + (j : Int) else (G j)[q]!) = old at *
                    clear cc row0 hb1 hb2
                    go_wp2
                    go_roundw
                    case rel => exact ⟨q + 1, by omega, by go_num, fin.out⟩
                    case measure => simp [intOf]; omega
                  · obtain rfl : q = n := by omega
                    have row1 := ROWj.out wr HD.out.1
                    go_wp2
                    go_roundw
                    case rel => exact ⟨j + 1, by omega, by go_num, HD.out.1, by have := HD.out.2; rw [← HN.out] at this; exact this.next⟩
                    case measure => simp [intOf]; omega
              · obtain rfl : j = 5 := by omega
                have ZW : Hid (Below w4.heap.size w4 W2) := BW.out.trans (HC.out.1.belowZ FZ.out BW.out.size)
                have s2 := HS.out.upd HC.out.1 FB.out
                have row1 := ROW.out W2 HC.out.1
                have cel1 := HC.out.2
                have lt2 : fb2 < W2.heap.size := Nat.lt_of_lt_of_le HS.out.lt HC.out.1.size
                have lt1 : fb < W2.heap.size := Nat.lt_of_lt_of_le HF.out.lt HC.out.1.size
                have S2 := Lib.hid s2
                have R1 := Lib.hid row1
                have C1 := Lib.hid cel1
                have LT := Lib.hid (And.intro lt1 lt2)
                have AS : Hid (∀ i, i < 5 → 0 < (G i).length → ∃ b o, Af i = some ⟨b, o, none⟩ ∧ b < W2.heap.size) := fun i hi hp => by
                  obtain ⟨b, o, e, _, h, _⟩ := (HF.out.got i hi).rd hp
                  exact ⟨b, o, e, Nat.lt_of_lt_of_le h HC.out.1.size⟩
                clear s2 row1 cel1 lt1 lt2 HC ROW FIN FZ FB FN HF HS BW
                go_wp2_with fail
                refine (refSet_any A c xs W2 (RA.out _ ZW.out) (by omega)).mono ?_
                rintro e V0 ⟨A0, n0, rfl, t0, _, r0, f0, y0⟩
                have D0 := Lib.hid (And.intro y0 r0)
                clear y0 r0
                go_wp2_with fail
                refine (refMerge_any A B c d xs ys V0 (RA.out _ (below_up ZW.out D0.out.1)) (RB.out _ (below_up ZW.out D0.out.1)) (by omega) (by omega)).mono ?_
                rintro e V1 ⟨A1, n1, rfl, t1, _, r1, f1, y1⟩
                have D1 := Lib.hid (And.intro (below_up D0.out.1 y1) (And.intro (D0.out.2.below y1 (Nat.le_refl _)) r1))
                clear y1 r1 D0
                go_wp2_with fail
                refine (refBoth_any A B c d xs ys V1 (RA.out _ (below_up ZW.out D1.out.1)) (RB.out _ (below_up ZW.out D1.out.1)) (by omega) (by omega)).mono ?_
                rintro e V2 ⟨A2, n2, rfl, t2, _, r2, f2, y2⟩
                have D2 := Lib.hid (And.intro (below_up D1.out.1 y2) (And.intro (D1.out.2.1.below y2 (Nat.le_refl _)) (And.intro (D1.out.2.2.below y2 (Nat.le_refl _)) r2)))
                clear y2 r2 D1
                go_wp2_with fail
                refine (refLess_any A B c d xs ys V2 (RA.out _ (below_up ZW.out D2.out.1)) (RB.out _ (below_up ZW.out D2.out.1)) (by omega) (by omega)).mono ?_
                rintro e V3 ⟨A3, n3, rfl, t3, _, r3, f3, y3⟩
                have D3 := Lib.hid (And.intro (below_up D2.out.1 y3) (And.intro (D2.out.2.1.below y3 (Nat.le_refl _)) (And.intro (D2.out.2.2.1.below y3 (Nat.le_refl _)) (And.intro (D2.out.2.2.2.below y3 (Nat.le_refl _)) r3))))
                clear y3 r3 D2
                go_wp2_with fail
                have ax := RA.out _ (below_up ZW.out D3.out.1)
                have ff := Wants.make (t := 22) D3.out.2.1 D3.out.2.2.1 D3.out.2.2.2.1 D3.out.2.2.2.2 ax (n0 := n0) (n1 := n1) (n2 := n2) (n3 := n3) (n4 := c)
                have ff1 : Wants (gv xs ys) _ _ _ _ := ff
                rw [← GG.out] at ff1
                have KW : Hid (Below W2.heap.size W2 (V3.alloc (.cells #[.slice A0 (sset xs).length n0, .slice A1 (sset (xs ++ ys)).length n1, .slice A2 ((sset xs).filter fun x => decide (x ∈ sset ys)).length n2, .slice A3 ((sset xs).filter fun x => !decide (x ∈ sset ys)).length n3, .slice A xs.length c] 22))) := D3.out.1.alloc D3.out.1.size _
                have WW := Lib.hid ff1
                clear ff ff1 ax D3 t0 t1 t2 t3 f0 f1 f2 f3
                generalize five A0 A1 A2 A3 A = Rf at *
                generalize five n0 n1 n2 n3 c = rc at *
                generalize V3.alloc (.cells #[.slice A0 (sset xs).length n0, .slice A1 (sset (xs ++ ys)).length n1, .slice A2 ((sset xs).filter fun x => decide (x ∈ sset ys)).length n2, .slice A3 ((sset xs).filter fun x => !decide (x ∈ sset ys)).length n3, .slice A xs.length c] 22) = W3 at *
                generalize V3.heap.size = wb at *
                have ZZ : Hid (Below w4.heap.size w4 W3) := below_up ZW.out KW.out
                have s2 : Hid (∀ i, i < 5 → Rd encI 0 W3 (Af2 i) (G i)) := fun i hi => ((S2.out.1 i hi).below KW.out (Nat.le_refl _)).low (Nat.zero_le _)
                have row2 : Hid (∀ i, i < 5 → W3.cell? ⟨fb2, i, none⟩ = some (.slice (Af2 i) (G i).length (cf2 i))) := fun i hi => (KW.out.cell (p := ⟨fb2, i, none⟩) LT.out.2).trans (S2.out.2 i hi)
                have row1 : Hid (∀ i, i < 5 → W3.cell? ⟨fb, i, none⟩ = some (.slice (Af i) (G i).length (cf i))) := fun i hi => (KW.out.cell (p := ⟨fb, i, none⟩) LT.out.1).trans (R1.out i hi)
                have cel1 : Hid (∀ i, i < 5 → ∀ q, q < (G i).length → ∃ b o, Af i = some ⟨b, o, none⟩ ∧ W3.cell? ⟨b, o + q, none⟩ = some (.int .i64 (9000 + (i : Int)))) := fun i hi q hq => by
                  obtain ⟨b, o, e, hb⟩ := AS.out i hi (by omega)
                  refine ⟨b, o, e, (KW.out.cell (p := ⟨b, o + q, none⟩) hb).trans ?_⟩
                  have := (C1.out i q hi hq b o e).1
                  rwa [if_pos (by omega)] at this
                clear S2 LT R1 C1 AS KW ZW
                go_loopw [16] (fun i wr => ∃ j : Nat, j ≤ 5 ∧ i = .int .i64 j ∧ ∃ q, wr = W3.drewN q) (fun i _ => 5 - (intOf i).toNat)
                case atStart => exact ⟨0, Nat.zero_le _, rfl, 0, rfl⟩
                case round =>
                  obtain ⟨j, hj, rfl, q, rfl⟩ := hrel
                  by_cases hj5 : j < 5
                  · have r2 : (W3.drewN q).cell? ⟨fb2, j, none⟩ = _ := row2.out j hj5
                    have r3 : (W3.drewN q).cell? ⟨wb, j, none⟩ = _ := WW.out.row j hj5
                    have r1 : (W3.drewN q).cell? ⟨fb, j, none⟩ = _ := row1.out j hj5
                    have rd2 : Rd encI 0 (W3.drewN q) (Af2 j) (G j) := s2.out j hj5
                    have rd3 : Rd encI 0 (W3.drewN q) (Rf j) (G j) := WW.out.rd j hj5
                    have cc : Hid (∀ t, t < (G j).length → ∃ b o, Af j = some ⟨b, o, none⟩ ∧ ∀ z, ((W3.drewN q).drewN z).cell? ⟨b, o + t, none⟩ = some (.int .i64 (9000 + (j : Int)))) := fun t ht => by
                      obtain ⟨b, o, e, h⟩ := cel1.out j hj5 t ht
                      exact ⟨b, o, e, fun _ => h⟩
                    generalize hWq : W3.drewN q = W at *
                    have HW := Lib.hid hWq
                    have Q1 : Hid (∀ n, Calls Try.prog 25 #[.slice (Af2 j) (G j).length (cf2 j), .slice (Rf j) (G j).length (rc j)] (W.drewN n) fun e w' => e = .returned (.bool true) ∧ ∃ m, w' = W.drewN m) := fun n =>
                      Calls.quiet_of (sameI_true (Af2 j) (Rf j) (cf2 j) (rc j) (G j) (W.drewN n) 0 0 rd2 rd3 (Nat.le_trans (LG.out j) (by decide)))
                    have len0 := LG.out j
                    clear rd2 rd3 hWq
                    generalize (G j).length = n at *
                    have i1 : (j : Int) < 5 := by omega
                    go_wp2_with fail
                    go_quiet ((go_at_call 25; exact Q1.out _))
                    go_wp2_with fail
                    have r1' : (W.drewN nq).cell? ⟨fb, j, none⟩ = some (.slice (Af j) n (cf j)) := r1
                    have cc' : Hid (∀ t, t < n → ∃ b o, Af j = some ⟨b, o, none⟩ ∧ (W.drewN nq).cell? ⟨b, o + t, none⟩ = some (.int .i64 (9000 + (j : Int)))) := fun t ht => by
                      obtain ⟨b, o, e, h⟩ := cc.out t ht
                      exact ⟨b, o, e, h nq⟩
                    have HW2 : Hid (∃ z, W.drewN nq = W3.drewN z) := ⟨q + nq, by rw [← HW.out, World.drewN_drewN]⟩
                    clear r1 r2 r3 cc Q1 HW
                    generalize W.drewN nq = X at *
                    go_loop [17] (fun i => ∃ t : Nat, t ≤ n ∧ i = .int .i64 t) (fun i => n - (intOf i).toNat)
                    case atStart => exact ⟨0, Nat.zero_le _, rfl⟩
                    case round =>
                      obtain ⟨t, ht, rfl⟩ := hrel
                      by_cases htn : t < n
                      · obtain ⟨b, o, hA, hcell⟩ := cc'.out t htn
                        have i2 : (t : Int) < (n : Int) := by omega
                        rw [hA] at r1'
                        go_wp2
                        go_round
                        case rel => exact ⟨t + 1, by omega, by go_num⟩
                        case measure => simp [intOf]; omega
                      · obtain rfl : t = n := by omega
                        go_wp2
                        go_roundw
                        case rel => exact ⟨j + 1, by omega, by go_num, HW2.out⟩
                        case measure => simp [intOf]; omega
                  · obtain rfl : j = 5 := by omega
                    have zz : Below w4.heap.size w4 (W3.drewN q) := below_drewN ZZ.out q
                    have pp := RP.out _ zz
                    have qq := RQ.out _ zz
                    have px : Rd encI 0 (W3.drewN q) P xs := by have := pp.take xs.length; rwa [List.take_left] at this
                    have qy : Rd encI 0 (W3.drewN q) Q ys := by have := qq.take ys.length; rwa [List.take_left] at this
                    obtain ⟨pb, po, hP, _, cp0⟩ := pp.at_ (k := xs.length) (by simp)
                    obtain ⟨qb, qo, hQ, _, cq0⟩ := qq.at_ (k := ys.length) (by simp)
                    have cp : (W3.drewN q).cell? ⟨pb, po + xs.length, none⟩ = some (.int .i64 7701) := by rw [cp0]; simp
                    have cq : (W3.drewN q).cell? ⟨qb, qo + ys.length, none⟩ = some (.int .i64 7702) := by rw [cq0]; simp
                    have ax := RA.out _ zz
                    have by_ := RB.out _ zz
                    have K1 := Lib.hid (sameI_true P A pc c xs (W3.drewN q) 0 0 px ax (by omega))
                    have K2 : Hid (∀ n, Calls Try.prog 25 #[.slice Q ys.length qc, .slice B ys.length d] ((W3.drewN q).drewN n) fun e w' => e = .returned (.bool true) ∧ ∃ z, w' = ((W3.drewN q).drewN n).drewN z) := fun n => sameI_true Q B qc d ys ((W3.drewN q).drewN n) 0 0 qy by_ (by omega)
                    have ZZ' : Hid (Below w.heap.size w (W3.drewN q)) := below_up B4.out zz
                    clear pp qq px qy cp0 cq0 ax by_ zz RP RQ RA RB WW s2 row2 row1 cel1 ZZ
                    subst hP
                    subst hQ
                    generalize W3.drewN q = X at *
                    have i1 : (xs.length : Int) < (xs.length : Int) + 1 := by omega
                    have i2 : (ys.length : Int) < (ys.length : Int) + 1 := by omega
                    go_wp2_with fail
                    refine K1.out.mono ?_
                    rintro e X1 ⟨rfl, n1, rfl⟩
                    go_wp2_with fail
                    refine (K2.out n1).mono ?_
                    rintro e X2 ⟨rfl, n2, hX2⟩
                    have fin : Hid (Below w.heap.size w X2) := by rw [hX2]; exact below_drewN (below_drewN ZZ'.out n1) n2
                    clear hX2
                    go_wp2_with fail
                    refine (awake3_any _).mono ?_
                    rintro e X3 ⟨rfl, hb7⟩
                    go_wp2
                    go_ret
                    exact ⟨rfl, below_up fin.out hb7⟩
    · have g2 : decide ((ys.length : Int) > 60) = true := by simp; omega
      go_enter Try.func8, Try.ntmps8
      go_wp2_with (go_at_call 18; refine (awake3_any _).mono ?_; rintro e w5 ⟨rfl, hb5⟩)
      go_ret
      exact ⟨rfl, hb5⟩
  · have g1 : decide ((xs.length : Int) > 60) = true := by simp; omega
    go_enter Try.func8, Try.ntmps8
    go_wp2_with (go_at_call 18; refine (awake3_any _).mono ?_; rintro e w5 ⟨rfl, hb5⟩)
    go_ret
    exact ⟨rfl, hb5⟩
end Go.Proofs.Ytojecaeblgghjaa
