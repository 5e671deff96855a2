/-
  facet.Seed, where facet.Outward is known at the four triples.
-/
import Derived.Test.YtojecaeblgghjaaTriSort
set_option linter.unusedVariables false
set_option linter.unusedSimpArgs false
namespace Go.Proofs.Ytojecaeblgghjaa
open Go.RowKit Go.Sort LsP

/-- The triples of the first four places. -/
def sd (k : Nat) : T3 := if k = 0 then ⟨1, 2, 3⟩ else if k = 1 then ⟨0, 2, 3⟩ else if k = 2 then ⟨0, 1, 3⟩ else ⟨0, 1, 2⟩

theorem idx4 (k : Nat) (hk : k < 4) : ∀ W : World, (Instr.index 111 (.agg #[.int .i64 1, .int .i64 2, .int .i64 3, .int .i64 0, .int .i64 2, .int .i64 3, .int .i64 0, .int .i64 1, .int .i64 3, .int .i64 0, .int .i64 1, .int .i64 2]) (.int .i64 (k : Int))).run Try.prog W =
    .ok (.agg #[.int .i64 (sd k).a, .int .i64 (sd k).b, .int .i64 (sd k).c]) W := by
  rcases (by omega : k = 0 ∨ k = 1 ∨ k = 2 ∨ k = 3) with rfl | rfl | rfl | rfl <;> (intro W; kernel_rfl)

def four (o : Nat → T3) : List T3 := [o 0, o 1, o 2, o 3]
theorem four_len (o : Nat → T3) : (four o).length = 4 := rfl
theorem four_take (o : Nat → T3) (k : Nat) (hk : k < 4) : (four o).take (k + 1) = (four o).take k ++ [o k] := by
  rcases (by omega : k = 0 ∨ k = 1 ∨ k = 2 ∨ k = 3) with rfl | rfl | rfl | rfl <;> rfl

set_option maxHeartbeats 4000000 in
set_option maxRecDepth 100000 in
theorem seed_ok (A : Option Addr) (n c : Nat) (o : Nat → T3) (w : World)
    (hO : ∀ k, k < 4 → ∀ W, Below w.heap.size w W → Calls Try.prog 48 #[.slice A n c, .int .i64 (sd k).a, .int .i64 (sd k).b, .int .i64 (sd k).c] W fun e w' => e = .returned (.tuple #[encT (o k), .int .i64 0]) ∧ Below W.heap.size W w') :
    Calls Try.prog 50 #[.slice A n c] w fun e w' => ∃ A', e = .returned (.tuple #[.slice A' (sset ((four o).map canon)).length (sset ((four o).map canon)).length, .int .i64 0]) ∧ RdT w.heap.size w' A' (sset ((four o).map canon)) ∧ Below w.heap.size w w' := by
  have HO := Lib.hid hO
  clear hO
  have own0 : w.ownsRow w.heap.size 50 3 (.slice none 0 0) 0 [] := ⟨rfl, .inl ⟨rfl, rfl⟩⟩
  have OW := Lib.hid own0
  clear own0
  have I4 := Lib.hid idx4
  go_enter Try.func50, Try.ntmps50
  go_wp2_with fail
  go_loopw [4, 14] (fun v i wr => ∃ k : Nat, k ≤ 4 ∧ i = .int .i64 k ∧ Hid (wr.ownsRow w.heap.size 50 3 v k ((flat ((four o).take k)).map encI) ∧ Below w.heap.size w wr)) (fun _ i => fun _ => 4 - (intOf i).toNat)
  case atStart => exact ⟨0, Nat.zero_le _, rfl, OW.out, Below.refl _ _⟩
  case round =>
    obtain ⟨k, hk, rfl, HV⟩ := hrel
    by_cases hlt : k < 4
    · have ik := I4.out k hlt
      have hk1 := HO.out k hlt
      have HT := Lib.hid (four_take o k hlt)
      rcases ho : o k with ⟨x, y, z⟩
      rw [ho] at HT hk1
      have HK := Lib.hid hk1
      clear hk1 ho
      simp only [encT] at HK
      generalize sd k = s at *
      go_wp2_with fail
      have b0 := HV.out.2.alloc HV.out.2.size (.cells #[.int .i64 s.a, .int .i64 s.b, .int .i64 s.c] 50)
      refine (HK.out _ b0).mono ?_
      rintro e w1 ⟨rfl, hb⟩
      have hb1 : Below wr.heap.size wr w1 := below_up ((Below.refl _ _).alloc (Nat.le_refl _) _) hb
      have own1 := own_updK (F := fun _ => False) HV.out.1 (Upd.of_below hb1) (fun _ _ => id)
      have bb1 := below_up HV.out.2 hb1
      clear hb hb1 b0 ik
      have own2 := own_updK (F := fun _ => False) own1 (Upd.of_below (((Below.refl _ _).alloc (Nat.le_refl _) (.cells #[.int .i64 x, .int .i64 y, .int .i64 z] 50)).alloc (by simp) (.cells #[.int .i64 x, .int .i64 y, .int .i64 z] 50))) (fun _ _ => id)
      have bb2 := (bb1.alloc bb1.size (.cells #[.int .i64 x, .int .i64 y, .int .i64 z] 50)).alloc (by have := bb1.size; simp; omega) (.cells #[.int .i64 x, .int .i64 y, .int .i64 z] 50)
      obtain ⟨A1, c1, W2, run1, own3, gr1, at1⟩ := appT3_run ((w1.alloc (.cells #[.int .i64 x, .int .i64 y, .int .i64 z] 50)).alloc (.cells #[.int .i64 x, .int .i64 y, .int .i64 z] 50)) w.heap.size 57 u4 k ((four o).take k) own2 (w1.heap.size + 1) 1 ⟨x, y, z⟩ (new1 w1 _ _) (by omega) (by have := bb1.size; simp; omega)
      have bb3 : Below w.heap.size w W2 := bb2.grown gr1 (by have := bb2.size; omega) (fun b hb => (own2.lt b hb).1)
      have RR := Lib.hid run1
      have fin : Hid (W2.ownsRow w.heap.size 50 3 (.slice A1 (k + 1) c1) (k + 1) ((flat ((four o).take (k + 1))).map encI) ∧ Below w.heap.size w W2) := ⟨by rw [HT.out]; exact own3, bb3⟩
      clear own1 own2 bb1 bb2 run1 own3 gr1 at1 bb3
      go_wp2_with (first | (at_builtin; refine wpList_append_run (o := ⟨some 34, _, _, _, _, _⟩) rfl _ _ _ rfl rfl rfl RR.out ?_))
      go_roundw
      case rel => exact ⟨k + 1, by omega, by go_num, fin.out⟩
      case measure => simp [intOf]; omega
    · have hk4 : k = 4 := by omega
      subst hk4
      obtain ⟨g, cap, rfl, hbg, hgw, hnc, hcm, R⟩ := Row3.of_own HV.out.1 (by rfl) (by omega)
      have rd : RdT 0 wr (some ⟨g, 0, none⟩) (four o) := R.rd (Nat.zero_le _)
      have ts := triSort_any (some ⟨g, 0, none⟩) cap (four o) wr rd (by rw [four_len]; omega)
      rw [four_len] at ts
      have TS := Lib.hid ts
      have B1 := Lib.hid HV.out.2
      clear ts rd R HV
      go_wp2_with fail
      refine TS.out.mono ?_
      rintro e w2 ⟨A2, rfl, rd2, hb2⟩
      have fin := Lib.hid (And.intro rd2 hb2)
      clear rd2 hb2
      generalize hss : sset ((four o).map canon) = ss at *
      go_wp2
      go_ret2
      rw [hss]
      exact ⟨A2, rfl, fin.out.1.low B1.out.size, below_up B1.out fin.out.2⟩
end Go.Proofs.Ytojecaeblgghjaa
