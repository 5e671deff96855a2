/-
  FacetPairs: the walk.
-/
import Derived.Test.YtojecaeblgghjaaRefSeed
import Derived.Test.YtojecaeblgghjaaSeedsWalk
import Derived.Test.YtojecaeblgghjaaClosedW
set_option linter.unusedVariables false
set_option linter.unusedSimpArgs false
namespace Go.Proofs.Ytojecaeblgghjaa
open Go.RowKit Go.Sort LsP

theorem sset_four (o : Nat → T3) (a b c d : T3) (h0 : canon (o 0) = a) (h1 : canon (o 1) = b) (h2 : canon (o 2) = c) (h3 : canon (o 3) = d) (p q r s : T3) (hp : [p, q, r, s].Pairwise (· < ·)) (hm : ∀ x, x ∈ [p, q, r, s] ↔ x ∈ [a, b, c, d]) :
    sset ((four o).map canon) = [p, q, r, s] := by
  refine sset_eq ⟨hp, fun x => ?_⟩
  rw [hm]
  have : (four o).map canon = [a, b, c, d] := by
    show [canon (o 0), canon (o 1), canon (o 2), canon (o 3)] = _
    rw [h0, h1, h2, h3]
  rw [this]

def unitA : List T3 := [⟨0, 1, 3⟩, ⟨0, 2, 1⟩, ⟨0, 3, 2⟩, ⟨1, 2, 3⟩]
def unitB : List T3 := [⟨0, 1, 2⟩, ⟨0, 2, 3⟩, ⟨0, 3, 1⟩, ⟨1, 3, 2⟩]

theorem sd_list {xs : List T3} {n : Nat} (hn : 4 ≤ n) (hf : ∀ x ∈ ([0, 1, 2, 3] : List Int), fitT xs[x.toNat]! = true) : sset ((four (sdO xs n)).map canon) = unitA ∨ sset ((four (sdO xs n)).map canon) = unitB := by
  have sg : ∀ (k : Nat) (hk : k < 4) (F : Nat) (g : Int), free3 (sd k).a (sd k).b (sd k).c = F → bubR [(sd k).a, (sd k).b, (sd k).c, (F : Int)] 3 = ([0, 1, 2, 3], g) →
      sdO xs n k = if g * signV (ptsOf xs [0, 1, 2, 3]) < 0 then canon ⟨(sd k).a, (sd k).c, (sd k).b⟩ else canon ⟨(sd k).a, (sd k).b, (sd k).c⟩ := by
    intro k hk F g hF hb
    obtain ⟨F', e, hG, hm⟩ := seed_good hn k hk
    have hFF : F' = F := e.symm.trans hF
    subst hFF
    have h := signR_fit (xs := xs) (n := n) (L := [(sd k).a, (sd k).b, (sd k).c, (F' : Int)]) rfl hG hb hf
    unfold sdO outR
    rw [if_neg (by omega), e, h]
    simp only [ne_eq, not_true_eq_false, if_false]
    split <;> rfl
  have s0 := sg 0 (by omega) 0 (-1) (by decide) (by decide)
  have s1 := sg 1 (by omega) 1 1 (by decide) (by decide)
  have s2 := sg 2 (by omega) 2 (-1) (by decide) (by decide)
  have s3 := sg 3 (by omega) 3 1 (by decide) (by decide)
  clear sg
  generalize sdO xs n = o at *
  have hs := signV_two (ptsOf xs [0, 1, 2, 3])
  generalize signV (ptsOf xs [0, 1, 2, 3]) = s at *
  rcases hs with rfl | rfl
  · right
    rw [if_pos (by decide)] at s0 s2
    rw [if_neg (by decide)] at s1 s3
    refine sset_four o ⟨1, 3, 2⟩ ⟨0, 2, 3⟩ ⟨0, 3, 1⟩ ⟨0, 1, 2⟩ (by rw [s0]; decide) (by rw [s1]; decide) (by rw [s2]; decide) (by rw [s3]; decide) _ _ _ _ (by decide) (fun x => ?_)
    simp only [List.mem_cons, List.not_mem_nil, or_false]
    constructor <;> (rintro (h | h | h | h) <;> simp [h])
  · left
    rw [if_neg (by decide)] at s0 s2
    rw [if_pos (by decide)] at s1 s3
    refine sset_four o ⟨1, 2, 3⟩ ⟨0, 3, 2⟩ ⟨0, 1, 3⟩ ⟨0, 2, 1⟩ (by rw [s0]; decide) (by rw [s1]; decide) (by rw [s2]; decide) (by rw [s3]; decide) _ _ _ _ (by decide) (fun x => ?_)
    simp only [List.mem_cons, List.not_mem_nil, or_false]
    constructor <;> (rintro (h | h | h | h) <;> simp [h])

theorem unitA_closed : ∀ i, i < 3 * 4 → cN (pairs unitA) i (3 * 4) = 1 ∧ cM (pairs unitA) i (3 * 4) = 1 := by decide
theorem unitB_closed : ∀ i, i < 3 * 4 → cN (pairs unitB) i (3 * 4) = 1 ∧ cM (pairs unitB) i (3 * 4) = 1 := by decide

set_option maxHeartbeats 4000000 in
set_option maxRecDepth 100000 in
theorem pairs_walk (A : Option Addr) (n c : Nat) (xs : List T3) (w : World) (ha : RdT 0 w A xs) (hn : xs.length = n) (hn2 : n ≤ 9223372036854775807) :
    Calls Try.prog 12 #[.slice A n c] w fun e w' => e = .returned (.bool true) ∧ Below w.heap.size w w' := by
  by_cases hgood : 4 ≤ n ∧ ∀ x ∈ ([0, 1, 2, 3] : List Int), fitT xs[x.toNat]! = true
  · have k1 := Lib.hid (seed_both A n c xs w ha hn hn2 hgood.1 hgood.2).1
    have hl := sd_list (xs := xs) (n := n) hgood.1 hgood.2
    have hcl : Hid ((sset ((four (sdO xs n)).map canon)).length = 4 ∧ ∀ (A' : Option Addr) (W : World), RdT 0 W A' (sset ((four (sdO xs n)).map canon)) → Calls Try.prog 55 #[.slice A' 4 4] W fun e w' => e = .returned (.bool true) ∧ Below W.heap.size W w') := Lib.hid (by
      rcases hl with e | e
      · rw [e]; exact ⟨rfl, fun A' W h => closed_any A' 4 4 unitA W h rfl (by omega) unitA_closed⟩
      · rw [e]; exact ⟨rfl, fun A' W h => closed_any A' 4 4 unitB W h rfl (by omega) unitB_closed⟩)
    clear hgood ha hn hl
    generalize sset ((four (sdO xs n)).map canon) = L at *
    rw [hcl.out.1] at k1
    by_cases h100 : n > 100
    · have e1 : decide ((n : Int) > 100) = true := by simp; omega
      clear h100
      go_enter Try.func12, Try.ntmps12
      go_wp2_with fail
      refine k1.out.mono ?_
      rintro e w1 ⟨A1, rfl, rd1, hb⟩
      have HB := Lib.hid hb
      clear hb k1 rd1
      go_wp2_with fail
      refine (awake5_any _).mono ?_
      rintro e w' ⟨rfl, hb⟩
      replace HB := Lib.hid (below_up HB.out hb)
      clear hb
      go_wp2
      go_ret
      exact ⟨rfl, HB.out⟩
    · have e1 : decide ((n : Int) > 100) = false := by simp; omega
      clear h100
      go_enter Try.func12, Try.ntmps12
      go_wp2_with fail
      refine k1.out.mono ?_
      rintro e w1 ⟨A1, rfl, rd1, hb⟩
      have HB := Lib.hid hb
      have kc := Lib.hid (hcl.out.2 A1 w1 (rd1.low (Nat.zero_le _)))
      clear hb k1 rd1
      go_wp2_with fail
      refine kc.out.mono ?_
      rintro e w2 ⟨rfl, hb⟩
      replace HB := Lib.hid (below_up HB.out hb)
      clear hb kc
      go_wp2_with fail
      refine (awake5_any _).mono ?_
      rintro e w' ⟨rfl, hb⟩
      replace HB := Lib.hid (below_up HB.out hb)
      clear hb
      go_wp2
      go_ret
      exact ⟨rfl, HB.out⟩
  · obtain ⟨er, her, ho⟩ : ∃ er : Int, er ≠ 0 ∧ outR xs n 1 2 3 = (⟨0, 0, 0⟩, er) := by
      by_cases h4 : n < 4
      · exact ⟨21, by decide, seed_few h4 1 2 3⟩
      · exact ⟨20, by decide, seed_unfit (by omega) (fun h => hgood ⟨by omega, h⟩) 0 (by omega)⟩
    have k1 := Lib.hid (seed_err A n c xs w ha hn hn2 er her ho).1
    have e2 : (er != 0) = true := by simpa using her
    clear hgood ha hn her ho
    by_cases h100 : n > 100
    · have e1 : decide ((n : Int) > 100) = true := by simp; omega
      clear h100
      go_enter Try.func12, Try.ntmps12
      go_wp2_with fail
      refine k1.out.mono ?_
      rintro e w1 ⟨rfl, hb⟩
      have HB := Lib.hid hb
      clear hb k1
      go_wp2_with fail
      refine (awake5_any _).mono ?_
      rintro e w' ⟨rfl, hb⟩
      replace HB := Lib.hid (below_up HB.out hb)
      clear hb
      go_wp2
      go_ret
      exact ⟨rfl, HB.out⟩
    · have e1 : decide ((n : Int) > 100) = false := by simp; omega
      clear h100
      go_enter Try.func12, Try.ntmps12
      go_wp2_with fail
      refine k1.out.mono ?_
      rintro e w1 ⟨rfl, hb⟩
      have HB := Lib.hid hb
      clear hb k1
      go_wp2_with fail
      refine (awake5_any _).mono ?_
      rintro e w' ⟨rfl, hb⟩
      replace HB := Lib.hid (below_up HB.out hb)
      clear hb
      go_wp2
      go_ret
      exact ⟨rfl, HB.out⟩
end Go.Proofs.Ytojecaeblgghjaa
