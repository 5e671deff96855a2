/-
  CONTRACTS AT TRIPLES: Across, of the program and of the document's answer.
-/
import Derived.Test.YtojecaeblgghjaaTriG
import Derived.Deep.QuietTactic
import Derived.BigQuiet
set_option linter.unusedVariables false
set_option linter.unusedSimpArgs false
namespace Go.Proofs.Ytojecaeblgghjaa
open Go.RowKit Go.Sort LsP

/-- Are these two the edge's? -/
def isE (a b p q : Int) : Bool := (a == p && b == q) || (a == q && b == p)

/-- The number that is none of an edge's. -/
def across (a b c p q : Int) : Int × Bool :=
  if a = b ∨ b = c ∨ c = a ∨ p = q then (0, false)
  else if isE b c p q then (a, true) else if isE c a p q then (b, true) else if isE a b p q then (c, true) else (0, false)

set_option maxHeartbeats 40000000 in
set_option maxRecDepth 100000 in
theorem across_any (a b c p q : Int) (w : World) :
    Calls Try.prog 62 #[.agg #[.int .i64 a, .int .i64 b, .int .i64 c], .agg #[.int .i64 p, .int .i64 q]] w fun e w' =>
      e = .returned (.tuple #[.int .i64 (across a b c p q).1, .bool (across a b c p q).2]) ∧ Below w.heap.size w w' := by
  by_cases h1 : a = b
  · have hc : across a b c p q = (0, false) := by rw [across, if_pos (.inl h1)]
    rw [hc]; clear hc
    have e1 : (a == b) = true := by simp [h1]
    clear h1
    go_enter Try.func62, Try.ntmps62
    go_wp2
    go_ret2
    exact ⟨rfl, by (repeat (first | exact Below.refl _ _ | refine Below.alloc ?_ (by first | omega | (simp; done) | (simp; omega)) _ | refine Below.setCell ?_ (by first | omega | (simp; done) | (simp; omega)) _ | refine Below.drew ?_))⟩
  · have e1 : (a == b) = false := by simp [h1]
    by_cases h2 : b = c
    · have hc : across a b c p q = (0, false) := by rw [across, if_pos (.inr (.inl h2))]
      rw [hc]; clear hc
      have e2 : (b == c) = true := by simp [h2]
      clear h1 h2
      go_enter Try.func62, Try.ntmps62
      go_wp2
      go_ret2
      exact ⟨rfl, by (repeat (first | exact Below.refl _ _ | refine Below.alloc ?_ (by first | omega | (simp; done) | (simp; omega)) _ | refine Below.setCell ?_ (by first | omega | (simp; done) | (simp; omega)) _ | refine Below.drew ?_))⟩
    · have e2 : (b == c) = false := by simp [h2]
      by_cases h3 : c = a
      · have hc : across a b c p q = (0, false) := by rw [across, if_pos (.inr (.inr (.inl h3)))]
        rw [hc]; clear hc
        have e3 : (c == a) = true := by simp [h3]
        clear h1 h2 h3
        go_enter Try.func62, Try.ntmps62
        go_wp2
        go_ret2
        exact ⟨rfl, by (repeat (first | exact Below.refl _ _ | refine Below.alloc ?_ (by first | omega | (simp; done) | (simp; omega)) _ | refine Below.setCell ?_ (by first | omega | (simp; done) | (simp; omega)) _ | refine Below.drew ?_))⟩
      · have e3 : (c == a) = false := by simp [h3]
        by_cases h4 : p = q
        · have hc : across a b c p q = (0, false) := by rw [across, if_pos (.inr (.inr (.inr h4)))]
          rw [hc]; clear hc
          have e4 : (p == q) = true := by simp [h4]
          clear h1 h2 h3 h4
          go_enter Try.func62, Try.ntmps62
          go_wp2
          go_ret2
          exact ⟨rfl, by (repeat (first | exact Below.refl _ _ | refine Below.alloc ?_ (by first | omega | (simp; done) | (simp; omega)) _ | refine Below.setCell ?_ (by first | omega | (simp; done) | (simp; omega)) _ | refine Below.drew ?_))⟩
        · have e4 : (p == q) = false := by simp [h4]
          have hc : across a b c p q = if isE b c p q then (a, true) else if isE c a p q then (b, true) else if isE a b p q then (c, true) else (0, false) := by
            rw [across, if_neg (fun h => h.elim h1 fun h => h.elim h2 fun h => h.elim h3 h4)]
          have HC := Lib.hid hc
          clear hc h1 h2 h3 h4
          generalize hX : across a b c p q = X at *
          clear hX
          go_enter Try.func62, Try.ntmps62
          go_wp2
          clear e1 e2 e3 e4
          go_loopw [35] (fun i wr => ∃ k : Nat, k ≤ 3 ∧ i = .int .i64 k ∧ Hid ((0 < k → isE b c p q = false) ∧ (1 < k → isE c a p q = false) ∧ (2 < k → isE a b p q = false)) ∧ ∃ z, wr = ((w.alloc (.cells #[.int .i64 a, .int .i64 b, .int .i64 c] 50)).alloc (.cells #[.int .i64 p, .int .i64 q] 71)).drewN z) (fun i _ => 3 - (intOf i).toNat)
          case atStart => exact ⟨0, Nat.zero_le _, rfl, ⟨fun h => absurd h (by omega), fun h => absurd h (by omega), fun h => absurd h (by omega)⟩, 0, rfl⟩
          case round =>
            obtain ⟨k, hk, rfl, HK, z, rfl⟩ := hrel
            have fin : Hid (∀ z, Below w.heap.size w (((w.alloc (.cells #[.int .i64 a, .int .i64 b, .int .i64 c] 50)).alloc (.cells #[.int .i64 p, .int .i64 q] 71)).drewN z)) := fun z => below_drewN (by (repeat (first | exact Below.refl _ _ | refine Below.alloc ?_ (by first | omega | (simp; done) | (simp; omega)) _ | refine Below.setCell ?_ (by first | omega | (simp; done) | (simp; omega)) _ | refine Below.drew ?_))) z
            match k, hk with
            | 0, _ =>
              have HT : Hid (isE b c p q = true → X = (a, true)) := fun h => by rw [HC.out, if_pos h]
              have HF : Hid (isE b c p q = false → (0 < 1 → isE b c p q = false) ∧ (1 < 1 → isE c a p q = false) ∧ (2 < 1 → isE a b p q = false)) := fun hE => ⟨fun _ => hE, fun h => absurd h (by omega), fun h => absurd h (by omega)⟩
              by_cases h1 : b = p
              · have b1 : (b == p) = true := by simp [h1]
                clear h1
                by_cases h2 : c = q
                · have b2 : (c == q) = true := by simp [h2]
                  clear h2
                  have hE : isE b c p q = true := by simp [isE, b1, b2]
                  have hX' := HT.out hE
                  clear hE
                  go_wp2
                  go_quiet (fail)
                  go_wp2
                  go_ret2
                  exact ⟨by subst hX'; rfl, by first | exact fin.out _ | exact below_drewN (fin.out _) _ | exact below_drewN (below_drewN (fin.out _) _) _⟩
                · have b2 : (c == q) = false := by simp [h2]
                  clear h2
                  by_cases h3 : b = q
                  · have b3 : (b == q) = true := by simp [h3]
                    clear h3
                    by_cases h4 : c = p
                    · have b4 : (c == p) = true := by simp [h4]
                      clear h4
                      have hE : isE b c p q = true := by simp [isE, b1, b2, b3, b4]
                      have hX' := HT.out hE
                      clear hE
                      go_wp2
                      go_quiet (fail)
                      go_wp2
                      go_ret2
                      exact ⟨by subst hX'; rfl, by first | exact fin.out _ | exact below_drewN (fin.out _) _ | exact below_drewN (below_drewN (fin.out _) _) _⟩
                    · have b4 : (c == p) = false := by simp [h4]
                      clear h4
                      have hE : isE b c p q = false := by simp [isE, b1, b2, b3, b4]
                      have hF' := Lib.hid (HF.out hE)
                      clear hE
                      go_wp2
                      go_quiet (fail)
                      go_wp2
                      go_roundw
                      case rel => exact ⟨1, by omega, by go_num, hF'.out, by first | exact ⟨_, rfl⟩ | exact dr1 .. | exact dr2 ..⟩
                      case measure => simp [intOf]
                  · have b3 : (b == q) = false := by simp [h3]
                    clear h3
                    have hE : isE b c p q = false := by simp [isE, b1, b2, b3]
                    have hF' := Lib.hid (HF.out hE)
                    clear hE
                    go_wp2
                    go_quiet (fail)
                    go_wp2
                    go_roundw
                    case rel => exact ⟨1, by omega, by go_num, hF'.out, by first | exact ⟨_, rfl⟩ | exact dr1 .. | exact dr2 ..⟩
                    case measure => simp [intOf]
              · have b1 : (b == p) = false := by simp [h1]
                clear h1
                by_cases h3 : b = q
                · have b3 : (b == q) = true := by simp [h3]
                  clear h3
                  by_cases h4 : c = p
                  · have b4 : (c == p) = true := by simp [h4]
                    clear h4
                    have hE : isE b c p q = true := by simp [isE, b1, b3, b4]
                    have hX' := HT.out hE
                    clear hE
                    go_wp2
                    go_quiet (fail)
                    go_wp2
                    go_ret2
                    exact ⟨by subst hX'; rfl, by first | exact fin.out _ | exact below_drewN (fin.out _) _ | exact below_drewN (below_drewN (fin.out _) _) _⟩
                  · have b4 : (c == p) = false := by simp [h4]
                    clear h4
                    have hE : isE b c p q = false := by simp [isE, b1, b3, b4]
                    have hF' := Lib.hid (HF.out hE)
                    clear hE
                    go_wp2
                    go_quiet (fail)
                    go_wp2
                    go_roundw
                    case rel => exact ⟨1, by omega, by go_num, hF'.out, by first | exact ⟨_, rfl⟩ | exact dr1 .. | exact dr2 ..⟩
                    case measure => simp [intOf]
                · have b3 : (b == q) = false := by simp [h3]
                  clear h3
                  have hE : isE b c p q = false := by simp [isE, b1, b3]
                  have hF' := Lib.hid (HF.out hE)
                  clear hE
                  go_wp2
                  go_quiet (fail)
                  go_wp2
                  go_roundw
                  case rel => exact ⟨1, by omega, by go_num, hF'.out, by first | exact ⟨_, rfl⟩ | exact dr1 .. | exact dr2 ..⟩
                  case measure => simp [intOf]
            | 1, _ =>
              have HT : Hid (isE c a p q = true → X = (b, true)) := fun h => by rw [HC.out, if_neg (by rw [HK.out.1 (by omega)]; decide), if_pos h]
              have HF : Hid (isE c a p q = false → (0 < 2 → isE b c p q = false) ∧ (1 < 2 → isE c a p q = false) ∧ (2 < 2 → isE a b p q = false)) := fun hE => ⟨fun _ => HK.out.1 (by omega), fun _ => hE, fun h => absurd h (by omega)⟩
              by_cases h1 : c = p
              · have b1 : (c == p) = true := by simp [h1]
                clear h1
                by_cases h2 : a = q
                · have b2 : (a == q) = true := by simp [h2]
                  clear h2
                  have hE : isE c a p q = true := by simp [isE, b1, b2]
                  have hX' := HT.out hE
                  clear hE
                  go_wp2
                  go_quiet (fail)
                  go_wp2
                  go_ret2
                  exact ⟨by subst hX'; rfl, by first | exact fin.out _ | exact below_drewN (fin.out _) _ | exact below_drewN (below_drewN (fin.out _) _) _⟩
                · have b2 : (a == q) = false := by simp [h2]
                  clear h2
                  by_cases h3 : c = q
                  · have b3 : (c == q) = true := by simp [h3]
                    clear h3
                    by_cases h4 : a = p
                    · have b4 : (a == p) = true := by simp [h4]
                      clear h4
                      have hE : isE c a p q = true := by simp [isE, b1, b2, b3, b4]
                      have hX' := HT.out hE
                      clear hE
                      go_wp2
                      go_quiet (fail)
                      go_wp2
                      go_ret2
                      exact ⟨by subst hX'; rfl, by first | exact fin.out _ | exact below_drewN (fin.out _) _ | exact below_drewN (below_drewN (fin.out _) _) _⟩
                    · have b4 : (a == p) = false := by simp [h4]
                      clear h4
                      have hE : isE c a p q = false := by simp [isE, b1, b2, b3, b4]
                      have hF' := Lib.hid (HF.out hE)
                      clear hE
                      go_wp2
                      go_quiet (fail)
                      go_wp2
                      go_roundw
                      case rel => exact ⟨2, by omega, by go_num, hF'.out, by first | exact ⟨_, rfl⟩ | exact dr1 .. | exact dr2 ..⟩
                      case measure => simp [intOf]
                  · have b3 : (c == q) = false := by simp [h3]
                    clear h3
                    have hE : isE c a p q = false := by simp [isE, b1, b2, b3]
                    have hF' := Lib.hid (HF.out hE)
                    clear hE
                    go_wp2
                    go_quiet (fail)
                    go_wp2
                    go_roundw
                    case rel => exact ⟨2, by omega, by go_num, hF'.out, by first | exact ⟨_, rfl⟩ | exact dr1 .. | exact dr2 ..⟩
                    case measure => simp [intOf]
              · have b1 : (c == p) = false := by simp [h1]
                clear h1
                by_cases h3 : c = q
                · have b3 : (c == q) = true := by simp [h3]
                  clear h3
                  by_cases h4 : a = p
                  · have b4 : (a == p) = true := by simp [h4]
                    clear h4
                    have hE : isE c a p q = true := by simp [isE, b1, b3, b4]
                    have hX' := HT.out hE
                    clear hE
                    go_wp2
                    go_quiet (fail)
                    go_wp2
                    go_ret2
                    exact ⟨by subst hX'; rfl, by first | exact fin.out _ | exact below_drewN (fin.out _) _ | exact below_drewN (below_drewN (fin.out _) _) _⟩
                  · have b4 : (a == p) = false := by simp [h4]
                    clear h4
                    have hE : isE c a p q = false := by simp [isE, b1, b3, b4]
                    have hF' := Lib.hid (HF.out hE)
                    clear hE
                    go_wp2
                    go_quiet (fail)
                    go_wp2
                    go_roundw
                    case rel => exact ⟨2, by omega, by go_num, hF'.out, by first | exact ⟨_, rfl⟩ | exact dr1 .. | exact dr2 ..⟩
                    case measure => simp [intOf]
                · have b3 : (c == q) = false := by simp [h3]
                  clear h3
                  have hE : isE c a p q = false := by simp [isE, b1, b3]
                  have hF' := Lib.hid (HF.out hE)
                  clear hE
                  go_wp2
                  go_quiet (fail)
                  go_wp2
                  go_roundw
                  case rel => exact ⟨2, by omega, by go_num, hF'.out, by first | exact ⟨_, rfl⟩ | exact dr1 .. | exact dr2 ..⟩
                  case measure => simp [intOf]
            | 2, _ =>
              have HT : Hid (isE a b p q = true → X = (c, true)) := fun h => by rw [HC.out, if_neg (by rw [HK.out.1 (by omega)]; decide), if_neg (by rw [HK.out.2.1 (by omega)]; decide), if_pos h]
              have HF : Hid (isE a b p q = false → (0 < 3 → isE b c p q = false) ∧ (1 < 3 → isE c a p q = false) ∧ (2 < 3 → isE a b p q = false)) := fun hE => ⟨fun _ => HK.out.1 (by omega), fun _ => HK.out.2.1 (by omega), fun _ => hE⟩
              by_cases h1 : a = p
              · have b1 : (a == p) = true := by simp [h1]
                clear h1
                by_cases h2 : b = q
                · have b2 : (b == q) = true := by simp [h2]
                  clear h2
                  have hE : isE a b p q = true := by simp [isE, b1, b2]
                  have hX' := HT.out hE
                  clear hE
                  go_wp2
                  go_quiet (fail)
                  go_wp2
                  go_ret2
                  exact ⟨by subst hX'; rfl, by first | exact fin.out _ | exact below_drewN (fin.out _) _ | exact below_drewN (below_drewN (fin.out _) _) _⟩
                · have b2 : (b == q) = false := by simp [h2]
                  clear h2
                  by_cases h3 : a = q
                  · have b3 : (a == q) = true := by simp [h3]
                    clear h3
                    by_cases h4 : b = p
                    · have b4 : (b == p) = true := by simp [h4]
                      clear h4
                      have hE : isE a b p q = true := by simp [isE, b1, b2, b3, b4]
                      have hX' := HT.out hE
                      clear hE
                      go_wp2
                      go_quiet (fail)
                      go_wp2
                      go_ret2
                      exact ⟨by subst hX'; rfl, by first | exact fin.out _ | exact below_drewN (fin.out _) _ | exact below_drewN (below_drewN (fin.out _) _) _⟩
                    · have b4 : (b == p) = false := by simp [h4]
                      clear h4
                      have hE : isE a b p q = false := by simp [isE, b1, b2, b3, b4]
                      have hF' := Lib.hid (HF.out hE)
                      clear hE
                      go_wp2
                      go_quiet (fail)
                      go_wp2
                      go_roundw
                      case rel => exact ⟨3, by omega, by go_num, hF'.out, by first | exact ⟨_, rfl⟩ | exact dr1 .. | exact dr2 ..⟩
                      case measure => simp [intOf]
                  · have b3 : (a == q) = false := by simp [h3]
                    clear h3
                    have hE : isE a b p q = false := by simp [isE, b1, b2, b3]
                    have hF' := Lib.hid (HF.out hE)
                    clear hE
                    go_wp2
                    go_quiet (fail)
                    go_wp2
                    go_roundw
                    case rel => exact ⟨3, by omega, by go_num, hF'.out, by first | exact ⟨_, rfl⟩ | exact dr1 .. | exact dr2 ..⟩
                    case measure => simp [intOf]
              · have b1 : (a == p) = false := by simp [h1]
                clear h1
                by_cases h3 : a = q
                · have b3 : (a == q) = true := by simp [h3]
                  clear h3
                  by_cases h4 : b = p
                  · have b4 : (b == p) = true := by simp [h4]
                    clear h4
                    have hE : isE a b p q = true := by simp [isE, b1, b3, b4]
                    have hX' := HT.out hE
                    clear hE
                    go_wp2
                    go_quiet (fail)
                    go_wp2
                    go_ret2
                    exact ⟨by subst hX'; rfl, by first | exact fin.out _ | exact below_drewN (fin.out _) _ | exact below_drewN (below_drewN (fin.out _) _) _⟩
                  · have b4 : (b == p) = false := by simp [h4]
                    clear h4
                    have hE : isE a b p q = false := by simp [isE, b1, b3, b4]
                    have hF' := Lib.hid (HF.out hE)
                    clear hE
                    go_wp2
                    go_quiet (fail)
                    go_wp2
                    go_roundw
                    case rel => exact ⟨3, by omega, by go_num, hF'.out, by first | exact ⟨_, rfl⟩ | exact dr1 .. | exact dr2 ..⟩
                    case measure => simp [intOf]
                · have b3 : (a == q) = false := by simp [h3]
                  clear h3
                  have hE : isE a b p q = false := by simp [isE, b1, b3]
                  have hF' := Lib.hid (HF.out hE)
                  clear hE
                  go_wp2
                  go_quiet (fail)
                  go_wp2
                  go_roundw
                  case rel => exact ⟨3, by omega, by go_num, hF'.out, by first | exact ⟨_, rfl⟩ | exact dr1 .. | exact dr2 ..⟩
                  case measure => simp [intOf]
            | 3, _ =>
              have hX' : X = (0, false) := by rw [HC.out, if_neg (by rw [HK.out.1 (by omega)]; decide), if_neg (by rw [HK.out.2.1 (by omega)]; decide), if_neg (by rw [HK.out.2.2 (by omega)]; decide)]
              go_wp2
              go_ret2
              exact ⟨by subst hX'; rfl, fin.out _⟩
end Go.Proofs.Ytojecaeblgghjaa
