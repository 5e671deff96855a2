/-
  THE LAW's OWN same: two lists of texts. And the plain laws of texts' sets that OrderTexts asks.
-/
import Derived.Test.YtojecaeblgghjaaTBoth
import Derived.Test.YtojecaeblgghjaaTMerge
set_option linter.unusedVariables false
set_option linter.unusedSimpArgs false
namespace Go.Proofs.Ytojecaeblgghjaa
open Go.RowKit Go.Sort LsP

set_option maxHeartbeats 1000000 in
set_option maxRecDepth 100000 in
theorem sameT_any (A B : Option Addr) (c d : Nat) (xs ys : List (List UInt8)) (w : World) (la lb : Nat) (ha : Rd encStr la w A xs) (hb : Rd encStr lb w B ys) (hn : xs.length ≤ 1000000) (hm : ys.length ≤ 1000000) :
    Calls Try.prog 42 #[.slice A xs.length c, .slice B ys.length d] w fun e w' => e = .returned (.bool (decide (xs = ys))) ∧ ∃ q, w' = w.drewN q := by
  by_cases hl : xs.length = ys.length
  · have hne : ∀ k, k < xs.length → xs[k]! ≠ ys[k]! → decide (xs = ys) = false := fun k _ h => by
      simp only [decide_eq_false_iff_not]
      intro e; rw [e] at h; exact h rfl
    have heq : (∀ j, j < xs.length → xs[j]! = ys[j]!) → decide (xs = ys) = true := fun h => by
      simp only [decide_eq_true_eq]
      refine List.ext_getElem hl fun j h1 h2 => ?_
      have := h j h1
      rwa [getElem!_pos xs j h1, getElem!_pos ys j h2] at this
    rw [← hl]
    have HL2 := Lib.hid hl.symm
    clear hl
    generalize decide (xs = ys) = r at *
    have HNE := Lib.hid hne; have HEQ := Lib.hid heq
    clear hne heq
    generalize hN : xs.length = n at *
    have HL := Lib.hid hN
    clear hN
    go_enter Try.func42, Try.ntmps42
    go_wp2
    go_loopw [5] (fun i wr => ∃ k : Nat, k ≤ n ∧ i = .int .i64 k ∧ Hid (∀ j, j < k → xs[j]! = ys[j]!) ∧ ∃ q, wr = w.drewN q) (fun i _ => n - (intOf i).toNat)
    case atStart => exact ⟨0, Nat.zero_le _, rfl, fun j hj => absurd hj (by omega), 0, rfl⟩
    case round =>
      obtain ⟨k, hk, rfl, HR, q, rfl⟩ := hrel
      by_cases hlt : k < n
      · obtain ⟨b, off, rfl, hbw, hcell⟩ := ha.at_ (k := k) (by rw [HL.out]; exact hlt)
        obtain ⟨b2, off2, rfl, hbw2, hcell2⟩ := hb.at_ (k := k) (by rw [HL2.out]; exact hlt)
        have hs : Hid (xs[k]! = ys[k]! → ∀ j, j < k + 1 → xs[j]! = ys[j]!) := fun h j hj => by
          by_cases e : j = k
          · rw [e]; exact h
          · exact HR.out j (by omega)
        have hf := Lib.hid (HNE.out k hlt)
        generalize xs[k]! = x at *
        generalize ys[k]! = y at *
        by_cases c1 : x = y
        · have hs' := Lib.hid (hs.out c1)
          subst c1
          have he : (x == x) = true := by simp
          go_wp2
          go_quiet (fail)
          go_wp2
          go_roundw
          case rel => exact ⟨k + 1, by omega, by go_num, hs', by first | exact ⟨_, rfl⟩ | exact dr1 ..⟩
          case measure => simp [intOf]; omega
        · have hf' := Lib.hid (hf.out c1)
          have he : (x == y) = false := by simp [c1]
          have he2 : (x != y) = true := by simp [c1]
          go_wp2
          go_quiet (fail)
          go_wp2
          go_ret
          exact ⟨ret_bool hf'.out.symm, by first | exact ⟨_, rfl⟩ | exact dr1 ..⟩
      · obtain rfl : k = n := by omega
        have HR' := Lib.hid (HEQ.out HR.out)
        go_wp2
        go_ret
        exact ⟨ret_bool HR'.out.symm, _, rfl⟩
  · have hr : decide (xs = ys) = false := by simp only [decide_eq_false_iff_not]; intro e; rw [e] at hl; exact hl rfl
    rw [hr]
    have g : ((xs.length : Int) == (ys.length : Int)) = false := by simp; omega
    have g2 : ((xs.length : Int) != (ys.length : Int)) = true := by simp; omega
    clear hr
    go_enter Try.func42, Try.ntmps42
    go_wp2
    go_ret
    exact ⟨rfl, 0, rfl⟩

section
variable {α : Type} [Inhabited α] [LE α] [LT α] [Std.IsLinearOrder α] [Std.LawfulOrderLT α] [DecidableEq α] [DecidableLE α] [DecidableLT α]
def bothL (a b : List α) : List α := (sset a).filter fun x => decide (x ∈ sset b)
def lessL (a b : List α) : List α := (sset a).filter fun x => !decide (x ∈ sset b)
theorem mem_bothL {a b : List α} {x : α} : x ∈ bothL a b ↔ x ∈ a ∧ x ∈ b := by
  simp [bothL, mem_sset]
theorem mem_lessL {a b : List α} {x : α} : x ∈ lessL a b ↔ x ∈ a ∧ x ∉ b := by
  simp [lessL, mem_sset]
theorem rise_bothL (a b : List α) : (bothL a b).Pairwise (· < ·) := (sset_rise a).filter _
theorem rise_lessL (a b : List α) : (lessL a b).Pairwise (· < ·) := (sset_rise a).filter _
theorem bothL_comm (a b : List α) : bothL b a = bothL a b := rise_eq (rise_bothL ..) (rise_bothL ..) fun x => by rw [mem_bothL, mem_bothL, and_comm]
theorem merge_comm (a b : List α) : sset (b ++ a) = sset (a ++ b) := sset_eq ((sset_is (a ++ b)).congr fun x => by simp [or_comm])
theorem merge_less (a b : List α) : sset (lessL a b ++ b) = sset (a ++ b) := rise_eq (sset_rise _) (sset_rise _) fun x => by
  rw [mem_sset, mem_sset, List.mem_append, List.mem_append, mem_lessL]
  by_cases h : x ∈ b <;> simp [h]
theorem less_less (a b : List α) : lessL a (lessL a b) = bothL a b := rise_eq (rise_lessL ..) (rise_bothL ..) fun x => by
  rw [mem_lessL, mem_lessL, mem_bothL]
  by_cases h : x ∈ a <;> by_cases h' : x ∈ b <;> simp [h, h']
theorem merge_parts (a b : List α) : sset (bothL a b ++ lessL a b) = sset a := rise_eq (sset_rise _) (sset_rise _) fun x => by
  rw [mem_sset, mem_sset, List.mem_append, mem_bothL, mem_lessL]
  by_cases h : x ∈ a <;> by_cases h' : x ∈ b <;> simp [h, h']
theorem len_bothL (a b : List α) : (bothL a b).length ≤ a.length := Nat.le_trans (List.length_filter_le ..) (sset_len a)
theorem len_lessL (a b : List α) : (lessL a b).length ≤ a.length := Nat.le_trans (List.length_filter_le ..) (sset_len a)
end

end Go.Proofs.Ytojecaeblgghjaa
