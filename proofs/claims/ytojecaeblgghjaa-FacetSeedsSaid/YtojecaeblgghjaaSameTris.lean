/-
  CONTRACTS AT TRIPLES of the document's answer: SameTris of two that read alike; append of several triples.
-/
import Derived.Test.YtojecaeblgghjaaRefLess
import Derived.Deep.QuietTactic
import Derived.BigQuiet
set_option linter.unusedVariables false
set_option linter.unusedSimpArgs false
namespace Go.Proofs.Ytojecaeblgghjaa
open Go.RowKit Go.Sort LsP

set_option maxHeartbeats 4000000 in
set_option maxRecDepth 100000 in
theorem sameTris_any (A B : Option Addr) (c d : Nat) (xs : List T3) (w : World) (ha : RdT 0 w A xs) (hb : RdT 0 w B xs) (hn : xs.length ≤ 1000000) :
    Calls Try.prog 52 #[.slice A xs.length c, .slice B xs.length d] w fun e w' => e = .returned (.bool true) ∧ ∃ q, w' = w.drewN q := by
  generalize hN : xs.length = n at hn ⊢
  have HN := Lib.hid hN
  have HA := Lib.hid ha
  have HB := Lib.hid hb
  clear hN ha hb
  go_enter Try.func52, Try.ntmps52
  go_wp2_with fail
  go_loopw [5] (fun i wr => ∃ k q : Nat, k ≤ n ∧ i = .int .i64 k ∧ wr = w.drewN q) (fun i => fun _ => n - (intOf i).toNat)
  case atStart => exact ⟨0, 0, Nat.zero_le _, rfl, rfl⟩
  case round =>
    obtain ⟨k, q, hk, rfl, hwr⟩ := hrel
    by_cases hlt : k < n
    · have WR := Lib.hid hwr
      have hA2 : RdT 0 wr A xs := by rw [hwr]; exact HA.out.drewN q
      have hB2 : RdT 0 wr B xs := by rw [hwr]; exact HB.out.drewN q
      obtain ⟨b, off, rfl, hbw, a0, a1, a2⟩ := RdT.at3 hA2 (k := k) (by rw [HN.out]; exact hlt)
      obtain ⟨b', off', rfl, hbw', b0, b1, b2⟩ := RdT.at3 hB2 (k := k) (by rw [HN.out]; exact hlt)
      generalize xs[k]! = t at *
      have hq := neT_run t t
      simp only [encT, decide_true, Bool.not_true] at hq
      clear hwr hA2 hB2 hbw hbw'
      go_wp2_with fail
      go_quiet (fail)
      go_wp2
      go_roundw
      case rel => exact ⟨k + 1, q + nq, by omega, by go_num, by rw [WR.out, World.drewN_drewN]⟩
      case measure => simp [intOf]; omega
    · have hkn : k = n := by omega
      subst hkn
      have WR := Lib.hid hwr
      clear hwr
      go_wp2
      go_ret
      exact ⟨rfl, q, WR.out⟩

/-- 'append(v, s...)' of triples. -/
theorem appTs_run (w : World) (base ty : Nat) (v : Value) (n : Nat) (xs : List T3) (hown : w.ownsRow base 50 3 v n ((flat xs).map encI))
    (lo : Nat) (A : Option Addr) (c : Nat) (ys : List T3) (hr : RdT lo w A ys) (h63 : n + ys.length ≤ 1000000) (hbase : base ≤ w.heap.size) :
    ∃ A' c' w', (Builtin.append_ #[57, 57] ty #[v, .slice A ys.length c]).run Try.prog w = .ok (.slice A' (n + ys.length) c') w' ∧ w'.ownsRow base 50 3 (.slice A' (n + ys.length) c') (n + ys.length) ((flat (xs ++ ys)).map encI) ∧
      w.grownBy w' v.ownBlock ∧ (∀ b o, A' = some ⟨b, o, none⟩ → v.ownBlock = some b ∨ b = w.heap.size) := by
  obtain ⟨i0, hi0, hz0, hz1, hz2⟩ := info_parts info_tri
  have fin : ∀ (v' : Value) (w' : World), (Builtin.append_ #[57, 57] ty #[v, .slice A ys.length c]).run Try.prog w = .ok v' w' → w'.ownsRow base 50 3 v' (n + ys.length) ((flat (xs ++ ys)).map encI) → w.grownBy w' v.ownBlock → (v'.ownBlock = v.ownBlock ∨ v'.ownBlock = some w.heap.size) →
      ∃ A' c' w', (Builtin.append_ #[57, 57] ty #[v, .slice A ys.length c]).run Try.prog w = .ok (.slice A' (n + ys.length) c') w' ∧ w'.ownsRow base 50 3 (.slice A' (n + ys.length) c') (n + ys.length) ((flat (xs ++ ys)).map encI) ∧
      w.grownBy w' v.ownBlock ∧ (∀ b o, A' = some ⟨b, o, none⟩ → v.ownBlock = some b ∨ b = w.heap.size) := by
    intro v' w' hrun h2 h3 h4
    obtain ⟨A', c', rfl, _⟩ := own_value h2
    refine ⟨A', c', w', hrun, h2, h3, fun b o e => ?_⟩
    subst e
    rcases h4 with h | h
    · exact .inl (by rw [← h]; rfl)
    · exact .inr (by simpa [Value.ownBlock] using h)
  rcases Nat.eq_zero_or_pos ys.length with h0 | h0
  · have hn : ys = [] := List.eq_nil_of_length_eq_zero h0
    subst hn
    rcases A with _ | ad
    · have hrun := run_append_of_nil (P := Try.prog) w base 57 ty 50 i0 3 Try.underlying57 hi0 v n _ hown c
      exact fin v w (by simpa using hrun) (by simpa using hown) (World.grownBy.refl w _) (.inl rfl)
    · obtain ⟨v', w', hrun, h2, h3, _, h5⟩ := run_append_own_at (P := Try.prog) w base 57 ty 50 i0 _ 3 24 Try.underlying57 hi0 hz0 hz1 hz2 rfl (by omega) v n _ hown ad 0 c [] rfl (fun j u hu => by simp at hu) (fun u hu => by simp at hu) (by unfold maxLen; omega) (by omega) hbase
      exact fin v' w' hrun (by simpa using h2) h3 h5
  · have hl := flat_len ys
    obtain ⟨b, off, rfl, _, _, hc⟩ := hr (by omega)
    obtain ⟨v', w', hrun, h2, h3, _, h5⟩ := run_append_own_at (P := Try.prog) w base 57 ty 50 i0 _ 3 24 Try.underlying57 hi0 hz0 hz1 hz2 rfl (by omega) v n _ hown ⟨b, off, none⟩ ys.length c ((flat ys).map encI) (by rw [List.length_map, hl, Nat.mul_comm])
      (fun j u hu => by
        have hj : j < (flat ys).length := by
          have := (List.getElem?_eq_some_iff.1 hu).1
          simpa using this
        have : (⟨b, off, none⟩ : Addr).add j = ⟨b, off + j, none⟩ := by unfold Addr.add; split <;> simp_all
        rw [this, hc j hj]
        rw [List.getElem?_map, List.getElem?_eq_getElem hj] at hu
        rw [← hu, getElem!_pos _ j hj]
        rfl)
      (fun u hu => by obtain ⟨x, _, rfl⟩ := List.mem_map.1 hu; rfl) (by unfold maxLen; omega) (by omega) hbase
    exact fin v' w' hrun (by rw [flat_append, List.map_append]; exact h2) h3 h5
end Go.Proofs.Ytojecaeblgghjaa
