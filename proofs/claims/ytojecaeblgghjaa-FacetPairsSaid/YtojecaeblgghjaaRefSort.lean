/-
  carapaceref5.Sort: the triples' set. (Printed by mkrefsort.py.)
-/
import Derived.Test.YtojecaeblgghjaaSameTris
import Derived.Deep.RegionHeld3
set_option linter.unusedVariables false
set_option linter.unusedSimpArgs false
namespace Go.Proofs.Ytojecaeblgghjaa
open Go.RowKit Go.Sort LsP

theorem flat_take (xs : List T3) (k : Nat) : flat (xs.take k) = (flat xs).take (3 * k) := by
  induction xs generalizing k with
  | nil => simp [flat]
  | cons t xs ih =>
    cases k with
    | zero => simp [flat]
    | succ k => rw [List.take_succ_cons, flat_cons, flat_cons, ih, show 3 * (k + 1) = 3 * k + 1 + 1 + 1 by omega]; simp

theorem flat_drop (xs : List T3) (k : Nat) : flat (xs.drop k) = (flat xs).drop (3 * k) := by
  induction xs generalizing k with
  | nil => simp [flat]
  | cons t xs ih =>
    cases k with
    | zero => simp
    | succ k => rw [List.drop_succ_cons, flat_cons, ih, show 3 * (k + 1) = 3 * k + 1 + 1 + 1 by omega]; simp

theorem RdT.take {lo : Nat} {w : World} {A : Option Addr} {xs : List T3} (h : RdT lo w A xs) (k : Nat) : RdT lo w A (xs.take k) := by
  show Rd encI lo w A (flat (xs.take k))
  rw [flat_take]
  exact Rd.take h _

theorem RdT.drop {lo : Nat} {w : World} {b off : Nat} {xs : List T3} (h : RdT lo w (some ⟨b, off, none⟩) xs) (k : Nat) : RdT lo w (some ⟨b, off + k * 3, none⟩) (xs.drop k) := by
  show Rd encI lo w _ (flat (xs.drop k))
  rw [flat_drop, Nat.mul_comm k 3]
  exact Rd.drop h _

/-- Two triples in memory. -/
structure Two (g o : Nat) (s : T3) (tb : Nat) (t : T3) (w : World) : Prop where
  lt : g < w.heap.size
  s0 : w.cell? ⟨g, o, none⟩ = some (.int .i64 s.a)
  s1 : w.cell? ⟨g, o + 1, none⟩ = some (.int .i64 s.b)
  s2 : w.cell? ⟨g, o + 2, none⟩ = some (.int .i64 s.c)
  t3 : w.heap[tb]? = some (.cells #[.int .i64 t.a, .int .i64 t.b, .int .i64 t.c] 50 (0, 0))

theorem Two.next {g o tb : Nat} {s t : T3} {w w' : World} (k : Two g o s tb t w) (hb : Below w.heap.size w w') : Two g o s tb t w' :=
  ⟨Nat.lt_of_lt_of_le k.lt hb.size, (hb.cell (p := ⟨g, o, none⟩) k.lt).trans k.s0, (hb.cell (p := ⟨g, o + 1, none⟩) k.lt).trans k.s1, (hb.cell (p := ⟨g, o + 2, none⟩) k.lt).trans k.s2, (hb.block _ (Array.getElem?_eq_some_iff.1 k.t3).1).trans k.t3⟩

theorem Two.drewN {g o tb : Nat} {s t : T3} {w : World} (k : Two g o s tb t w) (n : Nat) : Two g o s tb t (w.drewN n) := ⟨k.lt, k.s0, k.s1, k.s2, k.t3⟩
theorem Two.drew {g o tb : Nat} {s t : T3} {w : World} (k : Two g o s tb t w) : Two g o s tb t w.drew := ⟨k.lt, k.s0, k.s1, k.s2, k.t3⟩

theorem Two.cells {g o tb : Nat} {s t : T3} {w : World} (k : Two g o s tb t w) : w.cell? ⟨g, o, none⟩ = some (.int .i64 s.a) ∧ w.cell? ⟨g, o + 1, none⟩ = some (.int .i64 s.b) ∧ w.cell? ⟨g, o + 2, none⟩ = some (.int .i64 s.c) ∧
    w.cell? ⟨tb, 0, none⟩ = some (.int .i64 t.a) ∧ w.cell? ⟨tb, 1, none⟩ = some (.int .i64 t.b) ∧ w.cell? ⟨tb, 2, none⟩ = some (.int .i64 t.c) := by
  obtain ⟨a0, a1, a2, _⟩ := row3 k.t3
  exact ⟨k.s0, k.s1, k.s2, a0, a1, a2⟩

theorem lt_blk2 {W : World} {b : Nat} {x : Obj} (h : W.heap[b]? = some x) : b < W.heap.size := (Array.getElem?_eq_some_iff.1 h).1

/-- The item is new: its place is found. -/
theorem ins_new {l : List T3} {t : T3} {j : Nat} (hj : j ≤ (sset l).length) (hlo : ∀ y, y ∈ (sset l).take j → y < t) (hhi : ∀ _ : j < (sset l).length, t < (sset l)[j]!) : sset (l ++ [t]) = (sset l).take j ++ [t] ++ (sset l).drop j := by
  have hdr : ∀ y, y ∈ (sset l).drop j → t < y := by
    intro y hy
    by_cases h : j < (sset l).length
    · have h1 := hhi h
      rw [List.drop_eq_getElem_cons h] at hy
      rw [getElem!_pos _ j h] at h1
      rcases List.mem_cons.1 hy with e | e
      · rw [e]; exact h1
      · have hs := sset_rise l
        rw [← List.take_append_drop j (sset l), List.pairwise_append] at hs
        have h2 := hs.2.1
        rw [List.drop_eq_getElem_cons h, List.pairwise_cons] at h2
        exact lt_tr h1 (h2.1 y e)
    · rw [List.drop_eq_nil_of_le (by omega)] at hy
      cases hy
  have hx : t ∉ sset l := fun h => by
    rw [← List.take_append_drop j (sset l)] at h
    rcases List.mem_append.1 h with h | h
    · exact lt_ir (hlo t h)
    · exact lt_ir (hdr t h)
  rw [sset_ins hx hlo hdr]
  simp

theorem take_low {old : List T3} {t : T3} {j : Nat} (hj : j < old.length) (h : ∀ y, y ∈ old.take j → y < t) (k : old[j]! < t) : ∀ y, y ∈ old.take (j + 1) → y < t := by
  intro y hy
  rw [List.take_succ_eq_append_getElem hj] at hy
  rcases List.mem_append.1 hy with e | e
  · exact h y e
  · have : y = old[j] := by simpa using e
    rw [this, ← getElem!_pos old j hj]
    exact k

theorem own_low3 {w : World} {base base' n size : Nat} {e : TypeId} {v : Value} {xs : List Value} (h : w.ownsRow base e size v n xs) (hb : base' ≤ base) : w.ownsRow base' e size v n xs := by
  refine ⟨h.1, ?_⟩
  rcases h.2 with h0 | ⟨g, cap, cur, rfl, hg, rest⟩
  · exact .inl h0
  · exact .inr ⟨g, cap, cur, rfl, Nat.le_trans hb hg, rest⟩

theorem own_nil_len {w : World} {base n size : Nat} {e : TypeId} {V : Option Addr} {c : Nat} {xs : List Value} (h : w.ownsRow base e size (.slice V n c) n xs) : (V = none ∧ n = 0 ∧ c = 0) ∨ ∃ g, V = some ⟨g, 0, none⟩ := by
  rcases h.2 with ⟨e0, e1⟩ | ⟨g, cap, cur, e0, _⟩
  · injection e0 with a b d
    exact .inl ⟨a, e1, d⟩
  · injection e0 with a b d
    exact .inr ⟨g, a⟩

set_option maxHeartbeats 16000000 in
set_option maxRecDepth 100000 in
theorem refSortTri_any (A : Option Addr) (c : Nat) (xs : List T3) (w : World) (ha : RdT 0 w A xs) (hn : xs.length ≤ 100000) :
    Calls Try.prog 59 #[.slice A xs.length c] w fun e w' => ∃ A' c', e = .returned (.slice A' (sset (xs.map canon)).length c') ∧ RdT w.heap.size w' A' (sset (xs.map canon)) ∧ Below w.heap.size w w' := by
  generalize hN : xs.length = n at hn ⊢
  have HN := Lib.hid hN
  have HA := Lib.hid ha
  clear hN ha
  go_enter Try.func59, Try.ntmps59
  go_wp2_with fail
  go_loopw [3, 4] (fun v i wr => ∃ k : Nat, k ≤ n ∧ i = .int .i64 k ∧ Hid (wr.ownsRow w.heap.size 50 3 v (sset ((xs.take k).map canon)).length ((flat (sset ((xs.take k).map canon))).map encI) ∧ Below w.heap.size w wr)) (fun _ i _ => n - (intOf i).toNat)
  case atStart =>
    exact ⟨0, Nat.zero_le _, rfl, by simpa [sset_nil, flat_nil] using World.ownsRow_nil w w.heap.size 50 3, Below.refl _ _⟩
  case round =>
    obtain ⟨k, hk, rfl, HV⟩ := hrel
    obtain ⟨V, cv, rfl, hcv, hmv, _⟩ := own_value HV.out.1
    unfold maxLen at hmv
    by_cases hlt : k < n
    · have hrd := HA.out.below HV.out.2 (Nat.le_refl _)
      obtain ⟨b, off, rfl, hbw, q0, q1, q2⟩ := RdT.at3 hrd (k := k) (by rw [HN.out]; exact hlt)
      have htk : (xs.take (k + 1)).map canon = (xs.take k).map canon ++ [canon xs[k]!] := by rw [List.take_succ_eq_append_getElem (by rw [HN.out]; exact hlt), List.map_append, getElem!_pos xs k (by rw [HN.out]; exact hlt)]; rfl
      have hsk : (sset ((xs.take k).map canon)).length ≤ k := by
        refine Nat.le_trans (sset_len _) ?_
        rw [List.length_map]
        exact List.length_take_le ..
      have HT := Lib.hid htk
      clear htk hrd
      generalize xs[k]! = t at *
      obtain ⟨a1, a2, a3⟩ := t
      have kcn := fun W => refCanon_any a1 a2 a3 W
      rcases hc : canon ⟨a1, a2, a3⟩ with ⟨x, y, z⟩
      rw [hc] at HT kcn
      have KC := Lib.hid kcn
      clear kcn hc
      have hold : Hid (∀ t', t' = (⟨x, y, z⟩ : T3) → t' ∈ sset ((xs.take k).map canon) → sset ((xs.take (k + 1)).map canon) = sset ((xs.take k).map canon)) := Lib.hid (fun t' e h => by subst e; rw [HT.out]; exact sset_in h)
      have hnew : Hid (∀ j, j ≤ (sset ((xs.take k).map canon)).length → (∀ y', y' ∈ (sset ((xs.take k).map canon)).take j → y' < (⟨x, y, z⟩ : T3)) → (∀ _ : j < (sset ((xs.take k).map canon)).length, (⟨x, y, z⟩ : T3) < (sset ((xs.take k).map canon))[j]!) →
          sset ((xs.take (k + 1)).map canon) = (sset ((xs.take k).map canon)).take j ++ [⟨x, y, z⟩] ++ (sset ((xs.take k).map canon)).drop j) := Lib.hid (fun j hj h1 h2 => by rw [HT.out]; exact ins_new hj h1 h2)
      clear HT
      generalize sset ((xs.take k).map canon) = old at *
      generalize hE : sset ((xs.take (k + 1)).map canon) = new at *
      have HE := Lib.hid hE
      clear hE
      dsimp only at q0 q1 q2
      go_wp2_with fail
      refine (KC.out _).mono ?_
      rintro e w1 ⟨rfl, hb1⟩
      have own1 := own_updK (F := fun _ => False) HV.out.1 (Upd.of_below (hb1.trans ((Below.refl _ _).alloc (Nat.le_refl _) (.cells #[.int .i64 x, .int .i64 y, .int .i64 z] 50) |>.mono hb1.size))) (fun _ _ => id)
      have bb1 := (below_up HV.out.2 hb1).alloc (below_up HV.out.2 hb1).size (.cells #[.int .i64 x, .int .i64 y, .int .i64 z] 50)
      have tn := heap_alloc_new w1 (.cells #[.int .i64 x, .int .i64 y, .int .i64 z] 50)
      have H1 := Lib.hid (And.intro own1 (And.intro bb1 tn))
      clear own1 bb1 tn hb1 q0 q1 q2 hbw HV
      dsimp only
      go_wp2_with fail
      replace H1 := H1
      generalize w1.heap.size = tb at *
      generalize w1.alloc (.cells #[.int .i64 x, .int .i64 y, .int .i64 z] 50) = W1 at *
      clear KC
      go_loopw [6] (fun kk wx => ∃ j : Nat, j ≤ old.length ∧ kk = .int .i64 j ∧ Hid (Below W1.heap.size W1 wx ∧ ∀ y', y' ∈ old.take j → y' < (⟨x, y, z⟩ : T3))) (fun kk _ => old.length - (intOf kk).toNat)
      case atStart => exact ⟨0, Nat.zero_le _, rfl, Below.refl _ _, fun y' hy' => by simp at hy'⟩
      case round =>
        obtain ⟨j, hj, rfl, HX⟩ := hrel
        have BX := Lib.hid HX.out.1.drew
        by_cases hjm : j < old.length
        · obtain ⟨g, cap, eV, hbg, hgw, hnc, hcm, R⟩ := Row3.of_own H1.out.1 rfl (by omega)
          injection eV with eV1 _ eV2
          subst eV1 eV2
          have rdx := (R.rd (Nat.zero_le g)).below HX.out.1 (Nat.le_refl _)
          have rj := RdT.at3 rdx (k := j) (by simpa using hjm)
          obtain ⟨b', off', e', hbw', p0, p1, p2⟩ := rj
          injection e' with e'
          injection e' with e1 e2
          subst e1 e2
          simp only [Nat.zero_add] at p0 p1 p2
          have p3 : wr.heap[tb]? = some (.cells #[.int .i64 x, .int .i64 y, .int .i64 z] 50 (0, 0)) := (HX.out.1.block _ (lt_blk2 H1.out.2.2)).trans H1.out.2.2
          have TW0 : Two g (j * 3) old[j]! tb ⟨x, y, z⟩ wr := ⟨hbw', p0, p1, p2, p3⟩
          have TW := Lib.hid TW0.drew
          have RW1 := Lib.hid (R.rd (Nat.zero_le g))
          have OJ : Hid (∀ s', s' = old[j]! → s' = old[j]!) := Lib.hid (fun _ h => h)
          clear p0 p1 p2 p3 TW0 rdx hbw' R
          have hlow := Lib.hid (take_low hjm HX.out.2)
          have hs0 : Hid (old[j]! = old[j]!) := Lib.hid rfl
          generalize hs : old[j]! = s at *
          have HSJ := Lib.hid hs
          clear hs hs0 OJ
          have kl0 := fun W => refTriLess_any s.a s.b s.c x y z W
          have lt1 : (j : Int) < (old.length : Int) := by omega
          obtain ⟨k0, k1, k2, k3, k4, k5⟩ := TW.out.cells
          dsimp only at k3 k4 k5
          by_cases hst : s < (⟨x, y, z⟩ : T3)
          · have hl : ltT s ⟨x, y, z⟩ = true := (ltT_iff _ _).2 hst
            rw [hl] at kl0
            have kl := Lib.hid kl0
            have hlow2 := Lib.hid (hlow.out hst)
            clear kl0 hl hst
            go_wp2_with fail
            refine wp_region_held_drew (S := fun w' => w'.cell? ⟨g, j * 3, none⟩ = some (.int .i64 s.a) ∧ w'.cell? ⟨g, j * 3 + 1, none⟩ = some (.int .i64 s.b) ∧ w'.cell? ⟨g, j * 3 + 2, none⟩ = some (.int .i64 s.c) ∧ w'.cell? ⟨tb, 0, none⟩ = some (.int .i64 x) ∧ w'.cell? ⟨tb, 1, none⟩ = some (.int .i64 y) ∧ w'.cell? ⟨tb, 2, none⟩ = some (.int .i64 z)) (by kernel_rfl) ⟨k0, k1, k2, k3, k4, k5⟩ (fun hHeld => ?_)
            refine wpAnyH_take (i := 0) (oi := ?o1) (v := ?v1) ?hi1 (by kernel_rfl) (by kernel_rfl) (by kernel_rfl) ?hQ1 ?hy1 (by assumption) ?rest1
            case hi1 => (simp only [List.getElem?_toArray, List.getElem?_cons_succ, List.getElem?_cons_zero]; rfl)
            case hQ1 => exact fun _ _ _ h => h
            case hy1 => (refine Or.inl ⟨by rfl, ?_⟩; intro w hSw; (try dsimp only at hSw); go_simp; (try with_reducible rfl))
            try simp only [Act.put, List.setIfInBounds_toArray, List.set_cons_zero, List.set_cons_succ]
            refine wpAnyH_take (i := 1) (oi := ?o2) (v := ?v2) ?hi2 (by kernel_rfl) (by kernel_rfl) (by kernel_rfl) ?hQ2 ?hy2 (by assumption) ?rest2
            case hi2 => (simp only [List.getElem?_toArray, List.getElem?_cons_succ, List.getElem?_cons_zero]; rfl)
            case hQ2 => exact fun _ _ _ h => h
            case hy2 => (refine Or.inl ⟨by rfl, ?_⟩; intro w hSw; (try dsimp only at hSw); go_simp; (try with_reducible rfl))
            try simp only [Act.put, List.setIfInBounds_toArray, List.set_cons_zero, List.set_cons_succ]
            refine wpAnyH_take (i := 2) (oi := ?o3) (v := ?v3) ?hi3 (by kernel_rfl) (by kernel_rfl) (by kernel_rfl) ?hQ3 ?hy3 (by assumption) ?rest3
            case hi3 => (simp only [List.getElem?_toArray, List.getElem?_cons_succ, List.getElem?_cons_zero]; rfl)
            case hQ3 => exact fun _ _ _ h => h
            case hy3 => (refine Or.inl ⟨by rfl, ?_⟩; intro w hSw; (try dsimp only at hSw); go_simp; (try with_reducible rfl))
            try simp only [Act.put, List.setIfInBounds_toArray, List.set_cons_zero, List.set_cons_succ]
            refine wpAnyH_take (i := 3) (oi := ?o4) (v := ?v4) ?hi4 (by kernel_rfl) (by kernel_rfl) (by kernel_rfl) ?hQ4 ?hy4 (by assumption) ?rest4
            case hi4 => (simp only [List.getElem?_toArray, List.getElem?_cons_succ, List.getElem?_cons_zero]; rfl)
            case hQ4 => exact fun _ _ _ h => h
            case hy4 => (refine Or.inl ⟨by rfl, ?_⟩; intro w hSw; (try dsimp only at hSw); go_simp; (try with_reducible rfl))
            try simp only [Act.put, List.setIfInBounds_toArray, List.set_cons_zero, List.set_cons_succ]
            refine wpAnyH_take (i := 4) (oi := ?o5) (v := ?v5) ?hi5 (by kernel_rfl) (by kernel_rfl) (by kernel_rfl) ?hQ5 ?hy5 (by assumption) ?rest5
            case hi5 => (simp only [List.getElem?_toArray, List.getElem?_cons_succ, List.getElem?_cons_zero]; rfl)
            case hQ5 => exact fun _ _ _ h => h
            case hy5 => (refine Or.inl ⟨by rfl, ?_⟩; intro w hSw; (try dsimp only at hSw); go_simp; (try with_reducible rfl))
            try simp only [Act.put, List.setIfInBounds_toArray, List.set_cons_zero, List.set_cons_succ]
            refine wpAnyH_take (i := 5) (oi := ?o6) (v := ?v6) ?hi6 (by kernel_rfl) (by kernel_rfl) (by kernel_rfl) ?hQ6 ?hy6 (by assumption) ?rest6
            case hi6 => (simp only [List.getElem?_toArray, List.getElem?_cons_succ, List.getElem?_cons_zero]; rfl)
            case hQ6 => exact fun _ _ _ h => h
            case hy6 => (refine Or.inl ⟨by rfl, ?_⟩; intro w hSw; (try dsimp only at hSw); go_simp; (try with_reducible rfl))
            try simp only [Act.put, List.setIfInBounds_toArray, List.set_cons_zero, List.set_cons_succ]
            refine wpAnyH_take (i := 6) (oi := ?o7) (v := ?v7) ?hi7 (by kernel_rfl) (by kernel_rfl) (by kernel_rfl) ?hQ7 ?hy7 (by assumption) ?rest7
            case hi7 => (simp only [List.getElem?_toArray, List.getElem?_cons_succ, List.getElem?_cons_zero]; rfl)
            case hQ7 => exact fun _ _ _ h => h
            case hy7 => (refine Or.inl ⟨by rfl, ?_⟩; intro w hSw; (try dsimp only at hSw); go_simp; (try with_reducible rfl))
            try simp only [Act.put, List.setIfInBounds_toArray, List.set_cons_zero, List.set_cons_succ]
            refine wpAnyH_take (i := 7) (oi := ?o8) (v := ?v8) ?hi8 (by kernel_rfl) (by kernel_rfl) (by kernel_rfl) ?hQ8 ?hy8 (by assumption) ?rest8
            case hi8 => (simp only [List.getElem?_toArray, List.getElem?_cons_succ, List.getElem?_cons_zero]; rfl)
            case hQ8 => exact fun _ _ _ h => h
            case hy8 => (refine Or.inl ⟨by rfl, ?_⟩; intro w hSw; (try dsimp only at hSw); go_simp; (try with_reducible rfl))
            try simp only [Act.put, List.setIfInBounds_toArray, List.set_cons_zero, List.set_cons_succ]
            refine wpAnyH_take (i := 8) (oi := ?o9) (v := ?v9) ?hi9 (by kernel_rfl) (by kernel_rfl) (by kernel_rfl) ?hQ9 ?hy9 (by assumption) ?rest9
            case hi9 => (simp only [List.getElem?_toArray, List.getElem?_cons_succ, List.getElem?_cons_zero]; rfl)
            case hQ9 => exact fun _ _ _ h => h
            case hy9 => (refine Or.inl ⟨by rfl, ?_⟩; intro w hSw; (try dsimp only at hSw); go_simp; (try with_reducible rfl))
            try simp only [Act.put, List.setIfInBounds_toArray, List.set_cons_zero, List.set_cons_succ]
            refine wpAnyH_take (i := 9) (oi := ?o10) (v := ?v10) ?hi10 (by kernel_rfl) (by kernel_rfl) (by kernel_rfl) ?hQ10 ?hy10 (by assumption) ?rest10
            case hi10 => (simp only [List.getElem?_toArray, List.getElem?_cons_succ, List.getElem?_cons_zero]; rfl)
            case hQ10 => exact fun _ _ _ h => h
            case hy10 => (refine Or.inl ⟨by rfl, ?_⟩; intro w hSw; (try dsimp only at hSw); go_simp; (try with_reducible rfl))
            try simp only [Act.put, List.setIfInBounds_toArray, List.set_cons_zero, List.set_cons_succ]
            refine wpAnyH_ready (rs := [10]) (by kernel_rfl) (by simp) ?_
            refine AllReadyH.cons (o := ?o11) ?hi11 (fun K hK => ?rest11) AllReadyH.nil
            case hi11 => (simp only [List.getElem?_toArray, List.getElem?_cons_succ, List.getElem?_cons_zero]; rfl)
            go_simp
            go_at_call 57
            refine (kl.out _).mono ?_
            rintro e wn ⟨rfl, hbn⟩
            replace TW := Lib.hid (TW.out.next hbn)
            replace BX := Lib.hid (below_up BX.out hbn)
            clear k0 k1 k2 k3 k4 k5 hbn
            obtain ⟨k0, k1, k2, k3, k4, k5⟩ := TW.out.cells
            refine hK.out _ _ ⟨k0, k1, k2, k3, k4, k5⟩ (fun hHeld => ?_)
            clear hK K
            try simp only [Act.put, List.setIfInBounds_toArray, List.set_cons_zero, List.set_cons_succ]
            refine wpAnyH_take (i := 11) (oi := ?o12) (v := ?v12) ?hi12 (by kernel_rfl) (by kernel_rfl) (by kernel_rfl) ?hQ12 ?hy12 (by assumption) ?rest12
            case hi12 => (simp only [List.getElem?_toArray, List.getElem?_cons_succ, List.getElem?_cons_zero]; rfl)
            case hQ12 => exact fun _ _ _ h => h
            case hy12 => (refine Or.inl ⟨by rfl, ?_⟩; intro w hSw; (try dsimp only at hSw); go_simp; (try with_reducible rfl))
            try simp only [Act.put, List.setIfInBounds_toArray, List.set_cons_zero, List.set_cons_succ]
            refine wpAnyH_done (by kernel_rfl) ?_ _
            go_wp2
            go_roundw
            case rel => exact ⟨j + 1, by omega, by go_num, BX.out, hlow2.out⟩
            case measure => simp [intOf]; omega
          · have hl : ltT s ⟨x, y, z⟩ = false := by
              rw [← Bool.not_eq_true]
              exact fun h => hst ((ltT_iff _ _).1 h)
            rw [hl] at kl0
            have kl := Lib.hid kl0
            clear kl0 hl
            by_cases hse : s = (⟨x, y, z⟩ : T3)
            · have q := eqT_run s ⟨x, y, z⟩
              rw [decide_eq_true hse] at q
              simp only [encT] at q
              have hno : Hid (new = old) := Lib.hid (hold.out s hse (by rw [← HSJ.out, getElem!_pos old j hjm]; exact List.getElem_mem _))
              clear hse hst hlow
              go_wp2_with fail
              refine wp_region_held_drew (S := fun w' => w'.cell? ⟨g, j * 3, none⟩ = some (.int .i64 s.a) ∧ w'.cell? ⟨g, j * 3 + 1, none⟩ = some (.int .i64 s.b) ∧ w'.cell? ⟨g, j * 3 + 2, none⟩ = some (.int .i64 s.c) ∧ w'.cell? ⟨tb, 0, none⟩ = some (.int .i64 x) ∧ w'.cell? ⟨tb, 1, none⟩ = some (.int .i64 y) ∧ w'.cell? ⟨tb, 2, none⟩ = some (.int .i64 z)) (by kernel_rfl) ⟨k0, k1, k2, k3, k4, k5⟩ (fun hHeld => ?_)
              refine wpAnyH_take (i := 0) (oi := ?o13) (v := ?v13) ?hi13 (by kernel_rfl) (by kernel_rfl) (by kernel_rfl) ?hQ13 ?hy13 (by assumption) ?rest13
              case hi13 => (simp only [List.getElem?_toArray, List.getElem?_cons_succ, List.getElem?_cons_zero]; rfl)
              case hQ13 => exact fun _ _ _ h => h
              case hy13 => (refine Or.inl ⟨by rfl, ?_⟩; intro w hSw; (try dsimp only at hSw); go_simp; (try with_reducible rfl))
              try simp only [Act.put, List.setIfInBounds_toArray, List.set_cons_zero, List.set_cons_succ]
              refine wpAnyH_take (i := 1) (oi := ?o14) (v := ?v14) ?hi14 (by kernel_rfl) (by kernel_rfl) (by kernel_rfl) ?hQ14 ?hy14 (by assumption) ?rest14
              case hi14 => (simp only [List.getElem?_toArray, List.getElem?_cons_succ, List.getElem?_cons_zero]; rfl)
              case hQ14 => exact fun _ _ _ h => h
              case hy14 => (refine Or.inl ⟨by rfl, ?_⟩; intro w hSw; (try dsimp only at hSw); go_simp; (try with_reducible rfl))
              try simp only [Act.put, List.setIfInBounds_toArray, List.set_cons_zero, List.set_cons_succ]
              refine wpAnyH_take (i := 2) (oi := ?o15) (v := ?v15) ?hi15 (by kernel_rfl) (by kernel_rfl) (by kernel_rfl) ?hQ15 ?hy15 (by assumption) ?rest15
              case hi15 => (simp only [List.getElem?_toArray, List.getElem?_cons_succ, List.getElem?_cons_zero]; rfl)
              case hQ15 => exact fun _ _ _ h => h
              case hy15 => (refine Or.inl ⟨by rfl, ?_⟩; intro w hSw; (try dsimp only at hSw); go_simp; (try with_reducible rfl))
              try simp only [Act.put, List.setIfInBounds_toArray, List.set_cons_zero, List.set_cons_succ]
              refine wpAnyH_take (i := 3) (oi := ?o16) (v := ?v16) ?hi16 (by kernel_rfl) (by kernel_rfl) (by kernel_rfl) ?hQ16 ?hy16 (by assumption) ?rest16
              case hi16 => (simp only [List.getElem?_toArray, List.getElem?_cons_succ, List.getElem?_cons_zero]; rfl)
              case hQ16 => exact fun _ _ _ h => h
              case hy16 => (refine Or.inl ⟨by rfl, ?_⟩; intro w hSw; (try dsimp only at hSw); go_simp; (try with_reducible rfl))
              try simp only [Act.put, List.setIfInBounds_toArray, List.set_cons_zero, List.set_cons_succ]
              refine wpAnyH_take (i := 4) (oi := ?o17) (v := ?v17) ?hi17 (by kernel_rfl) (by kernel_rfl) (by kernel_rfl) ?hQ17 ?hy17 (by assumption) ?rest17
              case hi17 => (simp only [List.getElem?_toArray, List.getElem?_cons_succ, List.getElem?_cons_zero]; rfl)
              case hQ17 => exact fun _ _ _ h => h
              case hy17 => (refine Or.inl ⟨by rfl, ?_⟩; intro w hSw; (try dsimp only at hSw); go_simp; (try with_reducible rfl))
              try simp only [Act.put, List.setIfInBounds_toArray, List.set_cons_zero, List.set_cons_succ]
              refine wpAnyH_take (i := 5) (oi := ?o18) (v := ?v18) ?hi18 (by kernel_rfl) (by kernel_rfl) (by kernel_rfl) ?hQ18 ?hy18 (by assumption) ?rest18
              case hi18 => (simp only [List.getElem?_toArray, List.getElem?_cons_succ, List.getElem?_cons_zero]; rfl)
              case hQ18 => exact fun _ _ _ h => h
              case hy18 => (refine Or.inl ⟨by rfl, ?_⟩; intro w hSw; (try dsimp only at hSw); go_simp; (try with_reducible rfl))
              try simp only [Act.put, List.setIfInBounds_toArray, List.set_cons_zero, List.set_cons_succ]
              refine wpAnyH_take (i := 6) (oi := ?o19) (v := ?v19) ?hi19 (by kernel_rfl) (by kernel_rfl) (by kernel_rfl) ?hQ19 ?hy19 (by assumption) ?rest19
              case hi19 => (simp only [List.getElem?_toArray, List.getElem?_cons_succ, List.getElem?_cons_zero]; rfl)
              case hQ19 => exact fun _ _ _ h => h
              case hy19 => (refine Or.inl ⟨by rfl, ?_⟩; intro w hSw; (try dsimp only at hSw); go_simp; (try with_reducible rfl))
              try simp only [Act.put, List.setIfInBounds_toArray, List.set_cons_zero, List.set_cons_succ]
              refine wpAnyH_take (i := 7) (oi := ?o20) (v := ?v20) ?hi20 (by kernel_rfl) (by kernel_rfl) (by kernel_rfl) ?hQ20 ?hy20 (by assumption) ?rest20
              case hi20 => (simp only [List.getElem?_toArray, List.getElem?_cons_succ, List.getElem?_cons_zero]; rfl)
              case hQ20 => exact fun _ _ _ h => h
              case hy20 => (refine Or.inl ⟨by rfl, ?_⟩; intro w hSw; (try dsimp only at hSw); go_simp; (try with_reducible rfl))
              try simp only [Act.put, List.setIfInBounds_toArray, List.set_cons_zero, List.set_cons_succ]
              refine wpAnyH_take (i := 8) (oi := ?o21) (v := ?v21) ?hi21 (by kernel_rfl) (by kernel_rfl) (by kernel_rfl) ?hQ21 ?hy21 (by assumption) ?rest21
              case hi21 => (simp only [List.getElem?_toArray, List.getElem?_cons_succ, List.getElem?_cons_zero]; rfl)
              case hQ21 => exact fun _ _ _ h => h
              case hy21 => (refine Or.inl ⟨by rfl, ?_⟩; intro w hSw; (try dsimp only at hSw); go_simp; (try with_reducible rfl))
              try simp only [Act.put, List.setIfInBounds_toArray, List.set_cons_zero, List.set_cons_succ]
              refine wpAnyH_take (i := 9) (oi := ?o22) (v := ?v22) ?hi22 (by kernel_rfl) (by kernel_rfl) (by kernel_rfl) ?hQ22 ?hy22 (by assumption) ?rest22
              case hi22 => (simp only [List.getElem?_toArray, List.getElem?_cons_succ, List.getElem?_cons_zero]; rfl)
              case hQ22 => exact fun _ _ _ h => h
              case hy22 => (refine Or.inl ⟨by rfl, ?_⟩; intro w hSw; (try dsimp only at hSw); go_simp; (try with_reducible rfl))
              try simp only [Act.put, List.setIfInBounds_toArray, List.set_cons_zero, List.set_cons_succ]
              refine wpAnyH_ready (rs := [10]) (by kernel_rfl) (by simp) ?_
              refine AllReadyH.cons (o := ?o23) ?hi23 (fun K hK => ?rest23) AllReadyH.nil
              case hi23 => (simp only [List.getElem?_toArray, List.getElem?_cons_succ, List.getElem?_cons_zero]; rfl)
              go_simp
              go_at_call 57
              refine (kl.out _).mono ?_
              rintro e wn ⟨rfl, hbn⟩
              replace TW := Lib.hid (TW.out.next hbn)
              replace BX := Lib.hid (below_up BX.out hbn)
              clear k0 k1 k2 k3 k4 k5 hbn
              obtain ⟨k0, k1, k2, k3, k4, k5⟩ := TW.out.cells
              refine hK.out _ _ ⟨k0, k1, k2, k3, k4, k5⟩ (fun hHeld => ?_)
              clear hK K
              try simp only [Act.put, List.setIfInBounds_toArray, List.set_cons_zero, List.set_cons_succ]
              refine wpAnyH_take (i := 11) (oi := ?o24) (v := ?v24) ?hi24 (by kernel_rfl) (by kernel_rfl) (by kernel_rfl) ?hQ24 ?hy24 (by assumption) ?rest24
              case hi24 => (simp only [List.getElem?_toArray, List.getElem?_cons_succ, List.getElem?_cons_zero]; rfl)
              case hQ24 => exact fun _ _ _ h => h
              case hy24 => (refine Or.inl ⟨by rfl, ?_⟩; intro w hSw; (try dsimp only at hSw); go_simp; (try with_reducible rfl))
              try simp only [Act.put, List.setIfInBounds_toArray, List.set_cons_zero, List.set_cons_succ]
              refine wpAnyH_done (by kernel_rfl) ?_ _
              go_wp2_with fail
              go_quiet (fail)
              have FIN : Hid ((wn.drewN nq).ownsRow w.heap.size 50 3 (.slice (some ⟨g, 0, none⟩) old.length cv) new.length ((flat new).map encI) ∧ Below w.heap.size w (wn.drewN nq)) := by
                refine ⟨?_, below_up H1.out.2.1 (below_drewN BX.out nq)⟩
                rw [hno.out]
                exact own_updK (F := fun _ => False) H1.out.1 (Upd.of_below (below_drewN BX.out nq)) (fun _ _ => id)
              clear k0 k1 k2 k3 k4 k5 TW BX q
              generalize wn.drewN nq = W at *
              go_wp2
              go_roundw
              case rel => exact ⟨k + 1, by omega, by go_num, by rw [HE.out]; exact FIN.out⟩
              case measure => simp [intOf]; omega
            · have q := eqT_run s ⟨x, y, z⟩
              rw [decide_eq_false hse] at q
              simp only [encT] at q
              have hnw := Lib.hid (hnew.out j hj HX.out.2 (fun _ => by
                rw [HSJ.out]
                rcases tri s (⟨x, y, z⟩ : T3) with h | h | h
                · exact absurd h hst
                · exact absurd h hse
                · exact h))
              clear hse hst hlow
              go_wp2_with fail
              refine wp_region_held_drew (S := fun w' => w'.cell? ⟨g, j * 3, none⟩ = some (.int .i64 s.a) ∧ w'.cell? ⟨g, j * 3 + 1, none⟩ = some (.int .i64 s.b) ∧ w'.cell? ⟨g, j * 3 + 2, none⟩ = some (.int .i64 s.c) ∧ w'.cell? ⟨tb, 0, none⟩ = some (.int .i64 x) ∧ w'.cell? ⟨tb, 1, none⟩ = some (.int .i64 y) ∧ w'.cell? ⟨tb, 2, none⟩ = some (.int .i64 z)) (by kernel_rfl) ⟨k0, k1, k2, k3, k4, k5⟩ (fun hHeld => ?_)
              refine wpAnyH_take (i := 0) (oi := ?o25) (v := ?v25) ?hi25 (by kernel_rfl) (by kernel_rfl) (by kernel_rfl) ?hQ25 ?hy25 (by assumption) ?rest25
              case hi25 => (simp only [List.getElem?_toArray, List.getElem?_cons_succ, List.getElem?_cons_zero]; rfl)
              case hQ25 => exact fun _ _ _ h => h
              case hy25 => (refine Or.inl ⟨by rfl, ?_⟩; intro w hSw; (try dsimp only at hSw); go_simp; (try with_reducible rfl))
              try simp only [Act.put, List.setIfInBounds_toArray, List.set_cons_zero, List.set_cons_succ]
              refine wpAnyH_take (i := 1) (oi := ?o26) (v := ?v26) ?hi26 (by kernel_rfl) (by kernel_rfl) (by kernel_rfl) ?hQ26 ?hy26 (by assumption) ?rest26
              case hi26 => (simp only [List.getElem?_toArray, List.getElem?_cons_succ, List.getElem?_cons_zero]; rfl)
              case hQ26 => exact fun _ _ _ h => h
              case hy26 => (refine Or.inl ⟨by rfl, ?_⟩; intro w hSw; (try dsimp only at hSw); go_simp; (try with_reducible rfl))
              try simp only [Act.put, List.setIfInBounds_toArray, List.set_cons_zero, List.set_cons_succ]
              refine wpAnyH_take (i := 2) (oi := ?o27) (v := ?v27) ?hi27 (by kernel_rfl) (by kernel_rfl) (by kernel_rfl) ?hQ27 ?hy27 (by assumption) ?rest27
              case hi27 => (simp only [List.getElem?_toArray, List.getElem?_cons_succ, List.getElem?_cons_zero]; rfl)
              case hQ27 => exact fun _ _ _ h => h
              case hy27 => (refine Or.inl ⟨by rfl, ?_⟩; intro w hSw; (try dsimp only at hSw); go_simp; (try with_reducible rfl))
              try simp only [Act.put, List.setIfInBounds_toArray, List.set_cons_zero, List.set_cons_succ]
              refine wpAnyH_take (i := 3) (oi := ?o28) (v := ?v28) ?hi28 (by kernel_rfl) (by kernel_rfl) (by kernel_rfl) ?hQ28 ?hy28 (by assumption) ?rest28
              case hi28 => (simp only [List.getElem?_toArray, List.getElem?_cons_succ, List.getElem?_cons_zero]; rfl)
              case hQ28 => exact fun _ _ _ h => h
              case hy28 => (refine Or.inl ⟨by rfl, ?_⟩; intro w hSw; (try dsimp only at hSw); go_simp; (try with_reducible rfl))
              try simp only [Act.put, List.setIfInBounds_toArray, List.set_cons_zero, List.set_cons_succ]
              refine wpAnyH_take (i := 4) (oi := ?o29) (v := ?v29) ?hi29 (by kernel_rfl) (by kernel_rfl) (by kernel_rfl) ?hQ29 ?hy29 (by assumption) ?rest29
              case hi29 => (simp only [List.getElem?_toArray, List.getElem?_cons_succ, List.getElem?_cons_zero]; rfl)
              case hQ29 => exact fun _ _ _ h => h
              case hy29 => (refine Or.inl ⟨by rfl, ?_⟩; intro w hSw; (try dsimp only at hSw); go_simp; (try with_reducible rfl))
              try simp only [Act.put, List.setIfInBounds_toArray, List.set_cons_zero, List.set_cons_succ]
              refine wpAnyH_take (i := 5) (oi := ?o30) (v := ?v30) ?hi30 (by kernel_rfl) (by kernel_rfl) (by kernel_rfl) ?hQ30 ?hy30 (by assumption) ?rest30
              case hi30 => (simp only [List.getElem?_toArray, List.getElem?_cons_succ, List.getElem?_cons_zero]; rfl)
              case hQ30 => exact fun _ _ _ h => h
              case hy30 => (refine Or.inl ⟨by rfl, ?_⟩; intro w hSw; (try dsimp only at hSw); go_simp; (try with_reducible rfl))
              try simp only [Act.put, List.setIfInBounds_toArray, List.set_cons_zero, List.set_cons_succ]
              refine wpAnyH_take (i := 6) (oi := ?o31) (v := ?v31) ?hi31 (by kernel_rfl) (by kernel_rfl) (by kernel_rfl) ?hQ31 ?hy31 (by assumption) ?rest31
              case hi31 => (simp only [List.getElem?_toArray, List.getElem?_cons_succ, List.getElem?_cons_zero]; rfl)
              case hQ31 => exact fun _ _ _ h => h
              case hy31 => (refine Or.inl ⟨by rfl, ?_⟩; intro w hSw; (try dsimp only at hSw); go_simp; (try with_reducible rfl))
              try simp only [Act.put, List.setIfInBounds_toArray, List.set_cons_zero, List.set_cons_succ]
              refine wpAnyH_take (i := 7) (oi := ?o32) (v := ?v32) ?hi32 (by kernel_rfl) (by kernel_rfl) (by kernel_rfl) ?hQ32 ?hy32 (by assumption) ?rest32
              case hi32 => (simp only [List.getElem?_toArray, List.getElem?_cons_succ, List.getElem?_cons_zero]; rfl)
              case hQ32 => exact fun _ _ _ h => h
              case hy32 => (refine Or.inl ⟨by rfl, ?_⟩; intro w hSw; (try dsimp only at hSw); go_simp; (try with_reducible rfl))
              try simp only [Act.put, List.setIfInBounds_toArray, List.set_cons_zero, List.set_cons_succ]
              refine wpAnyH_take (i := 8) (oi := ?o33) (v := ?v33) ?hi33 (by kernel_rfl) (by kernel_rfl) (by kernel_rfl) ?hQ33 ?hy33 (by assumption) ?rest33
              case hi33 => (simp only [List.getElem?_toArray, List.getElem?_cons_succ, List.getElem?_cons_zero]; rfl)
              case hQ33 => exact fun _ _ _ h => h
              case hy33 => (refine Or.inl ⟨by rfl, ?_⟩; intro w hSw; (try dsimp only at hSw); go_simp; (try with_reducible rfl))
              try simp only [Act.put, List.setIfInBounds_toArray, List.set_cons_zero, List.set_cons_succ]
              refine wpAnyH_take (i := 9) (oi := ?o34) (v := ?v34) ?hi34 (by kernel_rfl) (by kernel_rfl) (by kernel_rfl) ?hQ34 ?hy34 (by assumption) ?rest34
              case hi34 => (simp only [List.getElem?_toArray, List.getElem?_cons_succ, List.getElem?_cons_zero]; rfl)
              case hQ34 => exact fun _ _ _ h => h
              case hy34 => (refine Or.inl ⟨by rfl, ?_⟩; intro w hSw; (try dsimp only at hSw); go_simp; (try with_reducible rfl))
              try simp only [Act.put, List.setIfInBounds_toArray, List.set_cons_zero, List.set_cons_succ]
              refine wpAnyH_ready (rs := [10]) (by kernel_rfl) (by simp) ?_
              refine AllReadyH.cons (o := ?o35) ?hi35 (fun K hK => ?rest35) AllReadyH.nil
              case hi35 => (simp only [List.getElem?_toArray, List.getElem?_cons_succ, List.getElem?_cons_zero]; rfl)
              go_simp
              go_at_call 57
              refine (kl.out _).mono ?_
              rintro e wn ⟨rfl, hbn⟩
              replace TW := Lib.hid (TW.out.next hbn)
              replace BX := Lib.hid (below_up BX.out hbn)
              clear k0 k1 k2 k3 k4 k5 hbn
              obtain ⟨k0, k1, k2, k3, k4, k5⟩ := TW.out.cells
              refine hK.out _ _ ⟨k0, k1, k2, k3, k4, k5⟩ (fun hHeld => ?_)
              clear hK K
              try simp only [Act.put, List.setIfInBounds_toArray, List.set_cons_zero, List.set_cons_succ]
              refine wpAnyH_take (i := 11) (oi := ?o36) (v := ?v36) ?hi36 (by kernel_rfl) (by kernel_rfl) (by kernel_rfl) ?hQ36 ?hy36 (by assumption) ?rest36
              case hi36 => (simp only [List.getElem?_toArray, List.getElem?_cons_succ, List.getElem?_cons_zero]; rfl)
              case hQ36 => exact fun _ _ _ h => h
              case hy36 => (refine Or.inl ⟨by rfl, ?_⟩; intro w hSw; (try dsimp only at hSw); go_simp; (try with_reducible rfl))
              try simp only [Act.put, List.setIfInBounds_toArray, List.set_cons_zero, List.set_cons_succ]
              refine wpAnyH_done (by kernel_rfl) ?_ _
              go_wp2_with fail
              go_quiet (fail)
              replace BX := Lib.hid (below_drewN BX.out nq)
              clear k0 k1 k2 k3 k4 k5 TW q
              generalize wn.drewN nq = W at *
              have rdW := RW1.out.below BX.out (Nat.le_refl _)
              have tW := (BX.out.block _ (lt_blk2 H1.out.2.2)).trans H1.out.2.2
              obtain ⟨A1, c1, W2, run1, own2, gr1, at1⟩ := appTs_run W W.heap.size 57 (.slice none 0 0) 0 [] (World.ownsRow_nil W W.heap.size 50 3) 0 (some ⟨g, 0, none⟩) cv (old.take j) (RdT.take rdW j) (by rw [List.length_take]; omega) (Nat.le_refl _)
              have bW2 : Below W.heap.size W W2 := (Below.refl _ _).grown gr1 (Nat.le_refl _) (fun b hb => by cases hb)
              have bW2t : Below W.heap.size W (W2.alloc (.cells #[.int .i64 x, .int .i64 y, .int .i64 z] 50)) := bW2.alloc bW2.size _
              obtain ⟨A2, c2, W3, run2, own3, gr2, at2⟩ := appT3_run (W2.alloc (.cells #[.int .i64 x, .int .i64 y, .int .i64 z] 50)) W.heap.size 57 (.slice A1 (0 + (old.take j).length) c1) (0 + (old.take j).length) ([] ++ old.take j) (own_updK (F := fun _ => False) own2 (Upd.of_below ((Below.refl _ _).alloc (Nat.le_refl _) _)) (fun _ _ => id)) W2.heap.size 1 ⟨x, y, z⟩ (heap_alloc_new W2 _) (by rw [List.length_take]; omega) bW2t.size
              have bW3 : Below W.heap.size W W3 := bW2t.grown gr2 bW2t.size (fun b hb => ((own_updK (F := fun _ => False) own2 (Upd.of_below ((Below.refl _ _).alloc (Nat.le_refl _) (.cells #[.int .i64 x, .int .i64 y, .int .i64 z] 50))) (fun _ _ => id)).lt b hb).1)
              obtain ⟨A3, c3, W4, run3, own4, gr3, at3⟩ := appTs_run W3 W.heap.size 57 (.slice A2 (0 + (old.take j).length + 1) c2) (0 + (old.take j).length + 1) ([] ++ old.take j ++ [⟨x, y, z⟩]) own3 0 (some ⟨g, j * 3, none⟩) (cv - j) (old.drop j) (by have := RdT.drop ((rdW : RdT 0 W _ _).below bW3 (Nat.le_refl _)) j; rwa [Nat.zero_add] at this) (by rw [List.length_take, List.length_drop]; omega) bW3.size
              have bW4 : Below W.heap.size W W4 := bW3.grown gr3 bW3.size (fun b hb => (own3.lt b hb).1)
              have l1 : (old.take j).length = j := by rw [List.length_take, Nat.min_eq_left hj]
              have l2 : (old.drop j).length = old.length - j := List.length_drop ..
              have hlen : new.length = j + 1 + (old.length - j) := by rw [hnw.out]; simp only [List.length_append, l1, l2, List.length_singleton]
              simp only [l1, l2, Nat.zero_add, List.nil_append] at run1 own2 run2 own3 run3 own4 bW2 bW2t bW3
              rw [← hnw.out] at own4
              have FIN : Hid (W4.ownsRow w.heap.size 50 3 (.slice A3 (j + 1 + (old.length - j)) c3) new.length ((flat new).map encI) ∧ Below w.heap.size w W4) := by
                have hbW := below_up H1.out.2.1 BX.out
                refine ⟨?_, below_up hbW bW4⟩
                rw [hlen]
                exact own_low3 own4 hbW.size
              obtain ⟨d0, d1, d2, _, _, _⟩ := row3 ((bW2.block _ (lt_blk2 tW)).trans tW)
              have RR1 := Lib.hid run1
              have RR2 := Lib.hid run2
              have RR3 := Lib.hid run3
              clear run1 run2 run3 own2 own3 own4 gr1 gr2 gr3 at1 at2 at3 bW2 bW2t bW3 bW4 rdW tW l1 l2 hlen BX
              go_wp2_with (first
                | (at_builtin; refine wpList_append_run (o := ⟨some 49, _, _, _, _, _⟩) rfl _ _ _ rfl rfl rfl RR1.out ?_)
                | (at_builtin; refine wpList_append_run (o := ⟨some 53, _, _, _, _, _⟩) rfl _ _ _ rfl rfl rfl RR2.out ?_)
                | (at_builtin; refine wpList_append_run (o := ⟨some 58, _, _, _, _, _⟩) rfl _ _ _ rfl rfl rfl RR3.out ?_))
              go_roundw
              case rel => exact ⟨k + 1, by omega, by go_num, by rw [HE.out]; exact FIN.out⟩
              case measure => simp [intOf]; omega
        · have hje : j = old.length := by omega
          have hnw := Lib.hid (hnew.out j hj HX.out.2 (fun h => absurd h hjm))
          subst hje
          have hTrue : True := trivial
          have RW1 : Hid (RdT 0 W1 V old) := by
            rcases own_nil_len H1.out.1 with ⟨rfl, hm0, rfl⟩ | ⟨g, rfl⟩
            · have : old = [] := List.length_eq_zero_iff.1 hm0
              rw [this]
              exact Rd.nil
            · by_cases h0 : old.length = 0
              · have : old = [] := List.length_eq_zero_iff.1 h0
                rw [this]
                exact Rd.nil
              · obtain ⟨g', cap, eV, hbg, hgw, hnc, hcm, R⟩ := Row3.of_own H1.out.1 rfl (by omega)
                injection eV with eV1 _ eV2
                injection eV1 with eV1
                injection eV1 with eV1
                subst eV1
                exact R.rd (Nat.zero_le g)
          rcases own_nil_len H1.out.1 with ⟨rfl, hm0, rfl⟩ | ⟨g, rfl⟩
          · obtain rfl : old = [] := List.length_eq_zero_iff.1 hm0
            simp only [List.length_nil] at *
            go_wp2_with fail
            refine wp_region_held_drew (S := fun w' => True) (by kernel_rfl) trivial (fun hHeld => ?_)
            refine wpAnyH_take (i := 0) (oi := ?o37) (v := ?v37) ?hi37 (by kernel_rfl) (by kernel_rfl) (by kernel_rfl) ?hQ37 ?hy37 (by assumption) ?rest37
            case hi37 => (simp only [List.getElem?_toArray, List.getElem?_cons_succ, List.getElem?_cons_zero]; rfl)
            case hQ37 => exact fun _ _ _ h => h
            case hy37 => (refine Or.inl ⟨by rfl, ?_⟩; intro w hSw; (try dsimp only at hSw); go_simp; (try with_reducible rfl))
            try simp only [Act.put, List.setIfInBounds_toArray, List.set_cons_zero, List.set_cons_succ]
            refine wpAnyH_take (i := 1) (oi := ?o38) (v := ?v38) ?hi38 (by kernel_rfl) (by kernel_rfl) (by kernel_rfl) ?hQ38 ?hy38 (by assumption) ?rest38
            case hi38 => (simp only [List.getElem?_toArray, List.getElem?_cons_succ, List.getElem?_cons_zero]; rfl)
            case hQ38 => exact fun _ _ _ h => h
            case hy38 => (refine Or.inl ⟨by rfl, ?_⟩; intro w hSw; (try dsimp only at hSw); go_simp; (try with_reducible rfl))
            try simp only [Act.put, List.setIfInBounds_toArray, List.set_cons_zero, List.set_cons_succ]
            refine wpAnyH_take (i := 2) (oi := ?o39) (v := ?v39) ?hi39 (by kernel_rfl) (by kernel_rfl) (by kernel_rfl) ?hQ39 ?hy39 (by assumption) ?rest39
            case hi39 => (simp only [List.getElem?_toArray, List.getElem?_cons_succ, List.getElem?_cons_zero]; rfl)
            case hQ39 => exact fun _ _ _ h => h
            case hy39 => (refine Or.inl ⟨by rfl, ?_⟩; intro w hSw; (try dsimp only at hSw); go_simp; (try with_reducible rfl))
            try simp only [Act.put, List.setIfInBounds_toArray, List.set_cons_zero, List.set_cons_succ]
            refine wpAnyH_take (i := 3) (oi := ?o40) (v := ?v40) ?hi40 (by kernel_rfl) (by kernel_rfl) (by kernel_rfl) ?hQ40 ?hy40 (by assumption) ?rest40
            case hi40 => (simp only [List.getElem?_toArray, List.getElem?_cons_succ, List.getElem?_cons_zero]; rfl)
            case hQ40 => exact fun _ _ _ h => h
            case hy40 => (refine Or.inl ⟨by rfl, ?_⟩; intro w hSw; (try dsimp only at hSw); go_simp; (try with_reducible rfl))
            try simp only [Act.put, List.setIfInBounds_toArray, List.set_cons_zero, List.set_cons_succ]
            refine wpAnyH_take (i := 4) (oi := ?o41) (v := ?v41) ?hi41 (by kernel_rfl) (by kernel_rfl) (by kernel_rfl) ?hQ41 ?hy41 (by assumption) ?rest41
            case hi41 => (simp only [List.getElem?_toArray, List.getElem?_cons_succ, List.getElem?_cons_zero]; rfl)
            case hQ41 => exact fun _ _ _ h => h
            case hy41 => (refine Or.inl ⟨by rfl, ?_⟩; intro w hSw; (try dsimp only at hSw); go_simp; (try with_reducible rfl))
            try simp only [Act.put, List.setIfInBounds_toArray, List.set_cons_zero, List.set_cons_succ]
            refine wpAnyH_take (i := 5) (oi := ?o42) (v := undef) ?hi42 (by kernel_rfl) (by kernel_rfl) (by kernel_rfl) ?hQ42 ?hy42 (by assumption) ?rest42
            case hi42 => (simp only [List.getElem?_toArray, List.getElem?_cons_succ, List.getElem?_cons_zero]; rfl)
            case hQ42 => exact fun _ _ _ h => h
            case hy42 => exact Or.inr ⟨by rfl, rfl⟩
            try simp only [Act.put, List.setIfInBounds_toArray, List.set_cons_zero, List.set_cons_succ]
            refine wpAnyH_take (i := 6) (oi := ?o43) (v := undef) ?hi43 (by kernel_rfl) (by kernel_rfl) (by kernel_rfl) ?hQ43 ?hy43 (by assumption) ?rest43
            case hi43 => (simp only [List.getElem?_toArray, List.getElem?_cons_succ, List.getElem?_cons_zero]; rfl)
            case hQ43 => exact fun _ _ _ h => h
            case hy43 => exact Or.inr ⟨by rfl, rfl⟩
            try simp only [Act.put, List.setIfInBounds_toArray, List.set_cons_zero, List.set_cons_succ]
            refine wpAnyH_take (i := 7) (oi := ?o44) (v := undef) ?hi44 (by kernel_rfl) (by kernel_rfl) (by kernel_rfl) ?hQ44 ?hy44 (by assumption) ?rest44
            case hi44 => (simp only [List.getElem?_toArray, List.getElem?_cons_succ, List.getElem?_cons_zero]; rfl)
            case hQ44 => exact fun _ _ _ h => h
            case hy44 => exact Or.inr ⟨by rfl, rfl⟩
            try simp only [Act.put, List.setIfInBounds_toArray, List.set_cons_zero, List.set_cons_succ]
            refine wpAnyH_take (i := 8) (oi := ?o45) (v := undef) ?hi45 (by kernel_rfl) (by kernel_rfl) (by kernel_rfl) ?hQ45 ?hy45 (by assumption) ?rest45
            case hi45 => (simp only [List.getElem?_toArray, List.getElem?_cons_succ, List.getElem?_cons_zero]; rfl)
            case hQ45 => exact fun _ _ _ h => h
            case hy45 => exact Or.inr ⟨by rfl, rfl⟩
            try simp only [Act.put, List.setIfInBounds_toArray, List.set_cons_zero, List.set_cons_succ]
            refine wpAnyH_take (i := 9) (oi := ?o46) (v := undef) ?hi46 (by kernel_rfl) (by kernel_rfl) (by kernel_rfl) ?hQ46 ?hy46 (by assumption) ?rest46
            case hi46 => (simp only [List.getElem?_toArray, List.getElem?_cons_succ, List.getElem?_cons_zero]; rfl)
            case hQ46 => exact fun _ _ _ h => h
            case hy46 => exact Or.inr ⟨by rfl, rfl⟩
            try simp only [Act.put, List.setIfInBounds_toArray, List.set_cons_zero, List.set_cons_succ]
            refine wpAnyH_take (i := 10) (oi := ?o47) (v := undef) ?hi47 (by kernel_rfl) (by kernel_rfl) (by kernel_rfl) ?hQ47 ?hy47 (by assumption) ?rest47
            case hi47 => (simp only [List.getElem?_toArray, List.getElem?_cons_succ, List.getElem?_cons_zero]; rfl)
            case hQ47 => exact fun _ _ _ h => h
            case hy47 => exact Or.inr ⟨by rfl, rfl⟩
            try simp only [Act.put, List.setIfInBounds_toArray, List.set_cons_zero, List.set_cons_succ]
            refine wpAnyH_take (i := 11) (oi := ?o48) (v := ?v48) ?hi48 (by kernel_rfl) (by kernel_rfl) (by kernel_rfl) ?hQ48 ?hy48 (by assumption) ?rest48
            case hi48 => (simp only [List.getElem?_toArray, List.getElem?_cons_succ, List.getElem?_cons_zero]; rfl)
            case hQ48 => exact fun _ _ _ h => h
            case hy48 => (refine Or.inl ⟨by rfl, ?_⟩; intro w hSw; (try dsimp only at hSw); go_simp; (try with_reducible rfl))
            try simp only [Act.put, List.setIfInBounds_toArray, List.set_cons_zero, List.set_cons_succ]
            refine wpAnyH_done (by kernel_rfl) ?_ _
            go_wp2_with fail
            go_quiet (fail)
            replace BX := Lib.hid (below_drewN BX.out nq)
            generalize wr.drew.drewN nq = W at *
            have tW := (BX.out.block _ (lt_blk2 H1.out.2.2)).trans H1.out.2.2
            obtain ⟨A1, c1, W2, run1, own2, gr1, at1⟩ := appTs_run W W.heap.size 57 (.slice none 0 0) 0 [] (World.ownsRow_nil W W.heap.size 50 3) 0 none 0 [] Rd.nil (by simp) (Nat.le_refl _)
            have bW2 : Below W.heap.size W W2 := (Below.refl _ _).grown gr1 (Nat.le_refl _) (fun b hb => by cases hb)
            have bW2t : Below W.heap.size W (W2.alloc (.cells #[.int .i64 x, .int .i64 y, .int .i64 z] 50)) := bW2.alloc bW2.size _
            obtain ⟨A2, c2, W3, run2, own3, gr2, at2⟩ := appT3_run (W2.alloc (.cells #[.int .i64 x, .int .i64 y, .int .i64 z] 50)) W.heap.size 57 (.slice A1 (0 + ([] : List T3).length) c1) (0 + ([] : List T3).length) ([] ++ []) (own_updK (F := fun _ => False) own2 (Upd.of_below ((Below.refl _ _).alloc (Nat.le_refl _) _)) (fun _ _ => id)) W2.heap.size 1 ⟨x, y, z⟩ (heap_alloc_new W2 _) (by simp) bW2t.size
            have bW3 : Below W.heap.size W W3 := bW2t.grown gr2 bW2t.size (fun b hb => ((own_updK (F := fun _ => False) own2 (Upd.of_below ((Below.refl _ _).alloc (Nat.le_refl _) (.cells #[.int .i64 x, .int .i64 y, .int .i64 z] 50))) (fun _ _ => id)).lt b hb).1)
            obtain ⟨A3, c3, W4, run3, own4, gr3, at3⟩ := appTs_run W3 W.heap.size 57 (.slice A2 (0 + ([] : List T3).length + 1) c2) (0 + ([] : List T3).length + 1) ([] ++ [] ++ [⟨x, y, z⟩]) own3 0 none 0 [] Rd.nil (by simp) bW3.size
            have bW4 : Below W.heap.size W W4 := bW3.grown gr3 bW3.size (fun b hb => (own3.lt b hb).1)
            have hlen : new.length = 0 + 1 := by rw [hnw.out]; simp
            simp only [Nat.zero_add, List.nil_append, List.length_nil, Nat.add_zero] at run1 run2 run3 own4
            rw [show [(⟨x, y, z⟩ : T3)] = new by rw [hnw.out]; simp, List.append_nil] at own4
            have FIN : Hid (W4.ownsRow w.heap.size 50 3 (.slice A3 (0 + 1) c3) new.length ((flat new).map encI) ∧ Below w.heap.size w W4) := by
              have hbW := below_up H1.out.2.1 BX.out
              refine ⟨?_, below_up hbW bW4⟩
              rw [hlen]
              exact own_low3 own4 hbW.size
            obtain ⟨d0, d1, d2, _, _, _⟩ := row3 ((bW2.block _ (lt_blk2 tW)).trans tW)
            have RR1 := Lib.hid run1
            have RR2 := Lib.hid run2
            have RR3 := Lib.hid run3
            clear run1 run2 run3 own2 own3 own4 gr1 gr2 gr3 at1 at2 at3 bW2 bW2t bW3 bW4 tW hlen BX
            go_wp2_with (first
              | (at_builtin; refine wpList_append_run (o := ⟨some 49, _, _, _, _, _⟩) rfl _ _ _ rfl rfl rfl RR1.out ?_)
              | (at_builtin; refine wpList_append_run (o := ⟨some 53, _, _, _, _, _⟩) rfl _ _ _ rfl rfl rfl RR2.out ?_)
              | (at_builtin; refine wpList_append_run (o := ⟨some 58, _, _, _, _, _⟩) rfl _ _ _ rfl rfl rfl RR3.out ?_))
            go_roundw
            case rel => exact ⟨k + 1, by omega, by go_num, by rw [HE.out]; exact FIN.out⟩
            case measure => simp [intOf]; omega
          · go_wp2_with fail
            refine wp_region_held_drew (S := fun w' => True) (by kernel_rfl) trivial (fun hHeld => ?_)
            refine wpAnyH_take (i := 0) (oi := ?o49) (v := ?v49) ?hi49 (by kernel_rfl) (by kernel_rfl) (by kernel_rfl) ?hQ49 ?hy49 (by assumption) ?rest49
            case hi49 => (simp only [List.getElem?_toArray, List.getElem?_cons_succ, List.getElem?_cons_zero]; rfl)
            case hQ49 => exact fun _ _ _ h => h
            case hy49 => (refine Or.inl ⟨by rfl, ?_⟩; intro w hSw; (try dsimp only at hSw); go_simp; (try with_reducible rfl))
            try simp only [Act.put, List.setIfInBounds_toArray, List.set_cons_zero, List.set_cons_succ]
            refine wpAnyH_take (i := 1) (oi := ?o50) (v := ?v50) ?hi50 (by kernel_rfl) (by kernel_rfl) (by kernel_rfl) ?hQ50 ?hy50 (by assumption) ?rest50
            case hi50 => (simp only [List.getElem?_toArray, List.getElem?_cons_succ, List.getElem?_cons_zero]; rfl)
            case hQ50 => exact fun _ _ _ h => h
            case hy50 => (refine Or.inl ⟨by rfl, ?_⟩; intro w hSw; (try dsimp only at hSw); go_simp; (try with_reducible rfl))
            try simp only [Act.put, List.setIfInBounds_toArray, List.set_cons_zero, List.set_cons_succ]
            refine wpAnyH_take (i := 2) (oi := ?o51) (v := ?v51) ?hi51 (by kernel_rfl) (by kernel_rfl) (by kernel_rfl) ?hQ51 ?hy51 (by assumption) ?rest51
            case hi51 => (simp only [List.getElem?_toArray, List.getElem?_cons_succ, List.getElem?_cons_zero]; rfl)
            case hQ51 => exact fun _ _ _ h => h
            case hy51 => (refine Or.inl ⟨by rfl, ?_⟩; intro w hSw; (try dsimp only at hSw); go_simp; (try with_reducible rfl))
            try simp only [Act.put, List.setIfInBounds_toArray, List.set_cons_zero, List.set_cons_succ]
            refine wpAnyH_take (i := 3) (oi := ?o52) (v := ?v52) ?hi52 (by kernel_rfl) (by kernel_rfl) (by kernel_rfl) ?hQ52 ?hy52 (by assumption) ?rest52
            case hi52 => (simp only [List.getElem?_toArray, List.getElem?_cons_succ, List.getElem?_cons_zero]; rfl)
            case hQ52 => exact fun _ _ _ h => h
            case hy52 => (refine Or.inl ⟨by rfl, ?_⟩; intro w hSw; (try dsimp only at hSw); go_simp; (try with_reducible rfl))
            try simp only [Act.put, List.setIfInBounds_toArray, List.set_cons_zero, List.set_cons_succ]
            refine wpAnyH_take (i := 4) (oi := ?o53) (v := ?v53) ?hi53 (by kernel_rfl) (by kernel_rfl) (by kernel_rfl) ?hQ53 ?hy53 (by assumption) ?rest53
            case hi53 => (simp only [List.getElem?_toArray, List.getElem?_cons_succ, List.getElem?_cons_zero]; rfl)
            case hQ53 => exact fun _ _ _ h => h
            case hy53 => (refine Or.inl ⟨by rfl, ?_⟩; intro w hSw; (try dsimp only at hSw); go_simp; (try with_reducible rfl))
            try simp only [Act.put, List.setIfInBounds_toArray, List.set_cons_zero, List.set_cons_succ]
            refine wpAnyH_take (i := 5) (oi := ?o54) (v := undef) ?hi54 (by kernel_rfl) (by kernel_rfl) (by kernel_rfl) ?hQ54 ?hy54 (by assumption) ?rest54
            case hi54 => (simp only [List.getElem?_toArray, List.getElem?_cons_succ, List.getElem?_cons_zero]; rfl)
            case hQ54 => exact fun _ _ _ h => h
            case hy54 => exact Or.inr ⟨by rfl, rfl⟩
            try simp only [Act.put, List.setIfInBounds_toArray, List.set_cons_zero, List.set_cons_succ]
            refine wpAnyH_take (i := 6) (oi := ?o55) (v := undef) ?hi55 (by kernel_rfl) (by kernel_rfl) (by kernel_rfl) ?hQ55 ?hy55 (by assumption) ?rest55
            case hi55 => (simp only [List.getElem?_toArray, List.getElem?_cons_succ, List.getElem?_cons_zero]; rfl)
            case hQ55 => exact fun _ _ _ h => h
            case hy55 => exact Or.inr ⟨by rfl, rfl⟩
            try simp only [Act.put, List.setIfInBounds_toArray, List.set_cons_zero, List.set_cons_succ]
            refine wpAnyH_take (i := 7) (oi := ?o56) (v := undef) ?hi56 (by kernel_rfl) (by kernel_rfl) (by kernel_rfl) ?hQ56 ?hy56 (by assumption) ?rest56
            case hi56 => (simp only [List.getElem?_toArray, List.getElem?_cons_succ, List.getElem?_cons_zero]; rfl)
            case hQ56 => exact fun _ _ _ h => h
            case hy56 => exact Or.inr ⟨by rfl, rfl⟩
            try simp only [Act.put, List.setIfInBounds_toArray, List.set_cons_zero, List.set_cons_succ]
            refine wpAnyH_take (i := 8) (oi := ?o57) (v := undef) ?hi57 (by kernel_rfl) (by kernel_rfl) (by kernel_rfl) ?hQ57 ?hy57 (by assumption) ?rest57
            case hi57 => (simp only [List.getElem?_toArray, List.getElem?_cons_succ, List.getElem?_cons_zero]; rfl)
            case hQ57 => exact fun _ _ _ h => h
            case hy57 => exact Or.inr ⟨by rfl, rfl⟩
            try simp only [Act.put, List.setIfInBounds_toArray, List.set_cons_zero, List.set_cons_succ]
            refine wpAnyH_take (i := 9) (oi := ?o58) (v := undef) ?hi58 (by kernel_rfl) (by kernel_rfl) (by kernel_rfl) ?hQ58 ?hy58 (by assumption) ?rest58
            case hi58 => (simp only [List.getElem?_toArray, List.getElem?_cons_succ, List.getElem?_cons_zero]; rfl)
            case hQ58 => exact fun _ _ _ h => h
            case hy58 => exact Or.inr ⟨by rfl, rfl⟩
            try simp only [Act.put, List.setIfInBounds_toArray, List.set_cons_zero, List.set_cons_succ]
            refine wpAnyH_take (i := 10) (oi := ?o59) (v := undef) ?hi59 (by kernel_rfl) (by kernel_rfl) (by kernel_rfl) ?hQ59 ?hy59 (by assumption) ?rest59
            case hi59 => (simp only [List.getElem?_toArray, List.getElem?_cons_succ, List.getElem?_cons_zero]; rfl)
            case hQ59 => exact fun _ _ _ h => h
            case hy59 => exact Or.inr ⟨by rfl, rfl⟩
            try simp only [Act.put, List.setIfInBounds_toArray, List.set_cons_zero, List.set_cons_succ]
            refine wpAnyH_take (i := 11) (oi := ?o60) (v := ?v60) ?hi60 (by kernel_rfl) (by kernel_rfl) (by kernel_rfl) ?hQ60 ?hy60 (by assumption) ?rest60
            case hi60 => (simp only [List.getElem?_toArray, List.getElem?_cons_succ, List.getElem?_cons_zero]; rfl)
            case hQ60 => exact fun _ _ _ h => h
            case hy60 => (refine Or.inl ⟨by rfl, ?_⟩; intro w hSw; (try dsimp only at hSw); go_simp; (try with_reducible rfl))
            try simp only [Act.put, List.setIfInBounds_toArray, List.set_cons_zero, List.set_cons_succ]
            refine wpAnyH_done (by kernel_rfl) ?_ _
            go_wp2_with fail
            go_quiet (fail)
            replace BX := Lib.hid (below_drewN BX.out nq)
            generalize wr.drew.drewN nq = W at *
            by_cases hcj : cv = old.length
            · subst hcj
              have rdW := RW1.out.below BX.out (Nat.le_refl _)
              have tW := (BX.out.block _ (lt_blk2 H1.out.2.2)).trans H1.out.2.2
              obtain ⟨A1, c1, W2, run1, own2, gr1, at1⟩ := appTs_run W W.heap.size 57 (.slice none 0 0) 0 [] (World.ownsRow_nil W W.heap.size 50 3) 0 (some ⟨g, 0, none⟩) old.length (old.take old.length) (RdT.take rdW old.length) (by rw [List.length_take]; omega) (Nat.le_refl _)
              have bW2 : Below W.heap.size W W2 := (Below.refl _ _).grown gr1 (Nat.le_refl _) (fun b hb => by cases hb)
              have bW2t : Below W.heap.size W (W2.alloc (.cells #[.int .i64 x, .int .i64 y, .int .i64 z] 50)) := bW2.alloc bW2.size _
              obtain ⟨A2, c2, W3, run2, own3, gr2, at2⟩ := appT3_run (W2.alloc (.cells #[.int .i64 x, .int .i64 y, .int .i64 z] 50)) W.heap.size 57 (.slice A1 (0 + (old.take old.length).length) c1) (0 + (old.take old.length).length) ([] ++ old.take old.length) (own_updK (F := fun _ => False) own2 (Upd.of_below ((Below.refl _ _).alloc (Nat.le_refl _) _)) (fun _ _ => id)) W2.heap.size 1 ⟨x, y, z⟩ (heap_alloc_new W2 _) (by rw [List.length_take]; omega) bW2t.size
              have bW3 : Below W.heap.size W W3 := bW2t.grown gr2 bW2t.size (fun b hb => ((own_updK (F := fun _ => False) own2 (Upd.of_below ((Below.refl _ _).alloc (Nat.le_refl _) (.cells #[.int .i64 x, .int .i64 y, .int .i64 z] 50))) (fun _ _ => id)).lt b hb).1)
              obtain ⟨A3, c3, W4, run3, own4, gr3, at3⟩ := appTs_run W3 W.heap.size 57 (.slice A2 (0 + (old.take old.length).length + 1) c2) (0 + (old.take old.length).length + 1) ([] ++ old.take old.length ++ [⟨x, y, z⟩]) own3 0 (some ⟨g, 0, none⟩) 0 [] Rd.nil (by rw [List.length_take, List.length_nil]; omega) bW3.size
              have bW4 : Below W.heap.size W W4 := bW3.grown gr3 bW3.size (fun b hb => (own3.lt b hb).1)
              have l1 : (old.take old.length).length = old.length := by rw [List.length_take, Nat.min_self]
              have hlen : new.length = old.length + 1 := by rw [hnw.out]; simp
              simp only [l1, Nat.zero_add, List.nil_append, List.length_nil, Nat.add_zero] at run1 run2 run3 own4
              rw [List.append_nil, show old.take old.length ++ [(⟨x, y, z⟩ : T3)] = new by rw [hnw.out]; simp] at own4
              have FIN : Hid (W4.ownsRow w.heap.size 50 3 (.slice A3 (old.length + 1) c3) new.length ((flat new).map encI) ∧ Below w.heap.size w W4) := by
                have hbW := below_up H1.out.2.1 BX.out
                refine ⟨?_, below_up hbW bW4⟩
                rw [hlen]
                exact own_low3 own4 hbW.size
              obtain ⟨d0, d1, d2, _, _, _⟩ := row3 ((bW2.block _ (lt_blk2 tW)).trans tW)
              have RR1 := Lib.hid run1
              have RR2 := Lib.hid run2
              have RR3 := Lib.hid run3
              clear run1 run2 run3 own2 own3 own4 gr1 gr2 gr3 at1 at2 at3 bW2 bW2t bW3 bW4 rdW tW l1 hlen BX
              go_wp2_with (first
                | (at_builtin; refine wpList_append_run (o := ⟨some 49, _, _, _, _, _⟩) rfl _ _ _ rfl rfl rfl RR1.out ?_)
                | (at_builtin; refine wpList_append_run (o := ⟨some 53, _, _, _, _, _⟩) rfl _ _ _ rfl rfl rfl RR2.out ?_)
                | (at_builtin; refine wpList_append_run (o := ⟨some 58, _, _, _, _, _⟩) rfl _ _ _ rfl rfl rfl RR3.out ?_))
              go_roundw
              case rel => exact ⟨k + 1, by omega, by go_num, by rw [HE.out]; exact FIN.out⟩
              case measure => simp [intOf]; omega
            · have hcj2 : ¬ old.length = cv := fun h => hcj h.symm
              have rdW := RW1.out.below BX.out (Nat.le_refl _)
              have tW := (BX.out.block _ (lt_blk2 H1.out.2.2)).trans H1.out.2.2
              obtain ⟨A1, c1, W2, run1, own2, gr1, at1⟩ := appTs_run W W.heap.size 57 (.slice none 0 0) 0 [] (World.ownsRow_nil W W.heap.size 50 3) 0 (some ⟨g, 0, none⟩) cv (old.take old.length) (RdT.take rdW old.length) (by rw [List.length_take]; omega) (Nat.le_refl _)
              have bW2 : Below W.heap.size W W2 := (Below.refl _ _).grown gr1 (Nat.le_refl _) (fun b hb => by cases hb)
              have bW2t : Below W.heap.size W (W2.alloc (.cells #[.int .i64 x, .int .i64 y, .int .i64 z] 50)) := bW2.alloc bW2.size _
              obtain ⟨A2, c2, W3, run2, own3, gr2, at2⟩ := appT3_run (W2.alloc (.cells #[.int .i64 x, .int .i64 y, .int .i64 z] 50)) W.heap.size 57 (.slice A1 (0 + (old.take old.length).length) c1) (0 + (old.take old.length).length) ([] ++ old.take old.length) (own_updK (F := fun _ => False) own2 (Upd.of_below ((Below.refl _ _).alloc (Nat.le_refl _) _)) (fun _ _ => id)) W2.heap.size 1 ⟨x, y, z⟩ (heap_alloc_new W2 _) (by rw [List.length_take]; omega) bW2t.size
              have bW3 : Below W.heap.size W W3 := bW2t.grown gr2 bW2t.size (fun b hb => ((own_updK (F := fun _ => False) own2 (Upd.of_below ((Below.refl _ _).alloc (Nat.le_refl _) (.cells #[.int .i64 x, .int .i64 y, .int .i64 z] 50))) (fun _ _ => id)).lt b hb).1)
              obtain ⟨A3, c3, W4, run3, own4, gr3, at3⟩ := appTs_run W3 W.heap.size 57 (.slice A2 (0 + (old.take old.length).length + 1) c2) (0 + (old.take old.length).length + 1) ([] ++ old.take old.length ++ [⟨x, y, z⟩]) own3 0 (some ⟨g, old.length * 3, none⟩) (cv - old.length) [] Rd.nil (by rw [List.length_take, List.length_nil]; omega) bW3.size
              have bW4 : Below W.heap.size W W4 := bW3.grown gr3 bW3.size (fun b hb => (own3.lt b hb).1)
              have l1 : (old.take old.length).length = old.length := by rw [List.length_take, Nat.min_self]
              have hlen : new.length = old.length + 1 := by rw [hnw.out]; simp
              simp only [l1, Nat.zero_add, List.nil_append, List.length_nil, Nat.add_zero] at run1 run2 run3 own4
              rw [List.append_nil, show old.take old.length ++ [(⟨x, y, z⟩ : T3)] = new by rw [hnw.out]; simp] at own4
              have FIN : Hid (W4.ownsRow w.heap.size 50 3 (.slice A3 (old.length + 1) c3) new.length ((flat new).map encI) ∧ Below w.heap.size w W4) := by
                have hbW := below_up H1.out.2.1 BX.out
                refine ⟨?_, below_up hbW bW4⟩
                rw [hlen]
                exact own_low3 own4 hbW.size
              obtain ⟨d0, d1, d2, _, _, _⟩ := row3 ((bW2.block _ (lt_blk2 tW)).trans tW)
              have RR1 := Lib.hid run1
              have RR2 := Lib.hid run2
              have RR3 := Lib.hid run3
              clear run1 run2 run3 own2 own3 own4 gr1 gr2 gr3 at1 at2 at3 bW2 bW2t bW3 bW4 rdW tW l1 hlen BX
              go_wp2_with (first
                | (at_builtin; refine wpList_append_run (o := ⟨some 49, _, _, _, _, _⟩) rfl _ _ _ rfl rfl rfl RR1.out ?_)
                | (at_builtin; refine wpList_append_run (o := ⟨some 53, _, _, _, _, _⟩) rfl _ _ _ rfl rfl rfl RR2.out ?_)
                | (at_builtin; refine wpList_append_run (o := ⟨some 58, _, _, _, _, _⟩) rfl _ _ _ rfl rfl rfl RR3.out ?_))
              go_roundw
              case rel => exact ⟨k + 1, by omega, by go_num, by rw [HE.out]; exact FIN.out⟩
              case measure => simp [intOf]; omega
    · have hkn : k = n := by omega
      subst hkn
      have e1 : (xs.take k).map canon = xs.map canon := by rw [List.take_of_length_le (by rw [HN.out]; exact Nat.le_refl _)]
      have own1 := HV.out.1
      rw [e1] at own1
      have B1 := Lib.hid HV.out.2
      rw [e1]
      have FIN : Hid (RdT w.heap.size wr V (sset (xs.map canon))) := by
        by_cases h0 : (sset (xs.map canon)).length = 0
        · have : sset (xs.map canon) = [] := List.length_eq_zero_iff.1 h0
          rw [this]
          exact Rd.nil
        · obtain ⟨g', cap, eV, hbg, hgw, hnc, hcm, R⟩ := Row3.of_own own1 rfl (by omega)
          injection eV with eV1 _ eV2
          rw [eV1]
          exact R.rd hbg
      clear own1 HV
      go_wp2
      go_ret
      exact ⟨V, cv, rfl, FIN.out, B1.out⟩
end Go.Proofs.Ytojecaeblgghjaa
