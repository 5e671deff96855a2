/-
  carapaceref2.changed. (Printed by mkrefchg.py.)
-/
import Derived.Test.YtojecaeblgghjaaMovG
import Derived.Deep.LoopGhost
import Derived.Deep.RegionHeld3
set_option linter.unusedVariables false
set_option linter.unusedSimpArgs false
namespace Go.Proofs.Ytojecaeblgghjaa
open Go.RowKit Go.Sort LsP

theorem bz0 : ∀ m : Nat, m < 85 → (bits BinOp.and IntKind.i64 (m : Int) 1 == 0) = !bitM m 0 := by decide +kernel
theorem bz1 : ∀ m : Nat, m < 85 → (bits BinOp.and IntKind.i64 ((m : Int) / 2) 1 == 0) = !bitM m 1 := by decide +kernel
theorem bz2 : ∀ m : Nat, m < 85 → (bits BinOp.and IntKind.i64 ((m : Int) / 4) 1 == 0) = !bitM m 2 := by decide +kernel
theorem bz3 : ∀ m : Nat, m < 85 → (bits BinOp.and IntKind.i64 ((m : Int) / 8) 1 == 0) = !bitM m 3 := by decide +kernel
theorem bz4 : ∀ m : Nat, m < 85 → (bits BinOp.and IntKind.i64 ((m : Int) / 16) 1 == 0) = !bitM m 4 := by decide +kernel
theorem bz5 : ∀ m : Nat, m < 85 → (bits BinOp.and IntKind.i64 ((m : Int) / 32) 1 == 0) = !bitM m 5 := by decide +kernel
theorem bz6 : ∀ m : Nat, m < 85 → (bits BinOp.and IntKind.i64 ((m : Int) / 64) 1 == 0) = !bitM m 6 := by decide +kernel
theorem bz7 : ∀ m : Nat, m < 85 → (bits BinOp.and IntKind.i64 ((m : Int) / 128) 1 == 0) = !bitM m 7 := by decide +kernel
theorem bz8 : ∀ m : Nat, m < 85 → (bits BinOp.and IntKind.i64 ((m : Int) / 256) 1 == 0) = !bitM m 8 := by decide +kernel
theorem bz9 : ∀ m : Nat, m < 85 → (bits BinOp.and IntKind.i64 ((m : Int) / 512) 1 == 0) = !bitM m 9 := by decide +kernel
theorem bz10 : ∀ m : Nat, m < 85 → (bits BinOp.and IntKind.i64 ((m : Int) / 1024) 1 == 0) = !bitM m 10 := by decide +kernel
theorem bz11 : ∀ m : Nat, m < 85 → (bits BinOp.and IntKind.i64 ((m : Int) / 2048) 1 == 0) = !bitM m 11 := by decide +kernel

theorem ub0 : ∀ u : Nat, u < 8 → (bits BinOp.and IntKind.i64 (u : Int) 1 == 1) = (u / 2 ^ 0 % 2 == 1) := by decide +kernel
theorem ub1 : ∀ u : Nat, u < 8 → (bits BinOp.and IntKind.i64 ((u : Int) / 2) 1 == 1) = (u / 2 ^ 1 % 2 == 1) := by decide +kernel
theorem ub2 : ∀ u : Nat, u < 8 → (bits BinOp.and IntKind.i64 ((u : Int) / 4) 1 == 1) = (u / 2 ^ 2 % 2 == 1) := by decide +kernel

theorem uo0 : ∀ u : Nat, u < 8 → ¬ u / 2 ^ 0 % 2 = 1 → bits BinOp.or IntKind.i64 (u : Int) 1 = ((u + 1 : Nat) : Int) := by decide +kernel
theorem uo1 : ∀ u : Nat, u < 8 → ¬ u / 2 ^ 1 % 2 = 1 → bits BinOp.or IntKind.i64 (u : Int) 2 = ((u + 2 : Nat) : Int) := by decide +kernel
theorem uo2 : ∀ u : Nat, u < 8 → ¬ u / 2 ^ 2 % 2 = 1 → bits BinOp.or IntKind.i64 (u : Int) 4 = ((u + 4 : Nat) : Int) := by decide +kernel

theorem ul0 : ∀ u : Nat, u < 8 → ¬ u / 2 ^ 0 % 2 = 1 → u + 1 < 8 := by decide +kernel
theorem ul1 : ∀ u : Nat, u < 8 → ¬ u / 2 ^ 1 % 2 = 1 → u + 2 < 8 := by decide +kernel
theorem ul2 : ∀ u : Nat, u < 8 → ¬ u / 2 ^ 2 % 2 = 1 → u + 4 < 8 := by decide +kernel

/-- A row becomes a unit. -/
def rowK (A : List Int) (r k : Nat) : List Int := (((A.set (4 * r) (if k = 2 then 1 else 0)).set (4 * r + 1) (if k = 1 then 1 else 0)).set (4 * r + 2) (if k = 0 then 1 else 0)).set (4 * r + 3) 0
def chg2 (m r k : Nat) (s : List Int × Nat × Nat) : Option (List Int × Nat × Nat) :=
  if bitM m (3 * r + k) = true then (if 1 < s.2.2 + 1 ∨ s.2.1 / 2 ^ k % 2 = 1 then none else some (rowK s.1 r k, s.2.1 + 2 ^ k, s.2.2 + 1)) else some s
def chgK (m r : Nat) : Nat → List Int × Nat × Nat → Option (List Int × Nat × Nat)
  | 0, s => some s
  | k + 1, s => (chgK m r k s).bind (chg2 m r k)
def chgR (m : Nat) (A0 : List Int) : Nat → Option (List Int × Nat)
  | 0 => some (A0, 0)
  | r + 1 => (chgR m A0 r).bind fun s => (chgK m r 3 (s.1, s.2, 0)).map fun s => (s.1, s.2.1)

theorem chgK_none {m r : Nat} {s : List Int × Nat × Nat} : ∀ {k j : Nat}, k ≤ j → chgK m r k s = none → chgK m r j s = none := by
  intro k j h
  induction h with
  | refl => exact id
  | step _ ih => intro h; rw [chgK, ih h]; rfl
theorem chgR_none {m : Nat} {A0 : List Int} : ∀ {k j : Nat}, k ≤ j → chgR m A0 k = none → chgR m A0 j = none := by
  intro k j h
  induction h with
  | refl => exact id
  | step _ ih => intro h; rw [chgR, ih h]; rfl
theorem chg2_len {m r k : Nat} {s s' : List Int × Nat × Nat} (h : chg2 m r k s = some s') : s'.1.length = s.1.length ∧ s'.2.2 ≤ s.2.2 + 1 := by
  unfold chg2 at h
  split at h
  · split at h
    · cases h
    · injection h with h
      subst h
      simp [rowK]
  · injection h with h
    subst h
    exact ⟨rfl, by omega⟩
theorem chgK_len {m r : Nat} {s : List Int × Nat × Nat} : ∀ {k : Nat} {s' : List Int × Nat × Nat}, chgK m r k s = some s' → s'.1.length = s.1.length
  | 0, s', h => by injection h with h; subst h; rfl
  | k + 1, s', h => by
    rw [chgK] at h
    obtain ⟨s1, h1, h2⟩ := Option.bind_eq_some_iff.1 h
    exact (chg2_len h2).1.trans (chgK_len h1)
theorem chgK_n {m r : Nat} {A : List Int} {u : Nat} : ∀ {k : Nat} {s' : List Int × Nat × Nat}, chgK m r k (A, u, 0) = some s' → s'.2.2 ≤ k
  | 0, s', h => by injection h with h; subst h; exact Nat.le_refl _
  | k + 1, s', h => by
    rw [chgK] at h
    obtain ⟨s1, h1, h2⟩ := Option.bind_eq_some_iff.1 h
    have := (chg2_len h2).2
    have := chgK_n h1
    omega
theorem chgR_len {m : Nat} {A0 : List Int} : ∀ {r : Nat} {s : List Int × Nat}, chgR m A0 r = some s → s.1.length = A0.length
  | 0, s, h => by injection h with h; subst h; rfl
  | r + 1, s, h => by
    rw [chgR] at h
    obtain ⟨s1, h1, h2⟩ := Option.bind_eq_some_iff.1 h
    obtain ⟨s2, h3, h4⟩ := Option.map_eq_some_iff.1 h2
    subst h4
    exact (chgK_len h3).trans (chgR_len h1)

theorem cells_16 {w : World} {b : Nat} {A0 : List Int} {a0 a1 a2 a3 a4 a5 a6 a7 a8 a9 a10 a11 a12 a13 a14 a15 : Int} {t : TypeId} (hA : A0 = [a0, a1, a2, a3, a4, a5, a6, a7, a8, a9, a10, a11, a12, a13, a14, a15]) (h : w.heap[b]? = some (oI A0 t)) :
    w.cell? ⟨b, 0, none⟩ = some (.int .i64 a0) ∧ w.cell? ⟨b, 1, none⟩ = some (.int .i64 a1) ∧ w.cell? ⟨b, 2, none⟩ = some (.int .i64 a2) ∧ w.cell? ⟨b, 3, none⟩ = some (.int .i64 a3) ∧ w.cell? ⟨b, 4, none⟩ = some (.int .i64 a4) ∧ w.cell? ⟨b, 5, none⟩ = some (.int .i64 a5) ∧ w.cell? ⟨b, 6, none⟩ = some (.int .i64 a6) ∧ w.cell? ⟨b, 7, none⟩ = some (.int .i64 a7) ∧ w.cell? ⟨b, 8, none⟩ = some (.int .i64 a8) ∧ w.cell? ⟨b, 9, none⟩ = some (.int .i64 a9) ∧ w.cell? ⟨b, 10, none⟩ = some (.int .i64 a10) ∧ w.cell? ⟨b, 11, none⟩ = some (.int .i64 a11) ∧ w.cell? ⟨b, 12, none⟩ = some (.int .i64 a12) ∧ w.cell? ⟨b, 13, none⟩ = some (.int .i64 a13) ∧ w.cell? ⟨b, 14, none⟩ = some (.int .i64 a14) ∧ w.cell? ⟨b, 15, none⟩ = some (.int .i64 a15) := by
  subst hA
  simp [World.cell?, h]

set_option maxHeartbeats 16000000 in
set_option maxRecDepth 100000 in
theorem refChg_any (b : Nat) (A0 : List Int) (hlen : A0.length = 16) (m : Nat) (hm : m < 85) (w : World) (hb : w.heap[b]? = some (oI A0 168)) :
    Calls Try.prog 165 #[.slice (some ⟨b, 0, none⟩) 4 4, .int .i64 m] w fun e w' => (chgR m A0 4 = none → e = .returned (.tuple #[.slice none 0 0, .bool false])) ∧
      (∀ s, chgR m A0 4 = some s → ∃ b', e = .returned (.tuple #[.slice (some ⟨b', 0, none⟩) 4 4, .bool true]) ∧ w'.heap[b']? = some (oI s.1 168) ∧ w.heap.size ≤ b') ∧ Below w.heap.size w w' := by
  have MB := Lib.hid ((Mem.nil w).cons hb)
  have LA0 := Lib.hid hlen
  obtain ⟨a0, a1, a2, a3, a4, a5, a6, a7, a8, a9, a10, a11, a12, a13, a14, a15, hA0⟩ : ∃ a0 a1 a2 a3 a4 a5 a6 a7 a8 a9 a10 a11 a12 a13 a14 a15 : Int, A0 = [a0, a1, a2, a3, a4, a5, a6, a7, a8, a9, a10, a11, a12, a13, a14, a15] := by
    rcases A0 with _ | ⟨x0, _ | ⟨x1, _ | ⟨x2, _ | ⟨x3, _ | ⟨x4, _ | ⟨x5, _ | ⟨x6, _ | ⟨x7, _ | ⟨x8, _ | ⟨x9, _ | ⟨x10, _ | ⟨x11, _ | ⟨x12, _ | ⟨x13, _ | ⟨x14, _ | ⟨x15, _ | ⟨x16, l⟩⟩⟩⟩⟩⟩⟩⟩⟩⟩⟩⟩⟩⟩⟩⟩⟩ <;> first | exact ⟨_, _, _, _, _, _, _, _, _, _, _, _, _, _, _, _, rfl⟩ | (simp at hlen)
  replace hA0 := Lib.hid hA0
  clear hb hlen
  go_enter Try.func165, Try.ntmps165
  go_wp2_with fail
  refine wp_region_held_drew (S := fun w' => Mem w [(b, oI A0 168)] w') (by kernel_rfl) MB.out.drew (fun hHeld => ?_)
  replace MB := Lib.hid MB.out.drew
  generalize hWD : World.drew w = wd at *
  clear hWD
  refine wpAnyH_take (i := 0) (oi := ?o1) (v := ?v1) ?hi1 (by kernel_rfl) (by kernel_rfl) (by kernel_rfl) ?hQ1 ?hy1 (by assumption) ?rest1
  case hi1 => (simp only [List.getElem?_toArray, List.getElem?_cons_succ, List.getElem?_cons_zero]; rfl)
  case hQ1 => exact fun _ _ _ h => h
  case hy1 => (refine Or.inl ⟨by rfl, ?_⟩; intro w' hSw; obtain ⟨k0, k1, k2, k3, k4, k5, k6, k7, k8, k9, k10, k11, k12, k13, k14, k15⟩ := cells_16 hA0.out hSw.head; go_simp; (try with_reducible rfl))
  try simp only [Act.put, List.setIfInBounds_toArray, List.set_cons_zero, List.set_cons_succ]
  refine wpAnyH_take (i := 1) (oi := ?o2) (v := ?v2) ?hi2 (by kernel_rfl) (by kernel_rfl) (by kernel_rfl) ?hQ2 ?hy2 (by assumption) ?rest2
  case hi2 => (simp only [List.getElem?_toArray, List.getElem?_cons_succ, List.getElem?_cons_zero]; rfl)
  case hQ2 => exact fun _ _ _ h => h
  case hy2 => (refine Or.inl ⟨by rfl, ?_⟩; intro w' hSw; obtain ⟨k0, k1, k2, k3, k4, k5, k6, k7, k8, k9, k10, k11, k12, k13, k14, k15⟩ := cells_16 hA0.out hSw.head; go_simp; (try with_reducible rfl))
  try simp only [Act.put, List.setIfInBounds_toArray, List.set_cons_zero, List.set_cons_succ]
  refine wpAnyH_take (i := 2) (oi := ?o3) (v := ?v3) ?hi3 (by kernel_rfl) (by kernel_rfl) (by kernel_rfl) ?hQ3 ?hy3 (by assumption) ?rest3
  case hi3 => (simp only [List.getElem?_toArray, List.getElem?_cons_succ, List.getElem?_cons_zero]; rfl)
  case hQ3 => exact fun _ _ _ h => h
  case hy3 => (refine Or.inl ⟨by rfl, ?_⟩; intro w' hSw; obtain ⟨k0, k1, k2, k3, k4, k5, k6, k7, k8, k9, k10, k11, k12, k13, k14, k15⟩ := cells_16 hA0.out hSw.head; go_simp; (try with_reducible rfl))
  try simp only [Act.put, List.setIfInBounds_toArray, List.set_cons_zero, List.set_cons_succ]
  refine wpAnyH_take (i := 3) (oi := ?o4) (v := ?v4) ?hi4 (by kernel_rfl) (by kernel_rfl) (by kernel_rfl) ?hQ4 ?hy4 (by assumption) ?rest4
  case hi4 => (simp only [List.getElem?_toArray, List.getElem?_cons_succ, List.getElem?_cons_zero]; rfl)
  case hQ4 => exact fun _ _ _ h => h
  case hy4 => (refine Or.inl ⟨by rfl, ?_⟩; intro w' hSw; obtain ⟨k0, k1, k2, k3, k4, k5, k6, k7, k8, k9, k10, k11, k12, k13, k14, k15⟩ := cells_16 hA0.out hSw.head; go_simp; (try with_reducible rfl))
  try simp only [Act.put, List.setIfInBounds_toArray, List.set_cons_zero, List.set_cons_succ]
  refine wpAnyH_take (i := 4) (oi := ?o5) (v := ?v5) ?hi5 (by kernel_rfl) (by kernel_rfl) (by kernel_rfl) ?hQ5 ?hy5 (by assumption) ?rest5
  case hi5 => (simp only [List.getElem?_toArray, List.getElem?_cons_succ, List.getElem?_cons_zero]; rfl)
  case hQ5 => exact fun _ _ _ h => h
  case hy5 => (refine Or.inl ⟨by rfl, ?_⟩; intro w' hSw; obtain ⟨k0, k1, k2, k3, k4, k5, k6, k7, k8, k9, k10, k11, k12, k13, k14, k15⟩ := cells_16 hA0.out hSw.head; go_simp; (try with_reducible rfl))
  try simp only [Act.put, List.setIfInBounds_toArray, List.set_cons_zero, List.set_cons_succ]
  refine wpAnyH_take (i := 5) (oi := ?o6) (v := ?v6) ?hi6 (by kernel_rfl) (by kernel_rfl) (by kernel_rfl) ?hQ6 ?hy6 (by assumption) ?rest6
  case hi6 => (simp only [List.getElem?_toArray, List.getElem?_cons_succ, List.getElem?_cons_zero]; rfl)
  case hQ6 => exact fun _ _ _ h => h
  case hy6 => (refine Or.inl ⟨by rfl, ?_⟩; intro w' hSw; obtain ⟨k0, k1, k2, k3, k4, k5, k6, k7, k8, k9, k10, k11, k12, k13, k14, k15⟩ := cells_16 hA0.out hSw.head; go_simp; (try with_reducible rfl))
  try simp only [Act.put, List.setIfInBounds_toArray, List.set_cons_zero, List.set_cons_succ]
  refine wpAnyH_take (i := 6) (oi := ?o7) (v := ?v7) ?hi7 (by kernel_rfl) (by kernel_rfl) (by kernel_rfl) ?hQ7 ?hy7 (by assumption) ?rest7
  case hi7 => (simp only [List.getElem?_toArray, List.getElem?_cons_succ, List.getElem?_cons_zero]; rfl)
  case hQ7 => exact fun _ _ _ h => h
  case hy7 => (refine Or.inl ⟨by rfl, ?_⟩; intro w' hSw; obtain ⟨k0, k1, k2, k3, k4, k5, k6, k7, k8, k9, k10, k11, k12, k13, k14, k15⟩ := cells_16 hA0.out hSw.head; go_simp; (try with_reducible rfl))
  try simp only [Act.put, List.setIfInBounds_toArray, List.set_cons_zero, List.set_cons_succ]
  refine wpAnyH_take (i := 7) (oi := ?o8) (v := ?v8) ?hi8 (by kernel_rfl) (by kernel_rfl) (by kernel_rfl) ?hQ8 ?hy8 (by assumption) ?rest8
  case hi8 => (simp only [List.getElem?_toArray, List.getElem?_cons_succ, List.getElem?_cons_zero]; rfl)
  case hQ8 => exact fun _ _ _ h => h
  case hy8 => (refine Or.inl ⟨by rfl, ?_⟩; intro w' hSw; obtain ⟨k0, k1, k2, k3, k4, k5, k6, k7, k8, k9, k10, k11, k12, k13, k14, k15⟩ := cells_16 hA0.out hSw.head; go_simp; (try with_reducible rfl))
  try simp only [Act.put, List.setIfInBounds_toArray, List.set_cons_zero, List.set_cons_succ]
  refine wpAnyH_take (i := 8) (oi := ?o9) (v := ?v9) ?hi9 (by kernel_rfl) (by kernel_rfl) (by kernel_rfl) ?hQ9 ?hy9 (by assumption) ?rest9
  case hi9 => (simp only [List.getElem?_toArray, List.getElem?_cons_succ, List.getElem?_cons_zero]; rfl)
  case hQ9 => exact fun _ _ _ h => h
  case hy9 => (refine Or.inl ⟨by rfl, ?_⟩; intro w' hSw; obtain ⟨k0, k1, k2, k3, k4, k5, k6, k7, k8, k9, k10, k11, k12, k13, k14, k15⟩ := cells_16 hA0.out hSw.head; go_simp; (try with_reducible rfl))
  try simp only [Act.put, List.setIfInBounds_toArray, List.set_cons_zero, List.set_cons_succ]
  refine wpAnyH_take (i := 9) (oi := ?o10) (v := ?v10) ?hi10 (by kernel_rfl) (by kernel_rfl) (by kernel_rfl) ?hQ10 ?hy10 (by assumption) ?rest10
  case hi10 => (simp only [List.getElem?_toArray, List.getElem?_cons_succ, List.getElem?_cons_zero]; rfl)
  case hQ10 => exact fun _ _ _ h => h
  case hy10 => (refine Or.inl ⟨by rfl, ?_⟩; intro w' hSw; obtain ⟨k0, k1, k2, k3, k4, k5, k6, k7, k8, k9, k10, k11, k12, k13, k14, k15⟩ := cells_16 hA0.out hSw.head; go_simp; (try with_reducible rfl))
  try simp only [Act.put, List.setIfInBounds_toArray, List.set_cons_zero, List.set_cons_succ]
  refine wpAnyH_take (i := 10) (oi := ?o11) (v := ?v11) ?hi11 (by kernel_rfl) (by kernel_rfl) (by kernel_rfl) ?hQ11 ?hy11 (by assumption) ?rest11
  case hi11 => (simp only [List.getElem?_toArray, List.getElem?_cons_succ, List.getElem?_cons_zero]; rfl)
  case hQ11 => exact fun _ _ _ h => h
  case hy11 => (refine Or.inl ⟨by rfl, ?_⟩; intro w' hSw; obtain ⟨k0, k1, k2, k3, k4, k5, k6, k7, k8, k9, k10, k11, k12, k13, k14, k15⟩ := cells_16 hA0.out hSw.head; go_simp; (try with_reducible rfl))
  try simp only [Act.put, List.setIfInBounds_toArray, List.set_cons_zero, List.set_cons_succ]
  refine wpAnyH_take (i := 11) (oi := ?o12) (v := ?v12) ?hi12 (by kernel_rfl) (by kernel_rfl) (by kernel_rfl) ?hQ12 ?hy12 (by assumption) ?rest12
  case hi12 => (simp only [List.getElem?_toArray, List.getElem?_cons_succ, List.getElem?_cons_zero]; rfl)
  case hQ12 => exact fun _ _ _ h => h
  case hy12 => (refine Or.inl ⟨by rfl, ?_⟩; intro w' hSw; obtain ⟨k0, k1, k2, k3, k4, k5, k6, k7, k8, k9, k10, k11, k12, k13, k14, k15⟩ := cells_16 hA0.out hSw.head; go_simp; (try with_reducible rfl))
  try simp only [Act.put, List.setIfInBounds_toArray, List.set_cons_zero, List.set_cons_succ]
  refine wpAnyH_ready (rs := [12]) (by kernel_rfl) (by simp) ?_
  refine AllReadyH.cons (o := ?o14) ?hi14 (fun K hK => ?rest14) AllReadyH.nil
  case hi14 => (simp only [List.getElem?_toArray, List.getElem?_cons_succ, List.getElem?_cons_zero]; rfl)
  go_simp
  have LE := Lib.hid MB.out.above
  replace MB := Lib.hid (MB.out.add (.cells #[.int .i64 a0, .int .i64 a1, .int .i64 a2, .int .i64 a3, .int .i64 a4, .int .i64 a5, .int .i64 a6, .int .i64 a7, .int .i64 a8, .int .i64 a9, .int .i64 a10, .int .i64 a11, .int .i64 a12, .int .i64 a13, .int .i64 a14, .int .i64 a15] 168 (0, 0)))
  refine hK.out _ _ MB.out.tail (fun hHeld => ?_)
  clear hK K
  try simp only [Act.put, List.setIfInBounds_toArray, List.set_cons_zero, List.set_cons_succ]
  generalize hAA : World.heap wd = hp at *
  generalize hp.size = OB at *
  generalize World.alloc wd (.cells #[.int .i64 a0, .int .i64 a1, .int .i64 a2, .int .i64 a3, .int .i64 a4, .int .i64 a5, .int .i64 a6, .int .i64 a7, .int .i64 a8, .int .i64 a9, .int .i64 a10, .int .i64 a11, .int .i64 a12, .int .i64 a13, .int .i64 a14, .int .i64 a15] 168 (0, 0)) = wa at *
  clear hAA
  refine wpAnyH_take (i := 13) (oi := ?o15) (v := ?v15) ?hi15 (by kernel_rfl) (by kernel_rfl) (by kernel_rfl) ?hQ15 ?hy15 (by assumption) ?rest15
  case hi15 => (simp only [List.getElem?_toArray, List.getElem?_cons_succ, List.getElem?_cons_zero]; rfl)
  case hQ15 => exact fun _ _ _ h => h
  case hy15 => (refine Or.inl ⟨by rfl, ?_⟩; intro w' hSw; go_simp; (try with_reducible rfl))
  try simp only [Act.put, List.setIfInBounds_toArray, List.set_cons_zero, List.set_cons_succ]
  refine wpAnyH_done (by kernel_rfl) ?_ _
  have MB2 : Mem w [(OB, oI A0 168)] wa := by
    have h := MB.out.sub (l' := [(OB, (.cells #[.int .i64 a0, .int .i64 a1, .int .i64 a2, .int .i64 a3, .int .i64 a4, .int .i64 a5, .int .i64 a6, .int .i64 a7, .int .i64 a8, .int .i64 a9, .int .i64 a10, .int .i64 a11, .int .i64 a12, .int .i64 a13, .int .i64 a14, .int .i64 a15] 168 (0, 0)))]) (fun p hp => by simp at hp ⊢; simp [hp])
    rw [hA0.out]
    exact h
  replace MB := Lib.hid MB2
  clear MB2 hA0
  go_wp2_with fail
  go_loopw [8, 7] (fun i uv wr => ∃ (r : Nat) (A : List Int) (u : Nat), r ≤ 4 ∧ u < 8 ∧ i = .int .i64 r ∧ uv = .int .i64 u ∧ Hid (chgR m A0 r = some (A, u)) ∧ Hid (Mem w [(OB, oI A 168)] wr)) (fun i _ _ => 4 - (intOf i).toNat)
  case atStart => exact ⟨0, _, 0, by omega, by omega, rfl, rfl, rfl, MB.out⟩
  case round =>
    clear MB
    obtain ⟨r, A, u, hr, hu, rfl, rfl, hS, MB⟩ := hrel
    replace hS := Lib.hid hS
    replace MB := Lib.hid MB
    have LA : Hid (A.length = 16) := Lib.hid ((chgR_len hS.out).trans LA0.out)
    by_cases hr4 : r < 4
    · rcases (by omega : r = 0 ∨ r = 1 ∨ r = 2 ∨ r = 3) with rfl | rfl | rfl | rfl
      · go_wp2_with fail
        go_loopw [10, 7, 9] (fun kv uv nv wx => ∃ (k : Nat) (A' : List Int) (u' n' : Nat), k ≤ 3 ∧ u' < 8 ∧ kv = .int .i64 k ∧ uv = .int .i64 u' ∧ nv = .int .i64 n' ∧ Hid (chgK m 0 k (A, u, 0) = some (A', u', n')) ∧ Hid (Mem w [(OB, oI A' 168)] wx)) (fun kv _ _ _ => 3 - (intOf kv).toNat)
        case atStart => exact ⟨0, _, _, _, by omega, hu, rfl, rfl, rfl, rfl, MB.out⟩
        case round =>
          obtain ⟨k, A', u', n', hk, hu', rfl, rfl, rfl, hK, MK⟩ := hrel
          replace hK := Lib.hid hK
          replace MK := Lib.hid MK
          have hn' := chgK_n hK.out
          simp only at hn'
          have LK : Hid (A'.length = 16) := Lib.hid ((chgK_len hK.out).trans LA.out)
          by_cases hk3 : k < 3
          · rcases (by omega : k = 0 ∨ k = 1 ∨ k = 2) with rfl | rfl | rfl
            · have hb := bz0 m hm
              cases hbm : bitM m 0
              · rw [hbm] at hb
                have hK2 : Hid (chgK m 0 1 (A, u, 0) = some (A', u', n')) := by
                  show chgK _ _ _ _ = _
                  rw [chgK, hK.out]
                  simp only [Option.bind_some, chg2]
                  rw [if_neg (by rw [hbm]; simp)]
                clear hbm
                go_wp2_with fail
                go_roundw
                case rel => exact ⟨1, A', u', n', by omega, by omega, by go_num, by first | rfl | go_num, by first | rfl | go_num, hK2.out, MK.out⟩
                case measure => simp [intOf]
              · rw [hbm] at hb
                have hb1 : Hid (bitM m 0 = true) := Lib.hid hbm
                clear hbm
                by_cases e0 : 1 < n' + 1
                · have hz : Hid (chgR m A0 4 = none) := by
                    have h1 : chgK m 0 1 (A, u, 0) = none := by rw [chgK, hK.out]; simp only [Option.bind_some, chg2]; rw [if_pos hb1.out, if_pos (Or.inl e0)]
                    have h2 : chgR m A0 1 = none := by rw [chgR, hS.out]; simp only [Option.bind_some]; rw [chgK_none (show 1 ≤ 3 by omega) h1]; rfl
                    exact chgR_none (show 1 ≤ 4 by omega) h2
                  have e1 : decide ((n' : Int) + 1 > 1) = true := by simp; omega
                  have e1b : wrap64 ((n' : Int) + 1) = n' + 1 := IntWalk.wrap64_in _ (by omega)
                  clear e0
                  go_wp2
                  go_ret2
                  exact ⟨fun _ => rfl, fun s hs => (by rw [hz.out] at hs; cases hs), MK.out.below⟩
                · have hn0 : n' = 0 := by omega
                  subst hn0
                  by_cases e2 : u' / 2 ^ 0 % 2 = 1
                  · have hz : Hid (chgR m A0 4 = none) := by
                      have h1 : chgK m 0 1 (A, u, 0) = none := by rw [chgK, hK.out]; simp only [Option.bind_some, chg2]; rw [if_pos hb1.out, if_pos (Or.inr e2)]
                      have h2 : chgR m A0 1 = none := by rw [chgR, hS.out]; simp only [Option.bind_some]; rw [chgK_none (show 1 ≤ 3 by omega) h1]; rfl
                      exact chgR_none (show 1 ≤ 4 by omega) h2
                    have e3 : (bits BinOp.and IntKind.i64 (u' : Int) 1 == 1) = true := by rw [ub0 u' hu']; simpa using e2
                    clear e0 e2
                    go_wp2
                    go_ret2
                    exact ⟨fun _ => rfl, fun s hs => (by rw [hz.out] at hs; cases hs), MK.out.below⟩
                  · have e3 : (bits BinOp.and IntKind.i64 (u' : Int) 1 == 1) = false := by rw [ub0 u' hu']; simpa using e2
                    have e4 := uo0 u' hu' e2
                    have hu2 := ul0 u' hu' e2
                    have hK2 : Hid (chgK m 0 1 (A, u, 0) = some (rowK A' 0 0, u' + 1, 1)) := by
                      show chgK _ _ _ _ = _
                      rw [chgK, hK.out]
                      simp only [Option.bind_some, chg2]
                      rw [if_pos hb1.out, if_neg (fun h => h.elim e0 e2)]
                    have lA : A'.length = 16 := LK.out
                    have q0 := cellI MK.out.head (o := 0) (by omega)
                    have q1 := cellI MK.out.head (o := 1) (by omega)
                    have q2 := cellI MK.out.head (o := 2) (by omega)
                    have q3 := cellI MK.out.head (o := 3) (by omega)
                    have g0 := freeI MK.out.head 0
                    have g1 := freeI MK.out.head 1
                    have g2 := freeI MK.out.head 2
                    have g3 := freeI MK.out.head 3
                    have AP : Apart OB [] := fun _ h => by cases h
                    have MS : Mem w [(OB, oI (rowK A' 0 0) 168)] _ := (((MK.out.setI AP LE.out 0 0).setI AP LE.out 1 0).setI AP LE.out 2 1).setI AP LE.out 3 0
                    replace MK := Lib.hid MS
                    clear MS AP
                    generalize A'[0]! = v0 at *
                    generalize A'[1]! = v1 at *
                    generalize A'[2]! = v2 at *
                    generalize A'[3]! = v3 at *
                    clear e0 e2
                    go_wp2_with fail
                    go_roundw
                    case rel => exact ⟨1, rowK A' 0 0, u' + 1, 1, by omega, by omega, by go_num, by first | rfl | go_num, by first | rfl | go_num, hK2.out, MK.out⟩
                    case measure => simp [intOf]
            · have hb := bz1 m hm
              cases hbm : bitM m 1
              · rw [hbm] at hb
                have hK2 : Hid (chgK m 0 2 (A, u, 0) = some (A', u', n')) := by
                  show chgK _ _ _ _ = _
                  rw [chgK, hK.out]
                  simp only [Option.bind_some, chg2]
                  rw [if_neg (by rw [hbm]; simp)]
                clear hbm
                go_wp2_with fail
                go_roundw
                case rel => exact ⟨2, A', u', n', by omega, by omega, by go_num, by first | rfl | go_num, by first | rfl | go_num, hK2.out, MK.out⟩
                case measure => simp [intOf]
              · rw [hbm] at hb
                have hb1 : Hid (bitM m 1 = true) := Lib.hid hbm
                clear hbm
                by_cases e0 : 1 < n' + 1
                · have hz : Hid (chgR m A0 4 = none) := by
                    have h1 : chgK m 0 2 (A, u, 0) = none := by rw [chgK, hK.out]; simp only [Option.bind_some, chg2]; rw [if_pos hb1.out, if_pos (Or.inl e0)]
                    have h2 : chgR m A0 1 = none := by rw [chgR, hS.out]; simp only [Option.bind_some]; rw [chgK_none (show 2 ≤ 3 by omega) h1]; rfl
                    exact chgR_none (show 1 ≤ 4 by omega) h2
                  have e1 : decide ((n' : Int) + 1 > 1) = true := by simp; omega
                  have e1b : wrap64 ((n' : Int) + 1) = n' + 1 := IntWalk.wrap64_in _ (by omega)
                  clear e0
                  go_wp2
                  go_ret2
                  exact ⟨fun _ => rfl, fun s hs => (by rw [hz.out] at hs; cases hs), MK.out.below⟩
                · have hn0 : n' = 0 := by omega
                  subst hn0
                  by_cases e2 : u' / 2 ^ 1 % 2 = 1
                  · have hz : Hid (chgR m A0 4 = none) := by
                      have h1 : chgK m 0 2 (A, u, 0) = none := by rw [chgK, hK.out]; simp only [Option.bind_some, chg2]; rw [if_pos hb1.out, if_pos (Or.inr e2)]
                      have h2 : chgR m A0 1 = none := by rw [chgR, hS.out]; simp only [Option.bind_some]; rw [chgK_none (show 2 ≤ 3 by omega) h1]; rfl
                      exact chgR_none (show 1 ≤ 4 by omega) h2
                    have e3 : (bits BinOp.and IntKind.i64 ((u' : Int) / 2) 1 == 1) = true := by rw [ub1 u' hu']; simpa using e2
                    clear e0 e2
                    go_wp2
                    go_ret2
                    exact ⟨fun _ => rfl, fun s hs => (by rw [hz.out] at hs; cases hs), MK.out.below⟩
                  · have e3 : (bits BinOp.and IntKind.i64 ((u' : Int) / 2) 1 == 1) = false := by rw [ub1 u' hu']; simpa using e2
                    have e4 := uo1 u' hu' e2
                    have hu2 := ul1 u' hu' e2
                    have hK2 : Hid (chgK m 0 2 (A, u, 0) = some (rowK A' 0 1, u' + 2, 1)) := by
                      show chgK _ _ _ _ = _
                      rw [chgK, hK.out]
                      simp only [Option.bind_some, chg2]
                      rw [if_pos hb1.out, if_neg (fun h => h.elim e0 e2)]
                    have lA : A'.length = 16 := LK.out
                    have q0 := cellI MK.out.head (o := 0) (by omega)
                    have q1 := cellI MK.out.head (o := 1) (by omega)
                    have q2 := cellI MK.out.head (o := 2) (by omega)
                    have q3 := cellI MK.out.head (o := 3) (by omega)
                    have g0 := freeI MK.out.head 0
                    have g1 := freeI MK.out.head 1
                    have g2 := freeI MK.out.head 2
                    have g3 := freeI MK.out.head 3
                    have AP : Apart OB [] := fun _ h => by cases h
                    have MS : Mem w [(OB, oI (rowK A' 0 1) 168)] _ := (((MK.out.setI AP LE.out 0 0).setI AP LE.out 1 1).setI AP LE.out 2 0).setI AP LE.out 3 0
                    replace MK := Lib.hid MS
                    clear MS AP
                    generalize A'[0]! = v0 at *
                    generalize A'[1]! = v1 at *
                    generalize A'[2]! = v2 at *
                    generalize A'[3]! = v3 at *
                    clear e0 e2
                    go_wp2_with fail
                    go_roundw
                    case rel => exact ⟨2, rowK A' 0 1, u' + 2, 1, by omega, by omega, by go_num, by first | rfl | go_num, by first | rfl | go_num, hK2.out, MK.out⟩
                    case measure => simp [intOf]
            · have hb := bz2 m hm
              cases hbm : bitM m 2
              · rw [hbm] at hb
                have hK2 : Hid (chgK m 0 3 (A, u, 0) = some (A', u', n')) := by
                  show chgK _ _ _ _ = _
                  rw [chgK, hK.out]
                  simp only [Option.bind_some, chg2]
                  rw [if_neg (by rw [hbm]; simp)]
                clear hbm
                go_wp2_with fail
                go_roundw
                case rel => exact ⟨3, A', u', n', by omega, by omega, by go_num, by first | rfl | go_num, by first | rfl | go_num, hK2.out, MK.out⟩
                case measure => simp [intOf]
              · rw [hbm] at hb
                have hb1 : Hid (bitM m 2 = true) := Lib.hid hbm
                clear hbm
                by_cases e0 : 1 < n' + 1
                · have hz : Hid (chgR m A0 4 = none) := by
                    have h1 : chgK m 0 3 (A, u, 0) = none := by rw [chgK, hK.out]; simp only [Option.bind_some, chg2]; rw [if_pos hb1.out, if_pos (Or.inl e0)]
                    have h2 : chgR m A0 1 = none := by rw [chgR, hS.out]; simp only [Option.bind_some]; rw [chgK_none (show 3 ≤ 3 by omega) h1]; rfl
                    exact chgR_none (show 1 ≤ 4 by omega) h2
                  have e1 : decide ((n' : Int) + 1 > 1) = true := by simp; omega
                  have e1b : wrap64 ((n' : Int) + 1) = n' + 1 := IntWalk.wrap64_in _ (by omega)
                  clear e0
                  go_wp2
                  go_ret2
                  exact ⟨fun _ => rfl, fun s hs => (by rw [hz.out] at hs; cases hs), MK.out.below⟩
                · have hn0 : n' = 0 := by omega
                  subst hn0
                  by_cases e2 : u' / 2 ^ 2 % 2 = 1
                  · have hz : Hid (chgR m A0 4 = none) := by
                      have h1 : chgK m 0 3 (A, u, 0) = none := by rw [chgK, hK.out]; simp only [Option.bind_some, chg2]; rw [if_pos hb1.out, if_pos (Or.inr e2)]
                      have h2 : chgR m A0 1 = none := by rw [chgR, hS.out]; simp only [Option.bind_some]; rw [chgK_none (show 3 ≤ 3 by omega) h1]; rfl
                      exact chgR_none (show 1 ≤ 4 by omega) h2
                    have e3 : (bits BinOp.and IntKind.i64 ((u' : Int) / 4) 1 == 1) = true := by rw [ub2 u' hu']; simpa using e2
                    clear e0 e2
                    go_wp2
                    go_ret2
                    exact ⟨fun _ => rfl, fun s hs => (by rw [hz.out] at hs; cases hs), MK.out.below⟩
                  · have e3 : (bits BinOp.and IntKind.i64 ((u' : Int) / 4) 1 == 1) = false := by rw [ub2 u' hu']; simpa using e2
                    have e4 := uo2 u' hu' e2
                    have hu2 := ul2 u' hu' e2
                    have hK2 : Hid (chgK m 0 3 (A, u, 0) = some (rowK A' 0 2, u' + 4, 1)) := by
                      show chgK _ _ _ _ = _
                      rw [chgK, hK.out]
                      simp only [Option.bind_some, chg2]
                      rw [if_pos hb1.out, if_neg (fun h => h.elim e0 e2)]
                    have lA : A'.length = 16 := LK.out
                    have q0 := cellI MK.out.head (o := 0) (by omega)
                    have q1 := cellI MK.out.head (o := 1) (by omega)
                    have q2 := cellI MK.out.head (o := 2) (by omega)
                    have q3 := cellI MK.out.head (o := 3) (by omega)
                    have g0 := freeI MK.out.head 0
                    have g1 := freeI MK.out.head 1
                    have g2 := freeI MK.out.head 2
                    have g3 := freeI MK.out.head 3
                    have AP : Apart OB [] := fun _ h => by cases h
                    have MS : Mem w [(OB, oI (rowK A' 0 2) 168)] _ := (((MK.out.setI AP LE.out 0 1).setI AP LE.out 1 0).setI AP LE.out 2 0).setI AP LE.out 3 0
                    replace MK := Lib.hid MS
                    clear MS AP
                    generalize A'[0]! = v0 at *
                    generalize A'[1]! = v1 at *
                    generalize A'[2]! = v2 at *
                    generalize A'[3]! = v3 at *
                    clear e0 e2
                    go_wp2_with fail
                    go_roundw
                    case rel => exact ⟨3, rowK A' 0 2, u' + 4, 1, by omega, by omega, by go_num, by first | rfl | go_num, by first | rfl | go_num, hK2.out, MK.out⟩
                    case measure => simp [intOf]
          · obtain rfl : k = 3 := by omega
            have hS2 : Hid (chgR m A0 1 = some (A', u')) := by
              show chgR _ _ _ = _
              rw [chgR, hS.out]
              simp only [Option.bind_some]
              rw [hK.out]
              rfl
            go_wp2_with fail
            go_roundw
            case rel => exact ⟨1, A', u', by omega, hu', by go_num, rfl, hS2.out, MK.out⟩
            case measure => simp [intOf]
      · go_wp2_with fail
        go_loopw [10, 7, 9] (fun kv uv nv wx => ∃ (k : Nat) (A' : List Int) (u' n' : Nat), k ≤ 3 ∧ u' < 8 ∧ kv = .int .i64 k ∧ uv = .int .i64 u' ∧ nv = .int .i64 n' ∧ Hid (chgK m 1 k (A, u, 0) = some (A', u', n')) ∧ Hid (Mem w [(OB, oI A' 168)] wx)) (fun kv _ _ _ => 3 - (intOf kv).toNat)
        case atStart => exact ⟨0, _, _, _, by omega, hu, rfl, rfl, rfl, rfl, MB.out⟩
        case round =>
          obtain ⟨k, A', u', n', hk, hu', rfl, rfl, rfl, hK, MK⟩ := hrel
          replace hK := Lib.hid hK
          replace MK := Lib.hid MK
          have hn' := chgK_n hK.out
          simp only at hn'
          have LK : Hid (A'.length = 16) := Lib.hid ((chgK_len hK.out).trans LA.out)
          by_cases hk3 : k < 3
          · rcases (by omega : k = 0 ∨ k = 1 ∨ k = 2) with rfl | rfl | rfl
            · have hb := bz3 m hm
              cases hbm : bitM m 3
              · rw [hbm] at hb
                have hK2 : Hid (chgK m 1 1 (A, u, 0) = some (A', u', n')) := by
                  show chgK _ _ _ _ = _
                  rw [chgK, hK.out]
                  simp only [Option.bind_some, chg2]
                  rw [if_neg (by rw [hbm]; simp)]
                clear hbm
                go_wp2_with fail
                go_roundw
                case rel => exact ⟨1, A', u', n', by omega, by omega, by go_num, by first | rfl | go_num, by first | rfl | go_num, hK2.out, MK.out⟩
                case measure => simp [intOf]
              · rw [hbm] at hb
                have hb1 : Hid (bitM m 3 = true) := Lib.hid hbm
                clear hbm
                by_cases e0 : 1 < n' + 1
                · have hz : Hid (chgR m A0 4 = none) := by
                    have h1 : chgK m 1 1 (A, u, 0) = none := by rw [chgK, hK.out]; simp only [Option.bind_some, chg2]; rw [if_pos hb1.out, if_pos (Or.inl e0)]
                    have h2 : chgR m A0 2 = none := by rw [chgR, hS.out]; simp only [Option.bind_some]; rw [chgK_none (show 1 ≤ 3 by omega) h1]; rfl
                    exact chgR_none (show 2 ≤ 4 by omega) h2
                  have e1 : decide ((n' : Int) + 1 > 1) = true := by simp; omega
                  have e1b : wrap64 ((n' : Int) + 1) = n' + 1 := IntWalk.wrap64_in _ (by omega)
                  clear e0
                  go_wp2
                  go_ret2
                  exact ⟨fun _ => rfl, fun s hs => (by rw [hz.out] at hs; cases hs), MK.out.below⟩
                · have hn0 : n' = 0 := by omega
                  subst hn0
                  by_cases e2 : u' / 2 ^ 0 % 2 = 1
                  · have hz : Hid (chgR m A0 4 = none) := by
                      have h1 : chgK m 1 1 (A, u, 0) = none := by rw [chgK, hK.out]; simp only [Option.bind_some, chg2]; rw [if_pos hb1.out, if_pos (Or.inr e2)]
                      have h2 : chgR m A0 2 = none := by rw [chgR, hS.out]; simp only [Option.bind_some]; rw [chgK_none (show 1 ≤ 3 by omega) h1]; rfl
                      exact chgR_none (show 2 ≤ 4 by omega) h2
                    have e3 : (bits BinOp.and IntKind.i64 (u' : Int) 1 == 1) = true := by rw [ub0 u' hu']; simpa using e2
                    clear e0 e2
                    go_wp2
                    go_ret2
                    exact ⟨fun _ => rfl, fun s hs => (by rw [hz.out] at hs; cases hs), MK.out.below⟩
                  · have e3 : (bits BinOp.and IntKind.i64 (u' : Int) 1 == 1) = false := by rw [ub0 u' hu']; simpa using e2
                    have e4 := uo0 u' hu' e2
                    have hu2 := ul0 u' hu' e2
                    have hK2 : Hid (chgK m 1 1 (A, u, 0) = some (rowK A' 1 0, u' + 1, 1)) := by
                      show chgK _ _ _ _ = _
                      rw [chgK, hK.out]
                      simp only [Option.bind_some, chg2]
                      rw [if_pos hb1.out, if_neg (fun h => h.elim e0 e2)]
                    have lA : A'.length = 16 := LK.out
                    have q0 := cellI MK.out.head (o := 4) (by omega)
                    have q1 := cellI MK.out.head (o := 5) (by omega)
                    have q2 := cellI MK.out.head (o := 6) (by omega)
                    have q3 := cellI MK.out.head (o := 7) (by omega)
                    have g0 := freeI MK.out.head 4
                    have g1 := freeI MK.out.head 5
                    have g2 := freeI MK.out.head 6
                    have g3 := freeI MK.out.head 7
                    have AP : Apart OB [] := fun _ h => by cases h
                    have MS : Mem w [(OB, oI (rowK A' 1 0) 168)] _ := (((MK.out.setI AP LE.out 4 0).setI AP LE.out 5 0).setI AP LE.out 6 1).setI AP LE.out 7 0
                    replace MK := Lib.hid MS
                    clear MS AP
                    generalize A'[4]! = v0 at *
                    generalize A'[5]! = v1 at *
                    generalize A'[6]! = v2 at *
                    generalize A'[7]! = v3 at *
                    clear e0 e2
                    go_wp2_with fail
                    go_roundw
                    case rel => exact ⟨1, rowK A' 1 0, u' + 1, 1, by omega, by omega, by go_num, by first | rfl | go_num, by first | rfl | go_num, hK2.out, MK.out⟩
                    case measure => simp [intOf]
            · have hb := bz4 m hm
              cases hbm : bitM m 4
              · rw [hbm] at hb
                have hK2 : Hid (chgK m 1 2 (A, u, 0) = some (A', u', n')) := by
                  show chgK _ _ _ _ = _
                  rw [chgK, hK.out]
                  simp only [Option.bind_some, chg2]
                  rw [if_neg (by rw [hbm]; simp)]
                clear hbm
                go_wp2_with fail
                go_roundw
                case rel => exact ⟨2, A', u', n', by omega, by omega, by go_num, by first | rfl | go_num, by first | rfl | go_num, hK2.out, MK.out⟩
                case measure => simp [intOf]
              · rw [hbm] at hb
                have hb1 : Hid (bitM m 4 = true) := Lib.hid hbm
                clear hbm
                by_cases e0 : 1 < n' + 1
                · have hz : Hid (chgR m A0 4 = none) := by
                    have h1 : chgK m 1 2 (A, u, 0) = none := by rw [chgK, hK.out]; simp only [Option.bind_some, chg2]; rw [if_pos hb1.out, if_pos (Or.inl e0)]
                    have h2 : chgR m A0 2 = none := by rw [chgR, hS.out]; simp only [Option.bind_some]; rw [chgK_none (show 2 ≤ 3 by omega) h1]; rfl
                    exact chgR_none (show 2 ≤ 4 by omega) h2
                  have e1 : decide ((n' : Int) + 1 > 1) = true := by simp; omega
                  have e1b : wrap64 ((n' : Int) + 1) = n' + 1 := IntWalk.wrap64_in _ (by omega)
                  clear e0
                  go_wp2
                  go_ret2
                  exact ⟨fun _ => rfl, fun s hs => (by rw [hz.out] at hs; cases hs), MK.out.below⟩
                · have hn0 : n' = 0 := by omega
                  subst hn0
                  by_cases e2 : u' / 2 ^ 1 % 2 = 1
                  · have hz : Hid (chgR m A0 4 = none) := by
                      have h1 : chgK m 1 2 (A, u, 0) = none := by rw [chgK, hK.out]; simp only [Option.bind_some, chg2]; rw [if_pos hb1.out, if_pos (Or.inr e2)]
                      have h2 : chgR m A0 2 = none := by rw [chgR, hS.out]; simp only [Option.bind_some]; rw [chgK_none (show 2 ≤ 3 by omega) h1]; rfl
                      exact chgR_none (show 2 ≤ 4 by omega) h2
                    have e3 : (bits BinOp.and IntKind.i64 ((u' : Int) / 2) 1 == 1) = true := by rw [ub1 u' hu']; simpa using e2
                    clear e0 e2
                    go_wp2
                    go_ret2
                    exact ⟨fun _ => rfl, fun s hs => (by rw [hz.out] at hs; cases hs), MK.out.below⟩
                  · have e3 : (bits BinOp.and IntKind.i64 ((u' : Int) / 2) 1 == 1) = false := by rw [ub1 u' hu']; simpa using e2
                    have e4 := uo1 u' hu' e2
                    have hu2 := ul1 u' hu' e2
                    have hK2 : Hid (chgK m 1 2 (A, u, 0) = some (rowK A' 1 1, u' + 2, 1)) := by
                      show chgK _ _ _ _ = _
                      rw [chgK, hK.out]
                      simp only [Option.bind_some, chg2]
                      rw [if_pos hb1.out, if_neg (fun h => h.elim e0 e2)]
                    have lA : A'.length = 16 := LK.out
                    have q0 := cellI MK.out.head (o := 4) (by omega)
                    have q1 := cellI MK.out.head (o := 5) (by omega)
                    have q2 := cellI MK.out.head (o := 6) (by omega)
                    have q3 := cellI MK.out.head (o := 7) (by omega)
                    have g0 := freeI MK.out.head 4
                    have g1 := freeI MK.out.head 5
                    have g2 := freeI MK.out.head 6
                    have g3 := freeI MK.out.head 7
                    have AP : Apart OB [] := fun _ h => by cases h
                    have MS : Mem w [(OB, oI (rowK A' 1 1) 168)] _ := (((MK.out.setI AP LE.out 4 0).setI AP LE.out 5 1).setI AP LE.out 6 0).setI AP LE.out 7 0
                    replace MK := Lib.hid MS
                    clear MS AP
                    generalize A'[4]! = v0 at *
                    generalize A'[5]! = v1 at *
                    generalize A'[6]! = v2 at *
                    generalize A'[7]! = v3 at *
                    clear e0 e2
                    go_wp2_with fail
                    go_roundw
                    case rel => exact ⟨2, rowK A' 1 1, u' + 2, 1, by omega, by omega, by go_num, by first | rfl | go_num, by first | rfl | go_num, hK2.out, MK.out⟩
                    case measure => simp [intOf]
            · have hb := bz5 m hm
              cases hbm : bitM m 5
              · rw [hbm] at hb
                have hK2 : Hid (chgK m 1 3 (A, u, 0) = some (A', u', n')) := by
                  show chgK _ _ _ _ = _
                  rw [chgK, hK.out]
                  simp only [Option.bind_some, chg2]
                  rw [if_neg (by rw [hbm]; simp)]
                clear hbm
                go_wp2_with fail
                go_roundw
                case rel => exact ⟨3, A', u', n', by omega, by omega, by go_num, by first | rfl | go_num, by first | rfl | go_num, hK2.out, MK.out⟩
                case measure => simp [intOf]
              · rw [hbm] at hb
                have hb1 : Hid (bitM m 5 = true) := Lib.hid hbm
                clear hbm
                by_cases e0 : 1 < n' + 1
                · have hz : Hid (chgR m A0 4 = none) := by
                    have h1 : chgK m 1 3 (A, u, 0) = none := by rw [chgK, hK.out]; simp only [Option.bind_some, chg2]; rw [if_pos hb1.out, if_pos (Or.inl e0)]
                    have h2 : chgR m A0 2 = none := by rw [chgR, hS.out]; simp only [Option.bind_some]; rw [chgK_none (show 3 ≤ 3 by omega) h1]; rfl
                    exact chgR_none (show 2 ≤ 4 by omega) h2
                  have e1 : decide ((n' : Int) + 1 > 1) = true := by simp; omega
                  have e1b : wrap64 ((n' : Int) + 1) = n' + 1 := IntWalk.wrap64_in _ (by omega)
                  clear e0
                  go_wp2
                  go_ret2
                  exact ⟨fun _ => rfl, fun s hs => (by rw [hz.out] at hs; cases hs), MK.out.below⟩
                · have hn0 : n' = 0 := by omega
                  subst hn0
                  by_cases e2 : u' / 2 ^ 2 % 2 = 1
                  · have hz : Hid (chgR m A0 4 = none) := by
                      have h1 : chgK m 1 3 (A, u, 0) = none := by rw [chgK, hK.out]; simp only [Option.bind_some, chg2]; rw [if_pos hb1.out, if_pos (Or.inr e2)]
                      have h2 : chgR m A0 2 = none := by rw [chgR, hS.out]; simp only [Option.bind_some]; rw [chgK_none (show 3 ≤ 3 by omega) h1]; rfl
                      exact chgR_none (show 2 ≤ 4 by omega) h2
                    have e3 : (bits BinOp.and IntKind.i64 ((u' : Int) / 4) 1 == 1) = true := by rw [ub2 u' hu']; simpa using e2
                    clear e0 e2
                    go_wp2
                    go_ret2
                    exact ⟨fun _ => rfl, fun s hs => (by rw [hz.out] at hs; cases hs), MK.out.below⟩
                  · have e3 : (bits BinOp.and IntKind.i64 ((u' : Int) / 4) 1 == 1) = false := by rw [ub2 u' hu']; simpa using e2
                    have e4 := uo2 u' hu' e2
                    have hu2 := ul2 u' hu' e2
                    have hK2 : Hid (chgK m 1 3 (A, u, 0) = some (rowK A' 1 2, u' + 4, 1)) := by
                      show chgK _ _ _ _ = _
                      rw [chgK, hK.out]
                      simp only [Option.bind_some, chg2]
                      rw [if_pos hb1.out, if_neg (fun h => h.elim e0 e2)]
                    have lA : A'.length = 16 := LK.out
                    have q0 := cellI MK.out.head (o := 4) (by omega)
                    have q1 := cellI MK.out.head (o := 5) (by omega)
                    have q2 := cellI MK.out.head (o := 6) (by omega)
                    have q3 := cellI MK.out.head (o := 7) (by omega)
                    have g0 := freeI MK.out.head 4
                    have g1 := freeI MK.out.head 5
                    have g2 := freeI MK.out.head 6
                    have g3 := freeI MK.out.head 7
                    have AP : Apart OB [] := fun _ h => by cases h
                    have MS : Mem w [(OB, oI (rowK A' 1 2) 168)] _ := (((MK.out.setI AP LE.out 4 1).setI AP LE.out 5 0).setI AP LE.out 6 0).setI AP LE.out 7 0
                    replace MK := Lib.hid MS
                    clear MS AP
                    generalize A'[4]! = v0 at *
                    generalize A'[5]! = v1 at *
                    generalize A'[6]! = v2 at *
                    generalize A'[7]! = v3 at *
                    clear e0 e2
                    go_wp2_with fail
                    go_roundw
                    case rel => exact ⟨3, rowK A' 1 2, u' + 4, 1, by omega, by omega, by go_num, by first | rfl | go_num, by first | rfl | go_num, hK2.out, MK.out⟩
                    case measure => simp [intOf]
          · obtain rfl : k = 3 := by omega
            have hS2 : Hid (chgR m A0 2 = some (A', u')) := by
              show chgR _ _ _ = _
              rw [chgR, hS.out]
              simp only [Option.bind_some]
              rw [hK.out]
              rfl
            go_wp2_with fail
            go_roundw
            case rel => exact ⟨2, A', u', by omega, hu', by go_num, rfl, hS2.out, MK.out⟩
            case measure => simp [intOf]
      · go_wp2_with fail
        go_loopw [10, 7, 9] (fun kv uv nv wx => ∃ (k : Nat) (A' : List Int) (u' n' : Nat), k ≤ 3 ∧ u' < 8 ∧ kv = .int .i64 k ∧ uv = .int .i64 u' ∧ nv = .int .i64 n' ∧ Hid (chgK m 2 k (A, u, 0) = some (A', u', n')) ∧ Hid (Mem w [(OB, oI A' 168)] wx)) (fun kv _ _ _ => 3 - (intOf kv).toNat)
        case atStart => exact ⟨0, _, _, _, by omega, hu, rfl, rfl, rfl, rfl, MB.out⟩
        case round =>
          obtain ⟨k, A', u', n', hk, hu', rfl, rfl, rfl, hK, MK⟩ := hrel
          replace hK := Lib.hid hK
          replace MK := Lib.hid MK
          have hn' := chgK_n hK.out
          simp only at hn'
          have LK : Hid (A'.length = 16) := Lib.hid ((chgK_len hK.out).trans LA.out)
          by_cases hk3 : k < 3
          · rcases (by omega : k = 0 ∨ k = 1 ∨ k = 2) with rfl | rfl | rfl
            · have hb := bz6 m hm
              cases hbm : bitM m 6
              · rw [hbm] at hb
                have hK2 : Hid (chgK m 2 1 (A, u, 0) = some (A', u', n')) := by
                  show chgK _ _ _ _ = _
                  rw [chgK, hK.out]
                  simp only [Option.bind_some, chg2]
                  rw [if_neg (by rw [hbm]; simp)]
                clear hbm
                go_wp2_with fail
                go_roundw
                case rel => exact ⟨1, A', u', n', by omega, by omega, by go_num, by first | rfl | go_num, by first | rfl | go_num, hK2.out, MK.out⟩
                case measure => simp [intOf]
              · rw [hbm] at hb
                have hb1 : Hid (bitM m 6 = true) := Lib.hid hbm
                clear hbm
                by_cases e0 : 1 < n' + 1
                · have hz : Hid (chgR m A0 4 = none) := by
                    have h1 : chgK m 2 1 (A, u, 0) = none := by rw [chgK, hK.out]; simp only [Option.bind_some, chg2]; rw [if_pos hb1.out, if_pos (Or.inl e0)]
                    have h2 : chgR m A0 3 = none := by rw [chgR, hS.out]; simp only [Option.bind_some]; rw [chgK_none (show 1 ≤ 3 by omega) h1]; rfl
                    exact chgR_none (show 3 ≤ 4 by omega) h2
                  have e1 : decide ((n' : Int) + 1 > 1) = true := by simp; omega
                  have e1b : wrap64 ((n' : Int) + 1) = n' + 1 := IntWalk.wrap64_in _ (by omega)
                  clear e0
                  go_wp2
                  go_ret2
                  exact ⟨fun _ => rfl, fun s hs => (by rw [hz.out] at hs; cases hs), MK.out.below⟩
                · have hn0 : n' = 0 := by omega
                  subst hn0
                  by_cases e2 : u' / 2 ^ 0 % 2 = 1
                  · have hz : Hid (chgR m A0 4 = none) := by
                      have h1 : chgK m 2 1 (A, u, 0) = none := by rw [chgK, hK.out]; simp only [Option.bind_some, chg2]; rw [if_pos hb1.out, if_pos (Or.inr e2)]
                      have h2 : chgR m A0 3 = none := by rw [chgR, hS.out]; simp only [Option.bind_some]; rw [chgK_none (show 1 ≤ 3 by omega) h1]; rfl
                      exact chgR_none (show 3 ≤ 4 by omega) h2
                    have e3 : (bits BinOp.and IntKind.i64 (u' : Int) 1 == 1) = true := by rw [ub0 u' hu']; simpa using e2
                    clear e0 e2
                    go_wp2
                    go_ret2
                    exact ⟨fun _ => rfl, fun s hs => (by rw [hz.out] at hs; cases hs), MK.out.below⟩
                  · have e3 : (bits BinOp.and IntKind.i64 (u' : Int) 1 == 1) = false := by rw [ub0 u' hu']; simpa using e2
                    have e4 := uo0 u' hu' e2
                    have hu2 := ul0 u' hu' e2
                    have hK2 : Hid (chgK m 2 1 (A, u, 0) = some (rowK A' 2 0, u' + 1, 1)) := by
                      show chgK _ _ _ _ = _
                      rw [chgK, hK.out]
                      simp only [Option.bind_some, chg2]
                      rw [if_pos hb1.out, if_neg (fun h => h.elim e0 e2)]
                    have lA : A'.length = 16 := LK.out
                    have q0 := cellI MK.out.head (o := 8) (by omega)
                    have q1 := cellI MK.out.head (o := 9) (by omega)
                    have q2 := cellI MK.out.head (o := 10) (by omega)
                    have q3 := cellI MK.out.head (o := 11) (by omega)
                    have g0 := freeI MK.out.head 8
                    have g1 := freeI MK.out.head 9
                    have g2 := freeI MK.out.head 10
                    have g3 := freeI MK.out.head 11
                    have AP : Apart OB [] := fun _ h => by cases h
                    have MS : Mem w [(OB, oI (rowK A' 2 0) 168)] _ := (((MK.out.setI AP LE.out 8 0).setI AP LE.out 9 0).setI AP LE.out 10 1).setI AP LE.out 11 0
                    replace MK := Lib.hid MS
                    clear MS AP
                    generalize A'[8]! = v0 at *
                    generalize A'[9]! = v1 at *
                    generalize A'[10]! = v2 at *
                    generalize A'[11]! = v3 at *
                    clear e0 e2
                    go_wp2_with fail
                    go_roundw
                    case rel => exact ⟨1, rowK A' 2 0, u' + 1, 1, by omega, by omega, by go_num, by first | rfl | go_num, by first | rfl | go_num, hK2.out, MK.out⟩
                    case measure => simp [intOf]
            · have hb := bz7 m hm
              cases hbm : bitM m 7
              · rw [hbm] at hb
                have hK2 : Hid (chgK m 2 2 (A, u, 0) = some (A', u', n')) := by
                  show chgK _ _ _ _ = _
                  rw [chgK, hK.out]
                  simp only [Option.bind_some, chg2]
                  rw [if_neg (by rw [hbm]; simp)]
                clear hbm
                go_wp2_with fail
                go_roundw
                case rel => exact ⟨2, A', u', n', by omega, by omega, by go_num, by first | rfl | go_num, by first | rfl | go_num, hK2.out, MK.out⟩
                case measure => simp [intOf]
              · rw [hbm] at hb
                have hb1 : Hid (bitM m 7 = true) := Lib.hid hbm
                clear hbm
                by_cases e0 : 1 < n' + 1
                · have hz : Hid (chgR m A0 4 = none) := by
                    have h1 : chgK m 2 2 (A, u, 0) = none := by rw [chgK, hK.out]; simp only [Option.bind_some, chg2]; rw [if_pos hb1.out, if_pos (Or.inl e0)]
                    have h2 : chgR m A0 3 = none := by rw [chgR, hS.out]; simp only [Option.bind_some]; rw [chgK_none (show 2 ≤ 3 by omega) h1]; rfl
                    exact chgR_none (show 3 ≤ 4 by omega) h2
                  have e1 : decide ((n' : Int) + 1 > 1) = true := by simp; omega
                  have e1b : wrap64 ((n' : Int) + 1) = n' + 1 := IntWalk.wrap64_in _ (by omega)
                  clear e0
                  go_wp2
                  go_ret2
                  exact ⟨fun _ => rfl, fun s hs => (by rw [hz.out] at hs; cases hs), MK.out.below⟩
                · have hn0 : n' = 0 := by omega
                  subst hn0
                  by_cases e2 : u' / 2 ^ 1 % 2 = 1
                  · have hz : Hid (chgR m A0 4 = none) := by
                      have h1 : chgK m 2 2 (A, u, 0) = none := by rw [chgK, hK.out]; simp only [Option.bind_some, chg2]; rw [if_pos hb1.out, if_pos (Or.inr e2)]
                      have h2 : chgR m A0 3 = none := by rw [chgR, hS.out]; simp only [Option.bind_some]; rw [chgK_none (show 2 ≤ 3 by omega) h1]; rfl
                      exact chgR_none (show 3 ≤ 4 by omega) h2
                    have e3 : (bits BinOp.and IntKind.i64 ((u' : Int) / 2) 1 == 1) = true := by rw [ub1 u' hu']; simpa using e2
                    clear e0 e2
                    go_wp2
                    go_ret2
                    exact ⟨fun _ => rfl, fun s hs => (by rw [hz.out] at hs; cases hs), MK.out.below⟩
                  · have e3 : (bits BinOp.and IntKind.i64 ((u' : Int) / 2) 1 == 1) = false := by rw [ub1 u' hu']; simpa using e2
                    have e4 := uo1 u' hu' e2
                    have hu2 := ul1 u' hu' e2
                    have hK2 : Hid (chgK m 2 2 (A, u, 0) = some (rowK A' 2 1, u' + 2, 1)) := by
                      show chgK _ _ _ _ = _
                      rw [chgK, hK.out]
                      simp only [Option.bind_some, chg2]
                      rw [if_pos hb1.out, if_neg (fun h => h.elim e0 e2)]
                    have lA : A'.length = 16 := LK.out
                    have q0 := cellI MK.out.head (o := 8) (by omega)
                    have q1 := cellI MK.out.head (o := 9) (by omega)
                    have q2 := cellI MK.out.head (o := 10) (by omega)
                    have q3 := cellI MK.out.head (o := 11) (by omega)
                    have g0 := freeI MK.out.head 8
                    have g1 := freeI MK.out.head 9
                    have g2 := freeI MK.out.head 10
                    have g3 := freeI MK.out.head 11
                    have AP : Apart OB [] := fun _ h => by cases h
                    have MS : Mem w [(OB, oI (rowK A' 2 1) 168)] _ := (((MK.out.setI AP LE.out 8 0).setI AP LE.out 9 1).setI AP LE.out 10 0).setI AP LE.out 11 0
                    replace MK := Lib.hid MS
                    clear MS AP
                    generalize A'[8]! = v0 at *
                    generalize A'[9]! = v1 at *
                    generalize A'[10]! = v2 at *
                    generalize A'[11]! = v3 at *
                    clear e0 e2
                    go_wp2_with fail
                    go_roundw
                    case rel => exact ⟨2, rowK A' 2 1, u' + 2, 1, by omega, by omega, by go_num, by first | rfl | go_num, by first | rfl | go_num, hK2.out, MK.out⟩
                    case measure => simp [intOf]
            · have hb := bz8 m hm
              cases hbm : bitM m 8
              · rw [hbm] at hb
                have hK2 : Hid (chgK m 2 3 (A, u, 0) = some (A', u', n')) := by
                  show chgK _ _ _ _ = _
                  rw [chgK, hK.out]
                  simp only [Option.bind_some, chg2]
                  rw [if_neg (by rw [hbm]; simp)]
                clear hbm
                go_wp2_with fail
                go_roundw
                case rel => exact ⟨3, A', u', n', by omega, by omega, by go_num, by first | rfl | go_num, by first | rfl | go_num, hK2.out, MK.out⟩
                case measure => simp [intOf]
              · rw [hbm] at hb
                have hb1 : Hid (bitM m 8 = true) := Lib.hid hbm
                clear hbm
                by_cases e0 : 1 < n' + 1
                · have hz : Hid (chgR m A0 4 = none) := by
                    have h1 : chgK m 2 3 (A, u, 0) = none := by rw [chgK, hK.out]; simp only [Option.bind_some, chg2]; rw [if_pos hb1.out, if_pos (Or.inl e0)]
                    have h2 : chgR m A0 3 = none := by rw [chgR, hS.out]; simp only [Option.bind_some]; rw [chgK_none (show 3 ≤ 3 by omega) h1]; rfl
                    exact chgR_none (show 3 ≤ 4 by omega) h2
                  have e1 : decide ((n' : Int) + 1 > 1) = true := by simp; omega
                  have e1b : wrap64 ((n' : Int) + 1) = n' + 1 := IntWalk.wrap64_in _ (by omega)
                  clear e0
                  go_wp2
                  go_ret2
                  exact ⟨fun _ => rfl, fun s hs => (by rw [hz.out] at hs; cases hs), MK.out.below⟩
                · have hn0 : n' = 0 := by omega
                  subst hn0
                  by_cases e2 : u' / 2 ^ 2 % 2 = 1
                  · have hz : Hid (chgR m A0 4 = none) := by
                      have h1 : chgK m 2 3 (A, u, 0) = none := by rw [chgK, hK.out]; simp only [Option.bind_some, chg2]; rw [if_pos hb1.out, if_pos (Or.inr e2)]
                      have h2 : chgR m A0 3 = none := by rw [chgR, hS.out]; simp only [Option.bind_some]; rw [chgK_none (show 3 ≤ 3 by omega) h1]; rfl
                      exact chgR_none (show 3 ≤ 4 by omega) h2
                    have e3 : (bits BinOp.and IntKind.i64 ((u' : Int) / 4) 1 == 1) = true := by rw [ub2 u' hu']; simpa using e2
                    clear e0 e2
                    go_wp2
                    go_ret2
                    exact ⟨fun _ => rfl, fun s hs => (by rw [hz.out] at hs; cases hs), MK.out.below⟩
                  · have e3 : (bits BinOp.and IntKind.i64 ((u' : Int) / 4) 1 == 1) = false := by rw [ub2 u' hu']; simpa using e2
                    have e4 := uo2 u' hu' e2
                    have hu2 := ul2 u' hu' e2
                    have hK2 : Hid (chgK m 2 3 (A, u, 0) = some (rowK A' 2 2, u' + 4, 1)) := by
                      show chgK _ _ _ _ = _
                      rw [chgK, hK.out]
                      simp only [Option.bind_some, chg2]
                      rw [if_pos hb1.out, if_neg (fun h => h.elim e0 e2)]
                    have lA : A'.length = 16 := LK.out
                    have q0 := cellI MK.out.head (o := 8) (by omega)
                    have q1 := cellI MK.out.head (o := 9) (by omega)
                    have q2 := cellI MK.out.head (o := 10) (by omega)
                    have q3 := cellI MK.out.head (o := 11) (by omega)
                    have g0 := freeI MK.out.head 8
                    have g1 := freeI MK.out.head 9
                    have g2 := freeI MK.out.head 10
                    have g3 := freeI MK.out.head 11
                    have AP : Apart OB [] := fun _ h => by cases h
                    have MS : Mem w [(OB, oI (rowK A' 2 2) 168)] _ := (((MK.out.setI AP LE.out 8 1).setI AP LE.out 9 0).setI AP LE.out 10 0).setI AP LE.out 11 0
                    replace MK := Lib.hid MS
                    clear MS AP
                    generalize A'[8]! = v0 at *
                    generalize A'[9]! = v1 at *
                    generalize A'[10]! = v2 at *
                    generalize A'[11]! = v3 at *
                    clear e0 e2
                    go_wp2_with fail
                    go_roundw
                    case rel => exact ⟨3, rowK A' 2 2, u' + 4, 1, by omega, by omega, by go_num, by first | rfl | go_num, by first | rfl | go_num, hK2.out, MK.out⟩
                    case measure => simp [intOf]
          · obtain rfl : k = 3 := by omega
            have hS2 : Hid (chgR m A0 3 = some (A', u')) := by
              show chgR _ _ _ = _
              rw [chgR, hS.out]
              simp only [Option.bind_some]
              rw [hK.out]
              rfl
            go_wp2_with fail
            go_roundw
            case rel => exact ⟨3, A', u', by omega, hu', by go_num, rfl, hS2.out, MK.out⟩
            case measure => simp [intOf]
      · go_wp2_with fail
        go_loopw [10, 7, 9] (fun kv uv nv wx => ∃ (k : Nat) (A' : List Int) (u' n' : Nat), k ≤ 3 ∧ u' < 8 ∧ kv = .int .i64 k ∧ uv = .int .i64 u' ∧ nv = .int .i64 n' ∧ Hid (chgK m 3 k (A, u, 0) = some (A', u', n')) ∧ Hid (Mem w [(OB, oI A' 168)] wx)) (fun kv _ _ _ => 3 - (intOf kv).toNat)
        case atStart => exact ⟨0, _, _, _, by omega, hu, rfl, rfl, rfl, rfl, MB.out⟩
        case round =>
          obtain ⟨k, A', u', n', hk, hu', rfl, rfl, rfl, hK, MK⟩ := hrel
          replace hK := Lib.hid hK
          replace MK := Lib.hid MK
          have hn' := chgK_n hK.out
          simp only at hn'
          have LK : Hid (A'.length = 16) := Lib.hid ((chgK_len hK.out).trans LA.out)
          by_cases hk3 : k < 3
          · rcases (by omega : k = 0 ∨ k = 1 ∨ k = 2) with rfl | rfl | rfl
            · have hb := bz9 m hm
              cases hbm : bitM m 9
              · rw [hbm] at hb
                have hK2 : Hid (chgK m 3 1 (A, u, 0) = some (A', u', n')) := by
                  show chgK _ _ _ _ = _
                  rw [chgK, hK.out]
                  simp only [Option.bind_some, chg2]
                  rw [if_neg (by rw [hbm]; simp)]
                clear hbm
                go_wp2_with fail
                go_roundw
                case rel => exact ⟨1, A', u', n', by omega, by omega, by go_num, by first | rfl | go_num, by first | rfl | go_num, hK2.out, MK.out⟩
                case measure => simp [intOf]
              · rw [hbm] at hb
                have hb1 : Hid (bitM m 9 = true) := Lib.hid hbm
                clear hbm
                by_cases e0 : 1 < n' + 1
                · have hz : Hid (chgR m A0 4 = none) := by
                    have h1 : chgK m 3 1 (A, u, 0) = none := by rw [chgK, hK.out]; simp only [Option.bind_some, chg2]; rw [if_pos hb1.out, if_pos (Or.inl e0)]
                    have h2 : chgR m A0 4 = none := by rw [chgR, hS.out]; simp only [Option.bind_some]; rw [chgK_none (show 1 ≤ 3 by omega) h1]; rfl
                    exact chgR_none (show 4 ≤ 4 by omega) h2
                  have e1 : decide ((n' : Int) + 1 > 1) = true := by simp; omega
                  have e1b : wrap64 ((n' : Int) + 1) = n' + 1 := IntWalk.wrap64_in _ (by omega)
                  clear e0
                  go_wp2
                  go_ret2
                  exact ⟨fun _ => rfl, fun s hs => (by rw [hz.out] at hs; cases hs), MK.out.below⟩
                · have hn0 : n' = 0 := by omega
                  subst hn0
                  by_cases e2 : u' / 2 ^ 0 % 2 = 1
                  · have hz : Hid (chgR m A0 4 = none) := by
                      have h1 : chgK m 3 1 (A, u, 0) = none := by rw [chgK, hK.out]; simp only [Option.bind_some, chg2]; rw [if_pos hb1.out, if_pos (Or.inr e2)]
                      have h2 : chgR m A0 4 = none := by rw [chgR, hS.out]; simp only [Option.bind_some]; rw [chgK_none (show 1 ≤ 3 by omega) h1]; rfl
                      exact chgR_none (show 4 ≤ 4 by omega) h2
                    have e3 : (bits BinOp.and IntKind.i64 (u' : Int) 1 == 1) = true := by rw [ub0 u' hu']; simpa using e2
                    clear e0 e2
                    go_wp2
                    go_ret2
                    exact ⟨fun _ => rfl, fun s hs => (by rw [hz.out] at hs; cases hs), MK.out.below⟩
                  · have e3 : (bits BinOp.and IntKind.i64 (u' : Int) 1 == 1) = false := by rw [ub0 u' hu']; simpa using e2
                    have e4 := uo0 u' hu' e2
                    have hu2 := ul0 u' hu' e2
                    have hK2 : Hid (chgK m 3 1 (A, u, 0) = some (rowK A' 3 0, u' + 1, 1)) := by
                      show chgK _ _ _ _ = _
                      rw [chgK, hK.out]
                      simp only [Option.bind_some, chg2]
                      rw [if_pos hb1.out, if_neg (fun h => h.elim e0 e2)]
                    have lA : A'.length = 16 := LK.out
                    have q0 := cellI MK.out.head (o := 12) (by omega)
                    have q1 := cellI MK.out.head (o := 13) (by omega)
                    have q2 := cellI MK.out.head (o := 14) (by omega)
                    have q3 := cellI MK.out.head (o := 15) (by omega)
                    have g0 := freeI MK.out.head 12
                    have g1 := freeI MK.out.head 13
                    have g2 := freeI MK.out.head 14
                    have g3 := freeI MK.out.head 15
                    have AP : Apart OB [] := fun _ h => by cases h
                    have MS : Mem w [(OB, oI (rowK A' 3 0) 168)] _ := (((MK.out.setI AP LE.out 12 0).setI AP LE.out 13 0).setI AP LE.out 14 1).setI AP LE.out 15 0
                    replace MK := Lib.hid MS
                    clear MS AP
                    generalize A'[12]! = v0 at *
                    generalize A'[13]! = v1 at *
                    generalize A'[14]! = v2 at *
                    generalize A'[15]! = v3 at *
                    clear e0 e2
                    go_wp2_with fail
                    go_roundw
                    case rel => exact ⟨1, rowK A' 3 0, u' + 1, 1, by omega, by omega, by go_num, by first | rfl | go_num, by first | rfl | go_num, hK2.out, MK.out⟩
                    case measure => simp [intOf]
            · have hb := bz10 m hm
              cases hbm : bitM m 10
              · rw [hbm] at hb
                have hK2 : Hid (chgK m 3 2 (A, u, 0) = some (A', u', n')) := by
                  show chgK _ _ _ _ = _
                  rw [chgK, hK.out]
                  simp only [Option.bind_some, chg2]
                  rw [if_neg (by rw [hbm]; simp)]
                clear hbm
                go_wp2_with fail
                go_roundw
                case rel => exact ⟨2, A', u', n', by omega, by omega, by go_num, by first | rfl | go_num, by first | rfl | go_num, hK2.out, MK.out⟩
                case measure => simp [intOf]
              · rw [hbm] at hb
                have hb1 : Hid (bitM m 10 = true) := Lib.hid hbm
                clear hbm
                by_cases e0 : 1 < n' + 1
                · have hz : Hid (chgR m A0 4 = none) := by
                    have h1 : chgK m 3 2 (A, u, 0) = none := by rw [chgK, hK.out]; simp only [Option.bind_some, chg2]; rw [if_pos hb1.out, if_pos (Or.inl e0)]
                    have h2 : chgR m A0 4 = none := by rw [chgR, hS.out]; simp only [Option.bind_some]; rw [chgK_none (show 2 ≤ 3 by omega) h1]; rfl
                    exact chgR_none (show 4 ≤ 4 by omega) h2
                  have e1 : decide ((n' : Int) + 1 > 1) = true := by simp; omega
                  have e1b : wrap64 ((n' : Int) + 1) = n' + 1 := IntWalk.wrap64_in _ (by omega)
                  clear e0
                  go_wp2
                  go_ret2
                  exact ⟨fun _ => rfl, fun s hs => (by rw [hz.out] at hs; cases hs), MK.out.below⟩
                · have hn0 : n' = 0 := by omega
                  subst hn0
                  by_cases e2 : u' / 2 ^ 1 % 2 = 1
                  · have hz : Hid (chgR m A0 4 = none) := by
                      have h1 : chgK m 3 2 (A, u, 0) = none := by rw [chgK, hK.out]; simp only [Option.bind_some, chg2]; rw [if_pos hb1.out, if_pos (Or.inr e2)]
                      have h2 : chgR m A0 4 = none := by rw [chgR, hS.out]; simp only [Option.bind_some]; rw [chgK_none (show 2 ≤ 3 by omega) h1]; rfl
                      exact chgR_none (show 4 ≤ 4 by omega) h2
                    have e3 : (bits BinOp.and IntKind.i64 ((u' : Int) / 2) 1 == 1) = true := by rw [ub1 u' hu']; simpa using e2
                    clear e0 e2
                    go_wp2
                    go_ret2
                    exact ⟨fun _ => rfl, fun s hs => (by rw [hz.out] at hs; cases hs), MK.out.below⟩
                  · have e3 : (bits BinOp.and IntKind.i64 ((u' : Int) / 2) 1 == 1) = false := by rw [ub1 u' hu']; simpa using e2
                    have e4 := uo1 u' hu' e2
                    have hu2 := ul1 u' hu' e2
                    have hK2 : Hid (chgK m 3 2 (A, u, 0) = some (rowK A' 3 1, u' + 2, 1)) := by
                      show chgK _ _ _ _ = _
                      rw [chgK, hK.out]
                      simp only [Option.bind_some, chg2]
                      rw [if_pos hb1.out, if_neg (fun h => h.elim e0 e2)]
                    have lA : A'.length = 16 := LK.out
                    have q0 := cellI MK.out.head (o := 12) (by omega)
                    have q1 := cellI MK.out.head (o := 13) (by omega)
                    have q2 := cellI MK.out.head (o := 14) (by omega)
                    have q3 := cellI MK.out.head (o := 15) (by omega)
                    have g0 := freeI MK.out.head 12
                    have g1 := freeI MK.out.head 13
                    have g2 := freeI MK.out.head 14
                    have g3 := freeI MK.out.head 15
                    have AP : Apart OB [] := fun _ h => by cases h
                    have MS : Mem w [(OB, oI (rowK A' 3 1) 168)] _ := (((MK.out.setI AP LE.out 12 0).setI AP LE.out 13 1).setI AP LE.out 14 0).setI AP LE.out 15 0
                    replace MK := Lib.hid MS
                    clear MS AP
                    generalize A'[12]! = v0 at *
                    generalize A'[13]! = v1 at *
                    generalize A'[14]! = v2 at *
                    generalize A'[15]! = v3 at *
                    clear e0 e2
                    go_wp2_with fail
                    go_roundw
                    case rel => exact ⟨2, rowK A' 3 1, u' + 2, 1, by omega, by omega, by go_num, by first | rfl | go_num, by first | rfl | go_num, hK2.out, MK.out⟩
                    case measure => simp [intOf]
            · have hb := bz11 m hm
              cases hbm : bitM m 11
              · rw [hbm] at hb
                have hK2 : Hid (chgK m 3 3 (A, u, 0) = some (A', u', n')) := by
                  show chgK _ _ _ _ = _
                  rw [chgK, hK.out]
                  simp only [Option.bind_some, chg2]
                  rw [if_neg (by rw [hbm]; simp)]
                clear hbm
                go_wp2_with fail
                go_roundw
                case rel => exact ⟨3, A', u', n', by omega, by omega, by go_num, by first | rfl | go_num, by first | rfl | go_num, hK2.out, MK.out⟩
                case measure => simp [intOf]
              · rw [hbm] at hb
                have hb1 : Hid (bitM m 11 = true) := Lib.hid hbm
                clear hbm
                by_cases e0 : 1 < n' + 1
                · have hz : Hid (chgR m A0 4 = none) := by
                    have h1 : chgK m 3 3 (A, u, 0) = none := by rw [chgK, hK.out]; simp only [Option.bind_some, chg2]; rw [if_pos hb1.out, if_pos (Or.inl e0)]
                    have h2 : chgR m A0 4 = none := by rw [chgR, hS.out]; simp only [Option.bind_some]; rw [chgK_none (show 3 ≤ 3 by omega) h1]; rfl
                    exact chgR_none (show 4 ≤ 4 by omega) h2
                  have e1 : decide ((n' : Int) + 1 > 1) = true := by simp; omega
                  have e1b : wrap64 ((n' : Int) + 1) = n' + 1 := IntWalk.wrap64_in _ (by omega)
                  clear e0
                  go_wp2
                  go_ret2
                  exact ⟨fun _ => rfl, fun s hs => (by rw [hz.out] at hs; cases hs), MK.out.below⟩
                · have hn0 : n' = 0 := by omega
                  subst hn0
                  by_cases e2 : u' / 2 ^ 2 % 2 = 1
                  · have hz : Hid (chgR m A0 4 = none) := by
                      have h1 : chgK m 3 3 (A, u, 0) = none := by rw [chgK, hK.out]; simp only [Option.bind_some, chg2]; rw [if_pos hb1.out, if_pos (Or.inr e2)]
                      have h2 : chgR m A0 4 = none := by rw [chgR, hS.out]; simp only [Option.bind_some]; rw [chgK_none (show 3 ≤ 3 by omega) h1]; rfl
                      exact chgR_none (show 4 ≤ 4 by omega) h2
                    have e3 : (bits BinOp.and IntKind.i64 ((u' : Int) / 4) 1 == 1) = true := by rw [ub2 u' hu']; simpa using e2
                    clear e0 e2
                    go_wp2
                    go_ret2
                    exact ⟨fun _ => rfl, fun s hs => (by rw [hz.out] at hs; cases hs), MK.out.below⟩
                  · have e3 : (bits BinOp.and IntKind.i64 ((u' : Int) / 4) 1 == 1) = false := by rw [ub2 u' hu']; simpa using e2
                    have e4 := uo2 u' hu' e2
                    have hu2 := ul2 u' hu' e2
                    have hK2 : Hid (chgK m 3 3 (A, u, 0) = some (rowK A' 3 2, u' + 4, 1)) := by
                      show chgK _ _ _ _ = _
                      rw [chgK, hK.out]
                      simp only [Option.bind_some, chg2]
                      rw [if_pos hb1.out, if_neg (fun h => h.elim e0 e2)]
                    have lA : A'.length = 16 := LK.out
                    have q0 := cellI MK.out.head (o := 12) (by omega)
                    have q1 := cellI MK.out.head (o := 13) (by omega)
                    have q2 := cellI MK.out.head (o := 14) (by omega)
                    have q3 := cellI MK.out.head (o := 15) (by omega)
                    have g0 := freeI MK.out.head 12
                    have g1 := freeI MK.out.head 13
                    have g2 := freeI MK.out.head 14
                    have g3 := freeI MK.out.head 15
                    have AP : Apart OB [] := fun _ h => by cases h
                    have MS : Mem w [(OB, oI (rowK A' 3 2) 168)] _ := (((MK.out.setI AP LE.out 12 1).setI AP LE.out 13 0).setI AP LE.out 14 0).setI AP LE.out 15 0
                    replace MK := Lib.hid MS
                    clear MS AP
                    generalize A'[12]! = v0 at *
                    generalize A'[13]! = v1 at *
                    generalize A'[14]! = v2 at *
                    generalize A'[15]! = v3 at *
                    clear e0 e2
                    go_wp2_with fail
                    go_roundw
                    case rel => exact ⟨3, rowK A' 3 2, u' + 4, 1, by omega, by omega, by go_num, by first | rfl | go_num, by first | rfl | go_num, hK2.out, MK.out⟩
                    case measure => simp [intOf]
          · obtain rfl : k = 3 := by omega
            have hS2 : Hid (chgR m A0 4 = some (A', u')) := by
              show chgR _ _ _ = _
              rw [chgR, hS.out]
              simp only [Option.bind_some]
              rw [hK.out]
              rfl
            go_wp2_with fail
            go_roundw
            case rel => exact ⟨4, A', u', by omega, hu', by go_num, rfl, hS2.out, MK.out⟩
            case measure => simp [intOf]
    · obtain rfl : r = 4 := by omega
      go_wp2
      go_ret2
      exact ⟨fun h => (by rw [hS.out] at h; cases h), fun s hs => (by rw [hS.out] at hs; injection hs with hs; subst hs; exact ⟨OB, rfl, MB.out.head, LE.out⟩), MB.out.below⟩

set_option maxHeartbeats 4000000 in
theorem chg_same (p0 p1 p2 p3 p4 p5 p6 p7 p8 p9 p10 p11 : Int) : ∀ m : Nat, m < 85 → (chgR m [p0, p1, p2, 1, p3, p4, p5, 1, p6, p7, p8, 1, p9, p10, p11, 1] 4).map (fun s => s.1) = (stR [p0, p1, p2, p3, p4, p5, p6, p7, p8, p9, p10, p11] m 4).map (fun s => s.1) := by
  intro m hm
  rcases (by omega : m = 0 ∨ m = 1 ∨ m = 2 ∨ m = 3 ∨ m = 4 ∨ m = 5 ∨ m = 6 ∨ m = 7 ∨ m = 8 ∨ m = 9 ∨ m = 10 ∨ m = 11 ∨ m = 12 ∨ m = 13 ∨ m = 14 ∨ m = 15 ∨ m = 16 ∨ m = 17 ∨ m = 18 ∨ m = 19 ∨ m = 20 ∨ m = 21 ∨ m = 22 ∨ m = 23 ∨ m = 24 ∨ m = 25 ∨ m = 26 ∨ m = 27 ∨ m = 28 ∨ m = 29 ∨ m = 30 ∨ m = 31 ∨ m = 32 ∨ m = 33 ∨ m = 34 ∨ m = 35 ∨ m = 36 ∨ m = 37 ∨ m = 38 ∨ m = 39 ∨ m = 40 ∨ m = 41 ∨ m = 42 ∨ m = 43 ∨ m = 44 ∨ m = 45 ∨ m = 46 ∨ m = 47 ∨ m = 48 ∨ m = 49 ∨ m = 50 ∨ m = 51 ∨ m = 52 ∨ m = 53 ∨ m = 54 ∨ m = 55 ∨ m = 56 ∨ m = 57 ∨ m = 58 ∨ m = 59 ∨ m = 60 ∨ m = 61 ∨ m = 62 ∨ m = 63 ∨ m = 64 ∨ m = 65 ∨ m = 66 ∨ m = 67 ∨ m = 68 ∨ m = 69 ∨ m = 70 ∨ m = 71 ∨ m = 72 ∨ m = 73 ∨ m = 74 ∨ m = 75 ∨ m = 76 ∨ m = 77 ∨ m = 78 ∨ m = 79 ∨ m = 80 ∨ m = 81 ∨ m = 82 ∨ m = 83 ∨ m = 84) with rfl | rfl | rfl | rfl | rfl | rfl | rfl | rfl | rfl | rfl | rfl | rfl | rfl | rfl | rfl | rfl | rfl | rfl | rfl | rfl | rfl | rfl | rfl | rfl | rfl | rfl | rfl | rfl | rfl | rfl | rfl | rfl | rfl | rfl | rfl | rfl | rfl | rfl | rfl | rfl | rfl | rfl | rfl | rfl | rfl | rfl | rfl | rfl | rfl | rfl | rfl | rfl | rfl | rfl | rfl | rfl | rfl | rfl | rfl | rfl | rfl | rfl | rfl | rfl | rfl | rfl | rfl | rfl | rfl | rfl | rfl | rfl | rfl | rfl | rfl | rfl | rfl | rfl | rfl | rfl | rfl | rfl | rfl | rfl | rfl <;> kernel_rfl
end Go.Proofs.Ytojecaeblgghjaa
