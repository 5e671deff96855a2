/-
  WORDS FOR OrderLent: five lists that were told one after another, the row that names them, and what writing into them leaves.
-/
import Derived.Test.YtojecaeblgghjaaRefSet
import Derived.Test.YtojecaeblgghjaaIn3
set_option linter.unusedVariables false
set_option linter.unusedSimpArgs false
namespace Go.Proofs.Ytojecaeblgghjaa
open Go.RowKit Go.Sort LsP

theorem sameI_true (P Q : Option Addr) (c d : Nat) (l : List Int) (W : World) (lo lo' : Nat) (hp : Rd encI lo W P l) (hq : Rd encI lo' W Q l) (hl : l.length ≤ 1000000) :
    Calls Try.prog 25 #[.slice P l.length c, .slice Q l.length d] W fun e w' => e = .returned (.bool true) ∧ ∃ q, w' = W.drewN q := by
  have := refSame_any P Q c d l l W lo lo' hp hq hl hl
  simp only [decide_true] at this
  exact this

/-- A told list: its blocks lie from m0 to m1. -/
structure Got (m0 m1 : Nat) (W : World) (A : Option Addr) (l : List Int) (c : Nat) : Prop where
  rd : Rd encI m0 W A l
  fr : Fr W A l.length
  up : 0 < l.length → ∀ b o, A = some ⟨b, o, none⟩ → b < m1
  cap : l.length ≤ c
  sz : m1 ≤ W.heap.size
  mono : m0 ≤ m1

theorem Got.of_told {W W' : World} {A : Option Addr} {c : Nat} {l : List Int} (h1 : l.length ≤ c) (h2 : Rd encI W.heap.size W' A l) (h3 : Fr W' A l.length) (hb : Below W.heap.size W W') : Got W.heap.size W'.heap.size W' A l c :=
  ⟨h2, h3, fun hp b o e => by
    obtain ⟨b', o', e', _, h, _⟩ := h2 hp
    rw [e] at e'; injection e' with e'; injection e' with e1 e2
    subst e1; exact h, h1, Nat.le_refl _, hb.size⟩

theorem Got.below {m0 m1 : Nat} {W W' : World} {A : Option Addr} {l : List Int} {c : Nat} (h : Got m0 m1 W A l c) (hb : Below W.heap.size W W') : Got m0 m1 W' A l c :=
  ⟨h.rd.below hb (Nat.le_refl _), fun b o e j hj => by
    rw [hb.frozen (p := ⟨b, o + j, none⟩) (Nat.lt_of_lt_of_le (h.up (by omega) b o e) h.sz)]; exact h.fr b o e j hj, h.up, h.cap, Nat.le_trans h.sz hb.size, h.mono⟩

theorem Got.nat {m0 m1 n0 n1 : Nat} {W : World} {A : Option Addr} {l : List Int} {c : Nat} (h : Got m0 m1 W A l c) (e0 : m0 = n0) (e1 : m1 = n1) : Got n0 n1 W A l c := by subst e0; subst e1; exact h

structure Five (G : Nat → List Int) (Z : Nat) (W : World) (fb : Nat) (Af : Nat → Option Addr) (cf m : Nat → Nat) : Prop where
  got : ∀ i, i < 5 → Got (m i) (m (i + 1)) W (Af i) (G i) (cf i)
  lo : Z ≤ m 0
  last : m 5 ≤ fb
  row : ∀ i, i < 5 → W.cell? ⟨fb, i, none⟩ = some (.slice (Af i) (G i).length (cf i))
  lt : fb < W.heap.size

theorem Five.below {G : Nat → List Int} {Z : Nat} {W W' : World} {fb : Nat} {Af : Nat → Option Addr} {cf m : Nat → Nat} (h : Five G Z W fb Af cf m) (hb : Below W.heap.size W W') : Five G Z W' fb Af cf m :=
  ⟨fun i hi => (h.got i hi).below hb, h.lo, h.last, fun i hi => (hb.cell (p := ⟨fb, i, none⟩) h.lt).trans (h.row i hi), Nat.lt_of_lt_of_le h.lt hb.size⟩

theorem Five.le {G : Nat → List Int} {Z : Nat} {W : World} {fb : Nat} {Af : Nat → Option Addr} {cf m : Nat → Nat} (h : Five G Z W fb Af cf m) {i j : Nat} (hij : i ≤ j) (hj : j ≤ 5) : m i ≤ m j := by
  induction j with
  | zero => rw [Nat.le_zero.1 hij]; exact Nat.le_refl _
  | succ j ih =>
    rcases Nat.lt_or_ge j i with h1 | h1
    · rw [show i = j + 1 by omega]; exact Nat.le_refl _
    · exact Nat.le_trans (ih h1 (by omega)) (h.got j (by omega)).mono

theorem Five.low {G : Nat → List Int} {Z Z' : Nat} {W : World} {fb : Nat} {Af : Nat → Option Addr} {cf m : Nat → Nat} (h : Five G Z W fb Af cf m) (hz : Z' ≤ Z) : Five G Z' W fb Af cf m :=
  ⟨h.got, Nat.le_trans hz h.lo, h.last, h.row, h.lt⟩

def five {α : Type} (a b c d e : α) : Nat → α
  | 0 => a
  | 1 => b
  | 2 => c
  | 3 => d
  | _ => e

theorem Five.make {l0 l1 l2 l3 l4 : List Int} {Z m0 m1 m2 m3 m4 m5 : Nat} {W : World} {A0 A1 A2 A3 A4 : Option Addr} {c0 c1 c2 c3 c4 : Nat} {t : TypeId}
    (h0 : Got m0 m1 W A0 l0 c0) (h1 : Got m1 m2 W A1 l1 c1) (h2 : Got m2 m3 W A2 l2 c2) (h3 : Got m3 m4 W A3 l3 c3) (h4 : Got m4 m5 W A4 l4 c4) (hz : Z ≤ m0) :
    Five (five l0 l1 l2 l3 l4) Z (W.alloc (.cells #[.slice A0 l0.length c0, .slice A1 l1.length c1, .slice A2 l2.length c2, .slice A3 l3.length c3, .slice A4 l4.length c4] t)) W.heap.size (five A0 A1 A2 A3 A4) (five c0 c1 c2 c3 c4) (fun i => match i with | 0 => m0 | 1 => m1 | 2 => m2 | 3 => m3 | 4 => m4 | _ => m5) := by
  have hb : ∀ o, Below W.heap.size W (W.alloc o) := fun o => (Below.refl _ _).alloc (Nat.le_refl _) o
  refine ⟨fun i hi => ?_, hz, h4.sz, fun i hi => ?_, by simp⟩
  · match i, hi with
    | 0, _ => exact h0.below (hb _)
    | 1, _ => exact h1.below (hb _)
    | 2, _ => exact h2.below (hb _)
    | 3, _ => exact h3.below (hb _)
    | 4, _ => exact h4.below (hb _)
  · rw [cell_of_row _ _ _ _ _ _ (heap_alloc_new W _)]
    match i, hi with
    | 0, _ => rfl
    | 1, _ => rfl
    | 2, _ => rfl
    | 3, _ => rfl
    | 4, _ => rfl

/-- What is wanted: five lists that can be read, and the row that names them. -/
structure Wants (G : Nat → List Int) (W : World) (wb : Nat) (Rf : Nat → Option Addr) (rc : Nat → Nat) : Prop where
  rd : ∀ i, i < 5 → Rd encI 0 W (Rf i) (G i)
  row : ∀ i, i < 5 → W.cell? ⟨wb, i, none⟩ = some (.slice (Rf i) (G i).length (rc i))

theorem Wants.make {l0 l1 l2 l3 l4 : List Int} {z0 z1 z2 z3 z4 : Nat} {W : World} {A0 A1 A2 A3 A4 : Option Addr} {n0 n1 n2 n3 n4 : Nat} {t : TypeId}
    (h0 : Rd encI z0 W A0 l0) (h1 : Rd encI z1 W A1 l1) (h2 : Rd encI z2 W A2 l2) (h3 : Rd encI z3 W A3 l3) (h4 : Rd encI z4 W A4 l4) :
    Wants (five l0 l1 l2 l3 l4) (W.alloc (.cells #[.slice A0 l0.length n0, .slice A1 l1.length n1, .slice A2 l2.length n2, .slice A3 l3.length n3, .slice A4 l4.length n4] t)) W.heap.size (five A0 A1 A2 A3 A4) (five n0 n1 n2 n3 n4) := by
  have hb : ∀ o, Below W.heap.size W (W.alloc o) := fun o => (Below.refl _ _).alloc (Nat.le_refl _) o
  refine ⟨fun i hi => ?_, fun i hi => ?_⟩
  · match i, hi with
    | 0, _ => exact (h0.below (hb _) (Nat.le_refl _)).low (Nat.zero_le _)
    | 1, _ => exact (h1.below (hb _) (Nat.le_refl _)).low (Nat.zero_le _)
    | 2, _ => exact (h2.below (hb _) (Nat.le_refl _)).low (Nat.zero_le _)
    | 3, _ => exact (h3.below (hb _) (Nat.le_refl _)).low (Nat.zero_le _)
    | 4, _ => exact (h4.below (hb _) (Nat.le_refl _)).low (Nat.zero_le _)
  · rw [cell_of_row _ _ _ _ _ _ (heap_alloc_new W _)]
    match i, hi with
    | 0, _ => rfl
    | 1, _ => rfl
    | 2, _ => rfl
    | 3, _ => rfl
    | 4, _ => rfl

/-- What the cells of the first lists hold when i of them, and k items of the i-th, are written over. -/
def Cells (G : Nat → List Int) (Af : Nat → Option Addr) (i k : Nat) (wr : World) : Prop :=
  ∀ i' j, i' < 5 → j < (G i').length → ∀ b o, Af i' = some ⟨b, o, none⟩ → wr.cell? ⟨b, o + j, none⟩ = some (.int .i64 (if i' < i ∨ (i' = i ∧ j < k) then 9000 + (i' : Int) else (G i')[j]!)) ∧ wr.frozen? ⟨b, o + j, none⟩ = false

theorem if_iff {p q : Prop} [Decidable p] [Decidable q] (h : p ↔ q) (a b : Int) : (if p then a else b) = if q then a else b := by
  by_cases hp : p
  · rw [if_pos hp, if_pos (h.1 hp)]
  · rw [if_neg hp, if_neg (fun hq => hp (h.2 hq))]

theorem Cells.start {G : Nat → List Int} {Z : Nat} {W : World} {fb : Nat} {Af : Nat → Option Addr} {cf m : Nat → Nat} (h : Five G Z W fb Af cf m) : Cells G Af 0 0 W := fun i' j hi hj b o e => by
  have hg := h.got i' hi
  obtain ⟨b', o', e', _, _, h3⟩ := hg.rd (by omega)
  rw [e] at e'; injection e' with e'; injection e' with e1 e2
  subst e1; subst e2
  exact ⟨by rw [if_neg (by omega)]; exact h3 j hj, hg.fr b o e j hj⟩

theorem Cells.next {G : Nat → List Int} {Af : Nat → Option Addr} {i : Nat} {wr : World} (h : Cells G Af i (G i).length wr) : Cells G Af (i + 1) 0 wr := fun i' j hi hj b o e => by
  have := h i' j hi hj b o e
  rw [if_iff (show (i' < i + 1 ∨ (i' = i + 1 ∧ j < 0)) ↔ (i' < i ∨ (i' = i ∧ j < (G i).length)) from ⟨fun hh => by
    rcases Nat.lt_or_ge i' i with h1 | h1
    · exact .inl h1
    · have : i' = i := by omega
      subst this; exact .inr ⟨rfl, hj⟩, fun hh => by omega⟩)]
  exact this

theorem Cells.step {G : Nat → List Int} {Z : Nat} {W : World} {fb : Nat} {Af : Nat → Option Addr} {cf m : Nat → Nat} (h : Five G Z W fb Af cf m) {i k : Nat} {wr : World} (hc : Cells G Af i k wr) (hi : i < 5) (hk : k < (G i).length) {b o : Nat} (hA : Af i = some ⟨b, o, none⟩) :
    Cells G Af i (k + 1) (wr.setCell ⟨b, o + k, none⟩ (.int .i64 (9000 + (i : Int)))) := fun i' j hi' hj b' o' e => by
  have h0 := hc i' j hi' hj b' o' e
  rw [World.frozen?_setCell]
  refine ⟨?_, h0.2⟩
  by_cases he : i' = i
  · subst he
    rw [hA] at e; injection e with e; injection e with e1 e2
    subst e1; subst e2
    by_cases hjk : j = k
    · subst hjk
      rw [World.cell?_setCell_same _ _ _ h0.1, if_pos (by omega)]
    · rw [World.cell?_setCell_other _ _ _ _ (fun e => by have := congrArg Addr.off e; simp at this; omega), h0.1]
      rw [if_iff (show (i' < i' ∨ (i' = i' ∧ j < k)) ↔ (i' < i' ∨ (i' = i' ∧ j < k + 1)) by omega)]
  · have hb1 := (h.got i hi).up (by omega) b o hA
    have hb2 := (h.got i' hi').up (by omega) b' o' e
    obtain ⟨x1, y1, e1, l1, _⟩ := (h.got i hi).rd (by omega)
    obtain ⟨x2, y2, e2, l2, _⟩ := (h.got i' hi').rd (by omega)
    rw [hA] at e1; injection e1 with e1; injection e1 with e1 _; subst e1
    rw [e] at e2; injection e2 with e2; injection e2 with e2 _; subst e2
    have hne : b ≠ b' := by
      rcases Nat.lt_or_ge i i' with h3 | h3
      · have := h.le (i := i + 1) (j := i') (by omega) (by omega); omega
      · have := h.le (i := i' + 1) (j := i) (by omega) (by omega); omega
    rw [World.cell?_setCell_other _ _ _ _ (fun e => by have := congrArg Addr.block e; simp at this; exact hne this), h0.1]
    rw [if_iff (show (i' < i ∨ (i' = i ∧ j < k)) ↔ (i' < i ∨ (i' = i ∧ j < k + 1)) by omega)]

theorem Upd.setCell {F : Nat → Prop} {w w' : World} (h : Upd F w w') {b o : Nat} (hb : F b) (v : Value) : Upd F w (w'.setCell ⟨b, o, none⟩ v) :=
  ⟨h.os, h.tape, h.output, by simpa using h.size, fun k hk hf => (heap_setCell_other w' ⟨b, o, none⟩ k v (fun e => hf (by rw [e]; exact hb))).trans (h.block k hk hf)⟩

theorem Upd.belowZ {F : Nat → Prop} {w w' : World} {Z : Nat} (h : Upd F w w') (hF : ∀ b, F b → Z ≤ b) (hZ : Z ≤ w.heap.size) : Below Z w w' :=
  ⟨h.os, h.tape, h.output, h.size, fun k hk => h.block k (by omega) (fun hf => by have := hF k hf; omega)⟩

/-- The second lists lie beyond what was written over. -/
theorem Five.upd {G : Nat → List Int} {Z : Nat} {W W' : World} {fb : Nat} {Af : Nat → Option Addr} {cf m : Nat → Nat} (h : Five G Z W fb Af cf m) {F : Nat → Prop} (hU : Upd F W W') (hF : ∀ b, F b → b < Z) :
    (∀ i, i < 5 → Rd encI (m i) W' (Af i) (G i)) ∧ (∀ i, i < 5 → W'.cell? ⟨fb, i, none⟩ = some (.slice (Af i) (G i).length (cf i))) := by
  have hl := h.le (i := 0) (j := 5) (by omega) (by omega)
  refine ⟨fun i hi => (h.got i hi).rd.keep hU.size fun b h1 h2 o => World.cell?_of_block (hU.block b h2 fun hf => ?_), fun i hi => (World.cell?_of_block (hU.block fb h.lt fun hf => ?_)).trans (h.row i hi)⟩
  · have := hF b hf; have := h.le (i := 0) (j := i) (by omega) (by omega); have := h.lo; omega
  · have := hF fb hf; have := h.lo; have := h.last; omega
end Go.Proofs.Ytojecaeblgghjaa
