/-
  MEMORY that others write beside one's own: readings and blocks that stay.
-/
import Derived.Test.YtojecaeblgghjaaConf10
set_option linter.unusedVariables false
set_option linter.unusedSimpArgs false
namespace Go.Proofs.Ytojecaeblgghjaa
open Go.RowKit Go.Sort LsP

/-- The slice at A reads as xs, in no block that is bad. -/
def RdN (bad : Nat → Prop) (W : World) (A : Option Addr) (xs : List Int) : Prop :=
  Rd encI 0 W A xs ∧ ∀ g o, A = some ⟨g, o, none⟩ → 0 < xs.length → ¬ bad g

theorem RdN.below {bad : Nat → Prop} {W W' : World} {A : Option Addr} {xs : List Int} (h : RdN bad W A xs) (hb : Below W.heap.size W W') : RdN bad W' A xs := ⟨h.1.below hb (Nat.le_refl _), h.2⟩
theorem RdN.take {bad : Nat → Prop} {W : World} {A : Option Addr} {xs : List Int} (h : RdN bad W A xs) (k : Nat) : RdN bad W A (xs.take k) :=
  ⟨h.1.take k, fun g o e hl => h.2 g o e (by rw [List.length_take] at hl; omega)⟩
theorem RdN.set {bad : Nat → Prop} {W : World} {A : Option Addr} {xs : List Int} (h : RdN bad W A xs) {b : Nat} (hb : bad b) (o : Nat) (v : Value) : RdN bad (W.setCell ⟨b, o, none⟩ v) A xs := by
  refine ⟨fun hl => ?_, h.2⟩
  obtain ⟨g, off, e, h1, h2, h3⟩ := h.1 hl
  have hg : g ≠ b := fun e' => h.2 g off e hl (e' ▸ hb)
  refine ⟨g, off, e, h1, by simpa using h2, fun j hj => ?_⟩
  rw [(set_other (p := ⟨b, o, none⟩) hg).1]
  exact h3 j hj
theorem RdN.of {bad : Nat → Prop} {W : World} {A : Option Addr} {xs : List Int} {lo hi : Nat} (h : Rd encI lo W A xs) (hh : W.heap.size ≤ hi) (hbad : ∀ g, lo ≤ g → g < hi → ¬ bad g) : RdN bad W A xs :=
  ⟨h.low (Nat.zero_le _), fun g o e hl => by
    obtain ⟨g', off, e', h1, h2, _⟩ := h hl
    rw [e] at e'
    injection e' with e'
    injection e' with e1 _
    subst e1
    exact hbad _ h1 (by omega)⟩

theorem Mem.setBad {w0 w : World} {l : List (Nat × Obj)} (h : Mem w0 l w) {bad : Nat → Prop} (hl : ∀ p, p ∈ l → ¬ bad p.1) {b : Nat} (hb : bad b) (hs : w0.heap.size ≤ b) (o : Nat) (v : Value) : Mem w0 l (w.setCell ⟨b, o, none⟩ v) :=
  ⟨h.below.setCell (p := ⟨b, o, none⟩) hs v, fun p hp => (heap_setCell_other w ⟨b, o, none⟩ p.1 v (fun e => hl p hp (e ▸ hb))).trans (h.has p hp)⟩

/-- The cells of a slice that may be written. -/
def Wr (W : World) (A : Option Addr) (n : Nat) : Prop := 0 < n → ∃ b off, A = some ⟨b, off, none⟩ ∧ b < W.heap.size ∧ ∀ j, j < n → (∃ v, W.cell? ⟨b, off + j, none⟩ = some v) ∧ W.frozen? ⟨b, off + j, none⟩ = false
theorem Wr.of {W : World} {A : Option Addr} {xs : List Int} {lo : Nat} (h : Rd encI lo W A xs) (hf : 0 < xs.length → Fr W A xs.length) : Wr W A xs.length := fun hl => by
  obtain ⟨b, off, e, h1, h2, h3⟩ := h hl
  exact ⟨b, off, e, h2, fun j hj => ⟨⟨_, h3 j hj⟩, hf hl b off e j hj⟩⟩
theorem Wr.below {W W' : World} {A : Option Addr} {n : Nat} (h : Wr W A n) (hb : Below W.heap.size W W') : Wr W' A n := fun hl => by
  obtain ⟨b, off, e, h2, h3⟩ := h hl
  refine ⟨b, off, e, Nat.lt_of_lt_of_le h2 hb.size, fun j hj => ?_⟩
  rw [hb.cell (p := ⟨b, off + j, none⟩) h2, hb.frozen (p := ⟨b, off + j, none⟩) h2]
  exact h3 j hj
theorem Wr.set {W : World} {A : Option Addr} {n : Nat} (h : Wr W A n) (b o : Nat) (v : Value) : Wr (W.setCell ⟨b, o, none⟩ v) A n := fun hl => by
  obtain ⟨g, off, e, h2, h3⟩ := h hl
  refine ⟨g, off, e, by simpa using h2, fun j hj => ?_⟩
  obtain ⟨⟨u, hu⟩, hf⟩ := h3 j hj
  constructor
  · by_cases e1 : (⟨b, o, none⟩ : Addr) = ⟨g, off + j, none⟩
    · rw [e1]
      exact ⟨v, World.cell?_setCell_same _ _ _ hu⟩
    · exact ⟨u, (World.cell?_setCell_other _ _ _ _ e1).trans hu⟩
  · rw [← hf]
    exact World.frozen?_setCell ..

theorem own_some_or {W : World} {base n : Nat} {A : Option Addr} {c : Nat} {xs : List Value} (h : W.ownsRow base 3 1 (.slice A n c) n xs) : A = none ∨ ∃ g, A = some ⟨g, 0, none⟩ ∧ base ≤ g ∧ g < W.heap.size := by
  rcases h.2 with ⟨e, _⟩ | ⟨g, cap, cur, e, hb, hg, _⟩
  · injection e with e _ _
    exact .inl e
  · injection e with e _ _
    exact .inr ⟨g, e, hb, (Array.getElem?_eq_some_iff.1 hg).1⟩

/-- What stays while bad blocks are written. -/
def LentI (bad : Nat → Prop) (w : World) (l : List (Nat × Obj)) (rs : List (Option Addr × List Int)) (ws : List (Option Addr × Nat)) (W : World) : Prop :=
  Mem w l W ∧ (∀ r, r ∈ rs → RdN bad W r.1 r.2) ∧ ∀ x, x ∈ ws → Wr W x.1 x.2
theorem LentI.set {bad : Nat → Prop} {w W : World} {l : List (Nat × Obj)} {rs : List (Option Addr × List Int)} {ws : List (Option Addr × Nat)} (h : LentI bad w l rs ws W) (hl : ∀ p, p ∈ l → ¬ bad p.1) (hs : ∀ b, bad b → w.heap.size ≤ b) {b : Nat} (hb : bad b) (o : Nat) (v : Value) :
    LentI bad w l rs ws (W.setCell ⟨b, o, none⟩ v) :=
  ⟨h.1.setBad hl hb (hs b hb) o v, fun r hr => (h.2.1 r hr).set hb o v, fun x hx => (h.2.2 x hx).set b o v⟩
theorem LentI.below {bad : Nat → Prop} {w W W' : World} {l : List (Nat × Obj)} {rs : List (Option Addr × List Int)} {ws : List (Option Addr × Nat)} (h : LentI bad w l rs ws W) (hb : Below W.heap.size W W') : LentI bad w l rs ws W' :=
  ⟨h.1.next hb, fun r hr => (h.2.1 r hr).below hb, fun x hx => (h.2.2 x hx).below hb⟩

theorem appA_step {w W : World} {L : List (Nat × Obj)} {B0 k : Nat} {v : Value} {xs ys : List Int} {lo : Nat} {A : Option Addr} {c : Nat} (MB : Mem w L W) (hL : ∀ p, p ∈ L → p.1 < B0) (hw : w.heap.size ≤ B0) (own : W.ownsRow B0 3 1 v k (xs.map encI))
    (hB : B0 ≤ W.heap.size) (hr : Rd encI lo W A ys) (hk : k + ys.length ≤ 1000000) :
    ∃ A' c' W', (Builtin.append_ #[22, 22] 22 #[v, .slice A ys.length c]).run Try.prog W = .ok (.slice A' (k + ys.length) c') W' ∧ Mem w L W' ∧
      W'.ownsRow B0 3 1 (.slice A' (k + ys.length) c') (k + ys.length) ((xs ++ ys).map encI) ∧ B0 ≤ W'.heap.size := by
  obtain ⟨A', c', W', hrun, h2, h3, h5⟩ := appI_run W B0 22 v k xs own lo A c ys hr (by omega) hB
  refine ⟨A', c', W', hrun, MB.grown h3 (fun b hb => ?_), h2, Nat.le_trans hB h3.size⟩
  have hb0 := (own.lt b hb).1
  exact ⟨by omega, fun p hp => by have := hL p hp; omega⟩
end Go.Proofs.Ytojecaeblgghjaa
