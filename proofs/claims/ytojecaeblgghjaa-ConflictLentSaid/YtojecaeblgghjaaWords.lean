/-
  WORDS FOR MEMORY: a slice value that reads as a list; how the reading is carried on.
-/
import Derived.Test.YtojecaeblgghjaaProg
import Derived.WalkKit
import Derived.Laws.OwnMore
import Derived.Lib.OwnBridge
import Derived.Lib.Hide
import Derived.Deep.Draws
import Derived.Laws.MakeOwn
import Derived.Laws.Entries
set_option linter.unusedVariables false
set_option linter.unusedSimpArgs false
set_option linter.unusedSectionVars false
namespace Go.Proofs.Ytojecaeblgghjaa
open Go.RowKit Go.Sort

section
variable {α : Type} [Inhabited α]

/-- The slice whose address is A reads as xs: its cells lie in blocks from lo on. -/
def Rd (enc : α → Value) (lo : Nat) (w : World) (A : Option Addr) (xs : List α) : Prop :=
  0 < xs.length → ∃ b off, A = some ⟨b, off, none⟩ ∧ lo ≤ b ∧ b < w.heap.size ∧ ∀ j, j < xs.length → w.cell? ⟨b, off + j, none⟩ = some (enc xs[j]!)

/-- No cell of it is frozen. -/
def Fr (w : World) (A : Option Addr) (n : Nat) : Prop := ∀ b off, A = some ⟨b, off, none⟩ → ∀ j, j < n → w.frozen? ⟨b, off + j, none⟩ = false

theorem Rd.nil {enc : α → Value} {lo : Nat} {w : World} {A : Option Addr} : Rd enc lo w A [] := fun h => absurd h (by simp)

theorem Rd.low {enc : α → Value} {lo lo' : Nat} {w : World} {A : Option Addr} {xs : List α} (h : Rd enc lo w A xs) (hl : lo' ≤ lo) : Rd enc lo' w A xs := fun hn => by
  obtain ⟨b, off, e, h1, h2, h3⟩ := h hn
  exact ⟨b, off, e, by omega, h2, h3⟩

theorem Rd.keep {enc : α → Value} {lo : Nat} {w w' : World} {A : Option Addr} {xs : List α} (h : Rd enc lo w A xs) (hs : w.heap.size ≤ w'.heap.size)
    (hk : ∀ b, lo ≤ b → b < w.heap.size → ∀ o, w'.cell? ⟨b, o, none⟩ = w.cell? ⟨b, o, none⟩) : Rd enc lo w' A xs := fun hn => by
  obtain ⟨b, off, e, h1, h2, h3⟩ := h hn
  exact ⟨b, off, e, h1, by omega, fun j hj => by rw [hk b h1 h2]; exact h3 j hj⟩

theorem Rd.below {enc : α → Value} {lo B : Nat} {w w' : World} {A : Option Addr} {xs : List α} (h : Rd enc lo w A xs) (hb : Below B w w') (hB : w.heap.size ≤ B) : Rd enc lo w' A xs :=
  h.keep hb.size fun b _ h2 o => hb.cell (p := ⟨b, o, none⟩) (by show b < B; omega)

theorem Rd.drewN {enc : α → Value} {lo : Nat} {w : World} {A : Option Addr} {xs : List α} (h : Rd enc lo w A xs) (k : Nat) : Rd enc lo (w.drewN k) A xs := h

theorem Rd.grown {enc : α → Value} {lo : Nat} {w w' : World} {A : Option Addr} {xs : List α} {row : Option Nat} (h : Rd enc lo w A xs) (hg : w.grownBy w' row) (hr : ∀ g, row = some g → ∀ o, A ≠ some ⟨g, o, none⟩) : Rd enc lo w' A xs := fun hn => by
  obtain ⟨b, off, e, h1, h2, h3⟩ := h hn
  exact ⟨b, off, e, h1, Nat.lt_of_lt_of_le h2 hg.size, fun j hj => by
    rw [World.cell?_of_block (hg.block b h2 (fun e' => hr b e'.symm off e))]; exact h3 j hj⟩

theorem Rd.at_ {enc : α → Value} {lo : Nat} {w : World} {A : Option Addr} {xs : List α} (h : Rd enc lo w A xs) {k : Nat} (hk : k < xs.length) :
    ∃ b off, A = some ⟨b, off, none⟩ ∧ b < w.heap.size ∧ w.cell? ⟨b, off + k, none⟩ = some (enc xs[k]!) := by
  obtain ⟨b, off, e, _, h2, h3⟩ := h (by omega)
  exact ⟨b, off, e, h2, h3 k hk⟩

theorem Rd.drop {enc : α → Value} {lo : Nat} {w : World} {b off : Nat} {xs : List α} (h : Rd enc lo w (some ⟨b, off, none⟩) xs) (k : Nat) : Rd enc lo w (some ⟨b, off + k, none⟩) (xs.drop k) := fun hn => by
  rw [List.length_drop] at hn
  obtain ⟨b', off', e, h1, h2, h3⟩ := h (by omega)
  injection e with e
  injection e with e1 e2
  subst e1; subst e2
  refine ⟨b, off + k, rfl, h1, h2, fun j hj => ?_⟩
  rw [List.length_drop] at hj
  have := h3 (k + j) (by omega)
  rw [show off + k + j = off + (k + j) by omega, this]
  rw [getElem!_pos xs (k + j) (by omega), getElem!_pos (xs.drop k) j (by rw [List.length_drop]; omega), List.getElem_drop]

theorem Rd.take {enc : α → Value} {lo : Nat} {w : World} {A : Option Addr} {xs : List α} (h : Rd enc lo w A xs) (k : Nat) : Rd enc lo w A (xs.take k) := fun hn => by
  rw [List.length_take] at hn
  obtain ⟨b, off, e, h1, h2, h3⟩ := h (by omega)
  refine ⟨b, off, e, h1, h2, fun j hj => ?_⟩
  rw [List.length_take] at hj
  rw [h3 j (by omega), getElem!_pos xs j (by omega), getElem!_pos (xs.take k) j (by rw [List.length_take]; omega), List.getElem_take]

theorem Rd.news {enc : α → Value} {lo : Nat} {w : World} {A : Option Addr} {xs : List α} (h : Rd enc lo w A xs) (hp : 0 < xs.length) : ∃ ad, A = some ad ∧ ∀ j u, (xs.map enc)[j]? = some u → w.cell? (ad.add j) = some u := by
  obtain ⟨b, off, e, _, _, h3⟩ := h hp
  refine ⟨_, e, fun j u hu => ?_⟩
  rw [List.getElem?_map] at hu
  obtain ⟨x, hx, rfl⟩ := Option.map_eq_some_iff.1 hu
  obtain ⟨hj, hx⟩ := List.getElem?_eq_some_iff.1 hx
  have : (⟨b, off, none⟩ : Addr).add j = ⟨b, off + j, none⟩ := by unfold Addr.add; split <;> simp_all
  rw [this, h3 j hj, getElem!_pos xs j hj, hx]

/-- Of an own row. -/
theorem Rd.own {enc : α → Value} {base n : Nat} {e : TypeId} {w : World} {A : Option Addr} {c : Nat} {xs : List α} (h : w.ownsRow base e 1 (.slice A n c) n (xs.map enc)) : Rd enc base w A xs ∧ Fr w A n ∧ n ≤ c ∧ c ≤ maxLen := by
  have hl : xs.length = n := by simpa using h.1
  rcases h.2 with ⟨e0, rfl⟩ | ⟨g, cap, cur, e0, hb, hg, hn, hm, hs, ht⟩
  · injection e0 with e1 e2 e3
    have : xs = [] := List.eq_nil_of_length_eq_zero hl
    subst this
    subst e3
    exact ⟨Rd.nil, fun _ _ _ j hj => absurd hj (by omega), Nat.le_refl _, by decide⟩
  · injection e0 with e1 e2 e3
    subst e1; subst e3
    have hlt : g < w.heap.size := (Array.getElem?_eq_some_iff.1 hg).1
    refine ⟨fun _ => ⟨g, 0, rfl, hb, hlt, fun j hj => ?_⟩, fun b off e' j _ => ?_, hn, hm⟩
    · have e1 : (cur.toList.take (n * 1))[j]? = (xs.map enc)[j]? := by rw [ht]
      rw [List.getElem?_take, if_pos (by omega), Array.getElem?_toList, List.getElem?_map, List.getElem?_eq_getElem (by omega)] at e1
      simp only [World.cell?, hg, Nat.zero_add]
      simp only [Option.isSome_none, Bool.false_eq_true, if_false]
      rw [e1]
      simp [getElem!_pos, hj]
    · injection e' with e'
      injection e' with e1 e2
      subst e1; subst e2
      simp [World.frozen?, hg]

theorem Fr.below {B : Nat} {w w' : World} {A : Option Addr} {n : Nat} (h : Fr w A n) (hb : Below B w w') (hA : ∀ b o, A = some ⟨b, o, none⟩ → b < B) : Fr w' A n :=
  fun b off e j hj => by rw [hb.frozen (p := ⟨b, off + j, none⟩) (hA b off e)]; exact h b off e j hj

theorem below_drewN {B : Nat} {a w : World} (h : Below B a w) (n : Nat) : Below B a (w.drewN n) := ⟨h.os, h.tape, h.output, h.size, h.block⟩

/-- The old cells and marks, as rules of the walk. -/
theorem bcell {W w1 : World} (hb : Below W.heap.size W w1) : (∀ b o, b < W.heap.size → w1.cell? ⟨b, o, none⟩ = W.cell? ⟨b, o, none⟩) ∧ (∀ b o, b < W.heap.size → w1.frozen? ⟨b, o, none⟩ = W.frozen? ⟨b, o, none⟩) :=
  ⟨fun b o h => hb.cell (p := ⟨b, o, none⟩) h, fun b o h => hb.frozen (p := ⟨b, o, none⟩) h⟩

end

theorem dr1 (w : World) (a b : Nat) : ∃ q, (w.drewN a).drewN b = w.drewN q := ⟨a + b, World.drewN_drewN ..⟩
theorem dr2 (w : World) (a b c : Nat) : ∃ q, ((w.drewN a).drewN b).drewN c = w.drewN q := ⟨a + (b + c), by rw [World.drewN_drewN, World.drewN_drewN]⟩
theorem dr3 (w : World) (a b c d : Nat) : ∃ q, (((w.drewN a).drewN b).drewN c).drewN d = w.drewN q := ⟨a + (b + (c + d)), by rw [World.drewN_drewN, World.drewN_drewN, World.drewN_drewN]⟩

/-- A literal slice reads as its list. -/
theorem Rd.lit {α : Type} [Inhabited α] {enc : α → Value} {w : World} {t : TypeId} (xs : List α) : Rd enc w.heap.size (w.alloc (.cells (xs.map enc).toArray t)) (some ⟨w.heap.size, 0, none⟩) xs := fun hn =>
  ⟨w.heap.size, 0, rfl, Nat.le_refl _, by simp, fun j hj => by
    rw [cell_of_row _ _ _ _ _ _ (heap_alloc_new w _)]
    simp [getElem!_pos, hj]⟩

theorem below_up {w w1 w2 : World} (h : Below w.heap.size w w1) (k : Below w1.heap.size w1 w2) : Below w.heap.size w w2 := h.trans (k.mono h.size)

theorem ret_int {k : IntKind} {a b : Int} (h : a = b) : Ending.returned (.int k a) = .returned (.int k b) := by rw [h]
theorem ret_bool {a b : Bool} (h : a = b) : Ending.returned (.bool a) = .returned (.bool b) := by rw [h]

theorem run_make_rowN {P : Program} (t e : TypeId) (i : TypeInfo) (z : Value) (ht : P.underlying t = some (.slice e)) (hi : P.info? e = some i) (hz : i.zero = some z)
    (kl kc : IntKind) (n c : Nat) (hnc : n ≤ c) (hbytes : i.bytes * c ≤ 281474976710656) (h63 : c ≤ 9223372036854775807) (w : World) :
    (Instr.makeSlice t (.int kl (n : Int)) (.int kc (c : Int))).run P w = .ok (.slice (some ⟨w.heap.size, 0, none⟩) n c) (w.alloc (.cells (madeCells z.cells (c * i.size)) e)) := by
  have hb : (i.bytes : Int) * (c : Int) ≤ 281474976710656 := by
    have h : ((i.bytes * c : Nat) : Int) ≤ 281474976710656 := by omega
    rwa [Int.natCast_mul] at h
  have hr := run_make (P := P) w t e i z ht hi hz kl kc n c (by omega) (by omega) hb (by omega)
  simp only [Int.toNat_natCast] at hr
  exact hr

abbrev encI : Int → Value := Value.int .i64

end Go.Proofs.Ytojecaeblgghjaa
