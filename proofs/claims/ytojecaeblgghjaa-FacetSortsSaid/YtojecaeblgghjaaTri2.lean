/-
  CONTRACTS AT TRIPLES: Turn, edge, of the program and of the document's answer.
-/
import Derived.Test.YtojecaeblgghjaaTri
set_option linter.unusedVariables false
set_option linter.unusedSimpArgs false
namespace Go.Proofs.Ytojecaeblgghjaa
open Go.RowKit Go.Sort LsP

theorem row3 {w : World} {b : Nat} {v0 v1 v2 : Value} {t : TypeId} (h : w.heap[b]? = some (.cells #[v0, v1, v2] t (0, 0))) :
    w.cell? ⟨b, 0, none⟩ = some v0 ∧ w.cell? ⟨b, 1, none⟩ = some v1 ∧ w.cell? ⟨b, 2, none⟩ = some v2 ∧ w.frozen? ⟨b, 0, none⟩ = false ∧ w.frozen? ⟨b, 1, none⟩ = false ∧ w.frozen? ⟨b, 2, none⟩ = false := by
  simp [World.cell?, World.frozen?, h]

theorem new1 (w : World) (o o' : Obj) : ((w.alloc o).alloc o').heap[w.heap.size + 1]? = some o' := by
  have := heap_alloc_new (w.alloc o) o'
  simpa using this

set_option maxHeartbeats 2000000 in
set_option maxRecDepth 100000 in
theorem turn_any (a b c : Int) (w : World) :
    Calls Try.prog 54 #[.agg #[.int .i64 a, .int .i64 b, .int .i64 c]] w fun e w' => e = .returned (encT (canon ⟨a, c, b⟩)) ∧ Below w.heap.size w w' := by
  go_enter Try.func54, Try.ntmps54
  go_wp2_with fail
  refine (canon_any a c b _).mono ?_
  rintro e w1 ⟨rfl, hb⟩
  have hx : w1.heap[w.heap.size + 1]? = some (.cells #[.int .i64 0, .int .i64 0, .int .i64 0] 50 (0, 0)) := (hb.block _ (by simp)).trans (new1 _ _ _)
  obtain ⟨c0, c1, c2, f0, f1, f2⟩ := row3 hx
  have sz := hb.size
  simp only [World.size_alloc] at sz
  have HB := Lib.hid hb
  clear hb
  rcases hr : canon ⟨a, c, b⟩ with ⟨x, y, z⟩
  simp only [encT]
  clear hx
  go_wp2
  exact bodyPost_ret (v := .agg #[.int .i64 x, .int .i64 y, .int .i64 z]) (by simp [results, Try.results54, go_sem, c0, c1, c2]) rfl ⟨by rw [hr], (((below_up (((Below.refl w.heap.size w).alloc (Nat.le_refl _) _).alloc (by simp) _) HB.out).setCell (by simp) _).setCell (by simp) _).setCell (by simp) _⟩

set_option maxHeartbeats 2000000 in
set_option maxRecDepth 100000 in
theorem refTurn_any (a b c : Int) (w : World) :
    Calls Try.prog 65 #[.agg #[.int .i64 a, .int .i64 b, .int .i64 c]] w fun e w' => e = .returned (encT (canon ⟨a, c, b⟩)) ∧ Below w.heap.size w w' := by
  go_enter Try.func65, Try.ntmps65
  go_wp2_with fail
  refine (refCanon_any a c b _).mono ?_
  rintro e w1 ⟨rfl, hb⟩
  have hx : w1.heap[w.heap.size + 1]? = some (.cells #[.int .i64 0, .int .i64 0, .int .i64 0] 50 (0, 0)) := (hb.block _ (by simp)).trans (new1 _ _ _)
  obtain ⟨c0, c1, c2, f0, f1, f2⟩ := row3 hx
  have sz := hb.size
  simp only [World.size_alloc] at sz
  have HB := Lib.hid hb
  clear hb
  rcases hr : canon ⟨a, c, b⟩ with ⟨x, y, z⟩
  simp only [encT]
  clear hx
  go_wp2
  exact bodyPost_ret (v := .agg #[.int .i64 x, .int .i64 y, .int .i64 z]) (by simp [results, Try.results65, go_sem, c0, c1, c2]) rfl ⟨by rw [hr], (((below_up (((Below.refl w.heap.size w).alloc (Nat.le_refl _) _).alloc (by simp) _) HB.out).setCell (by simp) _).setCell (by simp) _).setCell (by simp) _⟩

set_option maxHeartbeats 2000000 in
set_option maxRecDepth 100000 in
theorem edge_any (a b : Int) (w : World) :
    Calls Try.prog 105 #[.int .i64 a, .int .i64 b] w fun e w' => e = .returned (.agg #[.int .i64 (if b < a then b else a), .int .i64 (if b < a then a else b)]) ∧ Below w.heap.size w w' := by
  by_cases h : b < a
  · rw [if_pos h, if_pos h]
    go_enter Try.func105, Try.ntmps105
    go_wp2
    exact bodyPost_ret (v := .agg #[.int .i64 b, .int .i64 a]) (by simp [results, Try.results105, go_sem]) rfl ⟨rfl, by (repeat (first | exact Below.refl _ _ | refine Below.alloc ?_ (by first | omega | (simp; done) | (simp; omega)) _ | refine Below.setCell ?_ (by first | omega | (simp; done) | (simp; omega)) _ | refine Below.drew ?_))⟩
  · rw [if_neg h, if_neg h]
    by_cases h2 : a < b
    · go_enter Try.func105, Try.ntmps105
      go_wp2
      exact bodyPost_ret (v := .agg #[.int .i64 a, .int .i64 b]) (by simp [results, Try.results105, go_sem]) rfl ⟨rfl, by (repeat (first | exact Below.refl _ _ | refine Below.alloc ?_ (by first | omega | (simp; done) | (simp; omega)) _ | refine Below.setCell ?_ (by first | omega | (simp; done) | (simp; omega)) _ | refine Below.drew ?_))⟩
    · obtain rfl : a = b := by omega
      go_enter Try.func105, Try.ntmps105
      go_wp2
      exact bodyPost_ret (v := .agg #[.int .i64 a, .int .i64 a]) (by simp [results, Try.results105, go_sem]) rfl ⟨rfl, by (repeat (first | exact Below.refl _ _ | refine Below.alloc ?_ (by first | omega | (simp; done) | (simp; omega)) _ | refine Below.setCell ?_ (by first | omega | (simp; done) | (simp; omega)) _ | refine Below.drew ?_))⟩

set_option maxHeartbeats 2000000 in
set_option maxRecDepth 100000 in
theorem refEdge_any (a b : Int) (w : World) :
    Calls Try.prog 106 #[.int .i64 a, .int .i64 b] w fun e w' => e = .returned (.agg #[.int .i64 (if b < a then b else a), .int .i64 (if b < a then a else b)]) ∧ Below w.heap.size w w' := by
  by_cases h : b < a
  · rw [if_pos h, if_pos h]
    go_enter Try.func106, Try.ntmps106
    go_wp2
    exact bodyPost_ret (v := .agg #[.int .i64 b, .int .i64 a]) (by simp [results, Try.results106, go_sem]) rfl ⟨rfl, by (repeat (first | exact Below.refl _ _ | refine Below.alloc ?_ (by first | omega | (simp; done) | (simp; omega)) _ | refine Below.setCell ?_ (by first | omega | (simp; done) | (simp; omega)) _ | refine Below.drew ?_))⟩
  · rw [if_neg h, if_neg h]
    by_cases h2 : a < b
    · go_enter Try.func106, Try.ntmps106
      go_wp2
      exact bodyPost_ret (v := .agg #[.int .i64 a, .int .i64 b]) (by simp [results, Try.results106, go_sem]) rfl ⟨rfl, by (repeat (first | exact Below.refl _ _ | refine Below.alloc ?_ (by first | omega | (simp; done) | (simp; omega)) _ | refine Below.setCell ?_ (by first | omega | (simp; done) | (simp; omega)) _ | refine Below.drew ?_))⟩
    · obtain rfl : a = b := by omega
      go_enter Try.func106, Try.ntmps106
      go_wp2
      exact bodyPost_ret (v := .agg #[.int .i64 a, .int .i64 a]) (by simp [results, Try.results106, go_sem]) rfl ⟨rfl, by (repeat (first | exact Below.refl _ _ | refine Below.alloc ?_ (by first | omega | (simp; done) | (simp; omega)) _ | refine Below.setCell ?_ (by first | omega | (simp; done) | (simp; omega)) _ | refine Below.drew ?_))⟩
end Go.Proofs.Ytojecaeblgghjaa
