/-
  Facets with their conflicts, on both sides. (Printed by mkconf5.py.)
-/
import Derived.Test.YtojecaeblgghjaaConf4
set_option linter.unusedVariables false
set_option linter.unusedSimpArgs false
namespace Go.Proofs.Ytojecaeblgghjaa
open Go.RowKit Go.Sort LsP

abbrev oF (t : T3) (v : Value) : Obj := .cells #[.int .i64 t.a, .int .i64 t.b, .int .i64 t.c, v] 86 (0, 0)
theorem cellsF {w : World} {b : Nat} {t : T3} {v : Value} (h : w.heap[b]? = some (oF t v)) : w.cell? ⟨b, 0, none⟩ = some (.int .i64 t.a) ∧ w.cell? ⟨b, 1, none⟩ = some (.int .i64 t.b) ∧ w.cell? ⟨b, 2, none⟩ = some (.int .i64 t.c) ∧ w.cell? ⟨b, 3, none⟩ = some v ∧
    w.frozen? ⟨b, 0, none⟩ = false ∧ w.frozen? ⟨b, 1, none⟩ = false ∧ w.frozen? ⟨b, 2, none⟩ = false ∧ w.frozen? ⟨b, 3, none⟩ = false := by
  simp [World.cell?, World.frozen?, h]

/-- A facet and an error are told. -/
def ToldF (w : World) (t : T3) (l : List Int) (er : Int) (e : Ending) (w' : World) : Prop :=
  ∃ A c, e = .returned (.tuple #[.agg #[.int .i64 t.a, .int .i64 t.b, .int .i64 t.c, .slice A l.length c], .int .i64 er]) ∧ l.length ≤ c ∧ c ≤ maxLen ∧ Rd encI w.heap.size w' A l ∧ (0 < l.length → Fr w' A l.length) ∧ Below w.heap.size w w'

/-- The triple of a facet that is told. -/
noncomputable def facetT (xs : List T3) (n : Nat) (a b c : Int) : T3 := if checkR xs n a b c ≠ 0 then ⟨0, 0, 0⟩ else canon ⟨a, b, c⟩

theorem set_other {w : World} {p : Addr} {v : Value} {b o : Nat} (h : b ≠ p.block) : (w.setCell p v).cell? ⟨b, o, none⟩ = w.cell? ⟨b, o, none⟩ ∧ (w.setCell p v).frozen? ⟨b, o, none⟩ = w.frozen? ⟨b, o, none⟩ := by
  have e := heap_setCell_other w p b v h
  exact ⟨World.cell?_of_block (w := w) (a := ⟨b, o, none⟩) e, by simp only [World.frozen?, e]⟩

theorem told_set4 {w w2 : World} {t : T3} {l : List Int} {er : Int} (A : Option Addr) (c : Nat) (h : l.length ≤ c ∧ c ≤ maxLen ∧ Rd encI w.heap.size w2 A l ∧ (0 < l.length → Fr w2 A l.length)) (hA : ∀ g o, A = some ⟨g, o, none⟩ → 0 < l.length → w.heap.size + 2 ≤ g ∧ g < w2.heap.size) {v0 v1 v2 v3 : Value}
    (hb : Below w.heap.size w ((((w2.setCell ⟨w.heap.size + 1, 0, none⟩ v0).setCell ⟨w.heap.size + 1, 1, none⟩ v1).setCell ⟨w.heap.size + 1, 2, none⟩ v2).setCell ⟨w.heap.size + 1, 3, none⟩ v3)) :
    ToldF w t l er (.returned (.tuple #[.agg #[.int .i64 t.a, .int .i64 t.b, .int .i64 t.c, .slice A l.length c], .int .i64 er])) ((((w2.setCell ⟨w.heap.size + 1, 0, none⟩ v0).setCell ⟨w.heap.size + 1, 1, none⟩ v1).setCell ⟨w.heap.size + 1, 2, none⟩ v2).setCell ⟨w.heap.size + 1, 3, none⟩ v3) := by
  have hs : ((((w2.setCell ⟨w.heap.size + 1, 0, none⟩ v0).setCell ⟨w.heap.size + 1, 1, none⟩ v1).setCell ⟨w.heap.size + 1, 2, none⟩ v2).setCell ⟨w.heap.size + 1, 3, none⟩ v3).heap.size = w2.heap.size := by simp
  refine ⟨A, c, rfl, h.1, h.2.1, fun hl => ?_, fun hl => ?_, hb⟩
  · obtain ⟨b, off, e, p1, p2, p3⟩ := h.2.2.1 hl
    have hg := hA b off e hl
    refine ⟨b, off, e, p1, by rw [hs]; exact p2, fun j hj => ?_⟩
    rw [(set_other (by show b ≠ w.heap.size + 1; omega)).1, (set_other (by show b ≠ w.heap.size + 1; omega)).1, (set_other (by show b ≠ w.heap.size + 1; omega)).1, (set_other (by show b ≠ w.heap.size + 1; omega)).1]
    exact p3 j hj
  · intro b off e j hj
    have hg := hA b off e hl
    rw [(set_other (by show b ≠ w.heap.size + 1; omega)).2, (set_other (by show b ≠ w.heap.size + 1; omega)).2, (set_other (by show b ≠ w.heap.size + 1; omega)).2, (set_other (by show b ≠ w.heap.size + 1; omega)).2]
    exact h.2.2.2 hl b off e j hj

set_option maxHeartbeats 4000000 in
set_option maxRecDepth 100000 in
theorem facet_any (A : Option Addr) (n c' : Nat) (xs : List T3) (a b c : Int) (w : World) (ha : RdT 0 w A xs) (hn : xs.length = n) (hn2 : n ≤ 9223372036854775807) :
    Calls Try.prog 71 #[.slice A n c', .agg #[.int .i64 a, .int .i64 b, .int .i64 c]] w (ToldF w (facetT xs n a b c) (ofR xs n a b c).1 (ofR xs n a b c).2) := by
  have M0 : Mem w [(w.heap.size + 1, oF ⟨0, 0, 0⟩ (.slice none 0 0)), (w.heap.size, o3 a b c 50)] ((w.alloc (o3 a b c 50)).alloc (oF ⟨0, 0, 0⟩ (.slice none 0 0))) := by
    have h := ((Mem.nil w).add (o3 a b c 50)).add (oF ⟨0, 0, 0⟩ (.slice none 0 0))
    simp only [World.size_alloc] at h
    exact h
  have MB := Lib.hid M0
  have ko := Lib.hid (of_any A n c' xs a b c ((w.alloc (o3 a b c 50)).alloc (oF ⟨0, 0, 0⟩ (.slice none 0 0))) (ha.below M0.below (Nat.le_refl _)) hn hn2)
  have hAp : Hid (Apart (w.heap.size + 1) [(w.heap.size, o3 a b c 50)]) := Lib.hid (fun p hp => by simp at hp; rw [hp]; simp only; omega)
  clear M0 ha
  obtain ⟨d0, d1, d2, _⟩ := row3 MB.out.tail.head
  by_cases hk : checkR xs n a b c = 0
  · have hR : Hid ((ofR xs n a b c).2 = 0) := Lib.hid (by unfold ofR; rw [if_neg (by simpa using hk)])
    have hF : Hid (facetT xs n a b c = canon ⟨a, b, c⟩) := Lib.hid (by unfold facetT; rw [if_neg (by simpa using hk)])
    clear hk
    rw [hR.out] at ko
    generalize (ofR xs n a b c).1 = l at *
    go_enter Try.func71, Try.ntmps71
    go_wp2_with fail
    refine ko.out.mono ?_
    rintro e w1 ⟨A1, c1, rfl, h1, h2, h3, h4, h5⟩
    have HT := Lib.hid (And.intro h1 (And.intro h2 (And.intro (h3.low (Nat.le_trans (by simp; omega) (Nat.le_refl _) : w.heap.size ≤ _)) h4)))
    have hA1 : Hid (∀ g o, A1 = some ⟨g, o, none⟩ → 0 < l.length → w.heap.size + 2 ≤ g ∧ g < w1.heap.size) := Lib.hid (fun g o e hl => by
      obtain ⟨b', off', e', p1, p2, _⟩ := h3 hl
      rw [e] at e'
      injection e' with e'
      injection e' with e1 _
      subst e1
      simp at p1
      exact ⟨by omega, p2⟩)
    replace MB := Lib.hid (MB.out.next h5)
    clear h1 h2 h3 h4 h5 ko d0 d1 d2
    obtain ⟨d0, d1, d2, _⟩ := row3 MB.out.tail.head
    go_wp2_with fail
    refine (canon_any _ _ _ _).mono ?_
    rintro e w2 ⟨rfl, hb⟩
    have HT2 : Hid (l.length ≤ c1 ∧ c1 ≤ maxLen ∧ Rd encI w.heap.size w2 A1 l ∧ (0 < l.length → Fr w2 A1 l.length)) := Lib.hid ⟨HT.out.1, HT.out.2.1, HT.out.2.2.1.below hb (Nat.le_refl _), fun hl => HT.out.2.2.2.below hb (fun g o e => (hA1.out g o e hl).2)⟩
    replace MB := Lib.hid (MB.out.next hb)
    have hA2 : Hid (∀ g o, A1 = some ⟨g, o, none⟩ → 0 < l.length → w.heap.size + 2 ≤ g ∧ g < w2.heap.size) := Lib.hid (fun g o e hl => ⟨(hA1.out g o e hl).1, Nat.lt_of_lt_of_le (hA1.out g o e hl).2 hb.size⟩)
    clear hb HT hA1
    (try clear d0 d1 d2)
    generalize canon ⟨a, b, c⟩ = t at *
    obtain ⟨e0, e1, e2, e3, f0, f1, f2, f3⟩ := cellsF MB.out.head
    have MF : Hid (Mem w [(w.heap.size + 1, oF t (.slice A1 l.length c1)), (w.heap.size, o3 a b c 50)] _) := Lib.hid ((((MB.out.set hAp.out (by omega) 0 (.int .i64 t.a)).set hAp.out (by omega) 1 (.int .i64 t.b)).set hAp.out (by omega) 2 (.int .i64 t.c)).set hAp.out (by omega) 3 (.slice A1 l.length c1))
    have fin : Hid (ToldF w (facetT xs n a b c) l (ofR xs n a b c).2 (.returned (.tuple #[.agg #[.int .i64 t.a, .int .i64 t.b, .int .i64 t.c, .slice A1 l.length c1], .int .i64 0])) ((((w2.setCell ⟨w.heap.size + 1, 0, none⟩ (.int .i64 t.a)).setCell ⟨w.heap.size + 1, 1, none⟩ (.int .i64 t.b)).setCell ⟨w.heap.size + 1, 2, none⟩ (.int .i64 t.c)).setCell ⟨w.heap.size + 1, 3, none⟩ (.slice A1 l.length c1))) := Lib.hid (by
      rw [hR.out, hF.out]
      exact told_set4 A1 c1 HT2.out hA2.out MF.out.below)
    replace MB := MF
    clear MF HT2 hA2
    go_wp2
    obtain ⟨d0, d1, d2, d3, _⟩ := cellsF MB.out.head
    refine bodyPost_ret (v := .tuple #[.agg #[.int .i64 t.a, .int .i64 t.b, .int .i64 t.c, .slice A1 l.length c1], .int .i64 0]) ?_ rfl ?_
    · simp [results, Try.results71, go_sem, d0, d1, d2, d3]
    · exact fin.out
  · have hR : Hid (ofR xs n a b c = ([], checkR xs n a b c)) := Lib.hid (by unfold ofR; rw [if_pos hk])
    have hF : Hid (facetT xs n a b c = ⟨0, 0, 0⟩) := Lib.hid (by unfold facetT; rw [if_pos hk])
    have e1 : (checkR xs n a b c != 0) = true := by simpa using hk
    rw [hR.out] at ko
    rw [hR.out]
    generalize checkR xs n a b c = r at *
    clear hk
    simp only at ko
    have fin : Hid (∀ W, Below w.heap.size w W → ToldF w (facetT xs n a b c) ([] : List Int) r (.returned (.tuple #[.agg #[.int .i64 0, .int .i64 0, .int .i64 0, .slice none 0 0], .int .i64 r])) W) := Lib.hid (fun W hW => by
      rw [hF.out]
      exact ⟨none, 0, rfl, Nat.le_refl _, by decide, Rd.nil, fun h => absurd h (by simp), hW⟩)
    go_enter Try.func71, Try.ntmps71
    go_wp2_with fail
    refine ko.out.mono ?_
    rintro e w1 ⟨A1, c1, rfl, h1, h2, h3, h4, h5⟩
    replace MB := Lib.hid (MB.out.next h5)
    clear h1 h2 h3 h4 h5 ko d0 d1 d2
    obtain ⟨g0, g1, g2, g3, f0, f1, f2, f3⟩ := cellsF MB.out.head
    have MF : Hid (Mem w [(w.heap.size + 1, oF ⟨0, 0, 0⟩ (.slice none 0 0)), (w.heap.size, o3 a b c 50)] _) := Lib.hid ((((MB.out.set hAp.out (by omega) 0 (.int .i64 0)).set hAp.out (by omega) 1 (.int .i64 0)).set hAp.out (by omega) 2 (.int .i64 0)).set hAp.out (by omega) 3 (.slice none 0 0))
    replace MB := MF
    clear MF
    go_wp2
    obtain ⟨d0, d1, d2, d3, _⟩ := cellsF MB.out.head
    exact bodyPost_ret (v := .tuple #[.agg #[.int .i64 0, .int .i64 0, .int .i64 0, .slice none 0 0], .int .i64 r]) (by simp [results, Try.results71, go_sem, d0, d1, d2, d3]) rfl (fin.out _ MB.out.below)

set_option maxHeartbeats 4000000 in
set_option maxRecDepth 100000 in
theorem refFacet_any (A : Option Addr) (n c' : Nat) (xs : List T3) (a b c : Int) (w : World) (ha : RdT 0 w A xs) (hn : xs.length = n) (hn2 : n ≤ 9223372036854775807) :
    Calls Try.prog 72 #[.slice A n c', .agg #[.int .i64 a, .int .i64 b, .int .i64 c]] w (ToldF w (facetT xs n a b c) (ofR xs n a b c).1 (ofR xs n a b c).2) := by
  have M0 : Mem w [(w.heap.size + 1, oF ⟨0, 0, 0⟩ (.slice none 0 0)), (w.heap.size, o3 a b c 50)] ((w.alloc (o3 a b c 50)).alloc (oF ⟨0, 0, 0⟩ (.slice none 0 0))) := by
    have h := ((Mem.nil w).add (o3 a b c 50)).add (oF ⟨0, 0, 0⟩ (.slice none 0 0))
    simp only [World.size_alloc] at h
    exact h
  have MB := Lib.hid M0
  have ko := Lib.hid (refConfOf_any A n c' xs a b c ((w.alloc (o3 a b c 50)).alloc (oF ⟨0, 0, 0⟩ (.slice none 0 0))) (ha.below M0.below (Nat.le_refl _)) hn hn2)
  have hAp : Hid (Apart (w.heap.size + 1) [(w.heap.size, o3 a b c 50)]) := Lib.hid (fun p hp => by simp at hp; rw [hp]; simp only; omega)
  clear M0 ha
  obtain ⟨d0, d1, d2, _⟩ := row3 MB.out.tail.head
  by_cases hk : checkR xs n a b c = 0
  · have hR : Hid ((ofR xs n a b c).2 = 0) := Lib.hid (by unfold ofR; rw [if_neg (by simpa using hk)])
    have hF : Hid (facetT xs n a b c = canon ⟨a, b, c⟩) := Lib.hid (by unfold facetT; rw [if_neg (by simpa using hk)])
    clear hk
    rw [hR.out] at ko
    generalize (ofR xs n a b c).1 = l at *
    go_enter Try.func72, Try.ntmps72
    go_wp2_with fail
    refine ko.out.mono ?_
    rintro e w1 ⟨A1, c1, rfl, h1, h2, h3, h4, h5⟩
    have HT := Lib.hid (And.intro h1 (And.intro h2 (And.intro (h3.low (Nat.le_trans (by simp; omega) (Nat.le_refl _) : w.heap.size ≤ _)) h4)))
    have hA1 : Hid (∀ g o, A1 = some ⟨g, o, none⟩ → 0 < l.length → w.heap.size + 2 ≤ g ∧ g < w1.heap.size) := Lib.hid (fun g o e hl => by
      obtain ⟨b', off', e', p1, p2, _⟩ := h3 hl
      rw [e] at e'
      injection e' with e'
      injection e' with e1 _
      subst e1
      simp at p1
      exact ⟨by omega, p2⟩)
    replace MB := Lib.hid (MB.out.next h5)
    clear h1 h2 h3 h4 h5 ko d0 d1 d2
    obtain ⟨d0, d1, d2, _⟩ := row3 MB.out.tail.head
    go_wp2_with fail
    refine (refCanon_any _ _ _ _).mono ?_
    rintro e w2 ⟨rfl, hb⟩
    have HT2 : Hid (l.length ≤ c1 ∧ c1 ≤ maxLen ∧ Rd encI w.heap.size w2 A1 l ∧ (0 < l.length → Fr w2 A1 l.length)) := Lib.hid ⟨HT.out.1, HT.out.2.1, HT.out.2.2.1.below hb (Nat.le_refl _), fun hl => HT.out.2.2.2.below hb (fun g o e => (hA1.out g o e hl).2)⟩
    replace MB := Lib.hid (MB.out.next hb)
    have hA2 : Hid (∀ g o, A1 = some ⟨g, o, none⟩ → 0 < l.length → w.heap.size + 2 ≤ g ∧ g < w2.heap.size) := Lib.hid (fun g o e hl => ⟨(hA1.out g o e hl).1, Nat.lt_of_lt_of_le (hA1.out g o e hl).2 hb.size⟩)
    clear hb HT hA1
    (try clear d0 d1 d2)
    generalize canon ⟨a, b, c⟩ = t at *
    obtain ⟨e0, e1, e2, e3, f0, f1, f2, f3⟩ := cellsF MB.out.head
    have MF : Hid (Mem w [(w.heap.size + 1, oF t (.slice A1 l.length c1)), (w.heap.size, o3 a b c 50)] _) := Lib.hid ((((MB.out.set hAp.out (by omega) 0 (.int .i64 t.a)).set hAp.out (by omega) 1 (.int .i64 t.b)).set hAp.out (by omega) 2 (.int .i64 t.c)).set hAp.out (by omega) 3 (.slice A1 l.length c1))
    have fin : Hid (ToldF w (facetT xs n a b c) l (ofR xs n a b c).2 (.returned (.tuple #[.agg #[.int .i64 t.a, .int .i64 t.b, .int .i64 t.c, .slice A1 l.length c1], .int .i64 0])) ((((w2.setCell ⟨w.heap.size + 1, 0, none⟩ (.int .i64 t.a)).setCell ⟨w.heap.size + 1, 1, none⟩ (.int .i64 t.b)).setCell ⟨w.heap.size + 1, 2, none⟩ (.int .i64 t.c)).setCell ⟨w.heap.size + 1, 3, none⟩ (.slice A1 l.length c1))) := Lib.hid (by
      rw [hR.out, hF.out]
      exact told_set4 A1 c1 HT2.out hA2.out MF.out.below)
    replace MB := MF
    clear MF HT2 hA2
    go_wp2
    obtain ⟨d0, d1, d2, d3, _⟩ := cellsF MB.out.head
    refine bodyPost_ret (v := .tuple #[.agg #[.int .i64 t.a, .int .i64 t.b, .int .i64 t.c, .slice A1 l.length c1], .int .i64 0]) ?_ rfl ?_
    · simp [results, Try.results72, go_sem, d0, d1, d2, d3]
    · exact fin.out
  · have hR : Hid (ofR xs n a b c = ([], checkR xs n a b c)) := Lib.hid (by unfold ofR; rw [if_pos hk])
    have hF : Hid (facetT xs n a b c = ⟨0, 0, 0⟩) := Lib.hid (by unfold facetT; rw [if_pos hk])
    have e1 : (checkR xs n a b c != 0) = true := by simpa using hk
    rw [hR.out] at ko
    rw [hR.out]
    generalize checkR xs n a b c = r at *
    clear hk
    simp only at ko
    have fin : Hid (∀ W, Below w.heap.size w W → ToldF w (facetT xs n a b c) ([] : List Int) r (.returned (.tuple #[.agg #[.int .i64 0, .int .i64 0, .int .i64 0, .slice none 0 0], .int .i64 r])) W) := Lib.hid (fun W hW => by
      rw [hF.out]
      exact ⟨none, 0, rfl, Nat.le_refl _, by decide, Rd.nil, fun h => absurd h (by simp), hW⟩)
    go_enter Try.func72, Try.ntmps72
    go_wp2_with fail
    refine ko.out.mono ?_
    rintro e w1 ⟨A1, c1, rfl, h1, h2, h3, h4, h5⟩
    replace MB := Lib.hid (MB.out.next h5)
    clear h1 h2 h3 h4 h5 ko d0 d1 d2
    obtain ⟨g0, g1, g2, g3, f0, f1, f2, f3⟩ := cellsF MB.out.head
    have MF : Hid (Mem w [(w.heap.size + 1, oF ⟨0, 0, 0⟩ (.slice none 0 0)), (w.heap.size, o3 a b c 50)] _) := Lib.hid ((((MB.out.set hAp.out (by omega) 0 (.int .i64 0)).set hAp.out (by omega) 1 (.int .i64 0)).set hAp.out (by omega) 2 (.int .i64 0)).set hAp.out (by omega) 3 (.slice none 0 0))
    replace MB := MF
    clear MF
    go_wp2
    obtain ⟨d0, d1, d2, d3, _⟩ := cellsF MB.out.head
    exact bodyPost_ret (v := .tuple #[.agg #[.int .i64 0, .int .i64 0, .int .i64 0, .slice none 0 0], .int .i64 r]) (by simp [results, Try.results72, go_sem, d0, d1, d2, d3]) rfl (fin.out _ MB.out.below)

end Go.Proofs.Ytojecaeblgghjaa
